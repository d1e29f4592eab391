/-
  Parts of the proof of ProcRight: Vtab, Vlib, Vset, M1, M2, M3, Vshelf, M4, D1, D3, N1, N2.
  Conditions: none.
-/
import Derived.Test.YtpdhdkpebbfnnaaProg
import Derived.Test.YtpdhdkpebbfnnaaWProcRight03
import Derived.IntWalk
import Derived.Lib.EndianBits
import Derived.Shelf.Strings.Builder1
import Derived.Shelf.Strings.Builder2
import Derived.Shelf.Strings.BuilderF
import Derived.Shelf.Strings.BuilderK
import Derived.Shelf.Strings.Builder2Cap
import Derived.Shelf.Strings.Prefix
import Derived.Shelf.Bits.Mul64
import Derived.Shelf.Strings.Repeat
import Derived.Shelf.Strings.BuilderCap
set_option linter.unusedVariables false
set_option linter.unusedSimpArgs false
set_option linter.unusedSectionVars false
set_option linter.defProp false
section
namespace Go.Proofs.Ytpdhdkpebbfnnaa.V
open Go
theorem tab_0 : SH Try.prog 1 = some .cell ∧ SH Try.prog 2 = some .cell ∧ SH Try.prog 3 = some .cell ∧ SH Try.prog 4 = some .cell ∧ SH Try.prog 5 = some .cell ∧ SH Try.prog 9 = some .cell ∧ SH Try.prog 12 = some .cell ∧ SH Try.prog 13 = some (.st [.cell, .cell]) ∧ SH Try.prog 20 = some .cell ∧ SH Try.prog 21 = some .cell ∧ SH Try.prog 22 = some .cell ∧ SH Try.prog 23 = some .cell ∧ SH Try.prog 24 = some .cell ∧ SH Try.prog 25 = some .cell ∧ SH Try.prog 26 = some .cell ∧ SH Try.prog 27 = some (.st [.cell, .cell, .cell]) ∧ SH Try.prog 28 = some (.st [.cell, .cell, .cell]) ∧ SH Try.prog 29 = some (.st [.cell, .cell, .cell, .cell, .cell, .cell, .cell, .cell, .cell, .cell, .cell, .cell, .cell, (.st [.cell, .cell, .cell]), .cell]) ∧ SH Try.prog 30 = some (.st [.cell, .cell, .cell, .cell, .cell, .cell, .cell, .cell, .cell, .cell, .cell, .cell, .cell, (.st [.cell, .cell, .cell]), .cell]) ∧ SH Try.prog 31 = some .cell ∧ SH Try.prog 32 = some .cell ∧ SH Try.prog 33 = some (.st [.cell, .cell, .cell, .cell]) ∧ SH Try.prog 34 = some (.st [.cell, .cell, .cell, .cell]) ∧ SH Try.prog 35 = some (.st [.cell, .cell, .cell]) ∧ SH Try.prog 36 = some (.st [.cell, .cell, .cell]) ∧ SH Try.prog 37 = some .cell ∧ SH Try.prog 39 = some .cell ∧ SH Try.prog 40 = some .cell ∧ SH Try.prog 45 = some .cell ∧ SH Try.prog 48 = some .cell ∧ SH Try.prog 54 = some (.arr 16 .cell) ∧ SH Try.prog 55 = some (.st [(.arr 16 .cell), .cell]) ∧ SH Try.prog 56 = some (.st [(.arr 16 .cell), .cell]) ∧ SH Try.prog 57 = some (.st [.cell, .cell, .cell]) ∧ SH Try.prog 58 = some (.st [.cell, .cell, .cell]) ∧ SH Try.prog 59 = some (.arr 16 (.st [.cell, .cell, .cell])) ∧ SH Try.prog 60 = some (.arr 16 (.st [.cell, .cell, .cell])) ∧ SH Try.prog 61 = some (.arr 8 (.st [.cell, .cell, .cell])) ∧ SH Try.prog 62 = some (.st [.cell, .cell, .cell, (.st [(.arr 16 .cell), .cell]), (.arr 16 (.st [.cell, .cell, .cell])), (.arr 8 (.st [.cell, .cell, .cell])), .cell, .cell, .cell, .cell]) ∧ SH Try.prog 63 = some (.st [.cell, .cell, .cell, (.st [(.arr 16 .cell), .cell]), (.arr 16 (.st [.cell, .cell, .cell])), (.arr 8 (.st [.cell, .cell, .cell])), .cell, .cell, .cell, .cell]) := by
 refine ⟨(by kernel_rfl), (by kernel_rfl), (by kernel_rfl), (by kernel_rfl), (by kernel_rfl), (by kernel_rfl), (by kernel_rfl), (by kernel_rfl), (by kernel_rfl), (by kernel_rfl), (by kernel_rfl), (by kernel_rfl), (by kernel_rfl), (by kernel_rfl), (by kernel_rfl), (by kernel_rfl), (by kernel_rfl), (by kernel_rfl), (by kernel_rfl), (by kernel_rfl), (by kernel_rfl), (by kernel_rfl), (by kernel_rfl), (by kernel_rfl), (by kernel_rfl), (by kernel_rfl), (by kernel_rfl), (by kernel_rfl), (by kernel_rfl), (by kernel_rfl), (by kernel_rfl), (by kernel_rfl), (by kernel_rfl), (by kernel_rfl), (by kernel_rfl), (by kernel_rfl), (by kernel_rfl), (by kernel_rfl), (by kernel_rfl), (by kernel_rfl)⟩
theorem tab_1 : SH Try.prog 69 = some .cell ∧ SH Try.prog 71 = some .cell ∧ SH Try.prog 74 = some (.st [.cell, .cell, .cell]) ∧ SH Try.prog 75 = some (.st [.cell, .cell, .cell]) ∧ SH Try.prog 81 = some (.st [.cell, .cell]) ∧ SH Try.prog 82 = some (.st [.cell, .cell]) ∧ SH Try.prog 83 = some .cell ∧ SH Try.prog 84 = some (.st [.cell, .cell]) ∧ SH Try.prog 85 = some (.st [.cell, .cell]) ∧ SH Try.prog 87 = some .cell ∧ SH Try.prog 92 = some .cell ∧ SH Try.prog 94 = some .cell ∧ SH Try.prog 97 = some .cell ∧ SH Try.prog 98 = some .cell ∧ SH Try.prog 99 = some .cell ∧ SH Try.prog 100 = some .cell ∧ SH Try.prog 101 = some .cell ∧ SH Try.prog 102 = some .cell ∧ SH Try.prog 103 = some .cell ∧ SH Try.prog 104 = some .cell ∧ SH Try.prog 106 = some .cell ∧ SH Try.prog 107 = some .cell ∧ SH Try.prog 108 = some .cell ∧ SH Try.prog 109 = some .cell ∧ SH Try.prog 110 = some .cell ∧ SH Try.prog 111 = some .cell ∧ SH Try.prog 112 = some .cell ∧ SH Try.prog 113 = some .cell ∧ SH Try.prog 114 = some .cell ∧ SH Try.prog 115 = some .cell ∧ SH Try.prog 116 = some .cell ∧ SH Try.prog 118 = some .cell ∧ SH Try.prog 119 = some .cell ∧ SH Try.prog 120 = some .cell ∧ SH Try.prog 127 = some .cell ∧ SH Try.prog 128 = some .cell ∧ SH Try.prog 129 = some .cell ∧ SH Try.prog 130 = some .cell ∧ SH Try.prog 132 = some .cell ∧ SH Try.prog 133 = some .cell := by
 refine ⟨(by kernel_rfl), (by kernel_rfl), (by kernel_rfl), (by kernel_rfl), (by kernel_rfl), (by kernel_rfl), (by kernel_rfl), (by kernel_rfl), (by kernel_rfl), (by kernel_rfl), (by kernel_rfl), (by kernel_rfl), (by kernel_rfl), (by kernel_rfl), (by kernel_rfl), (by kernel_rfl), (by kernel_rfl), (by kernel_rfl), (by kernel_rfl), (by kernel_rfl), (by kernel_rfl), (by kernel_rfl), (by kernel_rfl), (by kernel_rfl), (by kernel_rfl), (by kernel_rfl), (by kernel_rfl), (by kernel_rfl), (by kernel_rfl), (by kernel_rfl), (by kernel_rfl), (by kernel_rfl), (by kernel_rfl), (by kernel_rfl), (by kernel_rfl), (by kernel_rfl), (by kernel_rfl), (by kernel_rfl), (by kernel_rfl), (by kernel_rfl)⟩
theorem tab_2 : SH Try.prog 134 = some .cell ∧ SH Try.prog 135 = some (.st [.cell, .cell]) ∧ SH Try.prog 136 = some (.st [.cell, .cell]) ∧ SH Try.prog 137 = some .cell ∧ SH Try.prog 138 = some .cell ∧ SH Try.prog 139 = some .cell ∧ SH Try.prog 141 = some .cell ∧ SH Try.prog 142 = some .cell ∧ SH Try.prog 144 = some .cell ∧ SH Try.prog 148 = some .cell ∧ SH Try.prog 149 = some .cell ∧ SH Try.prog 151 = some .cell ∧ SH Try.prog 152 = some .cell ∧ SH Try.prog 153 = some .cell ∧ SH Try.prog 154 = some .cell ∧ SH Try.prog 155 = some .cell ∧ SH Try.prog 158 = some .cell ∧ SH Try.prog 159 = some .cell ∧ SH Try.prog 160 = some .cell ∧ SH Try.prog 163 = some .cell ∧ SH Try.prog 168 = some (.st [.cell, .cell, .cell, .cell, .cell, .cell]) ∧ SH Try.prog 169 = some (.st [.cell, .cell, .cell, .cell, .cell, .cell]) ∧ SH Try.prog 171 = some .cell ∧ SH Try.prog 173 = some .cell ∧ SH Try.prog 175 = some .cell ∧ SH Try.prog 176 = some .cell ∧ SH Try.prog 177 = some .cell ∧ SH Try.prog 178 = some .cell ∧ SH Try.prog 180 = some .cell ∧ SH Try.prog 181 = some (.arr 8 .cell) ∧ SH Try.prog 183 = some .cell ∧ SH Try.prog 184 = some .cell ∧ SH Try.prog 185 = some .cell ∧ SH Try.prog 186 = some .cell ∧ SH Try.prog 191 = some .cell ∧ SH Try.prog 199 = some .cell ∧ ZE Try.prog 1 = some (.raw .nilFunc) ∧ ZE Try.prog 2 = some (.int .i64 0) ∧ ZE Try.prog 3 = some (.int .i64 0) ∧ ZE Try.prog 4 = some (.bool false) := by
 refine ⟨(by kernel_rfl), (by kernel_rfl), (by kernel_rfl), (by kernel_rfl), (by kernel_rfl), (by kernel_rfl), (by kernel_rfl), (by kernel_rfl), (by kernel_rfl), (by kernel_rfl), (by kernel_rfl), (by kernel_rfl), (by kernel_rfl), (by kernel_rfl), (by kernel_rfl), (by kernel_rfl), (by kernel_rfl), (by kernel_rfl), (by kernel_rfl), (by kernel_rfl), (by kernel_rfl), (by kernel_rfl), (by kernel_rfl), (by kernel_rfl), (by kernel_rfl), (by kernel_rfl), (by kernel_rfl), (by kernel_rfl), (by kernel_rfl), (by kernel_rfl), (by kernel_rfl), (by kernel_rfl), (by kernel_rfl), (by kernel_rfl), (by kernel_rfl), (by kernel_rfl), (by kernel_rfl), (by kernel_rfl), (by kernel_rfl), (by kernel_rfl)⟩
theorem tab_3 : ZE Try.prog 5 = some (.int .u8 0) ∧ ZE Try.prog 9 = some (.str []) ∧ ZE Try.prog 12 = some (.int .u64 0) ∧ ZE Try.prog 13 = some (.agg [(.str []), (.int .u64 0)]) ∧ ZE Try.prog 20 = some (.raw .nilIface) ∧ ZE Try.prog 21 = some (.int .i32 0) ∧ ZE Try.prog 22 = some (.int .u64 0) ∧ ZE Try.prog 23 = some (.sl none 0) ∧ ZE Try.prog 24 = some (.sl none 0) ∧ ZE Try.prog 25 = some (.sl none 0) ∧ ZE Try.prog 26 = some (.sl none 0) ∧ ZE Try.prog 27 = some (.agg [(.sl none 0), (.sl none 0), (.int .i64 0)]) ∧ ZE Try.prog 28 = some (.agg [(.sl none 0), (.sl none 0), (.int .i64 0)]) ∧ ZE Try.prog 29 = some (.agg [(.int .u64 0), (.int .i64 0), (.int .i64 0), (.int .i64 0), (.sl none 0), (.sl none 0), (.int .i64 0), (.str []), (.sl none 0), (.int .i64 0), (.str []), (.bool false), (.int .u64 0), (.agg [(.sl none 0), (.sl none 0), (.int .i64 0)]), (.sl none 0)]) ∧ ZE Try.prog 30 = some (.agg [(.int .u64 0), (.int .i64 0), (.int .i64 0), (.int .i64 0), (.sl none 0), (.sl none 0), (.int .i64 0), (.str []), (.sl none 0), (.int .i64 0), (.str []), (.bool false), (.int .u64 0), (.agg [(.sl none 0), (.sl none 0), (.int .i64 0)]), (.sl none 0)]) ∧ ZE Try.prog 31 = some (.sl none 0) ∧ ZE Try.prog 32 = some (.int .u32 0) ∧ ZE Try.prog 33 = some (.agg [(.sl none 0), (.str []), (.int .i64 0), (.int .u32 0)]) ∧ ZE Try.prog 34 = some (.agg [(.sl none 0), (.str []), (.int .i64 0), (.int .u32 0)]) ∧ ZE Try.prog 35 = some (.agg [(.int .i64 0), (.int .i64 0), (.int .i64 0)]) ∧ ZE Try.prog 36 = some (.agg [(.int .i64 0), (.int .i64 0), (.int .i64 0)]) ∧ ZE Try.prog 37 = some (.raw .nilFunc) ∧ ZE Try.prog 39 = some (.raw .nilFunc) ∧ ZE Try.prog 40 = some (.int .i64 0) ∧ ZE Try.prog 45 = some (.sl none 0) ∧ ZE Try.prog 48 = some (.raw .nilFunc) ∧ ZE Try.prog 54 = some (.agg (List.replicate 16 (.int .u32 0))) ∧ ZE Try.prog 55 = some (.agg [(.agg (List.replicate 16 (.int .u32 0))), (.int .u32 0)]) ∧ ZE Try.prog 56 = some (.agg [(.agg (List.replicate 16 (.int .u32 0))), (.int .u32 0)]) ∧ ZE Try.prog 57 = some (.agg [(.bool false), (.bool false), (.int .i64 0)]) ∧ ZE Try.prog 58 = some (.agg [(.bool false), (.bool false), (.int .i64 0)]) ∧ ZE Try.prog 59 = some (.agg (List.replicate 16 (.agg [(.bool false), (.bool false), (.int .i64 0)]))) ∧ ZE Try.prog 60 = some (.agg (List.replicate 16 (.agg [(.bool false), (.bool false), (.int .i64 0)]))) ∧ ZE Try.prog 61 = some (.agg (List.replicate 8 (.agg [(.int .i64 0), (.int .i64 0), (.int .i64 0)]))) ∧ ZE Try.prog 62 = some (.agg [(.int .i64 0), (.int .i64 0), (.int .i64 0), (.agg [(.agg (List.replicate 16 (.int .u32 0))), (.int .u32 0)]), (.agg (List.replicate 16 (.agg [(.bool false), (.bool false), (.int .i64 0)]))), (.agg (List.replicate 8 (.agg [(.int .i64 0), (.int .i64 0), (.int .i64 0)]))), (.bool false), (.int .u32 0), (.int .i64 0), (.int .u64 0)]) ∧ ZE Try.prog 63 = some (.agg [(.int .i64 0), (.int .i64 0), (.int .i64 0), (.agg [(.agg (List.replicate 16 (.int .u32 0))), (.int .u32 0)]), (.agg (List.replicate 16 (.agg [(.bool false), (.bool false), (.int .i64 0)]))), (.agg (List.replicate 8 (.agg [(.int .i64 0), (.int .i64 0), (.int .i64 0)]))), (.bool false), (.int .u32 0), (.int .i64 0), (.int .u64 0)]) ∧ ZE Try.prog 69 = some (.sl none 0) ∧ ZE Try.prog 71 = some (.raw .nilFunc) ∧ ZE Try.prog 74 = some (.agg [(.int .i64 0), (.str []), (.bool false)]) ∧ ZE Try.prog 75 = some (.agg [(.int .i64 0), (.str []), (.bool false)]) := by
 refine ⟨(by kernel_rfl), (by kernel_rfl), (by kernel_rfl), (by kernel_rfl), (by kernel_rfl), (by kernel_rfl), (by kernel_rfl), (by kernel_rfl), (by kernel_rfl), (by kernel_rfl), (by kernel_rfl), (by kernel_rfl), (by kernel_rfl), (by kernel_rfl), (by kernel_rfl), (by kernel_rfl), (by kernel_rfl), (by kernel_rfl), (by kernel_rfl), (by kernel_rfl), (by kernel_rfl), (by kernel_rfl), (by kernel_rfl), (by kernel_rfl), (by kernel_rfl), (by kernel_rfl), (by kernel_rfl), (by kernel_rfl), (by kernel_rfl), (by kernel_rfl), (by kernel_rfl), (by kernel_rfl), (by kernel_rfl), (by kernel_rfl), (by kernel_rfl), (by kernel_rfl), (by kernel_rfl), (by kernel_rfl), (by kernel_rfl), (by kernel_rfl)⟩
theorem tab_4 : ZE Try.prog 81 = some (.agg [(.int .i64 0), (.str [])]) ∧ ZE Try.prog 82 = some (.agg [(.int .i64 0), (.str [])]) ∧ ZE Try.prog 83 = some (.raw .nilFunc) ∧ ZE Try.prog 84 = some (.agg [(.int .i64 0), (.str [])]) ∧ ZE Try.prog 85 = some (.agg [(.int .i64 0), (.str [])]) ∧ ZE Try.prog 87 = some (.raw (.map none)) ∧ ZE Try.prog 92 = some (.raw .nilFunc) ∧ ZE Try.prog 94 = some (.raw (.pointer none)) ∧ ZE Try.prog 97 = some (.raw .nilFunc) ∧ ZE Try.prog 98 = some (.raw .nilFunc) ∧ ZE Try.prog 99 = some (.raw (.pointer none)) ∧ ZE Try.prog 100 = some (.raw .nilFunc) ∧ ZE Try.prog 101 = some (.raw .nilFunc) ∧ ZE Try.prog 102 = some (.raw (.map none)) ∧ ZE Try.prog 103 = some (.sl none 0) ∧ ZE Try.prog 104 = some (.raw .nilFunc) ∧ ZE Try.prog 106 = some (.raw .nilFunc) ∧ ZE Try.prog 107 = some (.raw .nilFunc) ∧ ZE Try.prog 108 = some (.raw .nilFunc) ∧ ZE Try.prog 109 = some (.raw .nilFunc) ∧ ZE Try.prog 110 = some (.sl none 0) ∧ ZE Try.prog 111 = some (.raw .nilFunc) ∧ ZE Try.prog 112 = some (.raw .nilFunc) ∧ ZE Try.prog 113 = some (.raw .nilFunc) ∧ ZE Try.prog 114 = some (.raw .nilFunc) ∧ ZE Try.prog 115 = some (.raw .nilFunc) ∧ ZE Try.prog 116 = some (.sl none 0) ∧ ZE Try.prog 118 = some (.raw .nilFunc) ∧ ZE Try.prog 119 = some (.raw .nilFunc) ∧ ZE Try.prog 120 = some (.raw .nilFunc) ∧ ZE Try.prog 127 = some (.sl none 0) ∧ ZE Try.prog 128 = some (.sl none 0) ∧ ZE Try.prog 129 = some (.sl none 0) ∧ ZE Try.prog 130 = some (.int .u64 0) ∧ ZE Try.prog 132 = some (.raw .nilFunc) ∧ ZE Try.prog 133 = some (.raw .nilFunc) ∧ ZE Try.prog 134 = some (.raw (.pointer none)) ∧ ZE Try.prog 135 = some (.agg [(.raw (.pointer none)), (.sl none 0)]) ∧ ZE Try.prog 136 = some (.agg [(.raw (.pointer none)), (.sl none 0)]) ∧ ZE Try.prog 137 = some (.raw .nilFunc) := by
 refine ⟨(by kernel_rfl), (by kernel_rfl), (by kernel_rfl), (by kernel_rfl), (by kernel_rfl), (by kernel_rfl), (by kernel_rfl), (by kernel_rfl), (by kernel_rfl), (by kernel_rfl), (by kernel_rfl), (by kernel_rfl), (by kernel_rfl), (by kernel_rfl), (by kernel_rfl), (by kernel_rfl), (by kernel_rfl), (by kernel_rfl), (by kernel_rfl), (by kernel_rfl), (by kernel_rfl), (by kernel_rfl), (by kernel_rfl), (by kernel_rfl), (by kernel_rfl), (by kernel_rfl), (by kernel_rfl), (by kernel_rfl), (by kernel_rfl), (by kernel_rfl), (by kernel_rfl), (by kernel_rfl), (by kernel_rfl), (by kernel_rfl), (by kernel_rfl), (by kernel_rfl), (by kernel_rfl), (by kernel_rfl), (by kernel_rfl), (by kernel_rfl)⟩
theorem tab_5 : ZE Try.prog 138 = some (.raw .nilIface) ∧ ZE Try.prog 139 = some (.raw .nilIface) ∧ ZE Try.prog 141 = some (.raw .nilFunc) ∧ ZE Try.prog 142 = some (.raw .nilFunc) ∧ ZE Try.prog 144 = some (.raw .nilFunc) ∧ ZE Try.prog 148 = some (.raw .nilFunc) ∧ ZE Try.prog 149 = some (.raw .nilFunc) ∧ ZE Try.prog 151 = some (.raw .nilFunc) ∧ ZE Try.prog 152 = some (.raw .nilFunc) ∧ ZE Try.prog 153 = some (.raw .nilFunc) ∧ ZE Try.prog 154 = some (.raw .nilFunc) ∧ ZE Try.prog 155 = some (.raw .nilFunc) ∧ ZE Try.prog 158 = some (.raw .nilFunc) ∧ ZE Try.prog 159 = some (.raw .nilFunc) ∧ ZE Try.prog 160 = some (.raw .nilFunc) ∧ ZE Try.prog 163 = some (.raw .nilFunc) ∧ ZE Try.prog 168 = some (.agg (List.replicate 6 (.int .i64 0))) ∧ ZE Try.prog 169 = some (.agg (List.replicate 6 (.int .i64 0))) ∧ ZE Try.prog 171 = some (.raw .nilFunc) ∧ ZE Try.prog 173 = some (.raw .nilFunc) ∧ ZE Try.prog 175 = some (.raw .nilFunc) ∧ ZE Try.prog 176 = some (.raw (.pointer none)) ∧ ZE Try.prog 177 = some (.raw .nilFunc) ∧ ZE Try.prog 178 = some (.raw .nilFunc) ∧ ZE Try.prog 180 = some (.raw .nilFunc) ∧ ZE Try.prog 181 = some (.agg (List.replicate 8 (.int .u8 0))) ∧ ZE Try.prog 183 = some (.raw .nilFunc) ∧ ZE Try.prog 185 = some (.raw .nilFunc) ∧ ZE Try.prog 186 = some (.raw .nilFunc) ∧ ZE Try.prog 191 = some (.raw .nilFunc) ∧ ZE Try.prog 199 = some (.raw .nilFunc) ∧ EL Try.prog 23 = some 9 ∧ EL Try.prog 24 = some 63 ∧ EL Try.prog 25 = some 82 ∧ EL Try.prog 26 = some 85 ∧ EL Try.prog 31 = some 32 ∧ EL Try.prog 45 = some 3 ∧ EL Try.prog 69 = some 75 ∧ EL Try.prog 103 = some 58 ∧ EL Try.prog 110 = some 36 := by
 refine ⟨(by kernel_rfl), (by kernel_rfl), (by kernel_rfl), (by kernel_rfl), (by kernel_rfl), (by kernel_rfl), (by kernel_rfl), (by kernel_rfl), (by kernel_rfl), (by kernel_rfl), (by kernel_rfl), (by kernel_rfl), (by kernel_rfl), (by kernel_rfl), (by kernel_rfl), (by kernel_rfl), (by kernel_rfl), (by kernel_rfl), (by kernel_rfl), (by kernel_rfl), (by kernel_rfl), (by kernel_rfl), (by kernel_rfl), (by kernel_rfl), (by kernel_rfl), (by kernel_rfl), (by kernel_rfl), (by kernel_rfl), (by kernel_rfl), (by kernel_rfl), (by kernel_rfl), (by kernel_rfl), (by kernel_rfl), (by kernel_rfl), (by kernel_rfl), (by kernel_rfl), (by kernel_rfl), (by kernel_rfl), (by kernel_rfl), (by kernel_rfl)⟩
theorem tab_6 : EL Try.prog 116 = some 5 ∧ EL Try.prog 127 = some 23 ∧ EL Try.prog 128 = some 26 ∧ EL Try.prog 129 = some 80 ∧ Try.prog.underlying 2 = some (.int .i64) ∧ Try.prog.underlying 3 = some (.int .i64) ∧ Try.prog.underlying 4 = some .bool ∧ Try.prog.underlying 5 = some (.int .u8) ∧ Try.prog.underlying 9 = some .string ∧ Try.prog.underlying 12 = some (.int .u64) ∧ Try.prog.underlying 21 = some (.int .i32) ∧ Try.prog.underlying 22 = some (.int .u64) ∧ Try.prog.underlying 23 = some (.slice 9) ∧ Try.prog.underlying 24 = some (.slice 63) ∧ Try.prog.underlying 25 = some (.slice 82) ∧ Try.prog.underlying 26 = some (.slice 85) ∧ Try.prog.underlying 31 = some (.slice 32) ∧ Try.prog.underlying 32 = some (.int .u32) ∧ Try.prog.underlying 40 = some (.int .i64) ∧ Try.prog.underlying 45 = some (.slice 3) ∧ Try.prog.underlying 54 = some (.array 16 32) ∧ Try.prog.underlying 59 = some (.array 16 58) ∧ Try.prog.underlying 60 = some (.array 16 58) ∧ Try.prog.underlying 61 = some (.array 8 36) ∧ Try.prog.underlying 69 = some (.slice 75) ∧ Try.prog.underlying 87 = some (.map 3 3) ∧ Try.prog.underlying 94 = some (.pointer 30) ∧ Try.prog.underlying 99 = some (.pointer 63) ∧ Try.prog.underlying 102 = some (.map 3 4) ∧ Try.prog.underlying 103 = some (.slice 58) ∧ Try.prog.underlying 110 = some (.slice 36) ∧ Try.prog.underlying 116 = some (.slice 5) ∧ Try.prog.underlying 127 = some (.slice 23) ∧ Try.prog.underlying 128 = some (.slice 26) ∧ Try.prog.underlying 129 = some (.slice 80) ∧ Try.prog.underlying 130 = some (.int .u64) ∧ Try.prog.underlying 134 = some (.pointer 136) ∧ Try.prog.underlying 176 = some (.pointer 5) ∧ Try.prog.underlying 181 = some (.array 8 5) ∧ BY Try.prog 3 = 8 := by
 refine ⟨(by kernel_rfl), (by kernel_rfl), (by kernel_rfl), (by kernel_rfl), (by kernel_rfl), (by kernel_rfl), (by kernel_rfl), (by kernel_rfl), (by kernel_rfl), (by kernel_rfl), (by kernel_rfl), (by kernel_rfl), (by kernel_rfl), (by kernel_rfl), (by kernel_rfl), (by kernel_rfl), (by kernel_rfl), (by kernel_rfl), (by kernel_rfl), (by kernel_rfl), (by kernel_rfl), (by kernel_rfl), (by kernel_rfl), (by kernel_rfl), (by kernel_rfl), (by kernel_rfl), (by kernel_rfl), (by kernel_rfl), (by kernel_rfl), (by kernel_rfl), (by kernel_rfl), (by kernel_rfl), (by kernel_rfl), (by kernel_rfl), (by kernel_rfl), (by kernel_rfl), (by kernel_rfl), (by kernel_rfl), (by kernel_rfl), (by kernel_rfl)⟩
theorem tab_7 : BY Try.prog 5 = 1 ∧ BY Try.prog 9 = 16 ∧ BY Try.prog 23 = 24 ∧ BY Try.prog 26 = 24 ∧ BY Try.prog 32 = 4 ∧ BY Try.prog 36 = 24 ∧ BY Try.prog 58 = 16 ∧ BY Try.prog 63 = 568 ∧ BY Try.prog 75 = 32 ∧ BY Try.prog 82 = 24 ∧ BY Try.prog 85 = 24 ∧ EQT Try.prog 4 = some .bool ∧ EQT Try.prog 35 = some (.st [(.int .i64), (.int .i64), (.int .i64)]) ∧ EQT Try.prog 36 = some (.st [(.int .i64), (.int .i64), (.int .i64)]) ∧ EQT Try.prog 54 = some (.arr 16 (.int .u32)) ∧ EQT Try.prog 55 = some (.st [(.arr 16 (.int .u32)), (.int .u32)]) ∧ EQT Try.prog 56 = some (.st [(.arr 16 (.int .u32)), (.int .u32)]) ∧ EQT Try.prog 57 = some (.st [.bool, .bool, (.int .i64)]) ∧ EQT Try.prog 58 = some (.st [.bool, .bool, (.int .i64)]) ∧ EQT Try.prog 59 = some (.arr 16 (.st [.bool, .bool, (.int .i64)])) ∧ EQT Try.prog 60 = some (.arr 16 (.st [.bool, .bool, (.int .i64)])) ∧ EQT Try.prog 61 = some (.arr 8 (.st [(.int .i64), (.int .i64), (.int .i64)])) ∧ EQT Try.prog 62 = some (.st [(.int .i64), (.int .i64), (.int .i64), (.st [(.arr 16 (.int .u32)), (.int .u32)]), (.arr 16 (.st [.bool, .bool, (.int .i64)])), (.arr 8 (.st [(.int .i64), (.int .i64), (.int .i64)])), .bool, (.int .u32), (.int .i64), (.int .u64)]) ∧ EQT Try.prog 63 = some (.st [(.int .i64), (.int .i64), (.int .i64), (.st [(.arr 16 (.int .u32)), (.int .u32)]), (.arr 16 (.st [.bool, .bool, (.int .i64)])), (.arr 8 (.st [(.int .i64), (.int .i64), (.int .i64)])), .bool, (.int .u32), (.int .i64), (.int .u64)]) ∧ EQT Try.prog 74 = some (.st [(.int .i64), .str, .bool]) ∧ EQT Try.prog 75 = some (.st [(.int .i64), .str, .bool]) ∧ EQT Try.prog 81 = some (.st [(.int .i64), .str]) ∧ EQT Try.prog 82 = some (.st [(.int .i64), .str]) ∧ EQT Try.prog 84 = some (.st [(.int .i64), .str]) ∧ EQT Try.prog 85 = some (.st [(.int .i64), .str]) ∧ EQT Try.prog 168 = some (.st [(.int .i64), (.int .i64), (.int .i64), (.int .i64), (.int .i64), (.int .i64)]) ∧ EQT Try.prog 169 = some (.st [(.int .i64), (.int .i64), (.int .i64), (.int .i64), (.int .i64), (.int .i64)]) ∧ EQT Try.prog 181 = some (.arr 8 (.int .u8)) ∧ callable Try.prog 3 = true ∧ callable Try.prog 4 = true ∧ callable Try.prog 5 = true ∧ callable Try.prog 6 = true ∧ callable Try.prog 7 = true ∧ callable Try.prog 8 = true ∧ callable Try.prog 9 = true := by
 refine ⟨(by kernel_rfl), (by kernel_rfl), (by kernel_rfl), (by kernel_rfl), (by kernel_rfl), (by kernel_rfl), (by kernel_rfl), (by kernel_rfl), (by kernel_rfl), (by kernel_rfl), (by kernel_rfl), (by kernel_rfl), (by kernel_rfl), (by kernel_rfl), (by kernel_rfl), (by kernel_rfl), (by kernel_rfl), (by kernel_rfl), (by kernel_rfl), (by kernel_rfl), (by kernel_rfl), (by kernel_rfl), (by kernel_rfl), (by kernel_rfl), (by kernel_rfl), (by kernel_rfl), (by kernel_rfl), (by kernel_rfl), (by kernel_rfl), (by kernel_rfl), (by kernel_rfl), (by kernel_rfl), (by kernel_rfl), (by kernel_rfl), (by kernel_rfl), (by kernel_rfl), (by kernel_rfl), (by kernel_rfl), (by kernel_rfl), (by kernel_rfl)⟩
theorem tab_8 : callable Try.prog 10 = true ∧ callable Try.prog 11 = true ∧ callable Try.prog 12 = true ∧ callable Try.prog 13 = true ∧ callable Try.prog 14 = true ∧ callable Try.prog 15 = true ∧ callable Try.prog 16 = true ∧ callable Try.prog 17 = true ∧ callable Try.prog 18 = true ∧ callable Try.prog 19 = true ∧ callable Try.prog 20 = true ∧ callable Try.prog 21 = true ∧ callable Try.prog 22 = true ∧ callable Try.prog 23 = true ∧ callable Try.prog 24 = true ∧ callable Try.prog 25 = true ∧ callable Try.prog 26 = true ∧ callable Try.prog 27 = true ∧ callable Try.prog 28 = true ∧ callable Try.prog 29 = true ∧ callable Try.prog 30 = true ∧ callable Try.prog 31 = true ∧ callable Try.prog 32 = true ∧ callable Try.prog 33 = true ∧ callable Try.prog 34 = true ∧ callable Try.prog 35 = true ∧ callable Try.prog 36 = true ∧ callable Try.prog 37 = true ∧ callable Try.prog 38 = true ∧ callable Try.prog 39 = true ∧ callable Try.prog 40 = true ∧ callable Try.prog 41 = true ∧ callable Try.prog 42 = true ∧ callable Try.prog 43 = true ∧ callable Try.prog 44 = true ∧ callable Try.prog 45 = true ∧ callable Try.prog 46 = true ∧ callable Try.prog 47 = true ∧ callable Try.prog 48 = true ∧ callable Try.prog 49 = true := by
 refine ⟨(by kernel_rfl), (by kernel_rfl), (by kernel_rfl), (by kernel_rfl), (by kernel_rfl), (by kernel_rfl), (by kernel_rfl), (by kernel_rfl), (by kernel_rfl), (by kernel_rfl), (by kernel_rfl), (by kernel_rfl), (by kernel_rfl), (by kernel_rfl), (by kernel_rfl), (by kernel_rfl), (by kernel_rfl), (by kernel_rfl), (by kernel_rfl), (by kernel_rfl), (by kernel_rfl), (by kernel_rfl), (by kernel_rfl), (by kernel_rfl), (by kernel_rfl), (by kernel_rfl), (by kernel_rfl), (by kernel_rfl), (by kernel_rfl), (by kernel_rfl), (by kernel_rfl), (by kernel_rfl), (by kernel_rfl), (by kernel_rfl), (by kernel_rfl), (by kernel_rfl), (by kernel_rfl), (by kernel_rfl), (by kernel_rfl), (by kernel_rfl)⟩
theorem tab_9 : callable Try.prog 50 = true ∧ callable Try.prog 51 = true ∧ callable Try.prog 52 = true ∧ callable Try.prog 53 = true ∧ callable Try.prog 54 = true ∧ callable Try.prog 55 = true ∧ callable Try.prog 56 = true ∧ callable Try.prog 57 = true ∧ callable Try.prog 58 = true ∧ callable Try.prog 59 = true ∧ callable Try.prog 60 = true ∧ callable Try.prog 61 = true ∧ callable Try.prog 62 = true ∧ callable Try.prog 63 = true ∧ callable Try.prog 64 = true ∧ callable Try.prog 65 = true ∧ callable Try.prog 66 = true ∧ callable Try.prog 67 = true ∧ callable Try.prog 68 = true ∧ callable Try.prog 69 = true ∧ callable Try.prog 70 = true ∧ callable Try.prog 71 = true ∧ callable Try.prog 72 = true ∧ callable Try.prog 73 = true ∧ callable Try.prog 74 = true ∧ callable Try.prog 75 = true ∧ callable Try.prog 76 = true ∧ callable Try.prog 77 = true ∧ callable Try.prog 78 = true ∧ callable Try.prog 79 = true ∧ callable Try.prog 80 = true ∧ callable Try.prog 81 = true ∧ callable Try.prog 82 = true ∧ callable Try.prog 83 = true ∧ callable Try.prog 84 = true ∧ callable Try.prog 85 = true ∧ callable Try.prog 86 = true ∧ callable Try.prog 87 = true ∧ callable Try.prog 88 = true ∧ callable Try.prog 89 = true := by
 refine ⟨(by kernel_rfl), (by kernel_rfl), (by kernel_rfl), (by kernel_rfl), (by kernel_rfl), (by kernel_rfl), (by kernel_rfl), (by kernel_rfl), (by kernel_rfl), (by kernel_rfl), (by kernel_rfl), (by kernel_rfl), (by kernel_rfl), (by kernel_rfl), (by kernel_rfl), (by kernel_rfl), (by kernel_rfl), (by kernel_rfl), (by kernel_rfl), (by kernel_rfl), (by kernel_rfl), (by kernel_rfl), (by kernel_rfl), (by kernel_rfl), (by kernel_rfl), (by kernel_rfl), (by kernel_rfl), (by kernel_rfl), (by kernel_rfl), (by kernel_rfl), (by kernel_rfl), (by kernel_rfl), (by kernel_rfl), (by kernel_rfl), (by kernel_rfl), (by kernel_rfl), (by kernel_rfl), (by kernel_rfl), (by kernel_rfl), (by kernel_rfl)⟩
theorem tab_10 : callable Try.prog 90 = true ∧ callable Try.prog 91 = true ∧ callable Try.prog 92 = true ∧ callable Try.prog 93 = true ∧ callable Try.prog 94 = true ∧ callable Try.prog 95 = true ∧ callable Try.prog 96 = true ∧ callable Try.prog 97 = true ∧ callable Try.prog 98 = true ∧ callable Try.prog 99 = true ∧ callable Try.prog 100 = true ∧ callable Try.prog 101 = true ∧ callable Try.prog 102 = true ∧ callable Try.prog 103 = true ∧ callable Try.prog 104 = true ∧ callable Try.prog 105 = true ∧ callable Try.prog 106 = true ∧ callable Try.prog 107 = true ∧ callable Try.prog 108 = true ∧ callable Try.prog 109 = true ∧ callable Try.prog 110 = true ∧ callable Try.prog 111 = true ∧ callable Try.prog 112 = true ∧ callable Try.prog 113 = true ∧ callable Try.prog 114 = true ∧ callable Try.prog 115 = true ∧ callable Try.prog 116 = true ∧ callable Try.prog 118 = true ∧ callable Try.prog 119 = true ∧ callable Try.prog 120 = true ∧ callable Try.prog 121 = true ∧ callable Try.prog 122 = true ∧ callable Try.prog 123 = true ∧ callable Try.prog 124 = true ∧ callable Try.prog 125 = true ∧ callable Try.prog 126 = true ∧ callable Try.prog 127 = true ∧ callable Try.prog 128 = true ∧ callable Try.prog 129 = true ∧ callable Try.prog 130 = true := by
 refine ⟨(by kernel_rfl), (by kernel_rfl), (by kernel_rfl), (by kernel_rfl), (by kernel_rfl), (by kernel_rfl), (by kernel_rfl), (by kernel_rfl), (by kernel_rfl), (by kernel_rfl), (by kernel_rfl), (by kernel_rfl), (by kernel_rfl), (by kernel_rfl), (by kernel_rfl), (by kernel_rfl), (by kernel_rfl), (by kernel_rfl), (by kernel_rfl), (by kernel_rfl), (by kernel_rfl), (by kernel_rfl), (by kernel_rfl), (by kernel_rfl), (by kernel_rfl), (by kernel_rfl), (by kernel_rfl), (by kernel_rfl), (by kernel_rfl), (by kernel_rfl), (by kernel_rfl), (by kernel_rfl), (by kernel_rfl), (by kernel_rfl), (by kernel_rfl), (by kernel_rfl), (by kernel_rfl), (by kernel_rfl), (by kernel_rfl), (by kernel_rfl)⟩
theorem tab_11 : callable Try.prog 131 = true ∧ callable Try.prog 132 = true ∧ callable Try.prog 133 = true ∧ callable Try.prog 134 = true ∧ callable Try.prog 135 = true ∧ callable Try.prog 136 = true ∧ callable Try.prog 137 = true ∧ callable Try.prog 138 = true ∧ callable Try.prog 139 = true ∧ callable Try.prog 140 = true ∧ callable Try.prog 141 = true ∧ callable Try.prog 142 = true ∧ callable Try.prog 143 = true ∧ callable Try.prog 146 = true ∧ callable Try.prog 147 = true ∧ callable Try.prog 148 = true ∧ callable Try.prog 149 = true ∧ callable Try.prog 150 = true ∧ MP Try.prog 87 = some ((.int .i64), 3) ∧ MP Try.prog 102 = some ((.int .i64), 4) := by
 refine ⟨(by kernel_rfl), (by kernel_rfl), (by kernel_rfl), (by kernel_rfl), (by kernel_rfl), (by kernel_rfl), (by kernel_rfl), (by kernel_rfl), (by kernel_rfl), (by kernel_rfl), (by kernel_rfl), (by kernel_rfl), (by kernel_rfl), (by kernel_rfl), (by kernel_rfl), (by kernel_rfl), (by kernel_rfl), (by kernel_rfl), (by kernel_rfl), (by kernel_rfl)⟩
theorem tab : (SH Try.prog 1 = some .cell ∧ SH Try.prog 2 = some .cell ∧ SH Try.prog 3 = some .cell ∧ SH Try.prog 4 = some .cell ∧ SH Try.prog 5 = some .cell ∧ SH Try.prog 9 = some .cell ∧ SH Try.prog 12 = some .cell ∧ SH Try.prog 13 = some (.st [.cell, .cell]) ∧ SH Try.prog 20 = some .cell ∧ SH Try.prog 21 = some .cell ∧ SH Try.prog 22 = some .cell ∧ SH Try.prog 23 = some .cell ∧ SH Try.prog 24 = some .cell ∧ SH Try.prog 25 = some .cell ∧ SH Try.prog 26 = some .cell ∧ SH Try.prog 27 = some (.st [.cell, .cell, .cell]) ∧ SH Try.prog 28 = some (.st [.cell, .cell, .cell]) ∧ SH Try.prog 29 = some (.st [.cell, .cell, .cell, .cell, .cell, .cell, .cell, .cell, .cell, .cell, .cell, .cell, .cell, (.st [.cell, .cell, .cell]), .cell]) ∧ SH Try.prog 30 = some (.st [.cell, .cell, .cell, .cell, .cell, .cell, .cell, .cell, .cell, .cell, .cell, .cell, .cell, (.st [.cell, .cell, .cell]), .cell]) ∧ SH Try.prog 31 = some .cell ∧ SH Try.prog 32 = some .cell ∧ SH Try.prog 33 = some (.st [.cell, .cell, .cell, .cell]) ∧ SH Try.prog 34 = some (.st [.cell, .cell, .cell, .cell]) ∧ SH Try.prog 35 = some (.st [.cell, .cell, .cell]) ∧ SH Try.prog 36 = some (.st [.cell, .cell, .cell]) ∧ SH Try.prog 37 = some .cell ∧ SH Try.prog 39 = some .cell ∧ SH Try.prog 40 = some .cell ∧ SH Try.prog 45 = some .cell ∧ SH Try.prog 48 = some .cell ∧ SH Try.prog 54 = some (.arr 16 .cell) ∧ SH Try.prog 55 = some (.st [(.arr 16 .cell), .cell]) ∧ SH Try.prog 56 = some (.st [(.arr 16 .cell), .cell]) ∧ SH Try.prog 57 = some (.st [.cell, .cell, .cell]) ∧ SH Try.prog 58 = some (.st [.cell, .cell, .cell]) ∧ SH Try.prog 59 = some (.arr 16 (.st [.cell, .cell, .cell])) ∧ SH Try.prog 60 = some (.arr 16 (.st [.cell, .cell, .cell])) ∧ SH Try.prog 61 = some (.arr 8 (.st [.cell, .cell, .cell])) ∧ SH Try.prog 62 = some (.st [.cell, .cell, .cell, (.st [(.arr 16 .cell), .cell]), (.arr 16 (.st [.cell, .cell, .cell])), (.arr 8 (.st [.cell, .cell, .cell])), .cell, .cell, .cell, .cell]) ∧ SH Try.prog 63 = some (.st [.cell, .cell, .cell, (.st [(.arr 16 .cell), .cell]), (.arr 16 (.st [.cell, .cell, .cell])), (.arr 8 (.st [.cell, .cell, .cell])), .cell, .cell, .cell, .cell])) ∧ (SH Try.prog 69 = some .cell ∧ SH Try.prog 71 = some .cell ∧ SH Try.prog 74 = some (.st [.cell, .cell, .cell]) ∧ SH Try.prog 75 = some (.st [.cell, .cell, .cell]) ∧ SH Try.prog 81 = some (.st [.cell, .cell]) ∧ SH Try.prog 82 = some (.st [.cell, .cell]) ∧ SH Try.prog 83 = some .cell ∧ SH Try.prog 84 = some (.st [.cell, .cell]) ∧ SH Try.prog 85 = some (.st [.cell, .cell]) ∧ SH Try.prog 87 = some .cell ∧ SH Try.prog 92 = some .cell ∧ SH Try.prog 94 = some .cell ∧ SH Try.prog 97 = some .cell ∧ SH Try.prog 98 = some .cell ∧ SH Try.prog 99 = some .cell ∧ SH Try.prog 100 = some .cell ∧ SH Try.prog 101 = some .cell ∧ SH Try.prog 102 = some .cell ∧ SH Try.prog 103 = some .cell ∧ SH Try.prog 104 = some .cell ∧ SH Try.prog 106 = some .cell ∧ SH Try.prog 107 = some .cell ∧ SH Try.prog 108 = some .cell ∧ SH Try.prog 109 = some .cell ∧ SH Try.prog 110 = some .cell ∧ SH Try.prog 111 = some .cell ∧ SH Try.prog 112 = some .cell ∧ SH Try.prog 113 = some .cell ∧ SH Try.prog 114 = some .cell ∧ SH Try.prog 115 = some .cell ∧ SH Try.prog 116 = some .cell ∧ SH Try.prog 118 = some .cell ∧ SH Try.prog 119 = some .cell ∧ SH Try.prog 120 = some .cell ∧ SH Try.prog 127 = some .cell ∧ SH Try.prog 128 = some .cell ∧ SH Try.prog 129 = some .cell ∧ SH Try.prog 130 = some .cell ∧ SH Try.prog 132 = some .cell ∧ SH Try.prog 133 = some .cell) ∧ (SH Try.prog 134 = some .cell ∧ SH Try.prog 135 = some (.st [.cell, .cell]) ∧ SH Try.prog 136 = some (.st [.cell, .cell]) ∧ SH Try.prog 137 = some .cell ∧ SH Try.prog 138 = some .cell ∧ SH Try.prog 139 = some .cell ∧ SH Try.prog 141 = some .cell ∧ SH Try.prog 142 = some .cell ∧ SH Try.prog 144 = some .cell ∧ SH Try.prog 148 = some .cell ∧ SH Try.prog 149 = some .cell ∧ SH Try.prog 151 = some .cell ∧ SH Try.prog 152 = some .cell ∧ SH Try.prog 153 = some .cell ∧ SH Try.prog 154 = some .cell ∧ SH Try.prog 155 = some .cell ∧ SH Try.prog 158 = some .cell ∧ SH Try.prog 159 = some .cell ∧ SH Try.prog 160 = some .cell ∧ SH Try.prog 163 = some .cell ∧ SH Try.prog 168 = some (.st [.cell, .cell, .cell, .cell, .cell, .cell]) ∧ SH Try.prog 169 = some (.st [.cell, .cell, .cell, .cell, .cell, .cell]) ∧ SH Try.prog 171 = some .cell ∧ SH Try.prog 173 = some .cell ∧ SH Try.prog 175 = some .cell ∧ SH Try.prog 176 = some .cell ∧ SH Try.prog 177 = some .cell ∧ SH Try.prog 178 = some .cell ∧ SH Try.prog 180 = some .cell ∧ SH Try.prog 181 = some (.arr 8 .cell) ∧ SH Try.prog 183 = some .cell ∧ SH Try.prog 184 = some .cell ∧ SH Try.prog 185 = some .cell ∧ SH Try.prog 186 = some .cell ∧ SH Try.prog 191 = some .cell ∧ SH Try.prog 199 = some .cell ∧ ZE Try.prog 1 = some (.raw .nilFunc) ∧ ZE Try.prog 2 = some (.int .i64 0) ∧ ZE Try.prog 3 = some (.int .i64 0) ∧ ZE Try.prog 4 = some (.bool false)) ∧ (ZE Try.prog 5 = some (.int .u8 0) ∧ ZE Try.prog 9 = some (.str []) ∧ ZE Try.prog 12 = some (.int .u64 0) ∧ ZE Try.prog 13 = some (.agg [(.str []), (.int .u64 0)]) ∧ ZE Try.prog 20 = some (.raw .nilIface) ∧ ZE Try.prog 21 = some (.int .i32 0) ∧ ZE Try.prog 22 = some (.int .u64 0) ∧ ZE Try.prog 23 = some (.sl none 0) ∧ ZE Try.prog 24 = some (.sl none 0) ∧ ZE Try.prog 25 = some (.sl none 0) ∧ ZE Try.prog 26 = some (.sl none 0) ∧ ZE Try.prog 27 = some (.agg [(.sl none 0), (.sl none 0), (.int .i64 0)]) ∧ ZE Try.prog 28 = some (.agg [(.sl none 0), (.sl none 0), (.int .i64 0)]) ∧ ZE Try.prog 29 = some (.agg [(.int .u64 0), (.int .i64 0), (.int .i64 0), (.int .i64 0), (.sl none 0), (.sl none 0), (.int .i64 0), (.str []), (.sl none 0), (.int .i64 0), (.str []), (.bool false), (.int .u64 0), (.agg [(.sl none 0), (.sl none 0), (.int .i64 0)]), (.sl none 0)]) ∧ ZE Try.prog 30 = some (.agg [(.int .u64 0), (.int .i64 0), (.int .i64 0), (.int .i64 0), (.sl none 0), (.sl none 0), (.int .i64 0), (.str []), (.sl none 0), (.int .i64 0), (.str []), (.bool false), (.int .u64 0), (.agg [(.sl none 0), (.sl none 0), (.int .i64 0)]), (.sl none 0)]) ∧ ZE Try.prog 31 = some (.sl none 0) ∧ ZE Try.prog 32 = some (.int .u32 0) ∧ ZE Try.prog 33 = some (.agg [(.sl none 0), (.str []), (.int .i64 0), (.int .u32 0)]) ∧ ZE Try.prog 34 = some (.agg [(.sl none 0), (.str []), (.int .i64 0), (.int .u32 0)]) ∧ ZE Try.prog 35 = some (.agg [(.int .i64 0), (.int .i64 0), (.int .i64 0)]) ∧ ZE Try.prog 36 = some (.agg [(.int .i64 0), (.int .i64 0), (.int .i64 0)]) ∧ ZE Try.prog 37 = some (.raw .nilFunc) ∧ ZE Try.prog 39 = some (.raw .nilFunc) ∧ ZE Try.prog 40 = some (.int .i64 0) ∧ ZE Try.prog 45 = some (.sl none 0) ∧ ZE Try.prog 48 = some (.raw .nilFunc) ∧ ZE Try.prog 54 = some (.agg (List.replicate 16 (.int .u32 0))) ∧ ZE Try.prog 55 = some (.agg [(.agg (List.replicate 16 (.int .u32 0))), (.int .u32 0)]) ∧ ZE Try.prog 56 = some (.agg [(.agg (List.replicate 16 (.int .u32 0))), (.int .u32 0)]) ∧ ZE Try.prog 57 = some (.agg [(.bool false), (.bool false), (.int .i64 0)]) ∧ ZE Try.prog 58 = some (.agg [(.bool false), (.bool false), (.int .i64 0)]) ∧ ZE Try.prog 59 = some (.agg (List.replicate 16 (.agg [(.bool false), (.bool false), (.int .i64 0)]))) ∧ ZE Try.prog 60 = some (.agg (List.replicate 16 (.agg [(.bool false), (.bool false), (.int .i64 0)]))) ∧ ZE Try.prog 61 = some (.agg (List.replicate 8 (.agg [(.int .i64 0), (.int .i64 0), (.int .i64 0)]))) ∧ ZE Try.prog 62 = some (.agg [(.int .i64 0), (.int .i64 0), (.int .i64 0), (.agg [(.agg (List.replicate 16 (.int .u32 0))), (.int .u32 0)]), (.agg (List.replicate 16 (.agg [(.bool false), (.bool false), (.int .i64 0)]))), (.agg (List.replicate 8 (.agg [(.int .i64 0), (.int .i64 0), (.int .i64 0)]))), (.bool false), (.int .u32 0), (.int .i64 0), (.int .u64 0)]) ∧ ZE Try.prog 63 = some (.agg [(.int .i64 0), (.int .i64 0), (.int .i64 0), (.agg [(.agg (List.replicate 16 (.int .u32 0))), (.int .u32 0)]), (.agg (List.replicate 16 (.agg [(.bool false), (.bool false), (.int .i64 0)]))), (.agg (List.replicate 8 (.agg [(.int .i64 0), (.int .i64 0), (.int .i64 0)]))), (.bool false), (.int .u32 0), (.int .i64 0), (.int .u64 0)]) ∧ ZE Try.prog 69 = some (.sl none 0) ∧ ZE Try.prog 71 = some (.raw .nilFunc) ∧ ZE Try.prog 74 = some (.agg [(.int .i64 0), (.str []), (.bool false)]) ∧ ZE Try.prog 75 = some (.agg [(.int .i64 0), (.str []), (.bool false)])) ∧ (ZE Try.prog 81 = some (.agg [(.int .i64 0), (.str [])]) ∧ ZE Try.prog 82 = some (.agg [(.int .i64 0), (.str [])]) ∧ ZE Try.prog 83 = some (.raw .nilFunc) ∧ ZE Try.prog 84 = some (.agg [(.int .i64 0), (.str [])]) ∧ ZE Try.prog 85 = some (.agg [(.int .i64 0), (.str [])]) ∧ ZE Try.prog 87 = some (.raw (.map none)) ∧ ZE Try.prog 92 = some (.raw .nilFunc) ∧ ZE Try.prog 94 = some (.raw (.pointer none)) ∧ ZE Try.prog 97 = some (.raw .nilFunc) ∧ ZE Try.prog 98 = some (.raw .nilFunc) ∧ ZE Try.prog 99 = some (.raw (.pointer none)) ∧ ZE Try.prog 100 = some (.raw .nilFunc) ∧ ZE Try.prog 101 = some (.raw .nilFunc) ∧ ZE Try.prog 102 = some (.raw (.map none)) ∧ ZE Try.prog 103 = some (.sl none 0) ∧ ZE Try.prog 104 = some (.raw .nilFunc) ∧ ZE Try.prog 106 = some (.raw .nilFunc) ∧ ZE Try.prog 107 = some (.raw .nilFunc) ∧ ZE Try.prog 108 = some (.raw .nilFunc) ∧ ZE Try.prog 109 = some (.raw .nilFunc) ∧ ZE Try.prog 110 = some (.sl none 0) ∧ ZE Try.prog 111 = some (.raw .nilFunc) ∧ ZE Try.prog 112 = some (.raw .nilFunc) ∧ ZE Try.prog 113 = some (.raw .nilFunc) ∧ ZE Try.prog 114 = some (.raw .nilFunc) ∧ ZE Try.prog 115 = some (.raw .nilFunc) ∧ ZE Try.prog 116 = some (.sl none 0) ∧ ZE Try.prog 118 = some (.raw .nilFunc) ∧ ZE Try.prog 119 = some (.raw .nilFunc) ∧ ZE Try.prog 120 = some (.raw .nilFunc) ∧ ZE Try.prog 127 = some (.sl none 0) ∧ ZE Try.prog 128 = some (.sl none 0) ∧ ZE Try.prog 129 = some (.sl none 0) ∧ ZE Try.prog 130 = some (.int .u64 0) ∧ ZE Try.prog 132 = some (.raw .nilFunc) ∧ ZE Try.prog 133 = some (.raw .nilFunc) ∧ ZE Try.prog 134 = some (.raw (.pointer none)) ∧ ZE Try.prog 135 = some (.agg [(.raw (.pointer none)), (.sl none 0)]) ∧ ZE Try.prog 136 = some (.agg [(.raw (.pointer none)), (.sl none 0)]) ∧ ZE Try.prog 137 = some (.raw .nilFunc)) ∧ (ZE Try.prog 138 = some (.raw .nilIface) ∧ ZE Try.prog 139 = some (.raw .nilIface) ∧ ZE Try.prog 141 = some (.raw .nilFunc) ∧ ZE Try.prog 142 = some (.raw .nilFunc) ∧ ZE Try.prog 144 = some (.raw .nilFunc) ∧ ZE Try.prog 148 = some (.raw .nilFunc) ∧ ZE Try.prog 149 = some (.raw .nilFunc) ∧ ZE Try.prog 151 = some (.raw .nilFunc) ∧ ZE Try.prog 152 = some (.raw .nilFunc) ∧ ZE Try.prog 153 = some (.raw .nilFunc) ∧ ZE Try.prog 154 = some (.raw .nilFunc) ∧ ZE Try.prog 155 = some (.raw .nilFunc) ∧ ZE Try.prog 158 = some (.raw .nilFunc) ∧ ZE Try.prog 159 = some (.raw .nilFunc) ∧ ZE Try.prog 160 = some (.raw .nilFunc) ∧ ZE Try.prog 163 = some (.raw .nilFunc) ∧ ZE Try.prog 168 = some (.agg (List.replicate 6 (.int .i64 0))) ∧ ZE Try.prog 169 = some (.agg (List.replicate 6 (.int .i64 0))) ∧ ZE Try.prog 171 = some (.raw .nilFunc) ∧ ZE Try.prog 173 = some (.raw .nilFunc) ∧ ZE Try.prog 175 = some (.raw .nilFunc) ∧ ZE Try.prog 176 = some (.raw (.pointer none)) ∧ ZE Try.prog 177 = some (.raw .nilFunc) ∧ ZE Try.prog 178 = some (.raw .nilFunc) ∧ ZE Try.prog 180 = some (.raw .nilFunc) ∧ ZE Try.prog 181 = some (.agg (List.replicate 8 (.int .u8 0))) ∧ ZE Try.prog 183 = some (.raw .nilFunc) ∧ ZE Try.prog 185 = some (.raw .nilFunc) ∧ ZE Try.prog 186 = some (.raw .nilFunc) ∧ ZE Try.prog 191 = some (.raw .nilFunc) ∧ ZE Try.prog 199 = some (.raw .nilFunc) ∧ EL Try.prog 23 = some 9 ∧ EL Try.prog 24 = some 63 ∧ EL Try.prog 25 = some 82 ∧ EL Try.prog 26 = some 85 ∧ EL Try.prog 31 = some 32 ∧ EL Try.prog 45 = some 3 ∧ EL Try.prog 69 = some 75 ∧ EL Try.prog 103 = some 58 ∧ EL Try.prog 110 = some 36) ∧ (EL Try.prog 116 = some 5 ∧ EL Try.prog 127 = some 23 ∧ EL Try.prog 128 = some 26 ∧ EL Try.prog 129 = some 80 ∧ Try.prog.underlying 2 = some (.int .i64) ∧ Try.prog.underlying 3 = some (.int .i64) ∧ Try.prog.underlying 4 = some .bool ∧ Try.prog.underlying 5 = some (.int .u8) ∧ Try.prog.underlying 9 = some .string ∧ Try.prog.underlying 12 = some (.int .u64) ∧ Try.prog.underlying 21 = some (.int .i32) ∧ Try.prog.underlying 22 = some (.int .u64) ∧ Try.prog.underlying 23 = some (.slice 9) ∧ Try.prog.underlying 24 = some (.slice 63) ∧ Try.prog.underlying 25 = some (.slice 82) ∧ Try.prog.underlying 26 = some (.slice 85) ∧ Try.prog.underlying 31 = some (.slice 32) ∧ Try.prog.underlying 32 = some (.int .u32) ∧ Try.prog.underlying 40 = some (.int .i64) ∧ Try.prog.underlying 45 = some (.slice 3) ∧ Try.prog.underlying 54 = some (.array 16 32) ∧ Try.prog.underlying 59 = some (.array 16 58) ∧ Try.prog.underlying 60 = some (.array 16 58) ∧ Try.prog.underlying 61 = some (.array 8 36) ∧ Try.prog.underlying 69 = some (.slice 75) ∧ Try.prog.underlying 87 = some (.map 3 3) ∧ Try.prog.underlying 94 = some (.pointer 30) ∧ Try.prog.underlying 99 = some (.pointer 63) ∧ Try.prog.underlying 102 = some (.map 3 4) ∧ Try.prog.underlying 103 = some (.slice 58) ∧ Try.prog.underlying 110 = some (.slice 36) ∧ Try.prog.underlying 116 = some (.slice 5) ∧ Try.prog.underlying 127 = some (.slice 23) ∧ Try.prog.underlying 128 = some (.slice 26) ∧ Try.prog.underlying 129 = some (.slice 80) ∧ Try.prog.underlying 130 = some (.int .u64) ∧ Try.prog.underlying 134 = some (.pointer 136) ∧ Try.prog.underlying 176 = some (.pointer 5) ∧ Try.prog.underlying 181 = some (.array 8 5) ∧ BY Try.prog 3 = 8) ∧ (BY Try.prog 5 = 1 ∧ BY Try.prog 9 = 16 ∧ BY Try.prog 23 = 24 ∧ BY Try.prog 26 = 24 ∧ BY Try.prog 32 = 4 ∧ BY Try.prog 36 = 24 ∧ BY Try.prog 58 = 16 ∧ BY Try.prog 63 = 568 ∧ BY Try.prog 75 = 32 ∧ BY Try.prog 82 = 24 ∧ BY Try.prog 85 = 24 ∧ EQT Try.prog 4 = some .bool ∧ EQT Try.prog 35 = some (.st [(.int .i64), (.int .i64), (.int .i64)]) ∧ EQT Try.prog 36 = some (.st [(.int .i64), (.int .i64), (.int .i64)]) ∧ EQT Try.prog 54 = some (.arr 16 (.int .u32)) ∧ EQT Try.prog 55 = some (.st [(.arr 16 (.int .u32)), (.int .u32)]) ∧ EQT Try.prog 56 = some (.st [(.arr 16 (.int .u32)), (.int .u32)]) ∧ EQT Try.prog 57 = some (.st [.bool, .bool, (.int .i64)]) ∧ EQT Try.prog 58 = some (.st [.bool, .bool, (.int .i64)]) ∧ EQT Try.prog 59 = some (.arr 16 (.st [.bool, .bool, (.int .i64)])) ∧ EQT Try.prog 60 = some (.arr 16 (.st [.bool, .bool, (.int .i64)])) ∧ EQT Try.prog 61 = some (.arr 8 (.st [(.int .i64), (.int .i64), (.int .i64)])) ∧ EQT Try.prog 62 = some (.st [(.int .i64), (.int .i64), (.int .i64), (.st [(.arr 16 (.int .u32)), (.int .u32)]), (.arr 16 (.st [.bool, .bool, (.int .i64)])), (.arr 8 (.st [(.int .i64), (.int .i64), (.int .i64)])), .bool, (.int .u32), (.int .i64), (.int .u64)]) ∧ EQT Try.prog 63 = some (.st [(.int .i64), (.int .i64), (.int .i64), (.st [(.arr 16 (.int .u32)), (.int .u32)]), (.arr 16 (.st [.bool, .bool, (.int .i64)])), (.arr 8 (.st [(.int .i64), (.int .i64), (.int .i64)])), .bool, (.int .u32), (.int .i64), (.int .u64)]) ∧ EQT Try.prog 74 = some (.st [(.int .i64), .str, .bool]) ∧ EQT Try.prog 75 = some (.st [(.int .i64), .str, .bool]) ∧ EQT Try.prog 81 = some (.st [(.int .i64), .str]) ∧ EQT Try.prog 82 = some (.st [(.int .i64), .str]) ∧ EQT Try.prog 84 = some (.st [(.int .i64), .str]) ∧ EQT Try.prog 85 = some (.st [(.int .i64), .str]) ∧ EQT Try.prog 168 = some (.st [(.int .i64), (.int .i64), (.int .i64), (.int .i64), (.int .i64), (.int .i64)]) ∧ EQT Try.prog 169 = some (.st [(.int .i64), (.int .i64), (.int .i64), (.int .i64), (.int .i64), (.int .i64)]) ∧ EQT Try.prog 181 = some (.arr 8 (.int .u8)) ∧ callable Try.prog 3 = true ∧ callable Try.prog 4 = true ∧ callable Try.prog 5 = true ∧ callable Try.prog 6 = true ∧ callable Try.prog 7 = true ∧ callable Try.prog 8 = true ∧ callable Try.prog 9 = true) ∧ (callable Try.prog 10 = true ∧ callable Try.prog 11 = true ∧ callable Try.prog 12 = true ∧ callable Try.prog 13 = true ∧ callable Try.prog 14 = true ∧ callable Try.prog 15 = true ∧ callable Try.prog 16 = true ∧ callable Try.prog 17 = true ∧ callable Try.prog 18 = true ∧ callable Try.prog 19 = true ∧ callable Try.prog 20 = true ∧ callable Try.prog 21 = true ∧ callable Try.prog 22 = true ∧ callable Try.prog 23 = true ∧ callable Try.prog 24 = true ∧ callable Try.prog 25 = true ∧ callable Try.prog 26 = true ∧ callable Try.prog 27 = true ∧ callable Try.prog 28 = true ∧ callable Try.prog 29 = true ∧ callable Try.prog 30 = true ∧ callable Try.prog 31 = true ∧ callable Try.prog 32 = true ∧ callable Try.prog 33 = true ∧ callable Try.prog 34 = true ∧ callable Try.prog 35 = true ∧ callable Try.prog 36 = true ∧ callable Try.prog 37 = true ∧ callable Try.prog 38 = true ∧ callable Try.prog 39 = true ∧ callable Try.prog 40 = true ∧ callable Try.prog 41 = true ∧ callable Try.prog 42 = true ∧ callable Try.prog 43 = true ∧ callable Try.prog 44 = true ∧ callable Try.prog 45 = true ∧ callable Try.prog 46 = true ∧ callable Try.prog 47 = true ∧ callable Try.prog 48 = true ∧ callable Try.prog 49 = true) ∧ (callable Try.prog 50 = true ∧ callable Try.prog 51 = true ∧ callable Try.prog 52 = true ∧ callable Try.prog 53 = true ∧ callable Try.prog 54 = true ∧ callable Try.prog 55 = true ∧ callable Try.prog 56 = true ∧ callable Try.prog 57 = true ∧ callable Try.prog 58 = true ∧ callable Try.prog 59 = true ∧ callable Try.prog 60 = true ∧ callable Try.prog 61 = true ∧ callable Try.prog 62 = true ∧ callable Try.prog 63 = true ∧ callable Try.prog 64 = true ∧ callable Try.prog 65 = true ∧ callable Try.prog 66 = true ∧ callable Try.prog 67 = true ∧ callable Try.prog 68 = true ∧ callable Try.prog 69 = true ∧ callable Try.prog 70 = true ∧ callable Try.prog 71 = true ∧ callable Try.prog 72 = true ∧ callable Try.prog 73 = true ∧ callable Try.prog 74 = true ∧ callable Try.prog 75 = true ∧ callable Try.prog 76 = true ∧ callable Try.prog 77 = true ∧ callable Try.prog 78 = true ∧ callable Try.prog 79 = true ∧ callable Try.prog 80 = true ∧ callable Try.prog 81 = true ∧ callable Try.prog 82 = true ∧ callable Try.prog 83 = true ∧ callable Try.prog 84 = true ∧ callable Try.prog 85 = true ∧ callable Try.prog 86 = true ∧ callable Try.prog 87 = true ∧ callable Try.prog 88 = true ∧ callable Try.prog 89 = true) ∧ (callable Try.prog 90 = true ∧ callable Try.prog 91 = true ∧ callable Try.prog 92 = true ∧ callable Try.prog 93 = true ∧ callable Try.prog 94 = true ∧ callable Try.prog 95 = true ∧ callable Try.prog 96 = true ∧ callable Try.prog 97 = true ∧ callable Try.prog 98 = true ∧ callable Try.prog 99 = true ∧ callable Try.prog 100 = true ∧ callable Try.prog 101 = true ∧ callable Try.prog 102 = true ∧ callable Try.prog 103 = true ∧ callable Try.prog 104 = true ∧ callable Try.prog 105 = true ∧ callable Try.prog 106 = true ∧ callable Try.prog 107 = true ∧ callable Try.prog 108 = true ∧ callable Try.prog 109 = true ∧ callable Try.prog 110 = true ∧ callable Try.prog 111 = true ∧ callable Try.prog 112 = true ∧ callable Try.prog 113 = true ∧ callable Try.prog 114 = true ∧ callable Try.prog 115 = true ∧ callable Try.prog 116 = true ∧ callable Try.prog 118 = true ∧ callable Try.prog 119 = true ∧ callable Try.prog 120 = true ∧ callable Try.prog 121 = true ∧ callable Try.prog 122 = true ∧ callable Try.prog 123 = true ∧ callable Try.prog 124 = true ∧ callable Try.prog 125 = true ∧ callable Try.prog 126 = true ∧ callable Try.prog 127 = true ∧ callable Try.prog 128 = true ∧ callable Try.prog 129 = true ∧ callable Try.prog 130 = true) ∧ (callable Try.prog 131 = true ∧ callable Try.prog 132 = true ∧ callable Try.prog 133 = true ∧ callable Try.prog 134 = true ∧ callable Try.prog 135 = true ∧ callable Try.prog 136 = true ∧ callable Try.prog 137 = true ∧ callable Try.prog 138 = true ∧ callable Try.prog 139 = true ∧ callable Try.prog 140 = true ∧ callable Try.prog 141 = true ∧ callable Try.prog 142 = true ∧ callable Try.prog 143 = true ∧ callable Try.prog 146 = true ∧ callable Try.prog 147 = true ∧ callable Try.prog 148 = true ∧ callable Try.prog 149 = true ∧ callable Try.prog 150 = true ∧ MP Try.prog 87 = some ((.int .i64), 3) ∧ MP Try.prog 102 = some ((.int .i64), 4)) := by
 refine ⟨tab_0, tab_1, tab_2, tab_3, tab_4, tab_5, tab_6, tab_7, tab_8, tab_9, tab_10, tab_11⟩
end Go.Proofs.Ytpdhdkpebbfnnaa.V
end
section
namespace Go.Proofs.Ytpdhdkpebbfnnaa.V
open Go

section
variable (H : Heap)
theorem rdt_t (vs ds : List VV) : RdT H (.tup vs) (.tup ds) = RdL H vs ds := by
 apply propext
 constructor
 ·rintro ⟨ds', h, h'⟩
  injection h with h
  subst h
  exact h'
 ·intro h
  exact ⟨ds, rfl, h⟩
theorem rdt_i (k : IntKind) (a b : Int) : RdT H (.int k a) (.int k b) = (a = b) := by simp [RdT, Rd, nl, eq_comm]
theorem rdt_b (a b : Bool) : RdT H (.bool a) (.bool b) = (a = b) := by simp [RdT, Rd, nl, eq_comm]
theorem rdt_s (a b : List UInt8) : RdT H (.str a) (.str b) = (a = b) := by simp [RdT, Rd, nl, eq_comm]
theorem rdt_a (vs ds : List VV) : RdT H (.agg vs) (.agg ds) = RdL H vs ds := by
 apply propext
 simp only [RdT,Rd]
 constructor
 ·rintro ⟨ds', h, h'⟩
  injection h with h
  subst h
  exact h'
 ·intro h
  exact ⟨ds, rfl, h⟩
theorem rd_i (k : IntKind) (a b : Int) : Rd H (.int k a) (.int k b) = (a = b) := by simp [Rd, nl, eq_comm]
theorem rd_b (a b : Bool) : Rd H (.bool a) (.bool b) = (a = b) := by simp [Rd, nl, eq_comm]
theorem rd_s (a b : List UInt8) : Rd H (.str a) (.str b) = (a = b) := by simp [Rd, nl, eq_comm]
theorem rd_a (vs ds : List VV) : Rd H (.agg vs) (.agg ds) = RdL H vs ds := by
 apply propext
 simp only [Rd]
 constructor
 ·rintro ⟨ds', h, h'⟩
  injection h with h
  subst h
  exact h'
 ·intro h
  exact ⟨ds, rfl, h⟩
theorem rdl_c (v d : VV) (vs ds : List VV) : RdL H (v :: vs) (d :: ds) = (Rd H v d ∧ RdL H vs ds) := by
 apply propext
 simp only [RdL]
 constructor
 ·rintro ⟨d', ds', h, h1, h2⟩
  injection h with h h'
  subst h h'
  exact ⟨h1, h2⟩
 ·rintro ⟨h1, h2⟩
  exact ⟨d, ds, rfl, h1, h2⟩
theorem rdl_n : RdL H [] [] = True := by simp [RdL]
end
theorem rd_own {H : Heap} {m k : Nat} {e : Sh} {els els' : List VV} {n : Nat} (h : H m = some (.row (.arr k e) (.agg els))) (hn : n = els.length) (he : els = els') (hl : nls els' = true) : Rd H (.sl (some (m, [], 0)) n) (.dat e els') := by
 subst he; exact rd_row h hn hl
theorem rd_nil {H : Heap} {e : Sh} : Rd H (.sl none 0) (.dat e []) := by simp only [Rd]; exact .inr ⟨trivial, e, rfl⟩
theorem rdt_of {H : Heap} {v d : VV} (h : Rd H v d) (hv : notTup v = true) : RdT H v d := by
 cases v <;> first | exact h | simp [notTup] at hv
theorem je {l : List VV} (h : nls l = true) : nls l = true := h
theorem nls_nil : nls [] = true := rfl
theorem nls_cons (v : VV) (l : List VV) : nls (v :: l) = (nl v && nls l) := rfl
theorem nls_append : ∀ (a b : List VV), nls (a ++ b) = (nls a && nls b)
 | [], b => by simp [nls]
 | v :: a, b => by simp [nls, nls_append a b, Bool.and_assoc]
theorem nls_mapStr (l : List (List UInt8)) : nls (l.map .str) = true := nls_map _ (fun _ => rfl) l
theorem nls_mapB (l : List UInt8) : nls (l.map encB) = true := nls_map _ (fun _ => rfl) l
theorem nls_rep {n : Nat} {v : VV} (hv : nl v = true) : nls (List.replicate n v) = true := by
 rw [nls_iff]
 intro x hx
 rw [(List.mem_replicate.1 hx).2]; exact hv
theorem nls_repInt (n : Nat) (k : IntKind) (a : Int) : nls (List.replicate n (.int k a)) = true := nls_rep rfl
theorem nls_repBool (n : Nat) (a : Bool) : nls (List.replicate n (.bool a)) = true := nls_rep rfl
theorem nls_repStr (n : Nat) (a : List UInt8) : nls (List.replicate n (.str a)) = true := nls_rep rfl
theorem some_nat (a b : Nat) : (some a = some b) = (a = b) := by simp
theorem nl_slnil (n : Nat) : nl (.sl none n) = true := rfl
theorem nl_int (k : IntKind) (a : Int) : nl (.int k a) = true := rfl
theorem nl_bool (a : Bool) : nl (.bool a) = true := rfl
theorem nl_str (a : List UInt8) : nl (.str a) = true := rfl
theorem nl_agg (l : List VV) : nl (.agg l) = nls l := by simp only [nl]
theorem nl_dat (s : Sh) (l : List VV) : nl (.dat s l) = nls l := by simp only [nl]
theorem has_str (s : List UInt8) : Has .cell (.str s) := by simp [Has, VV.leaf]
theorem has_int (k : IntKind) (s : Int) : Has .cell (.int k s) := by simp [Has, VV.leaf]
theorem has_bool (s : Bool) : Has .cell (.bool s) := by simp [Has, VV.leaf]
theorem has_sl (p : Option (Nat × List Nat × Nat)) (n : Nat) : Has .cell (.sl p n) := by simp [Has, VV.leaf]
theorem has_dat (s : Sh) (l : List VV) : Has .cell (.dat s l) := by simp [Has, VV.leaf]
theorem has_ptr (m : Nat) (p : List Nat) : Has .cell (.ptr m p) := by simp [Has, VV.leaf]
theorem has_fn (f : FuncId) (c : List VV) : Has .cell (.fn f c) := by simp [Has, VV.leaf]
theorem has_map (m : Nat) : Has .cell (.map m) := by simp [Has, VV.leaf]
theorem has_pd (s : Sh) (v : VV) : Has .cell (.pd s v) := by simp [Has, VV.leaf]
theorem has_st (ls : List Sh) (vs : List VV) : Has (.st ls) (.agg vs) = HasL ls vs := by simp only [Has]
theorem hasl_c (s : Sh) (ls : List Sh) (v : VV) (vs : List VV) : HasL (s :: ls) (v :: vs) = (Has s v ∧ HasL ls vs) := by simp only [HasL]
theorem hasl_n : HasL [] [] = True := by simp [HasL]
theorem has_arr {s : Sh} {n : Nat} {l : List VV} (h1 : l.length = n) (h2 : ∀ v ∈ l, Has s v) : Has (.arr n s) (.agg l) := by simp only [Has]; exact ⟨h1, h2⟩
theorem has_arrMap {α : Type} {s : Sh} {n : Nat} {l : List α} {f : α → VV} (h1 : l.length = n) (h2 : ∀ x, Has s (f x)) : Has (.arr n s) (.agg (l.map f)) := has_arr (by simp [h1]) fun v hv => by
 obtain ⟨x, _, rfl⟩ := List.mem_map.1 hv
 exact h2 x
theorem ite_min (a b : Int) : (if b < a then b else a) = min a b := by split <;> omega
theorem ite_max (a b : Int) : (if a < b then b else a) = max a b := by split <;> omega
theorem ex_arr (n : Nat) (s : Sh) : (∃ j, some (Sh.arr n s) = some (Sh.arr j s)) = True := eq_true ⟨n, rfl⟩
theorem default_str : (default : List UInt8) = [] := rfl
theorem default_u8 : (default : UInt8) = 0 := rfl
theorem rep_one {α : Type} (a : α) : List.replicate 1 a = [a] := rfl
theorem rep_two {α : Type} (a : α) : List.replicate 2 a = [a, a] := rfl
theorem rep_three {α : Type} (a : α) : List.replicate 3 a = [a, a, a] := rfl
theorem bytes_one (b : UInt8) : bytesOf [VV.int .u8 (b.toNat : Int)] = some [b] := bytesOf_enc [b]
theorem bytes_two (a b : UInt8) : bytesOf [VV.int .u8 (a.toNat : Int), VV.int .u8 (b.toNat : Int)] = some [a, b] := bytesOf_enc [a, b]
theorem allm_cons {α : Type} (p : α → Prop) (x : α) (l : List α) : (∀ c, c ∈ x :: l → p c) = (p x ∧ ∀ c, c ∈ l → p c) := by simp
theorem allm_nil {α : Type} (p : α → Prop) : (∀ c, c ∈ ([] : List α) → p c) = True := by simp
theorem leaf_ptr (m : Nat) (p : List Nat) : (VV.ptr m p).leaf = true := rfl
theorem leaf_int (k : IntKind) (n : Int) : (VV.int k n).leaf = true := rfl
theorem leaf_str (s : List UInt8) : (VV.str s).leaf = true := rfl
theorem leaf_bool (s : Bool) : (VV.bool s).leaf = true := rfl
theorem leaf_sl (p : Option (Nat × List Nat × Nat)) (n : Nat) : (VV.sl p n).leaf = true := rfl
theorem leaf_dat (s : Sh) (l : List VV) : (VV.dat s l).leaf = true := rfl
theorem leaf_fn (f : FuncId) (l : List VV) : (VV.fn f l).leaf = true := rfl
theorem leaf_map (m : Nat) : (VV.map m).leaf = true := rfl
theorem take_lenMap {α β : Type} (f : α → β) (l : List α) : List.take l.length (l.map f) = l.map f := List.take_of_length_le (by simp)
theorem veq_bool (a b : Bool) : veq (.bool a) (.bool b) = (a == b) := by simp only [veq]
theorem fit_bool (a : Bool) : Fit .bool (.bool a) = True := by simp only [Fit]
theorem dvalid (a b : Int) (h : 0 ≤ a) : a.tdiv b = a / b := Int.tdiv_eq_ediv_of_nonneg h
theorem mvalid (a b : Int) (h : 0 ≤ a) : a.tmod b = a % b := Int.tmod_eq_emod_of_nonneg h
section
variable {n0 : Nat} {σ : List (Nat × Nat)} {H : Heap} {fz : Bool} {tm : Nat → VV}
theorem jL {m : Nat} (h : (σ.map (·.1)).contains m = true) : known n0 σ m := .inr (by simpa using h)
theorem jM {m : Nat} (h : decide (m < n0) = true) : known n0 σ m := .inl (by simpa using h)
theorem jF : AllS n0 σ H fz tm [] := trivial
theorem jE {k : Nat} {v : VV} {l : List (Nat × VV)} (h : MR n0 σ H fz (tm k) v) (h' : AllS n0 σ H fz tm l) : AllS n0 σ H fz tm ((k, v) :: l) := ⟨h, h'⟩
theorem jG : AllB n0 σ H fz [] := trivial
theorem jH {k : Nat} {b0 b : Blk} {l : List (Nat × Blk)} (hk : known n0 σ k) (h : H (turn σ k) = some b0) (hm : MB n0 σ H fz b0 b) (h' : AllB n0 σ H fz l) : AllB n0 σ H fz ((k, b) :: l) := ⟨fun _ => ⟨b0, h, hm⟩, h'⟩
theorem jK {k : Nat} {b : Blk} {l : List (Nat × Blk)} (hk : (decide (k < n0) || (σ.map (·.1)).contains k) = false) (h' : AllB n0 σ H fz l) : AllB n0 σ H fz ((k, b) :: l) := by
 refine ⟨fun hn => ?_, h'⟩
 simp only [Bool.or_eq_false_iff,decide_eq_false_iff_not] at hk
 rcases hn with hn | hn
 ·exact absurd hn hk.1
 ·have : (σ.map (·.1)).contains k = true := by simpa using hn
  rw [hk.2] at this; cases this
theorem ju {k : IntKind} {a b : Int} (h : a = b) : MR n0 σ H fz (.int k a) (.int k b) := by subst h; exact .data _ rfl
theorem jw {a b : Bool} (h : a = b) : MR n0 σ H fz (.bool a) (.bool b) := by subst h; exact .data _ rfl
theorem jv {a b : List UInt8} (h : a = b) : MR n0 σ H fz (.str a) (.str b) := by subst h; exact .data _ rfl
theorem jx {s : Sh} {a b : List VV} (h : a = b) (hn : nls b = true) : MR n0 σ H fz (.dat s a) (.dat s b) := by subst h; exact .data _ (by simpa only [nl] using hn)
theorem jz {n : Nat} : MR n0 σ H fz (.sl none n) (.sl none n) := .data _ rfl
theorem jA {m : Nat} {p : List Nat} {i n : Nat} (h : 0 = n) : MR n0 σ H fz (.sl none 0) (.sl (some (m, p, i)) n) := by subst h; exact .empty
theorem jI {n n' : Nat} {e : Sh} {u v : VV} (hn : n = n') (h : MR n0 σ H fz u v) : MB n0 σ H fz (.row (.arr n e) u) (.row (.arr n' e) v) := by subst hn; exact .row h
theorem jC {a b : List VV} (h : a = b) (hn : nls b = true) : MR n0 σ H fz (.agg a) (.agg b) := by subst h; exact .data _ (by simpa only [nl] using hn)
theorem jD {m m' : Nat} {p : List Nat} {i n n' : Nat} (h : known n0 σ m') (h' : turn σ m' = m) (hn : n = n') : MR n0 σ H fz (.sl (some (m, p, i)) n) (.sl (some (m', p, i)) n') := by subst hn; exact .sl h h'
theorem jB {m k n : Nat} {e : Sh} {els els' : List VV} (h : fz = true) (h1 : H m = some (.row (.arr k e) (.agg els))) (h2 : n = els.length) (he : els = els') (h3 : nls els' = true) (h4 : m ∉ σ.map (·.2)) : MR n0 σ H fz (.sl (some (m, [], 0)) n) (.dat e els') := by
 subst he; exact .row h h1 h2 h3 h4
end
theorem map_getD {α : Type} [Inhabited α] (f : α → VV) (l : List α) (i : Nat) (h : i < l.length) : (l.map f)[i]? = some (f (l.getD i default)) := by simp [h]
theorem rep_get {v : VV} {n i : Nat} (h : i < n) : (List.replicate n v)[i]? = some v := by simp [h]
end Go.Proofs.Ytpdhdkpebbfnnaa.V
end
section
namespace Go.Proofs.Ytpdhdkpebbfnnaa.V
open Go Go.RowKit
def jt :=
 And.intro @s_nil <|
 And.intro @s_cons <|
 And.intro @s_guard <|
 And.intro @r_tmp <|
 And.intro @r_cell <|
 And.intro @vop.eq_1 <|
 And.intro @vBox.eq_1 <|
 And.intro @vPick.eq_1 <|
 And.intro @vLoad.eq_1 <|
 And.intro @vStore.eq_1 <|
 And.intro @vNilCheck.eq_1 <|
 And.intro @vBin.eq_1 <|
 And.intro @vBinX.eq_1 <|
 And.intro @vBinH.eq_1 <|
 And.intro @vMax.eq_1 <|
 And.intro @vArrPtr.eq_1 <|
 And.intro @vEq.eq_1 <|
 And.intro @vEq.eq_2 <|
 And.intro @vEq.eq_3 <|
 And.intro @vNil.eq_1 <|
 And.intro @vNil.eq_2 <|
 And.intro @vNil.eq_3 <|
 And.intro @vNil.eq_4 <|
 And.intro @vNil.eq_5 <|
 And.intro @vNil.eq_6 <|
 And.intro @vNil.eq_7 <|
 And.intro @vEither_w <|
 And.intro @vbin.eq_1 <|
 And.intro @vbin.eq_2 <|
 And.intro @vbin.eq_3 <|
 And.intro @vbin.eq_4 <|
 And.intro @vbin.eq_5 <|
 And.intro @vbin.eq_6 <|
 And.intro @vbin.eq_7 <|
 And.intro @vbin.eq_8 <|
 And.intro @vbin.eq_9 <|
 And.intro @vbin.eq_10 <|
 And.intro @vbin.eq_11 <|
 And.intro @vbin.eq_12 <|
 And.intro @vbin.eq_13 <|
 And.intro @vbin.eq_14 <|
 And.intro @vbin.eq_15 <|
 And.intro @vbin.eq_16 <|
 And.intro @vbin.eq_17 <|
 And.intro @vbin.eq_18 <|
 And.intro @vbin.eq_19 <|
 And.intro @vUn.eq_1 <|
 And.intro @vField.eq_1 <|
 And.intro @vConv.eq_1 <|
 And.intro @vConvert.eq_1 <|
 And.intro @vToStr.eq_1 <|
 And.intro @vToBytes.eq_1 <|
 And.intro @vIndexAddr.eq_1 <|
 And.intro @vFieldAddr.eq_1 <|
 And.intro @vIndex.eq_1 <|
 And.intro @vExtract.eq_1 <|
 And.intro @vAlloc.eq_1 <|
 And.intro @vBuild.eq_1 <|
 And.intro @vBuildSlice.eq_1 <|
 And.intro @vMakeSlice.eq_1 <|
 And.intro @vSlice.eq_1 <|
 And.intro @lohi.eq_1 <|
 And.intro @lohi.eq_2 <|
 And.intro @lohi.eq_3 <|
 And.intro @lohi.eq_4 <|
 And.intro @vAppend.eq_1 <|
 And.intro @srcOf.eq_1 <|
 And.intro @vCall.eq_1 <|
 And.intro @vBuiltin.eq_1 <|
 And.intro @vBuiltin.eq_2 <|
 And.intro @vBuiltin.eq_3 <|
 And.intro @vBuiltin.eq_4 <|
 And.intro @vBuiltin.eq_5 <|
 And.intro @vBuiltin.eq_6 <|
 And.intro @vBuiltin.eq_7 <|
 And.intro @vLenM.eq_1 <|
 And.intro @vLen.eq_1 <|
 And.intro @vClear.eq_1 <|
 And.intro @vCopy.eq_1 <|
 And.intro @vSplice.eq_1 <|
 And.intro @vMin.eq_1 <|
 And.intro @vMakeFunc.eq_1 <|
 And.intro @vMakeMap.eq_1 <|
 And.intro @vLookup.eq_1 <|
 And.intro @vMapUpdate.eq_1 <|
 And.intro @onV_w <|
 And.intro @bnd_w <|
 And.intro @cnd_w <|
 And.intro @vif_w <|
 And.intro @vcall_w <|
 And.intro @vres.eq_1 <|
 And.intro @vresL.eq_1 <|
 And.intro @vresL.eq_2 <|
 And.intro @h_nil <|
 And.intro @h_cons <|
 And.intro @h_guard <|
 And.intro @vopH.eq_1 <|
 And.intro @vCallH.eq_1 <|
 And.intro @vAppendH.eq_1 <|
 And.intro @vAppendF.eq_1 <|
 And.intro @vBuildSliceH.eq_1 <|
 And.intro @vcallH_w <|
 And.intro @allm_cons <|
 And.intro @allm_nil <| True.intro
def zvs :=
 And.intro @argsF.eq_1 <|
 And.intro @argsF.eq_2 <|
 And.intro @some_nat <|
 And.intro @untup.eq_1 <|
 And.intro @untup.eq_2 <|
 And.intro @isStrV.eq_1 <|
 And.intro @isStrV.eq_2 <|
 And.intro @keyV.eq_1 <|
 And.intro @keyV.eq_2 <|
 And.intro @keyV.eq_3 <|
 And.intro @keyV.eq_4 <|
 And.intro @bndW_some <|
 And.intro @cndW_true <|
 And.intro @vifW_true <|
 And.intro @vifW_false <|
 And.intro @onW_int <|
 And.intro @onW_bool <|
 And.intro @onW_str <|
 And.intro @onW_agg <|
 And.intro @onW_tup <|
 And.intro @onW_sl <|
 And.intro @onW_ptr <|
 And.intro @onW_fn <|
 And.intro @onW_map <|
 And.intro @onW_dat <|
 And.intro @onW_pd <|
 And.intro @onW_raw <|
 And.intro @ev.eq_1 <|
 And.intro @ev.eq_2 <|
 And.intro @ev.eq_3 <|
 And.intro @ev.eq_4 <|
 And.intro @ofV.eq_1 <|
 And.intro @ofV.eq_2 <|
 And.intro @ofV.eq_3 <|
 And.intro @ofV.eq_4 <|
 And.intro @ofV.eq_5 <|
 And.intro @ofV.eq_6 <|
 And.intro @ofV.eq_7 <|
 And.intro @ofV.eq_8 <|
 And.intro @ofV.eq_9 <|
 And.intro @ofV.eq_10 <|
 And.intro @put.eq_1 <|
 And.intro @put.eq_2 <|
 And.intro @upd_ap <|
 And.intro @dstAt.eq_1 <|
 And.intro @dstAt.eq_2 <|
 And.intro @dstAt.eq_3 <|
 And.intro @Bool.not_true <|
 And.intro @Bool.not_false <|
 And.intro @true_and <|
 And.intro @and_true <|
 And.intro @Bool.true_beq <|
 And.intro @Bool.false_beq <|
 And.intro @beq_true <|
 And.intro @beq_false <|
 And.intro @BEq.rfl.{0} <|
 And.intro @if_true.{1} <|
 And.intro @if_false.{1} <|
 And.intro @get_nil <|
 And.intro @get_cons <|
 And.intro @set_nil <|
 And.intro @set_cons <|
 And.intro @at_nil <|
 And.intro @at_st <|
 And.intro @at_arr <|
 And.intro @List.getElem?_toArray.{0} <|
 And.intro @List.getElem?_cons_zero.{0} <|
 And.intro @List.getElem?_cons_succ.{0} <|
 And.intro @List.map_cons.{0,0} <|
 And.intro @List.map_nil.{0,0} <|
 And.intro @Option.map_some.{0,0} <|
 And.intro @Option.map_none.{0,0} <|
 And.intro @List.set_cons_zero.{0} <|
 And.intro @List.set_cons_succ.{0} <|
 And.intro @List.nil_append.{0} <|
 And.intro @List.cons_append.{0} <|
 And.intro @List.append_nil.{0} <|
 And.intro @setParts.eq_1 <|
 And.intro @setParts.eq_2 <|
 And.intro @HasParts.eq_1 <|
 And.intro @HasParts.eq_2 <|
 And.intro @List.length_map.{0,0} <|
 And.intro @List.length_append.{0} <|
 And.intro @List.length_replicate.{0} <|
 And.intro @List.length_set.{0} <|
 And.intro @List.length_cons.{0} <|
 And.intro @List.length_nil.{0} <|
 And.intro @List.length_take.{0} <|
 And.intro @List.length_drop.{0} <|
 And.intro @Nat.zero_le <|
 And.intro @List.take_succ_cons.{0} <|
 And.intro @List.take_zero.{0} <|
 And.intro @List.drop_succ_cons.{0} <|
 And.intro @List.drop_zero.{0} <|
 And.intro @List.take_nil.{0} <|
 And.intro @List.drop_nil.{0} <|
 And.intro @Nat.le_refl <|
 And.intro @slots_cons <|
 And.intro @slots_nil <|
 And.intro @rows_cons <|
 And.intro @rows_nil <|
 And.intro @List.all_cons.{0} <|
 And.intro @List.all_nil.{0} <|
 And.intro @notTup.eq_1 <|
 And.intro @notTup.eq_2 <|
 And.intro @Bool.and_self <|
 And.intro @Bool.and_true <|
 And.intro @Bool.true_and <|
 And.intro @has_str <|
 And.intro @has_int <|
 And.intro @has_bool <|
 And.intro @has_sl <|
 And.intro @has_dat <|
 And.intro @has_ptr <|
 And.intro @has_fn <|
 And.intro @has_map <|
 And.intro @has_pd <|
 And.intro @has_st <|
 And.intro @hasl_c <|
 And.intro @hasl_n <|
 And.intro @Sh.size.eq_1 <|
 And.intro @Sh.size.eq_2 <|
 And.intro @Sh.size.eq_3 <|
 And.intro @Sh.sizes.eq_1 <|
 And.intro @Sh.sizes.eq_2 <|
 And.intro @ne_eq.{1} <|
 And.intro @not_false_eq_true <|
 And.intro @decide_true <|
 And.intro @decide_false <|
 And.intro @Bool.not_not <|
 And.intro @Int.toNat_natCast <|
 And.intro @ite_min <|
 And.intro @ite_max <|
 And.intro @ex_arr <|
 And.intro @Nat.sub_zero <|
 And.intro @Nat.add_zero <|
 And.intro @Nat.zero_add <|
 And.intro @default_str <|
 And.intro @default_u8 <|
 And.intro @List.size_toArray.{0} <|
 And.intro @eq_self.{1} <|
 And.intro @List.replicate_zero.{0} <|
 And.intro @rep_one <|
 And.intro @rep_two <|
 And.intro @rep_three <|
 And.intro @bytes_one <|
 And.intro @bytes_two <|
 And.intro @bytesOf_enc <|
 And.intro @leaf_ptr <|
 And.intro @leaf_int <|
 And.intro @leaf_str <|
 And.intro @leaf_bool <|
 And.intro @leaf_sl <|
 And.intro @leaf_dat <|
 And.intro @leaf_fn <|
 And.intro @leaf_map <|
 And.intro @take_lenMap <|
 And.intro @List.take_length.{0} <|
 And.intro @veq_bool <|
 And.intro @fit_bool <| True.intro
def zhb :=
 And.intro @Go.IntWalk.i64_in <|
 And.intro @Go.IntWalk.i32_in <|
 And.intro @Go.IntWalk.u8_in <|
 And.intro @Go.IntWalk.u64_in <|
 And.intro @Go.IntWalk.u32_in <|
 And.intro @Go.IntWalk.u16_in <|
 And.intro @dvalid <|
 And.intro @mvalid <|
 And.intro @decide_eq_true_eq <|
 And.intro @decide_eq_false_iff_not <|
 And.intro @beq_iff_eq.{0} <|
 And.intro @bne_iff_ne.{0} <|
 And.intro @beq_eq_false_iff_ne.{0} <|
 And.intro @bne_eq_false_iff_eq.{0} <|
 And.intro @ne_eq.{1} <|
 And.intro @Decidable.not_not <|
 And.intro @Bool.not_eq_true' <|
 And.intro @Bool.not_eq_false' <|
 And.intro @Int.not_lt <|
 And.intro @Int.not_le <|
 And.intro @ge_iff_le.{0} <|
 And.intro @gt_iff_lt.{0} <|
 And.intro @List.length_map.{0,0} <|
 And.intro @not_true_eq_false <|
 And.intro @not_false_eq_true <|
 And.intro @Bool.not_true <|
 And.intro @Bool.not_false <|
 And.intro @Bool.true_eq_false <|
 And.intro @Bool.false_eq_true <| True.intro
def zlk :=
 And.intro @ev.eq_1 <|
 And.intro @ev.eq_2 <|
 And.intro @ev.eq_3 <|
 And.intro @ev.eq_4 <|
 And.intro @ofV.eq_1 <|
 And.intro @ofV.eq_2 <|
 And.intro @ofV.eq_3 <|
 And.intro @ofV.eq_4 <|
 And.intro @ofV.eq_5 <|
 And.intro @ofV.eq_6 <|
 And.intro @ofV.eq_7 <|
 And.intro @ofV.eq_8 <|
 And.intro @ofV.eq_9 <|
 And.intro @ofV.eq_10 <|
 And.intro @put.eq_1 <|
 And.intro @put.eq_2 <|
 And.intro @argsF.eq_1 <|
 And.intro @argsF.eq_2 <|
 And.intro @upd_ap <|
 And.intro @slots_cons <|
 And.intro @slots_nil <|
 And.intro @rows_cons <|
 And.intro @rows_nil <|
 And.intro @turn_cons <|
 And.intro @turn_nil <|
 And.intro @if_true.{1} <|
 And.intro @if_false.{1} <| True.intro
def znl :=
 And.intro @nl_slnil <|
 And.intro @nls_append <|
 And.intro @nls_mapB <|
 And.intro @nls_mapStr <|
 And.intro @nls_repInt <|
 And.intro @nls_repBool <|
 And.intro @nls_repStr <|
 And.intro @nls_cons <|
 And.intro @nls_nil <|
 And.intro @nl_int <|
 And.intro @nl_bool <|
 And.intro @nl_str <|
 And.intro @nl_agg <|
 And.intro @nl_dat <|
 And.intro @Bool.and_self <|
 And.intro @Bool.and_true <| True.intro
def ziw :=
 And.intro @Go.IntWalk.i64_in <|
 And.intro @Go.IntWalk.i32_in <|
 And.intro @Go.IntWalk.u8_in <|
 And.intro @Go.IntWalk.u64_in <|
 And.intro @Go.IntWalk.u32_in <|
 And.intro @Go.IntWalk.u16_in <|
 And.intro @dvalid <|
 And.intro @mvalid <|
 And.intro @map_getD <|
 And.intro @rep_get <| True.intro
def zrds :=
 And.intro @rdt_t <|
 And.intro @rdt_i <|
 And.intro @rdt_b <|
 And.intro @rdt_s <|
 And.intro @rdt_a <|
 And.intro @rd_i <|
 And.intro @rd_b <|
 And.intro @rd_s <|
 And.intro @rd_a <|
 And.intro @rdl_c <|
 And.intro @rdl_n <|
 And.intro @and_true <|
 And.intro @true_and <| True.intro
inductive Rl : Prop → Prop → Prop
 | seq {P : Program} {n0 : Nat} {x y : Code} {S : VS} {K : VX → VS → Prop} : Rl (Ok P n0 x S (VX.seq (fun S' => Ok P n0 y S' K) K)) (Ok P n0 (.seq x y) S K)
 | s1 {N : VS → Prop} {K : VX → VS → Prop} {S : VS} : Rl (N S) (VX.seq N K .normal S)
 | s2 {N : VS → Prop} {K : VX → VS → Prop} {S : VS} {i : Nat} : Rl (K (.exit i) S) (VX.seq N K (.exit i) S)
 | s3 {N : VS → Prop} {K : VX → VS → Prop} {S : VS} : Rl (K .ret S) (VX.seq N K .ret S)
 | b1 {i : Nat} {K : VX → VS → Prop} {S : VS} : Rl (K .normal S) (VX.block i K .normal S)
 | b2 {i : Nat} {K : VX → VS → Prop} {S : VS} : Rl (K .normal S) (VX.block i K (.exit i) S)
 | b4 {i : Nat} {K : VX → VS → Prop} {S : VS} : Rl (K .ret S) (VX.block i K .ret S)
 | l2 {α : Type} {n0 : Nat} {fr : α → VS} {I : α → Prop} {μ : α → Nat} {m : Nat} {K : VX → VS → Prop} {S : VS} {i : Nat} : Rl (K (.exit i) S) (LX n0 fr I μ m K (.exit i) S)
 | l3 {α : Type} {n0 : Nat} {fr : α → VS} {I : α → Prop} {μ : α → Nat} {m : Nat} {K : VX → VS → Prop} {S : VS} : Rl (K .ret S) (LX n0 fr I μ m K .ret S)
 | c2 {α : Type} {n0 : Nat} {fr : α → VS} {I : α → Prop} {K : VX → VS → Prop} {S : VS} {i : Nat} : Rl (K (.exit i) S) (CX n0 fr I K (.exit i) S)
 | c3 {α : Type} {n0 : Nat} {fr : α → VS} {I : α → Prop} {K : VX → VS → Prop} {S : VS} : Rl (K .ret S) (CX n0 fr I K .ret S)
 | block {P : Program} {n0 id : Nat} {c : Code} {S : VS} {K : VX → VS → Prop} : Rl (Ok P n0 c S (VX.block id K)) (Ok P n0 (.block id c) S K)
 | scope {P : Program} {n0 : Nat} {c : Code} {S : VS} {K : VX → VS → Prop} : Rl (Ok P n0 c S K) (Ok P n0 (.scope c) S K)
 | skip {P : Program} {n0 : Nat} {S : VS} {K : VX → VS → Prop} : Rl (K .normal S) (Ok P n0 .skip S K)
 | label {P : Program} {n0 l : Nat} {S : VS} {K : VX → VS → Prop} : Rl (K .normal S) (Ok P n0 (.label l) S K)
 | exit {P : Program} {n0 i : Nat} {S : VS} {K : VX → VS → Prop} : Rl (K (.exit i) S) (Ok P n0 (.exit i) S K)
 | ret {P : Program} {n0 : Nat} {S : VS} {K : VX → VS → Prop} : Rl (K .ret S) (Ok P n0 .ret S K)
 | t {A B : Prop} : Rl A (vif true A B)
 | f {A B : Prop} : Rl B (vif false A B)
 | en {P : Program} {rs : List ResultVar} {k : VV → Heap → Nat → Prop} {tm : Nat → VV} {H : Heap} {n : Nat} : Rl (vres P ⟨tm, H, n⟩ rs fun v => k v H n) (fin P rs k .normal ⟨tm, H, n⟩)
 | er {P : Program} {rs : List ResultVar} {k : VV → Heap → Nat → Prop} {tm : Nat → VV} {H : Heap} {n : Nat} : Rl (vres P ⟨tm, H, n⟩ rs fun v => k v H n) (fin P rs k .ret ⟨tm, H, n⟩)
theorem yrl {a b : Prop} (h : Rl a b) (h' : a) : b := by
 cases h with
 | seq => exact jr h'
 | s1 => exact h'
 | s2 => exact h'
 | s3 => exact h'
 | b1 => exact h'
 | b2 => exact xb2 h'
 | b4 => exact h'
 | l2 => exact h'
 | l3 => exact h'
 | c2 => exact h'
 | c3 => exact h'
 | block => exact jl h'
 | scope => exact jm h'
 | skip => exact jn h'
 | label => exact jo h'
 | exit => exact jp h'
 | ret => exact jq h'
 | t => exact vif_t h'
 | f => exact vif_f h'
 | en => exact h'
 | er => exact h'
theorem yqa {P : Program} {f : FuncId} {args : List VV} {H : Heap} {n : Nat} {K : VV → Heap → Nat → Prop} {t : Tag H} {t' : Tag K} {r : VV} (h : Spec P f args r) (hn : nls args = true) (hk : K r H n) (ht : args.all notTup = true := by with_unfolding_all rfl) : vcallW P H K t t' f args n := ja (jc h hn ht hk)
theorem yqb {P : Program} {f : FuncId} {args : List VV} {H : Heap} {n : Nat} {K : VV → Heap → Nat → Prop} {t : Tag H} {t' : Tag K} {r : VV} (h : Spec P f args r) (hn : nls args = true) (hk : K r H n) (ht : args.all notTup = true := by with_unfolding_all rfl) : vcallHW P H K t t' f args n := jb (jd h ht hn) hk
section
variable {n0 : Nat} {σ : List (Nat × Nat)} {H : Heap} {fz : Bool} {tm : Nat → VV}
theorem ya1 {k : IntKind} {a b : Int} (h : a = b := by first | rfl | omega) : MR n0 σ H fz (.int k a) (.int k b) := ju h
theorem ya2 {a b : List UInt8} (h : a = b := by rfl) : MR n0 σ H fz (.str a) (.str b) := jv h
theorem ya3 {a b : Bool} (h : a = b := by rfl) : MR n0 σ H fz (.bool a) (.bool b) := jw h
theorem ya5 {m m' : Nat} {p : List Nat} {i n n' : Nat} (hn : n = n' := by first | rfl | omega) (h : known n0 σ m' := by first | exact jL (by decide) | exact jM (by decide)) (h' : turn σ m' = m := by decide) : MR n0 σ H fz (.sl (some (m, p, i)) n) (.sl (some (m', p, i)) n') := jD h h' hn
theorem ya7 {m m' : Nat} {p : List Nat} (h : known n0 σ m' := by first | exact jL (by decide) | exact jM (by decide)) (h' : turn σ m' = m := by decide) : MR n0 σ H fz (.ptr m p) (.ptr m' p) := MR.ptr h h'
theorem ya8 {m m' : Nat} (h : known n0 σ m' := by first | exact jL (by decide) | exact jM (by decide)) (h' : turn σ m' = m := by decide) : MR n0 σ H fz (.map m) (.map m') := MR.map h h'
theorem ya9 {m k n : Nat} {e : Sh} {els els' : List VV} (h2 : n = els.length) (he : els = els') (h3 : nls els' = true) (h : fz = true := by rfl) (h1 : H m = some (.row (.arr k e) (.agg els)) := by simp only [↓reduceIte,zlk,Nat.reduceEqDiff,reduceCtorEq]; exact rfl) (h4 : m ∉ σ.map (·.2) := by decide) : MR n0 σ H fz (.sl (some (m, [], 0)) n) (.dat e els') := jB h h1 h2 he h3 h4
theorem yb1 {k : Nat} {b0 b : Blk} {l : List (Nat × Blk)} (hm : MB n0 σ H fz b0 b) (h' : AllB n0 σ H fz l) (hk : known n0 σ k := by first | exact jL (by decide) | exact jM (by decide)) (h : H (turn σ k) = some b0 := by simp only [↓reduceIte,zlk,Nat.reduceEqDiff,reduceCtorEq]; exact rfl) : AllB n0 σ H fz ((k, b) :: l) := jH hk h hm h'
theorem yb2 {k : Nat} {b : Blk} {l : List (Nat × Blk)} (h' : AllB n0 σ H fz l) (hk : (decide (k < n0) || (σ.map (·.1)).contains k) = false := by decide) : AllB n0 σ H fz ((k, b) :: l) := jK hk h'
theorem yrn {n n' : Nat} {l : List (Nat × VV)} {h : List (Nat × Blk)} (σ : List (Nat × Nat)) (fz : Bool) (h1 : AllS n0 σ H fz tm l) (h3 : AllB n0 σ H fz h) (hfz : fz = true → n0 = 0 := by first | (intro h; cases h; done) | exact fun _ => rfl) (hσ : jN n0 n' (h.map (·.1)) σ = true := by first | decide | rfl | (simp [jN]; done)) (hn : n0 ≤ n' := by decide) :
  Ren n0 ⟨tm, H, n⟩ ⟨slots l, rows h, n'⟩ := Ren.mk σ fz hfz hσ hn h1 h3
end
inductive YRi : Prop → Bool → Prop → Prop → Prop
 | a {b : Bool} {A B : Prop} : YRi (vif b A B) b A B
 | w {b : Bool} {A B : Prop} {h : Tag A} {h' : Tag B} : YRi (vifW A B h h' b) b A B
theorem yxi {G A B : Prop} {b : Bool} (h1 : b = true → A) (h2 : b = false → B) (h : YRi G b A B := by constructor) : G := by
 cases h with
 | a => exact jg h1 h2
 | w => exact jh h1 h2
theorem yxc {P : Program} {n0 : Nat} {S : VS} {K : VX → VS → Prop} {c : Operand} {x y : Code} {t : Bool} (h : vif t (Ok P n0 x S K) (Ok P n0 y S K)) (hc : ev S.tm c = .bool t := by (simp only [↓reduceIte,zlk,Nat.reduceEqDiff,reduceCtorEq]);exact rfl) : Ok P n0 (.cond c x y) S K := jf hc h
theorem yx3 {i j : Nat} {K : VX → VS → Prop} {S : VS} (h : K (.exit j) S) (hij : j ≠ i := by decide) : VX.block i K (.exit j) S := xb3 hij h
theorem yxw {p q : Prop} {h : Tag q} (h2 : q) (h1 : p := by omega) : cndW q h p := ji h1 h2
theorem yxa {P : Program} {f : FuncId} {args : List VV} {H : Heap} {n : Nat} {K : VV → Heap → Nat → Prop} {t : Tag H} {t' : Tag K} {r : VV} (hn : nls args = true) (hk : K r H n) (h : Spec P f args r := by assumption) (ht : args.all notTup = true := by with_unfolding_all rfl) : vcallW P H K t t' f args n := yqa h hn hk ht
theorem yxb {P : Program} {f : FuncId} {args : List VV} {H : Heap} {n : Nat} {K : VV → Heap → Nat → Prop} {t : Tag H} {t' : Tag K} {r : VV} (hn : nls args = true) (hk : K r H n) (h : Spec P f args r := by assumption) (ht : args.all notTup = true := by with_unfolding_all rfl) : vcallHW P H K t t' f args n := yqb h hn hk ht
end Go.Proofs.Ytpdhdkpebbfnnaa.V
end
section
namespace Go.Proofs.Ytpdhdkpebbfnnaa.V
open Go
set_option maxRecDepth 100000
set_option maxHeartbeats 1000000
structure Pte where
 is : Bool
 wr : Bool
 fr : Int
instance : Inhabited Pte := ⟨⟨false, false, 0⟩⟩
def encPte (p : Pte) : VV := .agg [.bool p.is, .bool p.wr, .int .i64 p.fr]
abbrev encStrs (l : List (List UInt8)) : VV := .dat .cell (l.map .str)
theorem hasPte (x : Pte) : Has (.st [.cell, .cell, .cell]) (encPte x) := by simp [encPte, Has, HasL, VV.leaf]
theorem hasSpace (l : List Pte) (h : l.length = 16) : Has (.arr 16 (.st [.cell, .cell, .cell])) (.agg (l.map encPte)) := has_arrMap h hasPte
theorem jR (l : List Pte) : nls (l.map encPte) = true := nls_map _ (fun _ => rfl) l
end Go.Proofs.Ytpdhdkpebbfnnaa.V
end
section
namespace Go.Proofs.Ytpdhdkpebbfnnaa.V
open Go
theorem ynM2 {l : List VV} (h : nls l = true := by first|rfl|assumption|(simp only [znl];(first|done|fail))) : nls l = true := h
set_option maxRecDepth 100000
set_option maxHeartbeats 1000000
def getLE : List UInt8 → Nat
  | [] => 0
  | b :: l => b.toNat + 256 * getLE l
theorem getLE_lt : ∀ l : List UInt8, getLE l < 256 ^ l.length
  | [] => by simp [getLE]
  | b :: l => by
    have h1 := getLE_lt l
    have h2 := b.toNat_lt
    simp only [getLE,List.length_cons,Nat.pow_succ]
    omega
theorem getLE_snoc : ∀ (l : List UInt8) (b : UInt8), getLE (l ++ [b]) = getLE l + 256 ^ l.length * b.toNat
  | [], b => by simp [getLE]
  | a :: l, b => by
    simp only [List.cons_append,getLE,getLE_snoc l b,List.length_cons,Nat.pow_succ]
    rw [Nat.mul_add, Nat.add_assoc, ← Nat.mul_assoc, Nat.mul_comm 256 (256 ^ l.length)]
theorem take_snoc {α : Type} [Inhabited α] (l : List α) (i : Nat) (h : i < l.length) : l.take (i + 1) = l.take i ++ [l.getD i default] := by
  rw [List.take_succ_eq_append_getElem h]; simp [h]
theorem or_step (l : List UInt8) (b : UInt8) (hl : l.length < 8) : bits .or .u64 (getLE l : Int) (IntKind.u64.wrap (IntKind.u64.wrap (b.toNat : Int) * 2 ^ min (8 * (l.length : Int)).toNat IntKind.u64.bits)) = (getLE (l ++ [b]) : Int) := by
  have h1 := getLE_lt l
  have h2 := b.toNat_lt
  have e1 : IntKind.u64.wrap (b.toNat : Int) = b.toNat := wraps_u64 _ (by omega) (by omega)
  have e2 : min (8 * (l.length : Int)).toNat IntKind.u64.bits = 8 * l.length := by
    have : IntKind.u64.bits = 64 := rfl
    rw [this]; omega
  have e3 : (256 : Nat) ^ l.length = 2 ^ (8 * l.length) := by rw [Nat.pow_mul]
  have e4 : (256 : Nat) ^ l.length * 256 ≤ 2 ^ 64 := by
    have : (256 : Nat) ^ (l.length + 1) ≤ 256 ^ 8 := Nat.pow_le_pow_right (by omega) (by omega)
    rw [Nat.pow_succ] at this
    exact this
  have e5 : b.toNat * 256 ^ l.length < 2 ^ 64 := by
    have : b.toNat * 256 ^ l.length ≤ 255 * 256 ^ l.length := Nat.mul_le_mul_right _ (by omega)
    have : 0 < 256 ^ l.length := Nat.pow_pos (by omega)
    omega
  have e6 : ((b.toNat : Int) * 2 ^ (8 * l.length)) = ((b.toNat * 256 ^ l.length : Nat) : Int) := by rw [e3]; push_cast; rfl
  rw [e1, e2, e6, wraps_u64 _ (by omega) (by exact_mod_cast e5), getLE_snoc]
  have hb := bits_join_low .u64 64 (by decide) (fun n h0 h1 => wraps_u64 n h0 (by simpa using h1)) (8 * l.length) (getLE l : Int) ((b.toNat * 256 ^ l.length : Nat) : Int) (by omega)
    (by rw [e3] at h1; exact_mod_cast h1) (by have : getLE l < 2 ^ 64 := by omega
                                              exact_mod_cast this) (by omega) (by rw [e3]; push_cast; exact Int.mul_emod_left _ _) (by exact_mod_cast e5)
  rw [hb, Nat.mul_comm]
  push_cast
  rfl
theorem num_get_spec (s : List UInt8) (hs : s.length < 2 ^ 62) : Spec Try.prog 141 [.str s] (.int .u64 (getLE (s.take 8))) := by
  refine spec_ok Try.func141 rfl rfl (by kernel_rfl) (k := 1) rfl (by decide) ?_
  repeat' (first|(with_reducible first|refine yrl (by constructor) ?_|refine jk (fun M hM=>?_)|(refine hM _ ?_;clear hM M)|refine yx3 ?_)|((with_reducible refine je ?_)<;>exact ynM2)|(with_reducible refine yxc ?_)|((with_reducible refine yxi (fun hc=>?_) (fun hc=>?_))<;>(try simp (disch:=omega) only [zhb] at hc)<;>(try (exfalso;omega))<;>(try subst hc))|(with_reducible refine yxw ?_)|(simp (config := { maxSteps := 400000 }) only [↓jt,↓reduceIte,zvs,reduceCtorEq,seval,tab,Try.results141,jTA])|(simp (disch:=omega) only [ziw]))
  obtain ⟨b, hb⟩ : ∃ b : Int, b = min (s.length : Int) 8 := ⟨_, rfl⟩
  have hb1 : b ≤ 8 := by omega
  have hb2 : b ≤ s.length := by omega
  have hb3 : 0 ≤ b := by omega
  refine ok_loop (fun k : Nat => ⟨slots [(0, .str s), (2, .int .u64 0), (3, .int .u64 (getLE (s.take k))), (7, .int .i64 b), (8, .int .i64 k)], rows [], 0⟩) (fun k => (k : Int) ≤ b) (fun k => 8 - k) 0 ?_ (by omega) (fun k hk => ?_)
  · (refine yrn [] false ?_ ?_<;>(repeat' (first|(with_reducible first|exact ya1|exact ya2|exact ya3|refine jx rfl (by first|rfl|assumption|(simp only [znl];(first|done|fail)))|exact ya5|exact ya7|exact jy|exact jz|refine jA ?_|refine ya9 ?_ ?_ ?_|refine jC rfl (by first|rfl|assumption|(simp only [znl];(first|done|fail)))|refine MR.agg (MRL.cons ?_ ?_)|refine MR.fn ?_|refine MRL.cons ?_ ?_|exact MRL.nil|refine jE ?_ ?_|exact jF|exact jG|refine yb1 ?_ ?_|refine MB.row ?_|refine jI ?_ ?_|exact ya8|refine jJ rfl (by first|rfl|assumption|(simp only [znl];(first|done|fail)))|refine yb2 ?_|rfl)|(simp only [znl];(first|done|fail))|(simp only [↓reduceIte,zlk,Nat.reduceEqDiff,reduceCtorEq])|(with_reducible first|refine jJ ?_ ?_|refine ya5 ?_|refine ju ?_|refine jv ?_|refine jw ?_|refine jx ?_ (by first|rfl|assumption|(simp only [znl];(first|done|fail)))|refine jC ?_ (by first|rfl|assumption|(simp only [znl];(first|done|fail)))))))
    rfl
  by_cases hlt : (k : Int) < b
  · repeat' (first|(with_reducible first|refine yrl (by constructor) ?_|refine jk (fun M hM=>?_)|(refine hM _ ?_;clear hM M)|refine yx3 ?_)|((with_reducible refine je ?_)<;>exact ynM2)|(with_reducible refine yxc ?_)|((with_reducible refine yxi (fun hc=>?_) (fun hc=>?_))<;>(try simp (disch:=omega) only [zhb] at hc)<;>(try (exfalso;omega))<;>(try subst hc))|(with_reducible refine yxw ?_)|(simp (config := { maxSteps := 400000 }) only [↓jt,↓reduceIte,zvs,reduceCtorEq,seval,tab])|(simp (disch:=omega) only [ziw]))
    refine xl1 (k + 1) ?_ ?_ ?_
    · (refine yrn [] false ?_ ?_<;>(repeat' (first|(with_reducible first|exact ya1|exact ya2|exact ya3|refine jx rfl (by first|rfl|assumption|(simp only [znl];(first|done|fail)))|exact ya5|exact ya7|exact jy|exact jz|refine jA ?_|refine ya9 ?_ ?_ ?_|refine jC rfl (by first|rfl|assumption|(simp only [znl];(first|done|fail)))|refine MR.agg (MRL.cons ?_ ?_)|refine MR.fn ?_|refine MRL.cons ?_ ?_|exact MRL.nil|refine jE ?_ ?_|exact jF|exact jG|refine yb1 ?_ ?_|refine MB.row ?_|refine jI ?_ ?_|exact ya8|refine jJ rfl (by first|rfl|assumption|(simp only [znl];(first|done|fail)))|refine yb2 ?_|rfl)|(simp only [znl];(first|done|fail))|(simp only [↓reduceIte,zlk,Nat.reduceEqDiff,reduceCtorEq])|(with_reducible first|refine jJ ?_ ?_|refine ya5 ?_|refine ju ?_|refine jv ?_|refine jw ?_|refine jx ?_ (by first|rfl|assumption|(simp only [znl];(first|done|fail)))|refine jC ?_ (by first|rfl|assumption|(simp only [znl];(first|done|fail)))))))
      have hk8 : (s.take k).length = k := by rw [List.length_take]; omega
      have := or_step (s.take k) (s.getD k 0) (by omega)
      rw [hk8] at this
      rw [this, take_snoc s k (by omega)]
      rfl
    · show ((k + 1 : Nat) : Int) ≤ b
      omega
    · show 8 - (k + 1) < 8 - k
      omega
  · repeat' (first|(with_reducible first|refine yrl (by constructor) ?_|refine jk (fun M hM=>?_)|(refine hM _ ?_;clear hM M)|refine yx3 ?_)|((with_reducible refine je ?_)<;>exact ynM2)|(with_reducible refine yxc ?_)|((with_reducible refine yxi (fun hc=>?_) (fun hc=>?_))<;>(try simp (disch:=omega) only [zhb] at hc)<;>(try (exfalso;omega))<;>(try subst hc))|(with_reducible refine yxw ?_)|(simp (config := { maxSteps := 400000 }) only [↓jt,↓reduceIte,zvs,reduceCtorEq,seval,tab])|(simp (disch:=omega) only [ziw]))
    simp only [zrds]
    have e : k = min 8 s.length := by omega
    rw [e]
    congr 2
    by_cases h : s.length ≤ 8
    · rw [Nat.min_eq_right h, List.take_of_length_le (Nat.le_refl _), List.take_of_length_le h]
    · rw [Nat.min_eq_left (by omega)]
def putLE (n : Nat) : Nat → List UInt8
  | 0 => []
  | k + 1 => putLE n k ++ [UInt8.ofNat (n / 256 ^ k)]
theorem putLE_len (n : Nat) : ∀ k, (putLE n k).length = k
  | 0 => rfl
  | k + 1 => by simp [putLE, putLE_len n k]
theorem put_step (n k : Nat) (hk : k < 8) : ((putLE n k).map encB ++ List.replicate (8 - k) (VV.int .u8 0)).set k (.int .u8 (IntKind.u8.wrap ((n : Int).fdiv (2 ^ min (8 * (k : Int)).toNat IntKind.u64.bits)))) = (putLE n (k + 1)).map encB ++ List.replicate (8 - (k + 1)) (VV.int .u8 0) := by
  have e1 : min (8 * (k : Int)).toNat IntKind.u64.bits = 8 * k := by
    have : IntKind.u64.bits = 64 := rfl
    rw [this]; omega
  have e2 : IntKind.u8.wrap ((n : Int).fdiv (2 ^ (8 * k))) = ((UInt8.ofNat (n / 256 ^ k)).toNat : Int) := by
    have e3 : (2 : Int) ^ (8 * k) = ((256 ^ k : Nat) : Int) := by
      rw [show (256 : Nat) = 2 ^ 8 from rfl, ← Nat.pow_mul]; push_cast; rfl
    rw [e3, Int.fdiv_eq_ediv_of_nonneg _ (Int.natCast_nonneg _), IntKind.wrap_u8, UInt8.toNat_ofNat']
    push_cast
    rfl
  have hl : ((putLE n k).map encB).length = k := by simp [putLE_len]
  have e4 : List.replicate (8 - k) (VV.int .u8 0) = VV.int .u8 0 :: List.replicate (8 - (k + 1)) (VV.int .u8 0) := by
    rw [show 8 - k = (8 - (k + 1)) + 1 by omega, List.replicate_succ]
  rw [e1, e2, List.set_append_right _ _ (by omega), hl, e4, Nat.sub_self, List.set_cons_zero]
  simp [putLE, encB]
theorem num_put_spec (n : Nat) (hn : n < 2 ^ 64) (size : Int) : Spec Try.prog 105 [.int .u64 n, .int .i64 size] (.str (putLE n (min size.toNat 8))) := by
  refine spec_ok Try.func105 rfl rfl (by kernel_rfl) (k := 2) rfl (by decide) ?_
  repeat' (first|(with_reducible first|refine yrl (by constructor) ?_|refine jk (fun M hM=>?_)|(refine hM _ ?_;clear hM M)|refine yx3 ?_)|((with_reducible refine je ?_)<;>exact ynM2)|(with_reducible refine yxc ?_)|((with_reducible refine yxi (fun hc=>?_) (fun hc=>?_))<;>(try simp (disch:=omega) only [zhb] at hc)<;>(try (exfalso;omega))<;>(try subst hc))|(with_reducible refine yxw ?_)|(simp (config := { maxSteps := 400000 }) only [↓jt,↓reduceIte,zvs,reduceCtorEq,seval,tab,Try.results105,jTA])|(simp (disch:=omega) only [ziw]))
  obtain ⟨m, hm⟩ : ∃ m : Nat, m = min size.toNat 8 := ⟨_, rfl⟩
  refine ok_loop (fun k : Nat => ⟨slots [(0, .int .u64 n), (1, .int .i64 m), (4, .str []), (5, .ptr 0 []), (10, .int .i64 m), (11, .int .i64 k)], rows [(0, .row (.arr 8 .cell) (.agg ((putLE n k).map encB ++ List.replicate (8 - k) (.int .u8 0))))], 1⟩)
    (fun k => k ≤ m) (fun k => 8 - k) 0 ?_ (by omega) (fun k hk => ?_)
  · (refine yrn [(0, 0)] false ?_ ?_<;>(repeat' (first|(with_reducible first|exact ya1|exact ya2|exact ya3|refine jx rfl (by first|rfl|assumption|(simp only [znl];(first|done|fail)))|exact ya5|exact ya7|exact jy|exact jz|refine jA ?_|refine ya9 ?_ ?_ ?_|refine jC rfl (by first|rfl|assumption|(simp only [znl];(first|done|fail)))|refine MR.agg (MRL.cons ?_ ?_)|refine MR.fn ?_|refine MRL.cons ?_ ?_|exact MRL.nil|refine jE ?_ ?_|exact jF|exact jG|refine yb1 ?_ ?_|refine MB.row ?_|refine jI ?_ ?_|exact ya8|refine jJ rfl (by first|rfl|assumption|(simp only [znl];(first|done|fail)))|refine yb2 ?_|rfl)|(simp only [znl];(first|done|fail))|(simp only [↓reduceIte,zlk,Nat.reduceEqDiff,reduceCtorEq])|(with_reducible first|refine jJ ?_ ?_|refine ya5 ?_|refine ju ?_|refine jv ?_|refine jw ?_|refine jx ?_ (by first|rfl|assumption|(simp only [znl];(first|done|fail)))|refine jC ?_ (by first|rfl|assumption|(simp only [znl];(first|done|fail)))))))
  have hl : ((putLE n k).map encB ++ List.replicate (8 - k) (VV.int .u8 0)).length = 8 := by rw [List.length_append, List.length_map, List.length_replicate, putLE_len]; omega
  by_cases hlt : k < m
  · have hg : ((putLE n k).map encB ++ List.replicate (8 - k) (VV.int .u8 0))[k]? = some (.int .u8 0) := by
      rw [List.getElem?_append_right (by simp [putLE_len]), List.getElem?_replicate, if_pos (by rw [List.length_map, putLE_len]; omega)]
    repeat' (first|(with_reducible first|refine yrl (by constructor) ?_|refine jk (fun M hM=>?_)|(refine hM _ ?_;clear hM M)|refine yx3 ?_)|((with_reducible refine je ?_)<;>exact ynM2)|(with_reducible refine yxc ?_)|((with_reducible refine yxi (fun hc=>?_) (fun hc=>?_))<;>(try simp (disch:=omega) only [zhb] at hc)<;>(try (exfalso;omega))<;>(try subst hc))|(with_reducible refine yxw ?_)|(simp (config := { maxSteps := 400000 }) only [↓jt,↓reduceIte,zvs,reduceCtorEq,seval,tab,hg])|(simp (disch:=omega) only [ziw]))
    refine xl1 (k + 1) ?_ (by omega) (by show 8 - (k + 1) < 8 - k; omega)
    (refine yrn [(0, 0)] false ?_ ?_<;>(repeat' (first|(with_reducible first|exact ya1|exact ya2|exact ya3|refine jx rfl (by first|rfl|assumption|(simp only [znl];(first|done|fail)))|exact ya5|exact ya7|exact jy|exact jz|refine jA ?_|refine ya9 ?_ ?_ ?_|refine jC rfl (by first|rfl|assumption|(simp only [znl];(first|done|fail)))|refine MR.agg (MRL.cons ?_ ?_)|refine MR.fn ?_|refine MRL.cons ?_ ?_|exact MRL.nil|refine jE ?_ ?_|exact jF|exact jG|refine yb1 ?_ ?_|refine MB.row ?_|refine jI ?_ ?_|exact ya8|refine jJ rfl (by first|rfl|assumption|(simp only [znl];(first|done|fail)))|refine yb2 ?_|rfl)|(simp only [znl];(first|done|fail))|(simp only [↓reduceIte,zlk,Nat.reduceEqDiff,reduceCtorEq])|(with_reducible first|refine jJ ?_ ?_|refine ya5 ?_|refine ju ?_|refine jv ?_|refine jw ?_|refine jx ?_ (by first|rfl|assumption|(simp only [znl];(first|done|fail)))|refine jC ?_ (by first|rfl|assumption|(simp only [znl];(first|done|fail)))))))
    rw [put_step n k (by omega)]
  · have e : k = m := by omega
    subst e
    have hb : bytesOf (((putLE n k).map encB ++ List.replicate (8 - k) (VV.int .u8 0)).take k) = some (putLE n k) := by
      rw [List.take_append_of_le_length (by simp [putLE_len]), List.take_of_length_le (by simp [putLE_len]), bytesOf_enc]
    repeat' (first|(with_reducible first|refine yrl (by constructor) ?_|refine jk (fun M hM=>?_)|(refine hM _ ?_;clear hM M)|refine yx3 ?_)|((with_reducible refine je ?_)<;>exact ynM2)|(with_reducible refine yxc ?_)|((with_reducible refine yxi (fun hc=>?_) (fun hc=>?_))<;>(try simp (disch:=omega) only [zhb] at hc)<;>(try (exfalso;omega))<;>(try subst hc))|(with_reducible refine yxw ?_)|(simp (config := { maxSteps := 400000 }) only [↓jt,↓reduceIte,zvs,reduceCtorEq,seval,tab,hl,hb])|(simp (disch:=omega) only [ziw]))
    simp only [zrds]
    rw [← hm]
end Go.Proofs.Ytpdhdkpebbfnnaa.V
end
section
namespace Go.Proofs.Ytpdhdkpebbfnnaa.V
open Go
set_option maxRecDepth 100000
set_option maxHeartbeats 1000000
abbrev Frames := List (List UInt8)
def fits (l : Frames) : Prop := l.length < 2 ^ 36 ∧ ∀ s ∈ l, s.length < 2 ^ 36
end Go.Proofs.Ytpdhdkpebbfnnaa.V
end
section
namespace Go.Proofs
open Go.Shelf
def Try.lays170_ren : Go.Shelf.Ren := ⟨fun | 170 => 83 | n => n, fun | 70 => 134 | 3 => 3 | 0 => 0 | 72 => 136 | 37 => 116 | 5 => 5 | n => n, fun | n => n⟩
theorem Try.lays170 : Go.Proofs.Lays.n170 Try.prog Try.lays170_ren := {
 mixed := by kernel_rfl
 f170 := Try.func83.trans (congrArg some (by kernel_rfl))
 t0 := Try.underlying0
 a0 := Try.isAgg0
 z0 := Try.sizeOf0
 v0 := Try.zeroValue0
 t3 := Try.underlying3
 a3 := Try.isAgg3
 z3 := Try.sizeOf3
 v3 := Try.zeroValue3
 t37 := Try.underlying116
 a37 := Try.isAgg116
 z37 := Try.sizeOf116
 v37 := Try.zeroValue116
 t70 := Try.underlying134
 a70 := Try.isAgg134
 z70 := Try.sizeOf134
 v70 := Try.zeroValue134
 t72 := Try.underlying136
 a72 := Try.isAgg136
 z72 := Try.sizeOf136
 v72 := Try.zeroValue136 }
open Go.RowKit in
theorem Try.Builder_Len (B b : Nat) (bs : List Value) (w : World) (h : Lib.IsBuilder 136 5 B b bs w) :
  Calls Try.prog 83 #[.pointer (some ⟨b, 0, none⟩)] w fun e w' => e = .returned (.int .i64 bs.length) ∧ w' = w := Any.Builder_Len Try.lays170 B b bs w h
def Try.lays169_ren : Go.Shelf.Ren := ⟨fun | 169 => 84 | n => n, fun | 70 => 134 | 9 => 9 | 0 => 0 | 72 => 136 | 37 => 116 | 127 => 176 | 3 => 3 | 5 => 5 | n => n, fun | n => n⟩
theorem Try.lays169 : Go.Proofs.Lays.n169 Try.prog Try.lays169_ren := {
 mixed := by kernel_rfl
 f169 := Try.func84.trans (congrArg some (by kernel_rfl))
 t0 := Try.underlying0
 a0 := Try.isAgg0
 z0 := Try.sizeOf0
 v0 := Try.zeroValue0
 t3 := Try.underlying3
 a3 := Try.isAgg3
 z3 := Try.sizeOf3
 v3 := Try.zeroValue3
 t9 := Try.underlying9
 a9 := Try.isAgg9
 z9 := Try.sizeOf9
 v9 := Try.zeroValue9
 t37 := Try.underlying116
 a37 := Try.isAgg116
 z37 := Try.sizeOf116
 v37 := Try.zeroValue116
 t70 := Try.underlying134
 a70 := Try.isAgg134
 z70 := Try.sizeOf134
 v70 := Try.zeroValue134
 t72 := Try.underlying136
 a72 := Try.isAgg136
 z72 := Try.sizeOf136
 v72 := Try.zeroValue136
 t127 := Try.underlying176
 a127 := Try.isAgg176
 z127 := Try.sizeOf176
 v127 := Try.zeroValue176 }
theorem Try.Builder_Extra_169 : Builder.Extra Try.prog Try.lays169_ren := {
 sizeBuilder := by kernel_rfl
 liesBuilder := by kernel_rfl
 t5 := Try.underlying5
 a5 := Try.isAgg5
 z5 := Try.sizeOf5
 v5 := Try.zeroValue5
 infoByte := by kernel_rfl
 cellsByte := by kernel_rfl
 sizeByte := by kernel_rfl
 neB5 := by decide }
open Go.RowKit in
theorem Try.Builder_String (B b : Nat) (l : List UInt8) (w : World) (h : Lib.IsBuilder 136 5 B b (Lib.byteCells l) w) (h0 : l ≠ []) :
  Calls Try.prog 84 #[.pointer (some ⟨b, 0, none⟩)] w fun e w' => e = .returned (.string ⟨l.toArray⟩) ∧ Below B w w' := Any.Builder_String Try.lays169 Try.Builder_Extra_169 B b l w h h0
open Go.RowKit in
theorem Try.Builder_String_empty (B b : Nat) (w : World) (h : Lib.IsBuilder 136 5 B b [] w) (hBw : B ≤ w.heap.size) :
  Calls Try.prog 84 #[.pointer (some ⟨b, 0, none⟩)] w fun e w' => e = .returned (.string ⟨#[]⟩) ∧ Below B w w' := Any.Builder_String_empty Try.lays169 Try.Builder_Extra_169 B b w h hBw
open Go.RowKit in
theorem Try.Builder_String_any (B b : Nat) (l : List UInt8) (w : World) (h : Lib.IsBuilder 136 5 B b (Lib.byteCells l) w) (hBw : B ≤ w.heap.size) :
  Calls Try.prog 84 #[.pointer (some ⟨b, 0, none⟩)] w fun e w' => e = .returned (.string ⟨l.toArray⟩) ∧ Below B w w' := Any.Builder_String_any Try.lays169 Try.Builder_Extra_169 B b l w h hBw
def Try.lays241_ren : Go.Shelf.Ren := ⟨fun | 241 => 119 | 277 => 145 | n => n, fun | 70 => 134 | 3 => 3 | 0 => 0 | 72 => 136 | 37 => 116 | 5 => 5 | n => n, fun | n => n⟩
theorem Try.lays241 : Go.Proofs.Lays.n241 Try.prog Try.lays241_ren := {
 mixed := by kernel_rfl
 f241 := Try.func119.trans (congrArg some (by kernel_rfl))
 f277 := Try.func145.trans (congrArg some (by kernel_rfl))
 t0 := Try.underlying0
 a0 := Try.isAgg0
 z0 := Try.sizeOf0
 v0 := Try.zeroValue0
 t3 := Try.underlying3
 a3 := Try.isAgg3
 z3 := Try.sizeOf3
 v3 := Try.zeroValue3
 t37 := Try.underlying116
 a37 := Try.isAgg116
 z37 := Try.sizeOf116
 v37 := Try.zeroValue116
 t70 := Try.underlying134
 a70 := Try.isAgg134
 z70 := Try.sizeOf134
 v70 := Try.zeroValue134
 t72 := Try.underlying136
 a72 := Try.isAgg136
 z72 := Try.sizeOf136
 v72 := Try.zeroValue136 }
theorem Try.Builder_Extra_241 : Builder.Extra Try.prog Try.lays241_ren := {
 sizeBuilder := by kernel_rfl
 liesBuilder := by kernel_rfl
 t5 := Try.underlying5
 a5 := Try.isAgg5
 z5 := Try.sizeOf5
 v5 := Try.zeroValue5
 infoByte := by kernel_rfl
 cellsByte := by kernel_rfl
 sizeByte := by kernel_rfl
 neB5 := by decide }
open Go.RowKit in
theorem Try.Builder_grow_fresh (B b n : Nat) (w : World) (hB : B ≤ b) (hbk : w.heap[b]? = some (.cells #[.pointer (some ⟨b, 0, none⟩), .slice none 0 0] 136 (0, 0))) (hBw : B ≤ w.heap.size) (hn : n ≤ 281474976710656) :
  Calls Try.prog 119 #[.pointer (some ⟨b, 0, none⟩), .int .i64 n] w fun e w' => e = .returned (.tuple #[]) ∧ (Lib.BuilderAt 136 5 B b (.pointer (some ⟨b, 0, none⟩)) [] w' ∧ Below B w w') := Any.Builder_grow_fresh Try.lays241 Try.Builder_Extra_241 B b n w hB hbk hBw hn
def Try.lays165_ren : Go.Shelf.Ren := ⟨fun | 165 => 81 | 240 => 118 | 241 => 119 | 276 => 144 | 277 => 145 | n => n, fun | 70 => 134 | 3 => 3 | 0 => 0 | 4 => 4 | 9 => 9 | 20 => 20 | 72 => 136 | 37 => 116 | 164 => 184 | 5 => 5 | n => n, fun | n => n⟩
theorem Try.lays165 : Go.Proofs.Lays.n165 Try.prog Try.lays165_ren := {
 mixed := by kernel_rfl
 f165 := Try.func81.trans (congrArg some (by kernel_rfl))
 f240 := Try.func118.trans (congrArg some (by kernel_rfl))
 f241 := Try.func119.trans (congrArg some (by kernel_rfl))
 f276 := Try.func144.trans (congrArg some (by kernel_rfl))
 f277 := Try.func145.trans (congrArg some (by kernel_rfl))
 t0 := Try.underlying0
 a0 := Try.isAgg0
 z0 := Try.sizeOf0
 v0 := Try.zeroValue0
 t3 := Try.underlying3
 a3 := Try.isAgg3
 z3 := Try.sizeOf3
 v3 := Try.zeroValue3
 t4 := Try.underlying4
 a4 := Try.isAgg4
 z4 := Try.sizeOf4
 v4 := Try.zeroValue4
 t9 := Try.underlying9
 a9 := Try.isAgg9
 z9 := Try.sizeOf9
 v9 := Try.zeroValue9
 t20 := Try.underlying20
 a20 := Try.isAgg20
 z20 := Try.sizeOf20
 v20 := Try.zeroValue20
 t37 := Try.underlying116
 a37 := Try.isAgg116
 z37 := Try.sizeOf116
 v37 := Try.zeroValue116
 t70 := Try.underlying134
 a70 := Try.isAgg134
 z70 := Try.sizeOf134
 v70 := Try.zeroValue134
 t72 := Try.underlying136
 a72 := Try.isAgg136
 z72 := Try.sizeOf136
 v72 := Try.zeroValue136
 t164 := Try.underlying184
 a164 := Try.isAgg184
 z164 := Try.sizeOf184
 v164 := Try.zeroValue184 }
theorem Try.Builder_Extra_165 : Builder.Extra Try.prog Try.lays165_ren := {
 sizeBuilder := by kernel_rfl
 liesBuilder := by kernel_rfl
 t5 := Try.underlying5
 a5 := Try.isAgg5
 z5 := Try.sizeOf5
 v5 := Try.zeroValue5
 infoByte := by kernel_rfl
 cellsByte := by kernel_rfl
 sizeByte := by kernel_rfl
 neB5 := by decide }
open Go.RowKit in
theorem Try.Builder_Grow_fresh (B b n : Nat) (w : World) (hB : B ≤ b) (hbk : w.heap[b]? = some (.cells #[.pointer none, .slice none 0 0] 136 (0, 0))) (hBw : B ≤ w.heap.size) (hn : n ≤ 281474976710656) :
  Calls Try.prog 81 #[.pointer (some ⟨b, 0, none⟩), .int .i64 n] w fun e w' => e = .returned (.tuple #[]) ∧ (Lib.BuilderAt 136 5 B b (.pointer (some ⟨b, 0, none⟩)) [] w' ∧ Below B w w') := Any.Builder_Grow_fresh Try.lays165 Try.Builder_Extra_165 B b n w hB hbk hBw hn
open Go.RowKit in
theorem Try.Builder_Len_f (B b : Nat) (bs : List Value) (w : World) (h : Lib.IsBuilderF 136 5 B b bs w) :
  Calls Try.prog 83 #[.pointer (some ⟨b, 0, none⟩)] w fun e w' => e = .returned (.int .i64 bs.length) ∧ w' = w := Any.Builder_Len_f Try.lays170 B b bs w h
open Go.RowKit in
theorem Try.Builder_String_f (B b : Nat) (l : List UInt8) (w : World) (h : Lib.IsBuilderF 136 5 B b (Lib.byteCells l) w) (h0 : l ≠ []) :
  Calls Try.prog 84 #[.pointer (some ⟨b, 0, none⟩)] w fun e w' => e = .returned (.string ⟨l.toArray⟩) ∧ (Lib.IsBuilderF 136 5 B b (Lib.byteCells l) w' ∧ Below B w w') := Any.Builder_String_f Try.lays169 Try.Builder_Extra_169 B b l w h h0
open Go.RowKit in
theorem Try.Builder_String_empty_f (B b : Nat) (w : World) (h : Lib.IsBuilderF 136 5 B b [] w) (hBw : B ≤ w.heap.size) :
  Calls Try.prog 84 #[.pointer (some ⟨b, 0, none⟩)] w fun e w' => e = .returned (.string ⟨#[]⟩) ∧ (Lib.IsBuilderF 136 5 B b [] w' ∧ Below B w w') := Any.Builder_String_empty_f Try.lays169 Try.Builder_Extra_169 B b w h hBw
open Go.RowKit in
theorem Try.Builder_String_any_f (B b : Nat) (l : List UInt8) (w : World) (h : Lib.IsBuilderF 136 5 B b (Lib.byteCells l) w) (hBw : B ≤ w.heap.size) :
  Calls Try.prog 84 #[.pointer (some ⟨b, 0, none⟩)] w fun e w' => e = .returned (.string ⟨l.toArray⟩) ∧ (Lib.IsBuilderF 136 5 B b (Lib.byteCells l) w' ∧ Below B w w') := Any.Builder_String_any_f Try.lays169 Try.Builder_Extra_169 B b l w h hBw
open Go.RowKit in
theorem Try.Builder_String_k (B b : Nat) (l : List UInt8) (w : World) (h : Lib.IsBuilderF 136 5 B b (Lib.byteCells l) w) (h0 : l ≠ []) :
  Calls Try.prog 84 #[.pointer (some ⟨b, 0, none⟩)] w fun e w' => e = .returned (.string ⟨l.toArray⟩) ∧ (Lib.IsBuilderF 136 5 B b (Lib.byteCells l) w' ∧ Below B w w' ∧ Lib.OthersKept 5 (some b) w w') := Any.Builder_String_k Try.lays169 Try.Builder_Extra_169 B b l w h h0
open Go.RowKit in
theorem Try.Builder_String_empty_k (B b : Nat) (w : World) (h : Lib.IsBuilderF 136 5 B b [] w) (hBw : B ≤ w.heap.size) :
  Calls Try.prog 84 #[.pointer (some ⟨b, 0, none⟩)] w fun e w' => e = .returned (.string ⟨#[]⟩) ∧ (Lib.IsBuilderF 136 5 B b [] w' ∧ Below B w w' ∧ Lib.OthersKept 5 (some b) w w') := Any.Builder_String_empty_k Try.lays169 Try.Builder_Extra_169 B b w h hBw
open Go.RowKit in
theorem Try.Builder_String_any_k (B b : Nat) (l : List UInt8) (w : World) (h : Lib.IsBuilderF 136 5 B b (Lib.byteCells l) w) (hBw : B ≤ w.heap.size) :
  Calls Try.prog 84 #[.pointer (some ⟨b, 0, none⟩)] w fun e w' => e = .returned (.string ⟨l.toArray⟩) ∧ (Lib.IsBuilderF 136 5 B b (Lib.byteCells l) w' ∧ Below B w w' ∧ Lib.OthersKept 5 (some b) w w') := Any.Builder_String_any_k Try.lays169 Try.Builder_Extra_169 B b l w h hBw
open Go.RowKit in
theorem Try.Builder_grow_fresh_cap (B b n : Nat) (w : World) (hB : B ≤ b) (hbk : w.heap[b]? = some (.cells #[.pointer (some ⟨b, 0, none⟩), .slice none 0 0] 136 (0, 0))) (hBw : B ≤ w.heap.size) (hn : n ≤ 281474976710656) :
  Calls Try.prog 119 #[.pointer (some ⟨b, 0, none⟩), .int .i64 n] w fun e w' => e = .returned (.tuple #[]) ∧ (Lib.BuilderAt 136 5 B b (.pointer (some ⟨b, 0, none⟩)) [] w' ∧ Below B w w') ∧ ∃ p cap, w'.cell? ⟨b, 1, none⟩ = some (.slice p 0 cap) ∧ n ≤ cap := Any.Builder_grow_fresh_cap Try.lays241 Try.Builder_Extra_241 B b n w hB hbk hBw hn
open Go.RowKit in
theorem Try.Builder_Grow_fresh_cap (B b n : Nat) (w : World) (hB : B ≤ b) (hbk : w.heap[b]? = some (.cells #[.pointer none, .slice none 0 0] 136 (0, 0))) (hBw : B ≤ w.heap.size) (hn : n ≤ 281474976710656) :
  Calls Try.prog 81 #[.pointer (some ⟨b, 0, none⟩), .int .i64 n] w fun e w' => e = .returned (.tuple #[]) ∧ (Lib.BuilderAt 136 5 B b (.pointer (some ⟨b, 0, none⟩)) [] w' ∧ Below B w w') ∧ ∃ p cap, w'.cell? ⟨b, 1, none⟩ = some (.slice p 0 cap) ∧ n ≤ cap := Any.Builder_Grow_fresh_cap Try.lays165 Try.Builder_Extra_165 B b n w hB hbk hBw hn
def Try.lays206_ren : Go.Shelf.Ren := ⟨fun | 206 => 117 | n => n, fun | 9 => 9 | 4 => 4 | 3 => 3 | n => n, fun | n => n⟩
theorem Try.lays206 : Go.Proofs.Lays.n206 Try.prog Try.lays206_ren := {
 mixed := by kernel_rfl
 f206 := Try.func117.trans (congrArg some (by kernel_rfl))
 t3 := Try.underlying3
 a3 := Try.isAgg3
 z3 := Try.sizeOf3
 v3 := Try.zeroValue3
 t4 := Try.underlying4
 a4 := Try.isAgg4
 z4 := Try.sizeOf4
 v4 := Try.zeroValue4
 t9 := Try.underlying9
 a9 := Try.isAgg9
 z9 := Try.sizeOf9
 v9 := Try.zeroValue9 }
open Go.RowKit Go.Lib in
theorem Try.stringslite_HasPrefix (s p : ByteArray) (w : World) :
  Calls Try.prog 117 #[.string s, .string p] w fun e w' => e = .returned (.bool (Lib.hasPrefix s.data.toList p.data.toList)) ∧ w' = w := Any.stringslite_HasPrefix Try.lays206 s p w
def Try.lays99_ren : Go.Shelf.Ren := ⟨fun | 99 => 80 | 206 => 117 | n => n, fun | 9 => 9 | 4 => 4 | 3 => 3 | n => n, fun | n => n⟩
theorem Try.lays99 : Go.Proofs.Lays.n99 Try.prog Try.lays99_ren := {
 mixed := by kernel_rfl
 f99 := Try.func80.trans (congrArg some (by kernel_rfl))
 f206 := Try.func117.trans (congrArg some (by kernel_rfl))
 t3 := Try.underlying3
 a3 := Try.isAgg3
 z3 := Try.sizeOf3
 v3 := Try.zeroValue3
 t4 := Try.underlying4
 a4 := Try.isAgg4
 z4 := Try.sizeOf4
 v4 := Try.zeroValue4
 t9 := Try.underlying9
 a9 := Try.isAgg9
 z9 := Try.sizeOf9
 v9 := Try.zeroValue9 }
open Go.RowKit Go.Lib in
theorem Try.strings_HasPrefix (s p : ByteArray) (w : World) :
  Calls Try.prog 80 #[.string s, .string p] w fun e w' => e = .returned (.bool (Lib.hasPrefix s.data.toList p.data.toList)) ∧ w' = w := Any.strings_HasPrefix Try.lays99 s p w
def Try.lays264_ren : Go.Shelf.Ren := ⟨fun | 264 => 116 | n => n, fun | 53 => 22 | 46 => 130 | n => n, fun | n => n⟩
theorem Try.lays264 : Go.Proofs.Lays.n264 Try.prog Try.lays264_ren := {
 mixed := by kernel_rfl
 f264 := Try.func116.trans (congrArg some (by kernel_rfl))
 t46 := Try.underlying130
 a46 := Try.isAgg130
 z46 := Try.sizeOf130
 v46 := Try.zeroValue130
 t53 := Try.underlying22
 a53 := Try.isAgg22
 z53 := Try.sizeOf22
 v53 := Try.zeroValue22 }
open Go.RowKit Go.Lib in
theorem Try.bits_Mul64 (x y : Nat) (hx : x < 18446744073709551616) (hy : y < 18446744073709551616) (w : World) :
  Calls Try.prog 116 #[.int .u64 x, .int .u64 y] w fun e w' => e = .returned (.tuple #[.int .u64 ((x * y / 18446744073709551616 : Nat) : Int), .int .u64 ((x * y % 18446744073709551616 : Nat) : Int)]) ∧ w' = w := Any.bits_Mul64 Try.lays264 x y hx hy w
def Try.lays212_ren : Go.Shelf.Ren := ⟨fun | 212 => 79 | 263 => 115 | 264 => 116 | n => n, fun | 46 => 130 | 51 => 32 | 146 => 172 | 53 => 22 | 148 => 174 | n => n, fun | n => n⟩
theorem Try.lays212 : Go.Proofs.Lays.n212 Try.prog Try.lays212_ren := {
 mixed := by kernel_rfl
 f212 := Try.func79.trans (congrArg some (by kernel_rfl))
 f263 := Try.func115.trans (congrArg some (by kernel_rfl))
 f264 := Try.func116.trans (congrArg some (by kernel_rfl))
 t46 := Try.underlying130
 a46 := Try.isAgg130
 z46 := Try.sizeOf130
 v46 := Try.zeroValue130
 t51 := Try.underlying32
 a51 := Try.isAgg32
 z51 := Try.sizeOf32
 v51 := Try.zeroValue32
 t53 := Try.underlying22
 a53 := Try.isAgg22
 z53 := Try.sizeOf22
 v53 := Try.zeroValue22
 t146 := Try.underlying172
 a146 := Try.isAgg172
 z146 := Try.sizeOf172
 v146 := Try.zeroValue172
 t148 := Try.underlying174
 a148 := Try.isAgg174
 z148 := Try.sizeOf174
 v148 := Try.zeroValue174 }
open Go.RowKit Go.Lib in
theorem Try.bits_Mul (x y : Nat) (hx : x < 18446744073709551616) (hy : y < 18446744073709551616) (w : World) :
  Calls Try.prog 79 #[.int .u64 x, .int .u64 y] w fun e w' => e = .returned (.tuple #[.int .u64 ((x * y / 18446744073709551616 : Nat) : Int), .int .u64 ((x * y % 18446744073709551616 : Nat) : Int)]) ∧ w' = w := Any.bits_Mul Try.lays212 x y hx hy w
def Try.lays105_ren : Go.Shelf.Ren := ⟨fun | 105 => 38 | 212 => 79 | 99 => 80 | 165 => 81 | 166 => 82 | 170 => 83 | 169 => 84 | 263 => 115 | 264 => 116 | 206 => 117 | 240 => 118 | 241 => 119 | 276 => 144 | 277 => 145 | n => n, fun | 9 => 9 | 3 => 3 | 4 => 4 | 20 => 20 | 0 => 0 | 46 => 130 | 109 => 131 | 5 => 5 | 72 => 136 | 76 => 140 | 51 => 32 | 146 => 172 | 53 => 22 | 148 => 174 | 70 => 134 | 37 => 116 | 75 => 139 | 127 => 176 | 164 => 184 | 80 => 104 | n => n, fun | n => n⟩
theorem Try.lays105 : Go.Proofs.Lays.n105 Try.prog Try.lays105_ren := {
 mixed := by kernel_rfl
 f99 := Try.func80.trans (congrArg some (by kernel_rfl))
 f105 := Try.func38.trans (congrArg some (by kernel_rfl))
 f165 := Try.func81.trans (congrArg some (by kernel_rfl))
 f166 := Try.func82.trans (congrArg some (by kernel_rfl))
 f169 := Try.func84.trans (congrArg some (by kernel_rfl))
 f170 := Try.func83.trans (congrArg some (by kernel_rfl))
 f206 := Try.func117.trans (congrArg some (by kernel_rfl))
 f212 := Try.func79.trans (congrArg some (by kernel_rfl))
 f240 := Try.func118.trans (congrArg some (by kernel_rfl))
 f241 := Try.func119.trans (congrArg some (by kernel_rfl))
 f263 := Try.func115.trans (congrArg some (by kernel_rfl))
 f264 := Try.func116.trans (congrArg some (by kernel_rfl))
 f276 := Try.func144.trans (congrArg some (by kernel_rfl))
 f277 := Try.func145.trans (congrArg some (by kernel_rfl))
 t0 := Try.underlying0
 a0 := Try.isAgg0
 z0 := Try.sizeOf0
 v0 := Try.zeroValue0
 t3 := Try.underlying3
 a3 := Try.isAgg3
 z3 := Try.sizeOf3
 v3 := Try.zeroValue3
 t4 := Try.underlying4
 a4 := Try.isAgg4
 z4 := Try.sizeOf4
 v4 := Try.zeroValue4
 t5 := Try.underlying5
 a5 := Try.isAgg5
 z5 := Try.sizeOf5
 v5 := Try.zeroValue5
 t9 := Try.underlying9
 a9 := Try.isAgg9
 z9 := Try.sizeOf9
 v9 := Try.zeroValue9
 t20 := Try.underlying20
 a20 := Try.isAgg20
 z20 := Try.sizeOf20
 v20 := Try.zeroValue20
 t37 := Try.underlying116
 a37 := Try.isAgg116
 z37 := Try.sizeOf116
 v37 := Try.zeroValue116
 t46 := Try.underlying130
 a46 := Try.isAgg130
 z46 := Try.sizeOf130
 v46 := Try.zeroValue130
 t51 := Try.underlying32
 a51 := Try.isAgg32
 z51 := Try.sizeOf32
 v51 := Try.zeroValue32
 t53 := Try.underlying22
 a53 := Try.isAgg22
 z53 := Try.sizeOf22
 v53 := Try.zeroValue22
 t70 := Try.underlying134
 a70 := Try.isAgg134
 z70 := Try.sizeOf134
 v70 := Try.zeroValue134
 t72 := Try.underlying136
 a72 := Try.isAgg136
 z72 := Try.sizeOf136
 v72 := Try.zeroValue136
 t75 := Try.underlying139
 a75 := Try.isAgg139
 z75 := Try.sizeOf139
 v75 := Try.zeroValue139
 t76 := Try.underlying140
 a76 := Try.isAgg140
 z76 := Try.sizeOf140
 v76 := Try.zeroValue140
 t109 := Try.underlying131
 a109 := Try.isAgg131
 z109 := Try.sizeOf131
 v109 := Try.zeroValue131
 t127 := Try.underlying176
 a127 := Try.isAgg176
 z127 := Try.sizeOf176
 v127 := Try.zeroValue176
 t146 := Try.underlying172
 a146 := Try.isAgg172
 z146 := Try.sizeOf172
 v146 := Try.zeroValue172
 t148 := Try.underlying174
 a148 := Try.isAgg174
 z148 := Try.sizeOf174
 v148 := Try.zeroValue174
 t164 := Try.underlying184
 a164 := Try.isAgg184
 z164 := Try.sizeOf184
 v164 := Try.zeroValue184 }
theorem Try.Builder_Extra_105 : Builder.Extra Try.prog Try.lays105_ren := {
 sizeBuilder := by kernel_rfl
 liesBuilder := by kernel_rfl
 t5 := Try.underlying5
 a5 := Try.isAgg5
 z5 := Try.sizeOf5
 v5 := Try.zeroValue5
 infoByte := by kernel_rfl
 cellsByte := by kernel_rfl
 sizeByte := by kernel_rfl
 neB5 := by decide }
open Go.RowKit Go.Lib in
theorem Try.strings_Repeat_main (s : ByteArray) (c : Nat) (w : World) (hc2 : 2 ≤ c) (hc : c ≤ 9223372036854775807) (hlen : s.size * c ≤ 140737488355328) (h0 : 0 < s.size) :
  Calls Try.prog 38 #[.string s, .int .i64 c] w fun e w' => e = .returned (.string ⟨(Lib.repeatL s.data.toList c).toArray⟩) ∧ Below w.heap.size w w' := Any.strings_Repeat_main Try.lays105 Try.Builder_Extra_105 s c w hc2 hc hlen h0
open Go.RowKit Go.Lib in
theorem Try.strings_Repeat_zero (s : ByteArray) (w : World) :
  Calls Try.prog 38 #[.string s, .int .i64 0] w fun e w' => e = .returned (.string ⟨#[]⟩) ∧ w' = w := Any.strings_Repeat_zero Try.lays105 s w
open Go.RowKit Go.Lib in
theorem Try.strings_Repeat_one (s : ByteArray) (w : World) :
  Calls Try.prog 38 #[.string s, .int .i64 1] w fun e w' => e = .returned (.string s) ∧ w' = w := Any.strings_Repeat_one Try.lays105 s w
open Go.RowKit Go.Lib in
theorem Try.strings_Repeat_empty (s : ByteArray) (c : Nat) (w : World) (hc2 : 2 ≤ c) (hc : c ≤ 9223372036854775807) (h0 : s.size = 0) :
  Calls Try.prog 38 #[.string s, .int .i64 c] w fun e w' => e = .returned (.string ⟨#[]⟩) ∧ w' = w := Any.strings_Repeat_empty Try.lays105 s c w hc2 hc h0
open Go.RowKit Go.Lib in
theorem Try.strings_Repeat_negative (s : ByteArray) (c : Int) (w : World) (hc : c < 0) :
  Calls Try.prog 38 #[.string s, .int .i64 c] w fun e w' => e = .panicked [{ v := repeatPanic Try.lays105_ren "strings: negative Repeat count", recovered := false }] ∧ w' = w := Any.strings_Repeat_negative Try.lays105 s c w hc
open Go.RowKit Go.Lib in
theorem Try.strings_Repeat_overflow (s : ByteArray) (c : Nat) (w : World) (hc : c ≤ 9223372036854775807) (hs : s.size ≤ 9223372036854775807) (hbig : 9223372036854775807 < s.size * c) :
  Calls Try.prog 38 #[.string s, .int .i64 c] w fun e w' => e = .panicked [{ v := repeatPanic Try.lays105_ren "strings: Repeat output length overflow", recovered := false }] ∧ w' = w := Any.strings_Repeat_overflow Try.lays105 s c w hc hs hbig
open Go.RowKit Go.Lib in
theorem Try.strings_Repeat (s : ByteArray) (c : Nat) (w : World) (hc : c ≤ 9223372036854775807) (hlen : s.size * c ≤ 140737488355328) :
  Calls Try.prog 38 #[.string s, .int .i64 c] w fun e w' => e = .returned (.string ⟨(Lib.repeatL s.data.toList c).toArray⟩) ∧ Below w.heap.size w w' := Any.strings_Repeat Try.lays105 Try.Builder_Extra_105 s c w hc hlen
end Go.Proofs
end
section
namespace Go.Proofs.Ytpdhdkpebbfnnaa.V
open Go
set_option maxRecDepth 100000
set_option maxHeartbeats 1000000
theorem repeat_spec (s : List UInt8) (c : Nat) (h : s.length * c ≤ 140737488355328) (hc : c ≤ 9223372036854775807) : Spec Try.prog 38 [.str s, .int .i64 c] (.str (List.replicate c s).flatten) := by
 intro U w xs hx
 obtain ⟨x, ys, rfl, h1, y, zs, rfl, h2, h3⟩ := hx
 have h3 : zs = [] := h3
 subst h3
 rw [h1.str, h2.int]
 have e : Lib.repeatL s c = (List.replicate c s).flatten := by
  clear h hc h1 h2
  induction c with
  | zero => rfl
  | succ c ih => simp [Lib.repeatL, List.replicate_succ, ih]
 refine (Try.strings_Repeat ⟨s.toArray⟩ c w hc (by show s.toArray.size * c ≤ _; simpa using h)).mono fun e' w' ⟨he, hb⟩ => ⟨_, he, hb, ?_⟩
 rw [e]
 exact VR_str
end Go.Proofs.Ytpdhdkpebbfnnaa.V
end
section
namespace Go.Proofs.Ytpdhdkpebbfnnaa.V
open Go
theorem ynD1 {l : List VV} (h : nls l = true := by first|rfl|assumption|(simp only [znl,jO];(first|done|fail))) : nls l = true := h
set_option maxRecDepth 100000
set_option maxHeartbeats 1000000
structure Wr where
 b : Int
 d : List UInt8
deriving DecidableEq
instance : Inhabited Wr := ⟨⟨0, []⟩⟩
structure Dr where
 bl : Frames
 pe : List Wr
 left : Int
deriving DecidableEq
def encWr (w : Wr) : VV := .agg [.int .i64 w.b, .str w.d]
abbrev encWrs (l : List Wr) : VV := .dat (.st [.cell, .cell]) (l.map encWr)
abbrev encDr (d : Dr) : VV := .agg [encStrs d.bl, encWrs d.pe, .int .i64 d.left]
theorem jO (l : List Wr) : nls (l.map encWr) = true := nls_map _ (fun _ => rfl) l
def fitsL (l : Frames) : Prop := l.length < 2 ^ 36 ∧ ∀ s ∈ l, s.length ≤ 2 ^ 47
def dfit (d : Dr) : Prop := fitsL d.bl ∧ d.pe.length < 2 ^ 36 ∧ ∀ w ∈ d.pe, w.d.length ≤ 2 ^ 47
theorem has_spec (d : Dr) (hd : d.bl.length < 2 ^ 36) (i : Int) : Spec Try.prog 138 [encDr d, .int .i64 i] (.bool (decide (0 ≤ i) && decide (i < d.bl.length))) := by
 refine spec_ok Try.func138 rfl rfl (by kernel_rfl) (k := 2) rfl (by decide) ?_
 repeat' (first|(with_reducible first|refine yrl (by constructor) ?_|refine jk (fun M hM=>?_)|(refine hM _ ?_;clear hM M)|refine yx3 ?_|refine yxa ?_ ?_|refine yxb ?_ ?_)|((with_reducible refine je ?_)<;>exact ynD1)|(with_reducible refine yxc ?_)|((with_reducible refine yxi (fun hc=>?_) (fun hc=>?_))<;>(try simp (disch:=omega) only [zhb] at hc)<;>(try (exfalso;omega))<;>(try subst hc))|(with_reducible refine yxw ?_)|(simp (config := { maxSteps := 400000 }) only [↓jt,↓reduceIte,zvs,reduceCtorEq,seval,tab,encDr,Try.results138,jTA])|(simp (disch:=omega) only [ziw]))
 ·simp only [zrds]
  rw [decide_eq_true (by omega : 0 ≤ i), Bool.true_and]
 ·simp only [zrds]
  rw [decide_eq_false (by omega : ¬0 ≤ i), Bool.false_and]
theorem any_of {α : Type} [Inhabited α] (l : List α) (p : α → Bool) (k : Nat) (h : k < l.length) (hp : p (l.getD k default) = true) : l.any p = true := by
 rw [List.any_eq_true]
 refine ⟨_, ?_, hp⟩
 rw [List.getD_eq_getElem?_getD, List.getElem?_eq_getElem h]; exact List.getElem_mem _
theorem any_none {α : Type} [Inhabited α] (l : List α) (p : α → Bool) (h : ∀ j, j < l.length → p (l.getD j default) = false) : l.any p = false := by
 rw [List.any_eq_false]
 intro x hx
 obtain ⟨j, hj, e⟩ := List.mem_iff_getElem.1 hx
 have := h j hj
 rw [List.getD_eq_getElem?_getD, List.getElem?_eq_getElem hj] at this
 simp only [Option.getD_some] at this
 rw [← e, this]
 simp
def longB (n : Nat) (s : List UInt8) : Bool := decide (n < s.length)
def checkW (n : Nat) : List Wr → Int
 | [] => 0
 | w :: ws => if ¬(0 ≤ w.b ∧ w.b < n) then 2 else if w.d.length ≠ 128 then 3 else checkW n ws
def checkD (d : Dr) : Int := if 256 < d.bl.length then 6 else if d.bl.any (fun s => decide (s.length ≠ 128)) = true then 3 else checkW d.bl.length d.pe
theorem drop_getD' {α : Type} [Inhabited α] (l : List α) (i : Nat) (h : i < l.length) : l.drop i = l.getD i default :: l.drop (i + 1) := by
 rw [List.drop_eq_getElem_cons h, List.getD_eq_getElem?_getD, List.getElem?_eq_getElem h]; rfl
theorem getD_mem' {α : Type} [Inhabited α] {l : List α} {i : Nat} (h : i < l.length) : l.getD i default ∈ l := by
 rw [List.getD_eq_getElem?_getD, List.getElem?_eq_getElem h]; exact List.getElem_mem _
theorem check_spec (d : Dr) (hd : dfit d) : Spec Try.prog 112 [encDr d] (.int .i64 (checkD d)) := by
 obtain ⟨R, hR⟩ : ∃ R, R = checkD d := ⟨_, rfl⟩
 rw [← hR]
 obtain ⟨⟨hf1, hf2⟩, hf3, hf4⟩ := hd
 refine spec_ok Try.func112 rfl rfl (by kernel_rfl) (k := 1) rfl (by decide) ?_
 repeat' (first|(with_reducible first|refine yrl (by constructor) ?_|refine jk (fun M hM=>?_)|(refine hM _ ?_;clear hM M)|refine yx3 ?_|refine yxa ?_ ?_|refine yxb ?_ ?_)|((with_reducible refine je ?_)<;>exact ynD1)|(with_reducible refine yxc ?_)|((with_reducible refine yxi (fun hc=>?_) (fun hc=>?_))<;>(try simp (disch:=omega) only [zhb] at hc)<;>(try (exfalso;omega))<;>(try subst hc))|(with_reducible refine yxw ?_)|(simp (config := { maxSteps := 400000 }) only [↓jt,↓reduceIte,zvs,reduceCtorEq,seval,tab,encDr,Try.results112,jTA])|(simp (disch:=omega) only [ziw]))
 ·simp only [zrds]
  rw [hR, checkD, if_pos (by omega)]
 ·refine ok_loop (fun k : Nat => ⟨slots [(1, .ptr 0 []), (2, .int .i64 0), (12, encStrs d.bl), (13, .int .i64 d.bl.length), (14, .int .i64 k)], rows [(0, .row (.st [.cell, .cell, .cell]) (encDr d))], 1⟩) (fun k => k ≤ d.bl.length ∧ ∀ j, j < k → decide ((d.bl.getD j default).length ≠ 128) = false) (fun k => d.bl.length - k) 0 ?_ ⟨Nat.zero_le _, fun j hj => by omega⟩ (fun k hk => ?_)
  ·(refine yrn [(0, 0)] false ?_ ?_<;>(repeat' (first|(with_reducible first|exact ya1|exact ya2|exact ya3|refine jx rfl (by first|rfl|assumption|(simp only [znl,jO];(first|done|fail)))|exact ya5|exact ya7|exact jy|exact jz|refine jA ?_|refine ya9 ?_ ?_ ?_|refine jC rfl (by first|rfl|assumption|(simp only [znl,jO];(first|done|fail)))|refine MR.agg (MRL.cons ?_ ?_)|refine MR.fn ?_|refine MRL.cons ?_ ?_|exact MRL.nil|refine jE ?_ ?_|exact jF|exact jG|refine yb1 ?_ ?_|refine MB.row ?_|refine jI ?_ ?_|exact ya8|refine jJ rfl (by first|rfl|assumption|(simp only [znl,jO];(first|done|fail)))|refine yb2 ?_|rfl)|(simp only [znl,jO];(first|done|fail))|(simp only [↓reduceIte,zlk,Nat.reduceEqDiff,reduceCtorEq])|(with_reducible first|refine jJ ?_ ?_|refine ya5 ?_|refine ju ?_|refine jv ?_|refine jw ?_|refine jx ?_ (by first|rfl|assumption|(simp only [znl,jO];(first|done|fail)))|refine jC ?_ (by first|rfl|assumption|(simp only [znl,jO];(first|done|fail)))))))
  obtain ⟨hk, hn⟩ := hk
  by_cases hlt : k < d.bl.length
  ·have hs := hf2 _ (getD_mem' hlt)
   rw [default_str] at hs
   repeat' (first|(with_reducible first|refine yrl (by constructor) ?_|refine jk (fun M hM=>?_)|(refine hM _ ?_;clear hM M)|refine yx3 ?_|refine yxa ?_ ?_|refine yxb ?_ ?_)|((with_reducible refine je ?_)<;>exact ynD1)|(with_reducible refine yxc ?_)|((with_reducible refine yxi (fun hc=>?_) (fun hc=>?_))<;>(try simp (disch:=omega) only [zhb] at hc)<;>(try (exfalso;omega))<;>(try subst hc))|(with_reducible refine yxw ?_)|(simp (config := { maxSteps := 400000 }) only [↓jt,↓reduceIte,zvs,reduceCtorEq,seval,tab,encDr,Try.results112,jTA])|(simp (disch:=omega) only [ziw]))
   ·simp only [zrds]
    rw [hR, checkD, if_neg (by omega), if_pos (any_of d.bl _ k hlt (by rw [default_str]; exact decide_eq_true (by omega)))]
   ·refine xl1 (k + 1) ?_ ⟨by omega, fun j hj => ?_⟩ (by show d.bl.length - (k + 1) < d.bl.length - k; omega)
    ·(refine yrn [(0, 0)] false ?_ ?_<;>(repeat' (first|(with_reducible first|exact ya1|exact ya2|exact ya3|refine jx rfl (by first|rfl|assumption|(simp only [znl,jO];(first|done|fail)))|exact ya5|exact ya7|exact jy|exact jz|refine jA ?_|refine ya9 ?_ ?_ ?_|refine jC rfl (by first|rfl|assumption|(simp only [znl,jO];(first|done|fail)))|refine MR.agg (MRL.cons ?_ ?_)|refine MR.fn ?_|refine MRL.cons ?_ ?_|exact MRL.nil|refine jE ?_ ?_|exact jF|exact jG|refine yb1 ?_ ?_|refine MB.row ?_|refine jI ?_ ?_|exact ya8|refine jJ rfl (by first|rfl|assumption|(simp only [znl,jO];(first|done|fail)))|refine yb2 ?_|rfl)|(simp only [znl,jO];(first|done|fail))|(simp only [↓reduceIte,zlk,Nat.reduceEqDiff,reduceCtorEq])|(with_reducible first|refine jJ ?_ ?_|refine ya5 ?_|refine ju ?_|refine jv ?_|refine jw ?_|refine jx ?_ (by first|rfl|assumption|(simp only [znl,jO];(first|done|fail)))|refine jC ?_ (by first|rfl|assumption|(simp only [znl,jO];(first|done|fail)))))))
    ·by_cases e : j = k
     ·subst e
      (try rw [default_str]); exact decide_eq_false (by omega)
     ·exact hn j (by omega)
  ·obtain rfl : k = d.bl.length := by omega
   have hA := any_none d.bl (fun s => decide (s.length ≠ 128)) hn
   rw [checkD, if_neg (by omega), if_neg (by rw [hA]; simp)] at hR
   repeat' (first|(with_reducible first|refine yrl (by constructor) ?_|refine jk (fun M hM=>?_)|(refine hM _ ?_;clear hM M)|refine yx3 ?_|refine yxa ?_ ?_|refine yxb ?_ ?_)|((with_reducible refine je ?_)<;>exact ynD1)|(with_reducible refine yxc ?_)|((with_reducible refine yxi (fun hc=>?_) (fun hc=>?_))<;>(try simp (disch:=omega) only [zhb] at hc)<;>(try (exfalso;omega))<;>(try subst hc))|(with_reducible refine yxw ?_)|(simp (config := { maxSteps := 400000 }) only [↓jt,↓reduceIte,zvs,reduceCtorEq,seval,tab,encDr,Try.results112,jTA])|(simp (disch:=omega) only [ziw]))
   refine ok_loop (fun k : Nat => ⟨slots [(1, .ptr 0 []), (2, .int .i64 0), (23, encWrs d.pe), (24, .int .i64 d.pe.length), (25, .int .i64 k)], rows [(0, .row (.st [.cell, .cell, .cell]) (encDr d))], 1⟩) (fun k => k ≤ d.pe.length ∧ R = checkW d.bl.length (d.pe.drop k)) (fun k => d.pe.length - k) 0 ?_ ⟨Nat.zero_le _, hR⟩ (fun k hk => ?_)
   ·(refine yrn [(0, 0)] false ?_ ?_<;>(repeat' (first|(with_reducible first|exact ya1|exact ya2|exact ya3|refine jx rfl (by first|rfl|assumption|(simp only [znl,jO];(first|done|fail)))|exact ya5|exact ya7|exact jy|exact jz|refine jA ?_|refine ya9 ?_ ?_ ?_|refine jC rfl (by first|rfl|assumption|(simp only [znl,jO];(first|done|fail)))|refine MR.agg (MRL.cons ?_ ?_)|refine MR.fn ?_|refine MRL.cons ?_ ?_|exact MRL.nil|refine jE ?_ ?_|exact jF|exact jG|refine yb1 ?_ ?_|refine MB.row ?_|refine jI ?_ ?_|exact ya8|refine jJ rfl (by first|rfl|assumption|(simp only [znl,jO];(first|done|fail)))|refine yb2 ?_|rfl)|(simp only [znl,jO];(first|done|fail))|(simp only [↓reduceIte,zlk,Nat.reduceEqDiff,reduceCtorEq])|(with_reducible first|refine jJ ?_ ?_|refine ya5 ?_|refine ju ?_|refine jv ?_|refine jw ?_|refine jx ?_ (by first|rfl|assumption|(simp only [znl,jO];(first|done|fail)))|refine jC ?_ (by first|rfl|assumption|(simp only [znl,jO];(first|done|fail)))))))
   obtain ⟨hk, hm⟩ := hk
   by_cases hlt : k < d.pe.length
   ·have hs := hf4 _ (getD_mem' hlt)
    have hH := has_spec d hf1 (d.pe.getD k default).b
    rw [drop_getD' d.pe k hlt, checkW] at hm
    by_cases hb : 0 ≤ (d.pe.getD k default).b ∧ (d.pe.getD k default).b < d.bl.length
    ·rw [decide_eq_true hb.1, decide_eq_true hb.2] at hH
     rw [if_neg (fun h => h hb)] at hm
     repeat' (first|(with_reducible first|refine yrl (by constructor) ?_|refine jk (fun M hM=>?_)|(refine hM _ ?_;clear hM M)|refine yx3 ?_|refine yxa ?_ ?_|refine yxb ?_ ?_)|((with_reducible refine je ?_)<;>exact ynD1)|(with_reducible refine yxc ?_)|((with_reducible refine yxi (fun hc=>?_) (fun hc=>?_))<;>(try simp (disch:=omega) only [zhb] at hc)<;>(try (exfalso;omega))<;>(try subst hc))|(with_reducible refine yxw ?_)|(simp (config := { maxSteps := 400000 }) only [↓jt,↓reduceIte,zvs,reduceCtorEq,seval,tab,encDr,encWr,Try.results112,jTA])|(simp (disch:=omega) only [ziw]))
     ·rw [if_pos (by omega)] at hm
      rw [hm]
      simp only [zrds]
     ·rw [if_neg (by omega)] at hm
      refine xl1 (k + 1) ?_ ⟨by omega, hm⟩ (by show d.pe.length - (k + 1) < d.pe.length - k; omega)
      (refine yrn [(0, 0)] false ?_ ?_<;>(repeat' (first|(with_reducible first|exact ya1|exact ya2|exact ya3|refine jx rfl (by first|rfl|assumption|(simp only [znl,jO];(first|done|fail)))|exact ya5|exact ya7|exact jy|exact jz|refine jA ?_|refine ya9 ?_ ?_ ?_|refine jC rfl (by first|rfl|assumption|(simp only [znl,jO];(first|done|fail)))|refine MR.agg (MRL.cons ?_ ?_)|refine MR.fn ?_|refine MRL.cons ?_ ?_|exact MRL.nil|refine jE ?_ ?_|exact jF|exact jG|refine yb1 ?_ ?_|refine MB.row ?_|refine jI ?_ ?_|exact ya8|refine jJ rfl (by first|rfl|assumption|(simp only [znl,jO];(first|done|fail)))|refine yb2 ?_|rfl)|(simp only [znl,jO];(first|done|fail))|(simp only [↓reduceIte,zlk,Nat.reduceEqDiff,reduceCtorEq])|(with_reducible first|refine jJ ?_ ?_|refine ya5 ?_|refine ju ?_|refine jv ?_|refine jw ?_|refine jx ?_ (by first|rfl|assumption|(simp only [znl,jO];(first|done|fail)))|refine jC ?_ (by first|rfl|assumption|(simp only [znl,jO];(first|done|fail)))))))
    ·have e : (decide (0 ≤ (d.pe.getD k default).b) && decide ((d.pe.getD k default).b < d.bl.length)) = false := by rw [← Bool.decide_and]; exact decide_eq_false hb
     rw [e] at hH
     rw [if_pos hb] at hm
     repeat' (first|(with_reducible first|refine yrl (by constructor) ?_|refine jk (fun M hM=>?_)|(refine hM _ ?_;clear hM M)|refine yx3 ?_|refine yxa ?_ ?_|refine yxb ?_ ?_)|((with_reducible refine je ?_)<;>exact ynD1)|(with_reducible refine yxc ?_)|((with_reducible refine yxi (fun hc=>?_) (fun hc=>?_))<;>(try simp (disch:=omega) only [zhb] at hc)<;>(try (exfalso;omega))<;>(try subst hc))|(with_reducible refine yxw ?_)|(simp (config := { maxSteps := 400000 }) only [↓jt,↓reduceIte,zvs,reduceCtorEq,seval,tab,encDr,encWr,Try.results112,jTA])|(simp (disch:=omega) only [ziw]))
     rw [hm]
     simp only [zrds]
   ·obtain rfl : k = d.pe.length := by omega
    rw [List.drop_length, checkW] at hm
    repeat' (first|(with_reducible first|refine yrl (by constructor) ?_|refine jk (fun M hM=>?_)|(refine hM _ ?_;clear hM M)|refine yx3 ?_|refine yxa ?_ ?_|refine yxb ?_ ?_)|((with_reducible refine je ?_)<;>exact ynD1)|(with_reducible refine yxc ?_)|((with_reducible refine yxi (fun hc=>?_) (fun hc=>?_))<;>(try simp (disch:=omega) only [zhb] at hc)<;>(try (exfalso;omega))<;>(try subst hc))|(with_reducible refine yxw ?_)|(simp (config := { maxSteps := 400000 }) only [↓jt,↓reduceIte,zvs,reduceCtorEq,seval,tab,encDr,Try.results112,jTA])|(simp (disch:=omega) only [ziw]))
    simp only [zrds]
    rw [hm]
end Go.Proofs.Ytpdhdkpebbfnnaa.V
end
section
namespace Go.Proofs.Ytpdhdkpebbfnnaa.V
open Go
theorem ynD3 {l : List VV} (h : nls l = true := by first|rfl|assumption|(simp only [znl,jO];(first|done|fail))) : nls l = true := h
set_option maxRecDepth 100000
set_option maxHeartbeats 1000000
def zeros : List UInt8 := List.replicate 128 0
def drV (x : Dr × Int) : VV := .tup [encDr x.1, .int .i64 x.2]
def getP (pe : List Wr) (i : Int) (s : List UInt8) : List UInt8 := pe.foldl (fun s w => if w.b = i then w.d else s) s
theorem getP_snoc (pe : List Wr) (w : Wr) (i : Int) (s : List UInt8) : getP (pe ++ [w]) i s = if w.b = i then w.d else getP pe i s := by
 simp [getP, List.foldl_append]
def getV (d : Dr) (i : Int) : VV := if 0 ≤ i ∧ i < d.bl.length then .tup [.str (getP d.pe i (d.bl.getD i.toNat [])), .int .i64 0] else .tup [.str [], .int .i64 2]
theorem rget_spec (d : Dr) (hd : dfit d) (i : Int) (hi : -2 ^ 63 ≤ i ∧ i < 2 ^ 63) : Spec Try.prog 148 [encDr d, .int .i64 i] (getV d i) := by
 obtain ⟨⟨hf1, hf2⟩, hf3, hf4⟩ := hd
 by_cases hb : 0 ≤ i ∧ i < d.bl.length
 ·rw [getV, if_pos hb]
  obtain ⟨R, hR⟩ : ∃ R, R = getP d.pe i (d.bl.getD i.toNat []) := ⟨_, rfl⟩
  rw [← hR]
  refine spec_ok Try.func148 rfl rfl (by kernel_rfl) (k := 2) rfl (by decide) ?_
  repeat' (first|(with_reducible first|refine yrl (by constructor) ?_|refine jk (fun M hM=>?_)|(refine hM _ ?_;clear hM M)|refine yx3 ?_|refine yxa ?_ ?_|refine yxb ?_ ?_)|((with_reducible refine je ?_)<;>exact ynD3)|(with_reducible refine yxc ?_)|((with_reducible refine yxi (fun hc=>?_) (fun hc=>?_))<;>(try simp (disch:=omega) only [zhb] at hc)<;>(try (exfalso;omega))<;>(try subst hc))|(with_reducible refine yxw ?_)|(simp (config := { maxSteps := 400000 }) only [↓jt,↓reduceIte,zvs,reduceCtorEq,seval,tab,encDr,Try.results148,jTA])|(simp (disch:=omega) only [ziw]))
  refine ok_loop (fun k : Nat => ⟨slots [(1, .int .i64 i), (2, .ptr 0 []), (4, .str []), (5, .int .i64 0), (6, .str (getP (d.pe.take k) i (d.bl.getD i.toNat []))), (7, .int .i64 k)], rows [(0, .row (.st [.cell, .cell, .cell]) (encDr d))], 1⟩) (fun k => k ≤ d.pe.length) (fun k => d.pe.length - k) 0 ?_ (Nat.zero_le _) (fun k hk => ?_)
  ·(refine yrn [(0, 0)] false ?_ ?_<;>(repeat' (first|(with_reducible first|exact ya1|exact ya2|exact ya3|refine jx rfl (by first|rfl|assumption|(simp only [znl,jO];(first|done|fail)))|exact ya5|exact ya7|exact jy|exact jz|refine jA ?_|refine ya9 ?_ ?_ ?_|refine jC rfl (by first|rfl|assumption|(simp only [znl,jO];(first|done|fail)))|refine MR.agg (MRL.cons ?_ ?_)|refine MR.fn ?_|refine MRL.cons ?_ ?_|exact MRL.nil|refine jE ?_ ?_|exact jF|exact jG|refine yb1 ?_ ?_|refine MB.row ?_|refine jI ?_ ?_|exact ya8|refine jJ rfl (by first|rfl|assumption|(simp only [znl,jO];(first|done|fail)))|refine yb2 ?_|rfl)|(simp only [znl,jO];(first|done|fail))|(simp only [↓reduceIte,zlk,Nat.reduceEqDiff,reduceCtorEq])|(with_reducible first|refine jJ ?_ ?_|refine ya5 ?_|refine ju ?_|refine jv ?_|refine jw ?_|refine jx ?_ (by first|rfl|assumption|(simp only [znl,jO];(first|done|fail)))|refine jC ?_ (by first|rfl|assumption|(simp only [znl,jO];(first|done|fail)))))))
   all_goals rfl
  by_cases hlt : k < d.pe.length
  ·have e1 := take_snoc d.pe k (by omega)
   have e2 := getP_snoc (d.pe.take k) (d.pe.getD k default) i (d.bl.getD i.toNat [])
   rw [← e1] at e2
   repeat' (first|(with_reducible first|refine yrl (by constructor) ?_|refine jk (fun M hM=>?_)|(refine hM _ ?_;clear hM M)|refine yx3 ?_|refine yxa ?_ ?_|refine yxb ?_ ?_)|((with_reducible refine je ?_)<;>exact ynD3)|(with_reducible refine yxc ?_)|((with_reducible refine yxi (fun hc=>?_) (fun hc=>?_))<;>(try simp (disch:=omega) only [zhb] at hc)<;>(try (exfalso;omega))<;>(try subst hc))|(with_reducible refine yxw ?_)|(simp (config := { maxSteps := 400000 }) only [↓jt,↓reduceIte,zvs,reduceCtorEq,seval,tab,encWr,Try.results148,jTA])|(simp (disch:=omega) only [ziw]))
   ·rw [if_pos rfl] at e2
    refine xl1 (k + 1) ?_ (by show k + 1 ≤ d.pe.length; omega) (by show d.pe.length - (k + 1) < d.pe.length - k; omega)
    (refine yrn [(0, 0)] false ?_ ?_<;>(repeat' (first|(with_reducible first|exact ya1|exact ya2|exact ya3|refine jx rfl (by first|rfl|assumption|(simp only [znl,jO];(first|done|fail)))|exact ya5|exact ya7|exact jy|exact jz|refine jA ?_|refine ya9 ?_ ?_ ?_|refine jC rfl (by first|rfl|assumption|(simp only [znl,jO];(first|done|fail)))|refine MR.agg (MRL.cons ?_ ?_)|refine MR.fn ?_|refine MRL.cons ?_ ?_|exact MRL.nil|refine jE ?_ ?_|exact jF|exact jG|refine yb1 ?_ ?_|refine MB.row ?_|refine jI ?_ ?_|exact ya8|refine jJ rfl (by first|rfl|assumption|(simp only [znl,jO];(first|done|fail)))|refine yb2 ?_|rfl)|(simp only [znl,jO];(first|done|fail))|(simp only [↓reduceIte,zlk,Nat.reduceEqDiff,reduceCtorEq])|(with_reducible first|refine jJ ?_ ?_|refine ya5 ?_|refine ju ?_|refine jv ?_|refine jw ?_|refine jx ?_ (by first|rfl|assumption|(simp only [znl,jO];(first|done|fail)))|refine jC ?_ (by first|rfl|assumption|(simp only [znl,jO];(first|done|fail)))))))
    rw [e2]
   ·rw [if_neg hc] at e2
    refine xl1 (k + 1) ?_ (by show k + 1 ≤ d.pe.length; omega) (by show d.pe.length - (k + 1) < d.pe.length - k; omega)
    (refine yrn [(0, 0)] false ?_ ?_<;>(repeat' (first|(with_reducible first|exact ya1|exact ya2|exact ya3|refine jx rfl (by first|rfl|assumption|(simp only [znl,jO];(first|done|fail)))|exact ya5|exact ya7|exact jy|exact jz|refine jA ?_|refine ya9 ?_ ?_ ?_|refine jC rfl (by first|rfl|assumption|(simp only [znl,jO];(first|done|fail)))|refine MR.agg (MRL.cons ?_ ?_)|refine MR.fn ?_|refine MRL.cons ?_ ?_|exact MRL.nil|refine jE ?_ ?_|exact jF|exact jG|refine yb1 ?_ ?_|refine MB.row ?_|refine jI ?_ ?_|exact ya8|refine jJ rfl (by first|rfl|assumption|(simp only [znl,jO];(first|done|fail)))|refine yb2 ?_|rfl)|(simp only [znl,jO];(first|done|fail))|(simp only [↓reduceIte,zlk,Nat.reduceEqDiff,reduceCtorEq])|(with_reducible first|refine jJ ?_ ?_|refine ya5 ?_|refine ju ?_|refine jv ?_|refine jw ?_|refine jx ?_ (by first|rfl|assumption|(simp only [znl,jO];(first|done|fail)))|refine jC ?_ (by first|rfl|assumption|(simp only [znl,jO];(first|done|fail)))))))
    rw [e2]
  ·obtain rfl : k = d.pe.length := by omega
   rw [List.take_length] at *
   repeat' (first|(with_reducible first|refine yrl (by constructor) ?_|refine jk (fun M hM=>?_)|(refine hM _ ?_;clear hM M)|refine yx3 ?_|refine yxa ?_ ?_|refine yxb ?_ ?_)|((with_reducible refine je ?_)<;>exact ynD3)|(with_reducible refine yxc ?_)|((with_reducible refine yxi (fun hc=>?_) (fun hc=>?_))<;>(try simp (disch:=omega) only [zhb] at hc)<;>(try (exfalso;omega))<;>(try subst hc))|(with_reducible refine yxw ?_)|(simp (config := { maxSteps := 400000 }) only [↓jt,↓reduceIte,zvs,reduceCtorEq,seval,tab,List.take_length,encWr,Try.results148,jTA])|(simp (disch:=omega) only [ziw]))
   rw [hR]
   simp only [zrds]
 ·rw [getV, if_neg hb]
  refine spec_ok Try.func148 rfl rfl (by kernel_rfl) (k := 2) rfl (by decide) ?_
  repeat' (first|(with_reducible first|refine yrl (by constructor) ?_|refine jk (fun M hM=>?_)|(refine hM _ ?_;clear hM M)|refine yx3 ?_|refine yxa ?_ ?_|refine yxb ?_ ?_)|((with_reducible refine je ?_)<;>exact ynD3)|(with_reducible refine yxc ?_)|((with_reducible refine yxi (fun hc=>?_) (fun hc=>?_))<;>(try simp (disch:=omega) only [zhb] at hc)<;>(try (exfalso;omega))<;>(try subst hc))|(with_reducible refine yxw ?_)|(simp (config := { maxSteps := 400000 }) only [↓jt,↓reduceIte,zvs,reduceCtorEq,seval,tab,encDr,Try.results148,jTA])|(simp (disch:=omega) only [ziw]))
  all_goals simp only [zrds]
end Go.Proofs.Ytpdhdkpebbfnnaa.V
end
section
namespace Go.Proofs.Ytpdhdkpebbfnnaa.V
open Go
set_option maxRecDepth 100000
set_option maxHeartbeats 1000000
structure Fdd where
 kind : Int
 n : Int
 pos : Int
deriving DecidableEq
instance : Inhabited Fdd := ⟨⟨0, 0, 0⟩⟩
deriving instance DecidableEq for Pte
structure Pr where
 pid : Int
 par : Int
 st : Int
 rs : List Int
 pc : Int
 sp : List Pte
 fds : List Fdd
 mask : Bool
 code : Int
 why : Int
 n : Int
deriving DecidableEq
instance : Inhabited Pr := ⟨⟨0, 0, 0, [], 0, [], [], false, 0, 0, 0⟩⟩
structure Pip where
 id : Int
 d : List UInt8
deriving DecidableEq
instance : Inhabited Pip := ⟨⟨0, []⟩⟩
structure Mach where
 clock : Int
 quantum : Int
 cur : Int
 left : Int
 fr : Frames
 pr : List Pr
 next : Int
 init : List UInt8
 pipes : List Pip
 newp : Int
 inp : List UInt8
 fin : Bool
 told : Int
 dr : Dr
 dirty : List Wr
def encFd (f : Fdd) : VV := .agg [.int .i64 f.kind, .int .i64 f.n, .int .i64 f.pos]
def encPr (p : Pr) : VV := .agg [.int .i64 p.pid, .int .i64 p.par, .int .i64 p.st, .agg [.agg (p.rs.map (.int .u32)), .int .u32 p.pc], .agg (p.sp.map encPte), .agg (p.fds.map encFd), .bool p.mask, .int .u32 p.code, .int .i64 p.why, .int .u64 p.n]
def encPi (p : Pip) : VV := .agg [.int .i64 p.id, .str p.d]
abbrev pteSh : Sh := .st [.cell, .cell, .cell]
abbrev prSh : Sh := .st [.cell, .cell, .cell, .st [.arr 16 .cell, .cell], .arr 16 pteSh, .arr 8 pteSh, .cell, .cell, .cell, .cell]
abbrev piSh : Sh := .st [.cell, .cell]
abbrev encPrs (l : List Pr) : VV := .dat prSh (l.map encPr)
abbrev encPis (l : List Pip) : VV := .dat piSh (l.map encPi)
abbrev encM (m : Mach) : VV := .agg [.int .u64 m.clock, .int .i64 m.quantum, .int .i64 m.cur, .int .i64 m.left, encStrs m.fr, encPrs m.pr, .int .i64 m.next, .str m.init, encPis m.pipes, .int .i64 m.newp, .str m.inp, .bool m.fin, .int .u64 m.told, encDr m.dr, encWrs m.dirty]
theorem hasFd (f : Fdd) : Has pteSh (encFd f) := by simp [encFd, Has, HasL, VV.leaf]
theorem hasFds (l : List Fdd) (h : l.length = 8) : Has (.arr 8 pteSh) (.agg (l.map encFd)) := has_arrMap h hasFd
theorem hasRs (l : List Int) (h : l.length = 16) : Has (.arr 16 .cell) (.agg (l.map (.int .u32))) := has_arrMap h (fun x => by simp [Has, VV.leaf])
def i64R (x : Int) : Prop := -9223372036854775808 ≤ x ∧ x ≤ 9223372036854775807
def u64R (x : Int) : Prop := 0 ≤ x ∧ x ≤ 18446744073709551615
def u32R (x : Int) : Prop := 0 ≤ x ∧ x ≤ 4294967295
def fdR (f : Fdd) : Prop := i64R f.kind ∧ i64R f.n ∧ i64R f.pos
structure PrR (p : Pr) : Prop where
 pid : i64R p.pid
 par : i64R p.par
 st : i64R p.st
 rs : p.rs.length = 16
 rsR : ∀ x ∈ p.rs, u32R x
 pc : u32R p.pc
 sp : p.sp.length = 16
 spR : ∀ x ∈ p.sp, i64R x.fr
 fds : p.fds.length = 8
 fdsR : ∀ x ∈ p.fds, fdR x
 code : u32R p.code
 why : i64R p.why
 n : u64R p.n
theorem hasPr (p : Pr) (h : PrR p) : Has prSh (encPr p) := by
 have h1 := hasRs p.rs h.rs
 have h2 := hasSpace p.sp h.sp
 have h3 := hasFds p.fds h.fds
 simp only [encPr,Has,HasL] at *
 simp [h1, h2, h3, VV.leaf]
 exact ⟨fun a _ => by have := hasPte a; simpa only [Has,HasL] using this, fun a _ => by have := hasFd a; simpa only [Has,HasL] using this⟩
theorem jS (l : List Fdd) : nls (l.map encFd) = true := nls_map _ (fun _ => rfl) l
theorem jQ (l : List Pip) : nls (l.map encPi) = true := nls_map _ (fun _ => rfl) l
theorem jT (l : List Int) : nls (l.map (.int .u32)) = true := nls_map _ (fun _ => rfl) l
theorem jU (p : Pr) : nl (encPr p) = true := by
 simp only [encPr,nl,nls,jS,jR,jT,Bool.and_self]
theorem jP (l : List Pr) : nls (l.map encPr) = true := nls_map _ jU l
structure MFit (N : Nat) (m : Mach) : Prop where
 clock : u64R m.clock
 quantum : i64R m.quantum
 cur : i64R m.cur
 left : i64R m.left
 fr : m.fr.length ≤ N
 frS : ∀ s ∈ m.fr, s.length ≤ 2 ^ 47
 pr : m.pr.length ≤ N
 prR : ∀ p ∈ m.pr, PrR p
 next : i64R m.next
 init : m.init.length ≤ 2 ^ 47
 pipes : m.pipes.length ≤ N
 pipesR : ∀ p ∈ m.pipes, i64R p.id ∧ p.d.length ≤ 2 ^ 47
 newp : i64R m.newp
 inp : m.inp.length ≤ 2 ^ 47
 told : u64R m.told
 bl : m.dr.bl.length ≤ N
 blS : ∀ s ∈ m.dr.bl, s.length ≤ 2 ^ 47
 pe : m.dr.pe.length ≤ N
 peS : ∀ w ∈ m.dr.pe, i64R w.b ∧ w.d.length ≤ 2 ^ 47
 dleft : i64R m.dr.left
 dirty : m.dirty.length ≤ N
 dirtyS : ∀ w ∈ m.dirty, i64R w.b ∧ w.d.length ≤ 2 ^ 47
end Go.Proofs.Ytpdhdkpebbfnnaa.V
end
section
namespace Go.Proofs.Ytpdhdkpebbfnnaa.V
open Go
set_option maxRecDepth 100000
set_option maxHeartbeats 1000000
def livesP (p : Pr) : Bool := decide (p.st = 1) || decide (p.st = 2)
def livesB (l : List Pr) (pid : Int) : Bool := l.any fun p => decide (p.pid = pid) && livesP p
def usersS (f : Int) (s : List Pte) : Nat := s.countP fun x => x.is && decide (x.fr = f)
def usersN (l : List Pr) (f : Int) : Nat := (l.map fun p => usersS f p.sp).sum
theorem usersS_snoc (f : Int) (s : List Pte) (x : Pte) : usersS f (s ++ [x]) = usersS f s + if x.is = true ∧ x.fr = f then 1 else 0 := by
 simp only [usersS,List.countP_append,List.countP_cons,List.countP_nil,Nat.zero_add]
 congr 1
 by_cases h1 : x.is = true <;> by_cases h2 : x.fr = f <;> simp [h1, h2]
theorem usersS_le (f : Int) (s : List Pte) : usersS f s ≤ s.length := List.countP_le_length
theorem usersN_snoc (l : List Pr) (p : Pr) (f : Int) : usersN (l ++ [p]) f = usersN l f + usersS f p.sp := by
 simp [usersN]
theorem usersN_le (f : Int) : ∀ (l : List Pr), (∀ p ∈ l, p.sp.length = 16) → usersN l f ≤ 16 * l.length
 | [], _ => Nat.le_refl _
 | p :: l, h => by
  have h1 := usersN_le f l fun q hq => h q (by simp [hq])
  have h2 := usersS_le f p.sp
  have h3 := h p (by simp)
  have e : usersN (p :: l) f = usersS f p.sp + usersN l f := by simp [usersN]
  rw [e, List.length_cons]
  omega
def pipeO (l : List Pip) (id : Int) : Option Pip := l.find? fun p => decide (p.id = id)
def pipeV : Option Pip → VV
 | some p => .tup [encPi p, .bool true]
 | none => .tup [.agg [.int .i64 0, .str []], .bool false]
def fdB (l : List Pip) (f : Fdd) : Bool :=
 if f.kind = 0 ∨ f.kind = 1 ∨ f.kind = 2 then decide (f.n = 0 ∧ f.pos = 0)
 else if f.kind = 3 then decide (1 ≤ f.n ∧ f.n ≤ 64 ∧ 0 ≤ f.pos ∧ f.pos ≤ 8960)
 else if f.kind = 4 ∨ f.kind = 5 then decide (f.pos = 0) && (pipeO l f.n).isSome
 else false
def pteB (m : Mach) (p : Pr) (x : Pte) : Bool :=
 if x.is = true then decide (p.st ≠ 3 ∧ 0 ≤ x.fr ∧ x.fr < m.fr.length ∧ usersN m.pr x.fr = 1) else decide (x.wr = false ∧ x.fr = 0)
def procH (m : Mach) (p : Pr) : Bool :=
 if p.pid < 1 ∨ m.next ≤ p.pid ∨ (p.st ≠ 1 ∧ p.st ≠ 2 ∧ p.st ≠ 3) ∨ p.rs.getD 0 0 ≠ 0 then false
 else if livesB m.pr p.par = false ∧ (p.st = 3 ∨ p.par ≠ 0) then false
 else if ¬(p.st = 2 ↔ p.why ≠ 0) ∨ p.why < 0 ∨ 5 < p.why ∨ (p.st ≠ 2 ∧ p.n ≠ 0) ∨ (p.st ≠ 3 ∧ p.code ≠ 0) then false
 else true
def fdsB (m : Mach) (p : Pr) (f : Fdd) : Bool := fdB m.pipes f && !(decide (p.st = 3) && decide (f.kind ≠ 0))
def procB (m : Mach) (p : Pr) : Bool := procH m p && p.sp.all (pteB m p) && p.fds.all (fdsB m p)
def numB (m : Mach) : Bool := decide (m.quantum < 1 ∨ 1000 < m.quantum ∨ m.left < 0 ∨ m.quantum < m.left ∨ m.cur < 0 ∨ m.next < 1 ∨ 1000000000 < m.next ∨ m.newp < 1 ∨ 1000000000 < m.newp)
def procsB (m : Mach) : Bool := (List.range m.pr.length).all fun i => !(decide (0 < i) && decide ((m.pr.getD i default).pid ≤ (m.pr.getD (i - 1) default).pid)) && procB m (m.pr.getD i default)
def pipeB (m : Mach) (i : Nat) : Bool := !(decide ((m.pipes.getD i default).id < 1) || decide (m.newp ≤ (m.pipes.getD i default).id) || (decide (0 < i) && decide ((m.pipes.getD i default).id ≤ (m.pipes.getD (i - 1) default).id)) || longB 64 (m.pipes.getD i default).d)
def pipesB (m : Mach) : Bool := (List.range m.pipes.length).all (pipeB m)
def homeB (d : Dr) (i : Nat) : List UInt8 := getP d.pe ((33 + i : Nat) : Int) (d.bl.getD (33 + i) [])
def homeD (d : Dr) : Frames := if checkD d = 0 ∧ 33 < d.bl.length then (List.range (d.bl.length - 33)).map (homeB d) else []
def bitB (s : List UInt8) (i : Nat) : Bool := bits BinOp.and IntKind.u8 (((s.getD ((i : Int) / 8).toNat 0).toNat : Int).fdiv (2 ^ min ((i : Int) % 8).toNat IntKind.u8.bits)) 1 == 1
structure Geo where
 bl : Int
 ino : Int
 quo : Int
 map : Int
 tab : Int
 dat : Int
deriving DecidableEq
def planG (b i : Int) : Geo × Int := if b < 16 ∨ 223 < b ∨ i < 4 ∨ 64 < i then (⟨0, 0, 0, 0, 0, 0⟩, 2) else if b ≤ 3 + (i + 1) / 2 then (⟨0, 0, 0, 0, 0, 0⟩, 10) else (⟨b, i, 1, 2, 3, 3 + (i + 1) / 2⟩, 0)
def headG (b i : Int) : List UInt8 := [104, 105, 98, 49] ++ putLE b.toNat 2 ++ putLE i.toNat 2 ++ List.replicate 120 0
def volE (v : Frames) : Int :=
 if v.length < 16 then 3
 else if (v.any fun s => decide (s.length ≠ 128)) = true then 3
 else
  let i : Int := getLE (((v.getD 0 []).drop 6).take 2)
  let g := planG v.length i
  if g.2 ≠ 0 ∨ v.getD 0 [] ≠ headG v.length i then 3
  else if (List.range 1024).all (fun k => !((decide ((k : Int) < g.1.dat) && !bitB (v.getD 2 []) k) || (decide (g.1.bl ≤ k) && bitB (v.getD 2 []) k))) = true then 0 else 3
def wrV (v : Frames) (w : Wr) : Frames := if 0 ≤ w.b ∧ w.b < v.length then v.set w.b.toNat w.d else v
def volM (m : Mach) : Frames := m.dirty.foldl wrV (homeD m.dr)
def dirtyE (v : Frames) (l : List Wr) : Bool := (List.range l.length).all fun i => !(decide ((l.getD i default).b < 0) || decide ((v.length : Int) ≤ (l.getD i default).b) || decide ((l.getD i default).d.length ≠ 128) || (decide (0 < i) && decide ((l.getD i default).b ≤ (l.getD (i - 1) default).b)))
def diskE (m : Mach) : Int :=
 if checkD m.dr ≠ 0 then checkD m.dr
 else if homeD m.dr = [] then 3
 else if 32 < m.dirty.length then 6
 else if dirtyE (homeD m.dr) m.dirty = false then 3
 else volE (volM m)
def chkM (m : Mach) : Int :=
 if numB m = true then 2
 else if m.fr.length < 1 ∨ 64 < m.fr.length then 6
 else if (m.fr.any fun s => decide (s.length ≠ 128)) = true then 3
 else if 8 < m.pr.length then 6
 else if procsB m = false then 3
 else if 64 < m.pipes.length then 6
 else if pipesB m = false then 3
 else if 65536 < m.inp.length ∨ 128 < m.init.length then 6
 else diskE m
end Go.Proofs.Ytpdhdkpebbfnnaa.V
end
