/-
  Parts of the proof of ProcLaid: Vshelf, M4, D1, D3, N1, N2, N4, VregX, VregY, VregS, T6, N8, T7, Vren2, T9, Bd, T8.
  Conditions: none.
-/
import Derived.Shelf.Strings.Builder1
import Derived.Shelf.Strings.Builder2
import Derived.Shelf.Strings.BuilderF
import Derived.Shelf.Strings.BuilderK
import Derived.Shelf.Strings.Builder2Cap
import Derived.Shelf.Strings.Prefix
import Derived.Shelf.Bits.Mul64
import Derived.Shelf.Strings.Repeat
import Derived.Shelf.Strings.BuilderCap
import Derived.Test.YtpdhdkpebbfnnaaProg
import Derived.Test.YtpdhdkpebbfnnaaWProcLaid04
import Derived.WalkKit
import Derived.Lib.BufStepsIn
set_option linter.unusedVariables false
set_option linter.unusedSimpArgs false
set_option linter.unusedSectionVars false
set_option linter.defProp false
section
namespace Go.Proofs
open Go.Shelf
def Try.lays170_ren : Go.Shelf.Ren := ⟨fun | 170 => 83 | n => n, fun | 70 => 134 | 3 => 3 | 0 => 0 | 72 => 136 | 37 => 116 | 5 => 5 | n => n, fun | n => n⟩
theorem Try.lays170 : Go.Proofs.Lays.n170 Try.prog Try.lays170_ren := {
  mixed := by kernel_rfl
  f170 := Try.func83.trans (congrArg some (by kernel_rfl))
  t0 := Try.underlying0
  a0 := Try.isAgg0
  z0 := Try.sizeOf0
  v0 := Try.zeroValue0
  t3 := Try.underlying3
  a3 := Try.isAgg3
  z3 := Try.sizeOf3
  v3 := Try.zeroValue3
  t37 := Try.underlying116
  a37 := Try.isAgg116
  z37 := Try.sizeOf116
  v37 := Try.zeroValue116
  t70 := Try.underlying134
  a70 := Try.isAgg134
  z70 := Try.sizeOf134
  v70 := Try.zeroValue134
  t72 := Try.underlying136
  a72 := Try.isAgg136
  z72 := Try.sizeOf136
  v72 := Try.zeroValue136 }
open Go.RowKit in
theorem Try.Builder_Len (B b : Nat) (bs : List Value) (w : World) (h : Lib.IsBuilder 136 5 B b bs w) :
    Calls Try.prog 83 #[.pointer (some ⟨b, 0, none⟩)] w fun e w' => e = .returned (.int .i64 bs.length) ∧ w' = w := Any.Builder_Len Try.lays170 B b bs w h
def Try.lays169_ren : Go.Shelf.Ren := ⟨fun | 169 => 84 | n => n, fun | 70 => 134 | 9 => 9 | 0 => 0 | 72 => 136 | 37 => 116 | 127 => 176 | 3 => 3 | 5 => 5 | n => n, fun | n => n⟩
theorem Try.lays169 : Go.Proofs.Lays.n169 Try.prog Try.lays169_ren := {
  mixed := by kernel_rfl
  f169 := Try.func84.trans (congrArg some (by kernel_rfl))
  t0 := Try.underlying0
  a0 := Try.isAgg0
  z0 := Try.sizeOf0
  v0 := Try.zeroValue0
  t3 := Try.underlying3
  a3 := Try.isAgg3
  z3 := Try.sizeOf3
  v3 := Try.zeroValue3
  t9 := Try.underlying9
  a9 := Try.isAgg9
  z9 := Try.sizeOf9
  v9 := Try.zeroValue9
  t37 := Try.underlying116
  a37 := Try.isAgg116
  z37 := Try.sizeOf116
  v37 := Try.zeroValue116
  t70 := Try.underlying134
  a70 := Try.isAgg134
  z70 := Try.sizeOf134
  v70 := Try.zeroValue134
  t72 := Try.underlying136
  a72 := Try.isAgg136
  z72 := Try.sizeOf136
  v72 := Try.zeroValue136
  t127 := Try.underlying176
  a127 := Try.isAgg176
  z127 := Try.sizeOf176
  v127 := Try.zeroValue176 }
theorem Try.Builder_Extra_169 : Builder.Extra Try.prog Try.lays169_ren := {
  sizeBuilder := by kernel_rfl
  liesBuilder := by kernel_rfl
  t5 := Try.underlying5
  a5 := Try.isAgg5
  z5 := Try.sizeOf5
  v5 := Try.zeroValue5
  infoByte := by kernel_rfl
  cellsByte := by kernel_rfl
  sizeByte := by kernel_rfl
  neB5 := by decide }
open Go.RowKit in
theorem Try.Builder_String (B b : Nat) (l : List UInt8) (w : World) (h : Lib.IsBuilder 136 5 B b (Lib.byteCells l) w) (h0 : l ≠ []) :
    Calls Try.prog 84 #[.pointer (some ⟨b, 0, none⟩)] w fun e w' => e = .returned (.string ⟨l.toArray⟩) ∧ Below B w w' := Any.Builder_String Try.lays169 Try.Builder_Extra_169 B b l w h h0
open Go.RowKit in
theorem Try.Builder_String_empty (B b : Nat) (w : World) (h : Lib.IsBuilder 136 5 B b [] w) (hBw : B ≤ w.heap.size) :
    Calls Try.prog 84 #[.pointer (some ⟨b, 0, none⟩)] w fun e w' => e = .returned (.string ⟨#[]⟩) ∧ Below B w w' := Any.Builder_String_empty Try.lays169 Try.Builder_Extra_169 B b w h hBw
open Go.RowKit in
theorem Try.Builder_String_any (B b : Nat) (l : List UInt8) (w : World) (h : Lib.IsBuilder 136 5 B b (Lib.byteCells l) w) (hBw : B ≤ w.heap.size) :
    Calls Try.prog 84 #[.pointer (some ⟨b, 0, none⟩)] w fun e w' => e = .returned (.string ⟨l.toArray⟩) ∧ Below B w w' := Any.Builder_String_any Try.lays169 Try.Builder_Extra_169 B b l w h hBw
def Try.lays241_ren : Go.Shelf.Ren := ⟨fun | 241 => 119 | 277 => 145 | n => n, fun | 70 => 134 | 3 => 3 | 0 => 0 | 72 => 136 | 37 => 116 | 5 => 5 | n => n, fun | n => n⟩
theorem Try.lays241 : Go.Proofs.Lays.n241 Try.prog Try.lays241_ren := {
  mixed := by kernel_rfl
  f241 := Try.func119.trans (congrArg some (by kernel_rfl))
  f277 := Try.func145.trans (congrArg some (by kernel_rfl))
  t0 := Try.underlying0
  a0 := Try.isAgg0
  z0 := Try.sizeOf0
  v0 := Try.zeroValue0
  t3 := Try.underlying3
  a3 := Try.isAgg3
  z3 := Try.sizeOf3
  v3 := Try.zeroValue3
  t37 := Try.underlying116
  a37 := Try.isAgg116
  z37 := Try.sizeOf116
  v37 := Try.zeroValue116
  t70 := Try.underlying134
  a70 := Try.isAgg134
  z70 := Try.sizeOf134
  v70 := Try.zeroValue134
  t72 := Try.underlying136
  a72 := Try.isAgg136
  z72 := Try.sizeOf136
  v72 := Try.zeroValue136 }
theorem Try.Builder_Extra_241 : Builder.Extra Try.prog Try.lays241_ren := {
  sizeBuilder := by kernel_rfl
  liesBuilder := by kernel_rfl
  t5 := Try.underlying5
  a5 := Try.isAgg5
  z5 := Try.sizeOf5
  v5 := Try.zeroValue5
  infoByte := by kernel_rfl
  cellsByte := by kernel_rfl
  sizeByte := by kernel_rfl
  neB5 := by decide }
open Go.RowKit in
theorem Try.Builder_grow_fresh (B b n : Nat) (w : World) (hB : B ≤ b) (hbk : w.heap[b]? = some (.cells #[.pointer (some ⟨b, 0, none⟩), .slice none 0 0] 136 (0, 0))) (hBw : B ≤ w.heap.size) (hn : n ≤ 281474976710656) :
    Calls Try.prog 119 #[.pointer (some ⟨b, 0, none⟩), .int .i64 n] w fun e w' => e = .returned (.tuple #[]) ∧ (Lib.BuilderAt 136 5 B b (.pointer (some ⟨b, 0, none⟩)) [] w' ∧ Below B w w') := Any.Builder_grow_fresh Try.lays241 Try.Builder_Extra_241 B b n w hB hbk hBw hn
def Try.lays165_ren : Go.Shelf.Ren := ⟨fun | 165 => 81 | 240 => 118 | 241 => 119 | 276 => 144 | 277 => 145 | n => n, fun | 70 => 134 | 3 => 3 | 0 => 0 | 4 => 4 | 9 => 9 | 20 => 20 | 72 => 136 | 37 => 116 | 164 => 184 | 5 => 5 | n => n, fun | n => n⟩
theorem Try.lays165 : Go.Proofs.Lays.n165 Try.prog Try.lays165_ren := {
  mixed := by kernel_rfl
  f165 := Try.func81.trans (congrArg some (by kernel_rfl))
  f240 := Try.func118.trans (congrArg some (by kernel_rfl))
  f241 := Try.func119.trans (congrArg some (by kernel_rfl))
  f276 := Try.func144.trans (congrArg some (by kernel_rfl))
  f277 := Try.func145.trans (congrArg some (by kernel_rfl))
  t0 := Try.underlying0
  a0 := Try.isAgg0
  z0 := Try.sizeOf0
  v0 := Try.zeroValue0
  t3 := Try.underlying3
  a3 := Try.isAgg3
  z3 := Try.sizeOf3
  v3 := Try.zeroValue3
  t4 := Try.underlying4
  a4 := Try.isAgg4
  z4 := Try.sizeOf4
  v4 := Try.zeroValue4
  t9 := Try.underlying9
  a9 := Try.isAgg9
  z9 := Try.sizeOf9
  v9 := Try.zeroValue9
  t20 := Try.underlying20
  a20 := Try.isAgg20
  z20 := Try.sizeOf20
  v20 := Try.zeroValue20
  t37 := Try.underlying116
  a37 := Try.isAgg116
  z37 := Try.sizeOf116
  v37 := Try.zeroValue116
  t70 := Try.underlying134
  a70 := Try.isAgg134
  z70 := Try.sizeOf134
  v70 := Try.zeroValue134
  t72 := Try.underlying136
  a72 := Try.isAgg136
  z72 := Try.sizeOf136
  v72 := Try.zeroValue136
  t164 := Try.underlying184
  a164 := Try.isAgg184
  z164 := Try.sizeOf184
  v164 := Try.zeroValue184 }
theorem Try.Builder_Extra_165 : Builder.Extra Try.prog Try.lays165_ren := {
  sizeBuilder := by kernel_rfl
  liesBuilder := by kernel_rfl
  t5 := Try.underlying5
  a5 := Try.isAgg5
  z5 := Try.sizeOf5
  v5 := Try.zeroValue5
  infoByte := by kernel_rfl
  cellsByte := by kernel_rfl
  sizeByte := by kernel_rfl
  neB5 := by decide }
open Go.RowKit in
theorem Try.Builder_Grow_fresh (B b n : Nat) (w : World) (hB : B ≤ b) (hbk : w.heap[b]? = some (.cells #[.pointer none, .slice none 0 0] 136 (0, 0))) (hBw : B ≤ w.heap.size) (hn : n ≤ 281474976710656) :
    Calls Try.prog 81 #[.pointer (some ⟨b, 0, none⟩), .int .i64 n] w fun e w' => e = .returned (.tuple #[]) ∧ (Lib.BuilderAt 136 5 B b (.pointer (some ⟨b, 0, none⟩)) [] w' ∧ Below B w w') := Any.Builder_Grow_fresh Try.lays165 Try.Builder_Extra_165 B b n w hB hbk hBw hn
open Go.RowKit in
theorem Try.Builder_Len_f (B b : Nat) (bs : List Value) (w : World) (h : Lib.IsBuilderF 136 5 B b bs w) :
    Calls Try.prog 83 #[.pointer (some ⟨b, 0, none⟩)] w fun e w' => e = .returned (.int .i64 bs.length) ∧ w' = w := Any.Builder_Len_f Try.lays170 B b bs w h
open Go.RowKit in
theorem Try.Builder_String_f (B b : Nat) (l : List UInt8) (w : World) (h : Lib.IsBuilderF 136 5 B b (Lib.byteCells l) w) (h0 : l ≠ []) :
    Calls Try.prog 84 #[.pointer (some ⟨b, 0, none⟩)] w fun e w' => e = .returned (.string ⟨l.toArray⟩) ∧ (Lib.IsBuilderF 136 5 B b (Lib.byteCells l) w' ∧ Below B w w') := Any.Builder_String_f Try.lays169 Try.Builder_Extra_169 B b l w h h0
open Go.RowKit in
theorem Try.Builder_String_empty_f (B b : Nat) (w : World) (h : Lib.IsBuilderF 136 5 B b [] w) (hBw : B ≤ w.heap.size) :
    Calls Try.prog 84 #[.pointer (some ⟨b, 0, none⟩)] w fun e w' => e = .returned (.string ⟨#[]⟩) ∧ (Lib.IsBuilderF 136 5 B b [] w' ∧ Below B w w') := Any.Builder_String_empty_f Try.lays169 Try.Builder_Extra_169 B b w h hBw
open Go.RowKit in
theorem Try.Builder_String_any_f (B b : Nat) (l : List UInt8) (w : World) (h : Lib.IsBuilderF 136 5 B b (Lib.byteCells l) w) (hBw : B ≤ w.heap.size) :
    Calls Try.prog 84 #[.pointer (some ⟨b, 0, none⟩)] w fun e w' => e = .returned (.string ⟨l.toArray⟩) ∧ (Lib.IsBuilderF 136 5 B b (Lib.byteCells l) w' ∧ Below B w w') := Any.Builder_String_any_f Try.lays169 Try.Builder_Extra_169 B b l w h hBw
open Go.RowKit in
theorem Try.Builder_String_k (B b : Nat) (l : List UInt8) (w : World) (h : Lib.IsBuilderF 136 5 B b (Lib.byteCells l) w) (h0 : l ≠ []) :
    Calls Try.prog 84 #[.pointer (some ⟨b, 0, none⟩)] w fun e w' => e = .returned (.string ⟨l.toArray⟩) ∧ (Lib.IsBuilderF 136 5 B b (Lib.byteCells l) w' ∧ Below B w w' ∧ Lib.OthersKept 5 (some b) w w') := Any.Builder_String_k Try.lays169 Try.Builder_Extra_169 B b l w h h0
open Go.RowKit in
theorem Try.Builder_String_empty_k (B b : Nat) (w : World) (h : Lib.IsBuilderF 136 5 B b [] w) (hBw : B ≤ w.heap.size) :
    Calls Try.prog 84 #[.pointer (some ⟨b, 0, none⟩)] w fun e w' => e = .returned (.string ⟨#[]⟩) ∧ (Lib.IsBuilderF 136 5 B b [] w' ∧ Below B w w' ∧ Lib.OthersKept 5 (some b) w w') := Any.Builder_String_empty_k Try.lays169 Try.Builder_Extra_169 B b w h hBw
open Go.RowKit in
theorem Try.Builder_String_any_k (B b : Nat) (l : List UInt8) (w : World) (h : Lib.IsBuilderF 136 5 B b (Lib.byteCells l) w) (hBw : B ≤ w.heap.size) :
    Calls Try.prog 84 #[.pointer (some ⟨b, 0, none⟩)] w fun e w' => e = .returned (.string ⟨l.toArray⟩) ∧ (Lib.IsBuilderF 136 5 B b (Lib.byteCells l) w' ∧ Below B w w' ∧ Lib.OthersKept 5 (some b) w w') := Any.Builder_String_any_k Try.lays169 Try.Builder_Extra_169 B b l w h hBw
open Go.RowKit in
theorem Try.Builder_grow_fresh_cap (B b n : Nat) (w : World) (hB : B ≤ b) (hbk : w.heap[b]? = some (.cells #[.pointer (some ⟨b, 0, none⟩), .slice none 0 0] 136 (0, 0))) (hBw : B ≤ w.heap.size) (hn : n ≤ 281474976710656) :
    Calls Try.prog 119 #[.pointer (some ⟨b, 0, none⟩), .int .i64 n] w fun e w' => e = .returned (.tuple #[]) ∧ (Lib.BuilderAt 136 5 B b (.pointer (some ⟨b, 0, none⟩)) [] w' ∧ Below B w w') ∧ ∃ p cap, w'.cell? ⟨b, 1, none⟩ = some (.slice p 0 cap) ∧ n ≤ cap := Any.Builder_grow_fresh_cap Try.lays241 Try.Builder_Extra_241 B b n w hB hbk hBw hn
open Go.RowKit in
theorem Try.Builder_Grow_fresh_cap (B b n : Nat) (w : World) (hB : B ≤ b) (hbk : w.heap[b]? = some (.cells #[.pointer none, .slice none 0 0] 136 (0, 0))) (hBw : B ≤ w.heap.size) (hn : n ≤ 281474976710656) :
    Calls Try.prog 81 #[.pointer (some ⟨b, 0, none⟩), .int .i64 n] w fun e w' => e = .returned (.tuple #[]) ∧ (Lib.BuilderAt 136 5 B b (.pointer (some ⟨b, 0, none⟩)) [] w' ∧ Below B w w') ∧ ∃ p cap, w'.cell? ⟨b, 1, none⟩ = some (.slice p 0 cap) ∧ n ≤ cap := Any.Builder_Grow_fresh_cap Try.lays165 Try.Builder_Extra_165 B b n w hB hbk hBw hn
def Try.lays206_ren : Go.Shelf.Ren := ⟨fun | 206 => 117 | n => n, fun | 9 => 9 | 4 => 4 | 3 => 3 | n => n, fun | n => n⟩
theorem Try.lays206 : Go.Proofs.Lays.n206 Try.prog Try.lays206_ren := {
  mixed := by kernel_rfl
  f206 := Try.func117.trans (congrArg some (by kernel_rfl))
  t3 := Try.underlying3
  a3 := Try.isAgg3
  z3 := Try.sizeOf3
  v3 := Try.zeroValue3
  t4 := Try.underlying4
  a4 := Try.isAgg4
  z4 := Try.sizeOf4
  v4 := Try.zeroValue4
  t9 := Try.underlying9
  a9 := Try.isAgg9
  z9 := Try.sizeOf9
  v9 := Try.zeroValue9 }
open Go.RowKit Go.Lib in
theorem Try.stringslite_HasPrefix (s p : ByteArray) (w : World) :
    Calls Try.prog 117 #[.string s, .string p] w fun e w' => e = .returned (.bool (Lib.hasPrefix s.data.toList p.data.toList)) ∧ w' = w := Any.stringslite_HasPrefix Try.lays206 s p w
def Try.lays99_ren : Go.Shelf.Ren := ⟨fun | 99 => 80 | 206 => 117 | n => n, fun | 9 => 9 | 4 => 4 | 3 => 3 | n => n, fun | n => n⟩
theorem Try.lays99 : Go.Proofs.Lays.n99 Try.prog Try.lays99_ren := {
  mixed := by kernel_rfl
  f99 := Try.func80.trans (congrArg some (by kernel_rfl))
  f206 := Try.func117.trans (congrArg some (by kernel_rfl))
  t3 := Try.underlying3
  a3 := Try.isAgg3
  z3 := Try.sizeOf3
  v3 := Try.zeroValue3
  t4 := Try.underlying4
  a4 := Try.isAgg4
  z4 := Try.sizeOf4
  v4 := Try.zeroValue4
  t9 := Try.underlying9
  a9 := Try.isAgg9
  z9 := Try.sizeOf9
  v9 := Try.zeroValue9 }
open Go.RowKit Go.Lib in
theorem Try.strings_HasPrefix (s p : ByteArray) (w : World) :
    Calls Try.prog 80 #[.string s, .string p] w fun e w' => e = .returned (.bool (Lib.hasPrefix s.data.toList p.data.toList)) ∧ w' = w := Any.strings_HasPrefix Try.lays99 s p w
def Try.lays264_ren : Go.Shelf.Ren := ⟨fun | 264 => 116 | n => n, fun | 53 => 22 | 46 => 130 | n => n, fun | n => n⟩
theorem Try.lays264 : Go.Proofs.Lays.n264 Try.prog Try.lays264_ren := {
  mixed := by kernel_rfl
  f264 := Try.func116.trans (congrArg some (by kernel_rfl))
  t46 := Try.underlying130
  a46 := Try.isAgg130
  z46 := Try.sizeOf130
  v46 := Try.zeroValue130
  t53 := Try.underlying22
  a53 := Try.isAgg22
  z53 := Try.sizeOf22
  v53 := Try.zeroValue22 }
open Go.RowKit Go.Lib in
theorem Try.bits_Mul64 (x y : Nat) (hx : x < 18446744073709551616) (hy : y < 18446744073709551616) (w : World) :
    Calls Try.prog 116 #[.int .u64 x, .int .u64 y] w fun e w' => e = .returned (.tuple #[.int .u64 ((x * y / 18446744073709551616 : Nat) : Int), .int .u64 ((x * y % 18446744073709551616 : Nat) : Int)]) ∧ w' = w := Any.bits_Mul64 Try.lays264 x y hx hy w
def Try.lays212_ren : Go.Shelf.Ren := ⟨fun | 212 => 79 | 263 => 115 | 264 => 116 | n => n, fun | 46 => 130 | 51 => 32 | 146 => 172 | 53 => 22 | 148 => 174 | n => n, fun | n => n⟩
theorem Try.lays212 : Go.Proofs.Lays.n212 Try.prog Try.lays212_ren := {
  mixed := by kernel_rfl
  f212 := Try.func79.trans (congrArg some (by kernel_rfl))
  f263 := Try.func115.trans (congrArg some (by kernel_rfl))
  f264 := Try.func116.trans (congrArg some (by kernel_rfl))
  t46 := Try.underlying130
  a46 := Try.isAgg130
  z46 := Try.sizeOf130
  v46 := Try.zeroValue130
  t51 := Try.underlying32
  a51 := Try.isAgg32
  z51 := Try.sizeOf32
  v51 := Try.zeroValue32
  t53 := Try.underlying22
  a53 := Try.isAgg22
  z53 := Try.sizeOf22
  v53 := Try.zeroValue22
  t146 := Try.underlying172
  a146 := Try.isAgg172
  z146 := Try.sizeOf172
  v146 := Try.zeroValue172
  t148 := Try.underlying174
  a148 := Try.isAgg174
  z148 := Try.sizeOf174
  v148 := Try.zeroValue174 }
open Go.RowKit Go.Lib in
theorem Try.bits_Mul (x y : Nat) (hx : x < 18446744073709551616) (hy : y < 18446744073709551616) (w : World) :
    Calls Try.prog 79 #[.int .u64 x, .int .u64 y] w fun e w' => e = .returned (.tuple #[.int .u64 ((x * y / 18446744073709551616 : Nat) : Int), .int .u64 ((x * y % 18446744073709551616 : Nat) : Int)]) ∧ w' = w := Any.bits_Mul Try.lays212 x y hx hy w
def Try.lays105_ren : Go.Shelf.Ren := ⟨fun | 105 => 38 | 212 => 79 | 99 => 80 | 165 => 81 | 166 => 82 | 170 => 83 | 169 => 84 | 263 => 115 | 264 => 116 | 206 => 117 | 240 => 118 | 241 => 119 | 276 => 144 | 277 => 145 | n => n, fun | 9 => 9 | 3 => 3 | 4 => 4 | 20 => 20 | 0 => 0 | 46 => 130 | 109 => 131 | 5 => 5 | 72 => 136 | 76 => 140 | 51 => 32 | 146 => 172 | 53 => 22 | 148 => 174 | 70 => 134 | 37 => 116 | 75 => 139 | 127 => 176 | 164 => 184 | 80 => 104 | n => n, fun | n => n⟩
theorem Try.lays105 : Go.Proofs.Lays.n105 Try.prog Try.lays105_ren := {
  mixed := by kernel_rfl
  f99 := Try.func80.trans (congrArg some (by kernel_rfl))
  f105 := Try.func38.trans (congrArg some (by kernel_rfl))
  f165 := Try.func81.trans (congrArg some (by kernel_rfl))
  f166 := Try.func82.trans (congrArg some (by kernel_rfl))
  f169 := Try.func84.trans (congrArg some (by kernel_rfl))
  f170 := Try.func83.trans (congrArg some (by kernel_rfl))
  f206 := Try.func117.trans (congrArg some (by kernel_rfl))
  f212 := Try.func79.trans (congrArg some (by kernel_rfl))
  f240 := Try.func118.trans (congrArg some (by kernel_rfl))
  f241 := Try.func119.trans (congrArg some (by kernel_rfl))
  f263 := Try.func115.trans (congrArg some (by kernel_rfl))
  f264 := Try.func116.trans (congrArg some (by kernel_rfl))
  f276 := Try.func144.trans (congrArg some (by kernel_rfl))
  f277 := Try.func145.trans (congrArg some (by kernel_rfl))
  t0 := Try.underlying0
  a0 := Try.isAgg0
  z0 := Try.sizeOf0
  v0 := Try.zeroValue0
  t3 := Try.underlying3
  a3 := Try.isAgg3
  z3 := Try.sizeOf3
  v3 := Try.zeroValue3
  t4 := Try.underlying4
  a4 := Try.isAgg4
  z4 := Try.sizeOf4
  v4 := Try.zeroValue4
  t5 := Try.underlying5
  a5 := Try.isAgg5
  z5 := Try.sizeOf5
  v5 := Try.zeroValue5
  t9 := Try.underlying9
  a9 := Try.isAgg9
  z9 := Try.sizeOf9
  v9 := Try.zeroValue9
  t20 := Try.underlying20
  a20 := Try.isAgg20
  z20 := Try.sizeOf20
  v20 := Try.zeroValue20
  t37 := Try.underlying116
  a37 := Try.isAgg116
  z37 := Try.sizeOf116
  v37 := Try.zeroValue116
  t46 := Try.underlying130
  a46 := Try.isAgg130
  z46 := Try.sizeOf130
  v46 := Try.zeroValue130
  t51 := Try.underlying32
  a51 := Try.isAgg32
  z51 := Try.sizeOf32
  v51 := Try.zeroValue32
  t53 := Try.underlying22
  a53 := Try.isAgg22
  z53 := Try.sizeOf22
  v53 := Try.zeroValue22
  t70 := Try.underlying134
  a70 := Try.isAgg134
  z70 := Try.sizeOf134
  v70 := Try.zeroValue134
  t72 := Try.underlying136
  a72 := Try.isAgg136
  z72 := Try.sizeOf136
  v72 := Try.zeroValue136
  t75 := Try.underlying139
  a75 := Try.isAgg139
  z75 := Try.sizeOf139
  v75 := Try.zeroValue139
  t76 := Try.underlying140
  a76 := Try.isAgg140
  z76 := Try.sizeOf140
  v76 := Try.zeroValue140
  t109 := Try.underlying131
  a109 := Try.isAgg131
  z109 := Try.sizeOf131
  v109 := Try.zeroValue131
  t127 := Try.underlying176
  a127 := Try.isAgg176
  z127 := Try.sizeOf176
  v127 := Try.zeroValue176
  t146 := Try.underlying172
  a146 := Try.isAgg172
  z146 := Try.sizeOf172
  v146 := Try.zeroValue172
  t148 := Try.underlying174
  a148 := Try.isAgg174
  z148 := Try.sizeOf174
  v148 := Try.zeroValue174
  t164 := Try.underlying184
  a164 := Try.isAgg184
  z164 := Try.sizeOf184
  v164 := Try.zeroValue184 }
theorem Try.Builder_Extra_105 : Builder.Extra Try.prog Try.lays105_ren := {
  sizeBuilder := by kernel_rfl
  liesBuilder := by kernel_rfl
  t5 := Try.underlying5
  a5 := Try.isAgg5
  z5 := Try.sizeOf5
  v5 := Try.zeroValue5
  infoByte := by kernel_rfl
  cellsByte := by kernel_rfl
  sizeByte := by kernel_rfl
  neB5 := by decide }
open Go.RowKit Go.Lib in
theorem Try.strings_Repeat_main (s : ByteArray) (c : Nat) (w : World) (hc2 : 2 ≤ c) (hc : c ≤ 9223372036854775807) (hlen : s.size * c ≤ 140737488355328) (h0 : 0 < s.size) :
    Calls Try.prog 38 #[.string s, .int .i64 c] w fun e w' => e = .returned (.string ⟨(Lib.repeatL s.data.toList c).toArray⟩) ∧ Below w.heap.size w w' := Any.strings_Repeat_main Try.lays105 Try.Builder_Extra_105 s c w hc2 hc hlen h0
open Go.RowKit Go.Lib in
theorem Try.strings_Repeat_zero (s : ByteArray) (w : World) :
    Calls Try.prog 38 #[.string s, .int .i64 0] w fun e w' => e = .returned (.string ⟨#[]⟩) ∧ w' = w := Any.strings_Repeat_zero Try.lays105 s w
open Go.RowKit Go.Lib in
theorem Try.strings_Repeat_one (s : ByteArray) (w : World) :
    Calls Try.prog 38 #[.string s, .int .i64 1] w fun e w' => e = .returned (.string s) ∧ w' = w := Any.strings_Repeat_one Try.lays105 s w
open Go.RowKit Go.Lib in
theorem Try.strings_Repeat_empty (s : ByteArray) (c : Nat) (w : World) (hc2 : 2 ≤ c) (hc : c ≤ 9223372036854775807) (h0 : s.size = 0) :
    Calls Try.prog 38 #[.string s, .int .i64 c] w fun e w' => e = .returned (.string ⟨#[]⟩) ∧ w' = w := Any.strings_Repeat_empty Try.lays105 s c w hc2 hc h0
open Go.RowKit Go.Lib in
theorem Try.strings_Repeat_negative (s : ByteArray) (c : Int) (w : World) (hc : c < 0) :
    Calls Try.prog 38 #[.string s, .int .i64 c] w fun e w' => e = .panicked [{ v := repeatPanic Try.lays105_ren "strings: negative Repeat count", recovered := false }] ∧ w' = w := Any.strings_Repeat_negative Try.lays105 s c w hc
open Go.RowKit Go.Lib in
theorem Try.strings_Repeat_overflow (s : ByteArray) (c : Nat) (w : World) (hc : c ≤ 9223372036854775807) (hs : s.size ≤ 9223372036854775807) (hbig : 9223372036854775807 < s.size * c) :
    Calls Try.prog 38 #[.string s, .int .i64 c] w fun e w' => e = .panicked [{ v := repeatPanic Try.lays105_ren "strings: Repeat output length overflow", recovered := false }] ∧ w' = w := Any.strings_Repeat_overflow Try.lays105 s c w hc hs hbig
open Go.RowKit Go.Lib in
theorem Try.strings_Repeat (s : ByteArray) (c : Nat) (w : World) (hc : c ≤ 9223372036854775807) (hlen : s.size * c ≤ 140737488355328) :
    Calls Try.prog 38 #[.string s, .int .i64 c] w fun e w' => e = .returned (.string ⟨(Lib.repeatL s.data.toList c).toArray⟩) ∧ Below w.heap.size w w' := Any.strings_Repeat Try.lays105 Try.Builder_Extra_105 s c w hc hlen
end Go.Proofs
end
section
namespace Go.Proofs.Ytpdhdkpebbfnnaa.V
open Go
set_option maxRecDepth 100000
set_option maxHeartbeats 1000000
theorem repeat_spec (s : List UInt8) (c : Nat) (h : s.length * c ≤ 140737488355328) (hc : c ≤ 9223372036854775807) : Spec Try.prog 38 [.str s, .int .i64 c] (.str (List.replicate c s).flatten) := by
  intro U w xs hx
  obtain ⟨x, ys, rfl, h1, y, zs, rfl, h2, h3⟩ := hx
  have h3 : zs = [] := h3
  subst h3
  rw [h1.str, h2.int]
  have e : Lib.repeatL s c = (List.replicate c s).flatten := by
    clear h hc h1 h2
    induction c with
    | zero => rfl
    | succ c ih => simp [Lib.repeatL, List.replicate_succ, ih]
  refine (Try.strings_Repeat ⟨s.toArray⟩ c w hc (by show s.toArray.size * c ≤ _; simpa using h)).mono fun e' w' ⟨he, hb⟩ => ⟨_, he, hb, ?_⟩
  rw [e]
  exact VR_str
def framesV : Option Frames → VV
  | some fr => .tup [encStrs fr, .bool true]
  | none => .tup [encStrs [], .bool false]
end Go.Proofs.Ytpdhdkpebbfnnaa.V
end
section
namespace Go.Proofs.Ytpdhdkpebbfnnaa.V
open Go
set_option maxRecDepth 100000
set_option maxHeartbeats 1000000
structure Wr where
  b : Int
  d : List UInt8
deriving DecidableEq
instance : Inhabited Wr := ⟨⟨0, []⟩⟩
structure Dr where
  bl : Frames
  pe : List Wr
  left : Int
deriving DecidableEq
def encWr (w : Wr) : VV := .agg [.int .i64 w.b, .str w.d]
abbrev encWrs (l : List Wr) : VV := .dat (.st [.cell, .cell]) (l.map encWr)
abbrev encDr (d : Dr) : VV := .agg [encStrs d.bl, encWrs d.pe, .int .i64 d.left]
theorem jO (l : List Wr) : nls (l.map encWr) = true := nls_map _ (fun _ => rfl) l
def fitsL (l : Frames) : Prop := l.length < 2 ^ 36 ∧ ∀ s ∈ l, s.length ≤ 2 ^ 47
def dfit (d : Dr) : Prop := fitsL d.bl ∧ d.pe.length < 2 ^ 36 ∧ ∀ w ∈ d.pe, w.d.length ≤ 2 ^ 47
theorem any_of {α : Type} [Inhabited α] (l : List α) (p : α → Bool) (k : Nat) (h : k < l.length) (hp : p (l.getD k default) = true) : l.any p = true := by
  rw [List.any_eq_true]
  refine ⟨_, ?_, hp⟩
  rw [List.getD_eq_getElem?_getD, List.getElem?_eq_getElem h]; exact List.getElem_mem _
theorem any_none {α : Type} [Inhabited α] (l : List α) (p : α → Bool) (h : ∀ j, j < l.length → p (l.getD j default) = false) : l.any p = false := by
  rw [List.any_eq_false]
  intro x hx
  obtain ⟨j, hj, e⟩ := List.mem_iff_getElem.1 hx
  have := h j hj
  rw [List.getD_eq_getElem?_getD, List.getElem?_eq_getElem hj] at this
  simp only [Option.getD_some] at this
  rw [← e, this]
  simp
def longB (n : Nat) (s : List UInt8) : Bool := decide (n < s.length)
def checkW (n : Nat) : List Wr → Int
  | [] => 0
  | w :: ws => if ¬(0 ≤ w.b ∧ w.b < n) then 2 else if w.d.length ≠ 128 then 3 else checkW n ws
def checkD (d : Dr) : Int := if 256 < d.bl.length then 6 else if d.bl.any (fun s => decide (s.length ≠ 128)) = true then 3 else checkW d.bl.length d.pe
theorem drop_getD' {α : Type} [Inhabited α] (l : List α) (i : Nat) (h : i < l.length) : l.drop i = l.getD i default :: l.drop (i + 1) := by
  rw [List.drop_eq_getElem_cons h, List.getD_eq_getElem?_getD, List.getElem?_eq_getElem h]; rfl
theorem getD_mem' {α : Type} [Inhabited α] {l : List α} {i : Nat} (h : i < l.length) : l.getD i default ∈ l := by
  rw [List.getD_eq_getElem?_getD, List.getElem?_eq_getElem h]; exact List.getElem_mem _
end Go.Proofs.Ytpdhdkpebbfnnaa.V
end
section
namespace Go.Proofs.Ytpdhdkpebbfnnaa.V
open Go
set_option maxRecDepth 100000
set_option maxHeartbeats 1000000
def zeros : List UInt8 := List.replicate 128 0
def drV (x : Dr × Int) : VV := .tup [encDr x.1, .int .i64 x.2]
def getP (pe : List Wr) (i : Int) (s : List UInt8) : List UInt8 := pe.foldl (fun s w => if w.b = i then w.d else s) s
theorem getP_snoc (pe : List Wr) (w : Wr) (i : Int) (s : List UInt8) : getP (pe ++ [w]) i s = if w.b = i then w.d else getP pe i s := by
  simp [getP, List.foldl_append]
def getV (d : Dr) (i : Int) : VV := if 0 ≤ i ∧ i < d.bl.length then .tup [.str (getP d.pe i (d.bl.getD i.toNat [])), .int .i64 0] else .tup [.str [], .int .i64 2]
theorem rget_spec (d : Dr) (hd : dfit d) (i : Int) (hi : -2 ^ 63 ≤ i ∧ i < 2 ^ 63) : Spec Try.prog 148 [encDr d, .int .i64 i] (getV d i) := by
  obtain ⟨⟨hf1, hf2⟩, hf3, hf4⟩ := hd
  by_cases hb : 0 ≤ i ∧ i < d.bl.length
  · rw [getV, if_pos hb]
    obtain ⟨R, hR⟩ : ∃ R, R = getP d.pe i (d.bl.getD i.toNat []) := ⟨_, rfl⟩
    rw [← hR]
    refine spec_ok Try.func148 rfl rfl (by kernel_rfl) (k := 2) rfl (by decide) ?_
    repeat' (first|(with_reducible first|refine yrl (by constructor) ?_|refine jk (fun M hM=>?_)|(refine hM _ ?_;clear hM M)|refine xb3 (by decide) ?_|refine yqa (by assumption) ?_ ?_|refine yqb (by assumption) ?_ ?_)|((with_reducible refine je ?_)<;>(first|rfl|assumption|(simp only [znl,jO];(first|done|fail))))|(with_reducible refine jf (by (simp only [↓reduceIte,zlk,Nat.reduceEqDiff,reduceCtorEq]);exact rfl) ?_)|((with_reducible first|refine jg (fun hc=>?_) (fun hc=>?_)|refine jh (fun hc=>?_) (fun hc=>?_))<;>(try simp (disch:=omega) only [zhb] at hc)<;>(try (exfalso;omega))<;>(try subst hc))|(with_reducible refine ji (by omega) ?_)|(simp (config := { maxSteps := 400000 }) only [↓jt,↓reduceIte,zvs,reduceCtorEq,seval,-List.reduceReplicate,tab,encDr,Try.results148,jTA])|(simp (disch:=omega) only [ziw]))
    refine ok_loop (fun k : Nat => ⟨slots [(1, .int .i64 i), (2, .ptr 0 []), (4, .str []), (5, .int .i64 0), (6, .str (getP (d.pe.take k) i (d.bl.getD i.toNat []))), (7, .int .i64 k)], rows [(0, .row (.st [.cell, .cell, .cell]) (encDr d))], 1⟩) (fun k => k ≤ d.pe.length) (fun k => d.pe.length - k) 0 ?_ (Nat.zero_le _) (fun k hk => ?_)
    · (refine yrn [(0, 0)] false ?_ ?_<;>(repeat' (first|(with_reducible first|exact ya1|exact ya2|exact ya3|refine jx rfl (by first|rfl|assumption|(simp only [znl,jO];(first|done|fail)))|exact ya5|exact ya7|exact jy|exact jz|refine jA ?_|refine ya9 ?_ ?_ ?_|refine jC rfl (by first|rfl|assumption|(simp only [znl,jO];(first|done|fail)))|refine MR.agg (MRL.cons ?_ ?_)|refine MR.fn ?_|refine MRL.cons ?_ ?_|exact MRL.nil|refine jE ?_ ?_|exact jF|exact jG|refine yb1 ?_ ?_|refine MB.row ?_|refine jI ?_ ?_|exact ya8|refine jJ rfl (by first|rfl|assumption|(simp only [znl,jO];(first|done|fail)))|refine yb2 ?_|rfl)|(simp only [znl,jO];(first|done|fail))|(simp only [↓reduceIte,zlk,Nat.reduceEqDiff,reduceCtorEq])|(with_reducible first|refine jJ ?_ ?_|refine ya5 ?_|refine ju ?_|refine jv ?_|refine jw ?_|refine jx ?_ (by first|rfl|assumption|(simp only [znl,jO];(first|done|fail)))|refine jC ?_ (by first|rfl|assumption|(simp only [znl,jO];(first|done|fail)))))))
      all_goals rfl
    by_cases hlt : k < d.pe.length
    · have e1 := take_snoc d.pe k (by omega)
      have e2 := getP_snoc (d.pe.take k) (d.pe.getD k default) i (d.bl.getD i.toNat [])
      rw [← e1] at e2
      repeat' (first|(with_reducible first|refine yrl (by constructor) ?_|refine jk (fun M hM=>?_)|(refine hM _ ?_;clear hM M)|refine xb3 (by decide) ?_|refine yqa (by assumption) ?_ ?_|refine yqb (by assumption) ?_ ?_)|((with_reducible refine je ?_)<;>(first|rfl|assumption|(simp only [znl,jO];(first|done|fail))))|(with_reducible refine jf (by (simp only [↓reduceIte,zlk,Nat.reduceEqDiff,reduceCtorEq]);exact rfl) ?_)|((with_reducible first|refine jg (fun hc=>?_) (fun hc=>?_)|refine jh (fun hc=>?_) (fun hc=>?_))<;>(try simp (disch:=omega) only [zhb] at hc)<;>(try (exfalso;omega))<;>(try subst hc))|(with_reducible refine ji (by omega) ?_)|(simp (config := { maxSteps := 400000 }) only [↓jt,↓reduceIte,zvs,reduceCtorEq,seval,-List.reduceReplicate,tab,encWr,Try.results148,jTA])|(simp (disch:=omega) only [ziw]))
      · rw [if_pos rfl] at e2
        refine xl1 (k + 1) ?_ (by show k + 1 ≤ d.pe.length; omega) (by show d.pe.length - (k + 1) < d.pe.length - k; omega)
        (refine yrn [(0, 0)] false ?_ ?_<;>(repeat' (first|(with_reducible first|exact ya1|exact ya2|exact ya3|refine jx rfl (by first|rfl|assumption|(simp only [znl,jO];(first|done|fail)))|exact ya5|exact ya7|exact jy|exact jz|refine jA ?_|refine ya9 ?_ ?_ ?_|refine jC rfl (by first|rfl|assumption|(simp only [znl,jO];(first|done|fail)))|refine MR.agg (MRL.cons ?_ ?_)|refine MR.fn ?_|refine MRL.cons ?_ ?_|exact MRL.nil|refine jE ?_ ?_|exact jF|exact jG|refine yb1 ?_ ?_|refine MB.row ?_|refine jI ?_ ?_|exact ya8|refine jJ rfl (by first|rfl|assumption|(simp only [znl,jO];(first|done|fail)))|refine yb2 ?_|rfl)|(simp only [znl,jO];(first|done|fail))|(simp only [↓reduceIte,zlk,Nat.reduceEqDiff,reduceCtorEq])|(with_reducible first|refine jJ ?_ ?_|refine ya5 ?_|refine ju ?_|refine jv ?_|refine jw ?_|refine jx ?_ (by first|rfl|assumption|(simp only [znl,jO];(first|done|fail)))|refine jC ?_ (by first|rfl|assumption|(simp only [znl,jO];(first|done|fail)))))))
        rw [e2]
      · rw [if_neg hc] at e2
        refine xl1 (k + 1) ?_ (by show k + 1 ≤ d.pe.length; omega) (by show d.pe.length - (k + 1) < d.pe.length - k; omega)
        (refine yrn [(0, 0)] false ?_ ?_<;>(repeat' (first|(with_reducible first|exact ya1|exact ya2|exact ya3|refine jx rfl (by first|rfl|assumption|(simp only [znl,jO];(first|done|fail)))|exact ya5|exact ya7|exact jy|exact jz|refine jA ?_|refine ya9 ?_ ?_ ?_|refine jC rfl (by first|rfl|assumption|(simp only [znl,jO];(first|done|fail)))|refine MR.agg (MRL.cons ?_ ?_)|refine MR.fn ?_|refine MRL.cons ?_ ?_|exact MRL.nil|refine jE ?_ ?_|exact jF|exact jG|refine yb1 ?_ ?_|refine MB.row ?_|refine jI ?_ ?_|exact ya8|refine jJ rfl (by first|rfl|assumption|(simp only [znl,jO];(first|done|fail)))|refine yb2 ?_|rfl)|(simp only [znl,jO];(first|done|fail))|(simp only [↓reduceIte,zlk,Nat.reduceEqDiff,reduceCtorEq])|(with_reducible first|refine jJ ?_ ?_|refine ya5 ?_|refine ju ?_|refine jv ?_|refine jw ?_|refine jx ?_ (by first|rfl|assumption|(simp only [znl,jO];(first|done|fail)))|refine jC ?_ (by first|rfl|assumption|(simp only [znl,jO];(first|done|fail)))))))
        rw [e2]
    · obtain rfl : k = d.pe.length := by omega
      rw [List.take_length] at *
      repeat' (first|(with_reducible first|refine yrl (by constructor) ?_|refine jk (fun M hM=>?_)|(refine hM _ ?_;clear hM M)|refine xb3 (by decide) ?_|refine yqa (by assumption) ?_ ?_|refine yqb (by assumption) ?_ ?_)|((with_reducible refine je ?_)<;>(first|rfl|assumption|(simp only [znl,jO];(first|done|fail))))|(with_reducible refine jf (by (simp only [↓reduceIte,zlk,Nat.reduceEqDiff,reduceCtorEq]);exact rfl) ?_)|((with_reducible first|refine jg (fun hc=>?_) (fun hc=>?_)|refine jh (fun hc=>?_) (fun hc=>?_))<;>(try simp (disch:=omega) only [zhb] at hc)<;>(try (exfalso;omega))<;>(try subst hc))|(with_reducible refine ji (by omega) ?_)|(simp (config := { maxSteps := 400000 }) only [↓jt,↓reduceIte,zvs,reduceCtorEq,seval,-List.reduceReplicate,tab,List.take_length,encWr,Try.results148,jTA])|(simp (disch:=omega) only [ziw]))
      rw [hR]
      simp only [zrds]
  · rw [getV, if_neg hb]
    refine spec_ok Try.func148 rfl rfl (by kernel_rfl) (k := 2) rfl (by decide) ?_
    repeat' (first|(with_reducible first|refine yrl (by constructor) ?_|refine jk (fun M hM=>?_)|(refine hM _ ?_;clear hM M)|refine xb3 (by decide) ?_|refine yqa (by assumption) ?_ ?_|refine yqb (by assumption) ?_ ?_)|((with_reducible refine je ?_)<;>(first|rfl|assumption|(simp only [znl,jO];(first|done|fail))))|(with_reducible refine jf (by (simp only [↓reduceIte,zlk,Nat.reduceEqDiff,reduceCtorEq]);exact rfl) ?_)|((with_reducible first|refine jg (fun hc=>?_) (fun hc=>?_)|refine jh (fun hc=>?_) (fun hc=>?_))<;>(try simp (disch:=omega) only [zhb] at hc)<;>(try (exfalso;omega))<;>(try subst hc))|(with_reducible refine ji (by omega) ?_)|(simp (config := { maxSteps := 400000 }) only [↓jt,↓reduceIte,zvs,reduceCtorEq,seval,-List.reduceReplicate,tab,encDr,Try.results148,jTA])|(simp (disch:=omega) only [ziw]))
    all_goals simp only [zrds]
end Go.Proofs.Ytpdhdkpebbfnnaa.V
end
section
namespace Go.Proofs.Ytpdhdkpebbfnnaa.V
open Go
set_option maxRecDepth 100000
set_option maxHeartbeats 1000000
structure Fdd where
  kind : Int
  n : Int
  pos : Int
deriving DecidableEq
instance : Inhabited Fdd := ⟨⟨0, 0, 0⟩⟩
deriving instance DecidableEq for Pte
structure Pr where
  pid : Int
  par : Int
  st : Int
  rs : List Int
  pc : Int
  sp : List Pte
  fds : List Fdd
  mask : Bool
  code : Int
  why : Int
  n : Int
deriving DecidableEq
instance : Inhabited Pr := ⟨⟨0, 0, 0, [], 0, [], [], false, 0, 0, 0⟩⟩
structure Pip where
  id : Int
  d : List UInt8
deriving DecidableEq
instance : Inhabited Pip := ⟨⟨0, []⟩⟩
structure Mach where
  clock : Int
  quantum : Int
  cur : Int
  left : Int
  fr : Frames
  pr : List Pr
  next : Int
  init : List UInt8
  pipes : List Pip
  newp : Int
  inp : List UInt8
  fin : Bool
  told : Int
  dr : Dr
  dirty : List Wr
def encFd (f : Fdd) : VV := .agg [.int .i64 f.kind, .int .i64 f.n, .int .i64 f.pos]
def encPr (p : Pr) : VV := .agg [.int .i64 p.pid, .int .i64 p.par, .int .i64 p.st, .agg [.agg (p.rs.map (.int .u32)), .int .u32 p.pc], .agg (p.sp.map encPte), .agg (p.fds.map encFd), .bool p.mask, .int .u32 p.code, .int .i64 p.why, .int .u64 p.n]
def encPi (p : Pip) : VV := .agg [.int .i64 p.id, .str p.d]
abbrev pteSh : Sh := .st [.cell, .cell, .cell]
abbrev prSh : Sh := .st [.cell, .cell, .cell, .st [.arr 16 .cell, .cell], .arr 16 pteSh, .arr 8 pteSh, .cell, .cell, .cell, .cell]
abbrev piSh : Sh := .st [.cell, .cell]
abbrev encPrs (l : List Pr) : VV := .dat prSh (l.map encPr)
abbrev encPis (l : List Pip) : VV := .dat piSh (l.map encPi)
abbrev encM (m : Mach) : VV := .agg [.int .u64 m.clock, .int .i64 m.quantum, .int .i64 m.cur, .int .i64 m.left, encStrs m.fr, encPrs m.pr, .int .i64 m.next, .str m.init, encPis m.pipes, .int .i64 m.newp, .str m.inp, .bool m.fin, .int .u64 m.told, encDr m.dr, encWrs m.dirty]
theorem hasFd (f : Fdd) : Has pteSh (encFd f) := by simp [encFd, Has, HasL, VV.leaf]
theorem hasFds (l : List Fdd) (h : l.length = 8) : Has (.arr 8 pteSh) (.agg (l.map encFd)) := has_arrMap h hasFd
theorem hasRs (l : List Int) (h : l.length = 16) : Has (.arr 16 .cell) (.agg (l.map (.int .u32))) := has_arrMap h (fun x => by simp [Has, VV.leaf])
def i64R (x : Int) : Prop := -9223372036854775808 ≤ x ∧ x ≤ 9223372036854775807
def u64R (x : Int) : Prop := 0 ≤ x ∧ x ≤ 18446744073709551615
def u32R (x : Int) : Prop := 0 ≤ x ∧ x ≤ 4294967295
def fdR (f : Fdd) : Prop := i64R f.kind ∧ i64R f.n ∧ i64R f.pos
structure PrR (p : Pr) : Prop where
  pid : i64R p.pid
  par : i64R p.par
  st : i64R p.st
  rs : p.rs.length = 16
  rsR : ∀ x ∈ p.rs, u32R x
  pc : u32R p.pc
  sp : p.sp.length = 16
  spR : ∀ x ∈ p.sp, i64R x.fr
  fds : p.fds.length = 8
  fdsR : ∀ x ∈ p.fds, fdR x
  code : u32R p.code
  why : i64R p.why
  n : u64R p.n
theorem hasPr (p : Pr) (h : PrR p) : Has prSh (encPr p) := by
  have h1 := hasRs p.rs h.rs
  have h2 := hasSpace p.sp h.sp
  have h3 := hasFds p.fds h.fds
  simp only [encPr,Has,HasL] at *
  simp [h1, h2, h3, VV.leaf]
  exact ⟨fun a _ => by have := hasPte a; simpa only [Has,HasL] using this, fun a _ => by have := hasFd a; simpa only [Has,HasL] using this⟩
theorem jS (l : List Fdd) : nls (l.map encFd) = true := nls_map _ (fun _ => rfl) l
theorem jQ (l : List Pip) : nls (l.map encPi) = true := nls_map _ (fun _ => rfl) l
theorem jT (l : List Int) : nls (l.map (.int .u32)) = true := nls_map _ (fun _ => rfl) l
theorem jU (p : Pr) : nl (encPr p) = true := by
  simp only [encPr,nl,nls,jS,jR,jT,Bool.and_self]
theorem jP (l : List Pr) : nls (l.map encPr) = true := nls_map _ jU l
structure MFit (N : Nat) (m : Mach) : Prop where
  clock : u64R m.clock
  quantum : i64R m.quantum
  cur : i64R m.cur
  left : i64R m.left
  fr : m.fr.length ≤ N
  frS : ∀ s ∈ m.fr, s.length ≤ 2 ^ 47
  pr : m.pr.length ≤ N
  prR : ∀ p ∈ m.pr, PrR p
  next : i64R m.next
  init : m.init.length ≤ 2 ^ 47
  pipes : m.pipes.length ≤ N
  pipesR : ∀ p ∈ m.pipes, i64R p.id ∧ p.d.length ≤ 2 ^ 47
  newp : i64R m.newp
  inp : m.inp.length ≤ 2 ^ 47
  told : u64R m.told
  bl : m.dr.bl.length ≤ N
  blS : ∀ s ∈ m.dr.bl, s.length ≤ 2 ^ 47
  pe : m.dr.pe.length ≤ N
  peS : ∀ w ∈ m.dr.pe, i64R w.b ∧ w.d.length ≤ 2 ^ 47
  dleft : i64R m.dr.left
  dirty : m.dirty.length ≤ N
  dirtyS : ∀ w ∈ m.dirty, i64R w.b ∧ w.d.length ≤ 2 ^ 47
end Go.Proofs.Ytpdhdkpebbfnnaa.V
end
section
namespace Go.Proofs.Ytpdhdkpebbfnnaa.V
open Go
set_option maxRecDepth 100000
set_option maxHeartbeats 1000000
def livesP (p : Pr) : Bool := decide (p.st = 1) || decide (p.st = 2)
def livesB (l : List Pr) (pid : Int) : Bool := l.any fun p => decide (p.pid = pid) && livesP p
def usersS (f : Int) (s : List Pte) : Nat := s.countP fun x => x.is && decide (x.fr = f)
def usersN (l : List Pr) (f : Int) : Nat := (l.map fun p => usersS f p.sp).sum
theorem usersS_snoc (f : Int) (s : List Pte) (x : Pte) : usersS f (s ++ [x]) = usersS f s + if x.is = true ∧ x.fr = f then 1 else 0 := by
  simp only [usersS,List.countP_append,List.countP_cons,List.countP_nil,Nat.zero_add]
  congr 1
  by_cases h1 : x.is = true <;> by_cases h2 : x.fr = f <;> simp [h1, h2]
theorem usersS_le (f : Int) (s : List Pte) : usersS f s ≤ s.length := List.countP_le_length
theorem usersN_snoc (l : List Pr) (p : Pr) (f : Int) : usersN (l ++ [p]) f = usersN l f + usersS f p.sp := by
  simp [usersN]
theorem usersN_le (f : Int) : ∀ (l : List Pr), (∀ p ∈ l, p.sp.length = 16) → usersN l f ≤ 16 * l.length
  | [], _ => Nat.le_refl _
  | p :: l, h => by
    have h1 := usersN_le f l fun q hq => h q (by simp [hq])
    have h2 := usersS_le f p.sp
    have h3 := h p (by simp)
    have e : usersN (p :: l) f = usersS f p.sp + usersN l f := by simp [usersN]
    rw [e, List.length_cons]
    omega
def pipeO (l : List Pip) (id : Int) : Option Pip := l.find? fun p => decide (p.id = id)
def pipeV : Option Pip → VV
  | some p => .tup [encPi p, .bool true]
  | none => .tup [.agg [.int .i64 0, .str []], .bool false]
def fdB (l : List Pip) (f : Fdd) : Bool :=
  if f.kind = 0 ∨ f.kind = 1 ∨ f.kind = 2 then decide (f.n = 0 ∧ f.pos = 0)
  else if f.kind = 3 then decide (1 ≤ f.n ∧ f.n ≤ 64 ∧ 0 ≤ f.pos ∧ f.pos ≤ 8960)
  else if f.kind = 4 ∨ f.kind = 5 then decide (f.pos = 0) && (pipeO l f.n).isSome
  else false
def pteB (m : Mach) (p : Pr) (x : Pte) : Bool :=
  if x.is = true then decide (p.st ≠ 3 ∧ 0 ≤ x.fr ∧ x.fr < m.fr.length ∧ usersN m.pr x.fr = 1) else decide (x.wr = false ∧ x.fr = 0)
def procH (m : Mach) (p : Pr) : Bool :=
  if p.pid < 1 ∨ m.next ≤ p.pid ∨ (p.st ≠ 1 ∧ p.st ≠ 2 ∧ p.st ≠ 3) ∨ p.rs.getD 0 0 ≠ 0 then false
  else if livesB m.pr p.par = false ∧ (p.st = 3 ∨ p.par ≠ 0) then false
  else if ¬(p.st = 2 ↔ p.why ≠ 0) ∨ p.why < 0 ∨ 5 < p.why ∨ (p.st ≠ 2 ∧ p.n ≠ 0) ∨ (p.st ≠ 3 ∧ p.code ≠ 0) then false
  else true
def fdsB (m : Mach) (p : Pr) (f : Fdd) : Bool := fdB m.pipes f && !(decide (p.st = 3) && decide (f.kind ≠ 0))
def procB (m : Mach) (p : Pr) : Bool := procH m p && p.sp.all (pteB m p) && p.fds.all (fdsB m p)
def numB (m : Mach) : Bool := decide (m.quantum < 1 ∨ 1000 < m.quantum ∨ m.left < 0 ∨ m.quantum < m.left ∨ m.cur < 0 ∨ m.next < 1 ∨ 1000000000 < m.next ∨ m.newp < 1 ∨ 1000000000 < m.newp)
def procsB (m : Mach) : Bool := (List.range m.pr.length).all fun i => !(decide (0 < i) && decide ((m.pr.getD i default).pid ≤ (m.pr.getD (i - 1) default).pid)) && procB m (m.pr.getD i default)
def pipeB (m : Mach) (i : Nat) : Bool := !(decide ((m.pipes.getD i default).id < 1) || decide (m.newp ≤ (m.pipes.getD i default).id) || (decide (0 < i) && decide ((m.pipes.getD i default).id ≤ (m.pipes.getD (i - 1) default).id)) || longB 64 (m.pipes.getD i default).d)
def pipesB (m : Mach) : Bool := (List.range m.pipes.length).all (pipeB m)
def homeB (d : Dr) (i : Nat) : List UInt8 := getP d.pe ((33 + i : Nat) : Int) (d.bl.getD (33 + i) [])
def homeD (d : Dr) : Frames := if checkD d = 0 ∧ 33 < d.bl.length then (List.range (d.bl.length - 33)).map (homeB d) else []
def bitB (s : List UInt8) (i : Nat) : Bool := bits BinOp.and IntKind.u8 (((s.getD ((i : Int) / 8).toNat 0).toNat : Int).fdiv (2 ^ min ((i : Int) % 8).toNat IntKind.u8.bits)) 1 == 1
structure Geo where
  bl : Int
  ino : Int
  quo : Int
  map : Int
  tab : Int
  dat : Int
deriving DecidableEq
def planG (b i : Int) : Geo × Int := if b < 16 ∨ 223 < b ∨ i < 4 ∨ 64 < i then (⟨0, 0, 0, 0, 0, 0⟩, 2) else if b ≤ 3 + (i + 1) / 2 then (⟨0, 0, 0, 0, 0, 0⟩, 10) else (⟨b, i, 1, 2, 3, 3 + (i + 1) / 2⟩, 0)
def headG (b i : Int) : List UInt8 := [104, 105, 98, 49] ++ putLE b.toNat 2 ++ putLE i.toNat 2 ++ List.replicate 120 0
def volE (v : Frames) : Int :=
  if v.length < 16 then 3
  else if (v.any fun s => decide (s.length ≠ 128)) = true then 3
  else
    let i : Int := getLE (((v.getD 0 []).drop 6).take 2)
    let g := planG v.length i
    if g.2 ≠ 0 ∨ v.getD 0 [] ≠ headG v.length i then 3
    else if (List.range 1024).all (fun k => !((decide ((k : Int) < g.1.dat) && !bitB (v.getD 2 []) k) || (decide (g.1.bl ≤ k) && bitB (v.getD 2 []) k))) = true then 0 else 3
def wrV (v : Frames) (w : Wr) : Frames := if 0 ≤ w.b ∧ w.b < v.length then v.set w.b.toNat w.d else v
def volM (m : Mach) : Frames := m.dirty.foldl wrV (homeD m.dr)
def dirtyE (v : Frames) (l : List Wr) : Bool := (List.range l.length).all fun i => !(decide ((l.getD i default).b < 0) || decide ((v.length : Int) ≤ (l.getD i default).b) || decide ((l.getD i default).d.length ≠ 128) || (decide (0 < i) && decide ((l.getD i default).b ≤ (l.getD (i - 1) default).b)))
def diskE (m : Mach) : Int :=
  if checkD m.dr ≠ 0 then checkD m.dr
  else if homeD m.dr = [] then 3
  else if 32 < m.dirty.length then 6
  else if dirtyE (homeD m.dr) m.dirty = false then 3
  else volE (volM m)
def chkM (m : Mach) : Int :=
  if numB m = true then 2
  else if m.fr.length < 1 ∨ 64 < m.fr.length then 6
  else if (m.fr.any fun s => decide (s.length ≠ 128)) = true then 3
  else if 8 < m.pr.length then 6
  else if procsB m = false then 3
  else if 64 < m.pipes.length then 6
  else if pipesB m = false then 3
  else if 65536 < m.inp.length ∨ 128 < m.init.length then 6
  else diskE m
end Go.Proofs.Ytpdhdkpebbfnnaa.V
end
section
namespace Go.Proofs.Ytpdhdkpebbfnnaa.V
open Go
set_option maxRecDepth 100000
def znN4 := And.intro @jO <| And.intro @jP <| And.intro @jQ <| And.intro @jR <| And.intro @jS <| And.intro @jT <| And.intro @jU <| True.intro
set_option maxHeartbeats 1000000
abbrev machSh : Sh := .st [.cell, .cell, .cell, .cell, .cell, .cell, .cell, .cell, .cell, .cell, .cell, .cell, .cell, .st [.cell, .cell, .cell], .cell]
theorem pr3 {p : Pr} (h : PrR p) : Has (.arr 16 .cell) (.agg (p.rs.map (.int .u32))) ∧ Has (.arr 16 (.st [.cell, .cell, .cell])) (.agg (p.sp.map encPte)) ∧ Has (.arr 8 (.st [.cell, .cell, .cell])) (.agg (p.fds.map encFd)) := ⟨hasRs _ h.rs, hasSpace _ h.sp, hasFds _ h.fds⟩
def livesQ (pid : Int) (p : Pr) : Bool := decide (p.pid = pid) && livesP p
theorem livesQ_t {pid : Int} {p : Pr} (h : livesQ pid p = true) : p.pid = pid ∧ (p.st = 1 ∨ p.st = 2) := by
  simpa [livesQ, livesP] using h
theorem livesQ_f {pid : Int} {p : Pr} (h : livesQ pid p = false) : ¬(p.pid = pid ∧ (p.st = 1 ∨ p.st = 2)) := by
  intro h2
  rw [show livesQ pid p = true by simpa [livesQ, livesP] using h2] at h
  cases h
theorem lives_spec (m : Mach) (hm : MFit 20000 m) (pid : Int) (hp : i64R pid) : Spec Try.prog 125 [encM m, .int .i64 pid] (.bool (livesB m.pr pid)) := by
  obtain ⟨R, hR⟩ : ∃ R, R = livesB m.pr pid := ⟨_, rfl⟩
  rw [← hR]
  have hl := hm.pr
  have hpR := hm.prR
  obtain ⟨hp1, hp2⟩ := hp
  refine spec_ok Try.func125 rfl rfl (by kernel_rfl) (k := 2) rfl (by decide) ?_
  repeat' (first|(with_reducible first|refine yrl (by constructor) ?_|refine jk (fun M hM=>?_)|(refine hM _ ?_;clear hM M)|refine xb3 (by decide) ?_|refine yqa (by assumption) ?_ ?_|refine yqb (by assumption) ?_ ?_)|((with_reducible refine je ?_)<;>(first|rfl|assumption|(simp only [znl,znN4];(first|done|fail))))|(with_reducible refine jf (by (simp only [↓reduceIte,zlk,Nat.reduceEqDiff,reduceCtorEq]);exact rfl) ?_)|((with_reducible first|refine jg (fun hc=>?_) (fun hc=>?_)|refine jh (fun hc=>?_) (fun hc=>?_))<;>(try simp (disch:=omega) only [zhb] at hc)<;>(try (exfalso;omega))<;>(try subst hc))|(with_reducible refine ji (by omega) ?_)|(simp (config := { maxSteps := 400000 }) only [↓jt,↓reduceIte,zvs,reduceCtorEq,seval,-List.reduceReplicate,tab,Try.results125,jTA])|(simp (disch:=omega) only [ziw]))
  refine ok_loop (fun k : Nat => ⟨slots [(1, .int .i64 pid), (2, .ptr 0 []), (4, .bool false), (8, encPrs m.pr), (9, .int .i64 m.pr.length), (10, .int .i64 k)], rows [(0, .row machSh (encM m))], 1⟩) (fun k => k ≤ m.pr.length ∧ ∀ j, j < k → livesQ pid (m.pr.getD j default) = false) (fun k => m.pr.length - k) 0 ?_ ⟨Nat.zero_le _, fun j hj => by omega⟩ (fun k hk => ?_)
  · (refine yrn [(0, 0)] false ?_ ?_<;>(repeat' (first|(with_reducible first|exact ya1|exact ya2|exact ya3|refine jx rfl (by first|rfl|assumption|(simp only [znl,znN4];(first|done|fail)))|exact ya5|exact ya7|exact jy|exact jz|refine jA ?_|refine ya9 ?_ ?_ ?_|refine jC rfl (by first|rfl|assumption|(simp only [znl,znN4];(first|done|fail)))|refine MR.agg (MRL.cons ?_ ?_)|refine MR.fn ?_|refine MRL.cons ?_ ?_|exact MRL.nil|refine jE ?_ ?_|exact jF|exact jG|refine yb1 ?_ ?_|refine MB.row ?_|refine jI ?_ ?_|exact ya8|refine jJ rfl (by first|rfl|assumption|(simp only [znl,znN4];(first|done|fail)))|refine yb2 ?_|rfl)|(simp only [znl,znN4];(first|done|fail))|(simp only [↓reduceIte,zlk,Nat.reduceEqDiff,reduceCtorEq])|(with_reducible first|refine jJ ?_ ?_|refine ya5 ?_|refine ju ?_|refine jv ?_|refine jw ?_|refine jx ?_ (by first|rfl|assumption|(simp only [znl,znN4];(first|done|fail)))|refine jC ?_ (by first|rfl|assumption|(simp only [znl,znN4];(first|done|fail)))))))
  obtain ⟨hk, hn⟩ := hk
  by_cases hlt : k < m.pr.length
  · have hb := hpR _ (getD_mem' hlt)
    obtain ⟨hS1, hS2, hS3⟩ := pr3 hb
    have ha := any_of m.pr (livesQ pid) k hlt
    have hstep : livesQ pid (m.pr.getD k default) = false → ∀ j, j < k + 1 → livesQ pid (m.pr.getD j default) = false := fun h j hj => by
      by_cases e : j = k
      · rw [e]; exact h
      · exact hn j (by omega)
    cases hq : livesQ pid (m.pr.getD k default) with
    | true =>
      obtain ⟨q1, q2⟩ := livesQ_t hq
      repeat' (first|(with_reducible first|refine yrl (by constructor) ?_|refine jk (fun M hM=>?_)|(refine hM _ ?_;clear hM M)|refine xb3 (by decide) ?_|refine yqa (by assumption) ?_ ?_|refine yqb (by assumption) ?_ ?_)|((with_reducible refine je ?_)<;>(first|rfl|assumption|(simp only [znl,znN4];(first|done|fail))))|(with_reducible refine jf (by (simp only [↓reduceIte,zlk,Nat.reduceEqDiff,reduceCtorEq]);exact rfl) ?_)|((with_reducible first|refine jg (fun hc=>?_) (fun hc=>?_)|refine jh (fun hc=>?_) (fun hc=>?_))<;>(try simp (disch:=omega) only [zhb] at hc)<;>(try (exfalso;omega))<;>(try subst hc))|(with_reducible refine ji (by omega) ?_)|(simp (config := { maxSteps := 400000 }) only [↓jt,↓reduceIte,zvs,reduceCtorEq,seval,-List.reduceReplicate,tab,hS1,hS2,hS3,encPr,Try.results125,jTA])|(simp (disch:=omega) only [ziw]))
      all_goals first
        | (exfalso; omega)
        | (simp only [zrds]; first | exact hR.trans (ha hq) | exact (hR.trans (ha hq)).symm)
    | false =>
      have q1 := livesQ_f hq
      repeat' (first|(with_reducible first|refine yrl (by constructor) ?_|refine jk (fun M hM=>?_)|(refine hM _ ?_;clear hM M)|refine xb3 (by decide) ?_|refine yqa (by assumption) ?_ ?_|refine yqb (by assumption) ?_ ?_)|((with_reducible refine je ?_)<;>(first|rfl|assumption|(simp only [znl,znN4];(first|done|fail))))|(with_reducible refine jf (by (simp only [↓reduceIte,zlk,Nat.reduceEqDiff,reduceCtorEq]);exact rfl) ?_)|((with_reducible first|refine jg (fun hc=>?_) (fun hc=>?_)|refine jh (fun hc=>?_) (fun hc=>?_))<;>(try simp (disch:=omega) only [zhb] at hc)<;>(try (exfalso;omega))<;>(try subst hc))|(with_reducible refine ji (by omega) ?_)|(simp (config := { maxSteps := 400000 }) only [↓jt,↓reduceIte,zvs,reduceCtorEq,seval,-List.reduceReplicate,tab,hS1,hS2,hS3,encPr,Try.results125,jTA])|(simp (disch:=omega) only [ziw]))
      all_goals first
        | (exfalso; omega)
        | (refine xl1 (k + 1) ?_ ⟨by omega, hstep hq⟩ (by show m.pr.length - (k + 1) < m.pr.length - k; omega); (refine yrn [(0, 0)] false ?_ ?_<;>(repeat' (first|(with_reducible first|exact ya1|exact ya2|exact ya3|refine jx rfl (by first|rfl|assumption|(simp only [znl,znN4];(first|done|fail)))|exact ya5|exact ya7|exact jy|exact jz|refine jA ?_|refine ya9 ?_ ?_ ?_|refine jC rfl (by first|rfl|assumption|(simp only [znl,znN4];(first|done|fail)))|refine MR.agg (MRL.cons ?_ ?_)|refine MR.fn ?_|refine MRL.cons ?_ ?_|exact MRL.nil|refine jE ?_ ?_|exact jF|exact jG|refine yb1 ?_ ?_|refine MB.row ?_|refine jI ?_ ?_|exact ya8|refine jJ rfl (by first|rfl|assumption|(simp only [znl,znN4];(first|done|fail)))|refine yb2 ?_|rfl)|(simp only [znl,znN4];(first|done|fail))|(simp only [↓reduceIte,zlk,Nat.reduceEqDiff,reduceCtorEq])|(with_reducible first|refine jJ ?_ ?_|refine ya5 ?_|refine ju ?_|refine jv ?_|refine jw ?_|refine jx ?_ (by first|rfl|assumption|(simp only [znl,znN4];(first|done|fail)))|refine jC ?_ (by first|rfl|assumption|(simp only [znl,znN4];(first|done|fail))))))); done)
  · obtain rfl : k = m.pr.length := by omega
    repeat' (first|(with_reducible first|refine yrl (by constructor) ?_|refine jk (fun M hM=>?_)|(refine hM _ ?_;clear hM M)|refine xb3 (by decide) ?_|refine yqa (by assumption) ?_ ?_|refine yqb (by assumption) ?_ ?_)|((with_reducible refine je ?_)<;>(first|rfl|assumption|(simp only [znl,znN4];(first|done|fail))))|(with_reducible refine jf (by (simp only [↓reduceIte,zlk,Nat.reduceEqDiff,reduceCtorEq]);exact rfl) ?_)|((with_reducible first|refine jg (fun hc=>?_) (fun hc=>?_)|refine jh (fun hc=>?_) (fun hc=>?_))<;>(try simp (disch:=omega) only [zhb] at hc)<;>(try (exfalso;omega))<;>(try subst hc))|(with_reducible refine ji (by omega) ?_)|(simp (config := { maxSteps := 400000 }) only [↓jt,↓reduceIte,zvs,reduceCtorEq,seval,-List.reduceReplicate,tab,encPr,Try.results125,jTA])|(simp (disch:=omega) only [ziw]))
    simp only [zrds]
    rw [hR]
    exact (any_none m.pr (livesQ pid) hn).symm
end Go.Proofs.Ytpdhdkpebbfnnaa.V
end
section
namespace Go.Proofs.Ytpdhdkpebbfnnaa.V
open Go Go.RowKit

section
variable {P : Program} {N : NN} {B : Nat} {ρ0 : Names} {w0 : World} {ops : Array Oper} {k nx js : Nat} {perm : List Nat} {tm0 tmF : Nat → VV} {GA GB : Heap} {env : Nat → Nat → VV} {K : VS → Prop} {Q : Exit → Act → World → Prop}
end
end Go.Proofs.Ytpdhdkpebbfnnaa.V
end
section
namespace Go.Proofs.Ytpdhdkpebbfnnaa.V
open Go Go.RowKit

def isP (m : Nat) : VV → Prop
  | .ptr m' _ => m' = m
  | _ => False
def storeAt (P : Program) (m : Nat) (e : Operand → VV) (H : Heap) (K : Heap → Prop) (o : Option Oper) : Prop := match o with
  | some o => match o.op with
    | .store t y x => cnd (isP m (e y)) (vStore P e H 0 (fun _ G _ => K G) t y x)
    | _ => False
  | none => False
section
variable {P : Program} {ops : Array Oper} {k js qa : Nat} {perm : List Nat} {K : VS → Prop}
end
section
variable {P : Program} {n0 : Nat} {K : VX → VS → Prop}
end
end Go.Proofs.Ytpdhdkpebbfnnaa.V
end
section
namespace Go.Proofs.Ytpdhdkpebbfnnaa.V
open Go Go.RowKit

def reachC (ops : Array Oper) : Nat → Oper → Nat → Bool
  | 0, _, _ => false
  | f + 1, o, j => o.after.any fun e => Region.binds .any e && (e.on == j || (decide (j < e.on) && (match ops[e.on]? with | some o' => reachC ops f o' j | none => false)))
theorem reachC_B {ops : Array Oper} : ∀ (f : Nat) (o : Oper) (j : Nat), reachC ops f o j = true → reachB ops f o j = true
  | 0, _, _, h => by simp [reachC] at h
  | f + 1, o, j, h => by
    simp only [reachC,reachB,Array.any_eq_true'] at h ⊢
    obtain ⟨e, he, h⟩ := h
    refine ⟨e, he, ?_⟩
    simp only [Bool.and_eq_true,Bool.or_eq_true,beq_iff_eq,decide_eq_true_eq] at h ⊢
    obtain ⟨hb, h⟩ := h
    refine ⟨hb, ?_⟩
    rcases h with h | ⟨_, h⟩
    · exact .inl h
    · right
      split at h
      · rename_i o' ho'
        rw [ho']
        exact reachC_B f o' j h
      · cases h
def drawOkC (ops : Array Oper) (k : Nat) : Bool :=
  decide (k ≤ ops.size ∧ ops.size ≤ 1000000) && wfL ops (ops.toList.take k) && (List.range k).all (fun j => match ops[j]? with | some o => o.after.all (fun e => !Region.binds .any e || decide (e.on < j)) | none => true) &&
  ((List.range k).all fun i => match ops[i]? with
    | some o => (o.looksAt ops).all fun t => (List.range k).all fun j => (match ops[j]? with | some o' => o'.dst != some t | none => true) || reachC ops ops.size o j
    | none => true) &&
  ((List.range ops.size).all fun j => decide (j < k) || (match ops[j]? with
    | some o => (List.range j).all (fun i => reachC ops ops.size o i) && o.after.all (fun e => !Region.binds .any e || decide (e.on < j))
    | none => true))
theorem all_mono {α : Type} {p q : α → Bool} {l : List α} (hpq : ∀ x ∈ l, p x = true → q x = true) (h : l.all p = true) : l.all q = true :=
  List.all_eq_true.2 fun x hx => hpq x hx (List.all_eq_true.1 h x hx)
theorem or_mono {a b c : Bool} (hbc : b = true → c = true) (h : (a || b) = true) : (a || c) = true := by
  cases a
  · exact hbc h
  · rfl
theorem drawOkC_ok {ops : Array Oper} {k : Nat} (h : drawOkC ops k = true) : drawOk ops k = true := by
  unfold drawOkC at h
  unfold drawOk
  simp only [Bool.and_eq_true] at h ⊢
  obtain ⟨⟨⟨⟨h1, h2⟩, h3⟩, h4⟩, h5⟩ := h
  refine ⟨⟨⟨⟨h1, h2⟩, h3⟩, all_mono (fun i _ hi => ?_) h4⟩, all_mono (fun j _ hj => or_mono (fun hj => ?_) hj) h5⟩
  · split at hi
    · rename_i o ho
      rw [ho]
      exact all_mono (fun t _ ht => all_mono (fun j _ hj => or_mono (reachC_B _ _ _) hj) ht) hi
    · rename_i ho; rw [ho]
  · split at hj
    · rename_i o ho
      rw [ho]
      simp only [Bool.and_eq_true] at hj ⊢
      exact ⟨all_mono (fun i _ hi => reachC_B _ _ _ hi) hj.1, hj.2⟩
    · rename_i ho; rw [ho]
section
variable {P : Program} {n0 : Nat} {K : VX → VS → Prop}
theorem ok_drawC {id : Nat} {l : List Oper} {tm : Nat → VV} {H : Heap} {n : Nat} (k : Nat) (hm : P.follows .mixedOrders = true) (hd : drawOkC l.toArray k = true) (hfr : ∀ m, n ≤ m → H m = none)
    (h : ∀ M : VS → Prop, (∀ S, K .normal S → M S) → vh P l (l.take k) tm H n fun tm H n => vl P l (l.drop k) ⟨tm, H, n⟩ M) : Ok P n0 (.region id l.toArray true) ⟨tm, H, n⟩ K := ok_draw k hm (drawOkC_ok hd) hfr h
end
section
variable {P : Program} {N : NN} {B : Nat} {ρ0 : Names} {w0 : World} {ops : Array Oper} {k nx : Nat} {sts : List (Nat × Nat × Blk)} {perm : List Nat} {tm0 tmF : Nat → VV} {GA : Heap} {env : Nat → Nat → VV} {K : VS → Prop} {Q : Exit → Act → World → Prop}
end
section
variable {P : Program} {ops : Array Oper} {k : Nat} {perm : List Nat} {ss : List (Nat × Nat)} {sts : List (Nat × Nat × Blk)} {K : VS → Prop}
end
section
variable {P : Program} {n0 : Nat} {K : VX → VS → Prop}
end
end Go.Proofs.Ytpdhdkpebbfnnaa.V
end
section
namespace Go.Proofs.Ytpdhdkpebbfnnaa.V
open Go
set_option maxRecDepth 100000
def znT6 := And.intro @jO <| And.intro @jP <| And.intro @jQ <| And.intro @jR <| And.intro @jS <| And.intro @jT <| And.intro @jU <| True.intro
set_option maxHeartbeats 8000000
structure Exe where
  ws : List Int
  data : List UInt8
  z : Int
  en : Int
abbrev encWords (l : List Int) : VV := .dat .cell (l.map (.int .u32))
abbrev encExe (e : Exe) : VV := .agg [encWords e.ws, .str e.data, .int .i64 e.z, .int .u32 e.en]
structure ExeR (e : Exe) : Prop where
  ws : e.ws.length ≤ 20000
  wsR : ∀ x ∈ e.ws, u32R x
  data : e.data.length ≤ 20000
  z : i64R e.z
  en : u32R e.en
def pagesI (x : Int) : Int := (x + 127) / 128
def okE (e : Exe) : Prop := 1 ≤ e.ws.length ∧ e.ws.length ≤ 448 ∧ 0 ≤ e.z ∧ e.en % 4 = 0 ∧ e.en < 4 * e.ws.length ∧ e.data.length ≤ 1792 ∧ e.z ≤ 1792 ∧ pagesI (4 * e.ws.length) + pagesI (e.data.length + e.z) ≤ 14
instance (e : Exe) : Decidable (okE e) := by unfold okE; infer_instance
theorem spages_spec (x : Int) (h0 : 0 ≤ x) (h1 : x ≤ 1000000000) : Spec Try.prog 63 [.int .i64 x] (.int .i64 (pagesI x)) := by
  unfold pagesI
  refine spec_ok Try.func63 rfl rfl (by kernel_rfl) (k := 1) rfl (by decide) ?_
  repeat' (first|(with_reducible first|refine yrl (by constructor) ?_|refine jk (fun M hM=>?_)|(refine hM _ ?_;clear hM M)|refine xb3 (by decide) ?_|refine yqa (by assumption) ?_ ?_|refine yqb (by assumption) ?_ ?_)|((with_reducible refine je ?_)<;>(first|rfl|assumption|(simp only [znl,znT6];(first|done|fail))))|(with_reducible refine jf (by (simp only [↓reduceIte,zlk,Nat.reduceEqDiff,reduceCtorEq]);exact rfl) ?_)|((with_reducible first|refine jg (fun hc=>?_) (fun hc=>?_)|refine jh (fun hc=>?_) (fun hc=>?_))<;>(try simp (disch:=omega) only [zhb] at hc)<;>(try (exfalso;omega))<;>(try subst hc))|(with_reducible refine ji (by omega) ?_)|(simp (config := { maxSteps := 400000 }) only [↓jt,↓reduceIte,zvs,reduceCtorEq,seval,-List.reduceReplicate,tab,Try.results63,jTA])|(simp (disch:=omega) only [ziw]))
  all_goals first
    | (exfalso; omega)
    | (simp only [zrds]; done)
    | (simp only [zrds]; omega)
theorem rpages_spec (x : Int) (h0 : 0 ≤ x) (h1 : x ≤ 1000000000) : Spec Try.prog 132 [.int .i64 x] (.int .i64 (pagesI x)) := by
  unfold pagesI
  refine spec_ok Try.func132 rfl rfl (by kernel_rfl) (k := 1) rfl (by decide) ?_
  repeat' (first|(with_reducible first|refine yrl (by constructor) ?_|refine jk (fun M hM=>?_)|(refine hM _ ?_;clear hM M)|refine xb3 (by decide) ?_|refine yqa (by assumption) ?_ ?_|refine yqb (by assumption) ?_ ?_)|((with_reducible refine je ?_)<;>(first|rfl|assumption|(simp only [znl,znT6];(first|done|fail))))|(with_reducible refine jf (by (simp only [↓reduceIte,zlk,Nat.reduceEqDiff,reduceCtorEq]);exact rfl) ?_)|((with_reducible first|refine jg (fun hc=>?_) (fun hc=>?_)|refine jh (fun hc=>?_) (fun hc=>?_))<;>(try simp (disch:=omega) only [zhb] at hc)<;>(try (exfalso;omega))<;>(try subst hc))|(with_reducible refine ji (by omega) ?_)|(simp (config := { maxSteps := 400000 }) only [↓jt,↓reduceIte,zvs,reduceCtorEq,seval,-List.reduceReplicate,tab,Try.results132,jTA])|(simp (disch:=omega) only [ziw]))
  all_goals first
    | (exfalso; omega)
    | (simp only [zrds]; done)
    | (simp only [zrds]; omega)
theorem rcheckE_spec (e : Exe) (he : ExeR e) : Spec Try.prog 95 [encExe e] (.int .i64 (if okE e then 0 else 1)) := by
  obtain ⟨R, hR⟩ : ∃ R : Int, R = if okE e then 0 else 1 := ⟨_, rfl⟩
  rw [← hR]
  obtain ⟨e1, e2⟩ := he.en
  obtain ⟨z1, z2⟩ := he.z
  have hw := he.ws
  have hd := he.data
  have hyes : okE e → R = 0 := fun h => by rw [hR, if_pos h]
  have hno : ¬okE e → R = 1 := fun h => by rw [hR, if_neg h]
  clear hR
  unfold okE at hyes hno
  by_cases hsz : 1 ≤ e.ws.length ∧ e.ws.length ≤ 448 ∧ 0 ≤ e.z ∧ e.z ≤ 2048 ∧ e.data.length ≤ 2048
  · have P1 := rpages_spec (4 * e.ws.length) (by omega) (by omega)
    have P2 := rpages_spec (e.data.length + e.z) (by omega) (by omega)
    have hpa : pagesI (4 * e.ws.length) * 128 < 4 * e.ws.length + 128 ∧ 4 * e.ws.length ≤ pagesI (4 * e.ws.length) * 128 := by unfold pagesI; omega
    have hpb : pagesI (e.data.length + e.z) * 128 < e.data.length + e.z + 128 ∧ e.data.length + e.z ≤ pagesI (e.data.length + e.z) * 128 := by unfold pagesI; omega
    generalize pagesI (4 * e.ws.length) = a at P1 hyes hno hpa
    generalize pagesI (e.data.length + e.z) = b at P2 hyes hno hpb
    refine spec_ok Try.func95 rfl rfl (by kernel_rfl) (k := 1) rfl (by decide) ?_
    repeat' (first|(with_reducible first|refine yrl (by constructor) ?_|refine jk (fun M hM=>?_)|(refine hM _ ?_;clear hM M)|refine xb3 (by decide) ?_|refine yqa (by assumption) ?_ ?_|refine yqb (by assumption) ?_ ?_)|((with_reducible refine je ?_)<;>(first|rfl|assumption|(simp only [znl,znT6];(first|done|fail))))|(with_reducible refine jf (by (simp only [↓reduceIte,zlk,Nat.reduceEqDiff,reduceCtorEq]);exact rfl) ?_)|((with_reducible first|refine jg (fun hc=>?_) (fun hc=>?_)|refine jh (fun hc=>?_) (fun hc=>?_))<;>(try simp (disch:=omega) only [zhb] at hc)<;>(try (exfalso;omega))<;>(try subst hc))|(with_reducible refine ji (by omega) ?_)|(simp (config := { maxSteps := 400000 }) only [↓jt,↓reduceIte,zvs,reduceCtorEq,seval,-List.reduceReplicate,tab,Try.results95,jTA])|(simp (disch:=omega) only [ziw]))
    all_goals first
      | (exfalso; omega)
      | (rw [hno (by omega)]; simp only [zrds]; done)
      | skip
    refine ok_drawC 11 (by kernel_rfl) (by decide +kernel) (by intro m hm; simp only [upd_ap,rows_cons,rows_nil]; (repeat (first | rfl | rw [if_neg (by omega)]))) (fun M hM => ?_); simp only [List.take_succ_cons,List.take_zero,List.drop_succ_cons,List.drop_zero]
    repeat' (first|(with_reducible first|refine yrl (by constructor) ?_|refine jk (fun M hM=>?_)|(refine hM _ ?_;clear hM M)|refine xb3 (by decide) ?_|refine yqa (by assumption) ?_ ?_|refine yqb (by assumption) ?_ ?_)|((with_reducible refine je ?_)<;>(first|rfl|assumption|(simp only [znl,znT6];(first|done|fail))))|(with_reducible refine jf (by (simp only [↓reduceIte,zlk,Nat.reduceEqDiff,reduceCtorEq]);exact rfl) ?_)|((with_reducible first|refine jg (fun hc=>?_) (fun hc=>?_)|refine jh (fun hc=>?_) (fun hc=>?_))<;>(try simp (disch:=omega) only [zhb] at hc)<;>(try (exfalso;omega))<;>(try subst hc))|(with_reducible refine ji (by omega) ?_)|(simp (config := { maxSteps := 400000 }) only [↓jt,↓reduceIte,zvs,reduceCtorEq,seval,-List.reduceReplicate,tab,Try.results95,jTA])|(simp (disch:=omega) only [ziw]))
    all_goals first
      | (exfalso; omega)
      | (rw [hno (by omega)]; simp only [zrds]; done)
      | (rw [hyes (by omega)]; simp only [zrds]; done)
  · have hn := hno (fun h => hsz ⟨h.1, h.2.1, h.2.2.1, by omega, by omega⟩)
    rw [hn]
    refine spec_ok Try.func95 rfl rfl (by kernel_rfl) (k := 1) rfl (by decide) ?_
    repeat' (first|(with_reducible first|refine yrl (by constructor) ?_|refine jk (fun M hM=>?_)|(refine hM _ ?_;clear hM M)|refine xb3 (by decide) ?_|refine yqa (by assumption) ?_ ?_|refine yqb (by assumption) ?_ ?_)|((with_reducible refine je ?_)<;>(first|rfl|assumption|(simp only [znl,znT6];(first|done|fail))))|(with_reducible refine jf (by (simp only [↓reduceIte,zlk,Nat.reduceEqDiff,reduceCtorEq]);exact rfl) ?_)|((with_reducible first|refine jg (fun hc=>?_) (fun hc=>?_)|refine jh (fun hc=>?_) (fun hc=>?_))<;>(try simp (disch:=omega) only [zhb] at hc)<;>(try (exfalso;omega))<;>(try subst hc))|(with_reducible refine ji (by omega) ?_)|(simp (config := { maxSteps := 400000 }) only [↓jt,↓reduceIte,zvs,reduceCtorEq,seval,-List.reduceReplicate,tab,Try.results95,jTA])|(simp (disch:=omega) only [ziw]))
    all_goals first
      | (exfalso; omega)
      | (simp only [zrds]; done)
theorem scheckE_spec (e : Exe) (he : ExeR e) : Spec Try.prog 59 [encExe e] (.int .i64 (if okE e then 0 else 1)) := by
  obtain ⟨R, hR⟩ : ∃ R : Int, R = if okE e then 0 else 1 := ⟨_, rfl⟩
  rw [← hR]
  obtain ⟨e1, e2⟩ := he.en
  obtain ⟨z1, z2⟩ := he.z
  have hw := he.ws
  have hd := he.data
  have hyes : okE e → R = 0 := fun h => by rw [hR, if_pos h]
  have hno : ¬okE e → R = 1 := fun h => by rw [hR, if_neg h]
  clear hR
  unfold okE at hyes hno
  by_cases hsz : 1 ≤ e.ws.length ∧ e.ws.length ≤ 448 ∧ 0 ≤ e.z ∧ e.z ≤ 1792 ∧ e.data.length ≤ 1792
  · have P1 := spages_spec (4 * e.ws.length) (by omega) (by omega)
    have P2 := spages_spec (e.data.length + e.z) (by omega) (by omega)
    have hpa : pagesI (4 * e.ws.length) * 128 < 4 * e.ws.length + 128 ∧ 4 * e.ws.length ≤ pagesI (4 * e.ws.length) * 128 := by unfold pagesI; omega
    have hpb : pagesI (e.data.length + e.z) * 128 < e.data.length + e.z + 128 ∧ e.data.length + e.z ≤ pagesI (e.data.length + e.z) * 128 := by unfold pagesI; omega
    generalize pagesI (4 * e.ws.length) = a at P1 hyes hno hpa
    generalize pagesI (e.data.length + e.z) = b at P2 hyes hno hpb
    refine spec_ok Try.func59 rfl rfl (by kernel_rfl) (k := 1) rfl (by decide) ?_
    repeat' (first|(with_reducible first|refine yrl (by constructor) ?_|refine jk (fun M hM=>?_)|(refine hM _ ?_;clear hM M)|refine xb3 (by decide) ?_|refine yqa (by assumption) ?_ ?_|refine yqb (by assumption) ?_ ?_)|((with_reducible refine je ?_)<;>(first|rfl|assumption|(simp only [znl,znT6];(first|done|fail))))|(with_reducible refine jf (by (simp only [↓reduceIte,zlk,Nat.reduceEqDiff,reduceCtorEq]);exact rfl) ?_)|((with_reducible first|refine jg (fun hc=>?_) (fun hc=>?_)|refine jh (fun hc=>?_) (fun hc=>?_))<;>(try simp (disch:=omega) only [zhb] at hc)<;>(try (exfalso;omega))<;>(try subst hc))|(with_reducible refine ji (by omega) ?_)|(simp (config := { maxSteps := 400000 }) only [↓jt,↓reduceIte,zvs,reduceCtorEq,seval,-List.reduceReplicate,tab,Try.results59,jTA])|(simp (disch:=omega) only [ziw]))
    all_goals first
      | (exfalso; omega)
      | (rw [hno (by omega)]; simp only [zrds]; done)
      | skip
    refine ok_drawC 19 (by kernel_rfl) (by decide +kernel) (by intro m hm; simp only [upd_ap,rows_cons,rows_nil]; (repeat (first | rfl | rw [if_neg (by omega)]))) (fun M hM => ?_); simp only [List.take_succ_cons,List.take_zero,List.drop_succ_cons,List.drop_zero]
    repeat' (first|(with_reducible first|refine yrl (by constructor) ?_|refine jk (fun M hM=>?_)|(refine hM _ ?_;clear hM M)|refine xb3 (by decide) ?_|refine yqa (by assumption) ?_ ?_|refine yqb (by assumption) ?_ ?_)|((with_reducible refine je ?_)<;>(first|rfl|assumption|(simp only [znl,znT6];(first|done|fail))))|(with_reducible refine jf (by (simp only [↓reduceIte,zlk,Nat.reduceEqDiff,reduceCtorEq]);exact rfl) ?_)|((with_reducible first|refine jg (fun hc=>?_) (fun hc=>?_)|refine jh (fun hc=>?_) (fun hc=>?_))<;>(try simp (disch:=omega) only [zhb] at hc)<;>(try (exfalso;omega))<;>(try subst hc))|(with_reducible refine ji (by omega) ?_)|(simp (config := { maxSteps := 400000 }) only [↓jt,↓reduceIte,zvs,reduceCtorEq,seval,-List.reduceReplicate,tab,Try.results59,jTA])|(simp (disch:=omega) only [ziw]))
    all_goals first
      | (exfalso; omega)
      | (rw [hno (by omega)]; simp only [zrds]; done)
      | (rw [hyes (by omega)]; simp only [zrds]; done)
  · have hn := hno (fun h => hsz ⟨h.1, h.2.1, h.2.2.1, by omega, by omega⟩)
    rw [hn]
    refine spec_ok Try.func59 rfl rfl (by kernel_rfl) (k := 1) rfl (by decide) ?_
    repeat' (first|(with_reducible first|refine yrl (by constructor) ?_|refine jk (fun M hM=>?_)|(refine hM _ ?_;clear hM M)|refine xb3 (by decide) ?_|refine yqa (by assumption) ?_ ?_|refine yqb (by assumption) ?_ ?_)|((with_reducible refine je ?_)<;>(first|rfl|assumption|(simp only [znl,znT6];(first|done|fail))))|(with_reducible refine jf (by (simp only [↓reduceIte,zlk,Nat.reduceEqDiff,reduceCtorEq]);exact rfl) ?_)|((with_reducible first|refine jg (fun hc=>?_) (fun hc=>?_)|refine jh (fun hc=>?_) (fun hc=>?_))<;>(try simp (disch:=omega) only [zhb] at hc)<;>(try (exfalso;omega))<;>(try subst hc))|(with_reducible refine ji (by omega) ?_)|(simp (config := { maxSteps := 400000 }) only [↓jt,↓reduceIte,zvs,reduceCtorEq,seval,-List.reduceReplicate,tab,Try.results59,jTA])|(simp (disch:=omega) only [ziw]))
    all_goals first
      | (exfalso; omega)
      | (simp only [zrds]; done)
      | skip
    refine ok_drawC 19 (by kernel_rfl) (by decide +kernel) (by intro m hm; simp only [upd_ap,rows_cons,rows_nil]; (repeat (first | rfl | rw [if_neg (by omega)]))) (fun M hM => ?_); simp only [List.take_succ_cons,List.take_zero,List.drop_succ_cons,List.drop_zero]
    repeat' (first|(with_reducible first|refine yrl (by constructor) ?_|refine jk (fun M hM=>?_)|(refine hM _ ?_;clear hM M)|refine xb3 (by decide) ?_|refine yqa (by assumption) ?_ ?_|refine yqb (by assumption) ?_ ?_)|((with_reducible refine je ?_)<;>(first|rfl|assumption|(simp only [znl,znT6];(first|done|fail))))|(with_reducible refine jf (by (simp only [↓reduceIte,zlk,Nat.reduceEqDiff,reduceCtorEq]);exact rfl) ?_)|((with_reducible first|refine jg (fun hc=>?_) (fun hc=>?_)|refine jh (fun hc=>?_) (fun hc=>?_))<;>(try simp (disch:=omega) only [zhb] at hc)<;>(try (exfalso;omega))<;>(try subst hc))|(with_reducible refine ji (by omega) ?_)|(simp (config := { maxSteps := 400000 }) only [↓jt,↓reduceIte,zvs,reduceCtorEq,seval,-List.reduceReplicate,tab,Try.results59,jTA])|(simp (disch:=omega) only [ziw]))
    all_goals first
      | (exfalso; omega)
      | (simp only [zrds]; done)
end Go.Proofs.Ytpdhdkpebbfnnaa.V
end
section
namespace Go.Proofs.Ytpdhdkpebbfnnaa.V
open Go
set_option maxRecDepth 100000
set_option maxHeartbeats 1000000
theorem zeros17_spec (n : Nat) (hn : n ≤ 1000) : Spec Try.prog 122 [.int .i64 n] (.str (List.replicate n 0)) := by
  refine spec_ok Try.func122 rfl rfl (by kernel_rfl) (k := 1) rfl (by decide) ?_
  repeat' (first|(with_reducible first|refine yrl (by constructor) ?_|refine jk (fun M hM=>?_)|(refine hM _ ?_;clear hM M)|refine xb3 (by decide) ?_|refine yqa (by assumption) ?_ ?_|refine yqb (by assumption) ?_ ?_)|((with_reducible refine je ?_)<;>(first|rfl|assumption|(simp only [znl,jO];(first|done|fail))))|(with_reducible refine jf (by (simp only [↓reduceIte,zlk,Nat.reduceEqDiff,reduceCtorEq]);exact rfl) ?_)|((with_reducible first|refine jg (fun hc=>?_) (fun hc=>?_)|refine jh (fun hc=>?_) (fun hc=>?_))<;>(try simp (disch:=omega) only [zhb] at hc)<;>(try (exfalso;omega))<;>(try subst hc))|(with_reducible refine ji (by omega) ?_)|(simp (config := { maxSteps := 400000 }) only [↓jt,↓reduceIte,zvs,reduceCtorEq,seval,-List.reduceReplicate,tab,Try.results122,jTA])|(simp (disch:=omega) only [ziw]))
  refine ok_loop (fun k : Nat => ⟨slots [(0, .int .i64 n), (2, .str []), (3, .str (List.replicate k 0)), (4, .int .i64 k)], rows [], 0⟩) (fun k => k ≤ n) (fun k => n - k) 0 ?_ (Nat.zero_le _) (fun k hk => ?_)
  · (refine yrn [] false ?_ ?_<;>(repeat' (first|(with_reducible first|exact ya1|exact ya2|exact ya3|refine jx rfl (by first|rfl|assumption|(simp only [znl,jO];(first|done|fail)))|exact ya5|exact ya7|exact jy|exact jz|refine jA ?_|refine ya9 ?_ ?_ ?_|refine jC rfl (by first|rfl|assumption|(simp only [znl,jO];(first|done|fail)))|refine MR.agg (MRL.cons ?_ ?_)|refine MR.fn ?_|refine MRL.cons ?_ ?_|exact MRL.nil|refine jE ?_ ?_|exact jF|exact jG|refine yb1 ?_ ?_|refine MB.row ?_|refine jI ?_ ?_|exact ya8|refine jJ rfl (by first|rfl|assumption|(simp only [znl,jO];(first|done|fail)))|refine yb2 ?_|rfl)|(simp only [znl,jO];(first|done|fail))|(simp only [↓reduceIte,zlk,Nat.reduceEqDiff,reduceCtorEq])|(with_reducible first|refine jJ ?_ ?_|refine ya5 ?_|refine ju ?_|refine jv ?_|refine jw ?_|refine jx ?_ (by first|rfl|assumption|(simp only [znl,jO];(first|done|fail)))|refine jC ?_ (by first|rfl|assumption|(simp only [znl,jO];(first|done|fail)))))))
    all_goals (first | rfl | (simp; done))
  by_cases hlt : k < n
  · repeat' (first|(with_reducible first|refine yrl (by constructor) ?_|refine jk (fun M hM=>?_)|(refine hM _ ?_;clear hM M)|refine xb3 (by decide) ?_|refine yqa (by assumption) ?_ ?_|refine yqb (by assumption) ?_ ?_)|((with_reducible refine je ?_)<;>(first|rfl|assumption|(simp only [znl,jO];(first|done|fail))))|(with_reducible refine jf (by (simp only [↓reduceIte,zlk,Nat.reduceEqDiff,reduceCtorEq]);exact rfl) ?_)|((with_reducible first|refine jg (fun hc=>?_) (fun hc=>?_)|refine jh (fun hc=>?_) (fun hc=>?_))<;>(try simp (disch:=omega) only [zhb] at hc)<;>(try (exfalso;omega))<;>(try subst hc))|(with_reducible refine ji (by omega) ?_)|(simp (config := { maxSteps := 400000 }) only [↓jt,↓reduceIte,zvs,reduceCtorEq,seval,-List.reduceReplicate,tab,List.length_replicate,Try.results122,jTA])|(simp (disch:=omega) only [ziw]))
    refine xl1 (k + 1) ?_ (by show k + 1 ≤ n; omega) (by show n - (k + 1) < n - k; omega)
    (refine yrn [] false ?_ ?_<;>(repeat' (first|(with_reducible first|exact ya1|exact ya2|exact ya3|refine jx rfl (by first|rfl|assumption|(simp only [znl,jO];(first|done|fail)))|exact ya5|exact ya7|exact jy|exact jz|refine jA ?_|refine ya9 ?_ ?_ ?_|refine jC rfl (by first|rfl|assumption|(simp only [znl,jO];(first|done|fail)))|refine MR.agg (MRL.cons ?_ ?_)|refine MR.fn ?_|refine MRL.cons ?_ ?_|exact MRL.nil|refine jE ?_ ?_|exact jF|exact jG|refine yb1 ?_ ?_|refine MB.row ?_|refine jI ?_ ?_|exact ya8|refine jJ rfl (by first|rfl|assumption|(simp only [znl,jO];(first|done|fail)))|refine yb2 ?_|rfl)|(simp only [znl,jO];(first|done|fail))|(simp only [↓reduceIte,zlk,Nat.reduceEqDiff,reduceCtorEq])|(with_reducible first|refine jJ ?_ ?_|refine ya5 ?_|refine ju ?_|refine jv ?_|refine jw ?_|refine jx ?_ (by first|rfl|assumption|(simp only [znl,jO];(first|done|fail)))|refine jC ?_ (by first|rfl|assumption|(simp only [znl,jO];(first|done|fail)))))))
    all_goals (first | rfl | (simp [List.replicate_succ']; done))
  · obtain rfl : k = n := by omega
    repeat' (first|(with_reducible first|refine yrl (by constructor) ?_|refine jk (fun M hM=>?_)|(refine hM _ ?_;clear hM M)|refine xb3 (by decide) ?_|refine yqa (by assumption) ?_ ?_|refine yqb (by assumption) ?_ ?_)|((with_reducible refine je ?_)<;>(first|rfl|assumption|(simp only [znl,jO];(first|done|fail))))|(with_reducible refine jf (by (simp only [↓reduceIte,zlk,Nat.reduceEqDiff,reduceCtorEq]);exact rfl) ?_)|((with_reducible first|refine jg (fun hc=>?_) (fun hc=>?_)|refine jh (fun hc=>?_) (fun hc=>?_))<;>(try simp (disch:=omega) only [zhb] at hc)<;>(try (exfalso;omega))<;>(try subst hc))|(with_reducible refine ji (by omega) ?_)|(simp (config := { maxSteps := 400000 }) only [↓jt,↓reduceIte,zvs,reduceCtorEq,seval,-List.reduceReplicate,tab,Try.results122,jTA])|(simp (disch:=omega) only [ziw]))
    simp only [zrds]
theorem zeros16_spec (n : Nat) (hn : n ≤ 1000) : Spec Try.prog 124 [.int .i64 n] (.str (List.replicate n 0)) := by
  refine spec_ok Try.func124 rfl rfl (by kernel_rfl) (k := 1) rfl (by decide) ?_
  repeat' (first|(with_reducible first|refine yrl (by constructor) ?_|refine jk (fun M hM=>?_)|(refine hM _ ?_;clear hM M)|refine xb3 (by decide) ?_|refine yqa (by assumption) ?_ ?_|refine yqb (by assumption) ?_ ?_)|((with_reducible refine je ?_)<;>(first|rfl|assumption|(simp only [znl,jO];(first|done|fail))))|(with_reducible refine jf (by (simp only [↓reduceIte,zlk,Nat.reduceEqDiff,reduceCtorEq]);exact rfl) ?_)|((with_reducible first|refine jg (fun hc=>?_) (fun hc=>?_)|refine jh (fun hc=>?_) (fun hc=>?_))<;>(try simp (disch:=omega) only [zhb] at hc)<;>(try (exfalso;omega))<;>(try subst hc))|(with_reducible refine ji (by omega) ?_)|(simp (config := { maxSteps := 400000 }) only [↓jt,↓reduceIte,zvs,reduceCtorEq,seval,-List.reduceReplicate,tab,Try.results124,jTA])|(simp (disch:=omega) only [ziw]))
  refine ok_loop (fun k : Nat => ⟨slots [(0, .int .i64 n), (2, .str []), (3, .str (List.replicate k 0)), (4, .int .i64 k)], rows [], 0⟩) (fun k => k ≤ n) (fun k => n - k) 0 ?_ (Nat.zero_le _) (fun k hk => ?_)
  · (refine yrn [] false ?_ ?_<;>(repeat' (first|(with_reducible first|exact ya1|exact ya2|exact ya3|refine jx rfl (by first|rfl|assumption|(simp only [znl,jO];(first|done|fail)))|exact ya5|exact ya7|exact jy|exact jz|refine jA ?_|refine ya9 ?_ ?_ ?_|refine jC rfl (by first|rfl|assumption|(simp only [znl,jO];(first|done|fail)))|refine MR.agg (MRL.cons ?_ ?_)|refine MR.fn ?_|refine MRL.cons ?_ ?_|exact MRL.nil|refine jE ?_ ?_|exact jF|exact jG|refine yb1 ?_ ?_|refine MB.row ?_|refine jI ?_ ?_|exact ya8|refine jJ rfl (by first|rfl|assumption|(simp only [znl,jO];(first|done|fail)))|refine yb2 ?_|rfl)|(simp only [znl,jO];(first|done|fail))|(simp only [↓reduceIte,zlk,Nat.reduceEqDiff,reduceCtorEq])|(with_reducible first|refine jJ ?_ ?_|refine ya5 ?_|refine ju ?_|refine jv ?_|refine jw ?_|refine jx ?_ (by first|rfl|assumption|(simp only [znl,jO];(first|done|fail)))|refine jC ?_ (by first|rfl|assumption|(simp only [znl,jO];(first|done|fail)))))))
    all_goals (first | rfl | (simp; done))
  by_cases hlt : k < n
  · repeat' (first|(with_reducible first|refine yrl (by constructor) ?_|refine jk (fun M hM=>?_)|(refine hM _ ?_;clear hM M)|refine xb3 (by decide) ?_|refine yqa (by assumption) ?_ ?_|refine yqb (by assumption) ?_ ?_)|((with_reducible refine je ?_)<;>(first|rfl|assumption|(simp only [znl,jO];(first|done|fail))))|(with_reducible refine jf (by (simp only [↓reduceIte,zlk,Nat.reduceEqDiff,reduceCtorEq]);exact rfl) ?_)|((with_reducible first|refine jg (fun hc=>?_) (fun hc=>?_)|refine jh (fun hc=>?_) (fun hc=>?_))<;>(try simp (disch:=omega) only [zhb] at hc)<;>(try (exfalso;omega))<;>(try subst hc))|(with_reducible refine ji (by omega) ?_)|(simp (config := { maxSteps := 400000 }) only [↓jt,↓reduceIte,zvs,reduceCtorEq,seval,-List.reduceReplicate,tab,List.length_replicate,Try.results124,jTA])|(simp (disch:=omega) only [ziw]))
    refine xl1 (k + 1) ?_ (by show k + 1 ≤ n; omega) (by show n - (k + 1) < n - k; omega)
    (refine yrn [] false ?_ ?_<;>(repeat' (first|(with_reducible first|exact ya1|exact ya2|exact ya3|refine jx rfl (by first|rfl|assumption|(simp only [znl,jO];(first|done|fail)))|exact ya5|exact ya7|exact jy|exact jz|refine jA ?_|refine ya9 ?_ ?_ ?_|refine jC rfl (by first|rfl|assumption|(simp only [znl,jO];(first|done|fail)))|refine MR.agg (MRL.cons ?_ ?_)|refine MR.fn ?_|refine MRL.cons ?_ ?_|exact MRL.nil|refine jE ?_ ?_|exact jF|exact jG|refine yb1 ?_ ?_|refine MB.row ?_|refine jI ?_ ?_|exact ya8|refine jJ rfl (by first|rfl|assumption|(simp only [znl,jO];(first|done|fail)))|refine yb2 ?_|rfl)|(simp only [znl,jO];(first|done|fail))|(simp only [↓reduceIte,zlk,Nat.reduceEqDiff,reduceCtorEq])|(with_reducible first|refine jJ ?_ ?_|refine ya5 ?_|refine ju ?_|refine jv ?_|refine jw ?_|refine jx ?_ (by first|rfl|assumption|(simp only [znl,jO];(first|done|fail)))|refine jC ?_ (by first|rfl|assumption|(simp only [znl,jO];(first|done|fail)))))))
    all_goals (first | rfl | (simp [List.replicate_succ']; done))
  · obtain rfl : k = n := by omega
    repeat' (first|(with_reducible first|refine yrl (by constructor) ?_|refine jk (fun M hM=>?_)|(refine hM _ ?_;clear hM M)|refine xb3 (by decide) ?_|refine yqa (by assumption) ?_ ?_|refine yqb (by assumption) ?_ ?_)|((with_reducible refine je ?_)<;>(first|rfl|assumption|(simp only [znl,jO];(first|done|fail))))|(with_reducible refine jf (by (simp only [↓reduceIte,zlk,Nat.reduceEqDiff,reduceCtorEq]);exact rfl) ?_)|((with_reducible first|refine jg (fun hc=>?_) (fun hc=>?_)|refine jh (fun hc=>?_) (fun hc=>?_))<;>(try simp (disch:=omega) only [zhb] at hc)<;>(try (exfalso;omega))<;>(try subst hc))|(with_reducible refine ji (by omega) ?_)|(simp (config := { maxSteps := 400000 }) only [↓jt,↓reduceIte,zvs,reduceCtorEq,seval,-List.reduceReplicate,tab,Try.results124,jTA])|(simp (disch:=omega) only [ziw]))
    simp only [zrds]
theorem rnum_get_spec (s : List UInt8) (hs : s.length ≤ 4) : Spec Try.prog 149 [.str s] (.int .u64 (getLE s)) := by
  obtain ⟨R, hR⟩ : ∃ R, R = getLE s := ⟨_, rfl⟩
  rw [← hR]
  refine spec_ok Try.func149 rfl rfl (by kernel_rfl) (k := 1) rfl (by decide) ?_
  repeat' (first|(with_reducible first|refine yrl (by constructor) ?_|refine jk (fun M hM=>?_)|(refine hM _ ?_;clear hM M)|refine xb3 (by decide) ?_|refine yqa (by assumption) ?_ ?_|refine yqb (by assumption) ?_ ?_)|((with_reducible refine je ?_)<;>(first|rfl|assumption|(simp only [znl,jO];(first|done|fail))))|(with_reducible refine jf (by (simp only [↓reduceIte,zlk,Nat.reduceEqDiff,reduceCtorEq]);exact rfl) ?_)|((with_reducible first|refine jg (fun hc=>?_) (fun hc=>?_)|refine jh (fun hc=>?_) (fun hc=>?_))<;>(try simp (disch:=omega) only [zhb] at hc)<;>(try (exfalso;omega))<;>(try subst hc))|(with_reducible refine ji (by omega) ?_)|(simp (config := { maxSteps := 400000 }) only [↓jt,↓reduceIte,zvs,reduceCtorEq,seval,-List.reduceReplicate,tab,Try.results149,jTA])|(simp (disch:=omega) only [ziw]))
  refine ok_loop (fun k : Nat => ⟨slots [(0, .str s), (2, .int .u64 0), (3, .int .u64 (getLE (s.drop k))), (4, .int .i64 ((k : Int) - 1))], rows [], 0⟩) (fun k => k ≤ s.length) (fun k => k) s.length ?_ (Nat.le_refl _) (fun k hk => ?_)
  · (refine yrn [] false ?_ ?_<;>(repeat' (first|(with_reducible first|exact ya1|exact ya2|exact ya3|refine jx rfl (by first|rfl|assumption|(simp only [znl,jO];(first|done|fail)))|exact ya5|exact ya7|exact jy|exact jz|refine jA ?_|refine ya9 ?_ ?_ ?_|refine jC rfl (by first|rfl|assumption|(simp only [znl,jO];(first|done|fail)))|refine MR.agg (MRL.cons ?_ ?_)|refine MR.fn ?_|refine MRL.cons ?_ ?_|exact MRL.nil|refine jE ?_ ?_|exact jF|exact jG|refine yb1 ?_ ?_|refine MB.row ?_|refine jI ?_ ?_|exact ya8|refine jJ rfl (by first|rfl|assumption|(simp only [znl,jO];(first|done|fail)))|refine yb2 ?_|rfl)|(simp only [znl,jO];(first|done|fail))|(simp only [↓reduceIte,zlk,Nat.reduceEqDiff,reduceCtorEq])|(with_reducible first|refine jJ ?_ ?_|refine ya5 ?_|refine ju ?_|refine jv ?_|refine jw ?_|refine jx ?_ (by first|rfl|assumption|(simp only [znl,jO];(first|done|fail)))|refine jC ?_ (by first|rfl|assumption|(simp only [znl,jO];(first|done|fail)))))))
    all_goals (first | rfl | (rw [List.drop_length]; rfl))
  by_cases hlt : 0 < k
  · obtain ⟨k, rfl⟩ : ∃ j, k = j + 1 := ⟨k - 1, by omega⟩
    have e1 : s.drop k = s.getD k 0 :: s.drop (k + 1) := by
      rw [List.drop_eq_getElem_cons (by omega), List.getD_eq_getElem?_getD, List.getElem?_eq_getElem (by omega)]; rfl
    have e2 : getLE (s.drop k) = (s.getD k 0).toNat + 256 * getLE (s.drop (k + 1)) := by rw [e1, getLE]
    have h1 := getLE_lt (s.drop (k + 1))
    have h2 := (s.getD k 0).toNat_lt
    have h3 : (256 : Nat) ^ (s.drop (k + 1)).length ≤ 256 ^ 3 := Nat.pow_le_pow_right (by omega) (by rw [List.length_drop]; omega)
    have h4 : getLE (s.drop (k + 1)) < 16777216 := by omega
    have e3 : ((k + 1 : Nat) : Int) - 1 = k := by omega
    repeat' (first|(with_reducible first|refine yrl (by constructor) ?_|refine jk (fun M hM=>?_)|(refine hM _ ?_;clear hM M)|refine xb3 (by decide) ?_|refine yqa (by assumption) ?_ ?_|refine yqb (by assumption) ?_ ?_)|((with_reducible refine je ?_)<;>(first|rfl|assumption|(simp only [znl,jO];(first|done|fail))))|(with_reducible refine jf (by (simp only [↓reduceIte,zlk,Nat.reduceEqDiff,reduceCtorEq]);exact rfl) ?_)|((with_reducible first|refine jg (fun hc=>?_) (fun hc=>?_)|refine jh (fun hc=>?_) (fun hc=>?_))<;>(try simp (disch:=omega) only [zhb] at hc)<;>(try (exfalso;omega))<;>(try subst hc))|(with_reducible refine ji (by omega) ?_)|(simp (config := { maxSteps := 400000 }) only [↓jt,↓reduceIte,zvs,reduceCtorEq,seval,-List.reduceReplicate,tab,e3,Try.results149,jTA])|(simp (disch:=omega) only [ziw]))
    all_goals first
      | (exfalso; omega)
      | (refine xl1 k ?_ (by show k ≤ s.length; omega) (by show k < k + 1; omega); (refine yrn [] false ?_ ?_<;>(repeat' (first|(with_reducible first|exact ya1|exact ya2|exact ya3|refine jx rfl (by first|rfl|assumption|(simp only [znl,jO];(first|done|fail)))|exact ya5|exact ya7|exact jy|exact jz|refine jA ?_|refine ya9 ?_ ?_ ?_|refine jC rfl (by first|rfl|assumption|(simp only [znl,jO];(first|done|fail)))|refine MR.agg (MRL.cons ?_ ?_)|refine MR.fn ?_|refine MRL.cons ?_ ?_|exact MRL.nil|refine jE ?_ ?_|exact jF|exact jG|refine yb1 ?_ ?_|refine MB.row ?_|refine jI ?_ ?_|exact ya8|refine jJ rfl (by first|rfl|assumption|(simp only [znl,jO];(first|done|fail)))|refine yb2 ?_|rfl)|(simp only [znl,jO];(first|done|fail))|(simp only [↓reduceIte,zlk,Nat.reduceEqDiff,reduceCtorEq])|(with_reducible first|refine jJ ?_ ?_|refine ya5 ?_|refine ju ?_|refine jv ?_|refine jw ?_|refine jx ?_ (by first|rfl|assumption|(simp only [znl,jO];(first|done|fail)))|refine jC ?_ (by first|rfl|assumption|(simp only [znl,jO];(first|done|fail))))))); all_goals (first | (rw [e2]; omega)))
  · obtain rfl : k = 0 := by omega
    repeat' (first|(with_reducible first|refine yrl (by constructor) ?_|refine jk (fun M hM=>?_)|(refine hM _ ?_;clear hM M)|refine xb3 (by decide) ?_|refine yqa (by assumption) ?_ ?_|refine yqb (by assumption) ?_ ?_)|((with_reducible refine je ?_)<;>(first|rfl|assumption|(simp only [znl,jO];(first|done|fail))))|(with_reducible refine jf (by (simp only [↓reduceIte,zlk,Nat.reduceEqDiff,reduceCtorEq]);exact rfl) ?_)|((with_reducible first|refine jg (fun hc=>?_) (fun hc=>?_)|refine jh (fun hc=>?_) (fun hc=>?_))<;>(try simp (disch:=omega) only [zhb] at hc)<;>(try (exfalso;omega))<;>(try subst hc))|(with_reducible refine ji (by omega) ?_)|(simp (config := { maxSteps := 400000 }) only [↓jt,↓reduceIte,zvs,reduceCtorEq,seval,-List.reduceReplicate,tab,Try.results149,jTA])|(simp (disch:=omega) only [ziw]))
    rw [hR]
    simp only [zrds]
    all_goals rfl
theorem byte_of (x : Nat) : (((x % 256 : Nat) : Int)) = ((UInt8.ofNat x).toNat : Int) := by
  rw [UInt8.toNat_ofNat']
theorem rnum_put_spec (n : Nat) (hn : n < 2 ^ 32) (z : Nat) (hz : z ≤ 8) : Spec Try.prog 133 [.int .u64 n, .int .i64 z] (.str (putLE n z)) := by
  refine spec_ok Try.func133 rfl rfl (by kernel_rfl) (k := 2) rfl (by decide) ?_
  repeat' (first|(with_reducible first|refine yrl (by constructor) ?_|refine jk (fun M hM=>?_)|(refine hM _ ?_;clear hM M)|refine xb3 (by decide) ?_|refine yqa (by assumption) ?_ ?_|refine yqb (by assumption) ?_ ?_)|((with_reducible refine je ?_)<;>(first|rfl|assumption|(simp only [znl,jO];(first|done|fail))))|(with_reducible refine jf (by (simp only [↓reduceIte,zlk,Nat.reduceEqDiff,reduceCtorEq]);exact rfl) ?_)|((with_reducible first|refine jg (fun hc=>?_) (fun hc=>?_)|refine jh (fun hc=>?_) (fun hc=>?_))<;>(try simp (disch:=omega) only [zhb] at hc)<;>(try (exfalso;omega))<;>(try subst hc))|(with_reducible refine ji (by omega) ?_)|(simp (config := { maxSteps := 400000 }) only [↓jt,↓reduceIte,zvs,reduceCtorEq,seval,-List.reduceReplicate,tab,Try.results133,jTA])|(simp (disch:=omega) only [ziw]))
  refine ok_loop (fun k : Nat => ⟨slots [(0, .int .u64 ((n / 256 ^ k : Nat) : Int)), (1, .int .i64 z), (4, .str []), (5, .str (putLE n k)), (6, .int .i64 k)], rows [], 0⟩) (fun k => k ≤ z) (fun k => z - k) 0 ?_ (Nat.zero_le _) (fun k hk => ?_)
  · (refine yrn [] false ?_ ?_<;>(repeat' (first|(with_reducible first|exact ya1|exact ya2|exact ya3|refine jx rfl (by first|rfl|assumption|(simp only [znl,jO];(first|done|fail)))|exact ya5|exact ya7|exact jy|exact jz|refine jA ?_|refine ya9 ?_ ?_ ?_|refine jC rfl (by first|rfl|assumption|(simp only [znl,jO];(first|done|fail)))|refine MR.agg (MRL.cons ?_ ?_)|refine MR.fn ?_|refine MRL.cons ?_ ?_|exact MRL.nil|refine jE ?_ ?_|exact jF|exact jG|refine yb1 ?_ ?_|refine MB.row ?_|refine jI ?_ ?_|exact ya8|refine jJ rfl (by first|rfl|assumption|(simp only [znl,jO];(first|done|fail)))|refine yb2 ?_|rfl)|(simp only [znl,jO];(first|done|fail))|(simp only [↓reduceIte,zlk,Nat.reduceEqDiff,reduceCtorEq])|(with_reducible first|refine jJ ?_ ?_|refine ya5 ?_|refine ju ?_|refine jv ?_|refine jw ?_|refine jx ?_ (by first|rfl|assumption|(simp only [znl,jO];(first|done|fail)))|refine jC ?_ (by first|rfl|assumption|(simp only [znl,jO];(first|done|fail)))))))
    all_goals (first | rfl | (simp; done))
  have hq : n / 256 ^ k < 2 ^ 32 := Nat.lt_of_le_of_lt (Nat.div_le_self _ _) hn
  have e4 : n / 256 ^ (k + 1) = n / 256 ^ k / 256 := by rw [Nat.pow_succ, Nat.div_div_eq_div_mul]
  have e5 : putLE n (k + 1) = putLE n k ++ [UInt8.ofNat (n / 256 ^ k)] := rfl
  have hl := putLE_len n k
  by_cases hlt : k < z
  · obtain ⟨x, hx⟩ : ∃ x, x = n / 256 ^ k := ⟨_, rfl⟩
    rw [← hx] at hq e4 e5 ⊢
    have hb : bytesOf [VV.int .u8 ((x : Int) % 256)] = some [UInt8.ofNat x] := by
      have := bytesOf_enc [UInt8.ofNat x]
      rw [List.map_cons, List.map_nil] at this
      rw [← this, encB, ← byte_of x]
      norm_cast
    repeat' (first|(with_reducible first|refine yrl (by constructor) ?_|refine jk (fun M hM=>?_)|(refine hM _ ?_;clear hM M)|refine xb3 (by decide) ?_|refine yqa (by assumption) ?_ ?_|refine yqb (by assumption) ?_ ?_)|((with_reducible refine je ?_)<;>(first|rfl|assumption|(simp only [znl,jO];(first|done|fail))))|(with_reducible refine jf (by (simp only [↓reduceIte,zlk,Nat.reduceEqDiff,reduceCtorEq]);exact rfl) ?_)|((with_reducible first|refine jg (fun hc=>?_) (fun hc=>?_)|refine jh (fun hc=>?_) (fun hc=>?_))<;>(try simp (disch:=omega) only [zhb] at hc)<;>(try (exfalso;omega))<;>(try subst hc))|(with_reducible refine ji (by omega) ?_)|(simp (config := { maxSteps := 400000 }) only [↓jt,↓reduceIte,zvs,reduceCtorEq,seval,-List.reduceReplicate,tab,hb,hl,Try.results133,jTA])|(simp (disch:=omega) only [ziw]))
    all_goals first
      | (exfalso; omega)
      | (refine xl1 (k + 1) ?_ (by show k + 1 ≤ z; omega) (by show z - (k + 1) < z - k; omega); (refine yrn [] false ?_ ?_<;>(repeat' (first|(with_reducible first|exact ya1|exact ya2|exact ya3|refine jx rfl (by first|rfl|assumption|(simp only [znl,jO];(first|done|fail)))|exact ya5|exact ya7|exact jy|exact jz|refine jA ?_|refine ya9 ?_ ?_ ?_|refine jC rfl (by first|rfl|assumption|(simp only [znl,jO];(first|done|fail)))|refine MR.agg (MRL.cons ?_ ?_)|refine MR.fn ?_|refine MRL.cons ?_ ?_|exact MRL.nil|refine jE ?_ ?_|exact jF|exact jG|refine yb1 ?_ ?_|refine MB.row ?_|refine jI ?_ ?_|exact ya8|refine jJ rfl (by first|rfl|assumption|(simp only [znl,jO];(first|done|fail)))|refine yb2 ?_|rfl)|(simp only [znl,jO];(first|done|fail))|(simp only [↓reduceIte,zlk,Nat.reduceEqDiff,reduceCtorEq])|(with_reducible first|refine jJ ?_ ?_|refine ya5 ?_|refine ju ?_|refine jv ?_|refine jw ?_|refine jx ?_ (by first|rfl|assumption|(simp only [znl,jO];(first|done|fail)))|refine jC ?_ (by first|rfl|assumption|(simp only [znl,jO];(first|done|fail))))))); all_goals (first | (rw [e4]; omega) | (rw [e5]; done)))
  · obtain rfl : k = z := by omega
    repeat' (first|(with_reducible first|refine yrl (by constructor) ?_|refine jk (fun M hM=>?_)|(refine hM _ ?_;clear hM M)|refine xb3 (by decide) ?_|refine yqa (by assumption) ?_ ?_|refine yqb (by assumption) ?_ ?_)|((with_reducible refine je ?_)<;>(first|rfl|assumption|(simp only [znl,jO];(first|done|fail))))|(with_reducible refine jf (by (simp only [↓reduceIte,zlk,Nat.reduceEqDiff,reduceCtorEq]);exact rfl) ?_)|((with_reducible first|refine jg (fun hc=>?_) (fun hc=>?_)|refine jh (fun hc=>?_) (fun hc=>?_))<;>(try simp (disch:=omega) only [zhb] at hc)<;>(try (exfalso;omega))<;>(try subst hc))|(with_reducible refine ji (by omega) ?_)|(simp (config := { maxSteps := 400000 }) only [↓jt,↓reduceIte,zvs,reduceCtorEq,seval,-List.reduceReplicate,tab,Try.results133,jTA])|(simp (disch:=omega) only [ziw]))
    all_goals simp only [zrds]
def geoV (g : Geo) : VV := .agg [.int .i64 g.bl, .int .i64 g.ino, .int .i64 g.quo, .int .i64 g.map, .int .i64 g.tab, .int .i64 g.dat]
def planV (x : Geo × Int) : VV := .tup [geoV x.1, .int .i64 x.2]
theorem plan_spec (b i : Int) (hb : 0 ≤ b ∧ b ≤ 1000000) (hi : 0 ≤ i ∧ i ≤ 1000000) : Spec Try.prog 120 [.int .i64 b, .int .i64 i] (planV (planG b i)) := by
  unfold planG
  have h6 : ∀ a : VV, List.replicate 6 a = [a, a, a, a, a, a] := fun _ => rfl
  by_cases h1 : b < 16 ∨ 223 < b ∨ i < 4 ∨ 64 < i
  · rw [if_pos h1]
    refine spec_ok Try.func120 rfl rfl (by kernel_rfl) (k := 2) rfl (by decide) ?_
    repeat' (first|(with_reducible first|refine yrl (by constructor) ?_|refine jk (fun M hM=>?_)|(refine hM _ ?_;clear hM M)|refine xb3 (by decide) ?_|refine yqa (by assumption) ?_ ?_|refine yqb (by assumption) ?_ ?_)|((with_reducible refine je ?_)<;>(first|rfl|assumption|(simp only [znl,jO];(first|done|fail))))|(with_reducible refine jf (by (simp only [↓reduceIte,zlk,Nat.reduceEqDiff,reduceCtorEq]);exact rfl) ?_)|((with_reducible first|refine jg (fun hc=>?_) (fun hc=>?_)|refine jh (fun hc=>?_) (fun hc=>?_))<;>(try simp (disch:=omega) only [zhb] at hc)<;>(try (exfalso;omega))<;>(try subst hc))|(with_reducible refine ji (by omega) ?_)|(simp (config := { maxSteps := 400000 }) only [↓jt,↓reduceIte,zvs,reduceCtorEq,seval,-List.reduceReplicate,tab,h6,Try.results120,jTA])|(simp (disch:=omega) only [ziw]))
    all_goals first
      | (exfalso; omega)
      | (simp only [planV,geoV]; simp only [zrds]; done)
  · rw [if_neg h1]
    by_cases h2 : b ≤ 3 + (i + 1) / 2
    · rw [if_pos h2]
      refine spec_ok Try.func120 rfl rfl (by kernel_rfl) (k := 2) rfl (by decide) ?_
      repeat' (first|(with_reducible first|refine yrl (by constructor) ?_|refine jk (fun M hM=>?_)|(refine hM _ ?_;clear hM M)|refine xb3 (by decide) ?_|refine yqa (by assumption) ?_ ?_|refine yqb (by assumption) ?_ ?_)|((with_reducible refine je ?_)<;>(first|rfl|assumption|(simp only [znl,jO];(first|done|fail))))|(with_reducible refine jf (by (simp only [↓reduceIte,zlk,Nat.reduceEqDiff,reduceCtorEq]);exact rfl) ?_)|((with_reducible first|refine jg (fun hc=>?_) (fun hc=>?_)|refine jh (fun hc=>?_) (fun hc=>?_))<;>(try simp (disch:=omega) only [zhb] at hc)<;>(try (exfalso;omega))<;>(try subst hc))|(with_reducible refine ji (by omega) ?_)|(simp (config := { maxSteps := 400000 }) only [↓jt,↓reduceIte,zvs,reduceCtorEq,seval,-List.reduceReplicate,tab,h6,Try.results120,jTA])|(simp (disch:=omega) only [ziw]))
      all_goals first
        | (exfalso; omega)
        | (simp only [planV,geoV]; simp only [zrds]; done)
    · rw [if_neg h2]
      refine spec_ok Try.func120 rfl rfl (by kernel_rfl) (k := 2) rfl (by decide) ?_
      repeat' (first|(with_reducible first|refine yrl (by constructor) ?_|refine jk (fun M hM=>?_)|(refine hM _ ?_;clear hM M)|refine xb3 (by decide) ?_|refine yqa (by assumption) ?_ ?_|refine yqb (by assumption) ?_ ?_)|((with_reducible refine je ?_)<;>(first|rfl|assumption|(simp only [znl,jO];(first|done|fail))))|(with_reducible refine jf (by (simp only [↓reduceIte,zlk,Nat.reduceEqDiff,reduceCtorEq]);exact rfl) ?_)|((with_reducible first|refine jg (fun hc=>?_) (fun hc=>?_)|refine jh (fun hc=>?_) (fun hc=>?_))<;>(try simp (disch:=omega) only [zhb] at hc)<;>(try (exfalso;omega))<;>(try subst hc))|(with_reducible refine ji (by omega) ?_)|(simp (config := { maxSteps := 400000 }) only [↓jt,↓reduceIte,zvs,reduceCtorEq,seval,-List.reduceReplicate,tab,h6,Try.results120,jTA])|(simp (disch:=omega) only [ziw]))
      all_goals first
        | (exfalso; omega)
        | (simp only [planV,geoV]; simp only [zrds]; done)
end Go.Proofs.Ytpdhdkpebbfnnaa.V
end
section
namespace Go.Proofs.Ytpdhdkpebbfnnaa.V
open Go
set_option maxRecDepth 100000
set_option maxHeartbeats 8000000
def wordsB (l : List Int) : List UInt8 := (l.map fun x => putLE x.toNat 4).flatten
theorem wordsB_snoc (l : List Int) (x : Int) : wordsB (l ++ [x]) = wordsB l ++ putLE x.toNat 4 := by simp [wordsB]
theorem wordsB_len : ∀ l : List Int, (wordsB l).length = 4 * l.length
  | [] => rfl
  | x :: l => by
    have e : wordsB (x :: l) = putLE x.toNat 4 ++ wordsB l := by simp [wordsB]
    rw [e, List.length_append, putLE_len, wordsB_len l, List.length_cons]; omega
theorem take_snocI (l : List Int) (k : Nat) (h : k < l.length) : l.take (k + 1) = l.take k ++ [l.getD k default] := by
  rw [List.take_add_one, List.getD_eq_getElem?_getD, List.getElem?_eq_getElem h]; rfl
end Go.Proofs.Ytpdhdkpebbfnnaa.V
end
section
namespace Go.Proofs.Ytpdhdkpebbfnnaa.V
open Go Go.RowKit
def turnOk2 (n0 n : Nat) (ks : List Nat) (σ : List (Nat × Nat)) : Bool :=
  (σ.all fun x => decide (n0 ≤ x.1) && decide (x.1 < n) && (decide (n0 ≤ x.2) || !ks.contains x.2) && ks.contains x.1) && decide ((σ.map (·.2)).Nodup)
theorem rows_in : ∀ (h : List (Nat × Blk)) (k : Nat), rows h k ≠ none → k ∈ h.map (·.1)
  | [], k, hk => absurd rfl hk
  | (j, b) :: l, k, hk => by
    rw [rows_cons] at hk
    by_cases e : k = j
    · rw [e]; simp
    · rw [if_neg e] at hk
      simp only [List.map_cons,List.mem_cons]
      exact .inr (rows_in l k hk)
theorem turn_inj2 {n0 n : Nat} {h : List (Nat × Blk)} {σ : List (Nat × Nat)} (hσ : turnOk2 n0 n (h.map (·.1)) σ = true) (m m' : Nat) (h1 : known n0 σ m) (h2 : known n0 σ m') (l1 : rows h m ≠ none) (l2 : rows h m' ≠ none) (he : turn σ m = turn σ m') : m = m' := by
  simp only [turnOk2,Bool.and_eq_true,decide_eq_true_eq,List.all_eq_true,Bool.or_eq_true,Bool.not_eq_true'] at hσ
  obtain ⟨ha, hd⟩ := hσ
  have low : ∀ m, m < n0 → turn σ m = m := fun m hm => turn_low σ m fun hmem => by
    obtain ⟨x, hx, rfl⟩ := List.mem_map.1 hmem
    have := (ha x hx).1.1.1
    omega
  have inj : ∀ (l : List (Nat × Nat)), (l.map (·.2)).Nodup → ∀ x y, x ∈ l → y ∈ l → x.2 = y.2 → x = y := by
    intro l
    induction l with
    | nil => intro _ x y hx; simp at hx
    | cons z l ih =>
      intro hd x y hx hy e
      simp only [List.map_cons,List.nodup_cons] at hd
      rcases List.mem_cons.1 hx with g1 | g1
      · rcases List.mem_cons.1 hy with g2 | g2
        · rw [g1, g2]
        · exact (hd.1 (List.mem_map.2 ⟨y, g2, by rw [← e, g1]⟩)).elim
      · rcases List.mem_cons.1 hy with g2 | g2
        · exact (hd.1 (List.mem_map.2 ⟨x, g1, by rw [e, g2]⟩)).elim
        · exact ih hd.2 x y g1 g2 e
  have mem : ∀ m, m ∈ σ.map (·.1) → (m, turn σ m) ∈ σ := turn_mem σ
  have cross : ∀ m m', m < n0 → m' ∈ σ.map (·.1) → rows h m ≠ none → turn σ m = turn σ m' → False := fun m m' h1 h2 l1 he => by
    have h3 := (ha _ (mem m' h2)).1.2
    rw [← he, low m h1] at h3
    rcases h3 with h3 | h3
    · dsimp only at h3; omega
    · have := rows_in h m l1
      rw [List.contains_eq_mem] at h3
      exact absurd this (by simpa using h3)
  rcases h1 with h1 | h1
  · rcases h2 with h2 | h2
    · rw [low m h1, low m' h2] at he; exact he
    · exact (cross m m' h1 h2 l1 he).elim
  · rcases h2 with h2 | h2
    · exact (cross m' m h2 h1 l2 he.symm).elim
    · have := inj σ hd _ _ (mem m h1) (mem m' h2) he
      exact congrArg Prod.fst this
theorem Ren.mk2 {n0 n n' : Nat} {tm : Nat → VV} {H : Heap} {l : List (Nat × VV)} {h : List (Nat × Blk)} (σ : List (Nat × Nat)) (hσ : turnOk2 n0 n' (h.map (·.1)) σ = true) (hn : n0 ≤ n')
    (h1 : AllS n0 σ H false tm l) (h3 : AllB n0 σ H false h) :
    Ren n0 ⟨tm, H, n⟩ ⟨slots l, rows h, n'⟩ := by
  intro N B ρ0 w0 a w ρ h0 hS
  classical
  have hfz : false = true → n0 = 0 := fun h => by cases h
  have hinj := turn_inj2 (h := h) hσ
  have hσ' := hσ
  simp only [turnOk2,Bool.and_eq_true,decide_eq_true_eq,List.all_eq_true] at hσ'
  obtain ⟨ha, _⟩ := hσ'
  have hh := hS.heap
  have he := hS.ext
  dsimp only at hh
  let ρ' : Names := ⟨fun m => if known n0 σ m then ρ (turn σ m) else none, fun b => ρ.im b ∨ (false = true ∧ w0.heap.size ≤ b)⟩
  have hρ : ∀ m, known n0 σ m → ρ' m = ρ (turn σ m) := fun m hm => if_pos hm
  have hρ2 : ∀ m l, ρ' m = some l → known n0 σ m ∧ ρ (turn σ m) = some l := fun m l hm => by
    by_cases hk : known n0 σ m
    · exact ⟨hk, by rw [← hρ m hk]; exact hm⟩
    · have : ρ' m = none := if_neg hk
      rw [this] at hm
      cases hm
  have hU : ∀ b, Unnamed ρ b → Unnamed ρ' b := fun b hb => ⟨.inl hb.1, fun m l hm => hb.2 _ l (hρ2 m l hm).2⟩
  have low : ∀ m, m < n0 → turn σ m = m := fun m hm => turn_low σ m fun hmem => by
    obtain ⟨x, hx, rfl⟩ := List.mem_map.1 hmem
    have := (ha x hx).1.1.1
    omega
  have live : ∀ m, m ∈ σ.map (·.1) → H (turn σ m) ≠ none := fun m hm => by
    have h5 := (ha _ (turn_mem σ m hm)).2
    dsimp only at h5
    obtain ⟨b, hb⟩ := rows_mem h m (by simpa using h5)
    obtain ⟨b0, h6, _⟩ := AllB.at h h3 m b hb (.inr hm)
    rw [h6]; simp
  have hT : Turned n0 σ H false ρ ρ' w := by
    refine ⟨hρ, hU, fun hf m s v l' hm hk hl => ?_⟩
    have hz := hfz hf
    have hlt := hh.lt m l' hl
    refine ⟨⟨.inr ⟨hf, ?_⟩, fun m2 l2 hm2 e => ?_⟩, hlt.2, hh.row m s v l' hm hl⟩
    · rcases he.fresh m l' hl with g | g | ⟨m0, l0, g, _⟩
      · rw [h0 m (by omega)] at g; cases g
      · exact g
      · rw [h0 m0 (by omega)] at g; cases g
    · obtain ⟨k1, k2⟩ := hρ2 m2 l2 hm2
      rcases k1 with k1 | k1
      · omega
      · have := hh.apart _ m l2 l' k2 hl (live m2 k1) (by rw [hm]; simp) e
        exact hk (by rw [← this]; exact List.mem_map.2 ⟨_, turn_mem σ m2 k1, rfl⟩)
  refine ⟨ρ', ⟨fun t => ?_, hS.defers, hS.size, ?_, hS.below, ?_⟩⟩
  · dsimp only
    rcases AllS.at l h1 t with e | e
    · rw [e]; simp [VR, VR1]
    · have := hS.tm t
      dsimp only at this
      exact MR.value hT e this
  · dsimp only
    refine ⟨hh.base, fun m hm => ?_, fun m l hm => hh.lt _ l (hρ2 m l hm).2, fun m m' l1 l2 g1 g2 e1 e2 hb => ?_, fun m s v l' hm hl => ?_, fun m es l' hm hl => ?_⟩
    · have hm : n' ≤ m := hm
      refine if_neg fun hk => ?_
      rcases hk with hk | hk
      · omega
      · have := (ha _ (turn_mem σ m hk)).1.1.2
        dsimp only at this
        omega
    · obtain ⟨k1, k2⟩ := hρ2 m l1 g1
      obtain ⟨k3, k4⟩ := hρ2 m' l2 g2
      have lv : ∀ m, known n0 σ m → rows h m ≠ none → H (turn σ m) ≠ none := fun m hk hm => by
        cases hr : rows h m with
        | none => exact absurd hr hm
        | some b => obtain ⟨b0, h6, _⟩ := AllB.at h h3 m b hr hk; rw [h6]; simp
      exact hinj m m' k1 k3 e1 e2 (hh.apart _ _ l1 l2 k2 k4 (lv m k1 e1) (lv m' k3 e2) hb)
    · obtain ⟨k1, k2⟩ := hρ2 m l' hl
      obtain ⟨b0, hb, hm⟩ := AllB.at h h3 m _ hm k1
      cases hm with
      | row hm =>
        rename_i u
        have hrow := hh.row _ s u l' hb k2
        obtain ⟨cs, c1, c2, c3⟩ := hrow.cells
        exact ⟨hrow.sh, hm.has s hrow.has, ⟨cs, MR.cells hT hm cs c1, c2, c3⟩, hrow.room⟩
    · obtain ⟨k1, k2⟩ := hρ2 m l' hl
      obtain ⟨b0, hb, hm⟩ := AllB.at h h3 m _ hm k1
      cases hm with
      | map hv =>
        have hmap := hh.map _ _ l' hb k2
        obtain ⟨xs, clock, c1, c2⟩ := hmap.obj
        refine ⟨⟨xs, clock, c1, ?_⟩, hmap.born⟩
        have key : ∀ (es : List (VV × VV)) (xs : List MapEntry), (∀ x ∈ es, nl x.1 = true ∧ nl x.2 = true) → ME ρ w es xs → ME ρ' w es xs := by
          intro es
          induction es with
          | nil => intro xs _ h; exact h
          | cons x es ih =>
            intro xs hq h
            obtain ⟨y, ys, g1, g2, g3, g4, g5⟩ := h
            obtain ⟨q1, q2⟩ := hq x (by simp)
            exact ⟨y, ys, g1, g2, MR.value1 hT (.data _ q1) g3, MR.value1 hT (.data _ q2) g4, ih ys (fun z hz => hq z (by simp [hz])) g5⟩
        exact key es _ hv c2
  · refine ⟨fun m l hm => ?_, he.size, fun b hb hu => he.block b hb hu, fun m l hm => ?_, fun b hb => .inl (he.im b hb), fun b hb => ?_⟩
    · have hlt : m < n0 := by
        rcases Nat.lt_or_ge m n0 with h | h
        · exact h
        · rw [h0 m h] at hm; cases hm
      rw [hρ m (.inl hlt), low m hlt]
      exact he.names m l hm
    · obtain ⟨k1, k2⟩ := hρ2 m l hm
      rcases he.fresh _ l k2 with g | g | g
      · exact .inr (.inr ⟨_, l, g, rfl⟩)
      · exact .inr (.inl g)
      · exact .inr (.inr g)
    · rcases hb with hb | hb
      · exact he.imb b hb
      · exact .inr hb.2

theorem yrn2 {n0 n n' : Nat} {tm : Nat → VV} {H : Heap} {l : List (Nat × VV)} {h : List (Nat × Blk)} (σ : List (Nat × Nat)) (h1 : AllS n0 σ H false tm l) (h3 : AllB n0 σ H false h) (hσ : turnOk2 n0 n' (h.map (·.1)) σ = true := by first | decide | rfl | (simp [turnOk2]; done)) (hn : n0 ≤ n' := by decide) :
    Ren n0 ⟨tm, H, n⟩ ⟨slots l, rows h, n'⟩ := Ren.mk2 σ hσ hn h1 h3
end Go.Proofs.Ytpdhdkpebbfnnaa.V
end
section
namespace Go.Proofs.Ytpdhdkpebbfnnaa.V
open Go
set_option maxRecDepth 100000
set_option maxHeartbeats 8000000
structure Lay where
  at_ : Int
  d : List UInt8
  w : Bool
deriving DecidableEq
abbrev laySh : Sh := .st [.cell, .cell, .cell]
def encLay (p : Lay) : VV := .agg [.int .i64 p.at_, .str p.d, .bool p.w]
abbrev encLays (l : List Lay) : VV := .dat laySh (l.map encLay)
theorem nl_lay (p : Lay) : nl (encLay p) = true := rfl
theorem nls_lay (l : List Lay) : nls (l.map encLay) = true := nls_map _ nl_lay l
theorem hasLay (p : Lay) : Has laySh (encLay p) := by simp [encLay, Has, HasL, VV.leaf]
instance : Inhabited Lay := ⟨⟨0, [], false⟩⟩
def pgB (b : List UInt8) (i : Nat) : List UInt8 := (List.range 128).map fun j => b.getD (128 * i + j) 0
theorem pgB_len (b : List UInt8) (i : Nat) : (pgB b i).length = 128 := by simp [pgB]
theorem pgB_at (b : List UInt8) (i j : Nat) (h : j < (pgB b i).length) : (pgB b i)[j] = b.getD (128 * i + j) 0 := by simp [pgB]
theorem pg_cut (b : List UInt8) (i : Nat) : (b.drop (128 * i)).take 128 ++ List.replicate (128 - ((b.drop (128 * i)).take 128).length) 0 = pgB b i := by
  apply List.ext_getElem
  · rw [pgB_len]; simp; omega
  · intro j h1 h2
    rw [pgB_at, List.getElem_append, List.getD_eq_getElem?_getD]
    simp only [List.length_take,List.length_drop]
    split
    · rename_i h
      rw [List.getElem_take, List.getElem_drop, List.getElem?_eq_getElem (by omega)]
      rfl
    · rename_i h
      rw [pgB_len] at h2
      rw [List.getElem_replicate, List.getElem?_eq_none (by omega)]
      rfl
def layN (at_ n : Nat) (b : List UInt8) (w : Bool) : List Lay := (List.range n).map fun i : Nat => ⟨at_ + i, pgB b i, w⟩
theorem layN_len (at_ n : Nat) (b : List UInt8) (w : Bool) : (layN at_ n b w).length = n := by simp [layN]
theorem layN_snoc (at_ n : Nat) (b : List UInt8) (w : Bool) : layN at_ (n + 1) b w = layN at_ n b w ++ [⟨at_ + n, pgB b n, w⟩] := by simp [layN, List.range_succ]
def pagesN (n : Nat) : Nat := (n + 127) / 128
theorem pagesI_nat (n : Nat) : pagesI n = pagesN n := by unfold pagesI pagesN; omega
def lastL : Lay := ⟨15, List.replicate 128 0, true⟩
def layTo (e : Exe) : List Lay := layN 0 (pagesN (4 * e.ws.length)) (wordsB e.ws) false ++ layN (pagesN (4 * e.ws.length)) (pagesN (e.data.length + e.z.toNat)) e.data true
def layE (e : Exe) : List Lay := layTo e ++ [lastL]
theorem layTo_len (e : Exe) (h : okE e) : (layTo e).length ≤ 14 := by
  obtain ⟨h1, h2, h3, h4, h5, h6, h7, h8⟩ := h
  rw [layTo, List.length_append, layN_len, layN_len]
  unfold pagesI at h8
  unfold pagesN
  omega
theorem layTo_at (e : Exe) (k : Nat) (h : k < (layTo e).length) : ((layTo e)[k]).at_ = k := by
  simp only [layTo,List.getElem_append]
  split
  · simp [layN]
  · rename_i h1
    rw [layN_len] at h1
    simp [layN]
    omega
def layVV (e : Exe) : VV := if okE e then .tup [encLays (layE e), .int .i64 0] else .tup [encLays [], .int .i64 1]
end Go.Proofs.Ytpdhdkpebbfnnaa.V
end
section
namespace Go.Proofs.Ytpdhdkpebbfnnaa
open Go Go.RowKit Go.Proofs
theorem sizeBuilder : (Try.prog.info? 136).map (·.size) = some 2 := by kernel_rfl
theorem liesBuilder : liesAt Try.prog Try.prog.depth 136 (2 / Try.prog.cellsOf 136) 0 136 1 = true := by kernel_rfl
theorem infoByte : (Try.prog.info? 5).map (fun i => (i.zero, i.size, i.bytes)) = some (some (.int .u8 0), 1, 1) := by kernel_rfl
set_option maxHeartbeats 1000000 in
set_option maxRecDepth 100000 in
theorem copyCheck_used (b : Nat) (w : World) (h0 : w.cell? ⟨b, 0, none⟩ = some (.pointer (some ⟨b, 0, none⟩))) :
    Calls Try.prog 118 #[.pointer (some ⟨b, 0, none⟩)] w fun e w' => e = .returned (.tuple #[]) ∧ w' = w := by
  obtain ⟨j, hj, _⟩ := Option.map_eq_some_iff.1 sizeBuilder
  go_enter Try.func118, Try.ntmps118
  go_wp2
  rw [Lib.run_neq_ptr_same w _ Try.underlying134 hj]
  go_wp2
  go_end0
  exact ⟨rfl, rfl⟩
set_option maxHeartbeats 1000000 in
set_option maxRecDepth 100000 in
theorem copyCheck_fresh (b : Nat) (w : World) (h0 : w.cell? ⟨b, 0, none⟩ = some (.pointer none)) (hsh : w.shape? b = some (136, 2)) (hfz : w.frozen? ⟨b, 0, none⟩ = false) :
    Calls Try.prog 118 #[.pointer (some ⟨b, 0, none⟩)] w fun e w' => e = .returned (.tuple #[]) ∧ w' = w.setCell ⟨b, 0, none⟩ (.pointer (some ⟨b, 0, none⟩)) := by
  obtain ⟨j, hj, hjs⟩ := Option.map_eq_some_iff.1 sizeBuilder
  go_enter Try.func118, Try.ntmps118
  go_wp2
  rw [Lib.run_to_unsafe w ⟨b, 0, none⟩ Try.underlying134 Try.underlying184 hj (by rw [hjs]; decide) hsh (Nat.zero_lt_succ 1)]
  simp only [Result.andThen]
  rw [Oper.upon_value]
  go_wp2
  rw [run_callFunc_extern Try.func144 (by kernel_rfl) (by kernel_rfl) (by kernel_rfl) (e := Extern.AbiNoEscape.same) (by kernel_rfl)]
  rw [Lib.run_noEscape]
  simp only [Result.andThen]
  rw [Oper.upon_value]
  go_wp2
  rw [Lib.run_from_unsafe w ⟨b, 0, none⟩ Try.underlying184 Try.underlying134 hj hsh liesBuilder]
  simp only [Result.andThen]
  rw [Oper.upon_value]
  go_wp2
  go_end0
  exact ⟨rfl, rfl⟩
theorem copyCheck_k (B b : Nat) (bs : List Value) (w : World) (h : Lib.IsBuilderF 136 5 B b bs w) :
    Calls Try.prog 118 #[.pointer (some ⟨b, 0, none⟩)] w fun e w' => e = .returned (.tuple #[]) ∧ (Lib.BuilderAtF 136 5 B b (.pointer (some ⟨b, 0, none⟩)) bs w' ∧ Below B w w' ∧ Lib.OthersKept 5 (some b) w w') := by
  rcases h with h | h
  · refine (copyCheck_fresh b w h.cell0 h.shape h.frozen0).mono ?_
    rintro e w' ⟨rfl, rfl⟩
    exact ⟨rfl, h.used _, (Below.refl B w).setCell (p := ⟨b, 0, none⟩) h.1 _, (Lib.OthersKept.refl _ _ w).setCell ⟨b, 0, none⟩ rfl _⟩
  · refine (copyCheck_used b w h.cell0).mono ?_
    rintro e w' ⟨rfl, rfl⟩
    exact ⟨rfl, h, Below.refl B _, Lib.OthersKept.refl _ _ _⟩
set_option maxHeartbeats 2000000 in
set_option maxRecDepth 100000 in
theorem writeString_k (B b : Nat) (bs : List Value) (s : ByteArray) (w : World) (h : Lib.IsBuilderF 136 5 B b bs w) (hlen : bs.length + s.size ≤ 140737488355328) (hBw : B ≤ w.heap.size) :
    Calls Try.prog 82 #[.pointer (some ⟨b, 0, none⟩), .string s] w fun e w' => e = .returned (.tuple #[.int .i64 s.size, .nilIface]) ∧ (Lib.BuilderAtF 136 5 B b (.pointer (some ⟨b, 0, none⟩)) (bs ++ Lib.strCells s) w' ∧ Below B w w' ∧ Lib.OthersKept 5 (some b) w w') := by
  obtain ⟨i0, hi, hz0, hz1, hz2⟩ := info_parts infoByte
  go_enter Try.func82, Try.ntmps82
  go_wp2_with (go_at_call 118; refine (copyCheck_k B b bs _ h).mono ?_)
  rintro e w1 ⟨rfl, h1, hb1, hk1⟩
  obtain ⟨hB, v, hbk, hown, hne⟩ := h1
  have c0 : w1.cell? ⟨b, 0, none⟩ = some (.pointer (some ⟨b, 0, none⟩)) := by rw [Lib.cell_of_heap hbk]; rfl
  have c1 : w1.cell? ⟨b, 1, none⟩ = some v := by rw [Lib.cell_of_heap hbk]; rfl
  go_wp2_with (at_builtin; refine Lib.wpList_append_own_stringF _ rfl _ _ 116 9 rfl B 5 i0 Try.underlying116 Try.underlying9 hi hz0 hz1 hz2 _ _ _ rfl hown s rfl ?c3 ?c4 ?c5 ?_)
  case c3 => unfold maxLen; omega
  case c4 => omega
  case c5 => have := hb1.size; omega
  intro v' w2 hown' hgrow _
  have hlt : b < w1.heap.size := by
    rcases Nat.lt_or_ge b w1.heap.size with h' | h'
    · exact h'
    · simp [Array.getElem?_eq_none h'] at hbk
  have hb2 : w2.heap[b]? = some (.cells #[.pointer (some ⟨b, 0, none⟩), v] 136 (0, 0)) := by
    rw [hgrow.block b hlt (fun e => hne e.symm)]
    exact hbk
  have d0 : w2.cell? ⟨b, 0, none⟩ = some (.pointer (some ⟨b, 0, none⟩)) := by rw [Lib.cell_of_heap hb2]; rfl
  have d1 : w2.cell? ⟨b, 1, none⟩ = some v := by rw [Lib.cell_of_heap hb2]; rfl
  have f1 : w2.frozen? ⟨b, 1, none⟩ = false := Lib.frozen_of_heap hb2 1
  obtain ⟨ao, n', cap, rfl⟩ : ∃ ao n' cap, v' = .slice ao n' cap := by
    rcases hown'.2 with ⟨hv, _⟩ | ⟨g, cap, cur, fz, hv, _⟩
    · exact ⟨_, _, _, hv⟩
    · exact ⟨_, _, _, hv⟩
  go_wp2
  go_ret2
  refine ⟨rfl, ?_, ?_, (hk1.grown hgrow (Lib.ownsRowF_kind hown)).setCell ⟨b, 1, none⟩ rfl _⟩
  · exact Lib.BuilderAtF.put (T := 136) (e := 5) hB hb2 (bs' := bs ++ Lib.strCells s) (by simpa [Lib.strCells_length] using hown') (by decide)
  · exact (hb1.grown hgrow (by have := hb1.size; omega) (fun k hk => (hown.lt k hk).1)).setCell (p := ⟨b, 1, none⟩) hB _
end Go.Proofs.Ytpdhdkpebbfnnaa
end
section
namespace Go.Proofs.Ytpdhdkpebbfnnaa.V
open Go Go.RowKit Go.Proofs.Ytpdhdkpebbfnnaa
theorem calls_str {P : Program} {f : FuncId} {a b : VV} {x y : Value} {r : List UInt8} (h : Spec P f [a, b] (.str r)) (w : World) (ha : VR (.bare fun _ => False) w a x) (hb : VR (.bare fun _ => False) w b y) :
    Calls P f #[x, y] w fun e w' => e = .returned (.string ⟨r.toArray⟩) ∧ Below w.heap.size w w' := by
  refine (h (fun _ => False) w [x, y] ⟨x, [y], rfl, ha, y, [], rfl, hb, rfl⟩).mono fun e w' ⟨v, he, hB, hv⟩ => ⟨?_, hB⟩
  rw [he, hv.str]
def RdW (w : World) (A : Option Addr) (l : List Int) : Prop := ∀ k, k < l.length → ∃ b o, A = some ⟨b, o, none⟩ ∧ b < w.heap.size ∧ w.cell? ⟨b, o + k, none⟩ = some (.int .u32 (l.getD k 0))
theorem cr_ints {ρ : Names} {w : World} : ∀ (l : List Int) (cs : List Value), CR ρ w (l.map (.int .u32)) cs → cs = l.map (Value.int .u32)
  | [], cs, h => by simpa only [List.map_nil,CR] using h
  | x :: l, cs, h => by
    simp only [List.map_cons,CR,C1] at h
    obtain ⟨c1, c2, rfl, rfl, h2⟩ := h
    rw [cr_ints l c2 h2]; rfl
theorem rdW_of {ρ : Names} {w : World} {l : List Int} {x : Value} (h : VR ρ w (encWords l) x) : ∃ A c, x = .slice A l.length c ∧ RdW w A l := by
  obtain ⟨A, c, hp, hc, hne⟩ := h.dat
  rw [List.length_map] at hp
  refine ⟨A, c, hp, fun k hk => ?_⟩
  obtain ⟨b, o, ecs, rfl, g1, g2, g3, g4, g5⟩ := hne (fun e => by
    have := congrArg List.length e
    rw [List.length_map, List.length_nil] at this
    omega)
  refine ⟨b, o, rfl, g5, ?_⟩
  have e := cr_ints l ecs g1
  refine g3 k _ ?_
  rw [e, List.getElem?_map, List.getD_eq_getElem?_getD, List.getElem?_eq_getElem hk]
  rfl
theorem RdW.below {w w' : World} {A : Option Addr} {l : List Int} (h : RdW w A l) (hb : Below w.heap.size w w') : RdW w' A l := fun k hk => by
  obtain ⟨b, o, h1, h2, h3⟩ := h k hk
  exact ⟨b, o, h1, Nat.lt_of_lt_of_le h2 hb.size, by rw [cell_of_block (hb.block b h2)]; exact h3⟩
theorem isBuilder_below {T e : TypeId} {B b : Nat} {bs : List Value} {w w' : World} (h : Lib.IsBuilderF T e B b bs w) (g : Below w.heap.size w w') : Lib.IsBuilderF T e B b bs w' := by
  have lt : ∀ {b : Nat} {o : Obj}, w.heap[b]? = some o → b < w.heap.size := fun h => (Array.getElem?_eq_some_iff.1 h).1
  have key : ∀ p, Lib.BuilderAtF T e B b p bs w → Lib.BuilderAtF T e B b p bs w' := by
    rintro p ⟨hB, v, hb, ⟨hl, ho⟩, hne⟩
    refine ⟨hB, v, by rw [g.block _ (lt hb)]; exact hb, ⟨hl, ?_⟩, hne⟩
    rcases ho with ho | ⟨q, cap, cur, fz, h1, h2, h3, h4⟩
    · exact .inl ho
    · exact .inr ⟨q, cap, cur, fz, h1, h2, by rw [g.block _ (lt h3)]; exact h3, h4⟩
  exact h.imp (key _) (key _)
theorem isBuilder_first {T e : TypeId} {b : Nat} {w : World} (h : w.heap[b]? = some (.cells #[.pointer none, .slice none 0 0] T (0, 0))) : Lib.IsBuilderF T e b b [] w :=
  .inl ⟨Nat.le_refl _, .slice none 0 0, h, World.ownsRowF_nil _ _ _ _, by simp [Value.ownBlock]⟩
theorem heap_new (w : World) (o : Obj) : (w.alloc o).heap[w.heap.size]? = some o := by
  show (w.heap.push o)[w.heap.size]? = _
  rw [Array.getElem?_push_size]
set_option maxHeartbeats 2000000 in
set_option maxRecDepth 100000 in
theorem words_any (A : Option Addr) (c : Nat) (l : List Int) (hl : l.length ≤ 20000) (hR : ∀ x ∈ l, u32R x) (w : World) (hA : RdW w A l) :
    Calls Try.prog 62 #[.slice A l.length c] w fun e w' => e = .returned (.string ⟨(wordsB l).toArray⟩) ∧ Below w.heap.size w w' := by
  go_enter Try.func62, Try.ntmps62
  go_wp2_with fail
  go_loopw [8] (fun i wr => ∃ k : Nat, k ≤ l.length ∧ i = .int .i64 k ∧ Lib.IsBuilderF 136 5 w.heap.size w.heap.size (Lib.byteCells (wordsB (l.take k))) wr ∧ Below w.heap.size w wr) (fun i _ => l.length - (intOf i).toNat)
  case atStart =>
    refine ⟨0, by omega, rfl, isBuilder_first ?_, ?_⟩
    · exact heap_new w _
    · exact ⟨rfl, rfl, rfl, by simp, fun k hk => Below.heap_alloc w _ k hk⟩
  case round =>
    obtain ⟨k, hk, rfl, hB, hW⟩ := hrel
    by_cases hlt : k < l.length
    · obtain ⟨b, o, rfl, hb, hc⟩ := (hA.below hW) k hlt
      obtain ⟨x1, x2⟩ := hR _ (getD_mem' hlt)
      have hP := num_put_spec (l.getD k 0).toNat (by have : l.getD k default = l.getD k 0 := rfl; omega) 4
      rw [show min (4 : Int).toNat 8 = 4 from rfl, Int.toNat_of_nonneg (show 0 ≤ l.getD k 0 from x1)] at hP
      have hpl := putLE_len (l.getD k 0).toNat 4
      have hsn : wordsB (l.take (k + 1)) = wordsB (l.take k) ++ putLE (l.getD k 0).toNat 4 := by rw [take_snocI _ _ hlt, wordsB_snoc]; rfl
      have hwl := wordsB_len (l.take k)
      rw [List.length_take] at hwl
      have x1' : 0 ≤ l.getD k 0 := x1
      have x2' : l.getD k 0 ≤ 4294967295 := x2
      generalize l.getD k 0 = x at hc hP hpl hsn x1' x2'
      generalize putLE x.toNat 4 = s at hP hpl hsn
      have hk0 : (0 : Int) ≤ (k : Int) := by omega
      have hk1 : (k : Int) < (l.length : Int) := by omega
      go_wp2_with (go_at_call 105; refine (calls_str hP _ VR_int VR_int).mono ?_)
      rintro e w1 ⟨rfl, hb1⟩
      have hB1 := isBuilder_below hB hb1
      have hs1 := hb1.size
      have hs0 := hW.size
      go_wp2_with (go_at_call 82; refine (writeString_k w.heap.size w.heap.size _ ⟨s.toArray⟩ _ hB1 ?c1 ?c2).mono ?_)
      case c1 => simp only [Lib.byteCells,List.length_map]; show _ + s.toArray.size ≤ _; simp only [List.size_toArray]; omega
      case c2 => omega
      rintro e w2 ⟨rfl, h2, hb2, hk2⟩
      go_wp2
      go_roundw
      case rel =>
        refine ⟨k + 1, by omega, by go_num, ?_, ?_⟩
        · rw [hsn]
          have e1 : Lib.byteCells (wordsB (l.take k) ++ s) = Lib.byteCells (wordsB (l.take k)) ++ Lib.strCells ⟨s.toArray⟩ := by simp [Lib.byteCells, Lib.strCells, byteCells]
          rw [e1]
          exact .inr h2
        · exact (hW.trans (hb1.mono (by omega))).trans hb2
      case measure => simp [intOf]; omega
    · obtain rfl : k = l.length := by omega
      rw [List.take_length] at hB
      have hs0 := hW.size
      go_wp2_with (go_at_call 84; refine (Try.Builder_String_any_k w.heap.size w.heap.size _ _ hB ?c3).mono ?_)
      case c3 => omega
      rintro e w1 ⟨rfl, _, k1, _⟩
      go_wp2
      go_ret
      exact ⟨rfl, hW.trans k1⟩
theorem swords_spec (l : List Int) (hl : l.length ≤ 20000) (hR : ∀ x ∈ l, u32R x) : Spec Try.prog 62 [encWords l] (.str (wordsB l)) := by
  intro U w xs hx
  obtain ⟨x, ys, rfl, h1, h3⟩ := hx
  have h3 : ys = [] := h3
  subst h3
  obtain ⟨A, c, rfl, hA⟩ := rdW_of h1
  refine (words_any A c l hl hR w hA).mono fun e' w' ⟨he, hb⟩ => ⟨_, he, hb, ?_⟩
  exact VR_str
end Go.Proofs.Ytpdhdkpebbfnnaa.V
end
