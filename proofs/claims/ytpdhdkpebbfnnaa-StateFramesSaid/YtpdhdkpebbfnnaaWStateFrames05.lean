/-
  Parts of the proof of StateFrames: Vshelf, M4, D1, D3, N1, N2, N4, NA, N3, N8, NB.
  Conditions: none.
-/
import Derived.Shelf.Strings.Builder1
import Derived.Shelf.Strings.Builder2
import Derived.Shelf.Strings.BuilderF
import Derived.Shelf.Strings.BuilderK
import Derived.Shelf.Strings.Builder2Cap
import Derived.Shelf.Strings.Prefix
import Derived.Shelf.Bits.Mul64
import Derived.Shelf.Strings.Repeat
import Derived.Shelf.Strings.BuilderCap
import Derived.Ground.Names2Prog
import Derived.Shelf.Slices.Clone
import Derived.Ground.SlgnProg
import Derived.Shelf.SlicesE.Clone
import Derived.Test.YtpdhdkpebbfnnaaProg
import Derived.Test.YtpdhdkpebbfnnaaWStateFrames04
import Derived.Test.YtpdhdkpebbfnnaaWStateFrames03
import Derived.Laws.Closers25b
set_option linter.unusedVariables false
set_option linter.unusedSimpArgs false
set_option linter.unusedSectionVars false
set_option linter.defProp false
section
namespace Go.Proofs
open Go.Shelf
def Try.lays170_ren : Go.Shelf.Ren := ⟨fun | 170 => 83 | n => n, fun | 70 => 134 | 3 => 3 | 0 => 0 | 72 => 136 | 37 => 116 | 5 => 5 | n => n, fun | n => n⟩
theorem Try.lays170 : Go.Proofs.Lays.n170 Try.prog Try.lays170_ren := {
  mixed := by kernel_rfl
  f170 := Try.func83.trans (congrArg some (by kernel_rfl))
  t0 := Try.underlying0
  a0 := Try.isAgg0
  z0 := Try.sizeOf0
  v0 := Try.zeroValue0
  t3 := Try.underlying3
  a3 := Try.isAgg3
  z3 := Try.sizeOf3
  v3 := Try.zeroValue3
  t37 := Try.underlying116
  a37 := Try.isAgg116
  z37 := Try.sizeOf116
  v37 := Try.zeroValue116
  t70 := Try.underlying134
  a70 := Try.isAgg134
  z70 := Try.sizeOf134
  v70 := Try.zeroValue134
  t72 := Try.underlying136
  a72 := Try.isAgg136
  z72 := Try.sizeOf136
  v72 := Try.zeroValue136 }
open Go.RowKit in
theorem Try.Builder_Len (B b : Nat) (bs : List Value) (w : World) (h : Lib.IsBuilder 136 5 B b bs w) :
    Calls Try.prog 83 #[.pointer (some ⟨b, 0, none⟩)] w fun e w' => e = .returned (.int .i64 bs.length) ∧ w' = w := Any.Builder_Len Try.lays170 B b bs w h
def Try.lays169_ren : Go.Shelf.Ren := ⟨fun | 169 => 84 | n => n, fun | 70 => 134 | 9 => 9 | 0 => 0 | 72 => 136 | 37 => 116 | 127 => 176 | 3 => 3 | 5 => 5 | n => n, fun | n => n⟩
theorem Try.lays169 : Go.Proofs.Lays.n169 Try.prog Try.lays169_ren := {
  mixed := by kernel_rfl
  f169 := Try.func84.trans (congrArg some (by kernel_rfl))
  t0 := Try.underlying0
  a0 := Try.isAgg0
  z0 := Try.sizeOf0
  v0 := Try.zeroValue0
  t3 := Try.underlying3
  a3 := Try.isAgg3
  z3 := Try.sizeOf3
  v3 := Try.zeroValue3
  t9 := Try.underlying9
  a9 := Try.isAgg9
  z9 := Try.sizeOf9
  v9 := Try.zeroValue9
  t37 := Try.underlying116
  a37 := Try.isAgg116
  z37 := Try.sizeOf116
  v37 := Try.zeroValue116
  t70 := Try.underlying134
  a70 := Try.isAgg134
  z70 := Try.sizeOf134
  v70 := Try.zeroValue134
  t72 := Try.underlying136
  a72 := Try.isAgg136
  z72 := Try.sizeOf136
  v72 := Try.zeroValue136
  t127 := Try.underlying176
  a127 := Try.isAgg176
  z127 := Try.sizeOf176
  v127 := Try.zeroValue176 }
theorem Try.Builder_Extra_169 : Builder.Extra Try.prog Try.lays169_ren := {
  sizeBuilder := by kernel_rfl
  liesBuilder := by kernel_rfl
  t5 := Try.underlying5
  a5 := Try.isAgg5
  z5 := Try.sizeOf5
  v5 := Try.zeroValue5
  infoByte := by kernel_rfl
  cellsByte := by kernel_rfl
  sizeByte := by kernel_rfl
  neB5 := by decide }
open Go.RowKit in
theorem Try.Builder_String (B b : Nat) (l : List UInt8) (w : World) (h : Lib.IsBuilder 136 5 B b (Lib.byteCells l) w) (h0 : l ≠ []) :
    Calls Try.prog 84 #[.pointer (some ⟨b, 0, none⟩)] w fun e w' => e = .returned (.string ⟨l.toArray⟩) ∧ Below B w w' := Any.Builder_String Try.lays169 Try.Builder_Extra_169 B b l w h h0
open Go.RowKit in
theorem Try.Builder_String_empty (B b : Nat) (w : World) (h : Lib.IsBuilder 136 5 B b [] w) (hBw : B ≤ w.heap.size) :
    Calls Try.prog 84 #[.pointer (some ⟨b, 0, none⟩)] w fun e w' => e = .returned (.string ⟨#[]⟩) ∧ Below B w w' := Any.Builder_String_empty Try.lays169 Try.Builder_Extra_169 B b w h hBw
open Go.RowKit in
theorem Try.Builder_String_any (B b : Nat) (l : List UInt8) (w : World) (h : Lib.IsBuilder 136 5 B b (Lib.byteCells l) w) (hBw : B ≤ w.heap.size) :
    Calls Try.prog 84 #[.pointer (some ⟨b, 0, none⟩)] w fun e w' => e = .returned (.string ⟨l.toArray⟩) ∧ Below B w w' := Any.Builder_String_any Try.lays169 Try.Builder_Extra_169 B b l w h hBw
def Try.lays241_ren : Go.Shelf.Ren := ⟨fun | 241 => 119 | 277 => 145 | n => n, fun | 70 => 134 | 3 => 3 | 0 => 0 | 72 => 136 | 37 => 116 | 5 => 5 | n => n, fun | n => n⟩
theorem Try.lays241 : Go.Proofs.Lays.n241 Try.prog Try.lays241_ren := {
  mixed := by kernel_rfl
  f241 := Try.func119.trans (congrArg some (by kernel_rfl))
  f277 := Try.func145.trans (congrArg some (by kernel_rfl))
  t0 := Try.underlying0
  a0 := Try.isAgg0
  z0 := Try.sizeOf0
  v0 := Try.zeroValue0
  t3 := Try.underlying3
  a3 := Try.isAgg3
  z3 := Try.sizeOf3
  v3 := Try.zeroValue3
  t37 := Try.underlying116
  a37 := Try.isAgg116
  z37 := Try.sizeOf116
  v37 := Try.zeroValue116
  t70 := Try.underlying134
  a70 := Try.isAgg134
  z70 := Try.sizeOf134
  v70 := Try.zeroValue134
  t72 := Try.underlying136
  a72 := Try.isAgg136
  z72 := Try.sizeOf136
  v72 := Try.zeroValue136 }
theorem Try.Builder_Extra_241 : Builder.Extra Try.prog Try.lays241_ren := {
  sizeBuilder := by kernel_rfl
  liesBuilder := by kernel_rfl
  t5 := Try.underlying5
  a5 := Try.isAgg5
  z5 := Try.sizeOf5
  v5 := Try.zeroValue5
  infoByte := by kernel_rfl
  cellsByte := by kernel_rfl
  sizeByte := by kernel_rfl
  neB5 := by decide }
open Go.RowKit in
theorem Try.Builder_grow_fresh (B b n : Nat) (w : World) (hB : B ≤ b) (hbk : w.heap[b]? = some (.cells #[.pointer (some ⟨b, 0, none⟩), .slice none 0 0] 136 (0, 0))) (hBw : B ≤ w.heap.size) (hn : n ≤ 281474976710656) :
    Calls Try.prog 119 #[.pointer (some ⟨b, 0, none⟩), .int .i64 n] w fun e w' => e = .returned (.tuple #[]) ∧ (Lib.BuilderAt 136 5 B b (.pointer (some ⟨b, 0, none⟩)) [] w' ∧ Below B w w') := Any.Builder_grow_fresh Try.lays241 Try.Builder_Extra_241 B b n w hB hbk hBw hn
def Try.lays165_ren : Go.Shelf.Ren := ⟨fun | 165 => 81 | 240 => 118 | 241 => 119 | 276 => 144 | 277 => 145 | n => n, fun | 70 => 134 | 3 => 3 | 0 => 0 | 4 => 4 | 9 => 9 | 20 => 20 | 72 => 136 | 37 => 116 | 164 => 184 | 5 => 5 | n => n, fun | n => n⟩
theorem Try.lays165 : Go.Proofs.Lays.n165 Try.prog Try.lays165_ren := {
  mixed := by kernel_rfl
  f165 := Try.func81.trans (congrArg some (by kernel_rfl))
  f240 := Try.func118.trans (congrArg some (by kernel_rfl))
  f241 := Try.func119.trans (congrArg some (by kernel_rfl))
  f276 := Try.func144.trans (congrArg some (by kernel_rfl))
  f277 := Try.func145.trans (congrArg some (by kernel_rfl))
  t0 := Try.underlying0
  a0 := Try.isAgg0
  z0 := Try.sizeOf0
  v0 := Try.zeroValue0
  t3 := Try.underlying3
  a3 := Try.isAgg3
  z3 := Try.sizeOf3
  v3 := Try.zeroValue3
  t4 := Try.underlying4
  a4 := Try.isAgg4
  z4 := Try.sizeOf4
  v4 := Try.zeroValue4
  t9 := Try.underlying9
  a9 := Try.isAgg9
  z9 := Try.sizeOf9
  v9 := Try.zeroValue9
  t20 := Try.underlying20
  a20 := Try.isAgg20
  z20 := Try.sizeOf20
  v20 := Try.zeroValue20
  t37 := Try.underlying116
  a37 := Try.isAgg116
  z37 := Try.sizeOf116
  v37 := Try.zeroValue116
  t70 := Try.underlying134
  a70 := Try.isAgg134
  z70 := Try.sizeOf134
  v70 := Try.zeroValue134
  t72 := Try.underlying136
  a72 := Try.isAgg136
  z72 := Try.sizeOf136
  v72 := Try.zeroValue136
  t164 := Try.underlying184
  a164 := Try.isAgg184
  z164 := Try.sizeOf184
  v164 := Try.zeroValue184 }
theorem Try.Builder_Extra_165 : Builder.Extra Try.prog Try.lays165_ren := {
  sizeBuilder := by kernel_rfl
  liesBuilder := by kernel_rfl
  t5 := Try.underlying5
  a5 := Try.isAgg5
  z5 := Try.sizeOf5
  v5 := Try.zeroValue5
  infoByte := by kernel_rfl
  cellsByte := by kernel_rfl
  sizeByte := by kernel_rfl
  neB5 := by decide }
open Go.RowKit in
theorem Try.Builder_Grow_fresh (B b n : Nat) (w : World) (hB : B ≤ b) (hbk : w.heap[b]? = some (.cells #[.pointer none, .slice none 0 0] 136 (0, 0))) (hBw : B ≤ w.heap.size) (hn : n ≤ 281474976710656) :
    Calls Try.prog 81 #[.pointer (some ⟨b, 0, none⟩), .int .i64 n] w fun e w' => e = .returned (.tuple #[]) ∧ (Lib.BuilderAt 136 5 B b (.pointer (some ⟨b, 0, none⟩)) [] w' ∧ Below B w w') := Any.Builder_Grow_fresh Try.lays165 Try.Builder_Extra_165 B b n w hB hbk hBw hn
open Go.RowKit in
theorem Try.Builder_Len_f (B b : Nat) (bs : List Value) (w : World) (h : Lib.IsBuilderF 136 5 B b bs w) :
    Calls Try.prog 83 #[.pointer (some ⟨b, 0, none⟩)] w fun e w' => e = .returned (.int .i64 bs.length) ∧ w' = w := Any.Builder_Len_f Try.lays170 B b bs w h
open Go.RowKit in
theorem Try.Builder_String_f (B b : Nat) (l : List UInt8) (w : World) (h : Lib.IsBuilderF 136 5 B b (Lib.byteCells l) w) (h0 : l ≠ []) :
    Calls Try.prog 84 #[.pointer (some ⟨b, 0, none⟩)] w fun e w' => e = .returned (.string ⟨l.toArray⟩) ∧ (Lib.IsBuilderF 136 5 B b (Lib.byteCells l) w' ∧ Below B w w') := Any.Builder_String_f Try.lays169 Try.Builder_Extra_169 B b l w h h0
open Go.RowKit in
theorem Try.Builder_String_empty_f (B b : Nat) (w : World) (h : Lib.IsBuilderF 136 5 B b [] w) (hBw : B ≤ w.heap.size) :
    Calls Try.prog 84 #[.pointer (some ⟨b, 0, none⟩)] w fun e w' => e = .returned (.string ⟨#[]⟩) ∧ (Lib.IsBuilderF 136 5 B b [] w' ∧ Below B w w') := Any.Builder_String_empty_f Try.lays169 Try.Builder_Extra_169 B b w h hBw
open Go.RowKit in
theorem Try.Builder_String_any_f (B b : Nat) (l : List UInt8) (w : World) (h : Lib.IsBuilderF 136 5 B b (Lib.byteCells l) w) (hBw : B ≤ w.heap.size) :
    Calls Try.prog 84 #[.pointer (some ⟨b, 0, none⟩)] w fun e w' => e = .returned (.string ⟨l.toArray⟩) ∧ (Lib.IsBuilderF 136 5 B b (Lib.byteCells l) w' ∧ Below B w w') := Any.Builder_String_any_f Try.lays169 Try.Builder_Extra_169 B b l w h hBw
open Go.RowKit in
theorem Try.Builder_String_k (B b : Nat) (l : List UInt8) (w : World) (h : Lib.IsBuilderF 136 5 B b (Lib.byteCells l) w) (h0 : l ≠ []) :
    Calls Try.prog 84 #[.pointer (some ⟨b, 0, none⟩)] w fun e w' => e = .returned (.string ⟨l.toArray⟩) ∧ (Lib.IsBuilderF 136 5 B b (Lib.byteCells l) w' ∧ Below B w w' ∧ Lib.OthersKept 5 (some b) w w') := Any.Builder_String_k Try.lays169 Try.Builder_Extra_169 B b l w h h0
open Go.RowKit in
theorem Try.Builder_String_empty_k (B b : Nat) (w : World) (h : Lib.IsBuilderF 136 5 B b [] w) (hBw : B ≤ w.heap.size) :
    Calls Try.prog 84 #[.pointer (some ⟨b, 0, none⟩)] w fun e w' => e = .returned (.string ⟨#[]⟩) ∧ (Lib.IsBuilderF 136 5 B b [] w' ∧ Below B w w' ∧ Lib.OthersKept 5 (some b) w w') := Any.Builder_String_empty_k Try.lays169 Try.Builder_Extra_169 B b w h hBw
open Go.RowKit in
theorem Try.Builder_String_any_k (B b : Nat) (l : List UInt8) (w : World) (h : Lib.IsBuilderF 136 5 B b (Lib.byteCells l) w) (hBw : B ≤ w.heap.size) :
    Calls Try.prog 84 #[.pointer (some ⟨b, 0, none⟩)] w fun e w' => e = .returned (.string ⟨l.toArray⟩) ∧ (Lib.IsBuilderF 136 5 B b (Lib.byteCells l) w' ∧ Below B w w' ∧ Lib.OthersKept 5 (some b) w w') := Any.Builder_String_any_k Try.lays169 Try.Builder_Extra_169 B b l w h hBw
open Go.RowKit in
theorem Try.Builder_grow_fresh_cap (B b n : Nat) (w : World) (hB : B ≤ b) (hbk : w.heap[b]? = some (.cells #[.pointer (some ⟨b, 0, none⟩), .slice none 0 0] 136 (0, 0))) (hBw : B ≤ w.heap.size) (hn : n ≤ 281474976710656) :
    Calls Try.prog 119 #[.pointer (some ⟨b, 0, none⟩), .int .i64 n] w fun e w' => e = .returned (.tuple #[]) ∧ (Lib.BuilderAt 136 5 B b (.pointer (some ⟨b, 0, none⟩)) [] w' ∧ Below B w w') ∧ ∃ p cap, w'.cell? ⟨b, 1, none⟩ = some (.slice p 0 cap) ∧ n ≤ cap := Any.Builder_grow_fresh_cap Try.lays241 Try.Builder_Extra_241 B b n w hB hbk hBw hn
open Go.RowKit in
theorem Try.Builder_Grow_fresh_cap (B b n : Nat) (w : World) (hB : B ≤ b) (hbk : w.heap[b]? = some (.cells #[.pointer none, .slice none 0 0] 136 (0, 0))) (hBw : B ≤ w.heap.size) (hn : n ≤ 281474976710656) :
    Calls Try.prog 81 #[.pointer (some ⟨b, 0, none⟩), .int .i64 n] w fun e w' => e = .returned (.tuple #[]) ∧ (Lib.BuilderAt 136 5 B b (.pointer (some ⟨b, 0, none⟩)) [] w' ∧ Below B w w') ∧ ∃ p cap, w'.cell? ⟨b, 1, none⟩ = some (.slice p 0 cap) ∧ n ≤ cap := Any.Builder_Grow_fresh_cap Try.lays165 Try.Builder_Extra_165 B b n w hB hbk hBw hn
def Try.lays206_ren : Go.Shelf.Ren := ⟨fun | 206 => 117 | n => n, fun | 9 => 9 | 4 => 4 | 3 => 3 | n => n, fun | n => n⟩
theorem Try.lays206 : Go.Proofs.Lays.n206 Try.prog Try.lays206_ren := {
  mixed := by kernel_rfl
  f206 := Try.func117.trans (congrArg some (by kernel_rfl))
  t3 := Try.underlying3
  a3 := Try.isAgg3
  z3 := Try.sizeOf3
  v3 := Try.zeroValue3
  t4 := Try.underlying4
  a4 := Try.isAgg4
  z4 := Try.sizeOf4
  v4 := Try.zeroValue4
  t9 := Try.underlying9
  a9 := Try.isAgg9
  z9 := Try.sizeOf9
  v9 := Try.zeroValue9 }
open Go.RowKit Go.Lib in
theorem Try.stringslite_HasPrefix (s p : ByteArray) (w : World) :
    Calls Try.prog 117 #[.string s, .string p] w fun e w' => e = .returned (.bool (Lib.hasPrefix s.data.toList p.data.toList)) ∧ w' = w := Any.stringslite_HasPrefix Try.lays206 s p w
def Try.lays99_ren : Go.Shelf.Ren := ⟨fun | 99 => 80 | 206 => 117 | n => n, fun | 9 => 9 | 4 => 4 | 3 => 3 | n => n, fun | n => n⟩
theorem Try.lays99 : Go.Proofs.Lays.n99 Try.prog Try.lays99_ren := {
  mixed := by kernel_rfl
  f99 := Try.func80.trans (congrArg some (by kernel_rfl))
  f206 := Try.func117.trans (congrArg some (by kernel_rfl))
  t3 := Try.underlying3
  a3 := Try.isAgg3
  z3 := Try.sizeOf3
  v3 := Try.zeroValue3
  t4 := Try.underlying4
  a4 := Try.isAgg4
  z4 := Try.sizeOf4
  v4 := Try.zeroValue4
  t9 := Try.underlying9
  a9 := Try.isAgg9
  z9 := Try.sizeOf9
  v9 := Try.zeroValue9 }
open Go.RowKit Go.Lib in
theorem Try.strings_HasPrefix (s p : ByteArray) (w : World) :
    Calls Try.prog 80 #[.string s, .string p] w fun e w' => e = .returned (.bool (Lib.hasPrefix s.data.toList p.data.toList)) ∧ w' = w := Any.strings_HasPrefix Try.lays99 s p w
def Try.lays264_ren : Go.Shelf.Ren := ⟨fun | 264 => 116 | n => n, fun | 53 => 22 | 46 => 130 | n => n, fun | n => n⟩
theorem Try.lays264 : Go.Proofs.Lays.n264 Try.prog Try.lays264_ren := {
  mixed := by kernel_rfl
  f264 := Try.func116.trans (congrArg some (by kernel_rfl))
  t46 := Try.underlying130
  a46 := Try.isAgg130
  z46 := Try.sizeOf130
  v46 := Try.zeroValue130
  t53 := Try.underlying22
  a53 := Try.isAgg22
  z53 := Try.sizeOf22
  v53 := Try.zeroValue22 }
open Go.RowKit Go.Lib in
theorem Try.bits_Mul64 (x y : Nat) (hx : x < 18446744073709551616) (hy : y < 18446744073709551616) (w : World) :
    Calls Try.prog 116 #[.int .u64 x, .int .u64 y] w fun e w' => e = .returned (.tuple #[.int .u64 ((x * y / 18446744073709551616 : Nat) : Int), .int .u64 ((x * y % 18446744073709551616 : Nat) : Int)]) ∧ w' = w := Any.bits_Mul64 Try.lays264 x y hx hy w
def Try.lays212_ren : Go.Shelf.Ren := ⟨fun | 212 => 79 | 263 => 115 | 264 => 116 | n => n, fun | 46 => 130 | 51 => 32 | 146 => 172 | 53 => 22 | 148 => 174 | n => n, fun | n => n⟩
theorem Try.lays212 : Go.Proofs.Lays.n212 Try.prog Try.lays212_ren := {
  mixed := by kernel_rfl
  f212 := Try.func79.trans (congrArg some (by kernel_rfl))
  f263 := Try.func115.trans (congrArg some (by kernel_rfl))
  f264 := Try.func116.trans (congrArg some (by kernel_rfl))
  t46 := Try.underlying130
  a46 := Try.isAgg130
  z46 := Try.sizeOf130
  v46 := Try.zeroValue130
  t51 := Try.underlying32
  a51 := Try.isAgg32
  z51 := Try.sizeOf32
  v51 := Try.zeroValue32
  t53 := Try.underlying22
  a53 := Try.isAgg22
  z53 := Try.sizeOf22
  v53 := Try.zeroValue22
  t146 := Try.underlying172
  a146 := Try.isAgg172
  z146 := Try.sizeOf172
  v146 := Try.zeroValue172
  t148 := Try.underlying174
  a148 := Try.isAgg174
  z148 := Try.sizeOf174
  v148 := Try.zeroValue174 }
open Go.RowKit Go.Lib in
theorem Try.bits_Mul (x y : Nat) (hx : x < 18446744073709551616) (hy : y < 18446744073709551616) (w : World) :
    Calls Try.prog 79 #[.int .u64 x, .int .u64 y] w fun e w' => e = .returned (.tuple #[.int .u64 ((x * y / 18446744073709551616 : Nat) : Int), .int .u64 ((x * y % 18446744073709551616 : Nat) : Int)]) ∧ w' = w := Any.bits_Mul Try.lays212 x y hx hy w
def Try.lays105_ren : Go.Shelf.Ren := ⟨fun | 105 => 38 | 212 => 79 | 99 => 80 | 165 => 81 | 166 => 82 | 170 => 83 | 169 => 84 | 263 => 115 | 264 => 116 | 206 => 117 | 240 => 118 | 241 => 119 | 276 => 144 | 277 => 145 | n => n, fun | 9 => 9 | 3 => 3 | 4 => 4 | 20 => 20 | 0 => 0 | 46 => 130 | 109 => 131 | 5 => 5 | 72 => 136 | 76 => 140 | 51 => 32 | 146 => 172 | 53 => 22 | 148 => 174 | 70 => 134 | 37 => 116 | 75 => 139 | 127 => 176 | 164 => 184 | 80 => 104 | n => n, fun | n => n⟩
theorem Try.lays105 : Go.Proofs.Lays.n105 Try.prog Try.lays105_ren := {
  mixed := by kernel_rfl
  f99 := Try.func80.trans (congrArg some (by kernel_rfl))
  f105 := Try.func38.trans (congrArg some (by kernel_rfl))
  f165 := Try.func81.trans (congrArg some (by kernel_rfl))
  f166 := Try.func82.trans (congrArg some (by kernel_rfl))
  f169 := Try.func84.trans (congrArg some (by kernel_rfl))
  f170 := Try.func83.trans (congrArg some (by kernel_rfl))
  f206 := Try.func117.trans (congrArg some (by kernel_rfl))
  f212 := Try.func79.trans (congrArg some (by kernel_rfl))
  f240 := Try.func118.trans (congrArg some (by kernel_rfl))
  f241 := Try.func119.trans (congrArg some (by kernel_rfl))
  f263 := Try.func115.trans (congrArg some (by kernel_rfl))
  f264 := Try.func116.trans (congrArg some (by kernel_rfl))
  f276 := Try.func144.trans (congrArg some (by kernel_rfl))
  f277 := Try.func145.trans (congrArg some (by kernel_rfl))
  t0 := Try.underlying0
  a0 := Try.isAgg0
  z0 := Try.sizeOf0
  v0 := Try.zeroValue0
  t3 := Try.underlying3
  a3 := Try.isAgg3
  z3 := Try.sizeOf3
  v3 := Try.zeroValue3
  t4 := Try.underlying4
  a4 := Try.isAgg4
  z4 := Try.sizeOf4
  v4 := Try.zeroValue4
  t5 := Try.underlying5
  a5 := Try.isAgg5
  z5 := Try.sizeOf5
  v5 := Try.zeroValue5
  t9 := Try.underlying9
  a9 := Try.isAgg9
  z9 := Try.sizeOf9
  v9 := Try.zeroValue9
  t20 := Try.underlying20
  a20 := Try.isAgg20
  z20 := Try.sizeOf20
  v20 := Try.zeroValue20
  t37 := Try.underlying116
  a37 := Try.isAgg116
  z37 := Try.sizeOf116
  v37 := Try.zeroValue116
  t46 := Try.underlying130
  a46 := Try.isAgg130
  z46 := Try.sizeOf130
  v46 := Try.zeroValue130
  t51 := Try.underlying32
  a51 := Try.isAgg32
  z51 := Try.sizeOf32
  v51 := Try.zeroValue32
  t53 := Try.underlying22
  a53 := Try.isAgg22
  z53 := Try.sizeOf22
  v53 := Try.zeroValue22
  t70 := Try.underlying134
  a70 := Try.isAgg134
  z70 := Try.sizeOf134
  v70 := Try.zeroValue134
  t72 := Try.underlying136
  a72 := Try.isAgg136
  z72 := Try.sizeOf136
  v72 := Try.zeroValue136
  t75 := Try.underlying139
  a75 := Try.isAgg139
  z75 := Try.sizeOf139
  v75 := Try.zeroValue139
  t76 := Try.underlying140
  a76 := Try.isAgg140
  z76 := Try.sizeOf140
  v76 := Try.zeroValue140
  t109 := Try.underlying131
  a109 := Try.isAgg131
  z109 := Try.sizeOf131
  v109 := Try.zeroValue131
  t127 := Try.underlying176
  a127 := Try.isAgg176
  z127 := Try.sizeOf176
  v127 := Try.zeroValue176
  t146 := Try.underlying172
  a146 := Try.isAgg172
  z146 := Try.sizeOf172
  v146 := Try.zeroValue172
  t148 := Try.underlying174
  a148 := Try.isAgg174
  z148 := Try.sizeOf174
  v148 := Try.zeroValue174
  t164 := Try.underlying184
  a164 := Try.isAgg184
  z164 := Try.sizeOf184
  v164 := Try.zeroValue184 }
theorem Try.Builder_Extra_105 : Builder.Extra Try.prog Try.lays105_ren := {
  sizeBuilder := by kernel_rfl
  liesBuilder := by kernel_rfl
  t5 := Try.underlying5
  a5 := Try.isAgg5
  z5 := Try.sizeOf5
  v5 := Try.zeroValue5
  infoByte := by kernel_rfl
  cellsByte := by kernel_rfl
  sizeByte := by kernel_rfl
  neB5 := by decide }
open Go.RowKit Go.Lib in
theorem Try.strings_Repeat_main (s : ByteArray) (c : Nat) (w : World) (hc2 : 2 ≤ c) (hc : c ≤ 9223372036854775807) (hlen : s.size * c ≤ 140737488355328) (h0 : 0 < s.size) :
    Calls Try.prog 38 #[.string s, .int .i64 c] w fun e w' => e = .returned (.string ⟨(Lib.repeatL s.data.toList c).toArray⟩) ∧ Below w.heap.size w w' := Any.strings_Repeat_main Try.lays105 Try.Builder_Extra_105 s c w hc2 hc hlen h0
open Go.RowKit Go.Lib in
theorem Try.strings_Repeat_zero (s : ByteArray) (w : World) :
    Calls Try.prog 38 #[.string s, .int .i64 0] w fun e w' => e = .returned (.string ⟨#[]⟩) ∧ w' = w := Any.strings_Repeat_zero Try.lays105 s w
open Go.RowKit Go.Lib in
theorem Try.strings_Repeat_one (s : ByteArray) (w : World) :
    Calls Try.prog 38 #[.string s, .int .i64 1] w fun e w' => e = .returned (.string s) ∧ w' = w := Any.strings_Repeat_one Try.lays105 s w
open Go.RowKit Go.Lib in
theorem Try.strings_Repeat_empty (s : ByteArray) (c : Nat) (w : World) (hc2 : 2 ≤ c) (hc : c ≤ 9223372036854775807) (h0 : s.size = 0) :
    Calls Try.prog 38 #[.string s, .int .i64 c] w fun e w' => e = .returned (.string ⟨#[]⟩) ∧ w' = w := Any.strings_Repeat_empty Try.lays105 s c w hc2 hc h0
open Go.RowKit Go.Lib in
theorem Try.strings_Repeat_negative (s : ByteArray) (c : Int) (w : World) (hc : c < 0) :
    Calls Try.prog 38 #[.string s, .int .i64 c] w fun e w' => e = .panicked [{ v := repeatPanic Try.lays105_ren "strings: negative Repeat count", recovered := false }] ∧ w' = w := Any.strings_Repeat_negative Try.lays105 s c w hc
open Go.RowKit Go.Lib in
theorem Try.strings_Repeat_overflow (s : ByteArray) (c : Nat) (w : World) (hc : c ≤ 9223372036854775807) (hs : s.size ≤ 9223372036854775807) (hbig : 9223372036854775807 < s.size * c) :
    Calls Try.prog 38 #[.string s, .int .i64 c] w fun e w' => e = .panicked [{ v := repeatPanic Try.lays105_ren "strings: Repeat output length overflow", recovered := false }] ∧ w' = w := Any.strings_Repeat_overflow Try.lays105 s c w hc hs hbig
open Go.RowKit Go.Lib in
theorem Try.strings_Repeat (s : ByteArray) (c : Nat) (w : World) (hc : c ≤ 9223372036854775807) (hlen : s.size * c ≤ 140737488355328) :
    Calls Try.prog 38 #[.string s, .int .i64 c] w fun e w' => e = .returned (.string ⟨(Lib.repeatL s.data.toList c).toArray⟩) ∧ Below w.heap.size w w' := Any.strings_Repeat Try.lays105 Try.Builder_Extra_105 s c w hc hlen
def Try.laysNm216_ren : Go.Shelf.Ren := ⟨fun | 16 => 66 | n => n, fun | 24 => 23 | 9 => 9 | 4 => 4 | n => n, fun | n => n⟩
theorem Try.laysNm216 : Go.Proofs.Lays2.n16 Try.prog Try.laysNm216_ren := {
  mixed := by kernel_rfl
  f16 := Try.func66.trans (congrArg some (by kernel_rfl))
  t4 := Try.underlying4
  a4 := Try.isAgg4
  z4 := Try.sizeOf4
  v4 := Try.zeroValue4
  t9 := Try.underlying9
  a9 := Try.isAgg9
  z9 := Try.sizeOf9
  v9 := Try.zeroValue9
  t24 := Try.underlying23
  a24 := Try.isAgg23
  z24 := Try.sizeOf23
  v24 := Try.zeroValue23
  i9 := by kernel_rfl }
open Go.RowKit Go.Lib in
theorem Try.slices_Clone_string (b off n c : Nat) (zs : List ByteArray) (w : World) (hz : n ≤ zs.length) (hbig : n * 16 ≤ 140737488355328) (hc : ∀ j, j < zs.length → w.cell? ⟨b, off + j, none⟩ = some (.string (zs.getD j ByteArray.empty))) :
    Calls Try.prog 66 #[.slice (some ⟨b, off, none⟩) n c] w fun e w' => ∃ v', e = .returned v' ∧ w'.ownsRow w.heap.size 9 1 v' n ((zs.take n).map (Value.string)) ∧ v' ≠ .slice none 0 0 ∧ Below w.heap.size w w' := Any.slices_Clone_string Try.laysNm216 b off n c zs w hz hbig hc
open Go.RowKit Go.Lib in
theorem Try.slices_Clone_string_nil (n c : Nat) (w : World) :
    Calls Try.prog 66 #[.slice none n c] w fun e w' => e = .returned (.slice none 0 0) ∧ w' = w := Any.slices_Clone_string_nil Try.laysNm216 n c w
open Go.RowKit Go.Lib in
theorem Try.slices_Clone_string_zero (a : Addr) (c : Nat) (w : World) :
    Calls Try.prog 66 #[.slice (some a) 0 c] w fun e w' => ∃ v', e = .returned v' ∧ w'.ownsRow w.heap.size 9 1 v' 0 [] ∧ v' ≠ .slice none 0 0 ∧ Below w.heap.size w w' := Any.slices_Clone_string_zero Try.laysNm216 a c w
def Try.laysSlE041_f66_ren : Go.Shelf.Ren := ⟨fun | 41 => 66 | n => n, fun | 22 => 23 | 23 => 9 | 4 => 4 | n => n, fun | n => n⟩
theorem Try.laysSlE041_f66 : Go.Proofs.SlLaysE0.n41 Try.prog Try.laysSlE041_f66_ren := {
  mixed := by kernel_rfl
  f41 := ⟨Try.f66.name, by decide, Try.func66.trans (congrArg some (by kernel_rfl))⟩
  t4 := Try.underlying4
  a4 := Try.isAgg4
  z4 := Try.sizeOf4
  v4 := Try.zeroValue4
  t22 := Try.underlying23
  a22 := Try.isAgg23
  z22 := Try.sizeOf23
  v22 := Try.zeroValue23 }
open Go.RowKit Go.Lib in
theorem Try.slices_Clone (i0 : TypeInfo) (z : Value) (size bytes : Nat) (hi : Try.prog.info? 9 = some i0) (hz0 : i0.zero = some z) (hz1 : i0.size = size) (hz2 : i0.bytes = bytes) (hzs : z.cells.size = size) (hsz : 0 < size) (z23 : ∀ w, (Go.sizeOf 9).run Try.prog w = .ok size w) (b off n c : Nat) (news : List Value) (w : World) (hl : news.length = n * size) (hn : n ≤ maxLen) (hbig : n * bytes ≤ 140737488355328) (hc : ∀ j u, news[j]? = some u → w.cell? ⟨b, off + j, none⟩ = some u) (h1 : ∀ u ∈ news, u.oneCell' = true) :
    Calls Try.prog 66 #[.slice (some ⟨b, off, none⟩) n c] w fun e w' => ∃ v', e = .returned v' ∧ w'.ownsRow w.heap.size 9 size v' n news ∧ v' ≠ .slice none 0 0 ∧ Below w.heap.size w w' := AnyE.slices_Clone Try.laysSlE041_f66 i0 z size bytes hi hz0 hz1 hz2 hzs hsz z23 b off n c news w hl hn hbig hc h1
open Go.RowKit Go.Lib in
theorem Try.slices_Clone_nil (n c : Nat) (w : World) :
    Calls Try.prog 66 #[.slice none n c] w fun e w' => e = .returned (.slice none 0 0) ∧ w' = w := AnyE.slices_Clone_nil Try.laysSlE041_f66 n c w
end Go.Proofs
end
section
namespace Go.Proofs.Ytpdhdkpebbfnnaa.V
open Go
set_option maxRecDepth 100000
set_option maxHeartbeats 1000000
theorem repeat_spec (s : List UInt8) (c : Nat) (h : s.length * c ≤ 140737488355328) (hc : c ≤ 9223372036854775807) : Spec Try.prog 38 [.str s, .int .i64 c] (.str (List.replicate c s).flatten) := by
  intro U w xs hx
  obtain ⟨x, ys, rfl, h1, y, zs, rfl, h2, h3⟩ := hx
  have h3 : zs = [] := h3
  subst h3
  rw [h1.str, h2.int]
  have e : Lib.repeatL s c = (List.replicate c s).flatten := by
    clear h hc h1 h2
    induction c with
    | zero => rfl
    | succ c ih => simp [Lib.repeatL, List.replicate_succ, ih]
  refine (Try.strings_Repeat ⟨s.toArray⟩ c w hc (by show s.toArray.size * c ≤ _; simpa using h)).mono fun e' w' ⟨he, hb⟩ => ⟨_, he, hb, ?_⟩
  rw [e]
  exact VR_str
end Go.Proofs.Ytpdhdkpebbfnnaa.V
end
section
namespace Go.Proofs.Ytpdhdkpebbfnnaa.V
open Go
set_option maxRecDepth 100000
set_option maxHeartbeats 1000000
structure Wr where
  b : Int
  d : List UInt8
deriving DecidableEq
instance : Inhabited Wr := ⟨⟨0, []⟩⟩
structure Dr where
  bl : Frames
  pe : List Wr
  left : Int
deriving DecidableEq
def encWr (w : Wr) : VV := .agg [.int .i64 w.b, .str w.d]
abbrev encWrs (l : List Wr) : VV := .dat (.st [.cell, .cell]) (l.map encWr)
abbrev encDr (d : Dr) : VV := .agg [encStrs d.bl, encWrs d.pe, .int .i64 d.left]
theorem jO (l : List Wr) : nls (l.map encWr) = true := nls_map _ (fun _ => rfl) l
def dfit (d : Dr) : Prop := fits d.bl ∧ d.pe.length < 2 ^ 36 ∧ ∀ w ∈ d.pe, w.d.length < 2 ^ 36
theorem has_spec (d : Dr) (hd : d.bl.length < 2 ^ 36) (i : Int) : Spec Try.prog 138 [encDr d, .int .i64 i] (.bool (decide (0 ≤ i) && decide (i < d.bl.length))) := by
  refine spec_ok Try.func138 rfl rfl (by kernel_rfl) (k := 2) rfl (by decide) ?_
  repeat' (first|(with_reducible first|refine yrl (by constructor) ?_|refine jk (fun M hM=>?_)|(refine hM _ ?_;clear hM M)|refine xb3 (by decide) ?_|refine yqa (by assumption) ?_ ?_|refine yqb (by assumption) ?_ ?_)|((with_reducible refine je ?_)<;>(first|rfl|assumption|(simp only [znl,jO];(first|done|fail))))|(with_reducible refine jf (by (simp only [↓reduceIte,zlk,Nat.reduceEqDiff,reduceCtorEq]);exact rfl) ?_)|((with_reducible first|refine jg (fun hc=>?_) (fun hc=>?_)|refine jh (fun hc=>?_) (fun hc=>?_))<;>(try simp (disch:=omega) only [zhb] at hc)<;>(try (exfalso;omega))<;>(try subst hc))|(with_reducible refine ji (by omega) ?_)|(simp (config := { maxSteps := 400000 }) only [↓jt,↓reduceIte,zvs,reduceCtorEq,Nat.reduceEqDiff,Nat.reduceAdd,Nat.reduceLeDiff,Nat.reduceMul,Int.reduceBNe,Int.reduceBEq,Int.reduceEq,Int.reduceNe,Int.reduceLT,Int.reduceLE,Int.reduceGT,Int.reduceGE,Int.reduceNeg,Int.reduceToNat,Nat.reduceLT,Nat.reduceSub,tab,encDr,Try.results138,jTA])|(simp (disch:=omega) only [ziw]))
  · simp only [zrds]
    rw [decide_eq_true (by omega : 0 ≤ i), Bool.true_and]
  · simp only [zrds]
    rw [decide_eq_false (by omega : ¬0 ≤ i), Bool.false_and]
theorem any_of {α : Type} [Inhabited α] (l : List α) (p : α → Bool) (k : Nat) (h : k < l.length) (hp : p (l.getD k default) = true) : l.any p = true := by
  rw [List.any_eq_true]
  refine ⟨_, ?_, hp⟩
  rw [List.getD_eq_getElem?_getD, List.getElem?_eq_getElem h]; exact List.getElem_mem _
theorem any_none {α : Type} [Inhabited α] (l : List α) (p : α → Bool) (h : ∀ j, j < l.length → p (l.getD j default) = false) : l.any p = false := by
  rw [List.any_eq_false]
  intro x hx
  obtain ⟨j, hj, e⟩ := List.mem_iff_getElem.1 hx
  have := h j hj
  rw [List.getD_eq_getElem?_getD, List.getElem?_eq_getElem hj] at this
  simp only [Option.getD_some] at this
  rw [← e, this]
  simp
def longB (n : Nat) (s : List UInt8) : Bool := decide (n < s.length)
def checkW (n : Nat) : List Wr → Int
  | [] => 0
  | w :: ws => if ¬(0 ≤ w.b ∧ w.b < n) then 2 else if w.d.length ≠ 128 then 3 else checkW n ws
def checkD (d : Dr) : Int := if 256 < d.bl.length then 6 else if d.bl.any (fun s => decide (s.length ≠ 128)) = true then 3 else checkW d.bl.length d.pe
theorem drop_getD' {α : Type} [Inhabited α] (l : List α) (i : Nat) (h : i < l.length) : l.drop i = l.getD i default :: l.drop (i + 1) := by
  rw [List.drop_eq_getElem_cons h, List.getD_eq_getElem?_getD, List.getElem?_eq_getElem h]; rfl
theorem getD_mem' {α : Type} [Inhabited α] {l : List α} {i : Nat} (h : i < l.length) : l.getD i default ∈ l := by
  rw [List.getD_eq_getElem?_getD, List.getElem?_eq_getElem h]; exact List.getElem_mem _
theorem check_spec (d : Dr) (hd : dfit d) : Spec Try.prog 112 [encDr d] (.int .i64 (checkD d)) := by
  obtain ⟨R, hR⟩ : ∃ R, R = checkD d := ⟨_, rfl⟩
  rw [← hR]
  obtain ⟨⟨hf1, hf2⟩, hf3, hf4⟩ := hd
  refine spec_ok Try.func112 rfl rfl (by kernel_rfl) (k := 1) rfl (by decide) ?_
  repeat' (first|(with_reducible first|refine yrl (by constructor) ?_|refine jk (fun M hM=>?_)|(refine hM _ ?_;clear hM M)|refine xb3 (by decide) ?_|refine yqa (by assumption) ?_ ?_|refine yqb (by assumption) ?_ ?_)|((with_reducible refine je ?_)<;>(first|rfl|assumption|(simp only [znl,jO];(first|done|fail))))|(with_reducible refine jf (by (simp only [↓reduceIte,zlk,Nat.reduceEqDiff,reduceCtorEq]);exact rfl) ?_)|((with_reducible first|refine jg (fun hc=>?_) (fun hc=>?_)|refine jh (fun hc=>?_) (fun hc=>?_))<;>(try simp (disch:=omega) only [zhb] at hc)<;>(try (exfalso;omega))<;>(try subst hc))|(with_reducible refine ji (by omega) ?_)|(simp (config := { maxSteps := 400000 }) only [↓jt,↓reduceIte,zvs,reduceCtorEq,Nat.reduceEqDiff,Nat.reduceAdd,Nat.reduceLeDiff,Nat.reduceMul,Int.reduceBNe,Int.reduceBEq,Int.reduceEq,Int.reduceNe,Int.reduceLT,Int.reduceLE,Int.reduceGT,Int.reduceGE,Int.reduceNeg,Int.reduceToNat,Nat.reduceLT,Nat.reduceSub,tab,encDr,Try.results112,jTA])|(simp (disch:=omega) only [ziw]))
  · simp only [zrds]
    rw [hR, checkD, if_pos (by omega)]
  · refine ok_loop (fun k : Nat => ⟨slots [(1, .ptr 0 []), (2, .int .i64 0), (12, encStrs d.bl), (13, .int .i64 d.bl.length), (14, .int .i64 k)], rows [(0, .row (.st [.cell, .cell, .cell]) (encDr d))], 1⟩) (fun k => k ≤ d.bl.length ∧ ∀ j, j < k → decide ((d.bl.getD j default).length ≠ 128) = false) (fun k => d.bl.length - k) 0 ?_ ⟨Nat.zero_le _, fun j hj => by omega⟩ (fun k hk => ?_)
    · (refine yrn [(0, 0)] false ?_ ?_<;>(repeat' (first|(with_reducible first|exact ya1|exact ya2|exact ya3|refine jx rfl (by first|rfl|assumption|(simp only [znl,jO];(first|done|fail)))|exact ya5|exact ya7|exact jy|exact jz|refine jA ?_|refine ya9 ?_ ?_ ?_|refine jC rfl (by first|rfl|assumption|(simp only [znl,jO];(first|done|fail)))|refine MR.agg (MRL.cons ?_ ?_)|refine MR.fn ?_|refine MRL.cons ?_ ?_|exact MRL.nil|refine jE ?_ ?_|exact jF|exact jG|refine yb1 ?_ ?_|refine MB.row ?_|refine jI ?_ ?_|exact ya8|refine jJ rfl (by first|rfl|assumption|(simp only [znl,jO];(first|done|fail)))|refine yb2 ?_|rfl)|(simp only [znl,jO];(first|done|fail))|(simp only [↓reduceIte,zlk,Nat.reduceEqDiff,reduceCtorEq])|(with_reducible first|refine jJ ?_ ?_|refine ya5 ?_|refine ju ?_|refine jv ?_|refine jw ?_|refine jx ?_ (by first|rfl|assumption|(simp only [znl,jO];(first|done|fail)))|refine jC ?_ (by first|rfl|assumption|(simp only [znl,jO];(first|done|fail)))))))
    obtain ⟨hk, hn⟩ := hk
    by_cases hlt : k < d.bl.length
    · have hs := hf2 _ (getD_mem' hlt)
      rw [default_str] at hs
      repeat' (first|(with_reducible first|refine yrl (by constructor) ?_|refine jk (fun M hM=>?_)|(refine hM _ ?_;clear hM M)|refine xb3 (by decide) ?_|refine yqa (by assumption) ?_ ?_|refine yqb (by assumption) ?_ ?_)|((with_reducible refine je ?_)<;>(first|rfl|assumption|(simp only [znl,jO];(first|done|fail))))|(with_reducible refine jf (by (simp only [↓reduceIte,zlk,Nat.reduceEqDiff,reduceCtorEq]);exact rfl) ?_)|((with_reducible first|refine jg (fun hc=>?_) (fun hc=>?_)|refine jh (fun hc=>?_) (fun hc=>?_))<;>(try simp (disch:=omega) only [zhb] at hc)<;>(try (exfalso;omega))<;>(try subst hc))|(with_reducible refine ji (by omega) ?_)|(simp (config := { maxSteps := 400000 }) only [↓jt,↓reduceIte,zvs,reduceCtorEq,Nat.reduceEqDiff,Nat.reduceAdd,Nat.reduceLeDiff,Nat.reduceMul,Int.reduceBNe,Int.reduceBEq,Int.reduceEq,Int.reduceNe,Int.reduceLT,Int.reduceLE,Int.reduceGT,Int.reduceGE,Int.reduceNeg,Int.reduceToNat,Nat.reduceLT,Nat.reduceSub,tab,encDr,Try.results112,jTA])|(simp (disch:=omega) only [ziw]))
      · simp only [zrds]
        rw [hR, checkD, if_neg (by omega), if_pos (any_of d.bl _ k hlt (by rw [default_str]; exact decide_eq_true (by omega)))]
      · refine xl1 (k + 1) ?_ ⟨by omega, fun j hj => ?_⟩ (by show d.bl.length - (k + 1) < d.bl.length - k; omega)
        · (refine yrn [(0, 0)] false ?_ ?_<;>(repeat' (first|(with_reducible first|exact ya1|exact ya2|exact ya3|refine jx rfl (by first|rfl|assumption|(simp only [znl,jO];(first|done|fail)))|exact ya5|exact ya7|exact jy|exact jz|refine jA ?_|refine ya9 ?_ ?_ ?_|refine jC rfl (by first|rfl|assumption|(simp only [znl,jO];(first|done|fail)))|refine MR.agg (MRL.cons ?_ ?_)|refine MR.fn ?_|refine MRL.cons ?_ ?_|exact MRL.nil|refine jE ?_ ?_|exact jF|exact jG|refine yb1 ?_ ?_|refine MB.row ?_|refine jI ?_ ?_|exact ya8|refine jJ rfl (by first|rfl|assumption|(simp only [znl,jO];(first|done|fail)))|refine yb2 ?_|rfl)|(simp only [znl,jO];(first|done|fail))|(simp only [↓reduceIte,zlk,Nat.reduceEqDiff,reduceCtorEq])|(with_reducible first|refine jJ ?_ ?_|refine ya5 ?_|refine ju ?_|refine jv ?_|refine jw ?_|refine jx ?_ (by first|rfl|assumption|(simp only [znl,jO];(first|done|fail)))|refine jC ?_ (by first|rfl|assumption|(simp only [znl,jO];(first|done|fail)))))))
        · by_cases e : j = k
          · subst e
            (try rw [default_str]); exact decide_eq_false (by omega)
          · exact hn j (by omega)
    · obtain rfl : k = d.bl.length := by omega
      have hA := any_none d.bl (fun s => decide (s.length ≠ 128)) hn
      rw [checkD, if_neg (by omega), if_neg (by rw [hA]; simp)] at hR
      repeat' (first|(with_reducible first|refine yrl (by constructor) ?_|refine jk (fun M hM=>?_)|(refine hM _ ?_;clear hM M)|refine xb3 (by decide) ?_|refine yqa (by assumption) ?_ ?_|refine yqb (by assumption) ?_ ?_)|((with_reducible refine je ?_)<;>(first|rfl|assumption|(simp only [znl,jO];(first|done|fail))))|(with_reducible refine jf (by (simp only [↓reduceIte,zlk,Nat.reduceEqDiff,reduceCtorEq]);exact rfl) ?_)|((with_reducible first|refine jg (fun hc=>?_) (fun hc=>?_)|refine jh (fun hc=>?_) (fun hc=>?_))<;>(try simp (disch:=omega) only [zhb] at hc)<;>(try (exfalso;omega))<;>(try subst hc))|(with_reducible refine ji (by omega) ?_)|(simp (config := { maxSteps := 400000 }) only [↓jt,↓reduceIte,zvs,reduceCtorEq,Nat.reduceEqDiff,Nat.reduceAdd,Nat.reduceLeDiff,Nat.reduceMul,Int.reduceBNe,Int.reduceBEq,Int.reduceEq,Int.reduceNe,Int.reduceLT,Int.reduceLE,Int.reduceGT,Int.reduceGE,Int.reduceNeg,Int.reduceToNat,Nat.reduceLT,Nat.reduceSub,tab,encDr,Try.results112,jTA])|(simp (disch:=omega) only [ziw]))
      refine ok_loop (fun k : Nat => ⟨slots [(1, .ptr 0 []), (2, .int .i64 0), (23, encWrs d.pe), (24, .int .i64 d.pe.length), (25, .int .i64 k)], rows [(0, .row (.st [.cell, .cell, .cell]) (encDr d))], 1⟩) (fun k => k ≤ d.pe.length ∧ R = checkW d.bl.length (d.pe.drop k)) (fun k => d.pe.length - k) 0 ?_ ⟨Nat.zero_le _, hR⟩ (fun k hk => ?_)
      · (refine yrn [(0, 0)] false ?_ ?_<;>(repeat' (first|(with_reducible first|exact ya1|exact ya2|exact ya3|refine jx rfl (by first|rfl|assumption|(simp only [znl,jO];(first|done|fail)))|exact ya5|exact ya7|exact jy|exact jz|refine jA ?_|refine ya9 ?_ ?_ ?_|refine jC rfl (by first|rfl|assumption|(simp only [znl,jO];(first|done|fail)))|refine MR.agg (MRL.cons ?_ ?_)|refine MR.fn ?_|refine MRL.cons ?_ ?_|exact MRL.nil|refine jE ?_ ?_|exact jF|exact jG|refine yb1 ?_ ?_|refine MB.row ?_|refine jI ?_ ?_|exact ya8|refine jJ rfl (by first|rfl|assumption|(simp only [znl,jO];(first|done|fail)))|refine yb2 ?_|rfl)|(simp only [znl,jO];(first|done|fail))|(simp only [↓reduceIte,zlk,Nat.reduceEqDiff,reduceCtorEq])|(with_reducible first|refine jJ ?_ ?_|refine ya5 ?_|refine ju ?_|refine jv ?_|refine jw ?_|refine jx ?_ (by first|rfl|assumption|(simp only [znl,jO];(first|done|fail)))|refine jC ?_ (by first|rfl|assumption|(simp only [znl,jO];(first|done|fail)))))))
      obtain ⟨hk, hm⟩ := hk
      by_cases hlt : k < d.pe.length
      · have hs := hf4 _ (getD_mem' hlt)
        have hH := has_spec d hf1 (d.pe.getD k default).b
        rw [drop_getD' d.pe k hlt, checkW] at hm
        by_cases hb : 0 ≤ (d.pe.getD k default).b ∧ (d.pe.getD k default).b < d.bl.length
        · rw [decide_eq_true hb.1, decide_eq_true hb.2] at hH
          rw [if_neg (fun h => h hb)] at hm
          repeat' (first|(with_reducible first|refine yrl (by constructor) ?_|refine jk (fun M hM=>?_)|(refine hM _ ?_;clear hM M)|refine xb3 (by decide) ?_|refine yqa (by assumption) ?_ ?_|refine yqb (by assumption) ?_ ?_)|((with_reducible refine je ?_)<;>(first|rfl|assumption|(simp only [znl,jO];(first|done|fail))))|(with_reducible refine jf (by (simp only [↓reduceIte,zlk,Nat.reduceEqDiff,reduceCtorEq]);exact rfl) ?_)|((with_reducible first|refine jg (fun hc=>?_) (fun hc=>?_)|refine jh (fun hc=>?_) (fun hc=>?_))<;>(try simp (disch:=omega) only [zhb] at hc)<;>(try (exfalso;omega))<;>(try subst hc))|(with_reducible refine ji (by omega) ?_)|(simp (config := { maxSteps := 400000 }) only [↓jt,↓reduceIte,zvs,reduceCtorEq,Nat.reduceEqDiff,Nat.reduceAdd,Nat.reduceLeDiff,Nat.reduceMul,Int.reduceBNe,Int.reduceBEq,Int.reduceEq,Int.reduceNe,Int.reduceLT,Int.reduceLE,Int.reduceGT,Int.reduceGE,Int.reduceNeg,Int.reduceToNat,Nat.reduceLT,Nat.reduceSub,tab,encDr,encWr,Try.results112,jTA])|(simp (disch:=omega) only [ziw]))
          · rw [if_pos (by omega)] at hm
            rw [hm]
            simp only [zrds]
          · rw [if_neg (by omega)] at hm
            refine xl1 (k + 1) ?_ ⟨by omega, hm⟩ (by show d.pe.length - (k + 1) < d.pe.length - k; omega)
            (refine yrn [(0, 0)] false ?_ ?_<;>(repeat' (first|(with_reducible first|exact ya1|exact ya2|exact ya3|refine jx rfl (by first|rfl|assumption|(simp only [znl,jO];(first|done|fail)))|exact ya5|exact ya7|exact jy|exact jz|refine jA ?_|refine ya9 ?_ ?_ ?_|refine jC rfl (by first|rfl|assumption|(simp only [znl,jO];(first|done|fail)))|refine MR.agg (MRL.cons ?_ ?_)|refine MR.fn ?_|refine MRL.cons ?_ ?_|exact MRL.nil|refine jE ?_ ?_|exact jF|exact jG|refine yb1 ?_ ?_|refine MB.row ?_|refine jI ?_ ?_|exact ya8|refine jJ rfl (by first|rfl|assumption|(simp only [znl,jO];(first|done|fail)))|refine yb2 ?_|rfl)|(simp only [znl,jO];(first|done|fail))|(simp only [↓reduceIte,zlk,Nat.reduceEqDiff,reduceCtorEq])|(with_reducible first|refine jJ ?_ ?_|refine ya5 ?_|refine ju ?_|refine jv ?_|refine jw ?_|refine jx ?_ (by first|rfl|assumption|(simp only [znl,jO];(first|done|fail)))|refine jC ?_ (by first|rfl|assumption|(simp only [znl,jO];(first|done|fail)))))))
        · have e : (decide (0 ≤ (d.pe.getD k default).b) && decide ((d.pe.getD k default).b < d.bl.length)) = false := by rw [← Bool.decide_and]; exact decide_eq_false hb
          rw [e] at hH
          rw [if_pos hb] at hm
          repeat' (first|(with_reducible first|refine yrl (by constructor) ?_|refine jk (fun M hM=>?_)|(refine hM _ ?_;clear hM M)|refine xb3 (by decide) ?_|refine yqa (by assumption) ?_ ?_|refine yqb (by assumption) ?_ ?_)|((with_reducible refine je ?_)<;>(first|rfl|assumption|(simp only [znl,jO];(first|done|fail))))|(with_reducible refine jf (by (simp only [↓reduceIte,zlk,Nat.reduceEqDiff,reduceCtorEq]);exact rfl) ?_)|((with_reducible first|refine jg (fun hc=>?_) (fun hc=>?_)|refine jh (fun hc=>?_) (fun hc=>?_))<;>(try simp (disch:=omega) only [zhb] at hc)<;>(try (exfalso;omega))<;>(try subst hc))|(with_reducible refine ji (by omega) ?_)|(simp (config := { maxSteps := 400000 }) only [↓jt,↓reduceIte,zvs,reduceCtorEq,Nat.reduceEqDiff,Nat.reduceAdd,Nat.reduceLeDiff,Nat.reduceMul,Int.reduceBNe,Int.reduceBEq,Int.reduceEq,Int.reduceNe,Int.reduceLT,Int.reduceLE,Int.reduceGT,Int.reduceGE,Int.reduceNeg,Int.reduceToNat,Nat.reduceLT,Nat.reduceSub,tab,encDr,encWr,Try.results112,jTA])|(simp (disch:=omega) only [ziw]))
          rw [hm]
          simp only [zrds]
      · obtain rfl : k = d.pe.length := by omega
        rw [List.drop_length, checkW] at hm
        repeat' (first|(with_reducible first|refine yrl (by constructor) ?_|refine jk (fun M hM=>?_)|(refine hM _ ?_;clear hM M)|refine xb3 (by decide) ?_|refine yqa (by assumption) ?_ ?_|refine yqb (by assumption) ?_ ?_)|((with_reducible refine je ?_)<;>(first|rfl|assumption|(simp only [znl,jO];(first|done|fail))))|(with_reducible refine jf (by (simp only [↓reduceIte,zlk,Nat.reduceEqDiff,reduceCtorEq]);exact rfl) ?_)|((with_reducible first|refine jg (fun hc=>?_) (fun hc=>?_)|refine jh (fun hc=>?_) (fun hc=>?_))<;>(try simp (disch:=omega) only [zhb] at hc)<;>(try (exfalso;omega))<;>(try subst hc))|(with_reducible refine ji (by omega) ?_)|(simp (config := { maxSteps := 400000 }) only [↓jt,↓reduceIte,zvs,reduceCtorEq,Nat.reduceEqDiff,Nat.reduceAdd,Nat.reduceLeDiff,Nat.reduceMul,Int.reduceBNe,Int.reduceBEq,Int.reduceEq,Int.reduceNe,Int.reduceLT,Int.reduceLE,Int.reduceGT,Int.reduceGE,Int.reduceNeg,Int.reduceToNat,Nat.reduceLT,Nat.reduceSub,tab,encDr,Try.results112,jTA])|(simp (disch:=omega) only [ziw]))
        simp only [zrds]
        rw [hm]
end Go.Proofs.Ytpdhdkpebbfnnaa.V
end
section
namespace Go.Proofs.Ytpdhdkpebbfnnaa.V
open Go
set_option maxRecDepth 100000
set_option maxHeartbeats 1000000
def zeros : List UInt8 := List.replicate 128 0
def drV (x : Dr × Int) : VV := .tup [encDr x.1, .int .i64 x.2]
def getP (pe : List Wr) (i : Int) (s : List UInt8) : List UInt8 := pe.foldl (fun s w => if w.b = i then w.d else s) s
end Go.Proofs.Ytpdhdkpebbfnnaa.V
end
section
namespace Go.Proofs.Ytpdhdkpebbfnnaa.V
open Go
set_option maxRecDepth 100000
set_option maxHeartbeats 1000000
structure Fdd where
  kind : Int
  n : Int
  pos : Int
deriving DecidableEq
instance : Inhabited Fdd := ⟨⟨0, 0, 0⟩⟩
deriving instance DecidableEq for Pte
structure Pr where
  pid : Int
  par : Int
  st : Int
  rs : List Int
  pc : Int
  sp : List Pte
  fds : List Fdd
  mask : Bool
  code : Int
  why : Int
  n : Int
deriving DecidableEq
instance : Inhabited Pr := ⟨⟨0, 0, 0, [], 0, [], [], false, 0, 0, 0⟩⟩
structure Pip where
  id : Int
  d : List UInt8
deriving DecidableEq
instance : Inhabited Pip := ⟨⟨0, []⟩⟩
structure Mach where
  clock : Int
  quantum : Int
  cur : Int
  left : Int
  fr : Frames
  pr : List Pr
  next : Int
  init : List UInt8
  pipes : List Pip
  newp : Int
  inp : List UInt8
  fin : Bool
  told : Int
  dr : Dr
  dirty : List Wr
def encFd (f : Fdd) : VV := .agg [.int .i64 f.kind, .int .i64 f.n, .int .i64 f.pos]
def encPr (p : Pr) : VV := .agg [.int .i64 p.pid, .int .i64 p.par, .int .i64 p.st, .agg [.agg (p.rs.map (.int .u32)), .int .u32 p.pc], .agg (p.sp.map encPte), .agg (p.fds.map encFd), .bool p.mask, .int .u32 p.code, .int .i64 p.why, .int .u64 p.n]
def encPi (p : Pip) : VV := .agg [.int .i64 p.id, .str p.d]
abbrev pteSh : Sh := .st [.cell, .cell, .cell]
abbrev prSh : Sh := .st [.cell, .cell, .cell, .st [.arr 16 .cell, .cell], .arr 16 pteSh, .arr 8 pteSh, .cell, .cell, .cell, .cell]
abbrev piSh : Sh := .st [.cell, .cell]
abbrev encPrs (l : List Pr) : VV := .dat prSh (l.map encPr)
abbrev encPis (l : List Pip) : VV := .dat piSh (l.map encPi)
abbrev encM (m : Mach) : VV := .agg [.int .u64 m.clock, .int .i64 m.quantum, .int .i64 m.cur, .int .i64 m.left, encStrs m.fr, encPrs m.pr, .int .i64 m.next, .str m.init, encPis m.pipes, .int .i64 m.newp, .str m.inp, .bool m.fin, .int .u64 m.told, encDr m.dr, encWrs m.dirty]
theorem hasFd (f : Fdd) : Has pteSh (encFd f) := by simp [encFd, Has, HasL, VV.leaf]
theorem hasFds (l : List Fdd) (h : l.length = 8) : Has (.arr 8 pteSh) (.agg (l.map encFd)) := has_arrMap h hasFd
theorem hasRs (l : List Int) (h : l.length = 16) : Has (.arr 16 .cell) (.agg (l.map (.int .u32))) := has_arrMap h (fun x => by simp [Has, VV.leaf])
def i64R (x : Int) : Prop := -9223372036854775808 ≤ x ∧ x ≤ 9223372036854775807
def u64R (x : Int) : Prop := 0 ≤ x ∧ x ≤ 18446744073709551615
def u32R (x : Int) : Prop := 0 ≤ x ∧ x ≤ 4294967295
def fdR (f : Fdd) : Prop := i64R f.kind ∧ i64R f.n ∧ i64R f.pos
structure PrR (p : Pr) : Prop where
  pid : i64R p.pid
  par : i64R p.par
  st : i64R p.st
  rs : p.rs.length = 16
  rsR : ∀ x ∈ p.rs, u32R x
  pc : u32R p.pc
  sp : p.sp.length = 16
  spR : ∀ x ∈ p.sp, i64R x.fr
  fds : p.fds.length = 8
  fdsR : ∀ x ∈ p.fds, fdR x
  code : u32R p.code
  why : i64R p.why
  n : u64R p.n
theorem jS (l : List Fdd) : nls (l.map encFd) = true := nls_map _ (fun _ => rfl) l
theorem jQ (l : List Pip) : nls (l.map encPi) = true := nls_map _ (fun _ => rfl) l
theorem jT (l : List Int) : nls (l.map (.int .u32)) = true := nls_map _ (fun _ => rfl) l
theorem jU (p : Pr) : nl (encPr p) = true := by
  simp only [encPr,nl,nls,jS,jR,jT,Bool.and_self]
theorem jP (l : List Pr) : nls (l.map encPr) = true := nls_map _ jU l
structure MFit (N : Nat) (m : Mach) : Prop where
  clock : u64R m.clock
  quantum : i64R m.quantum
  cur : i64R m.cur
  left : i64R m.left
  fr : m.fr.length ≤ N
  frS : ∀ s ∈ m.fr, s.length ≤ N
  pr : m.pr.length ≤ N
  prR : ∀ p ∈ m.pr, PrR p
  next : i64R m.next
  init : m.init.length ≤ N
  pipes : m.pipes.length ≤ N
  pipesR : ∀ p ∈ m.pipes, i64R p.id ∧ p.d.length ≤ N
  newp : i64R m.newp
  inp : m.inp.length ≤ N
  told : u64R m.told
  bl : m.dr.bl.length ≤ N
  blS : ∀ s ∈ m.dr.bl, s.length ≤ N
  pe : m.dr.pe.length ≤ N
  peS : ∀ w ∈ m.dr.pe, i64R w.b ∧ w.d.length ≤ N
  dleft : i64R m.dr.left
  dirty : m.dirty.length ≤ N
  dirtyS : ∀ w ∈ m.dirty, i64R w.b ∧ w.d.length ≤ N
end Go.Proofs.Ytpdhdkpebbfnnaa.V
end
section
namespace Go.Proofs.Ytpdhdkpebbfnnaa.V
open Go
set_option maxRecDepth 100000
set_option maxHeartbeats 1000000
def sizeM (m : Mach) : Nat := m.fr.length + m.pr.length + m.pipes.length + m.dirty.length + m.dr.bl.length + m.dr.pe.length + (m.inp.length + m.init.length) / 64
def greatM (m : Mach) : Bool := decide (250 < sizeM m) || decide (12 < m.pr.length) || m.fr.any (longB 300) || m.dr.bl.any (longB 300) || (m.dirty.any fun w => longB 300 w.d) || (m.dr.pe.any fun w => longB 300 w.d) || m.pipes.any fun p => longB 300 p.d
def livesP (p : Pr) : Bool := decide (p.st = 1) || decide (p.st = 2)
def livesB (l : List Pr) (pid : Int) : Bool := l.any fun p => decide (p.pid = pid) && livesP p
def usersS (f : Int) (s : List Pte) : Nat := s.countP fun x => x.is && decide (x.fr = f)
def usersN (l : List Pr) (f : Int) : Nat := (l.map fun p => usersS f p.sp).sum
theorem usersS_snoc (f : Int) (s : List Pte) (x : Pte) : usersS f (s ++ [x]) = usersS f s + if x.is = true ∧ x.fr = f then 1 else 0 := by
  simp only [usersS,List.countP_append,List.countP_cons,List.countP_nil,Nat.zero_add]
  congr 1
  by_cases h1 : x.is = true <;> by_cases h2 : x.fr = f <;> simp [h1, h2]
theorem usersS_le (f : Int) (s : List Pte) : usersS f s ≤ s.length := List.countP_le_length
theorem usersN_snoc (l : List Pr) (p : Pr) (f : Int) : usersN (l ++ [p]) f = usersN l f + usersS f p.sp := by
  simp [usersN]
theorem usersN_le (f : Int) : ∀ (l : List Pr), (∀ p ∈ l, p.sp.length = 16) → usersN l f ≤ 16 * l.length
  | [], _ => Nat.le_refl _
  | p :: l, h => by
    have h1 := usersN_le f l fun q hq => h q (by simp [hq])
    have h2 := usersS_le f p.sp
    have h3 := h p (by simp)
    have e : usersN (p :: l) f = usersS f p.sp + usersN l f := by simp [usersN]
    rw [e, List.length_cons]
    omega
def pipeO (l : List Pip) (id : Int) : Option Pip := l.find? fun p => decide (p.id = id)
def fdB (l : List Pip) (f : Fdd) : Bool :=
  if f.kind = 0 ∨ f.kind = 1 ∨ f.kind = 2 then decide (f.n = 0 ∧ f.pos = 0)
  else if f.kind = 3 then decide (1 ≤ f.n ∧ f.n ≤ 64 ∧ 0 ≤ f.pos ∧ f.pos ≤ 8960)
  else if f.kind = 4 ∨ f.kind = 5 then decide (f.pos = 0) && (pipeO l f.n).isSome
  else false
def pteB (m : Mach) (p : Pr) (x : Pte) : Bool :=
  if x.is = true then decide (p.st ≠ 3 ∧ 0 ≤ x.fr ∧ x.fr < m.fr.length ∧ usersN m.pr x.fr = 1) else decide (x.wr = false ∧ x.fr = 0)
def procH (m : Mach) (p : Pr) : Bool :=
  if p.pid < 1 ∨ m.next ≤ p.pid ∨ (p.st ≠ 1 ∧ p.st ≠ 2 ∧ p.st ≠ 3) ∨ p.rs.getD 0 0 ≠ 0 then false
  else if livesB m.pr p.par = false ∧ (p.st = 3 ∨ p.par ≠ 0) then false
  else if ¬(p.st = 2 ↔ p.why ≠ 0) ∨ p.why < 0 ∨ 5 < p.why ∨ (p.st ≠ 2 ∧ p.n ≠ 0) ∨ (p.st ≠ 3 ∧ p.code ≠ 0) then false
  else true
def fdsB (m : Mach) (p : Pr) (f : Fdd) : Bool := fdB m.pipes f && !(decide (p.st = 3) && decide (f.kind ≠ 0))
def procB (m : Mach) (p : Pr) : Bool := procH m p && p.sp.all (pteB m p) && p.fds.all (fdsB m p)
def numB (m : Mach) : Bool := decide (m.quantum < 1 ∨ 1000 < m.quantum ∨ m.left < 0 ∨ m.quantum < m.left ∨ m.cur < 0 ∨ m.next < 1 ∨ 1000000000 < m.next ∨ m.newp < 1 ∨ 1000000000 < m.newp)
def procsB (m : Mach) : Bool := (List.range m.pr.length).all fun i => !(decide (0 < i) && decide ((m.pr.getD i default).pid ≤ (m.pr.getD (i - 1) default).pid)) && procB m (m.pr.getD i default)
def pipeB (m : Mach) (i : Nat) : Bool := !(decide ((m.pipes.getD i default).id < 1) || decide (m.newp ≤ (m.pipes.getD i default).id) || (decide (0 < i) && decide ((m.pipes.getD i default).id ≤ (m.pipes.getD (i - 1) default).id)) || longB 64 (m.pipes.getD i default).d)
def pipesB (m : Mach) : Bool := (List.range m.pipes.length).all (pipeB m)
def homeB (d : Dr) (i : Nat) : List UInt8 := getP d.pe ((33 + i : Nat) : Int) (d.bl.getD (33 + i) [])
def homeD (d : Dr) : Frames := if checkD d = 0 ∧ 33 < d.bl.length then (List.range (d.bl.length - 33)).map (homeB d) else []
def bitB (s : List UInt8) (i : Nat) : Bool := bits BinOp.and IntKind.u8 (((s.getD ((i : Int) / 8).toNat 0).toNat : Int).fdiv (2 ^ min ((i : Int) % 8).toNat IntKind.u8.bits)) 1 == 1
structure Geo where
  bl : Int
  ino : Int
  quo : Int
  map : Int
  tab : Int
  dat : Int
deriving DecidableEq
def planG (b i : Int) : Geo × Int := if b < 16 ∨ 223 < b ∨ i < 4 ∨ 64 < i then (⟨0, 0, 0, 0, 0, 0⟩, 2) else if b ≤ 3 + (i + 1) / 2 then (⟨0, 0, 0, 0, 0, 0⟩, 10) else (⟨b, i, 1, 2, 3, 3 + (i + 1) / 2⟩, 0)
def headG (b i : Int) : List UInt8 := [104, 105, 98, 49] ++ putLE b.toNat 2 ++ putLE i.toNat 2 ++ List.replicate 120 0
def volE (v : Frames) : Int :=
  if v.length < 16 then 3
  else if (v.any fun s => decide (s.length ≠ 128)) = true then 3
  else
    let i : Int := getLE (((v.getD 0 []).drop 6).take 2)
    let g := planG v.length i
    if g.2 ≠ 0 ∨ v.getD 0 [] ≠ headG v.length i then 3
    else if (List.range 1024).all (fun k => !((decide ((k : Int) < g.1.dat) && !bitB (v.getD 2 []) k) || (decide (g.1.bl ≤ k) && bitB (v.getD 2 []) k))) = true then 0 else 3
def wrV (v : Frames) (w : Wr) : Frames := if 0 ≤ w.b ∧ w.b < v.length then v.set w.b.toNat w.d else v
def volM (m : Mach) : Frames := m.dirty.foldl wrV (homeD m.dr)
def dirtyE (v : Frames) (l : List Wr) : Bool := (List.range l.length).all fun i => !(decide ((l.getD i default).b < 0) || decide ((v.length : Int) ≤ (l.getD i default).b) || decide ((l.getD i default).d.length ≠ 128) || (decide (0 < i) && decide ((l.getD i default).b ≤ (l.getD (i - 1) default).b)))
def diskE (m : Mach) : Int :=
  if checkD m.dr ≠ 0 then checkD m.dr
  else if homeD m.dr = [] then 3
  else if 32 < m.dirty.length then 6
  else if dirtyE (homeD m.dr) m.dirty = false then 3
  else volE (volM m)
def chkM (m : Mach) : Int :=
  if numB m = true then 2
  else if m.fr.length < 1 ∨ 64 < m.fr.length then 6
  else if (m.fr.any fun s => decide (s.length ≠ 128)) = true then 3
  else if 8 < m.pr.length then 6
  else if procsB m = false then 3
  else if 64 < m.pipes.length then 6
  else if pipesB m = false then 3
  else if 65536 < m.inp.length ∨ 128 < m.init.length then 6
  else diskE m
end Go.Proofs.Ytpdhdkpebbfnnaa.V
end
section
namespace Go.Proofs.Ytpdhdkpebbfnnaa.V
open Go
set_option maxRecDepth 100000
set_option maxHeartbeats 1000000
abbrev machSh : Sh := .st [.cell, .cell, .cell, .cell, .cell, .cell, .cell, .cell, .cell, .cell, .cell, .cell, .cell, .st [.cell, .cell, .cell], .cell]
theorem pr3 {p : Pr} (h : PrR p) : Has (.arr 16 .cell) (.agg (p.rs.map (.int .u32))) ∧ Has (.arr 16 (.st [.cell, .cell, .cell])) (.agg (p.sp.map encPte)) ∧ Has (.arr 8 (.st [.cell, .cell, .cell])) (.agg (p.fds.map encFd)) := ⟨hasRs _ h.rs, hasSpace _ h.sp, hasFds _ h.fds⟩
def livesQ (pid : Int) (p : Pr) : Bool := decide (p.pid = pid) && livesP p
end Go.Proofs.Ytpdhdkpebbfnnaa.V
end
section
namespace Go.Proofs.Ytpdhdkpebbfnnaa.V
open Go
set_option maxRecDepth 100000
def znNA := And.intro @jO <| And.intro @jP <| And.intro @jQ <| And.intro @jR <| And.intro @jS <| And.intro @jT <| And.intro @jU <| True.intro
set_option maxHeartbeats 4000000
theorem great_spec (m : Mach) (hm : MFit (2 ^ 47) m) : Spec Try.prog 36 [encM m] (.int .i64 (if greatM m = true then 1 else 0)) := by
  obtain ⟨R, hR⟩ : ∃ R, R = (if greatM m = true then (1 : Int) else 0) := ⟨_, rfl⟩
  rw [← hR]
  have hT : greatM m = true → R = 1 := fun h => by rw [hR, if_pos h]
  have hF : greatM m = false → R = 0 := fun h => by rw [hR, h]; rfl
  obtain ⟨_, _, _, _, h1, h1s, h2, _, _, h3, h4, h4s, _, h5, _, h6, h6s, h7, h7s, _, h8, h8s⟩ := hm
  have hsz : sizeM m = m.fr.length + m.pr.length + m.pipes.length + m.dirty.length + m.dr.bl.length + m.dr.pe.length + (m.inp.length + m.init.length) / 64 := rfl
  have z0 : ((0 : Nat) : Int) = 0 := rfl
  have z1 : ((1 : Nat) : Int) = 1 := rfl
  refine spec_ok Try.func36 rfl rfl (by kernel_rfl) (k := 1) rfl (by decide) ?_
  by_cases hbig : 250 < sizeM m ∨ 12 < m.pr.length
  · have hG : greatM m = true := by
      unfold greatM
      rcases hbig with h | h
      · rw [decide_eq_true h]; simp
      · rw [decide_eq_true h]; simp
    rw [hT hG]
    repeat' (first|(with_reducible first|refine yrl (by constructor) ?_|refine jk (fun M hM=>?_)|(refine hM _ ?_;clear hM M)|refine xb3 (by decide) ?_|refine yqa (by assumption) ?_ ?_|refine yqb (by assumption) ?_ ?_)|((with_reducible refine je ?_)<;>(first|rfl|assumption|(simp only [znl,znNA];(first|done|fail))))|(with_reducible refine jf (by (simp only [↓reduceIte,zlk,Nat.reduceEqDiff,reduceCtorEq]);exact rfl) ?_)|((with_reducible first|refine jg (fun hc=>?_) (fun hc=>?_)|refine jh (fun hc=>?_) (fun hc=>?_))<;>(try simp (disch:=omega) only [zhb] at hc)<;>(try (exfalso;omega))<;>(try subst hc))|(with_reducible refine ji (by omega) ?_)|(simp (config := { maxSteps := 400000 }) only [↓jt,↓reduceIte,zvs,reduceCtorEq,Nat.reduceEqDiff,Nat.reduceAdd,Nat.reduceLeDiff,Nat.reduceMul,Int.reduceBNe,Int.reduceBEq,Int.reduceEq,Int.reduceNe,Int.reduceLT,Int.reduceLE,Int.reduceGT,Int.reduceGE,Int.reduceNeg,Int.reduceToNat,Nat.reduceLT,Nat.reduceSub,tab,Try.results36,jTA])|(simp (disch:=omega) only [ziw]))
    all_goals first
      | (exfalso; omega)
      | (simp only [zrds]; done)
  have hg1 : decide (250 < sizeM m) = false := decide_eq_false (by omega)
  have hg2 : decide (12 < m.pr.length) = false := decide_eq_false (by omega)
  repeat' (first|(with_reducible first|refine yrl (by constructor) ?_|refine jk (fun M hM=>?_)|(refine hM _ ?_;clear hM M)|refine xb3 (by decide) ?_|refine yqa (by assumption) ?_ ?_|refine yqb (by assumption) ?_ ?_)|((with_reducible refine je ?_)<;>(first|rfl|assumption|(simp only [znl,znNA];(first|done|fail))))|(with_reducible refine jf (by (simp only [↓reduceIte,zlk,Nat.reduceEqDiff,reduceCtorEq]);exact rfl) ?_)|((with_reducible first|refine jg (fun hc=>?_) (fun hc=>?_)|refine jh (fun hc=>?_) (fun hc=>?_))<;>(try simp (disch:=omega) only [zhb] at hc)<;>(try (exfalso;omega))<;>(try subst hc))|(with_reducible refine ji (by omega) ?_)|(simp (config := { maxSteps := 400000 }) only [↓jt,↓reduceIte,zvs,reduceCtorEq,Nat.reduceEqDiff,Nat.reduceAdd,Nat.reduceLeDiff,Nat.reduceMul,Int.reduceBNe,Int.reduceBEq,Int.reduceEq,Int.reduceNe,Int.reduceLT,Int.reduceLE,Int.reduceGT,Int.reduceGE,Int.reduceNeg,Int.reduceToNat,Nat.reduceLT,Nat.reduceSub,tab,Try.results36,jTA])|(simp (disch:=omega) only [ziw]))
  all_goals (try (exfalso; omega))
  refine ok_loop (fun i : Nat => ⟨slots [(1, .ptr 0 []), (2, .int .i64 0), (61, .sl (some (1, [], 0)) 2), (62, .int .i64 2), (63, .int .i64 i)], rows [(0, .row machSh (encM m)), (1, .row (.arr 2 .cell) (.agg [encStrs m.fr, encStrs m.dr.bl]))], 2⟩)
    (fun i => i ≤ 2 ∧ (0 < i → m.fr.any (longB 300) = false) ∧ (1 < i → m.dr.bl.any (longB 300) = false)) (fun i => 2 - i) 0 ?_ ⟨by omega, fun h => by omega, fun h => by omega⟩ (fun i hi => ?_)
  · (refine yrn [(0, 0), (1, 1)] false ?_ ?_<;>(repeat' (first|(with_reducible first|exact ya1|exact ya2|exact ya3|refine jx rfl (by first|rfl|assumption|(simp only [znl,znNA];(first|done|fail)))|exact ya5|exact ya7|exact jy|exact jz|refine jA ?_|refine ya9 ?_ ?_ ?_|refine jC rfl (by first|rfl|assumption|(simp only [znl,znNA];(first|done|fail)))|refine MR.agg (MRL.cons ?_ ?_)|refine MR.fn ?_|refine MRL.cons ?_ ?_|exact MRL.nil|refine jE ?_ ?_|exact jF|exact jG|refine yb1 ?_ ?_|refine MB.row ?_|refine jI ?_ ?_|exact ya8|refine jJ rfl (by first|rfl|assumption|(simp only [znl,znNA];(first|done|fail)))|refine yb2 ?_|rfl)|(simp only [znl,znNA];(first|done|fail))|(simp only [↓reduceIte,zlk,Nat.reduceEqDiff,reduceCtorEq])|(with_reducible first|refine jJ ?_ ?_|refine ya5 ?_|refine ju ?_|refine jv ?_|refine jw ?_|refine jx ?_ (by first|rfl|assumption|(simp only [znl,znNA];(first|done|fail)))|refine jC ?_ (by first|rfl|assumption|(simp only [znl,znNA];(first|done|fail)))))))
    all_goals (first | rfl | (simp; done))
  obtain ⟨hi, hA, hB⟩ := hi
  by_cases hi2 : i = 2
  · subst hi2
    have hA := hA (by omega)
    have hB := hB (by omega)
    have z2 : ((2 : Nat) : Int) = 2 := rfl
    repeat' (first|(with_reducible first|refine yrl (by constructor) ?_|refine jk (fun M hM=>?_)|(refine hM _ ?_;clear hM M)|refine xb3 (by decide) ?_|refine yqa (by assumption) ?_ ?_|refine yqb (by assumption) ?_ ?_)|((with_reducible refine je ?_)<;>(first|rfl|assumption|(simp only [znl,znNA];(first|done|fail))))|(with_reducible refine jf (by (simp only [↓reduceIte,zlk,Nat.reduceEqDiff,reduceCtorEq]);exact rfl) ?_)|((with_reducible first|refine jg (fun hc=>?_) (fun hc=>?_)|refine jh (fun hc=>?_) (fun hc=>?_))<;>(try simp (disch:=omega) only [zhb] at hc)<;>(try (exfalso;omega))<;>(try subst hc))|(with_reducible refine ji (by omega) ?_)|(simp (config := { maxSteps := 400000 }) only [↓jt,↓reduceIte,zvs,reduceCtorEq,Nat.reduceEqDiff,Nat.reduceAdd,Nat.reduceLeDiff,Nat.reduceMul,Int.reduceBNe,Int.reduceBEq,Int.reduceEq,Int.reduceNe,Int.reduceLT,Int.reduceLE,Int.reduceGT,Int.reduceGE,Int.reduceNeg,Int.reduceToNat,Nat.reduceLT,Nat.reduceSub,tab,z2,Try.results36,jTA])|(simp (disch:=omega) only [ziw]))
    refine ok_loop (fun i : Nat => ⟨slots [(1, .ptr 0 []), (2, .int .i64 0), (83, .sl (some (2, [], 0)) 2), (84, .int .i64 2), (85, .int .i64 i)], rows [(0, .row machSh (encM m)), (2, .row (.arr 2 .cell) (.agg [encWrs m.dirty, encWrs m.dr.pe]))], 3⟩)
      (fun i => i ≤ 2 ∧ (0 < i → (m.dirty.any fun w => longB 300 w.d) = false) ∧ (1 < i → (m.dr.pe.any fun w => longB 300 w.d) = false)) (fun i => 2 - i) 0 ?_ ⟨by omega, fun h => by omega, fun h => by omega⟩ (fun i hi => ?_)
    · (refine yrn [(0, 0), (2, 2)] false ?_ ?_<;>(repeat' (first|(with_reducible first|exact ya1|exact ya2|exact ya3|refine jx rfl (by first|rfl|assumption|(simp only [znl,znNA];(first|done|fail)))|exact ya5|exact ya7|exact jy|exact jz|refine jA ?_|refine ya9 ?_ ?_ ?_|refine jC rfl (by first|rfl|assumption|(simp only [znl,znNA];(first|done|fail)))|refine MR.agg (MRL.cons ?_ ?_)|refine MR.fn ?_|refine MRL.cons ?_ ?_|exact MRL.nil|refine jE ?_ ?_|exact jF|exact jG|refine yb1 ?_ ?_|refine MB.row ?_|refine jI ?_ ?_|exact ya8|refine jJ rfl (by first|rfl|assumption|(simp only [znl,znNA];(first|done|fail)))|refine yb2 ?_|rfl)|(simp only [znl,znNA];(first|done|fail))|(simp only [↓reduceIte,zlk,Nat.reduceEqDiff,reduceCtorEq])|(with_reducible first|refine jJ ?_ ?_|refine ya5 ?_|refine ju ?_|refine jv ?_|refine jw ?_|refine jx ?_ (by first|rfl|assumption|(simp only [znl,znNA];(first|done|fail)))|refine jC ?_ (by first|rfl|assumption|(simp only [znl,znNA];(first|done|fail)))))))
      all_goals (first | rfl | (simp; done))
    obtain ⟨hi, hC, hD⟩ := hi
    by_cases hi2 : i = 2
    · subst hi2
      have hC := hC (by omega)
      have hD := hD (by omega)
      repeat' (first|(with_reducible first|refine yrl (by constructor) ?_|refine jk (fun M hM=>?_)|(refine hM _ ?_;clear hM M)|refine xb3 (by decide) ?_|refine yqa (by assumption) ?_ ?_|refine yqb (by assumption) ?_ ?_)|((with_reducible refine je ?_)<;>(first|rfl|assumption|(simp only [znl,znNA];(first|done|fail))))|(with_reducible refine jf (by (simp only [↓reduceIte,zlk,Nat.reduceEqDiff,reduceCtorEq]);exact rfl) ?_)|((with_reducible first|refine jg (fun hc=>?_) (fun hc=>?_)|refine jh (fun hc=>?_) (fun hc=>?_))<;>(try simp (disch:=omega) only [zhb] at hc)<;>(try (exfalso;omega))<;>(try subst hc))|(with_reducible refine ji (by omega) ?_)|(simp (config := { maxSteps := 400000 }) only [↓jt,↓reduceIte,zvs,reduceCtorEq,Nat.reduceEqDiff,Nat.reduceAdd,Nat.reduceLeDiff,Nat.reduceMul,Int.reduceBNe,Int.reduceBEq,Int.reduceEq,Int.reduceNe,Int.reduceLT,Int.reduceLE,Int.reduceGT,Int.reduceGE,Int.reduceNeg,Int.reduceToNat,Nat.reduceLT,Nat.reduceSub,tab,z2,Try.results36,jTA])|(simp (disch:=omega) only [ziw]))
      refine ok_loop (fun k : Nat => ⟨slots [(1, .ptr 0 []), (2, .int .i64 0), (102, encPis m.pipes), (103, .int .i64 m.pipes.length), (104, .int .i64 k)], rows [(0, .row machSh (encM m))], 1⟩) (fun k => k ≤ m.pipes.length ∧ ∀ j, j < k → longB 300 (m.pipes.getD j default).d = false) (fun k => m.pipes.length - k) 0 ?_ ⟨Nat.zero_le _, fun j hj => by omega⟩ (fun k hk => ?_)
      · (refine yrn [(0, 0)] false ?_ ?_<;>(repeat' (first|(with_reducible first|exact ya1|exact ya2|exact ya3|refine jx rfl (by first|rfl|assumption|(simp only [znl,znNA];(first|done|fail)))|exact ya5|exact ya7|exact jy|exact jz|refine jA ?_|refine ya9 ?_ ?_ ?_|refine jC rfl (by first|rfl|assumption|(simp only [znl,znNA];(first|done|fail)))|refine MR.agg (MRL.cons ?_ ?_)|refine MR.fn ?_|refine MRL.cons ?_ ?_|exact MRL.nil|refine jE ?_ ?_|exact jF|exact jG|refine yb1 ?_ ?_|refine MB.row ?_|refine jI ?_ ?_|exact ya8|refine jJ rfl (by first|rfl|assumption|(simp only [znl,znNA];(first|done|fail)))|refine yb2 ?_|rfl)|(simp only [znl,znNA];(first|done|fail))|(simp only [↓reduceIte,zlk,Nat.reduceEqDiff,reduceCtorEq])|(with_reducible first|refine jJ ?_ ?_|refine ya5 ?_|refine ju ?_|refine jv ?_|refine jw ?_|refine jx ?_ (by first|rfl|assumption|(simp only [znl,znNA];(first|done|fail)))|refine jC ?_ (by first|rfl|assumption|(simp only [znl,znNA];(first|done|fail)))))))
      obtain ⟨hk, hn⟩ := hk
      by_cases hlt : k < m.pipes.length
      · have hs := (h4s _ (getD_mem' hlt)).2
        repeat' (first|(with_reducible first|refine yrl (by constructor) ?_|refine jk (fun M hM=>?_)|(refine hM _ ?_;clear hM M)|refine xb3 (by decide) ?_|refine yqa (by assumption) ?_ ?_|refine yqb (by assumption) ?_ ?_)|((with_reducible refine je ?_)<;>(first|rfl|assumption|(simp only [znl,znNA];(first|done|fail))))|(with_reducible refine jf (by (simp only [↓reduceIte,zlk,Nat.reduceEqDiff,reduceCtorEq]);exact rfl) ?_)|((with_reducible first|refine jg (fun hc=>?_) (fun hc=>?_)|refine jh (fun hc=>?_) (fun hc=>?_))<;>(try simp (disch:=omega) only [zhb] at hc)<;>(try (exfalso;omega))<;>(try subst hc))|(with_reducible refine ji (by omega) ?_)|(simp (config := { maxSteps := 400000 }) only [↓jt,↓reduceIte,zvs,reduceCtorEq,Nat.reduceEqDiff,Nat.reduceAdd,Nat.reduceLeDiff,Nat.reduceMul,Int.reduceBNe,Int.reduceBEq,Int.reduceEq,Int.reduceNe,Int.reduceLT,Int.reduceLE,Int.reduceGT,Int.reduceGE,Int.reduceNeg,Int.reduceToNat,Nat.reduceLT,Nat.reduceSub,tab,encPi,Try.results36,jTA])|(simp (disch:=omega) only [ziw]))
        all_goals first
          | (exfalso; omega)
          | (rw [hT (by unfold greatM; rw [any_of m.pipes (fun p => longB 300 p.d) k hlt (by simp only [longB]; exact decide_eq_true (by omega))]; simp)]; simp only [zrds]; done)
          | (refine xl1 (k + 1) ?_ ⟨by omega, fun j hj => ?_⟩ (by show m.pipes.length - (k + 1) < m.pipes.length - k; omega) <;> first | (by_cases e : j = k; (rw [e]; simp only [longB]; exact decide_eq_false (by omega)); exact hn j (by omega)) | ((refine yrn [(0, 0)] false ?_ ?_<;>(repeat' (first|(with_reducible first|exact ya1|exact ya2|exact ya3|refine jx rfl (by first|rfl|assumption|(simp only [znl,znNA];(first|done|fail)))|exact ya5|exact ya7|exact jy|exact jz|refine jA ?_|refine ya9 ?_ ?_ ?_|refine jC rfl (by first|rfl|assumption|(simp only [znl,znNA];(first|done|fail)))|refine MR.agg (MRL.cons ?_ ?_)|refine MR.fn ?_|refine MRL.cons ?_ ?_|exact MRL.nil|refine jE ?_ ?_|exact jF|exact jG|refine yb1 ?_ ?_|refine MB.row ?_|refine jI ?_ ?_|exact ya8|refine jJ rfl (by first|rfl|assumption|(simp only [znl,znNA];(first|done|fail)))|refine yb2 ?_|rfl)|(simp only [znl,znNA];(first|done|fail))|(simp only [↓reduceIte,zlk,Nat.reduceEqDiff,reduceCtorEq])|(with_reducible first|refine jJ ?_ ?_|refine ya5 ?_|refine ju ?_|refine jv ?_|refine jw ?_|refine jx ?_ (by first|rfl|assumption|(simp only [znl,znNA];(first|done|fail)))|refine jC ?_ (by first|rfl|assumption|(simp only [znl,znNA];(first|done|fail))))))); done))
      · obtain rfl : k = m.pipes.length := by omega
        have hE := any_none m.pipes (fun p => longB 300 p.d) hn
        rw [hF (by unfold greatM; rw [hg1, hg2, hA, hB, hC, hD, hE]; rfl)]
        repeat' (first|(with_reducible first|refine yrl (by constructor) ?_|refine jk (fun M hM=>?_)|(refine hM _ ?_;clear hM M)|refine xb3 (by decide) ?_|refine yqa (by assumption) ?_ ?_|refine yqb (by assumption) ?_ ?_)|((with_reducible refine je ?_)<;>(first|rfl|assumption|(simp only [znl,znNA];(first|done|fail))))|(with_reducible refine jf (by (simp only [↓reduceIte,zlk,Nat.reduceEqDiff,reduceCtorEq]);exact rfl) ?_)|((with_reducible first|refine jg (fun hc=>?_) (fun hc=>?_)|refine jh (fun hc=>?_) (fun hc=>?_))<;>(try simp (disch:=omega) only [zhb] at hc)<;>(try (exfalso;omega))<;>(try subst hc))|(with_reducible refine ji (by omega) ?_)|(simp (config := { maxSteps := 400000 }) only [↓jt,↓reduceIte,zvs,reduceCtorEq,Nat.reduceEqDiff,Nat.reduceAdd,Nat.reduceLeDiff,Nat.reduceMul,Int.reduceBNe,Int.reduceBEq,Int.reduceEq,Int.reduceNe,Int.reduceLT,Int.reduceLE,Int.reduceGT,Int.reduceGE,Int.reduceNeg,Int.reduceToNat,Nat.reduceLT,Nat.reduceSub,tab,Try.results36,jTA])|(simp (disch:=omega) only [ziw]))
        all_goals simp only [zrds]
    · by_cases hi0 : i = 0
      · have e : i = 0 := by omega
        subst e
        have z0' := z0
        repeat' (first|(with_reducible first|refine yrl (by constructor) ?_|refine jk (fun M hM=>?_)|(refine hM _ ?_;clear hM M)|refine xb3 (by decide) ?_|refine yqa (by assumption) ?_ ?_|refine yqb (by assumption) ?_ ?_)|((with_reducible refine je ?_)<;>(first|rfl|assumption|(simp only [znl,znNA];(first|done|fail))))|(with_reducible refine jf (by (simp only [↓reduceIte,zlk,Nat.reduceEqDiff,reduceCtorEq]);exact rfl) ?_)|((with_reducible first|refine jg (fun hc=>?_) (fun hc=>?_)|refine jh (fun hc=>?_) (fun hc=>?_))<;>(try simp (disch:=omega) only [zhb] at hc)<;>(try (exfalso;omega))<;>(try subst hc))|(with_reducible refine ji (by omega) ?_)|(simp (config := { maxSteps := 400000 }) only [↓jt,↓reduceIte,zvs,reduceCtorEq,Nat.reduceEqDiff,Nat.reduceAdd,Nat.reduceLeDiff,Nat.reduceMul,Int.reduceBNe,Int.reduceBEq,Int.reduceEq,Int.reduceNe,Int.reduceLT,Int.reduceLE,Int.reduceGT,Int.reduceGE,Int.reduceNeg,Int.reduceToNat,Nat.reduceLT,Nat.reduceSub,tab,z0,z1,Try.results36,jTA])|(simp (disch:=omega) only [ziw]))
        refine ok_loop (fun k : Nat => ⟨slots [(1, .ptr 0 []), (2, .int .i64 0), (83, .sl (some (2, [], 0)) 2), (84, .int .i64 2), (85, .int .i64 0), (89, encWrs m.dirty), (90, .int .i64 m.dirty.length), (91, .int .i64 k)], rows [(0, .row machSh (encM m)), (2, .row (.arr 2 .cell) (.agg [encWrs m.dirty, encWrs m.dr.pe]))], 3⟩) (fun k => k ≤ m.dirty.length ∧ ∀ j, j < k → longB 300 ((m.dirty.getD j default).d) = false) (fun k => m.dirty.length - k) 0 ?_ ⟨Nat.zero_le _, fun j hj => by omega⟩ (fun k hk => ?_)
        · (refine yrn [(0, 0), (2, 2)] false ?_ ?_<;>(repeat' (first|(with_reducible first|exact ya1|exact ya2|exact ya3|refine jx rfl (by first|rfl|assumption|(simp only [znl,znNA];(first|done|fail)))|exact ya5|exact ya7|exact jy|exact jz|refine jA ?_|refine ya9 ?_ ?_ ?_|refine jC rfl (by first|rfl|assumption|(simp only [znl,znNA];(first|done|fail)))|refine MR.agg (MRL.cons ?_ ?_)|refine MR.fn ?_|refine MRL.cons ?_ ?_|exact MRL.nil|refine jE ?_ ?_|exact jF|exact jG|refine yb1 ?_ ?_|refine MB.row ?_|refine jI ?_ ?_|exact ya8|refine jJ rfl (by first|rfl|assumption|(simp only [znl,znNA];(first|done|fail)))|refine yb2 ?_|rfl)|(simp only [znl,znNA];(first|done|fail))|(simp only [↓reduceIte,zlk,Nat.reduceEqDiff,reduceCtorEq])|(with_reducible first|refine jJ ?_ ?_|refine ya5 ?_|refine ju ?_|refine jv ?_|refine jw ?_|refine jx ?_ (by first|rfl|assumption|(simp only [znl,znNA];(first|done|fail)))|refine jC ?_ (by first|rfl|assumption|(simp only [znl,znNA];(first|done|fail)))))))
          all_goals (first | rfl | (simp; done))
        obtain ⟨hk, hn⟩ := hk
        by_cases hlt : k < m.dirty.length
        · have hs := (h8s _ (getD_mem' hlt)).2
          try rw [default_str] at hs
          repeat' (first|(with_reducible first|refine yrl (by constructor) ?_|refine jk (fun M hM=>?_)|(refine hM _ ?_;clear hM M)|refine xb3 (by decide) ?_|refine yqa (by assumption) ?_ ?_|refine yqb (by assumption) ?_ ?_)|((with_reducible refine je ?_)<;>(first|rfl|assumption|(simp only [znl,znNA];(first|done|fail))))|(with_reducible refine jf (by (simp only [↓reduceIte,zlk,Nat.reduceEqDiff,reduceCtorEq]);exact rfl) ?_)|((with_reducible first|refine jg (fun hc=>?_) (fun hc=>?_)|refine jh (fun hc=>?_) (fun hc=>?_))<;>(try simp (disch:=omega) only [zhb] at hc)<;>(try (exfalso;omega))<;>(try subst hc))|(with_reducible refine ji (by omega) ?_)|(simp (config := { maxSteps := 400000 }) only [↓jt,↓reduceIte,zvs,reduceCtorEq,Nat.reduceEqDiff,Nat.reduceAdd,Nat.reduceLeDiff,Nat.reduceMul,Int.reduceBNe,Int.reduceBEq,Int.reduceEq,Int.reduceNe,Int.reduceLT,Int.reduceLE,Int.reduceGT,Int.reduceGE,Int.reduceNeg,Int.reduceToNat,Nat.reduceLT,Nat.reduceSub,tab,encWr,Try.results36,jTA])|(simp (disch:=omega) only [ziw]))
          all_goals first
            | (exfalso; omega)
            | (rw [hT (by unfold greatM; rw [any_of m.dirty (fun w => longB 300 w.d) k hlt (by (try rw [default_str]); simp only [longB]; exact decide_eq_true (by omega))]; simp)]; simp only [zrds]; done)
            | (refine xl1 (k + 1) ?_ ⟨by omega, fun j hj => ?_⟩ (by show m.dirty.length - (k + 1) < m.dirty.length - k; omega) <;> first | (by_cases e : j = k; (rw [e]; (try rw [default_str]); simp only [longB]; exact decide_eq_false (by omega)); exact hn j (by omega)) | ((refine yrn [(0, 0), (2, 2)] false ?_ ?_<;>(repeat' (first|(with_reducible first|exact ya1|exact ya2|exact ya3|refine jx rfl (by first|rfl|assumption|(simp only [znl,znNA];(first|done|fail)))|exact ya5|exact ya7|exact jy|exact jz|refine jA ?_|refine ya9 ?_ ?_ ?_|refine jC rfl (by first|rfl|assumption|(simp only [znl,znNA];(first|done|fail)))|refine MR.agg (MRL.cons ?_ ?_)|refine MR.fn ?_|refine MRL.cons ?_ ?_|exact MRL.nil|refine jE ?_ ?_|exact jF|exact jG|refine yb1 ?_ ?_|refine MB.row ?_|refine jI ?_ ?_|exact ya8|refine jJ rfl (by first|rfl|assumption|(simp only [znl,znNA];(first|done|fail)))|refine yb2 ?_|rfl)|(simp only [znl,znNA];(first|done|fail))|(simp only [↓reduceIte,zlk,Nat.reduceEqDiff,reduceCtorEq])|(with_reducible first|refine jJ ?_ ?_|refine ya5 ?_|refine ju ?_|refine jv ?_|refine jw ?_|refine jx ?_ (by first|rfl|assumption|(simp only [znl,znNA];(first|done|fail)))|refine jC ?_ (by first|rfl|assumption|(simp only [znl,znNA];(first|done|fail))))))); done))
        · obtain rfl : k = m.dirty.length := by omega
          have hE := any_none m.dirty (fun w => longB 300 w.d) hn
          repeat' (first|(with_reducible first|refine yrl (by constructor) ?_|refine jk (fun M hM=>?_)|(refine hM _ ?_;clear hM M)|refine xb3 (by decide) ?_|refine yqa (by assumption) ?_ ?_|refine yqb (by assumption) ?_ ?_)|((with_reducible refine je ?_)<;>(first|rfl|assumption|(simp only [znl,znNA];(first|done|fail))))|(with_reducible refine jf (by (simp only [↓reduceIte,zlk,Nat.reduceEqDiff,reduceCtorEq]);exact rfl) ?_)|((with_reducible first|refine jg (fun hc=>?_) (fun hc=>?_)|refine jh (fun hc=>?_) (fun hc=>?_))<;>(try simp (disch:=omega) only [zhb] at hc)<;>(try (exfalso;omega))<;>(try subst hc))|(with_reducible refine ji (by omega) ?_)|(simp (config := { maxSteps := 400000 }) only [↓jt,↓reduceIte,zvs,reduceCtorEq,Nat.reduceEqDiff,Nat.reduceAdd,Nat.reduceLeDiff,Nat.reduceMul,Int.reduceBNe,Int.reduceBEq,Int.reduceEq,Int.reduceNe,Int.reduceLT,Int.reduceLE,Int.reduceGT,Int.reduceGE,Int.reduceNeg,Int.reduceToNat,Nat.reduceLT,Nat.reduceSub,tab,Try.results36,jTA])|(simp (disch:=omega) only [ziw]))
          refine xl1 1 ?_ ⟨by omega, fun _ => hE, fun h => by omega⟩ (by show 2 - 1 < 2 - 0; omega)
          (refine yrn [(0, 0), (2, 2)] false ?_ ?_<;>(repeat' (first|(with_reducible first|exact ya1|exact ya2|exact ya3|refine jx rfl (by first|rfl|assumption|(simp only [znl,znNA];(first|done|fail)))|exact ya5|exact ya7|exact jy|exact jz|refine jA ?_|refine ya9 ?_ ?_ ?_|refine jC rfl (by first|rfl|assumption|(simp only [znl,znNA];(first|done|fail)))|refine MR.agg (MRL.cons ?_ ?_)|refine MR.fn ?_|refine MRL.cons ?_ ?_|exact MRL.nil|refine jE ?_ ?_|exact jF|exact jG|refine yb1 ?_ ?_|refine MB.row ?_|refine jI ?_ ?_|exact ya8|refine jJ rfl (by first|rfl|assumption|(simp only [znl,znNA];(first|done|fail)))|refine yb2 ?_|rfl)|(simp only [znl,znNA];(first|done|fail))|(simp only [↓reduceIte,zlk,Nat.reduceEqDiff,reduceCtorEq])|(with_reducible first|refine jJ ?_ ?_|refine ya5 ?_|refine ju ?_|refine jv ?_|refine jw ?_|refine jx ?_ (by first|rfl|assumption|(simp only [znl,znNA];(first|done|fail)))|refine jC ?_ (by first|rfl|assumption|(simp only [znl,znNA];(first|done|fail)))))))
          all_goals (first | rfl)
      · have e : i = 1 := by omega
        subst e
        have z1' := z1
        repeat' (first|(with_reducible first|refine yrl (by constructor) ?_|refine jk (fun M hM=>?_)|(refine hM _ ?_;clear hM M)|refine xb3 (by decide) ?_|refine yqa (by assumption) ?_ ?_|refine yqb (by assumption) ?_ ?_)|((with_reducible refine je ?_)<;>(first|rfl|assumption|(simp only [znl,znNA];(first|done|fail))))|(with_reducible refine jf (by (simp only [↓reduceIte,zlk,Nat.reduceEqDiff,reduceCtorEq]);exact rfl) ?_)|((with_reducible first|refine jg (fun hc=>?_) (fun hc=>?_)|refine jh (fun hc=>?_) (fun hc=>?_))<;>(try simp (disch:=omega) only [zhb] at hc)<;>(try (exfalso;omega))<;>(try subst hc))|(with_reducible refine ji (by omega) ?_)|(simp (config := { maxSteps := 400000 }) only [↓jt,↓reduceIte,zvs,reduceCtorEq,Nat.reduceEqDiff,Nat.reduceAdd,Nat.reduceLeDiff,Nat.reduceMul,Int.reduceBNe,Int.reduceBEq,Int.reduceEq,Int.reduceNe,Int.reduceLT,Int.reduceLE,Int.reduceGT,Int.reduceGE,Int.reduceNeg,Int.reduceToNat,Nat.reduceLT,Nat.reduceSub,tab,z0,z1,Try.results36,jTA])|(simp (disch:=omega) only [ziw]))
        refine ok_loop (fun k : Nat => ⟨slots [(1, .ptr 0 []), (2, .int .i64 0), (83, .sl (some (2, [], 0)) 2), (84, .int .i64 2), (85, .int .i64 1), (89, encWrs m.dr.pe), (90, .int .i64 m.dr.pe.length), (91, .int .i64 k)], rows [(0, .row machSh (encM m)), (2, .row (.arr 2 .cell) (.agg [encWrs m.dirty, encWrs m.dr.pe]))], 3⟩) (fun k => k ≤ m.dr.pe.length ∧ ∀ j, j < k → longB 300 ((m.dr.pe.getD j default).d) = false) (fun k => m.dr.pe.length - k) 0 ?_ ⟨Nat.zero_le _, fun j hj => by omega⟩ (fun k hk => ?_)
        · (refine yrn [(0, 0), (2, 2)] false ?_ ?_<;>(repeat' (first|(with_reducible first|exact ya1|exact ya2|exact ya3|refine jx rfl (by first|rfl|assumption|(simp only [znl,znNA];(first|done|fail)))|exact ya5|exact ya7|exact jy|exact jz|refine jA ?_|refine ya9 ?_ ?_ ?_|refine jC rfl (by first|rfl|assumption|(simp only [znl,znNA];(first|done|fail)))|refine MR.agg (MRL.cons ?_ ?_)|refine MR.fn ?_|refine MRL.cons ?_ ?_|exact MRL.nil|refine jE ?_ ?_|exact jF|exact jG|refine yb1 ?_ ?_|refine MB.row ?_|refine jI ?_ ?_|exact ya8|refine jJ rfl (by first|rfl|assumption|(simp only [znl,znNA];(first|done|fail)))|refine yb2 ?_|rfl)|(simp only [znl,znNA];(first|done|fail))|(simp only [↓reduceIte,zlk,Nat.reduceEqDiff,reduceCtorEq])|(with_reducible first|refine jJ ?_ ?_|refine ya5 ?_|refine ju ?_|refine jv ?_|refine jw ?_|refine jx ?_ (by first|rfl|assumption|(simp only [znl,znNA];(first|done|fail)))|refine jC ?_ (by first|rfl|assumption|(simp only [znl,znNA];(first|done|fail)))))))
          all_goals (first | rfl | (simp; done))
        obtain ⟨hk, hn⟩ := hk
        by_cases hlt : k < m.dr.pe.length
        · have hs := (h7s _ (getD_mem' hlt)).2
          try rw [default_str] at hs
          repeat' (first|(with_reducible first|refine yrl (by constructor) ?_|refine jk (fun M hM=>?_)|(refine hM _ ?_;clear hM M)|refine xb3 (by decide) ?_|refine yqa (by assumption) ?_ ?_|refine yqb (by assumption) ?_ ?_)|((with_reducible refine je ?_)<;>(first|rfl|assumption|(simp only [znl,znNA];(first|done|fail))))|(with_reducible refine jf (by (simp only [↓reduceIte,zlk,Nat.reduceEqDiff,reduceCtorEq]);exact rfl) ?_)|((with_reducible first|refine jg (fun hc=>?_) (fun hc=>?_)|refine jh (fun hc=>?_) (fun hc=>?_))<;>(try simp (disch:=omega) only [zhb] at hc)<;>(try (exfalso;omega))<;>(try subst hc))|(with_reducible refine ji (by omega) ?_)|(simp (config := { maxSteps := 400000 }) only [↓jt,↓reduceIte,zvs,reduceCtorEq,Nat.reduceEqDiff,Nat.reduceAdd,Nat.reduceLeDiff,Nat.reduceMul,Int.reduceBNe,Int.reduceBEq,Int.reduceEq,Int.reduceNe,Int.reduceLT,Int.reduceLE,Int.reduceGT,Int.reduceGE,Int.reduceNeg,Int.reduceToNat,Nat.reduceLT,Nat.reduceSub,tab,encWr,Try.results36,jTA])|(simp (disch:=omega) only [ziw]))
          all_goals first
            | (exfalso; omega)
            | (rw [hT (by unfold greatM; rw [any_of m.dr.pe (fun w => longB 300 w.d) k hlt (by (try rw [default_str]); simp only [longB]; exact decide_eq_true (by omega))]; simp)]; simp only [zrds]; done)
            | (refine xl1 (k + 1) ?_ ⟨by omega, fun j hj => ?_⟩ (by show m.dr.pe.length - (k + 1) < m.dr.pe.length - k; omega) <;> first | (by_cases e : j = k; (rw [e]; (try rw [default_str]); simp only [longB]; exact decide_eq_false (by omega)); exact hn j (by omega)) | ((refine yrn [(0, 0), (2, 2)] false ?_ ?_<;>(repeat' (first|(with_reducible first|exact ya1|exact ya2|exact ya3|refine jx rfl (by first|rfl|assumption|(simp only [znl,znNA];(first|done|fail)))|exact ya5|exact ya7|exact jy|exact jz|refine jA ?_|refine ya9 ?_ ?_ ?_|refine jC rfl (by first|rfl|assumption|(simp only [znl,znNA];(first|done|fail)))|refine MR.agg (MRL.cons ?_ ?_)|refine MR.fn ?_|refine MRL.cons ?_ ?_|exact MRL.nil|refine jE ?_ ?_|exact jF|exact jG|refine yb1 ?_ ?_|refine MB.row ?_|refine jI ?_ ?_|exact ya8|refine jJ rfl (by first|rfl|assumption|(simp only [znl,znNA];(first|done|fail)))|refine yb2 ?_|rfl)|(simp only [znl,znNA];(first|done|fail))|(simp only [↓reduceIte,zlk,Nat.reduceEqDiff,reduceCtorEq])|(with_reducible first|refine jJ ?_ ?_|refine ya5 ?_|refine ju ?_|refine jv ?_|refine jw ?_|refine jx ?_ (by first|rfl|assumption|(simp only [znl,znNA];(first|done|fail)))|refine jC ?_ (by first|rfl|assumption|(simp only [znl,znNA];(first|done|fail))))))); done))
        · obtain rfl : k = m.dr.pe.length := by omega
          have hE := any_none m.dr.pe (fun w => longB 300 w.d) hn
          repeat' (first|(with_reducible first|refine yrl (by constructor) ?_|refine jk (fun M hM=>?_)|(refine hM _ ?_;clear hM M)|refine xb3 (by decide) ?_|refine yqa (by assumption) ?_ ?_|refine yqb (by assumption) ?_ ?_)|((with_reducible refine je ?_)<;>(first|rfl|assumption|(simp only [znl,znNA];(first|done|fail))))|(with_reducible refine jf (by (simp only [↓reduceIte,zlk,Nat.reduceEqDiff,reduceCtorEq]);exact rfl) ?_)|((with_reducible first|refine jg (fun hc=>?_) (fun hc=>?_)|refine jh (fun hc=>?_) (fun hc=>?_))<;>(try simp (disch:=omega) only [zhb] at hc)<;>(try (exfalso;omega))<;>(try subst hc))|(with_reducible refine ji (by omega) ?_)|(simp (config := { maxSteps := 400000 }) only [↓jt,↓reduceIte,zvs,reduceCtorEq,Nat.reduceEqDiff,Nat.reduceAdd,Nat.reduceLeDiff,Nat.reduceMul,Int.reduceBNe,Int.reduceBEq,Int.reduceEq,Int.reduceNe,Int.reduceLT,Int.reduceLE,Int.reduceGT,Int.reduceGE,Int.reduceNeg,Int.reduceToNat,Nat.reduceLT,Nat.reduceSub,tab,Try.results36,jTA])|(simp (disch:=omega) only [ziw]))
          refine xl1 2 ?_ ⟨by omega, fun _ => hC (by omega), fun _ => hE⟩ (by show 2 - 2 < 2 - 1; omega)
          (refine yrn [(0, 0), (2, 2)] false ?_ ?_<;>(repeat' (first|(with_reducible first|exact ya1|exact ya2|exact ya3|refine jx rfl (by first|rfl|assumption|(simp only [znl,znNA];(first|done|fail)))|exact ya5|exact ya7|exact jy|exact jz|refine jA ?_|refine ya9 ?_ ?_ ?_|refine jC rfl (by first|rfl|assumption|(simp only [znl,znNA];(first|done|fail)))|refine MR.agg (MRL.cons ?_ ?_)|refine MR.fn ?_|refine MRL.cons ?_ ?_|exact MRL.nil|refine jE ?_ ?_|exact jF|exact jG|refine yb1 ?_ ?_|refine MB.row ?_|refine jI ?_ ?_|exact ya8|refine jJ rfl (by first|rfl|assumption|(simp only [znl,znNA];(first|done|fail)))|refine yb2 ?_|rfl)|(simp only [znl,znNA];(first|done|fail))|(simp only [↓reduceIte,zlk,Nat.reduceEqDiff,reduceCtorEq])|(with_reducible first|refine jJ ?_ ?_|refine ya5 ?_|refine ju ?_|refine jv ?_|refine jw ?_|refine jx ?_ (by first|rfl|assumption|(simp only [znl,znNA];(first|done|fail)))|refine jC ?_ (by first|rfl|assumption|(simp only [znl,znNA];(first|done|fail)))))))
          all_goals (first | rfl)
  · by_cases hi0 : i = 0
    · have e : i = 0 := by omega
      subst e
      have z0' := z0
      repeat' (first|(with_reducible first|refine yrl (by constructor) ?_|refine jk (fun M hM=>?_)|(refine hM _ ?_;clear hM M)|refine xb3 (by decide) ?_|refine yqa (by assumption) ?_ ?_|refine yqb (by assumption) ?_ ?_)|((with_reducible refine je ?_)<;>(first|rfl|assumption|(simp only [znl,znNA];(first|done|fail))))|(with_reducible refine jf (by (simp only [↓reduceIte,zlk,Nat.reduceEqDiff,reduceCtorEq]);exact rfl) ?_)|((with_reducible first|refine jg (fun hc=>?_) (fun hc=>?_)|refine jh (fun hc=>?_) (fun hc=>?_))<;>(try simp (disch:=omega) only [zhb] at hc)<;>(try (exfalso;omega))<;>(try subst hc))|(with_reducible refine ji (by omega) ?_)|(simp (config := { maxSteps := 400000 }) only [↓jt,↓reduceIte,zvs,reduceCtorEq,Nat.reduceEqDiff,Nat.reduceAdd,Nat.reduceLeDiff,Nat.reduceMul,Int.reduceBNe,Int.reduceBEq,Int.reduceEq,Int.reduceNe,Int.reduceLT,Int.reduceLE,Int.reduceGT,Int.reduceGE,Int.reduceNeg,Int.reduceToNat,Nat.reduceLT,Nat.reduceSub,tab,z0,z1,Try.results36,jTA])|(simp (disch:=omega) only [ziw]))
      refine ok_loop (fun k : Nat => ⟨slots [(1, .ptr 0 []), (2, .int .i64 0), (61, .sl (some (1, [], 0)) 2), (62, .int .i64 2), (63, .int .i64 0), (67, encStrs m.fr), (68, .int .i64 m.fr.length), (69, .int .i64 k)], rows [(0, .row machSh (encM m)), (1, .row (.arr 2 .cell) (.agg [encStrs m.fr, encStrs m.dr.bl]))], 2⟩) (fun k => k ≤ m.fr.length ∧ ∀ j, j < k → longB 300 (m.fr.getD j default) = false) (fun k => m.fr.length - k) 0 ?_ ⟨Nat.zero_le _, fun j hj => by omega⟩ (fun k hk => ?_)
      · (refine yrn [(0, 0), (1, 1)] false ?_ ?_<;>(repeat' (first|(with_reducible first|exact ya1|exact ya2|exact ya3|refine jx rfl (by first|rfl|assumption|(simp only [znl,znNA];(first|done|fail)))|exact ya5|exact ya7|exact jy|exact jz|refine jA ?_|refine ya9 ?_ ?_ ?_|refine jC rfl (by first|rfl|assumption|(simp only [znl,znNA];(first|done|fail)))|refine MR.agg (MRL.cons ?_ ?_)|refine MR.fn ?_|refine MRL.cons ?_ ?_|exact MRL.nil|refine jE ?_ ?_|exact jF|exact jG|refine yb1 ?_ ?_|refine MB.row ?_|refine jI ?_ ?_|exact ya8|refine jJ rfl (by first|rfl|assumption|(simp only [znl,znNA];(first|done|fail)))|refine yb2 ?_|rfl)|(simp only [znl,znNA];(first|done|fail))|(simp only [↓reduceIte,zlk,Nat.reduceEqDiff,reduceCtorEq])|(with_reducible first|refine jJ ?_ ?_|refine ya5 ?_|refine ju ?_|refine jv ?_|refine jw ?_|refine jx ?_ (by first|rfl|assumption|(simp only [znl,znNA];(first|done|fail)))|refine jC ?_ (by first|rfl|assumption|(simp only [znl,znNA];(first|done|fail)))))))
        all_goals (first | rfl | (simp; done))
      obtain ⟨hk, hn⟩ := hk
      by_cases hlt : k < m.fr.length
      · have hs := h1s _ (getD_mem' hlt)
        try rw [default_str] at hs
        repeat' (first|(with_reducible first|refine yrl (by constructor) ?_|refine jk (fun M hM=>?_)|(refine hM _ ?_;clear hM M)|refine xb3 (by decide) ?_|refine yqa (by assumption) ?_ ?_|refine yqb (by assumption) ?_ ?_)|((with_reducible refine je ?_)<;>(first|rfl|assumption|(simp only [znl,znNA];(first|done|fail))))|(with_reducible refine jf (by (simp only [↓reduceIte,zlk,Nat.reduceEqDiff,reduceCtorEq]);exact rfl) ?_)|((with_reducible first|refine jg (fun hc=>?_) (fun hc=>?_)|refine jh (fun hc=>?_) (fun hc=>?_))<;>(try simp (disch:=omega) only [zhb] at hc)<;>(try (exfalso;omega))<;>(try subst hc))|(with_reducible refine ji (by omega) ?_)|(simp (config := { maxSteps := 400000 }) only [↓jt,↓reduceIte,zvs,reduceCtorEq,Nat.reduceEqDiff,Nat.reduceAdd,Nat.reduceLeDiff,Nat.reduceMul,Int.reduceBNe,Int.reduceBEq,Int.reduceEq,Int.reduceNe,Int.reduceLT,Int.reduceLE,Int.reduceGT,Int.reduceGE,Int.reduceNeg,Int.reduceToNat,Nat.reduceLT,Nat.reduceSub,tab,Try.results36,jTA])|(simp (disch:=omega) only [ziw]))
        all_goals first
          | (exfalso; omega)
          | (rw [hT (by unfold greatM; rw [any_of m.fr (longB 300) k hlt (by (try rw [default_str]); simp only [longB]; exact decide_eq_true (by omega))]; simp)]; simp only [zrds]; done)
          | (refine xl1 (k + 1) ?_ ⟨by omega, fun j hj => ?_⟩ (by show m.fr.length - (k + 1) < m.fr.length - k; omega) <;> first | (by_cases e : j = k; (rw [e]; (try rw [default_str]); simp only [longB]; exact decide_eq_false (by omega)); exact hn j (by omega)) | ((refine yrn [(0, 0), (1, 1)] false ?_ ?_<;>(repeat' (first|(with_reducible first|exact ya1|exact ya2|exact ya3|refine jx rfl (by first|rfl|assumption|(simp only [znl,znNA];(first|done|fail)))|exact ya5|exact ya7|exact jy|exact jz|refine jA ?_|refine ya9 ?_ ?_ ?_|refine jC rfl (by first|rfl|assumption|(simp only [znl,znNA];(first|done|fail)))|refine MR.agg (MRL.cons ?_ ?_)|refine MR.fn ?_|refine MRL.cons ?_ ?_|exact MRL.nil|refine jE ?_ ?_|exact jF|exact jG|refine yb1 ?_ ?_|refine MB.row ?_|refine jI ?_ ?_|exact ya8|refine jJ rfl (by first|rfl|assumption|(simp only [znl,znNA];(first|done|fail)))|refine yb2 ?_|rfl)|(simp only [znl,znNA];(first|done|fail))|(simp only [↓reduceIte,zlk,Nat.reduceEqDiff,reduceCtorEq])|(with_reducible first|refine jJ ?_ ?_|refine ya5 ?_|refine ju ?_|refine jv ?_|refine jw ?_|refine jx ?_ (by first|rfl|assumption|(simp only [znl,znNA];(first|done|fail)))|refine jC ?_ (by first|rfl|assumption|(simp only [znl,znNA];(first|done|fail))))))); done))
      · obtain rfl : k = m.fr.length := by omega
        have hE := any_none m.fr (longB 300) hn
        repeat' (first|(with_reducible first|refine yrl (by constructor) ?_|refine jk (fun M hM=>?_)|(refine hM _ ?_;clear hM M)|refine xb3 (by decide) ?_|refine yqa (by assumption) ?_ ?_|refine yqb (by assumption) ?_ ?_)|((with_reducible refine je ?_)<;>(first|rfl|assumption|(simp only [znl,znNA];(first|done|fail))))|(with_reducible refine jf (by (simp only [↓reduceIte,zlk,Nat.reduceEqDiff,reduceCtorEq]);exact rfl) ?_)|((with_reducible first|refine jg (fun hc=>?_) (fun hc=>?_)|refine jh (fun hc=>?_) (fun hc=>?_))<;>(try simp (disch:=omega) only [zhb] at hc)<;>(try (exfalso;omega))<;>(try subst hc))|(with_reducible refine ji (by omega) ?_)|(simp (config := { maxSteps := 400000 }) only [↓jt,↓reduceIte,zvs,reduceCtorEq,Nat.reduceEqDiff,Nat.reduceAdd,Nat.reduceLeDiff,Nat.reduceMul,Int.reduceBNe,Int.reduceBEq,Int.reduceEq,Int.reduceNe,Int.reduceLT,Int.reduceLE,Int.reduceGT,Int.reduceGE,Int.reduceNeg,Int.reduceToNat,Nat.reduceLT,Nat.reduceSub,tab,Try.results36,jTA])|(simp (disch:=omega) only [ziw]))
        refine xl1 1 ?_ ⟨by omega, fun _ => hE, fun h => by omega⟩ (by show 2 - 1 < 2 - 0; omega)
        (refine yrn [(0, 0), (1, 1)] false ?_ ?_<;>(repeat' (first|(with_reducible first|exact ya1|exact ya2|exact ya3|refine jx rfl (by first|rfl|assumption|(simp only [znl,znNA];(first|done|fail)))|exact ya5|exact ya7|exact jy|exact jz|refine jA ?_|refine ya9 ?_ ?_ ?_|refine jC rfl (by first|rfl|assumption|(simp only [znl,znNA];(first|done|fail)))|refine MR.agg (MRL.cons ?_ ?_)|refine MR.fn ?_|refine MRL.cons ?_ ?_|exact MRL.nil|refine jE ?_ ?_|exact jF|exact jG|refine yb1 ?_ ?_|refine MB.row ?_|refine jI ?_ ?_|exact ya8|refine jJ rfl (by first|rfl|assumption|(simp only [znl,znNA];(first|done|fail)))|refine yb2 ?_|rfl)|(simp only [znl,znNA];(first|done|fail))|(simp only [↓reduceIte,zlk,Nat.reduceEqDiff,reduceCtorEq])|(with_reducible first|refine jJ ?_ ?_|refine ya5 ?_|refine ju ?_|refine jv ?_|refine jw ?_|refine jx ?_ (by first|rfl|assumption|(simp only [znl,znNA];(first|done|fail)))|refine jC ?_ (by first|rfl|assumption|(simp only [znl,znNA];(first|done|fail)))))))
        all_goals (first | rfl)
    · have e : i = 1 := by omega
      subst e
      have z1' := z1
      repeat' (first|(with_reducible first|refine yrl (by constructor) ?_|refine jk (fun M hM=>?_)|(refine hM _ ?_;clear hM M)|refine xb3 (by decide) ?_|refine yqa (by assumption) ?_ ?_|refine yqb (by assumption) ?_ ?_)|((with_reducible refine je ?_)<;>(first|rfl|assumption|(simp only [znl,znNA];(first|done|fail))))|(with_reducible refine jf (by (simp only [↓reduceIte,zlk,Nat.reduceEqDiff,reduceCtorEq]);exact rfl) ?_)|((with_reducible first|refine jg (fun hc=>?_) (fun hc=>?_)|refine jh (fun hc=>?_) (fun hc=>?_))<;>(try simp (disch:=omega) only [zhb] at hc)<;>(try (exfalso;omega))<;>(try subst hc))|(with_reducible refine ji (by omega) ?_)|(simp (config := { maxSteps := 400000 }) only [↓jt,↓reduceIte,zvs,reduceCtorEq,Nat.reduceEqDiff,Nat.reduceAdd,Nat.reduceLeDiff,Nat.reduceMul,Int.reduceBNe,Int.reduceBEq,Int.reduceEq,Int.reduceNe,Int.reduceLT,Int.reduceLE,Int.reduceGT,Int.reduceGE,Int.reduceNeg,Int.reduceToNat,Nat.reduceLT,Nat.reduceSub,tab,z0,z1,Try.results36,jTA])|(simp (disch:=omega) only [ziw]))
      refine ok_loop (fun k : Nat => ⟨slots [(1, .ptr 0 []), (2, .int .i64 0), (61, .sl (some (1, [], 0)) 2), (62, .int .i64 2), (63, .int .i64 1), (67, encStrs m.dr.bl), (68, .int .i64 m.dr.bl.length), (69, .int .i64 k)], rows [(0, .row machSh (encM m)), (1, .row (.arr 2 .cell) (.agg [encStrs m.fr, encStrs m.dr.bl]))], 2⟩) (fun k => k ≤ m.dr.bl.length ∧ ∀ j, j < k → longB 300 (m.dr.bl.getD j default) = false) (fun k => m.dr.bl.length - k) 0 ?_ ⟨Nat.zero_le _, fun j hj => by omega⟩ (fun k hk => ?_)
      · (refine yrn [(0, 0), (1, 1)] false ?_ ?_<;>(repeat' (first|(with_reducible first|exact ya1|exact ya2|exact ya3|refine jx rfl (by first|rfl|assumption|(simp only [znl,znNA];(first|done|fail)))|exact ya5|exact ya7|exact jy|exact jz|refine jA ?_|refine ya9 ?_ ?_ ?_|refine jC rfl (by first|rfl|assumption|(simp only [znl,znNA];(first|done|fail)))|refine MR.agg (MRL.cons ?_ ?_)|refine MR.fn ?_|refine MRL.cons ?_ ?_|exact MRL.nil|refine jE ?_ ?_|exact jF|exact jG|refine yb1 ?_ ?_|refine MB.row ?_|refine jI ?_ ?_|exact ya8|refine jJ rfl (by first|rfl|assumption|(simp only [znl,znNA];(first|done|fail)))|refine yb2 ?_|rfl)|(simp only [znl,znNA];(first|done|fail))|(simp only [↓reduceIte,zlk,Nat.reduceEqDiff,reduceCtorEq])|(with_reducible first|refine jJ ?_ ?_|refine ya5 ?_|refine ju ?_|refine jv ?_|refine jw ?_|refine jx ?_ (by first|rfl|assumption|(simp only [znl,znNA];(first|done|fail)))|refine jC ?_ (by first|rfl|assumption|(simp only [znl,znNA];(first|done|fail)))))))
        all_goals (first | rfl | (simp; done))
      obtain ⟨hk, hn⟩ := hk
      by_cases hlt : k < m.dr.bl.length
      · have hs := h6s _ (getD_mem' hlt)
        try rw [default_str] at hs
        repeat' (first|(with_reducible first|refine yrl (by constructor) ?_|refine jk (fun M hM=>?_)|(refine hM _ ?_;clear hM M)|refine xb3 (by decide) ?_|refine yqa (by assumption) ?_ ?_|refine yqb (by assumption) ?_ ?_)|((with_reducible refine je ?_)<;>(first|rfl|assumption|(simp only [znl,znNA];(first|done|fail))))|(with_reducible refine jf (by (simp only [↓reduceIte,zlk,Nat.reduceEqDiff,reduceCtorEq]);exact rfl) ?_)|((with_reducible first|refine jg (fun hc=>?_) (fun hc=>?_)|refine jh (fun hc=>?_) (fun hc=>?_))<;>(try simp (disch:=omega) only [zhb] at hc)<;>(try (exfalso;omega))<;>(try subst hc))|(with_reducible refine ji (by omega) ?_)|(simp (config := { maxSteps := 400000 }) only [↓jt,↓reduceIte,zvs,reduceCtorEq,Nat.reduceEqDiff,Nat.reduceAdd,Nat.reduceLeDiff,Nat.reduceMul,Int.reduceBNe,Int.reduceBEq,Int.reduceEq,Int.reduceNe,Int.reduceLT,Int.reduceLE,Int.reduceGT,Int.reduceGE,Int.reduceNeg,Int.reduceToNat,Nat.reduceLT,Nat.reduceSub,tab,Try.results36,jTA])|(simp (disch:=omega) only [ziw]))
        all_goals first
          | (exfalso; omega)
          | (rw [hT (by unfold greatM; rw [any_of m.dr.bl (longB 300) k hlt (by (try rw [default_str]); simp only [longB]; exact decide_eq_true (by omega))]; simp)]; simp only [zrds]; done)
          | (refine xl1 (k + 1) ?_ ⟨by omega, fun j hj => ?_⟩ (by show m.dr.bl.length - (k + 1) < m.dr.bl.length - k; omega) <;> first | (by_cases e : j = k; (rw [e]; (try rw [default_str]); simp only [longB]; exact decide_eq_false (by omega)); exact hn j (by omega)) | ((refine yrn [(0, 0), (1, 1)] false ?_ ?_<;>(repeat' (first|(with_reducible first|exact ya1|exact ya2|exact ya3|refine jx rfl (by first|rfl|assumption|(simp only [znl,znNA];(first|done|fail)))|exact ya5|exact ya7|exact jy|exact jz|refine jA ?_|refine ya9 ?_ ?_ ?_|refine jC rfl (by first|rfl|assumption|(simp only [znl,znNA];(first|done|fail)))|refine MR.agg (MRL.cons ?_ ?_)|refine MR.fn ?_|refine MRL.cons ?_ ?_|exact MRL.nil|refine jE ?_ ?_|exact jF|exact jG|refine yb1 ?_ ?_|refine MB.row ?_|refine jI ?_ ?_|exact ya8|refine jJ rfl (by first|rfl|assumption|(simp only [znl,znNA];(first|done|fail)))|refine yb2 ?_|rfl)|(simp only [znl,znNA];(first|done|fail))|(simp only [↓reduceIte,zlk,Nat.reduceEqDiff,reduceCtorEq])|(with_reducible first|refine jJ ?_ ?_|refine ya5 ?_|refine ju ?_|refine jv ?_|refine jw ?_|refine jx ?_ (by first|rfl|assumption|(simp only [znl,znNA];(first|done|fail)))|refine jC ?_ (by first|rfl|assumption|(simp only [znl,znNA];(first|done|fail))))))); done))
      · obtain rfl : k = m.dr.bl.length := by omega
        have hE := any_none m.dr.bl (longB 300) hn
        repeat' (first|(with_reducible first|refine yrl (by constructor) ?_|refine jk (fun M hM=>?_)|(refine hM _ ?_;clear hM M)|refine xb3 (by decide) ?_|refine yqa (by assumption) ?_ ?_|refine yqb (by assumption) ?_ ?_)|((with_reducible refine je ?_)<;>(first|rfl|assumption|(simp only [znl,znNA];(first|done|fail))))|(with_reducible refine jf (by (simp only [↓reduceIte,zlk,Nat.reduceEqDiff,reduceCtorEq]);exact rfl) ?_)|((with_reducible first|refine jg (fun hc=>?_) (fun hc=>?_)|refine jh (fun hc=>?_) (fun hc=>?_))<;>(try simp (disch:=omega) only [zhb] at hc)<;>(try (exfalso;omega))<;>(try subst hc))|(with_reducible refine ji (by omega) ?_)|(simp (config := { maxSteps := 400000 }) only [↓jt,↓reduceIte,zvs,reduceCtorEq,Nat.reduceEqDiff,Nat.reduceAdd,Nat.reduceLeDiff,Nat.reduceMul,Int.reduceBNe,Int.reduceBEq,Int.reduceEq,Int.reduceNe,Int.reduceLT,Int.reduceLE,Int.reduceGT,Int.reduceGE,Int.reduceNeg,Int.reduceToNat,Nat.reduceLT,Nat.reduceSub,tab,Try.results36,jTA])|(simp (disch:=omega) only [ziw]))
        refine xl1 2 ?_ ⟨by omega, fun _ => hA (by omega), fun _ => hE⟩ (by show 2 - 2 < 2 - 1; omega)
        (refine yrn [(0, 0), (1, 1)] false ?_ ?_<;>(repeat' (first|(with_reducible first|exact ya1|exact ya2|exact ya3|refine jx rfl (by first|rfl|assumption|(simp only [znl,znNA];(first|done|fail)))|exact ya5|exact ya7|exact jy|exact jz|refine jA ?_|refine ya9 ?_ ?_ ?_|refine jC rfl (by first|rfl|assumption|(simp only [znl,znNA];(first|done|fail)))|refine MR.agg (MRL.cons ?_ ?_)|refine MR.fn ?_|refine MRL.cons ?_ ?_|exact MRL.nil|refine jE ?_ ?_|exact jF|exact jG|refine yb1 ?_ ?_|refine MB.row ?_|refine jI ?_ ?_|exact ya8|refine jJ rfl (by first|rfl|assumption|(simp only [znl,znNA];(first|done|fail)))|refine yb2 ?_|rfl)|(simp only [znl,znNA];(first|done|fail))|(simp only [↓reduceIte,zlk,Nat.reduceEqDiff,reduceCtorEq])|(with_reducible first|refine jJ ?_ ?_|refine ya5 ?_|refine ju ?_|refine jv ?_|refine jw ?_|refine jx ?_ (by first|rfl|assumption|(simp only [znl,znNA];(first|done|fail)))|refine jC ?_ (by first|rfl|assumption|(simp only [znl,znNA];(first|done|fail)))))))
        all_goals (first | rfl)
end Go.Proofs.Ytpdhdkpebbfnnaa.V
end
section
namespace Go.Proofs.Ytpdhdkpebbfnnaa.V
open Go Go.RowKit
set_option maxRecDepth 100000
set_option maxHeartbeats 1000000
abbrev i64T : Ty := .int .i64
abbrev mwT : Ty := .fcons i64T (.fcons .str .fnil)
abbrev mdT : Ty := .fcons (.sl .str) (.fcons (.sl mwT) (.fcons i64T .fnil))
abbrev mptT : Ty := .fcons .bool (.fcons .bool (.fcons i64T .fnil))
abbrev mfdT : Ty := .fcons i64T (.fcons i64T (.fcons i64T .fnil))
abbrev mcpT : Ty := .fcons (.arr 16 (.int .u32)) (.fcons (.int .u32) .fnil)
abbrev mprT : Ty := .fcons i64T (.fcons i64T (.fcons i64T (.fcons mcpT (.fcons (.arr 16 mptT) (.fcons (.arr 8 mfdT) (.fcons .bool (.fcons (.int .u32) (.fcons i64T (.fcons (.int .u64) .fnil)))))))))
abbrev mpiT : Ty := .fcons i64T (.fcons .str .fnil)
abbrev machT : Ty := .fcons (.int .u64) (.fcons i64T (.fcons i64T (.fcons i64T (.fcons (.sl .str) (.fcons (.sl mprT) (.fcons i64T (.fcons .str (.fcons (.sl mpiT) (.fcons i64T (.fcons .str (.fcons .bool (.fcons (.int .u64) (.fcons mdT (.fcons (.sl mwT) .fnil))))))))))))))
abbrev WrD := Int × List UInt8 × Unit
abbrev DrD := List (List UInt8) × List WrD × Int × Unit
abbrev PtD := Bool × Bool × Int × Unit
abbrev FdD := Int × Int × Int × Unit
abbrev CpD := List Int × Int × Unit
abbrev PrD := Int × Int × Int × CpD × List PtD × List FdD × Bool × Int × Int × Int × Unit
abbrev MachD := Int × Int × Int × Int × List (List UInt8) × List PrD × Int × List UInt8 × List WrD × Int × List UInt8 × Bool × Int × DrD × List WrD × Unit
def mWr (x : WrD) : Wr := ⟨x.1, x.2.1⟩
def mDr (x : DrD) : Dr := ⟨x.1, x.2.1.map mWr, x.2.2.1⟩
def mPt (x : PtD) : Pte := ⟨x.1, x.2.1, x.2.2.1⟩
def mFd (x : FdD) : Fdd := ⟨x.1, x.2.1, x.2.2.1⟩
def mPi (x : WrD) : Pip := ⟨x.1, x.2.1⟩
def mPr (x : PrD) : Pr := ⟨x.1, x.2.1, x.2.2.1, x.2.2.2.1.1, x.2.2.2.1.2.1, x.2.2.2.2.1.map mPt, x.2.2.2.2.2.1.map mFd, x.2.2.2.2.2.2.1, x.2.2.2.2.2.2.2.1, x.2.2.2.2.2.2.2.2.1, x.2.2.2.2.2.2.2.2.2.1⟩
def mMach (x : MachD) : Mach :=
  ⟨x.1, x.2.1, x.2.2.1, x.2.2.2.1, x.2.2.2.2.1, x.2.2.2.2.2.1.map mPr, x.2.2.2.2.2.2.1, x.2.2.2.2.2.2.2.1, x.2.2.2.2.2.2.2.2.1.map mPi, x.2.2.2.2.2.2.2.2.2.1, x.2.2.2.2.2.2.2.2.2.2.1, x.2.2.2.2.2.2.2.2.2.2.2.1, x.2.2.2.2.2.2.2.2.2.2.2.2.1, mDr x.2.2.2.2.2.2.2.2.2.2.2.2.2.1, x.2.2.2.2.2.2.2.2.2.2.2.2.2.2.1.map mWr⟩
theorem toV_mstrs (x : List (List UInt8)) : toV (.sl .str) x = encStrs x := by
  simp only [toV,tsh]
  congr 1
theorem toV_mwrs (x : List WrD) : toV (.sl mwT) x = encWrs (x.map mWr) := by
  have : toV (.sl mwT) x = .dat (.st [.cell, .cell]) (x.map (toV mwT)) := rfl
  rw [this]
  unfold encWrs
  rw [List.map_map]
  congr 1
theorem toV_mpis (x : List WrD) : toV (.sl mpiT) x = encPis (x.map mPi) := by
  have : toV (.sl mpiT) x = .dat (.st [.cell, .cell]) (x.map (toV mpiT)) := rfl
  rw [this]
  unfold encPis
  rw [List.map_map]
  congr 1
theorem toV_md (x : DrD) : toV mdT x = encDr (mDr x) := by
  have e : toV mdT x = .agg [toV (.sl .str) x.1, toV (.sl mwT) x.2.1, .int .i64 x.2.2.1] := rfl
  exact e.trans (by rw [toV_mstrs, toV_mwrs]; rfl)
theorem toV_mpr (x : PrD) : toV mprT x = encPr (mPr x) := by
  have e : toV mprT x = .agg [.int .i64 x.1, .int .i64 x.2.1, .int .i64 x.2.2.1, .agg [toV (.arr 16 (.int .u32)) x.2.2.2.1.1, .int .u32 x.2.2.2.1.2.1], toV (.arr 16 mptT) x.2.2.2.2.1, toV (.arr 8 mfdT) x.2.2.2.2.2.1, .bool x.2.2.2.2.2.2.1, .int .u32 x.2.2.2.2.2.2.2.1, .int .i64 x.2.2.2.2.2.2.2.2.1, .int .u64 x.2.2.2.2.2.2.2.2.2.1] := rfl
  have e1 : ∀ l : List Int, toV (.arr 16 (.int .u32)) l = .agg (l.map (.int .u32)) := fun l => rfl
  have e2 : ∀ l : List PtD, toV (.arr 16 mptT) l = .agg ((l.map mPt).map encPte) := fun l => by rw [List.map_map]; rfl
  have e3 : ∀ l : List FdD, toV (.arr 8 mfdT) l = .agg ((l.map mFd).map encFd) := fun l => by rw [List.map_map]; rfl
  exact e.trans (by rw [e1, e2, e3]; rfl)
theorem toV_mprs (x : List PrD) : toV (.sl mprT) x = encPrs (x.map mPr) := by
  have : toV (.sl mprT) x = .dat prSh (x.map (toV mprT)) := rfl
  rw [this]
  unfold encPrs
  rw [List.map_map]
  congr 1
  exact List.map_congr_left fun y _ => toV_mpr y
theorem toV_mach (x : MachD) : toV machT x = encM (mMach x) := by
  have e : toV machT x = .agg [.int .u64 x.1, .int .i64 x.2.1, .int .i64 x.2.2.1, .int .i64 x.2.2.2.1, toV (.sl .str) x.2.2.2.2.1, toV (.sl mprT) x.2.2.2.2.2.1, .int .i64 x.2.2.2.2.2.2.1, .str x.2.2.2.2.2.2.2.1, toV (.sl mpiT) x.2.2.2.2.2.2.2.2.1, .int .i64 x.2.2.2.2.2.2.2.2.2.1, .str x.2.2.2.2.2.2.2.2.2.2.1, .bool x.2.2.2.2.2.2.2.2.2.2.2.1, .int .u64 x.2.2.2.2.2.2.2.2.2.2.2.2.1, toV mdT x.2.2.2.2.2.2.2.2.2.2.2.2.2.1, toV (.sl mwT) x.2.2.2.2.2.2.2.2.2.2.2.2.2.2.1] := rfl
  exact e.trans (by rw [toV_mstrs, toV_mprs, toV_mpis, toV_md, toV_mwrs]; rfl)
theorem mreach47 : reachBytes ≤ 2 ^ 47 := by decide
theorem pr_good (x : PrD) (g : good mprT x) : PrR (mPr x) := by
  obtain ⟨g1, g2, g3, ⟨⟨g4, g4'⟩, g5, _⟩, ⟨g6, g6'⟩, ⟨g7, g7'⟩, _, g8, g9, g10, _⟩ := g
  have hi : ∀ y : Int, (Lit.int .i64 y).wf = true → i64R y := fun y h => bounds_i64 h
  have hu : ∀ y : Int, (Lit.int .u32 y).wf = true → u32R y := fun y h => bounds_u32 h
  refine ⟨hi _ g1, hi _ g2, hi _ g3, g4, fun y hy => hu _ (g4' y hy), hu _ g5, ?_, ?_, ?_, ?_, hu _ g8, hi _ g9, bounds_u64 g10⟩
  · exact (List.length_map _).trans g6
  · intro y hy
    obtain ⟨z, hz, rfl⟩ := List.mem_map.1 hy
    exact hi _ (g6' z hz).2.2.1
  · exact (List.length_map _).trans g7
  · intro y hy
    obtain ⟨z, hz, rfl⟩ := List.mem_map.1 hy
    exact ⟨hi _ (g7' z hz).1, hi _ (g7' z hz).2.1, hi _ (g7' z hz).2.2.1⟩
theorem mach_good (x : MachD) (g : good machT x) (l : Ty.lite machT x) : MFit (2 ^ 47) (mMach x) := by
  obtain ⟨g1, g2, g3, g4, g5, g6, g7, g8, g9, g10, g11, g12, g13, ⟨ga, gb, gc, _⟩, g15, _⟩ := g
  obtain ⟨l1, l2, l3, l4, l5, l6, l7, l8, l9, l10, l11, l12, l13, ⟨la, lb, lc, _⟩, l15, _⟩ := l
  have hi : ∀ y : Int, (Lit.int .i64 y).wf = true → i64R y := fun y h => bounds_i64 h
  have hL : ∀ {n : Nat}, n ≤ reachBytes → n ≤ 2 ^ 47 := fun h => Nat.le_trans h mreach47
  refine ⟨bounds_u64 g1, hi _ g2, hi _ g3, hi _ g4, hL l5.1, fun s hs => hL (l5.2 s hs), ?_, ?_, hi _ g7, hL l8, ?_, ?_, hi _ g10, hL l11, bounds_u64 g13, hL la.1, fun s hs => hL (la.2 s hs), ?_, ?_, hi _ gc, ?_, ?_⟩
  · exact Nat.le_trans (Nat.le_of_eq (List.length_map _)) (hL l6.1)
  · intro p hp
    obtain ⟨z, hz, rfl⟩ := List.mem_map.1 hp
    exact pr_good z (g6 z hz)
  · exact Nat.le_trans (Nat.le_of_eq (List.length_map _)) (hL l9.1)
  · intro p hp
    obtain ⟨z, hz, rfl⟩ := List.mem_map.1 hp
    exact ⟨hi _ (g9 z hz).1, hL (l9.2 z hz).2.1⟩
  · exact Nat.le_trans (Nat.le_of_eq (List.length_map _)) (hL lb.1)
  · intro p hp
    obtain ⟨z, hz, rfl⟩ := List.mem_map.1 hp
    exact ⟨hi _ (gb z hz).1, hL (lb.2 z hz).2.1⟩
  · exact Nat.le_trans (Nat.le_of_eq (List.length_map _)) (hL l15.1)
  · intro p hp
    obtain ⟨z, hz, rfl⟩ := List.mem_map.1 hp
    exact ⟨hi _ (g15 z hz).1, hL (l15.2 z hz).2.1⟩
theorem MFit.small {N : Nat} {m : Mach} (h : MFit N m) (hg : greatM m = false) : MFit 20000 m ∧ m.fr.length + m.pr.length + m.pipes.length + m.dirty.length + m.dr.bl.length + m.dr.pe.length ≤ 250 ∧ m.pr.length ≤ 12 := by
  simp only [greatM,Bool.or_eq_false_iff,decide_eq_false_iff_not,List.any_eq_false,longB,decide_eq_true_eq] at hg
  obtain ⟨⟨⟨⟨⟨⟨h1, h2⟩, h3⟩, h4⟩, h5⟩, h6⟩, h7⟩ := hg
  have h1 : sizeM m ≤ 250 := by omega
  unfold sizeM at h1
  refine ⟨⟨h.clock, h.quantum, h.cur, h.left, by omega, fun s hs => by have := h3 s hs; omega, by omega, h.prR, h.next, by omega, by omega, fun p hp => ⟨(h.pipesR p hp).1, by have := h7 p hp; omega⟩, h.newp, by omega, h.told, by omega, fun s hs => by have := h4 s hs; omega, by omega, fun s hs => ⟨(h.peS s hs).1, by have := h6 s hs; omega⟩, h.dleft, by omega, fun s hs => ⟨(h.dirtyS s hs).1, by have := h5 s hs; omega⟩⟩, by omega, by omega⟩
end Go.Proofs.Ytpdhdkpebbfnnaa.V
end
section
namespace Go.Proofs.Ytpdhdkpebbfnnaa.V
open Go
set_option maxRecDepth 100000
set_option maxHeartbeats 1000000
theorem zeros17_spec (n : Nat) (hn : n ≤ 1000) : Spec Try.prog 122 [.int .i64 n] (.str (List.replicate n 0)) := by
  refine spec_ok Try.func122 rfl rfl (by kernel_rfl) (k := 1) rfl (by decide) ?_
  repeat' (first|(with_reducible first|refine yrl (by constructor) ?_|refine jk (fun M hM=>?_)|(refine hM _ ?_;clear hM M)|refine xb3 (by decide) ?_|refine yqa (by assumption) ?_ ?_|refine yqb (by assumption) ?_ ?_)|((with_reducible refine je ?_)<;>(first|rfl|assumption|(simp only [znl,jO];(first|done|fail))))|(with_reducible refine jf (by (simp only [↓reduceIte,zlk,Nat.reduceEqDiff,reduceCtorEq]);exact rfl) ?_)|((with_reducible first|refine jg (fun hc=>?_) (fun hc=>?_)|refine jh (fun hc=>?_) (fun hc=>?_))<;>(try simp (disch:=omega) only [zhb] at hc)<;>(try (exfalso;omega))<;>(try subst hc))|(with_reducible refine ji (by omega) ?_)|(simp (config := { maxSteps := 400000 }) only [↓jt,↓reduceIte,zvs,reduceCtorEq,Nat.reduceEqDiff,Nat.reduceAdd,Nat.reduceLeDiff,Nat.reduceMul,Int.reduceBNe,Int.reduceBEq,Int.reduceEq,Int.reduceNe,Int.reduceLT,Int.reduceLE,Int.reduceGT,Int.reduceGE,Int.reduceNeg,Int.reduceToNat,Nat.reduceLT,Nat.reduceSub,tab,Try.results122,jTA])|(simp (disch:=omega) only [ziw]))
  refine ok_loop (fun k : Nat => ⟨slots [(0, .int .i64 n), (2, .str []), (3, .str (List.replicate k 0)), (4, .int .i64 k)], rows [], 0⟩) (fun k => k ≤ n) (fun k => n - k) 0 ?_ (Nat.zero_le _) (fun k hk => ?_)
  · (refine yrn [] false ?_ ?_<;>(repeat' (first|(with_reducible first|exact ya1|exact ya2|exact ya3|refine jx rfl (by first|rfl|assumption|(simp only [znl,jO];(first|done|fail)))|exact ya5|exact ya7|exact jy|exact jz|refine jA ?_|refine ya9 ?_ ?_ ?_|refine jC rfl (by first|rfl|assumption|(simp only [znl,jO];(first|done|fail)))|refine MR.agg (MRL.cons ?_ ?_)|refine MR.fn ?_|refine MRL.cons ?_ ?_|exact MRL.nil|refine jE ?_ ?_|exact jF|exact jG|refine yb1 ?_ ?_|refine MB.row ?_|refine jI ?_ ?_|exact ya8|refine jJ rfl (by first|rfl|assumption|(simp only [znl,jO];(first|done|fail)))|refine yb2 ?_|rfl)|(simp only [znl,jO];(first|done|fail))|(simp only [↓reduceIte,zlk,Nat.reduceEqDiff,reduceCtorEq])|(with_reducible first|refine jJ ?_ ?_|refine ya5 ?_|refine ju ?_|refine jv ?_|refine jw ?_|refine jx ?_ (by first|rfl|assumption|(simp only [znl,jO];(first|done|fail)))|refine jC ?_ (by first|rfl|assumption|(simp only [znl,jO];(first|done|fail)))))))
    all_goals (first | rfl | (simp; done))
  by_cases hlt : k < n
  · repeat' (first|(with_reducible first|refine yrl (by constructor) ?_|refine jk (fun M hM=>?_)|(refine hM _ ?_;clear hM M)|refine xb3 (by decide) ?_|refine yqa (by assumption) ?_ ?_|refine yqb (by assumption) ?_ ?_)|((with_reducible refine je ?_)<;>(first|rfl|assumption|(simp only [znl,jO];(first|done|fail))))|(with_reducible refine jf (by (simp only [↓reduceIte,zlk,Nat.reduceEqDiff,reduceCtorEq]);exact rfl) ?_)|((with_reducible first|refine jg (fun hc=>?_) (fun hc=>?_)|refine jh (fun hc=>?_) (fun hc=>?_))<;>(try simp (disch:=omega) only [zhb] at hc)<;>(try (exfalso;omega))<;>(try subst hc))|(with_reducible refine ji (by omega) ?_)|(simp (config := { maxSteps := 400000 }) only [↓jt,↓reduceIte,zvs,reduceCtorEq,Nat.reduceEqDiff,Nat.reduceAdd,Nat.reduceLeDiff,Nat.reduceMul,Int.reduceBNe,Int.reduceBEq,Int.reduceEq,Int.reduceNe,Int.reduceLT,Int.reduceLE,Int.reduceGT,Int.reduceGE,Int.reduceNeg,Int.reduceToNat,Nat.reduceLT,Nat.reduceSub,tab,List.length_replicate,Try.results122,jTA])|(simp (disch:=omega) only [ziw]))
    refine xl1 (k + 1) ?_ (by show k + 1 ≤ n; omega) (by show n - (k + 1) < n - k; omega)
    (refine yrn [] false ?_ ?_<;>(repeat' (first|(with_reducible first|exact ya1|exact ya2|exact ya3|refine jx rfl (by first|rfl|assumption|(simp only [znl,jO];(first|done|fail)))|exact ya5|exact ya7|exact jy|exact jz|refine jA ?_|refine ya9 ?_ ?_ ?_|refine jC rfl (by first|rfl|assumption|(simp only [znl,jO];(first|done|fail)))|refine MR.agg (MRL.cons ?_ ?_)|refine MR.fn ?_|refine MRL.cons ?_ ?_|exact MRL.nil|refine jE ?_ ?_|exact jF|exact jG|refine yb1 ?_ ?_|refine MB.row ?_|refine jI ?_ ?_|exact ya8|refine jJ rfl (by first|rfl|assumption|(simp only [znl,jO];(first|done|fail)))|refine yb2 ?_|rfl)|(simp only [znl,jO];(first|done|fail))|(simp only [↓reduceIte,zlk,Nat.reduceEqDiff,reduceCtorEq])|(with_reducible first|refine jJ ?_ ?_|refine ya5 ?_|refine ju ?_|refine jv ?_|refine jw ?_|refine jx ?_ (by first|rfl|assumption|(simp only [znl,jO];(first|done|fail)))|refine jC ?_ (by first|rfl|assumption|(simp only [znl,jO];(first|done|fail)))))))
    all_goals (first | rfl | (simp [List.replicate_succ']; done))
  · obtain rfl : k = n := by omega
    repeat' (first|(with_reducible first|refine yrl (by constructor) ?_|refine jk (fun M hM=>?_)|(refine hM _ ?_;clear hM M)|refine xb3 (by decide) ?_|refine yqa (by assumption) ?_ ?_|refine yqb (by assumption) ?_ ?_)|((with_reducible refine je ?_)<;>(first|rfl|assumption|(simp only [znl,jO];(first|done|fail))))|(with_reducible refine jf (by (simp only [↓reduceIte,zlk,Nat.reduceEqDiff,reduceCtorEq]);exact rfl) ?_)|((with_reducible first|refine jg (fun hc=>?_) (fun hc=>?_)|refine jh (fun hc=>?_) (fun hc=>?_))<;>(try simp (disch:=omega) only [zhb] at hc)<;>(try (exfalso;omega))<;>(try subst hc))|(with_reducible refine ji (by omega) ?_)|(simp (config := { maxSteps := 400000 }) only [↓jt,↓reduceIte,zvs,reduceCtorEq,Nat.reduceEqDiff,Nat.reduceAdd,Nat.reduceLeDiff,Nat.reduceMul,Int.reduceBNe,Int.reduceBEq,Int.reduceEq,Int.reduceNe,Int.reduceLT,Int.reduceLE,Int.reduceGT,Int.reduceGE,Int.reduceNeg,Int.reduceToNat,Nat.reduceLT,Nat.reduceSub,tab,Try.results122,jTA])|(simp (disch:=omega) only [ziw]))
    simp only [zrds]
theorem zeros16_spec (n : Nat) (hn : n ≤ 1000) : Spec Try.prog 124 [.int .i64 n] (.str (List.replicate n 0)) := by
  refine spec_ok Try.func124 rfl rfl (by kernel_rfl) (k := 1) rfl (by decide) ?_
  repeat' (first|(with_reducible first|refine yrl (by constructor) ?_|refine jk (fun M hM=>?_)|(refine hM _ ?_;clear hM M)|refine xb3 (by decide) ?_|refine yqa (by assumption) ?_ ?_|refine yqb (by assumption) ?_ ?_)|((with_reducible refine je ?_)<;>(first|rfl|assumption|(simp only [znl,jO];(first|done|fail))))|(with_reducible refine jf (by (simp only [↓reduceIte,zlk,Nat.reduceEqDiff,reduceCtorEq]);exact rfl) ?_)|((with_reducible first|refine jg (fun hc=>?_) (fun hc=>?_)|refine jh (fun hc=>?_) (fun hc=>?_))<;>(try simp (disch:=omega) only [zhb] at hc)<;>(try (exfalso;omega))<;>(try subst hc))|(with_reducible refine ji (by omega) ?_)|(simp (config := { maxSteps := 400000 }) only [↓jt,↓reduceIte,zvs,reduceCtorEq,Nat.reduceEqDiff,Nat.reduceAdd,Nat.reduceLeDiff,Nat.reduceMul,Int.reduceBNe,Int.reduceBEq,Int.reduceEq,Int.reduceNe,Int.reduceLT,Int.reduceLE,Int.reduceGT,Int.reduceGE,Int.reduceNeg,Int.reduceToNat,Nat.reduceLT,Nat.reduceSub,tab,Try.results124,jTA])|(simp (disch:=omega) only [ziw]))
  refine ok_loop (fun k : Nat => ⟨slots [(0, .int .i64 n), (2, .str []), (3, .str (List.replicate k 0)), (4, .int .i64 k)], rows [], 0⟩) (fun k => k ≤ n) (fun k => n - k) 0 ?_ (Nat.zero_le _) (fun k hk => ?_)
  · (refine yrn [] false ?_ ?_<;>(repeat' (first|(with_reducible first|exact ya1|exact ya2|exact ya3|refine jx rfl (by first|rfl|assumption|(simp only [znl,jO];(first|done|fail)))|exact ya5|exact ya7|exact jy|exact jz|refine jA ?_|refine ya9 ?_ ?_ ?_|refine jC rfl (by first|rfl|assumption|(simp only [znl,jO];(first|done|fail)))|refine MR.agg (MRL.cons ?_ ?_)|refine MR.fn ?_|refine MRL.cons ?_ ?_|exact MRL.nil|refine jE ?_ ?_|exact jF|exact jG|refine yb1 ?_ ?_|refine MB.row ?_|refine jI ?_ ?_|exact ya8|refine jJ rfl (by first|rfl|assumption|(simp only [znl,jO];(first|done|fail)))|refine yb2 ?_|rfl)|(simp only [znl,jO];(first|done|fail))|(simp only [↓reduceIte,zlk,Nat.reduceEqDiff,reduceCtorEq])|(with_reducible first|refine jJ ?_ ?_|refine ya5 ?_|refine ju ?_|refine jv ?_|refine jw ?_|refine jx ?_ (by first|rfl|assumption|(simp only [znl,jO];(first|done|fail)))|refine jC ?_ (by first|rfl|assumption|(simp only [znl,jO];(first|done|fail)))))))
    all_goals (first | rfl | (simp; done))
  by_cases hlt : k < n
  · repeat' (first|(with_reducible first|refine yrl (by constructor) ?_|refine jk (fun M hM=>?_)|(refine hM _ ?_;clear hM M)|refine xb3 (by decide) ?_|refine yqa (by assumption) ?_ ?_|refine yqb (by assumption) ?_ ?_)|((with_reducible refine je ?_)<;>(first|rfl|assumption|(simp only [znl,jO];(first|done|fail))))|(with_reducible refine jf (by (simp only [↓reduceIte,zlk,Nat.reduceEqDiff,reduceCtorEq]);exact rfl) ?_)|((with_reducible first|refine jg (fun hc=>?_) (fun hc=>?_)|refine jh (fun hc=>?_) (fun hc=>?_))<;>(try simp (disch:=omega) only [zhb] at hc)<;>(try (exfalso;omega))<;>(try subst hc))|(with_reducible refine ji (by omega) ?_)|(simp (config := { maxSteps := 400000 }) only [↓jt,↓reduceIte,zvs,reduceCtorEq,Nat.reduceEqDiff,Nat.reduceAdd,Nat.reduceLeDiff,Nat.reduceMul,Int.reduceBNe,Int.reduceBEq,Int.reduceEq,Int.reduceNe,Int.reduceLT,Int.reduceLE,Int.reduceGT,Int.reduceGE,Int.reduceNeg,Int.reduceToNat,Nat.reduceLT,Nat.reduceSub,tab,List.length_replicate,Try.results124,jTA])|(simp (disch:=omega) only [ziw]))
    refine xl1 (k + 1) ?_ (by show k + 1 ≤ n; omega) (by show n - (k + 1) < n - k; omega)
    (refine yrn [] false ?_ ?_<;>(repeat' (first|(with_reducible first|exact ya1|exact ya2|exact ya3|refine jx rfl (by first|rfl|assumption|(simp only [znl,jO];(first|done|fail)))|exact ya5|exact ya7|exact jy|exact jz|refine jA ?_|refine ya9 ?_ ?_ ?_|refine jC rfl (by first|rfl|assumption|(simp only [znl,jO];(first|done|fail)))|refine MR.agg (MRL.cons ?_ ?_)|refine MR.fn ?_|refine MRL.cons ?_ ?_|exact MRL.nil|refine jE ?_ ?_|exact jF|exact jG|refine yb1 ?_ ?_|refine MB.row ?_|refine jI ?_ ?_|exact ya8|refine jJ rfl (by first|rfl|assumption|(simp only [znl,jO];(first|done|fail)))|refine yb2 ?_|rfl)|(simp only [znl,jO];(first|done|fail))|(simp only [↓reduceIte,zlk,Nat.reduceEqDiff,reduceCtorEq])|(with_reducible first|refine jJ ?_ ?_|refine ya5 ?_|refine ju ?_|refine jv ?_|refine jw ?_|refine jx ?_ (by first|rfl|assumption|(simp only [znl,jO];(first|done|fail)))|refine jC ?_ (by first|rfl|assumption|(simp only [znl,jO];(first|done|fail)))))))
    all_goals (first | rfl | (simp [List.replicate_succ']; done))
  · obtain rfl : k = n := by omega
    repeat' (first|(with_reducible first|refine yrl (by constructor) ?_|refine jk (fun M hM=>?_)|(refine hM _ ?_;clear hM M)|refine xb3 (by decide) ?_|refine yqa (by assumption) ?_ ?_|refine yqb (by assumption) ?_ ?_)|((with_reducible refine je ?_)<;>(first|rfl|assumption|(simp only [znl,jO];(first|done|fail))))|(with_reducible refine jf (by (simp only [↓reduceIte,zlk,Nat.reduceEqDiff,reduceCtorEq]);exact rfl) ?_)|((with_reducible first|refine jg (fun hc=>?_) (fun hc=>?_)|refine jh (fun hc=>?_) (fun hc=>?_))<;>(try simp (disch:=omega) only [zhb] at hc)<;>(try (exfalso;omega))<;>(try subst hc))|(with_reducible refine ji (by omega) ?_)|(simp (config := { maxSteps := 400000 }) only [↓jt,↓reduceIte,zvs,reduceCtorEq,Nat.reduceEqDiff,Nat.reduceAdd,Nat.reduceLeDiff,Nat.reduceMul,Int.reduceBNe,Int.reduceBEq,Int.reduceEq,Int.reduceNe,Int.reduceLT,Int.reduceLE,Int.reduceGT,Int.reduceGE,Int.reduceNeg,Int.reduceToNat,Nat.reduceLT,Nat.reduceSub,tab,Try.results124,jTA])|(simp (disch:=omega) only [ziw]))
    simp only [zrds]
theorem byte_of (x : Nat) : (((x % 256 : Nat) : Int)) = ((UInt8.ofNat x).toNat : Int) := by
  rw [UInt8.toNat_ofNat']
theorem rnum_put_spec (n : Nat) (hn : n < 2 ^ 32) (z : Nat) (hz : z ≤ 8) : Spec Try.prog 133 [.int .u64 n, .int .i64 z] (.str (putLE n z)) := by
  refine spec_ok Try.func133 rfl rfl (by kernel_rfl) (k := 2) rfl (by decide) ?_
  repeat' (first|(with_reducible first|refine yrl (by constructor) ?_|refine jk (fun M hM=>?_)|(refine hM _ ?_;clear hM M)|refine xb3 (by decide) ?_|refine yqa (by assumption) ?_ ?_|refine yqb (by assumption) ?_ ?_)|((with_reducible refine je ?_)<;>(first|rfl|assumption|(simp only [znl,jO];(first|done|fail))))|(with_reducible refine jf (by (simp only [↓reduceIte,zlk,Nat.reduceEqDiff,reduceCtorEq]);exact rfl) ?_)|((with_reducible first|refine jg (fun hc=>?_) (fun hc=>?_)|refine jh (fun hc=>?_) (fun hc=>?_))<;>(try simp (disch:=omega) only [zhb] at hc)<;>(try (exfalso;omega))<;>(try subst hc))|(with_reducible refine ji (by omega) ?_)|(simp (config := { maxSteps := 400000 }) only [↓jt,↓reduceIte,zvs,reduceCtorEq,Nat.reduceEqDiff,Nat.reduceAdd,Nat.reduceLeDiff,Nat.reduceMul,Int.reduceBNe,Int.reduceBEq,Int.reduceEq,Int.reduceNe,Int.reduceLT,Int.reduceLE,Int.reduceGT,Int.reduceGE,Int.reduceNeg,Int.reduceToNat,Nat.reduceLT,Nat.reduceSub,tab,Try.results133,jTA])|(simp (disch:=omega) only [ziw]))
  refine ok_loop (fun k : Nat => ⟨slots [(0, .int .u64 ((n / 256 ^ k : Nat) : Int)), (1, .int .i64 z), (4, .str []), (5, .str (putLE n k)), (6, .int .i64 k)], rows [], 0⟩) (fun k => k ≤ z) (fun k => z - k) 0 ?_ (Nat.zero_le _) (fun k hk => ?_)
  · (refine yrn [] false ?_ ?_<;>(repeat' (first|(with_reducible first|exact ya1|exact ya2|exact ya3|refine jx rfl (by first|rfl|assumption|(simp only [znl,jO];(first|done|fail)))|exact ya5|exact ya7|exact jy|exact jz|refine jA ?_|refine ya9 ?_ ?_ ?_|refine jC rfl (by first|rfl|assumption|(simp only [znl,jO];(first|done|fail)))|refine MR.agg (MRL.cons ?_ ?_)|refine MR.fn ?_|refine MRL.cons ?_ ?_|exact MRL.nil|refine jE ?_ ?_|exact jF|exact jG|refine yb1 ?_ ?_|refine MB.row ?_|refine jI ?_ ?_|exact ya8|refine jJ rfl (by first|rfl|assumption|(simp only [znl,jO];(first|done|fail)))|refine yb2 ?_|rfl)|(simp only [znl,jO];(first|done|fail))|(simp only [↓reduceIte,zlk,Nat.reduceEqDiff,reduceCtorEq])|(with_reducible first|refine jJ ?_ ?_|refine ya5 ?_|refine ju ?_|refine jv ?_|refine jw ?_|refine jx ?_ (by first|rfl|assumption|(simp only [znl,jO];(first|done|fail)))|refine jC ?_ (by first|rfl|assumption|(simp only [znl,jO];(first|done|fail)))))))
    all_goals (first | rfl | (simp; done))
  have hq : n / 256 ^ k < 2 ^ 32 := Nat.lt_of_le_of_lt (Nat.div_le_self _ _) hn
  have e4 : n / 256 ^ (k + 1) = n / 256 ^ k / 256 := by rw [Nat.pow_succ, Nat.div_div_eq_div_mul]
  have e5 : putLE n (k + 1) = putLE n k ++ [UInt8.ofNat (n / 256 ^ k)] := rfl
  have hl := putLE_len n k
  by_cases hlt : k < z
  · obtain ⟨x, hx⟩ : ∃ x, x = n / 256 ^ k := ⟨_, rfl⟩
    rw [← hx] at hq e4 e5 ⊢
    have hb : bytesOf [VV.int .u8 ((x : Int) % 256)] = some [UInt8.ofNat x] := by
      have := bytesOf_enc [UInt8.ofNat x]
      rw [List.map_cons, List.map_nil] at this
      rw [← this, encB, ← byte_of x]
      norm_cast
    repeat' (first|(with_reducible first|refine yrl (by constructor) ?_|refine jk (fun M hM=>?_)|(refine hM _ ?_;clear hM M)|refine xb3 (by decide) ?_|refine yqa (by assumption) ?_ ?_|refine yqb (by assumption) ?_ ?_)|((with_reducible refine je ?_)<;>(first|rfl|assumption|(simp only [znl,jO];(first|done|fail))))|(with_reducible refine jf (by (simp only [↓reduceIte,zlk,Nat.reduceEqDiff,reduceCtorEq]);exact rfl) ?_)|((with_reducible first|refine jg (fun hc=>?_) (fun hc=>?_)|refine jh (fun hc=>?_) (fun hc=>?_))<;>(try simp (disch:=omega) only [zhb] at hc)<;>(try (exfalso;omega))<;>(try subst hc))|(with_reducible refine ji (by omega) ?_)|(simp (config := { maxSteps := 400000 }) only [↓jt,↓reduceIte,zvs,reduceCtorEq,Nat.reduceEqDiff,Nat.reduceAdd,Nat.reduceLeDiff,Nat.reduceMul,Int.reduceBNe,Int.reduceBEq,Int.reduceEq,Int.reduceNe,Int.reduceLT,Int.reduceLE,Int.reduceGT,Int.reduceGE,Int.reduceNeg,Int.reduceToNat,Nat.reduceLT,Nat.reduceSub,tab,hb,hl,Try.results133,jTA])|(simp (disch:=omega) only [ziw]))
    all_goals first
      | (exfalso; omega)
      | (refine xl1 (k + 1) ?_ (by show k + 1 ≤ z; omega) (by show z - (k + 1) < z - k; omega); (refine yrn [] false ?_ ?_<;>(repeat' (first|(with_reducible first|exact ya1|exact ya2|exact ya3|refine jx rfl (by first|rfl|assumption|(simp only [znl,jO];(first|done|fail)))|exact ya5|exact ya7|exact jy|exact jz|refine jA ?_|refine ya9 ?_ ?_ ?_|refine jC rfl (by first|rfl|assumption|(simp only [znl,jO];(first|done|fail)))|refine MR.agg (MRL.cons ?_ ?_)|refine MR.fn ?_|refine MRL.cons ?_ ?_|exact MRL.nil|refine jE ?_ ?_|exact jF|exact jG|refine yb1 ?_ ?_|refine MB.row ?_|refine jI ?_ ?_|exact ya8|refine jJ rfl (by first|rfl|assumption|(simp only [znl,jO];(first|done|fail)))|refine yb2 ?_|rfl)|(simp only [znl,jO];(first|done|fail))|(simp only [↓reduceIte,zlk,Nat.reduceEqDiff,reduceCtorEq])|(with_reducible first|refine jJ ?_ ?_|refine ya5 ?_|refine ju ?_|refine jv ?_|refine jw ?_|refine jx ?_ (by first|rfl|assumption|(simp only [znl,jO];(first|done|fail)))|refine jC ?_ (by first|rfl|assumption|(simp only [znl,jO];(first|done|fail))))))); all_goals (first | (rw [e4]; omega) | (rw [e5]; done)))
  · obtain rfl : k = z := by omega
    repeat' (first|(with_reducible first|refine yrl (by constructor) ?_|refine jk (fun M hM=>?_)|(refine hM _ ?_;clear hM M)|refine xb3 (by decide) ?_|refine yqa (by assumption) ?_ ?_|refine yqb (by assumption) ?_ ?_)|((with_reducible refine je ?_)<;>(first|rfl|assumption|(simp only [znl,jO];(first|done|fail))))|(with_reducible refine jf (by (simp only [↓reduceIte,zlk,Nat.reduceEqDiff,reduceCtorEq]);exact rfl) ?_)|((with_reducible first|refine jg (fun hc=>?_) (fun hc=>?_)|refine jh (fun hc=>?_) (fun hc=>?_))<;>(try simp (disch:=omega) only [zhb] at hc)<;>(try (exfalso;omega))<;>(try subst hc))|(with_reducible refine ji (by omega) ?_)|(simp (config := { maxSteps := 400000 }) only [↓jt,↓reduceIte,zvs,reduceCtorEq,Nat.reduceEqDiff,Nat.reduceAdd,Nat.reduceLeDiff,Nat.reduceMul,Int.reduceBNe,Int.reduceBEq,Int.reduceEq,Int.reduceNe,Int.reduceLT,Int.reduceLE,Int.reduceGT,Int.reduceGE,Int.reduceNeg,Int.reduceToNat,Nat.reduceLT,Nat.reduceSub,tab,Try.results133,jTA])|(simp (disch:=omega) only [ziw]))
    all_goals simp only [zrds]
def geoV (g : Geo) : VV := .agg [.int .i64 g.bl, .int .i64 g.ino, .int .i64 g.quo, .int .i64 g.map, .int .i64 g.tab, .int .i64 g.dat]
def planV (x : Geo × Int) : VV := .tup [geoV x.1, .int .i64 x.2]
theorem plan_spec (b i : Int) (hb : 0 ≤ b ∧ b ≤ 1000000) (hi : 0 ≤ i ∧ i ≤ 1000000) : Spec Try.prog 120 [.int .i64 b, .int .i64 i] (planV (planG b i)) := by
  unfold planG
  have h6 : ∀ a : VV, List.replicate 6 a = [a, a, a, a, a, a] := fun _ => rfl
  by_cases h1 : b < 16 ∨ 223 < b ∨ i < 4 ∨ 64 < i
  · rw [if_pos h1]
    refine spec_ok Try.func120 rfl rfl (by kernel_rfl) (k := 2) rfl (by decide) ?_
    repeat' (first|(with_reducible first|refine yrl (by constructor) ?_|refine jk (fun M hM=>?_)|(refine hM _ ?_;clear hM M)|refine xb3 (by decide) ?_|refine yqa (by assumption) ?_ ?_|refine yqb (by assumption) ?_ ?_)|((with_reducible refine je ?_)<;>(first|rfl|assumption|(simp only [znl,jO];(first|done|fail))))|(with_reducible refine jf (by (simp only [↓reduceIte,zlk,Nat.reduceEqDiff,reduceCtorEq]);exact rfl) ?_)|((with_reducible first|refine jg (fun hc=>?_) (fun hc=>?_)|refine jh (fun hc=>?_) (fun hc=>?_))<;>(try simp (disch:=omega) only [zhb] at hc)<;>(try (exfalso;omega))<;>(try subst hc))|(with_reducible refine ji (by omega) ?_)|(simp (config := { maxSteps := 400000 }) only [↓jt,↓reduceIte,zvs,reduceCtorEq,Nat.reduceEqDiff,Nat.reduceAdd,Nat.reduceLeDiff,Nat.reduceMul,Int.reduceBNe,Int.reduceBEq,Int.reduceEq,Int.reduceNe,Int.reduceLT,Int.reduceLE,Int.reduceGT,Int.reduceGE,Int.reduceNeg,Int.reduceToNat,Nat.reduceLT,Nat.reduceSub,tab,h6,Try.results120,jTA])|(simp (disch:=omega) only [ziw]))
    all_goals first
      | (exfalso; omega)
      | (simp only [planV,geoV]; simp only [zrds]; done)
  · rw [if_neg h1]
    by_cases h2 : b ≤ 3 + (i + 1) / 2
    · rw [if_pos h2]
      refine spec_ok Try.func120 rfl rfl (by kernel_rfl) (k := 2) rfl (by decide) ?_
      repeat' (first|(with_reducible first|refine yrl (by constructor) ?_|refine jk (fun M hM=>?_)|(refine hM _ ?_;clear hM M)|refine xb3 (by decide) ?_|refine yqa (by assumption) ?_ ?_|refine yqb (by assumption) ?_ ?_)|((with_reducible refine je ?_)<;>(first|rfl|assumption|(simp only [znl,jO];(first|done|fail))))|(with_reducible refine jf (by (simp only [↓reduceIte,zlk,Nat.reduceEqDiff,reduceCtorEq]);exact rfl) ?_)|((with_reducible first|refine jg (fun hc=>?_) (fun hc=>?_)|refine jh (fun hc=>?_) (fun hc=>?_))<;>(try simp (disch:=omega) only [zhb] at hc)<;>(try (exfalso;omega))<;>(try subst hc))|(with_reducible refine ji (by omega) ?_)|(simp (config := { maxSteps := 400000 }) only [↓jt,↓reduceIte,zvs,reduceCtorEq,Nat.reduceEqDiff,Nat.reduceAdd,Nat.reduceLeDiff,Nat.reduceMul,Int.reduceBNe,Int.reduceBEq,Int.reduceEq,Int.reduceNe,Int.reduceLT,Int.reduceLE,Int.reduceGT,Int.reduceGE,Int.reduceNeg,Int.reduceToNat,Nat.reduceLT,Nat.reduceSub,tab,h6,Try.results120,jTA])|(simp (disch:=omega) only [ziw]))
      all_goals first
        | (exfalso; omega)
        | (simp only [planV,geoV]; simp only [zrds]; done)
    · rw [if_neg h2]
      refine spec_ok Try.func120 rfl rfl (by kernel_rfl) (k := 2) rfl (by decide) ?_
      repeat' (first|(with_reducible first|refine yrl (by constructor) ?_|refine jk (fun M hM=>?_)|(refine hM _ ?_;clear hM M)|refine xb3 (by decide) ?_|refine yqa (by assumption) ?_ ?_|refine yqb (by assumption) ?_ ?_)|((with_reducible refine je ?_)<;>(first|rfl|assumption|(simp only [znl,jO];(first|done|fail))))|(with_reducible refine jf (by (simp only [↓reduceIte,zlk,Nat.reduceEqDiff,reduceCtorEq]);exact rfl) ?_)|((with_reducible first|refine jg (fun hc=>?_) (fun hc=>?_)|refine jh (fun hc=>?_) (fun hc=>?_))<;>(try simp (disch:=omega) only [zhb] at hc)<;>(try (exfalso;omega))<;>(try subst hc))|(with_reducible refine ji (by omega) ?_)|(simp (config := { maxSteps := 400000 }) only [↓jt,↓reduceIte,zvs,reduceCtorEq,Nat.reduceEqDiff,Nat.reduceAdd,Nat.reduceLeDiff,Nat.reduceMul,Int.reduceBNe,Int.reduceBEq,Int.reduceEq,Int.reduceNe,Int.reduceLT,Int.reduceLE,Int.reduceGT,Int.reduceGE,Int.reduceNeg,Int.reduceToNat,Nat.reduceLT,Nat.reduceSub,tab,h6,Try.results120,jTA])|(simp (disch:=omega) only [ziw]))
      all_goals first
        | (exfalso; omega)
        | (simp only [planV,geoV]; simp only [zrds]; done)
end Go.Proofs.Ytpdhdkpebbfnnaa.V
end
section
namespace Go.Proofs.Ytpdhdkpebbfnnaa.V
open Go
set_option maxRecDepth 100000
set_option maxHeartbeats 4000000
theorem bit_spec (s : List UInt8) (hs : s.length = 128) (i : Nat) (hi : i < 1024) : Spec Try.prog 150 [.str s, .int .i64 i] (.bool (bitB s i)) := by
  refine spec_ok Try.func150 rfl rfl (by kernel_rfl) (k := 2) rfl (by decide) ?_
  repeat' (first|(with_reducible first|refine yrl (by constructor) ?_|refine jk (fun M hM=>?_)|(refine hM _ ?_;clear hM M)|refine xb3 (by decide) ?_|refine yqa (by assumption) ?_ ?_|refine yqb (by assumption) ?_ ?_)|((with_reducible refine je ?_)<;>(first|rfl|assumption|(simp only [znl,jO];(first|done|fail))))|(with_reducible refine jf (by (simp only [↓reduceIte,zlk,Nat.reduceEqDiff,reduceCtorEq]);exact rfl) ?_)|((with_reducible first|refine jg (fun hc=>?_) (fun hc=>?_)|refine jh (fun hc=>?_) (fun hc=>?_))<;>(try simp (disch:=omega) only [zhb] at hc)<;>(try (exfalso;omega))<;>(try subst hc))|(with_reducible refine ji (by omega) ?_)|(simp (config := { maxSteps := 400000 }) only [↓jt,↓reduceIte,zvs,reduceCtorEq,Nat.reduceEqDiff,Nat.reduceAdd,Nat.reduceLeDiff,Nat.reduceMul,Int.reduceBNe,Int.reduceBEq,Int.reduceEq,Int.reduceNe,Int.reduceLT,Int.reduceLE,Int.reduceGT,Int.reduceGE,Int.reduceNeg,Int.reduceToNat,Nat.reduceLT,Nat.reduceSub,tab,Try.results150,jTA])|(simp (disch:=omega) only [ziw]))
  unfold bitB
  simp only [zrds]
theorem head_spec (g : Geo) (h1 : 0 ≤ g.bl ∧ g.bl < 1000) (h2 : 0 ≤ g.ino ∧ g.ino < 1000) : Spec Try.prog 121 [geoV g] (.str (headG g.bl g.ino)) := by
  obtain ⟨b, i, q, mp, tb, da⟩ := g
  dsimp only at h1 h2
  obtain ⟨b, rfl⟩ := Int.eq_ofNat_of_zero_le h1.1
  obtain ⟨i, rfl⟩ := Int.eq_ofNat_of_zero_le h2.1
  have hA : Spec Try.prog 133 [.int .u64 b, .int .i64 2] (.str (putLE b 2)) := rnum_put_spec b (by omega) 2 (by omega)
  have hB : Spec Try.prog 133 [.int .u64 i, .int .i64 2] (.str (putLE i 2)) := rnum_put_spec i (by omega) 2 (by omega)
  have hC : Spec Try.prog 122 [.int .i64 120] (.str (List.replicate 120 0)) := zeros17_spec 120 (by omega)
  have l1 := putLE_len b 2
  have l2 := putLE_len i 2
  simp only [geoV,headG,Int.toNat_natCast]
  refine spec_ok Try.func121 rfl rfl (by kernel_rfl) (k := 1) rfl (by decide) ?_
  repeat' (first|(with_reducible first|refine yrl (by constructor) ?_|refine jk (fun M hM=>?_)|(refine hM _ ?_;clear hM M)|refine xb3 (by decide) ?_|refine yqa (by assumption) ?_ ?_|refine yqb (by assumption) ?_ ?_)|((with_reducible refine je ?_)<;>(first|rfl|assumption|(simp only [znl,jO];(first|done|fail))))|(with_reducible refine jf (by (simp only [↓reduceIte,zlk,Nat.reduceEqDiff,reduceCtorEq]);exact rfl) ?_)|((with_reducible first|refine jg (fun hc=>?_) (fun hc=>?_)|refine jh (fun hc=>?_) (fun hc=>?_))<;>(try simp (disch:=omega) only [zhb] at hc)<;>(try (exfalso;omega))<;>(try subst hc))|(with_reducible refine ji (by omega) ?_)|(simp (config := { maxSteps := 400000 }) only [↓jt,↓reduceIte,zvs,reduceCtorEq,Nat.reduceEqDiff,Nat.reduceAdd,Nat.reduceLeDiff,Nat.reduceMul,Int.reduceBNe,Int.reduceBEq,Int.reduceEq,Int.reduceNe,Int.reduceLT,Int.reduceLE,Int.reduceGT,Int.reduceGE,Int.reduceNeg,Int.reduceToNat,Nat.reduceLT,Nat.reduceSub,tab,l1,l2,Try.results121,jTA])|(simp (disch:=omega) only [ziw]))
  refine ok_draw 12 (by kernel_rfl) (by decide +kernel) (by intro m hm; simp only [upd_ap,rows_cons,rows_nil]; (repeat (first | rfl | rw [if_neg (by omega)]))) (fun M hM => ?_); simp only [List.take_succ_cons,List.take_zero,List.drop_succ_cons,List.drop_zero]
  repeat' (first|(with_reducible first|refine yrl (by constructor) ?_|refine jk (fun M hM=>?_)|(refine hM _ ?_;clear hM M)|refine xb3 (by decide) ?_|refine yqa (by assumption) ?_ ?_|refine yqb (by assumption) ?_ ?_)|((with_reducible refine je ?_)<;>(first|rfl|assumption|(simp only [znl,jO];(first|done|fail))))|(with_reducible refine jf (by (simp only [↓reduceIte,zlk,Nat.reduceEqDiff,reduceCtorEq]);exact rfl) ?_)|((with_reducible first|refine jg (fun hc=>?_) (fun hc=>?_)|refine jh (fun hc=>?_) (fun hc=>?_))<;>(try simp (disch:=omega) only [zhb] at hc)<;>(try (exfalso;omega))<;>(try subst hc))|(with_reducible refine ji (by omega) ?_)|(simp (config := { maxSteps := 400000 }) only [↓jt,↓reduceIte,zvs,reduceCtorEq,Nat.reduceEqDiff,Nat.reduceAdd,Nat.reduceLeDiff,Nat.reduceMul,Int.reduceBNe,Int.reduceBEq,Int.reduceEq,Int.reduceNe,Int.reduceLT,Int.reduceLE,Int.reduceGT,Int.reduceGE,Int.reduceNeg,Int.reduceToNat,Nat.reduceLT,Nat.reduceSub,tab,l1,l2,Try.results121,jTA])|(simp (disch:=omega) only [ziw]))
  all_goals simp only [zrds]
abbrev geoSh : Sh := .st [.cell, .cell, .cell, .cell, .cell, .cell]
theorem byte_x (a b : Int) : bytesOf [VV.int .u8 (bits .xor .u8 a b)] = some [UInt8.ofNat (bits .xor .u8 a b).toNat] := by
  have h1 := bits_lo_u8 .xor a b
  have h2 := bits_hi_u8 .xor a b
  simp only [bytesOf]
  rw [if_pos (by omega)]
def turnB (s : List UInt8) (i : Nat) : List UInt8 := List.take ((i : Int) / 8).toNat s ++ [UInt8.ofNat (bits BinOp.xor IntKind.u8 ((s.getD ((i : Int) / 8).toNat 0).toNat : Int) (IntKind.u8.wrap (1 * 2 ^ min ((i : Int) % 8).toNat IntKind.u8.bits))).toNat] ++ List.take (s.length - ((i : Int) / 8 + 1).toNat) (List.drop ((i : Int) / 8 + 1).toNat s)
theorem turnB_len (s : List UInt8) (hs : s.length = 128) (i : Nat) (hi : i < 1024) : (turnB s i).length = 128 := by
  unfold turnB
  simp only [List.length_append,List.length_take,List.length_drop,List.length_cons,List.length_nil]
  omega
theorem turn_specX (s : List UInt8) (hs : s.length = 128) (i : Nat) (hi : i < 1024) : Spec Try.prog 123 [.str s, .int .i64 i] (.str (turnB s i)) := by
  refine spec_ok Try.func123 rfl rfl (by kernel_rfl) (k := 2) rfl (by decide) ?_
  repeat' (first|(with_reducible first|refine yrl (by constructor) ?_|refine jk (fun M hM=>?_)|(refine hM _ ?_;clear hM M)|refine xb3 (by decide) ?_|refine yqa (by assumption) ?_ ?_|refine yqb (by assumption) ?_ ?_)|((with_reducible refine je ?_)<;>(first|rfl|assumption|(simp only [znl,jO];(first|done|fail))))|(with_reducible refine jf (by (simp only [↓reduceIte,zlk,Nat.reduceEqDiff,reduceCtorEq]);exact rfl) ?_)|((with_reducible first|refine jg (fun hc=>?_) (fun hc=>?_)|refine jh (fun hc=>?_) (fun hc=>?_))<;>(try simp (disch:=omega) only [zhb] at hc)<;>(try (exfalso;omega))<;>(try subst hc))|(with_reducible refine ji (by omega) ?_)|(simp (config := { maxSteps := 400000 }) only [↓jt,↓reduceIte,zvs,reduceCtorEq,Nat.reduceEqDiff,Nat.reduceAdd,Nat.reduceLeDiff,Nat.reduceMul,Int.reduceBNe,Int.reduceBEq,Int.reduceEq,Int.reduceNe,Int.reduceLT,Int.reduceLE,Int.reduceGT,Int.reduceGE,Int.reduceNeg,Int.reduceToNat,Nat.reduceLT,Nat.reduceSub,tab,Try.results123,jTA])|(simp (disch:=omega) only [ziw]))
  refine ok_draw 21 (by kernel_rfl) (by decide +kernel) (by intro m hm; simp only [upd_ap,rows_cons,rows_nil]; (repeat (first | rfl | rw [if_neg (by omega)]))) (fun M hM => ?_); simp only [List.take_succ_cons,List.take_zero,List.drop_succ_cons,List.drop_zero]
  repeat' (first|(with_reducible first|refine yrl (by constructor) ?_|refine jk (fun M hM=>?_)|(refine hM _ ?_;clear hM M)|refine xb3 (by decide) ?_|refine yqa (by assumption) ?_ ?_|refine yqb (by assumption) ?_ ?_)|((with_reducible refine je ?_)<;>(first|rfl|assumption|(simp only [znl,jO];(first|done|fail))))|(with_reducible refine jf (by (simp only [↓reduceIte,zlk,Nat.reduceEqDiff,reduceCtorEq]);exact rfl) ?_)|((with_reducible first|refine jg (fun hc=>?_) (fun hc=>?_)|refine jh (fun hc=>?_) (fun hc=>?_))<;>(try simp (disch:=omega) only [zhb] at hc)<;>(try (exfalso;omega))<;>(try subst hc))|(with_reducible refine ji (by omega) ?_)|(simp (config := { maxSteps := 400000 }) only [↓jt,↓reduceIte,zvs,reduceCtorEq,Nat.reduceEqDiff,Nat.reduceAdd,Nat.reduceLeDiff,Nat.reduceMul,Int.reduceBNe,Int.reduceBEq,Int.reduceEq,Int.reduceNe,Int.reduceLT,Int.reduceLE,Int.reduceGT,Int.reduceGE,Int.reduceNeg,Int.reduceToNat,Nat.reduceLT,Nat.reduceSub,tab,byte_x,Try.results123,jTA])|(simp (disch:=omega) only [ziw]))
  exact rd_str rfl
end Go.Proofs.Ytpdhdkpebbfnnaa.V
end
