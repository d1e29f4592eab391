/-
  THE WALKS through the laws' own small functions: none, alive.
-/
import Derived.Laws.IdiomStrings
import Derived.Test.YtgalfkjhogidmaaShareS
namespace Go.Proofs.Ytgalfkjhogidmaa
open Go.RowKit

/-- bytes that read, as a string -/
theorem conv_bytes {w : World} {A : Option Addr} {l : List UInt8} (h : RdB w A l) (h0 : 0 < l.length) (c n : Nat) (hn : l.length = n) :
    (Go.convert 32 9 (.slice A n c)).run Try.prog w = .ok (.string (bs l)) w := by
  subst hn
  obtain ⟨b, o, rfl, hc⟩ := h h0
  refine run_convert_bytes_back w 32 9 5 ⟨b, o, none⟩ c l Try.underlying32 Try.underlying5 Try.underlying9 fun j hj => ?_
  rw [add_off, hc j hj]
  show some (Value.int .u8 (B8 (Gf.nth l j))) = _
  rw [Gf.nth_lt hj]
  rfl
/-- an operation that converts -/
theorem wpList_conv {P : Program} {ops : Array Oper} {rest : List Oper} {o : Oper} {a : Act} {w : World} {Q : Exit → Act → World → Prop} (hgd : o.guard = none) (s d : TypeId) (x : Operand)
    (ho : o.op = .convert s d x) (u v : Value) (hx : a.eval x = u) (hr : (Go.convert s d u).run P w = .ok v w) (h : wpList P ops Q rest (a.put o.dst v) w) : wpList P ops Q (o :: rest) a w :=
  wpList_plain hgd fun _ hK => by
    unfold Oper.wp execOp
    simp only [ho, hx, Sem.run_bind, hr, Result.andThen_ok]
    exact hK _ _ h

def nought (n : Nat) : List UInt8 := List.replicate n 0
theorem nought_len (n : Nat) : (nought n).length = n := by simp [nought]
def noughts : Array Value := Array.replicate 64 (.int .u8 0)
theorem noughts_eq : noughts = (bvs (nought 64)).toArray := by
  have h0 : B8 0 = 0 := rfl
  simp only [noughts, nought, bvs, List.map_replicate, h0, List.toArray_replicate]
theorem bytezero : (Try.prog.info? 5).map (fun i => (i.zero, i.size, i.bytes)) = some (some (.int .u8 0), 1, 1) := by kernel_rfl
theorem make_64 (w : World) : (Instr.makeSlice 32 (.int .i64 64) (.int .i64 64)).run Try.prog w = .ok (.slice (some ⟨w.heap.size, 0, none⟩) 64 64) (w.alloc (.cells noughts 5)) :=
  make_const Try.underlying32 bytezero rfl (by decide) 64 (by decide) (by omega) w

theorem none_any (w : World) : Calls Try.prog 36 #[] w fun e w' => e = .returned (.string (bs (nought 64))) ∧ Kept w w' := by
  have hmk := make_64
  go_enter Try.func36, Try.ntmps36
  go_wp2_with (refine wpList_conv rfl _ _ _ rfl _ _ rfl (conv_bytes (l := nought 64) (by rw [noughts_eq]; exact RdB.new _ _ _) (by simp [nought]) _ 64 (nought_len 64)) ?_)
  go_ret
  exact ⟨rfl, (Kept.refl _).alloc _⟩

theorem split_in (cs : Array Value) (m : Int) (t : ByteArray) (s z : List UInt8) (n : Nat) (w : World) (hcs : cs = kv s) (hm : m = n) (ht : t = bs z) (hs : s.length = 32) (hn : 3 ≤ n) (hn2 : n ≤ 255) (hz : z.length = 64) :
    Calls Try.prog 19 #[.agg cs, .int .i64 m, .string t] w fun e w' =>
      ∃ g, e = .returned (.tuple #[.slice (some ⟨g, 0, none⟩) n n, .int .i64 0]) ∧ Kept w w' ∧ w.heap.size ≤ g ∧ Shs w' g n (fun j => xat j) (fun j i => dat s z j i) := by
  subst hcs hm ht
  exact split_ok s z n w hs hn hn2 hz
def one32 : List UInt8 := 1 :: List.replicate 31 0
def one64 : List UInt8 := 1 :: List.replicate 63 0
theorem one_text : ({ data := #[1] } : ByteArray) ++ (bs (nought 64)).extract 1 64 = bs one64 := by
  apply ByteArray.ext
  rfl

set_option maxHeartbeats 1000000 in
theorem alive_any (w : World) : Calls Try.prog 18 #[] w fun e w' => e = .returned (.bool true) ∧ Kept w w' := by
  have hz := bs_size (nought 64)
  rw [nought_len] at hz
  go_enter Try.func18, Try.ntmps18
  go_wp2_with (first
    | (go_at_call 36; refine (none_any _).mono ?_; rintro e w1 ⟨rfl, hK1⟩)
    | (go_at_call 19; go_loud (refine (split_in _ 3 _ one32 one64 3 _ rfl rfl one_text rfl (by omega) (by omega) rfl).mono ?_; rintro e w2 ⟨g, rfl, hK2, hg, hS⟩; have c0 : w2.cell? ⟨g, 1, none⟩ = some (.int .u8 0) := hS.cellD (j := 0) (i := 0) (by omega) (by omega); have c1 : w2.cell? ⟨g, 34, none⟩ = some (.int .u8 3) := hS.cellD (j := 1) (i := 0) (by omega) (by omega); have c2 : w2.cell? ⟨g, 67, none⟩ = some (.int .u8 2) := hS.cellD (j := 2) (i := 0) (by omega) (by omega); have c3 : w2.cell? ⟨g, 66, none⟩ = some (.int .u8 3) := hS.cellX (j := 2) (by omega))))
  go_ret
  exact ⟨rfl, hK1.trans hK2⟩
end Go.Proofs.Ytgalfkjhogidmaa
