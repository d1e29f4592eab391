/-
  THE WALKS of the laws FieldMuls, FieldLaws, FieldEvals.
-/
import Derived.Test.YtgalfkjhogidmaaFieldT
import Derived.Test.YtgalfkjhogidmaaTy
namespace Go.Proofs.Ytgalfkjhogidmaa
open Go.RowKit

theorem two_le : [1, 2].length ≤ maxLen := by unfold maxLen; decide
theorem alive05 (w : World) : Calls Try.prog 24 #[] w fun e w' => e = .returned (.bool true) ∧ Kept w w' := by
  have hb1 : RdB (w.alloc (.cells #[.int .u8 1, .int .u8 2] 5)) (some ⟨w.heap.size, 0, none⟩) [1, 2] := RdB.new w [1, 2] _
  have hb2 : RdB ((w.alloc (.cells #[.int .u8 1, .int .u8 2] 5)).alloc (.cells #[.int .u8 5, .int .u8 5] 5)) (some ⟨w.heap.size + 1, 0, none⟩) [5, 5] := by
    have := RdB.new (w.alloc (.cells #[.int .u8 1, .int .u8 2] 5)) [5, 5] 5
    rw [World.size_alloc] at this
    exact this
  have hb3 := hb1.kept (Kept.alloc (Kept.refl _) (.cells #[.int .u8 5, .int .u8 5] 5))
  go_enter Try.func24, Try.ntmps24
  go_wp2_with fail
  refine (at_any _ _ _ _ [1, 2] [5, 5] 9 _ two_le two_le hb3 hb2).mono ?_
  rintro e w1 ⟨rfl, hK1⟩
  clear hb1 hb2 hb3
  rw [show atVal [1, 2] [5, 5] 9 = 5 from by decide +kernel, show atOk [1, 2] [5, 5] = true from by decide +kernel]
  rw [show B8 5 = 5 from rfl]
  go_wp2_with fail
  refine (mul_any 2 128 _).mono ?_
  rintro e w2 ⟨rfl, rfl⟩
  rw [show B8 (Gf.mul 2 128) = 29 from by decide +kernel]
  go_wp2_with fail
  refine (inv_any 2 _).mono ?_
  rintro e w2 ⟨rfl, rfl⟩
  rw [show B8 (Gf.inv 2) = 142 from by decide +kernel]
  go_wp2_with fail
  have hb4 : RdB (w1.alloc (.cells #[.int .u8 1, .int .u8 2] 5)) (some ⟨w1.heap.size, 0, none⟩) [1, 2] := RdB.new w1 [1, 2] _
  refine (eval_any _ _ [1, 2] 3 _ two_le hb4).mono ?_
  rintro e w2 ⟨rfl, hD⟩
  rw [show B8 (Gf.eval [1, 2] 3) = 7 from by decide +kernel]
  go_wp2
  go_ret
  exact ⟨rfl, (((Kept.refl _).alloc _).alloc _).trans (hK1.trans (((Kept.refl _).alloc _).trans hD.kept))⟩

theorem fieldMuls_walk (w : World) (v0 v1 : Value) (x0 x1 : UInt8) (h0 : Ty.Val w .u8 v0 x0) (h1 : Ty.Val w .u8 v1 x1) :
    Calls Try.prog 7 #[v0, v1] w fun e w' => e = .returned (.bool true) ∧ Kept w w' := by
  obtain rfl : v0 = .int .u8 (B8 x0) := by injection h0
  obtain rfl : v1 = .int .u8 (B8 x1) := by injection h1
  clear h0 h1
  go_enter Try.func7, Try.ntmps7
  go_wp2_with (first
    | (go_at_call 24; refine (alive05 _).mono ?_; rintro e w1 ⟨rfl, hK⟩)
    | (go_at_call 25; refine (mul_any _ _ _).mono ?_; rintro e w' ⟨rfl, rfl⟩)
    | (go_at_call 26; refine (refmul_any _ _ _).mono ?_; rintro e w' ⟨rfl, rfl⟩)
    | (go_at_call 27; refine (inv_any _ _).mono ?_; rintro e w' ⟨rfl, rfl⟩)
    | (go_at_call 28; refine (refinv_any _ _).mono ?_; rintro e w' ⟨rfl, rfl⟩))
  go_ret
  exact ⟨rfl, hK⟩
end Go.Proofs.Ytgalfkjhogidmaa
