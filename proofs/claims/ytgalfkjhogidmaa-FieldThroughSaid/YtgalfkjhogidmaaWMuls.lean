/-
  THE WALKS of the laws FieldMuls, FieldLaws, FieldEvals.
-/
import Derived.Test.YtgalfkjhogidmaaFieldT
import Derived.Test.YtgalfkjhogidmaaTy
namespace Go.Proofs.Ytgalfkjhogidmaa
open Go.RowKit

theorem two_le : [1, 2].length ≤ maxLen := by unfold maxLen; decide
theorem alive05 (w : World) : Calls Try.prog 24 #[] w fun e w' => e = .returned (.bool true) ∧ Kept w w' := by
  have hb1 : RdB (w.alloc (.cells #[.int .u8 1, .int .u8 2] 5)) (some ⟨w.heap.size, 0, none⟩) [1, 2] := RdB.new w [1, 2] _
  have hb2 : RdB ((w.alloc (.cells #[.int .u8 1, .int .u8 2] 5)).alloc (.cells #[.int .u8 5, .int .u8 5] 5)) (some ⟨w.heap.size + 1, 0, none⟩) [5, 5] := by
    have := RdB.new (w.alloc (.cells #[.int .u8 1, .int .u8 2] 5)) [5, 5] 5
    rw [World.size_alloc] at this
    exact this
  have hb3 := hb1.kept (Kept.alloc (Kept.refl _) (.cells #[.int .u8 5, .int .u8 5] 5))
  go_enter Try.func24, Try.ntmps24
  go_wp2_with fail
  refine (at_any _ _ _ _ [1, 2] [5, 5] 9 _ two_le two_le hb3 hb2).mono ?_
  rintro e w1 ⟨rfl, hK1⟩
  clear hb1 hb2 hb3
  rw [show atVal [1, 2] [5, 5] 9 = 5 from by decide +kernel, show atOk [1, 2] [5, 5] = true from by decide +kernel]
  rw [show B8 5 = 5 from rfl]
  go_wp2_with fail
  refine (mul_any 2 128 _).mono ?_
  rintro e w2 ⟨rfl, rfl⟩
  rw [show B8 (Gf.mul 2 128) = 29 from by decide +kernel]
  go_wp2_with fail
  refine (inv_any 2 _).mono ?_
  rintro e w2 ⟨rfl, rfl⟩
  rw [show B8 (Gf.inv 2) = 142 from by decide +kernel]
  go_wp2_with fail
  have hb4 : RdB (w1.alloc (.cells #[.int .u8 1, .int .u8 2] 5)) (some ⟨w1.heap.size, 0, none⟩) [1, 2] := RdB.new w1 [1, 2] _
  refine (eval_any _ _ [1, 2] 3 _ two_le hb4).mono ?_
  rintro e w2 ⟨rfl, hD⟩
  rw [show B8 (Gf.eval [1, 2] 3) = 7 from by decide +kernel]
  go_wp2
  go_ret
  exact ⟨rfl, (((Kept.refl _).alloc _).alloc _).trans (hK1.trans (((Kept.refl _).alloc _).trans hD.kept))⟩

theorem fieldMuls_walk (w : World) (v0 v1 : Value) (x0 x1 : UInt8) (h0 : Ty.Val w .u8 v0 x0) (h1 : Ty.Val w .u8 v1 x1) :
    Calls Try.prog 7 #[v0, v1] w fun e w' => e = .returned (.bool true) ∧ Kept w w' := by
  obtain rfl : v0 = .int .u8 (B8 x0) := by injection h0
  obtain rfl : v1 = .int .u8 (B8 x1) := by injection h1
  clear h0 h1
  go_enter Try.func7, Try.ntmps7
  go_wp2_with (first
    | (go_at_call 24; refine (alive05 _).mono ?_; rintro e w1 ⟨rfl, hK⟩)
    | (go_at_call 25; (with_reducible refine (mul_any _ _ _).mono ?_); rintro e w' ⟨rfl, rfl⟩)
    | (go_at_call 26; refine (refmul_any _ _ _).mono ?_; rintro e w' ⟨rfl, rfl⟩)
    | (go_at_call 27; refine (inv_any _ _).mono ?_; rintro e w' ⟨rfl, rfl⟩)
    | (go_at_call 28; refine (refinv_any _ _).mono ?_; rintro e w' ⟨rfl, rfl⟩))
  go_ret
  exact ⟨rfl, hK⟩

theorem b8_ne {x y : UInt8} (h : x = y) : (B8 x != B8 y) = false := by rw [h]; simp
theorem b8_eq {x y : UInt8} (h : x = y) : (B8 x == B8 y) = true := by rw [h]; simp
theorem b8_ne' {x y : UInt8} (h : x ≠ y) : (B8 x != B8 y) = true := by rw [bne, B8_beq]; simpa using h
theorem b8_eq' {x y : UInt8} (h : x ≠ y) : (B8 x == B8 y) = false := by rw [B8_beq]; simpa using h

theorem fieldLaws_walk (w : World) (v0 v1 v2 : Value) (x0 x1 x2 : UInt8) (h0 : Ty.Val w .u8 v0 x0) (h1 : Ty.Val w .u8 v1 x1) (h2 : Ty.Val w .u8 v2 x2) :
    Calls Try.prog 8 #[v0, v1, v2] w fun e w' => e = .returned (.bool true) ∧ Kept w w' := by
  obtain rfl : v0 = .int .u8 (B8 x0) := by injection h0
  obtain rfl : v1 = .int .u8 (B8 x1) := by injection h1
  obtain rfl : v2 = .int .u8 (B8 x2) := by injection h2
  clear h0 h1 h2
  have e1 := b8_ne (Gf.mul_comm x0 x1)
  have e2 := b8_ne (Gf.mul_assoc x0 x1 x2)
  have e3 := b8_ne (Gf.mul_right x0 x1 x2)
  have f1 := bits_xor8 x1 x2
  have f2 := bits_xor8 (Gf.mul x0 x1) (Gf.mul x0 x2)
  by_cases ha : x0 = 0
  · have a1 : (B8 x0 == 0) = true := b8_eq (y := 0) ha
    have a2 : (B8 (Gf.mul x0 x1) == 0) = true := b8_eq (y := 0) (by rw [ha, Gf.zero_mul])
    have a3 : (B8 (Gf.inv x0) == 0) = true := b8_eq (y := 0) (by rw [ha, Gf.inv_zero])
    clear ha
    go_enter Try.func8, Try.ntmps8
    go_wp2_with (first
      | (go_at_call 24; refine (alive05 _).mono ?_; rintro e w1 ⟨rfl, hK⟩)
      | (go_at_call 25; (with_reducible refine (mul_any _ _ _).mono ?_); rintro e w' ⟨rfl, rfl⟩)
      | (go_at_call 27; refine (inv_any _ _).mono ?_; rintro e w' ⟨rfl, rfl⟩))
    go_ret
    exact ⟨rfl, hK⟩
  · have a1 : (B8 x0 == 0) = false := b8_eq' (y := 0) ha
    have a2 : (B8 (Gf.mul x0 1) == B8 x0) = true := b8_eq (Gf.mul_one x0)
    have a3 : (B8 (Gf.mul x0 (Gf.inv x0)) == 1) = true := b8_eq (y := 1) (Gf.mul_inv x0 ha)
    have a4 : (B8 (Gf.inv (Gf.inv x0)) == B8 x0) = true := b8_eq (Gf.inv_inv x0)
    by_cases hb : x1 = 0
    · have b1 : (B8 x1 == 0) = true := b8_eq (y := 0) hb
      clear ha hb
      go_enter Try.func8, Try.ntmps8
      go_wp2_with (first
        | (go_at_call 24; refine (alive05 _).mono ?_; rintro e w1 ⟨rfl, hK⟩)
        | (go_at_call 25; (with_reducible refine (mul_any _ _ _).mono ?_); rintro e w' ⟨rfl, rfl⟩)
        | (go_at_call 25; refine (mul_any _ 1 _).mono ?_; rintro e w' ⟨rfl, rfl⟩)
        | (go_at_call 27; refine (inv_any _ _).mono ?_; rintro e w' ⟨rfl, rfl⟩))
      go_ret
      exact ⟨rfl, hK⟩
    · have b1 : (B8 x1 == 0) = false := b8_eq' (y := 0) hb
      have b2 : (B8 (Gf.mul x0 x1) != 0) = true := b8_ne' (y := 0) (Gf.mul_ne_zero ha hb)
      clear ha hb
      go_enter Try.func8, Try.ntmps8
      go_wp2_with (first
        | (go_at_call 24; refine (alive05 _).mono ?_; rintro e w1 ⟨rfl, hK⟩)
        | (go_at_call 25; (with_reducible refine (mul_any _ _ _).mono ?_); rintro e w' ⟨rfl, rfl⟩)
        | (go_at_call 25; refine (mul_any _ 1 _).mono ?_; rintro e w' ⟨rfl, rfl⟩)
        | (go_at_call 27; refine (inv_any _ _).mono ?_; rintro e w' ⟨rfl, rfl⟩))
      go_ret
      exact ⟨rfl, hK⟩

/-- a slice of bytes that came in -/
theorem bytes_in {w : World} {v : Value} {l : List UInt8} (h : Ty.Val w (.sl .u8) v l) : ∃ A c, v = .slice A l.length c ∧ l.length ≤ maxLen ∧ l.length ≤ c ∧ RdB w A l := by
  obtain ⟨A, c, hv, hm, hc, ccs, hl, hR, hI⟩ := h
  refine ⟨A, c, by injection hv, hm, hc, ?_⟩
  have hl' : ccs.length = l.length := hl.trans (Nat.mul_one _)
  intro h0
  obtain ⟨b, o, e, hcell⟩ := hR (by omega)
  refine ⟨b, o, e, fun j hj => ?_⟩
  rw [hcell j (by omega)]
  have := hI j hj
  simp only [Ty.size, Nat.mul_one] at this
  have h2 : (ccs.drop j).take 1 = [ccs.getD j undef] := by
    rw [List.drop_eq_getElem_cons (show j < ccs.length by omega), List.getD_eq_getElem?_getD, List.getElem?_eq_getElem (show j < ccs.length by omega)]
    rfl
  rw [h2] at this
  have h3 : ([ccs.getD j undef] : List Value) = [.int .u8 (B8 l[j])] := this
  show some (ccs.getD j undef) = some (.int .u8 (B8 (Gf.nth l j)))
  rw [Gf.nth_lt hj, (List.cons_eq_cons.1 h3).1]

theorem fieldEvals_walk (w : World) (v0 v1 v2 : Value) (x0 x1 : List UInt8) (x2 : UInt8) (h0 : Ty.Val w (.sl .u8) v0 x0) (h1 : Ty.Val w (.sl .u8) v1 x1) (h2 : Ty.Val w .u8 v2 x2) :
    Calls Try.prog 9 #[v0, v1, v2] w fun e w' => e = .returned (.bool true) ∧ Kept w w' := by
  obtain ⟨A, c, rfl, hm0, _, hR0⟩ := bytes_in h0
  obtain ⟨B, d, rfl, hm1, _, hR1⟩ := bytes_in h1
  obtain rfl : v2 = .int .u8 (B8 x2) := by injection h2
  clear h0 h1 h2
  have hn0 := hm0
  have hn1 := hm1
  unfold maxLen at hn0 hn1
  by_cases c0 : 40 < x0.length
  · go_enter Try.func9, Try.ntmps9
    go_wp2_with (go_at_call 24; refine (alive05 _).mono ?_; rintro e w1 ⟨rfl, hK⟩)
    go_ret
    exact ⟨rfl, hK⟩
  by_cases c1 : 20 < x1.length
  · go_enter Try.func9, Try.ntmps9
    go_wp2_with (go_at_call 24; refine (alive05 _).mono ?_; rintro e w1 ⟨rfl, hK⟩)
    go_ret
    exact ⟨rfl, hK⟩
  go_enter Try.func9, Try.ntmps9
  have e0 := b8_eq (x := Gf.eval x0 x2) rfl
  go_wp2_with (go_at_call 24; refine (alive05 _).mono ?_; rintro e w1 ⟨rfl, hK⟩)
  refine (at_any _ _ _ _ _ _ _ _ hm1 hm0 (hR1.kept hK) (hR0.kept hK)).mono ?_
  rintro e w2 ⟨rfl, hK2⟩
  have hK3 := hK.trans hK2
  clear hK hK2
  go_wp2_with fail
  refine (refat_any _ _ _ _ _ _ _ _ hm1 hm0 (hR1.kept hK3) (hR0.kept hK3)).mono ?_
  rintro e w3 ⟨rfl, hD⟩
  have hK4 := hK3.trans hD.kept
  clear hK3 hD
  generalize atVal x1 x0 x2 = u at *
  generalize atOk x1 x0 = z at *
  go_wp2_with fail
  refine (eval_any _ _ _ _ _ hm0 (hR0.kept hK4)).mono ?_
  rintro e w4 ⟨rfl, hD⟩
  have hK5 := hK4.trans hD.kept
  clear hK4 hD
  go_wp2_with fail
  refine (refeval_any _ _ _ _ _ hm0 (hR0.kept hK5)).mono ?_
  rintro e w5 ⟨rfl, rfl⟩
  go_wp2
  go_ret
  exact ⟨rfl, hK5⟩
end Go.Proofs.Ytgalfkjhogidmaa
