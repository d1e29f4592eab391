/-
  SHARES, plain: what three points tell. No program in sight.
-/
import Derived.Test.YtndbfphmjmhkjaaPoly
set_option linter.unusedVariables false
set_option linter.unusedSimpArgs false
namespace Go.Proofs.Ytndbfphmjmhkjaa.Gf

theorem nodup3 {x y z : UInt8} : [x, y, z].Nodup ↔ x ≠ y ∧ x ≠ z ∧ y ≠ z := by
  simp [List.nodup_cons, and_assoc]
theorem lag3_deg {f : UInt8 → UInt8} (hf : Deg 3 f) {x y z : UInt8} (h1 : x ≠ y) (h2 : x ≠ z) (h3 : y ≠ z) (t : UInt8) : lag [x, y, z] [f x, f y, f z] t = f t :=
  lag_of_deg [x, y, z] [f x, f y, f z] hf (nodup3.2 ⟨h1, h2, h3⟩) (fun j hj => by
    match j, hj with
    | 0, _ => rfl
    | 1, _ => rfl
    | 2, _ => rfl) t
theorem lag3_at {x y z : UInt8} (h1 : x ≠ y) (h2 : x ≠ z) (h3 : y ≠ z) (u v w : UInt8) : lag [x, y, z] [u, v, w] x = u ∧ lag [x, y, z] [u, v, w] y = v ∧ lag [x, y, z] [u, v, w] z = w :=
  have hn := nodup3.2 ⟨h1, h2, h3⟩
  ⟨lag_at _ _ hn 0 (by simp), lag_at _ _ hn 1 (by simp), lag_at _ _ hn 2 (by simp)⟩
theorem deg3 (x y z u v w : UInt8) : Deg 3 (lag [x, y, z] [u, v, w]) := lag_deg [x, y, z] [u, v, w]
/-- the same points in another order -/
theorem lag3_swap {x y z : UInt8} (h1 : x ≠ y) (h2 : x ≠ z) (h3 : y ≠ z) (u v w t : UInt8) : lag [y, x, z] [v, u, w] t = lag [x, y, z] [u, v, w] t := by
  obtain ⟨e1, e2, e3⟩ := lag3_at h1 h2 h3 u v w
  have := lag3_deg (deg3 x y z u v w) (Ne.symm h1) h3 h2 t
  rwa [e1, e2, e3] at this
theorem lag3_turn {x y z : UInt8} (h1 : x ≠ y) (h2 : x ≠ z) (h3 : y ≠ z) (u v w t : UInt8) : lag [z, x, y] [w, u, v] t = lag [x, y, z] [u, v, w] t := by
  obtain ⟨e1, e2, e3⟩ := lag3_at h1 h2 h3 u v w
  have := lag3_deg (deg3 x y z u v w) (Ne.symm h2) (Ne.symm h3) h1 t
  rwa [e1, e2, e3] at this
theorem eval3_zero (a b c : UInt8) : eval [a, b, c] 0 = a := by simp [eval, mul_zero]
/-- any three shares tell the secret -/
theorem any_three (a b c : UInt8) {x y z : UInt8} (h1 : x ≠ y) (h2 : x ≠ z) (h3 : y ≠ z) : lag [x, y, z] [eval [a, b, c] x, eval [a, b, c] y, eval [a, b, c] z] 0 = a := by
  rw [lag3_deg (f := eval [a, b, c]) (deg_eval [a, b, c]) h1 h2 h3, eval3_zero]
/-- a third share that makes two fit a secret -/
theorem blind (s u v : UInt8) {a b x : UInt8} (ha : a ≠ 0) (hb : b ≠ 0) (hab : a ≠ b) (hx : x ≠ 0) (hxa : x ≠ a) (hxb : x ≠ b) :
    lag [a, b, x] [u, v, lag [0, a, b] [s, u, v] x] 0 = s := by
  obtain ⟨e1, e2, e3⟩ := lag3_at (Ne.symm ha) (Ne.symm hb) hab s u v
  have := lag3_deg (deg3 0 a b s u v) hab (Ne.symm hxa) (Ne.symm hxb) 0
  rwa [e1, e2, e3] at this
theorem deg_three {f : UInt8 → UInt8} (hf : Deg 3 f) : ∃ a b c, ∀ x, f x = eval [a, b, c] x := by
  obtain ⟨l, hl, h⟩ := hf
  match l, hl with
  | [], _ => exact ⟨0, 0, 0, fun x => by rw [h]; simp [eval, zero_mul]⟩
  | [a], _ => exact ⟨a, 0, 0, fun x => by rw [h]; simp [eval, zero_mul]⟩
  | [a, b], _ => exact ⟨a, b, 0, fun x => by rw [h]; simp [eval, zero_mul]⟩
  | [a, b, c], _ => exact ⟨a, b, c, h⟩
theorem eval3 (a b c x : UInt8) : eval [a, b, c] x = mul (mul c x ^^^ b) x ^^^ a := by simp [eval, zero_mul]
theorem xor_back (a b : UInt8) : (a ^^^ b) ^^^ b = a := by rw [UInt8.xor_assoc, UInt8.xor_self, UInt8.xor_zero]
/-- the coefficients that the values at 1 and at 2, and that at 0, tell -/
theorem coeffs {f : UInt8 → UInt8} (hf : Deg 3 f) (x : UInt8) :
    eval [f 0, (f 1 ^^^ f 0) ^^^ mul ((f 1 ^^^ f 0) ^^^ mul (f 2 ^^^ f 0) (inv 2)) (inv 3), mul ((f 1 ^^^ f 0) ^^^ mul (f 2 ^^^ f 0) (inv 2)) (inv 3)] x = f x := by
  obtain ⟨a, b, c, h⟩ := deg_three hf
  have e0 : f 0 = a := by rw [h, eval3_zero]
  have e1 : f 1 ^^^ f 0 = c ^^^ b := by rw [e0, h, eval3, mul_one, mul_one, xor_back]
  have e2 : mul (f 2 ^^^ f 0) (inv 2) = mul c 2 ^^^ b := by
    rw [e0, h, eval3, xor_back, mul_assoc, mul_inv 2 (by decide), mul_one]
  have e3 : mul ((f 1 ^^^ f 0) ^^^ mul (f 2 ^^^ f 0) (inv 2)) (inv 3) = c := by
    rw [e1, e2]
    have e4 : (c ^^^ b) ^^^ (mul c 2 ^^^ b) = mul c 3 := by
      have : mul c 3 = mul c 2 ^^^ c := by
        have e5 : (3 : UInt8) = 2 ^^^ 1 := by decide
        rw [e5, mul_right, mul_one]
      rw [this, xor4, UInt8.xor_self, UInt8.xor_zero, UInt8.xor_comm]
    rw [e4, mul_assoc, mul_inv 3 (by decide), mul_one]
  have e5 : (c ^^^ b) ^^^ c = b := by rw [UInt8.xor_comm c b, xor_back]
  rw [e3, e1, e5, e0, h]
/-- the noise that is reckoned from two shares -/
theorem two_fit (o x y : UInt8) {X Y : UInt8} (hX : X ≠ 0) (hY : Y ≠ 0) (h : X ≠ Y) :
    eval [o, mul (x ^^^ o) (inv X) ^^^ mul (mul (mul (x ^^^ o) (inv X) ^^^ mul (y ^^^ o) (inv Y)) (inv (X ^^^ Y))) X, mul (mul (x ^^^ o) (inv X) ^^^ mul (y ^^^ o) (inv Y)) (inv (X ^^^ Y))] X = x ∧
    eval [o, mul (x ^^^ o) (inv X) ^^^ mul (mul (mul (x ^^^ o) (inv X) ^^^ mul (y ^^^ o) (inv Y)) (inv (X ^^^ Y))) X, mul (mul (x ^^^ o) (inv X) ^^^ mul (y ^^^ o) (inv Y)) (inv (X ^^^ Y))] Y = y := by
  have hXY : X ^^^ Y ≠ 0 := fun e => h (xor_eq_zero.1 e)
  obtain ⟨p, hp⟩ : ∃ p, p = mul (x ^^^ o) (inv X) := ⟨_, rfl⟩
  obtain ⟨q, hq⟩ : ∃ q, q = mul (y ^^^ o) (inv Y) := ⟨_, rfl⟩
  have hpX : mul p X = x ^^^ o := by rw [hp, mul_assoc, inv_mul X hX, mul_one]
  have hqY : mul q Y = y ^^^ o := by rw [hq, mul_assoc, inv_mul Y hY, mul_one]
  rw [← hp, ← hq]
  obtain ⟨c, hc⟩ : ∃ c, c = mul (p ^^^ q) (inv (X ^^^ Y)) := ⟨_, rfl⟩
  have hcXY : mul c X ^^^ mul c Y = p ^^^ q := by rw [← mul_right, hc, mul_assoc, inv_mul _ hXY, mul_one]
  rw [← hc]
  constructor
  · rw [eval3]
    have : mul c X ^^^ (p ^^^ mul c X) = p := by rw [UInt8.xor_comm, xor_back]
    rw [this, hpX, xor_back]
  · rw [eval3]
    have : mul c Y ^^^ (p ^^^ mul c X) = q := by
      have e : mul c Y ^^^ (p ^^^ mul c X) = p ^^^ (mul c X ^^^ mul c Y) := by ac_rfl
      rw [e, hcXY, ← UInt8.xor_assoc, UInt8.xor_self, UInt8.zero_xor]
    rw [this, hqY, xor_back]
/-- another value at one point tells another secret -/
theorem other_secret {x y z : UInt8} (h1 : x ≠ y) (h2 : x ≠ z) (h3 : y ≠ z) (hx : x ≠ 0) (hy : y ≠ 0) {u v w w' : UInt8} (h : w ≠ w') : lag [x, y, z] [u, v, w] 0 ≠ lag [x, y, z] [u, v, w'] 0 := by
  intro e
  obtain ⟨a1, a2, a3⟩ := lag3_at h1 h2 h3 u v w
  obtain ⟨b1, b2, b3⟩ := lag3_at h1 h2 h3 u v w'
  have := Deg.unique (deg3 x y z u v w) (deg3 x y z u v w') (r := [x, y, 0]) (nodup3.2 ⟨h1, hx, hy⟩) (by simp) (fun t ht => by
    rcases List.mem_cons.1 ht with rfl | ht
    · rw [a1, b1]
    · rcases List.mem_cons.1 ht with rfl | ht
      · rw [a2, b2]
      · rw [List.mem_singleton] at ht
        subst ht
        exact e) z
  rw [a3, b3] at this
  exact h this
end Go.Proofs.Ytndbfphmjmhkjaa.Gf
