/-
  THE WALKS through package field and its reference: the reference's Inv; Eval of both.
-/
import Derived.Test.YtgalfkjhogidmaaFieldW
import Derived.Test.YtgalfkjhogidmaaPoly
import Derived.Test.YtgalfkjhogidmaaRd
import Derived.Deep.QuietTactic
import Derived.BigQuiet
namespace Go.Proofs.Ytgalfkjhogidmaa
open Go.RowKit

theorem inv_found {a : UInt8} {k : Nat} (h : Gf.mul a (UInt8.ofNat k) = 1) : Gf.inv a = UInt8.ofNat k := (Gf.inv_unique h).symm
theorem inv_lost {a : UInt8} (h : ∀ j < 256, Gf.mul a (UInt8.ofNat j) ≠ 1) : Gf.inv a = 0 := by
  by_cases ha : a = 0
  · subst ha; exact Gf.inv_zero
  · exact absurd (Gf.mul_inv a ha) (by have := h (Gf.inv a).toNat (Gf.inv a).toNat_lt; simpa using this)

set_option maxRecDepth 20000 in
theorem refinv_any (a : UInt8) (w : World) :
    Calls Try.prog 28 #[.int .u8 (B8 a)] w fun e w' => e = .returned (.int .u8 (B8 (Gf.inv a))) ∧ w = w' := by
  go_enter Try.func28, Try.ntmps28
  go_wp2
  go_loop [3] (fun i => ∃ k : Nat, k ≤ 256 ∧ i = .int .i64 k ∧ ∀ j < k, Gf.mul a (UInt8.ofNat j) ≠ 1) (fun i => 256 - (intOf i).toNat)
  case atStart => exact ⟨0, by omega, rfl, fun j hj => by omega⟩
  case round =>
    obtain ⟨k, hk, rfl, hno⟩ := hrel
    have HN := Lib.hid hno
    clear hno
    by_cases hlt : k < 256
    · have h1 := wrap_u8_nat k
      by_cases hm : Gf.mul a (UInt8.ofNat k) = 1
      · have h2 : (B8 (Gf.mul a (UInt8.ofNat k)) == 1) = true := by rw [hm]; rfl
        have HI := Lib.hid (inv_found hm)
        clear hm
        go_wp2_with (go_at_call 26; refine (refmul_any _ _ _).mono ?_; rintro e w' ⟨rfl, rfl⟩)
        go_ret
        exact ⟨ret_u8 HI.out.symm, rfl⟩
      · have h2 : (B8 (Gf.mul a (UInt8.ofNat k)) == 1) = false := by
          rw [show (1 : Int) = B8 1 from rfl, B8_beq]; simpa using hm
        have HM := Lib.hid hm
        clear hm
        go_wp2_with (go_at_call 26; refine (refmul_any _ _ _).mono ?_; rintro e w' ⟨rfl, rfl⟩)
        go_round
        case rel => exact ⟨k + 1, by omega, by go_num, fun j hj => by
          by_cases e : j = k
          · rw [e]; exact HM.out
          · exact HN.out j (by omega)⟩
        case measure => simp [intOf]; omega
    · have HI : Hid (Gf.inv a = 0) := Lib.hid (inv_lost fun j hj => HN.out j (by omega))
      go_wp2
      go_ret
      exact ⟨ret_u8 (b := Gf.inv a) HI.out.symm, rfl⟩

/-- Eval behind k rounds: the value of the last k coefficients -/
theorem eval_drop (l : List UInt8) (x : UInt8) (k : Nat) (h : k < l.length) :
    Gf.eval (l.drop (l.length - (k + 1))) x = Gf.mul (Gf.eval (l.drop (l.length - k)) x) x ^^^ Gf.nth l (l.length - 1 - k) := by
  have e : l.length - (k + 1) + 1 = l.length - k := by omega
  have e2 : l.length - 1 - k = l.length - (k + 1) := by omega
  rw [e2, List.drop_eq_getElem_cons (by omega), e, Gf.eval]
  rw [Gf.nth_lt (by omega)]

theorem eval_any (A : Option Addr) (c : Nat) (l : List UInt8) (x : UInt8) (w : World) (hl : l.length ≤ maxLen) (hR : RdB w A l) :
    Calls Try.prog 31 #[.slice A l.length c, .int .u8 (B8 x)] w fun e w' => e = .returned (.int .u8 (B8 (Gf.eval l x))) ∧ Drawn w w' := by
  unfold maxLen at hl
  go_enter Try.func31, Try.ntmps31
  go_wp2
  go_loopw [5, 9] (fun v i wr => ∃ k : Nat, k ≤ l.length ∧ i = .int .i64 k ∧ v = .int .u8 (B8 (Gf.eval (l.drop (l.length - k)) x)) ∧ Drawn w wr) (fun _ i _ => l.length - (intOf i).toNat)
  case atStart => exact ⟨0, Nat.zero_le _, rfl, by simp [Gf.eval]; rfl, Drawn.refl _⟩
  case round =>
    obtain ⟨k, hk, rfl, rfl, hD⟩ := hrel
    have hR' := hR.drawn hD
    by_cases hlt : k < l.length
    · have H := Lib.hid (eval_drop l x k hlt)
      generalize Gf.eval (l.drop (l.length - k)) x = v at *
      obtain ⟨b, o, rfl, hc⟩ := hR'.op (by omega)
      have hc1 := hc (l.length - 1 - k) (by omega)
      have h1 := bits_xor8 (Gf.mul v x) (Gf.nth l (l.length - 1 - k))
      clear hc hR
      generalize Gf.nth l (l.length - 1 - k) = d at *
      go_wp2_with fail
      go_quiet ((go_at_call 25; exact quiet_same (mul_any _ _ _)))
      go_wp2
      go_roundw
      case rel => exact ⟨k + 1, by omega, by go_num, by rw [H.out], hD.drewN _⟩
      case measure => simp [intOf]; omega
    · have e : l.length = k := by omega
      have H : Hid (Gf.eval (l.drop (l.length - k)) x = Gf.eval l x) := by
        rw [e, Nat.sub_self, List.drop_zero]; exact Lib.hid rfl
      clear e
      generalize Gf.eval (l.drop (l.length - k)) x = v at *
      go_wp2
      go_ret
      exact ⟨ret_u8 H.out, hD⟩

/-- the value as the document reckons it: the sum, the power behind so many coefficients -/
def evTo (l : List UInt8) (x : UInt8) : Nat → UInt8 × UInt8
  | 0 => (0, 1)
  | k + 1 => ((evTo l x k).1 ^^^ Gf.mul (Gf.nth l k) (evTo l x k).2, Gf.mul (evTo l x k).2 x)
theorem evTo_eq (l : List UInt8) (x : UInt8) (k : Nat) (h : k ≤ l.length) : Gf.eval l x = (evTo l x k).1 ^^^ Gf.mul (Gf.eval (l.drop k) x) (evTo l x k).2 := by
  induction k with
  | zero => simp [evTo, Gf.mul_one]
  | succ k ih =>
    rw [ih (by omega), List.drop_eq_getElem_cons (show k < l.length by omega), Gf.eval, ← Gf.nth_lt (by omega)]
    simp only [evTo]
    rw [Gf.mul_left, Gf.mul_assoc, Gf.mul_comm x, UInt8.xor_assoc, UInt8.xor_comm (Gf.mul (Gf.nth l k) _)]
theorem evTo_end (l : List UInt8) (x : UInt8) : (evTo l x l.length).1 = Gf.eval l x := by
  rw [evTo_eq l x l.length (Nat.le_refl _)]
  simp [Gf.eval, Gf.zero_mul]

theorem refeval_any (A : Option Addr) (c : Nat) (l : List UInt8) (x : UInt8) (w : World) (hl : l.length ≤ maxLen) (hR : RdB w A l) :
    Calls Try.prog 32 #[.slice A l.length c, .int .u8 (B8 x)] w fun e w' => e = .returned (.int .u8 (B8 (Gf.eval l x))) ∧ w = w' := by
  unfold maxLen at hl
  go_enter Try.func32, Try.ntmps32
  go_wp2
  go_loop [5, 6, 11] (fun v p i => ∃ k : Nat, k ≤ l.length ∧ i = .int .i64 k ∧ v = .int .u8 (B8 (evTo l x k).1) ∧ p = .int .u8 (B8 (evTo l x k).2)) (fun _ _ i => l.length - (intOf i).toNat)
  case atStart => exact ⟨0, Nat.zero_le _, rfl, rfl, rfl⟩
  case round =>
    obtain ⟨k, hk, rfl, rfl, rfl⟩ := hrel
    by_cases hlt : k < l.length
    · have H : Hid (evTo l x (k + 1) = ((evTo l x k).1 ^^^ Gf.mul (Gf.nth l k) (evTo l x k).2, Gf.mul (evTo l x k).2 x)) := Lib.hid rfl
      generalize (evTo l x k).1 = s at *
      generalize (evTo l x k).2 = p at *
      obtain ⟨b, o, rfl, hc⟩ := hR.op (by omega)
      have hc1 := hc k hlt
      clear hc
      have h1 := bits_xor8 s (Gf.mul (Gf.nth l k) p)
      go_wp2_with (go_at_call 26; refine (refmul_any _ _ _).mono ?_; rintro e w' ⟨rfl, rfl⟩)
      go_round
      case rel => exact ⟨k + 1, by omega, by go_num, by rw [H.out], by rw [H.out]⟩
      case measure => simp [intOf]; omega
    · have e : l.length = k := by omega
      have H : Hid ((evTo l x k).1 = Gf.eval l x) := by
        rw [← e, evTo_end]; exact Lib.hid rfl
      clear e
      generalize (evTo l x k).1 = v at *
      go_wp2
      go_ret
      exact ⟨ret_u8 H.out, rfl⟩
theorem eval_len (A : Option Addr) (n c : Nat) (l : List UInt8) (x : UInt8) (w : World) (hn : l.length = n) (hl : l.length ≤ maxLen) (hR : RdB w A l) :
    Calls Try.prog 31 #[.slice A n c, .int .u8 (B8 x)] w fun e w' => e = .returned (.int .u8 (B8 (Gf.eval l x))) ∧ Drawn w w' := by
  subst hn
  exact eval_any A c l x w hl hR
theorem refeval_len (A : Option Addr) (n c : Nat) (l : List UInt8) (x : UInt8) (w : World) (hn : l.length = n) (hl : l.length ≤ maxLen) (hR : RdB w A l) :
    Calls Try.prog 32 #[.slice A n c, .int .u8 (B8 x)] w fun e w' => e = .returned (.int .u8 (B8 (Gf.eval l x))) ∧ w = w' := by
  subst hn
  exact refeval_any A c l x w hl hR
end Go.Proofs.Ytgalfkjhogidmaa
