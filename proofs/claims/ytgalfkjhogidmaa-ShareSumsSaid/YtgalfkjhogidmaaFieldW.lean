/-
  THE WALKS through package field: Mul, Inv.
-/
import Derived.Test.YtgalfkjhogidmaaProg
import Derived.Outline
import Derived.Lib.Hide
import Derived.Test.YtgalfkjhogidmaaByte
namespace Go.Proofs.Ytgalfkjhogidmaa
open Go.RowKit

theorem mul_any (a b : UInt8) (w : World) :
    Calls Try.prog 25 #[.int .u8 (B8 a), .int .u8 (B8 b)] w fun e w' => e = .returned (.int .u8 (B8 (Gf.mul a b))) ∧ w = w' := by
  go_enter Try.func25, Try.ntmps25
  go_wp2
  go_loop [0, 5, 8] (fun x p i => ∃ k : Nat, k ≤ 8 ∧ i = .int .i64 k ∧ x = .int .u8 (B8 (Gf.pw a k)) ∧ p = .int .u8 (B8 (Gf.mulTo a b k))) (fun _ _ i => 8 - (intOf i).toNat)
  case atStart => exact ⟨0, by omega, rfl, rfl, rfl⟩
  case round =>
    obtain ⟨k, hk, rfl, rfl, rfl⟩ := hrel
    by_cases hlt : k < 8
    · have h1 := and_bit b k hk
      have h2 := and_top (Gf.pw a k)
      have h3 := bits_xor8 (Gf.mulTo a b k) (Gf.pw a k)
      have h4 := shl1_u8 (Gf.pw a k)
      have h5 : bits .xor .u8 (B8 (Gf.pw a k <<< 1)) 29 = B8 ((Gf.pw a k <<< 1) ^^^ 29) := bits_xor8 _ 29
      have H : Hid (Gf.pw a (k + 1) = Gf.dbl (Gf.pw a k) ∧ Gf.mulTo a b (k + 1) = Gf.mulTo a b k ^^^ Gf.sel (Gf.bit b k) (Gf.pw a k)) := Lib.hid ⟨rfl, rfl⟩
      generalize Gf.pw a k = x at *
      generalize Gf.mulTo a b k = p at *
      cases hb : Gf.bit b k <;> rw [hb] at h1 H <;> clear hb <;> by_cases hx : 128 ≤ x
      all_goals
        simp only [hx, decide_true, decide_false] at h2
        have HX := Lib.hid hx
        clear hx
        go_wp2
        go_round
        case rel => exact ⟨k + 1, by omega, by go_num, by rw [H.out.1, Gf.dbl]; first | rw [if_pos HX.out] | rw [if_neg HX.out], by rw [H.out.2, Gf.sel]; simp⟩
        case measure => simp [intOf]; omega
    · go_wp2
      go_ret
      have : k = 8 := by omega
      subst this
      exact ⟨rfl, rfl⟩

theorem inv_any (a : UInt8) (w : World) :
    Calls Try.prog 27 #[.int .u8 (B8 a)] w fun e w' => e = .returned (.int .u8 (B8 (Gf.inv a))) ∧ w = w' := by
  go_enter Try.func27, Try.ntmps27
  go_wp2
  go_loop [0, 3, 4] (fun x p i => ∃ k : Nat, k ≤ 7 ∧ i = .int .i64 k ∧ x = .int .u8 (B8 (Gf.invTo k a).1) ∧ p = .int .u8 (B8 (Gf.invTo k a).2)) (fun _ _ i => 7 - (intOf i).toNat)
  case atStart => exact ⟨0, by omega, rfl, rfl, rfl⟩
  case round =>
    obtain ⟨k, hk, rfl, rfl, rfl⟩ := hrel
    have H : Hid (Gf.invTo (k + 1) a = (Gf.mul (Gf.invTo k a).1 (Gf.invTo k a).1, Gf.mul (Gf.invTo k a).2 (Gf.mul (Gf.invTo k a).1 (Gf.invTo k a).1))) := Lib.hid rfl
    by_cases hlt : k < 7
    · generalize (Gf.invTo k a).1 = x at *
      generalize (Gf.invTo k a).2 = p at *
      go_wp2_with (go_at_call 25; refine (mul_any _ _ _).mono ?_; rintro e w' ⟨rfl, rfl⟩)
      go_round
      case rel => exact ⟨k + 1, by omega, by go_num, by rw [H.out], by rw [H.out]⟩
      case measure => simp [intOf]; omega
    · go_wp2
      go_ret
      have : k = 7 := by omega
      subst this
      exact ⟨rfl, rfl⟩

set_option maxRecDepth 20000 in
theorem refmul_any (a b : UInt8) (w : World) :
    Calls Try.prog 26 #[.int .u8 (B8 a), .int .u8 (B8 b)] w fun e w' => e = .returned (.int .u8 (B8 (Gf.mul a b))) ∧ w = w' := by
  have hR := Lib.hid (Gf.rmul_eq a b)
  have := B8_lo a
  have := B8_hi a
  go_enter Try.func26, Try.ntmps26
  go_wp2
  go_loop [5, 6] (fun x i => ∃ k : Nat, k ≤ 8 ∧ i = .int .i64 k ∧ x = .int .u16 (B16 (Gf.clTo a b k))) (fun _ i => 8 - (intOf i).toNat)
  case atStart => exact ⟨0, by omega, rfl, rfl⟩
  case round =>
    obtain ⟨k, hk, rfl, rfl⟩ := hrel
    by_cases hlt : k < 8
    · have h1 := and_bit b k hk
      have h2 := shl_u16 a k hlt
      have h3 := bits_xor16 (Gf.clTo a b k) (Gf.sh a k)
      have H : Hid (Gf.clTo a b (k + 1) = Gf.clTo a b k ^^^ Gf.sel16 (Gf.bit b k) (Gf.sh a k)) := Lib.hid rfl
      generalize Gf.clTo a b k = n at *
      generalize Gf.sh a k = z at *
      cases hb : Gf.bit b k <;> rw [hb] at h1 H <;> clear hb
      all_goals
        go_wp2
        go_round
        case rel => exact ⟨k + 1, by omega, by go_num, by rw [H.out, Gf.sel16]; simp⟩
        case measure => simp [intOf]; omega
    · have hk8 : 8 = k := by omega
      have HR : Hid (Gf.redTo (Gf.clTo a b k) 7 = Gf.redTo (Gf.clTo a b 8) 7) := by rw [← hk8]; exact Lib.hid rfl
      clear hk8
      generalize Gf.clTo a b k = n at *
      go_wp2
      go_loop [5, 7] (fun x i => ∃ k : Nat, k ≤ 7 ∧ i = .int .i64 (14 - k) ∧ x = .int .u16 (B16 (Gf.redTo n k))) (fun _ i => (intOf i).toNat - 7)
      case atStart => exact ⟨0, by omega, rfl, rfl⟩
      case round =>
        obtain ⟨j, hj, rfl, rfl⟩ := hrel
        by_cases hlt : j < 7
        · have h1 := and_bit16 (Gf.redTo n j) (14 - j)
          have h2 : IntKind.u16.wrap (285 * 2 ^ (14 - j - 8)) = B16 (285 <<< UInt16.ofNat (6 - j)) := by
            have h : (List.range 7).all (fun j => IntKind.u16.wrap (285 * 2 ^ (14 - j - 8)) == B16 (285 <<< UInt16.ofNat (6 - j))) = true := by decide +kernel
            exact eq_of_beq (List.all_eq_true.1 h j (by simp; omega))
          have h3 := bits_xor16 (Gf.redTo n j) (285 <<< UInt16.ofNat (6 - j))
          have H : Hid (Gf.redTo n (j + 1) = Gf.redTo n j ^^^ Gf.sel16 (Gf.bit16 (Gf.redTo n j) (14 - j)) (285 <<< UInt16.ofNat (6 - j))) := Lib.hid rfl
          generalize Gf.redTo n j = y at *
          generalize 285 <<< UInt16.ofNat (6 - j) = z at *
          cases hb : Gf.bit16 y (14 - j) <;> rw [hb] at h1 H <;> clear hb
          all_goals
            go_wp2
            go_round
            case rel => exact ⟨j + 1, by omega, by go_num, by rw [H.out, Gf.sel16]; simp⟩
            case measure => simp [intOf]; omega
        · have h7 : 7 = j := by omega
          have HR2 : Hid (Gf.redTo n j = Gf.redTo n 7) := by rw [← h7]; exact Lib.hid rfl
          clear h7
          generalize Gf.redTo n j = y at *
          have h8 := wrap_u8_u16 y
          go_wp2
          go_ret
          exact ⟨ret_u8 (by rw [HR2.out, HR.out, ← hR.out, Gf.rmul]), rfl⟩
end Go.Proofs.Ytgalfkjhogidmaa
