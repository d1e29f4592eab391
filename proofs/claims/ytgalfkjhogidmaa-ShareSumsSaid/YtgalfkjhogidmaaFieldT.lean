/-
  THE WALK through the reference's At.
-/
import Derived.Test.YtgalfkjhogidmaaFieldU
namespace Go.Proofs.Ytgalfkjhogidmaa
open Go.RowKit

/-- a term's part behind k rounds -/
def part (xs : List UInt8) (s : UInt8) (i : Nat) (x : UInt8) (k : Nat) : UInt8 := Gf.mul (Gf.aboveTo s xs i x k) (Gf.inv (Gf.aboveTo 1 xs i (Gf.nth xs i) k))
theorem part_zero (xs : List UInt8) (s : UInt8) (i : Nat) (x : UInt8) : part xs s i x 0 = s := by
  simp [part, Gf.aboveTo, Gf.inv_one, Gf.mul_one]
theorem part_own (xs : List UInt8) (s : UInt8) (i : Nat) (x : UInt8) : part xs s i x (i + 1) = part xs s i x i := by
  simp [part, Gf.aboveTo]
theorem part_other (xs : List UInt8) (s : UInt8) (i : Nat) (x : UInt8) (k : Nat) (h : k ≠ i) :
    part xs s i x (k + 1) = Gf.mul (part xs s i x k) (Gf.mul (x ^^^ Gf.nth xs k) (Gf.inv (Gf.nth xs i ^^^ Gf.nth xs k))) := by
  simp only [part, Gf.aboveTo, if_neg h, Gf.inv_mul_dist]
  generalize Gf.aboveTo s xs i x k = a
  generalize Gf.inv (Gf.aboveTo 1 xs i (Gf.nth xs i) k) = b
  rw [Gf.mul_assoc, Gf.mul_assoc, ← Gf.mul_assoc b, ← Gf.mul_assoc _ b, Gf.mul_comm b]
def Unlike (xs : List UInt8) (i : Nat) (n : Nat) : Prop := ∀ k < n, k ≠ i → Gf.nth xs k ≠ Gf.nth xs i
theorem dis_of_unlike (xs : List UInt8) (h : ∀ i < xs.length, Unlike xs i xs.length) : dis xs = true := by
  simp only [dis, decide_eq_true_eq]
  rw [List.nodup_iff_pairwise_ne, List.pairwise_iff_getElem]
  intro i j hi hj hij
  have := h j hj i hi (by omega)
  rwa [Gf.nth_lt hi, Gf.nth_lt hj] at this
theorem dis_of_like (xs : List UInt8) (i k : Nat) (hi : i < xs.length) (hk : k < xs.length) (hik : k ≠ i) (h : Gf.nth xs k = Gf.nth xs i) : dis xs = false := by
  simp only [dis, decide_eq_false_iff_not]
  intro hn
  exact Gf.nodup_getD hn hk hi hik h

set_option maxHeartbeats 400000 in
theorem refat_any (A B : Option Addr) (c d : Nat) (xs ys : List UInt8) (x : UInt8) (w : World) (hl : xs.length ≤ maxLen) (hm : ys.length ≤ maxLen) (hR : RdB w A xs) (hS : RdB w B ys) :
    Calls Try.prog 30 #[.slice A xs.length c, .slice B ys.length d, .int .u8 (B8 x)] w fun e w' =>
      e = .returned (.tuple #[.int .u8 (B8 (atVal xs ys x)), .bool (atOk xs ys)]) ∧ Drawn w w' := by
  unfold maxLen at hl hm
  by_cases he : xs.length = ys.length
  · have h1 : ((xs.length : Int) != (ys.length : Int)) = false := by rw [he]; simp
    have HE := Lib.hid he
    clear he
    go_enter Try.func30, Try.ntmps30
    go_wp2_with fail
    go_loopw [8, 19] (fun v i wr => ∃ k : Nat, k ≤ xs.length ∧ i = .int .i64 k ∧ v = .int .u8 (B8 (Gf.atTo xs ys x k)) ∧ Drawn w wr ∧ Hid (∀ i < k, Unlike xs i xs.length)) (fun _ i _ => xs.length - (intOf i).toNat)
    case atStart => exact ⟨0, Nat.zero_le _, rfl, rfl, Drawn.refl _, fun _ h => by omega⟩
    case round =>
      obtain ⟨i, hi, rfl, rfl, hD, HU⟩ := hrel
      have hR1 := hR.drawn hD
      have hS1 := hS.drawn hD
      by_cases hlt : i < xs.length
      · have H : Hid (Gf.atTo xs ys x (i + 1) = Gf.atTo xs ys x i ^^^ part xs (Gf.nth ys i) i x xs.length) := Lib.hid rfl
        generalize Gf.atTo xs ys x i = v at *
        have hlt2 : i < ys.length := by rw [← HE.out]; exact hlt
        obtain ⟨b2, o2, rfl, hc2⟩ := hS1.op (by omega)
        have hc3 := hc2 i hlt2
        clear hc2
        go_wp2
        clear hc3
        obtain ⟨wo, hwo⟩ : ∃ wo : World, wo = wr := ⟨_, rfl⟩
        have HD := Lib.hid hD
        clear hD
        rw [← hwo] at hR1 HD ⊢
        clear hwo
        go_loopw [10, 28] (fun a j wr => ∃ k : Nat, k ≤ xs.length ∧ j = .int .i64 k ∧ a = .int .u8 (B8 (part xs (Gf.nth ys i) i x k)) ∧ Drawn wo wr ∧ Hid (Unlike xs i k)) (fun _ j _ => xs.length - (intOf j).toNat)
        case atStart => exact ⟨0, Nat.zero_le _, rfl, by rw [part_zero], Drawn.refl _, fun _ h => by omega⟩
        case round =>
          obtain ⟨j, hj, rfl, rfl, hD2, HU2⟩ := hrel
          have hR2 := hR1.drawn hD2
          by_cases hlj : j < xs.length
          · by_cases hji : j = i
            · have hne : ((j : Int) != (i : Int)) = false := by rw [hji]; simp
              have H1 : Hid (part xs (Gf.nth ys i) i x (j + 1) = part xs (Gf.nth ys i) i x j) := by rw [hji]; exact Lib.hid (part_own ..)
              have HJ := Lib.hid hji
              clear hji
              generalize part xs (Gf.nth ys i) i x j = a1 at *
              go_wp2_with fail
              go_quiet (fail)
              go_wp2
              go_roundw
              case rel => exact ⟨j + 1, by omega, by go_num, by rw [H1.out], hD2.drewN _, fun k hk hki => HU2.out k (by have := HJ.out; omega) hki⟩
              case measure => simp [intOf]; omega
            · have hne : ((j : Int) != (i : Int)) = true := by simp; omega
              obtain ⟨b, o, rfl, hc⟩ := hR2.op (by omega)
              have hc1 := hc j hlj
              have hc2 := hc i hlt
              clear hc
              by_cases hxx : Gf.nth xs j = Gf.nth xs i
              · have ht : (B8 (Gf.nth xs j) == B8 (Gf.nth xs i)) = true := by rw [hxx]; simp
                have HO : Hid (atOk xs ys = false ∧ atVal xs ys x = 0) := Lib.hid (by simp [atOk, atVal, dis_of_like xs i j hlt hlj hji hxx])
                clear hxx hji
                go_wp2_with fail
                go_quiet (fail)
                go_wp2
                go_ret2
                exact ⟨ret_u8_bool HO.out.2.symm HO.out.1.symm, (HD.out.trans hD2).drewN _⟩
              · have ht : (B8 (Gf.nth xs j) == B8 (Gf.nth xs i)) = false := by rw [B8_beq]; simpa using hxx
                have H1 := Lib.hid (part_other xs (Gf.nth ys i) i x j hji)
                have HJ := Lib.hid (And.intro hji hxx)
                clear hxx hji
                have hx1 := bits_xor8 x (Gf.nth xs j)
                have hx2 := bits_xor8 (Gf.nth xs i) (Gf.nth xs j)
                generalize part xs (Gf.nth ys i) i x j = a1 at *
                go_wp2_with fail
                go_quiet (fail)
                go_wp2
                go_quiet ((first | (go_at_call 26; exact quiet_same2 (refmul_any _ _ _)) | (go_at_call 28; exact quiet_same2 (refinv_any _ _))))
                go_wp2
                go_roundw
                case rel => exact ⟨j + 1, by omega, by go_num, by rw [H1.out], hD2.drewN _, fun k hk hki => by
                  by_cases e : k = j
                  · rw [e]; exact HJ.out.2
                  · exact HU2.out k (by omega) hki⟩
                case measure => simp [intOf]; omega
          · have hj' : xs.length = j := by omega
            rw [hj'] at H
            have HU3 : Hid (Unlike xs i xs.length) := by rw [hj']; exact HU2
            clear hj'
            generalize part xs (Gf.nth ys i) i x j = a1 at *
            have hx1 := bits_xor8 v a1
            go_wp2
            go_roundw
            case rel => exact ⟨i + 1, by omega, by go_num, by rw [H.out], HD.out.trans hD2, fun k hk => by
              by_cases e : k = i
              · rw [e]; exact HU3.out
              · exact HU.out k (by omega)⟩
            case measure => simp [intOf]; omega
      · have e : xs.length = i := by omega
        have HO : Hid (atOk xs ys = true ∧ atVal xs ys x = Gf.atTo xs ys x i) := by
          have hd := dis_of_unlike xs (by rw [e]; rw [e] at HU; exact HU.out)
          exact Lib.hid (by simp [atOk, atVal, hd, HE.out, Gf.lag, ← e])
        clear e
        generalize Gf.atTo xs ys x i = v at *
        go_wp2
        go_ret2
        exact ⟨ret_u8_bool HO.out.2.symm HO.out.1.symm, hD⟩
  · have h1 : ((xs.length : Int) != (ys.length : Int)) = true := by simp; omega
    have HO : Hid (atOk xs ys = false ∧ atVal xs ys x = 0) := Lib.hid (by simp [atOk, atVal, he])
    clear he
    go_enter Try.func30, Try.ntmps30
    go_wp2_with fail
    go_ret2
    exact ⟨ret_u8_bool HO.out.2.symm HO.out.1.symm, Drawn.refl _⟩
theorem refat_len (A B : Option Addr) (n m c d : Nat) (xs ys : List UInt8) (x : UInt8) (w : World) (hn : xs.length = n) (hm' : ys.length = m) (hl : xs.length ≤ maxLen) (hm : ys.length ≤ maxLen) (hR : RdB w A xs) (hS : RdB w B ys) :
    Calls Try.prog 30 #[.slice A n c, .slice B m d, .int .u8 (B8 x)] w fun e w' =>
      e = .returned (.tuple #[.int .u8 (B8 (atVal xs ys x)), .bool (atOk xs ys)]) ∧ Drawn w w' := by
  subst hn hm'
  exact refat_any A B c d xs ys x w hl hm hR hS
end Go.Proofs.Ytgalfkjhogidmaa
