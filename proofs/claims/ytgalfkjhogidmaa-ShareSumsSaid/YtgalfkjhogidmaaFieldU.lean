/-
  THE WALKS through package field: distinct, At.
-/
import Derived.Test.YtgalfkjhogidmaaFieldV
namespace Go.Proofs.Ytgalfkjhogidmaa
open Go.RowKit

/-! what distinct has met behind k rounds -/
def met (l : List UInt8) : Nat → Array Value
  | 0 => Array.replicate 256 (.bool false)
  | k + 1 => (met l k).setIfInBounds (Gf.nth l k).toNat (.bool true)
theorem met_size (l : List UInt8) (k : Nat) : (met l k).size = 256 := by
  induction k with
  | zero => simp [met]
  | succ k ih => simp [met, ih]
def hasB (l : List UInt8) (k : Nat) (x : UInt8) : Bool := (l.take k).contains x
theorem met_at (l : List UInt8) (k : Nat) (hk : k ≤ l.length) (x : UInt8) : (met l k)[x.toNat]? = some (.bool (hasB l k x)) := by
  have hx := x.toNat_lt
  induction k with
  | zero =>
    have hx' : x.toNat < 256 := hx
    simp [met, hasB, hx']
  | succ k ih =>
    have ih := ih (by omega)
    simp only [met, hasB]
    rw [List.take_succ_eq_append_getElem (show k < l.length by omega), ← Gf.nth_lt (by omega)]
    by_cases e : (Gf.nth l k) = x
    · subst e
      rw [Array.getElem?_setIfInBounds_self_of_lt (by rw [met_size]; omega)]
      simp
    · rw [Array.getElem?_setIfInBounds_ne (fun h => e (UInt8.toNat_inj.1 h)), ih]
      simp [hasB]
      exact fun h => absurd h.symm e
def dis (l : List UInt8) : Bool := decide l.Nodup
theorem nodup_take_succ (l : List UInt8) (k : Nat) (hk : k < l.length) (h : (l.take k).Nodup) : (l.take (k + 1)).Nodup ↔ hasB l k (Gf.nth l k) = false := by
  rw [List.take_succ_eq_append_getElem hk, ← Gf.nth_lt hk, List.nodup_append]
  simp [h, hasB]
  constructor
  · intro h h'; exact h _ h' rfl
  · intro h a ha e; exact h (e ▸ ha)
theorem dis_yes (l : List UInt8) (k : Nat) (hk : l.length ≤ k) (h : (l.take k).Nodup) : dis l = true := by
  rw [List.take_of_length_le hk] at h
  simpa [dis] using h
theorem dis_no (l : List UInt8) (k : Nat) (hk : k < l.length) (h : (l.take k).Nodup) (hb : hasB l k (Gf.nth l k) = true) : dis l = false := by
  have := nodup_take_succ l k hk h
  rw [hb] at this
  simp only [dis, decide_eq_false_iff_not]
  intro hn
  have h2 := this.1 (hn.sublist (List.take_sublist _ _))
  cases h2

def DisRel (l : List UInt8) (w wr : World) (k : Nat) : Prop :=
  Kept w wr ∧ w.heap.size < wr.heap.size ∧ wr.heap[w.heap.size]? = some (.cells (met l k) 64 (0, 0)) ∧ (l.take k).Nodup
theorem DisRel.start (l : List UInt8) (w : World) : DisRel l w (w.alloc (.cells (met l 0) 64 (0, 0))) 0 :=
  ⟨(Below.refl _ _).alloc (Nat.le_refl _) _, by rw [World.size_alloc]; omega, heap_alloc_new w _, by simp⟩
theorem DisRel.cell {l : List UInt8} {w wr : World} {k : Nat} (h : DisRel l w wr k) (hk : k ≤ l.length) (x : UInt8) : wr.cell? ⟨w.heap.size, (B8 x).toNat, none⟩ = some (.bool (hasB l k x)) := by
  rw [cell_of_row wr _ _ _ _ _ h.2.2.1]
  exact met_at l k hk x
theorem DisRel.frozen {l : List UInt8} {w wr : World} {k : Nat} (h : DisRel l w wr k) (x : UInt8) : wr.frozen? ⟨w.heap.size, (B8 x).toNat, none⟩ = false := by
  simp [World.frozen?, h.2.2.1]
theorem DisRel.step {l : List UInt8} {w wr : World} {k : Nat} (h : DisRel l w wr k) (hk : k < l.length) (hb : hasB l k (Gf.nth l k) = false) :
    DisRel l w (wr.setCell ⟨w.heap.size, (B8 (Gf.nth l k)).toNat, none⟩ (.bool true)) (k + 1) := by
  obtain ⟨h1, h2, h3, h4⟩ := h
  refine ⟨h1.setCell (Nat.le_refl _) _, by simpa [World.setCell] using h2, ?_, (nodup_take_succ l k hk h4).2 hb⟩
  simp only [World.setCell, Array.getElem?_modify, h3]
  rfl

theorem distinct_any (A : Option Addr) (c : Nat) (l : List UInt8) (w : World) (hl : l.length ≤ maxLen) (hR : RdB w A l) :
    Calls Try.prog 38 #[.slice A l.length c] w fun e w' => e = .returned (.bool (dis l)) ∧ Kept w w' := by
  unfold maxLen at hl
  have hz : ∀ w, (zeroValue 64).run Try.prog w = .ok (.agg (met l 0)) w := fun _ => by kernel_rfl
  go_enter Try.func38, Try.ntmps38
  go_wp2
  go_loopw [8] (fun i wr => ∃ k : Nat, k ≤ l.length ∧ i = .int .i64 k ∧ DisRel l w wr k) (fun i _ => l.length - (intOf i).toNat)
  case atStart => exact ⟨0, Nat.zero_le _, rfl, DisRel.start l w⟩
  case round =>
    obtain ⟨k, hk, rfl, hD⟩ := hrel
    by_cases hlt : k < l.length
    · obtain ⟨b, o, rfl, hc⟩ := (hR.kept hD.1).op (by omega)
      have hc1 := hc k hlt
      clear hc
      have hc2 := hD.cell hk (Gf.nth l k)
      have hf := hD.frozen (Gf.nth l k)
      have hlo := B8_lo (Gf.nth l k)
      have hhi := B8_hi (Gf.nth l k)
      cases hb : hasB l k (Gf.nth l k)
      · have hS := hD.step hlt hb
        rw [hb] at hc2
        have HB := Lib.hid hb
        clear hb
        go_wp2
        go_roundw
        case rel => exact ⟨k + 1, by omega, by go_num, hS⟩
        case measure => simp [intOf]; omega
      · rw [hb] at hc2
        have HN := Lib.hid (dis_no l k hlt hD.2.2.2 hb)
        clear hb
        go_wp2
        go_ret
        exact ⟨ret_bool HN.out.symm, hD.1⟩
    · have HY := Lib.hid (dis_yes l k (by omega) hD.2.2.2)
      go_wp2
      go_ret
      exact ⟨ret_bool HY.out.symm, hD.1⟩

/-! ### At -/
def atOk (xs ys : List UInt8) : Bool := decide (xs.length = ys.length) && dis xs
def atVal (xs ys : List UInt8) (x : UInt8) : UInt8 := if atOk xs ys then Gf.lag xs ys x else 0

set_option maxHeartbeats 400000 in
theorem at_any (A B : Option Addr) (c d : Nat) (xs ys : List UInt8) (x : UInt8) (w : World) (hl : xs.length ≤ maxLen) (hm : ys.length ≤ maxLen) (hR : RdB w A xs) (hS : RdB w B ys) :
    Calls Try.prog 29 #[.slice A xs.length c, .slice B ys.length d, .int .u8 (B8 x)] w fun e w' =>
      e = .returned (.tuple #[.int .u8 (B8 (atVal xs ys x)), .bool (atOk xs ys)]) ∧ Kept w w' := by
  unfold maxLen at hl hm
  by_cases he : xs.length = ys.length
  · have h1 : ((xs.length : Int) != (ys.length : Int)) = false := by rw [he]; simp
    have HE := Lib.hid he
    clear he
    cases hd : dis xs
    · have HO : Hid (atOk xs ys = false ∧ atVal xs ys x = 0) := Lib.hid (by simp [atOk, atVal, hd])
      go_enter Try.func29, Try.ntmps29
      go_wp2_with (go_at_call 38; refine (distinct_any _ _ _ _ hl hR).mono ?_; rintro e w' ⟨rfl, hK⟩; rw [hd])
      go_ret2
      exact ⟨ret_u8_bool HO.out.2.symm HO.out.1.symm, hK⟩
    · have HO : Hid (atOk xs ys = true ∧ atVal xs ys x = Gf.atTo xs ys x xs.length) := Lib.hid (by simp [atOk, atVal, hd, HE.out, Gf.lag])
      go_enter Try.func29, Try.ntmps29
      go_wp2_with (go_at_call 38; refine (distinct_any _ _ _ _ hl hR).mono ?_; rintro e w1 ⟨rfl, hK⟩; rw [hd])
      have hR1 := hR.kept hK
      have hS1 := hS.kept hK
      clear hR hS hd
      go_loop [8, 27] (fun v i => ∃ k : Nat, k ≤ xs.length ∧ i = .int .i64 k ∧ v = .int .u8 (B8 (Gf.atTo xs ys x k))) (fun _ i => xs.length - (intOf i).toNat)
      case atStart => exact ⟨0, Nat.zero_le _, rfl, rfl⟩
      case round =>
        obtain ⟨i, hi, rfl, rfl⟩ := hrel
        by_cases hlt : i < xs.length
        · have H : Hid (Gf.atTo xs ys x (i + 1) = Gf.atTo xs ys x i ^^^ Gf.mul (Gf.aboveTo (Gf.nth ys i) xs i x xs.length) (Gf.inv (Gf.aboveTo 1 xs i (Gf.nth xs i) xs.length))) := Lib.hid rfl
          generalize Gf.atTo xs ys x i = v at *
          have hlt2 : i < ys.length := by rw [← HE.out]; exact hlt
          obtain ⟨b, o, rfl, hc⟩ := hR1.op (by omega)
          obtain ⟨b2, o2, rfl, hc2⟩ := hS1.op (by omega)
          have hc1 := hc i hlt
          have hc3 := hc2 i hlt2
          have HC := Lib.hid hc
          clear hc hc2
          go_wp2
          clear hc1 hc3
          go_loop [11, 12, 38] (fun a q j => ∃ k : Nat, k ≤ xs.length ∧ j = .int .i64 k ∧ a = .int .u8 (B8 (Gf.aboveTo (Gf.nth ys i) xs i x k)) ∧ q = .int .u8 (B8 (Gf.aboveTo 1 xs i (Gf.nth xs i) k))) (fun _ _ j => xs.length - (intOf j).toNat)
          case atStart => exact ⟨0, Nat.zero_le _, rfl, rfl, rfl⟩
          case round =>
            obtain ⟨j, hj, rfl, rfl, rfl⟩ := hrel
            by_cases hlj : j < xs.length
            · have hcj := HC.out j hlj
              have H1 : Hid (Gf.aboveTo (Gf.nth ys i) xs i x (j + 1) = if j = i then Gf.aboveTo (Gf.nth ys i) xs i x j else Gf.mul (Gf.aboveTo (Gf.nth ys i) xs i x j) (x ^^^ Gf.nth xs j)) := Lib.hid rfl
              have H2 : Hid (Gf.aboveTo 1 xs i (Gf.nth xs i) (j + 1) = if j = i then Gf.aboveTo 1 xs i (Gf.nth xs i) j else Gf.mul (Gf.aboveTo 1 xs i (Gf.nth xs i) j) (Gf.nth xs i ^^^ Gf.nth xs j)) := Lib.hid rfl
              have hx1 := bits_xor8 x (Gf.nth xs j)
              have hx2 := bits_xor8 (Gf.nth xs i) (Gf.nth xs j)
              generalize Gf.aboveTo (Gf.nth ys i) xs i x j = a1 at *
              generalize Gf.aboveTo 1 xs i (Gf.nth xs i) j = a2 at *
              by_cases hji : j = i
              · have hne : ((j : Int) != (i : Int)) = false := by rw [hji]; simp
                have HJ := Lib.hid hji
                clear hji
                go_wp2
                go_round
                case rel => exact ⟨j + 1, by omega, by go_num, by rw [H1.out, if_pos HJ.out], by rw [H2.out, if_pos HJ.out]⟩
                case measure => simp [intOf]; omega
              · have hne : ((j : Int) != (i : Int)) = true := by simp; omega
                have HJ := Lib.hid hji
                clear hji
                go_wp2_with (go_at_call 25; refine (mul_any _ _ _).mono ?_; rintro e w' ⟨rfl, rfl⟩)
                go_round
                case rel => exact ⟨j + 1, by omega, by go_num, by rw [H1.out, if_neg HJ.out], by rw [H2.out, if_neg HJ.out]⟩
                case measure => simp [intOf]; omega
            · have hj' : xs.length = j := by omega
              rw [hj'] at H
              clear hj'
              generalize Gf.aboveTo (Gf.nth ys i) xs i x j = a1 at *
              generalize Gf.aboveTo 1 xs i (Gf.nth xs i) j = a2 at *
              have hx1 := bits_xor8 v (Gf.mul a1 (Gf.inv a2))
              go_wp2_with (first | (go_at_call 25; refine (mul_any _ _ _).mono ?_; rintro e w' ⟨rfl, rfl⟩) | (go_at_call 27; refine (inv_any _ _).mono ?_; rintro e w' ⟨rfl, rfl⟩))
              go_round
              case rel => exact ⟨i + 1, by omega, by go_num, by rw [H.out]⟩
              case measure => simp [intOf]; omega
        · have e : xs.length = i := by omega
          rw [e] at HO
          clear e
          generalize Gf.atTo xs ys x i = v at *
          go_wp2
          go_ret2
          exact ⟨ret_u8_bool HO.out.2.symm HO.out.1.symm, hK⟩
  · have h1 : ((xs.length : Int) != (ys.length : Int)) = true := by simp; omega
    have HO : Hid (atOk xs ys = false ∧ atVal xs ys x = 0) := Lib.hid (by simp [atOk, atVal, he])
    clear he
    go_enter Try.func29, Try.ntmps29
    go_wp2_with fail
    go_ret2
    exact ⟨ret_u8_bool HO.out.2.symm HO.out.1.symm, Kept.refl _⟩
theorem at_len (A B : Option Addr) (n m c d : Nat) (xs ys : List UInt8) (x : UInt8) (w : World) (hn : xs.length = n) (hm' : ys.length = m) (hl : xs.length ≤ maxLen) (hm : ys.length ≤ maxLen) (hR : RdB w A xs) (hS : RdB w B ys) :
    Calls Try.prog 29 #[.slice A n c, .slice B m d, .int .u8 (B8 x)] w fun e w' =>
      e = .returned (.tuple #[.int .u8 (B8 (atVal xs ys x)), .bool (atOk xs ys)]) ∧ Kept w w' := by
  subst hn hm'
  exact at_any A B c d xs ys x w hl hm hR hS
end Go.Proofs.Ytgalfkjhogidmaa
