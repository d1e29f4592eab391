/-
  THE FIELD's functions, plain, as the machine of values meets them. No program in sight.
-/
import Derived.Test.YtndbfphmjmhkjaaSP
import Derived.Test.YtndbfphmjmhkjaaVset
import Derived.Test.YtndbfphmjmhkjaaByte
set_option linter.unusedVariables false
set_option linter.unusedSimpArgs false
namespace Go.Proofs.Ytndbfphmjmhkjaa.V
open Go Go.Proofs.Ytndbfphmjmhkjaa

def encU (x : UInt8) : VV := .int .u8 (B8 x)
abbrev encBs (l : List UInt8) : VV := .dat .cell (l.map encU)
theorem nls_u (l : List UInt8) : nls (l.map encU) = true := nls_map _ (fun _ => rfl) l
theorem bytesOf_u (l : List UInt8) : bytesOf (l.map encU) = some l := bytesOf_enc l
theorem toB8 (x : UInt8) : ((x.toNat : Nat) : Int) = B8 x := id (Eq.refl _)
theorem bits8 : IntKind.u8.bits = 8 := rfl
theorem and_bit' (b : UInt8) (k : Nat) (hk : k ≤ 8) : bits .and .u8 ((B8 b).fdiv (2 ^ min k IntKind.u8.bits)) 1 = 1 ↔ Gf.bit b k = true := by
  rw [bits8, show min k 8 = k by omega, Int.fdiv_eq_ediv_of_nonneg _ (Int.le_of_lt (Int.pow_pos (by omega))), ← and_bit b k hk, beq_iff_eq]
theorem xor_29 (x : UInt8) : bits .xor .u8 (B8 x) 29 = B8 (x ^^^ 29) := bits_xor8 x 29
theorem shl1' (x : UInt8) : IntKind.u8.wrap (B8 x * 2 ^ min 1 IntKind.u8.bits) = B8 (x <<< 1) := by
  rw [bits8, show min 1 8 = 1 by rfl, Int.pow_succ, Int.pow_zero, Int.one_mul]
  exact shl1_u8 x
theorem B8_one (x : UInt8) : B8 x = 1 ↔ x = 1 := by
  constructor
  · intro h
    exact B8_inj (h.trans (show (1 : Int) = B8 1 by rfl))
  · rintro rfl; rfl
theorem bits16 : IntKind.u16.bits = 16 := rfl
theorem shl_u16' (a : UInt8) (k : Nat) (hk : k < 8) : IntKind.u16.wrap (B8 a * 2 ^ min k IntKind.u16.bits) = B16 (Gf.sh a k) := by
  rw [bits16, show min k 16 = k by omega]
  exact shl_u16 a k hk
theorem wrap_u16_u8 (a : UInt8) : IntKind.u16.wrap (B8 a) = B8 a := wrap_u16 _ (B8_lo a) (by have := B8_hi a; omega)
theorem and_bit16' (x : UInt16) (k : Nat) (hk : k ≤ 16) : bits .and .u16 ((B16 x).fdiv (2 ^ min k IntKind.u16.bits)) 1 = 1 ↔ Gf.bit16 x k = true := by
  rw [bits16, show min k 16 = k by omega, Int.fdiv_eq_ediv_of_nonneg _ (Int.le_of_lt (Int.pow_pos (by omega))), ← and_bit16 x k, beq_iff_eq]
theorem shl_285 (k : Nat) (hk : k < 7) : IntKind.u16.wrap (285 * 2 ^ min (6 - k) IntKind.u16.bits) = B16 (285 <<< (UInt16.ofNat (6 - k))) := by
  have h : (List.range 7).all (fun k => IntKind.u16.wrap (285 * 2 ^ min (6 - k) IntKind.u16.bits) == B16 (285 <<< (UInt16.ofNat (6 - k)))) = true := by decide +kernel
  exact eq_of_beq (List.all_eq_true.1 h k (by simp; omega))
/-! ### At, the document's -/
def part (xs : List UInt8) (s : UInt8) (i : Nat) (x : UInt8) (k : Nat) : UInt8 := Gf.mul (Gf.aboveTo s xs i x k) (Gf.inv (Gf.aboveTo 1 xs i (Gf.nth xs i) k))
theorem part_zero (xs : List UInt8) (s : UInt8) (i : Nat) (x : UInt8) : part xs s i x 0 = s := by
  simp [part, Gf.aboveTo, Gf.inv_one, Gf.mul_one]
theorem part_own (xs : List UInt8) (s : UInt8) (i : Nat) (x : UInt8) : part xs s i x (i + 1) = part xs s i x i := by
  simp [part, Gf.aboveTo]
theorem part_other (xs : List UInt8) (s : UInt8) (i : Nat) (x : UInt8) (k : Nat) (h : k ≠ i) :
    part xs s i x (k + 1) = Gf.mul (part xs s i x k) (Gf.mul (x ^^^ Gf.nth xs k) (Gf.inv (Gf.nth xs i ^^^ Gf.nth xs k))) := by
  simp only [part,Gf.aboveTo,if_neg h,Gf.inv_mul_dist]
  generalize Gf.aboveTo s xs i x k = a
  generalize Gf.inv (Gf.aboveTo 1 xs i (Gf.nth xs i) k) = b
  rw [Gf.mul_assoc, Gf.mul_assoc, ← Gf.mul_assoc b, ← Gf.mul_assoc _ b, Gf.mul_comm b]
theorem at_step (xs ys : List UInt8) (x : UInt8) (i : Nat) : Gf.atTo xs ys x (i + 1) = Gf.atTo xs ys x i ^^^ part xs (Gf.nth ys i) i x xs.length := rfl
theorem inv_found {a : UInt8} {k : Nat} (h : Gf.mul a (UInt8.ofNat k) = 1) : Gf.inv a = UInt8.ofNat k := (Gf.inv_unique h).symm
theorem inv_lost {a : UInt8} (h : ∀ j < 256, Gf.mul a (UInt8.ofNat j) ≠ 1) : Gf.inv a = 0 := by
  by_cases ha : a = 0
  · subst ha; exact Gf.inv_zero
  · exfalso
    have := h (Gf.inv a).toNat (Gf.inv a).toNat_lt
    rw [UInt8.ofNat_toNat] at this
    exact this (Gf.mul_inv a ha)
def evTo (l : List UInt8) (x : UInt8) : Nat → UInt8 × UInt8
  | 0 => (0, 1)
  | k + 1 => ((evTo l x k).1 ^^^ Gf.mul (Gf.nth l k) (evTo l x k).2, Gf.mul (evTo l x k).2 x)
theorem evTo_eq (l : List UInt8) (x : UInt8) (k : Nat) (h : k ≤ l.length) : Gf.eval l x = (evTo l x k).1 ^^^ Gf.mul (Gf.eval (l.drop k) x) (evTo l x k).2 := by
  induction k with
  | zero => simp [evTo, Gf.mul_one]
  | succ k ih =>
    rw [ih (by omega), List.drop_eq_getElem_cons (show k < l.length by omega), Gf.eval, ← Gf.nth_lt (by omega)]
    simp only [evTo]
    rw [Gf.mul_left, Gf.mul_assoc, Gf.mul_comm x, UInt8.xor_assoc, UInt8.xor_comm (Gf.mul (Gf.nth l k) _)]
theorem evTo_end (l : List UInt8) (x : UInt8) : (evTo l x l.length).1 = Gf.eval l x := by
  rw [evTo_eq l x l.length (Nat.le_refl _)]
  simp [Gf.eval, Gf.zero_mul]
theorem eval_drop (l : List UInt8) (x : UInt8) (k : Nat) (h : k < l.length) :
    Gf.eval (l.drop (l.length - (k + 1))) x = Gf.mul (Gf.eval (l.drop (l.length - k)) x) x ^^^ Gf.nth l (l.length - 1 - k) := by
  have e : l.length - (k + 1) + 1 = l.length - k := by omega
  have e2 : l.length - 1 - k = l.length - (k + 1) := by omega
  rw [e2, List.drop_eq_getElem_cons (by omega), e, Gf.eval]
  rw [Gf.nth_lt (by omega)]
/-! ### what distinct has met behind k rounds -/
def met (l : List UInt8) : Nat → List VV
  | 0 => List.replicate 256 (.bool false)
  | k + 1 => (met l k).set (Gf.nth l k).toNat (.bool true)
theorem met_len (l : List UInt8) : ∀ k, (met l k).length = 256
  | 0 => by rw [met, List.length_replicate]
  | k + 1 => by rw [met, List.length_set, met_len l k]
theorem nls_met (l : List UInt8) : ∀ k, nls (met l k) = true
  | 0 => by rw [met, nls_repBool]
  | k + 1 => by
    have := nls_met l k
    rw [met]
    generalize met l k = m at *
    generalize (Gf.nth l k).toNat = i
    induction m generalizing i with
    | nil => exact this
    | cons v m ih =>
      rw [nls_cons, Bool.and_eq_true] at this
      cases i with
      | zero => rw [List.set_cons_zero, nls_cons, this.2]; rfl
      | succ i => rw [List.set_cons_succ, nls_cons, this.1, ih this.2]; rfl
def metB (l : List UInt8) (k : Nat) (x : UInt8) : Bool := (l.take k).contains x
theorem met_at (l : List UInt8) (k : Nat) (hk : k ≤ l.length) (x : UInt8) : (met l k)[x.toNat]? = some (.bool (metB l k x)) := by
  have hx := x.toNat_lt
  induction k with
  | zero =>
    have hx' : x.toNat < 256 := hx
    rw [met, List.getElem?_replicate, if_pos hx']
    rfl
  | succ k ih =>
    have ih := ih (by omega)
    simp only [met,metB]
    rw [List.take_succ_eq_append_getElem (show k < l.length by omega), ← Gf.nth_lt (by omega)]
    by_cases e : (Gf.nth l k) = x
    · subst e
      rw [List.getElem?_set_self (by rw [met_len]; omega)]
      simp
    · rw [List.getElem?_set_ne (fun h => e (UInt8.toNat_inj.1 h)), ih]
      simp [metB]
      exact fun h => absurd h.symm e
def dis (l : List UInt8) : Bool := decide l.Nodup
theorem nodup_take_succ (l : List UInt8) (k : Nat) (hk : k < l.length) (h : (l.take k).Nodup) : (l.take (k + 1)).Nodup ↔ metB l k (Gf.nth l k) = false := by
  rw [List.take_succ_eq_append_getElem hk, ← Gf.nth_lt hk, List.nodup_append]
  simp [h, metB]
  constructor
  · intro h h'; exact h _ h' rfl
  · intro h a ha e; exact h (e ▸ ha)
theorem dis_yes (l : List UInt8) (k : Nat) (hk : l.length ≤ k) (h : (l.take k).Nodup) : dis l = true := by
  rw [List.take_of_length_le hk] at h
  simpa [dis] using h
theorem dis_no (l : List UInt8) (k : Nat) (hk : k < l.length) (h : (l.take k).Nodup) (hb : metB l k (Gf.nth l k) = true) : dis l = false := by
  have := nodup_take_succ l k hk h
  rw [hb] at this
  simp only [dis,decide_eq_false_iff_not]
  intro hn
  have h2 := this.1 (hn.sublist (List.take_sublist _ _))
  cases h2
def atOk (xs ys : List UInt8) : Bool := decide (xs.length = ys.length) && dis xs
def atVal (xs ys : List UInt8) (x : UInt8) : UInt8 := if atOk xs ys then Gf.lag xs ys x else 0
def Unlike (xs : List UInt8) (i : Nat) (n : Nat) : Prop := ∀ k < n, k ≠ i → Gf.nth xs k ≠ Gf.nth xs i
theorem dis_of_unlike (xs : List UInt8) (h : ∀ i < xs.length, Unlike xs i xs.length) : dis xs = true := by
  simp only [dis,decide_eq_true_eq]
  rw [List.nodup_iff_pairwise_ne, List.pairwise_iff_getElem]
  intro i j hi hj hij
  have := h j hj i hi (by omega)
  rwa [Gf.nth_lt hi, Gf.nth_lt hj] at this
theorem dis_of_like (xs : List UInt8) (i k : Nat) (hi : i < xs.length) (hk : k < xs.length) (hik : k ≠ i) (h : Gf.nth xs k = Gf.nth xs i) : dis xs = false := by
  simp only [dis,decide_eq_false_iff_not]
  intro hn
  exact Gf.nodup_getD hn hk hi hik h
theorem nth_default (l : List UInt8) (i : Nat) : l.getD i default = Gf.nth l i := id (Eq.refl _)
theorem nth_zero (l : List UInt8) (i : Nat) : l.getD i 0 = Gf.nth l i := id (Eq.refl _)
/-- a byte of a list that is read -/
theorem get_u (l : List UInt8) (i : Nat) (h : i < l.length) : (l.map encU)[i]? = some (.int .u8 (B8 (Gf.nth l i))) := by
  rw [List.getElem?_map, List.getElem?_eq_getElem h]
  simp [encU, Gf.nth, h]
end Go.Proofs.Ytndbfphmjmhkjaa.V
