/-
  POLYNOMIALS over the field of 256 elements: values, roots, the one through points. No program in sight.
-/
import Derived.Test.YtndbfphmjmhkjaaGf
namespace Go.Proofs.Ytndbfphmjmhkjaa.Gf

/-- a polynomial's value, the lowest coefficient first -/
def eval : List UInt8 → UInt8 → UInt8
  | [], _ => 0
  | c :: t, x => mul (eval t x) x ^^^ c

theorem eval_zero_ (l : List UInt8) (x : UInt8) (h : ∀ c ∈ l, c = 0) : eval l x = 0 := by
  induction l with
  | nil => rfl
  | cons c t ih => simp [eval, ih (fun c hc => h c (by simp [hc])), h c (by simp), zero_mul]

/-- the quotient of c :: t by x - a -/
def dv (a : UInt8) : List UInt8 → List UInt8
  | [] => []
  | d :: s => eval (d :: s) a :: dv a s
theorem dv_length (a : UInt8) (t : List UInt8) : (dv a t).length = t.length := by
  induction t with
  | nil => rfl
  | cons d s ih => simp [dv, ih]
theorem xor_ac1 (a b c : UInt8) : (a ^^^ b) ^^^ (c ^^^ b) = a ^^^ c := by
  have : (a ^^^ b) ^^^ (c ^^^ b) = (a ^^^ c) ^^^ (b ^^^ b) := by ac_rfl
  rw [this]; simp
theorem eval_dv (a x c : UInt8) (t : List UInt8) : eval (c :: t) x ^^^ eval (c :: t) a = mul (x ^^^ a) (eval (dv a t) x) := by
  induction t generalizing c with
  | nil => simp [eval, dv, zero_mul, mul_zero]
  | cons d s ih =>
    have h1 : eval (c :: d :: s) x ^^^ eval (c :: d :: s) a = mul (eval (d :: s) x) x ^^^ mul (eval (d :: s) a) a := by
      show (mul (eval (d :: s) x) x ^^^ c) ^^^ (mul (eval (d :: s) a) a ^^^ c) = _
      rw [xor_ac1]
    have h2 : eval (dv a (d :: s)) x = mul (eval (dv a s) x) x ^^^ eval (d :: s) a := rfl
    have h3 : eval (d :: s) x = eval (d :: s) a ^^^ mul (x ^^^ a) (eval (dv a s) x) := by
      rw [← ih d, UInt8.xor_comm (eval (d :: s) x), ← UInt8.xor_assoc, UInt8.xor_self, UInt8.zero_xor]
    rw [h1, h2, h3]
    generalize eval (d :: s) a = e
    generalize eval (dv a s) x = f
    simp only [mul_left,mul_right]
    have hlc : ∀ a b c : UInt8, mul a (mul b c) = mul b (mul a c) := fun a b c => by rw [← mul_assoc, mul_comm a b, mul_assoc]
    simp only [mul_comm,hlc]
    ac_rfl

theorem dv_zero (a : UInt8) (t : List UInt8) (h : ∀ c ∈ dv a t, c = 0) : ∀ c ∈ t, c = 0 := by
  induction t with
  | nil => simp
  | cons d s ih =>
    have hs := ih (fun c hc => h c (by simp [dv, hc]))
    have h0 := h (eval (d :: s) a) (by simp [dv])
    rw [eval, eval_zero_ s a hs, zero_mul, UInt8.zero_xor] at h0
    intro c hc
    rcases List.mem_cons.1 hc with rfl | hc
    · exact h0
    · exact hs c hc

/-- NO MORE ZEROS THAN THAT -/
theorem roots (l : List UInt8) : ∀ r : List UInt8, r.Nodup → (∀ x ∈ r, eval l x = 0) → l.length ≤ r.length → ∀ c ∈ l, c = 0 := by
  generalize hn : l.length = n
  induction n generalizing l with
  | zero =>
    intro r _ _ _ c hc
    rw [List.length_eq_zero_iff.1 hn] at hc
    simp at hc
  | succ n ih =>
    intro r hnd hr hlen
    match l, hn with
    | c :: t, hn =>
      match r, hlen, hnd, hr with
      | a :: r', hlen, hnd, hr =>
        have ha : eval (c :: t) a = 0 := hr a (by simp)
        have hq : ∀ x ∈ r', eval (dv a t) x = 0 := by
          intro x hx
          have h1 := eval_dv a x c t
          rw [hr x (by simp [hx]), ha, UInt8.xor_self] at h1
          rcases mul_eq_zero h1.symm with h2 | h2
          · have := xor_eq_zero.1 h2
            subst this
            exact absurd hx (List.nodup_cons.1 hnd).1
          · exact h2
        have hz := ih (dv a t) (by rw [dv_length]; simpa using hn) r' (List.nodup_cons.1 hnd).2 hq (by simpa using hlen)
        have ht := dv_zero a t hz
        intro d hd
        rcases List.mem_cons.1 hd with rfl | hd
        · rwa [eval, eval_zero_ t a ht, zero_mul, UInt8.zero_xor] at ha
        · exact ht d hd

/-! polynomials as functions -/
def Deg (n : Nat) (f : UInt8 → UInt8) : Prop := ∃ l : List UInt8, l.length ≤ n ∧ ∀ x, f x = eval l x
def padd : List UInt8 → List UInt8 → List UInt8
  | [], l => l
  | l, [] => l
  | a :: l, b :: m => (a ^^^ b) :: padd l m
theorem padd_length (l m : List UInt8) : (padd l m).length = max l.length m.length := by
  induction l generalizing m with
  | nil => simp [padd]
  | cons a l ih => cases m <;> simp [padd, ih] <;> omega
theorem eval_padd (l m : List UInt8) (x : UInt8) : eval (padd l m) x = eval l x ^^^ eval m x := by
  induction l generalizing m with
  | nil => simp [padd, eval]
  | cons a l ih =>
    cases m with
    | nil => simp [padd, eval]
    | cons b m => simp only [padd,eval,ih,mul_left]; ac_rfl
theorem eval_map (k : UInt8) (l : List UInt8) (x : UInt8) : eval (l.map (mul k)) x = mul k (eval l x) := by
  induction l with
  | nil => simp [eval, mul_zero]
  | cons a l ih => simp only [List.map_cons,eval,ih,mul_right,mul_assoc]
theorem Deg.mono {n m : Nat} {f : UInt8 → UInt8} (h : Deg n f) (hm : n ≤ m) : Deg m f := let ⟨l, h1, h2⟩ := h; ⟨l, by omega, h2⟩
theorem Deg.zero (n : Nat) : Deg n (fun _ => 0) := ⟨[], by simp, fun _ => rfl⟩
theorem Deg.const (c : UInt8) : Deg 1 (fun _ => c) := ⟨[c], by simp, fun _ => by simp [eval, zero_mul]⟩
theorem Deg.add {n : Nat} {f g : UInt8 → UInt8} (hf : Deg n f) (hg : Deg n g) : Deg n (fun x => f x ^^^ g x) := by
  obtain ⟨l, hl, h⟩ := hf
  obtain ⟨m, hm, k⟩ := hg
  exact ⟨padd l m, by rw [padd_length]; omega, fun x => by show f x ^^^ g x = _; rw [eval_padd, h, k]⟩
theorem Deg.scale {n : Nat} {f : UInt8 → UInt8} (k : UInt8) (hf : Deg n f) : Deg n (fun x => mul (f x) k) := by
  obtain ⟨l, hl, h⟩ := hf
  exact ⟨l.map (mul k), by simpa using hl, fun x => by show mul (f x) k = _; rw [eval_map, h, mul_comm]⟩
theorem Deg.lin {n : Nat} {f : UInt8 → UInt8} (a : UInt8) (hf : Deg n f) : Deg (n + 1) (fun x => mul (f x) (x ^^^ a)) := by
  obtain ⟨l, hl, h⟩ := hf
  refine ⟨padd (0 :: l) (l.map (mul a)), by rw [padd_length]; simp; omega, fun x => ?_⟩
  show mul (f x) (x ^^^ a) = _
  rw [eval_padd, eval_map, h]
  show _ = (mul (eval l x) x ^^^ 0) ^^^ mul a (eval l x)
  rw [mul_right, UInt8.xor_zero, mul_comm a]
theorem deg_eval (l : List UInt8) : Deg l.length (eval l) := ⟨l, Nat.le_refl _, fun _ => rfl⟩
theorem Deg.unique {n : Nat} {f g : UInt8 → UInt8} (hf : Deg n f) (hg : Deg n g) {r : List UInt8} (hnd : r.Nodup) (hr : n ≤ r.length)
    (h : ∀ x ∈ r, f x = g x) (x : UInt8) : f x = g x := by
  obtain ⟨l, hl, e⟩ := hf.add hg
  have h0 := roots l r hnd (fun x hx => by rw [← e]; show f x ^^^ g x = 0; rw [h x hx, UInt8.xor_self]) (by omega)
  have := e x
  rw [eval_zero_ l x h0] at this
  exact xor_eq_zero.1 this

/-! the polynomial through points, as the program reckons its value -/
/-- the element at a place; behind a name, so that no simp turns it -/
def nth (l : List UInt8) (i : Nat) : UInt8 := l.getD i 0
theorem nth_lt {l : List UInt8} {i : Nat} (h : i < l.length) : nth l i = l[i] := by simp [nth, h]
theorem nth_ge {l : List UInt8} {i : Nat} (h : l.length ≤ i) : nth l i = 0 := by simp [nth, h]
theorem nth_mem {l : List UInt8} {i : Nat} (h : i < l.length) : nth l i ∈ l := by rw [nth_lt h]; exact List.getElem_mem h
theorem mem_nth {l : List UInt8} {x : UInt8} (h : x ∈ l) : ∃ i, i < l.length ∧ nth l i = x := by
  obtain ⟨i, hi, e⟩ := List.mem_iff_getElem.1 h
  exact ⟨i, hi, by rw [nth_lt hi, e]⟩
def aboveTo (s : UInt8) (xs : List UInt8) (i : Nat) (z : UInt8) : Nat → UInt8
  | 0 => s
  | k + 1 => if k = i then aboveTo s xs i z k else mul (aboveTo s xs i z k) (z ^^^ nth xs k)
def term (xs ys : List UInt8) (x : UInt8) (i : Nat) : UInt8 :=
  mul (aboveTo (nth ys i) xs i x xs.length) (inv (aboveTo 1 xs i (nth xs i) xs.length))
def atTo (xs ys : List UInt8) (x : UInt8) : Nat → UInt8
  | 0 => 0
  | i + 1 => atTo xs ys x i ^^^ term xs ys x i
def lag (xs ys : List UInt8) (x : UInt8) : UInt8 := atTo xs ys x xs.length

theorem aboveTo_deg (s : UInt8) (xs : List UInt8) (i k : Nat) : Deg (if i < k then k else k + 1) (fun z => aboveTo s xs i z k) := by
  induction k with
  | zero => simpa [aboveTo] using Deg.const s
  | succ k ih =>
    by_cases h : k = i
    · subst h
      simp only [aboveTo,if_true]
      simpa using ih
    · simp only [aboveTo,if_neg h]
      have := ih.lin (nth xs k)
      refine this.mono ?_
      split <;> split <;> omega
theorem aboveTo_deg' (s : UInt8) (xs : List UInt8) (i : Nat) (hi : i < xs.length) : Deg xs.length (fun z => aboveTo s xs i z xs.length) := by
  have := aboveTo_deg s xs i xs.length
  rwa [if_pos hi] at this
theorem atTo_deg (xs ys : List UInt8) (i : Nat) (hi : i ≤ xs.length) : Deg xs.length (fun x => atTo xs ys x i) := by
  induction i with
  | zero => exact Deg.zero _
  | succ i ih => exact (ih (by omega)).add ((aboveTo_deg' _ xs i (by omega)).scale _)
theorem lag_deg (xs ys : List UInt8) : Deg xs.length (lag xs ys) := atTo_deg xs ys _ (Nat.le_refl _)

theorem aboveTo_zero (s : UInt8) (xs : List UInt8) (i k j : Nat) (hj : j < k) (hji : j ≠ i) : aboveTo s xs i (nth xs j) k = 0 := by
  induction k with
  | zero => omega
  | succ k ih =>
    simp only [aboveTo]
    by_cases hk : j = k
    · subst hk
      rw [if_neg hji, UInt8.xor_self, mul_zero]
    · rw [ih (by omega), zero_mul]
      split <;> rfl
theorem nodup_getD {xs : List UInt8} (h : xs.Nodup) {i j : Nat} (hi : i < xs.length) (hj : j < xs.length) (hij : i ≠ j) : nth xs i ≠ nth xs j := by
  rw [nth_lt hi, nth_lt hj]
  intro e
  exact hij ((List.getElem_inj h).1 e)
theorem aboveTo_ne (s : UInt8) (hs : s ≠ 0) (xs : List UInt8) (hnd : xs.Nodup) (i k : Nat) (hi : i < xs.length) (hk : k ≤ xs.length) :
    aboveTo s xs i (nth xs i) k ≠ 0 := by
  induction k with
  | zero => exact hs
  | succ k ih =>
    simp only [aboveTo]
    split
    · exact ih (by omega)
    · rename_i h
      refine mul_ne_zero (ih (by omega)) ?_
      intro e
      exact nodup_getD hnd hi (by omega) (fun e => h e.symm) (xor_eq_zero.1 e)
theorem aboveTo_scale (s : UInt8) (xs : List UInt8) (i k : Nat) (z : UInt8) : aboveTo s xs i z k = mul s (aboveTo 1 xs i z k) := by
  induction k with
  | zero => simp [aboveTo, mul_one]
  | succ k ih =>
    simp only [aboveTo]
    split
    · exact ih
    · rw [ih, mul_assoc]
theorem term_at (xs ys : List UInt8) (hnd : xs.Nodup) (i j : Nat) (hi : i < xs.length) (hj : j < xs.length) :
    term xs ys (nth xs j) i = if i = j then nth ys i else 0 := by
  unfold term
  split
  · subst_vars
    rw [aboveTo_scale, mul_assoc, mul_inv _ (aboveTo_ne 1 (by decide) xs hnd _ _ hi (Nat.le_refl _)), mul_one]
  · rename_i h
    rw [aboveTo_zero _ _ _ _ _ hj (fun e => h e.symm), zero_mul]
theorem atTo_at (xs ys : List UInt8) (hnd : xs.Nodup) (j : Nat) (hj : j < xs.length) (k : Nat) (hk : k ≤ xs.length) :
    atTo xs ys (nth xs j) k = if j < k then nth ys j else 0 := by
  induction k with
  | zero => simp [atTo]
  | succ k ih =>
    simp only [atTo]
    rw [ih (by omega), term_at xs ys hnd k j (by omega) hj]
    by_cases h : j < k
    · rw [if_pos h, if_neg (by omega), if_pos (by omega), UInt8.xor_zero]
    · rw [if_neg h]
      by_cases h' : k = j
      · subst h'; rw [if_pos rfl, if_pos (by omega), UInt8.zero_xor]
      · rw [if_neg h', if_neg (by omega), UInt8.zero_xor]
theorem lag_at (xs ys : List UInt8) (hnd : xs.Nodup) (j : Nat) (hj : j < xs.length) : lag xs ys (nth xs j) = nth ys j := by
  unfold lag
  rw [atTo_at xs ys hnd j hj _ (Nat.le_refl _), if_pos hj]
/-- WHAT A POLYNOMIAL IS IS TOLD BY ITS POINTS -/
theorem lag_of_deg {f : UInt8 → UInt8} (xs ys : List UInt8) (hf : Deg xs.length f) (hnd : xs.Nodup)
    (h : ∀ j, j < xs.length → nth ys j = f (nth xs j)) (x : UInt8) : lag xs ys x = f x := by
  refine Deg.unique (lag_deg xs ys) hf hnd (Nat.le_refl _) (fun z hz => ?_) x
  obtain ⟨j, hj, rfl⟩ := List.mem_iff_getElem.1 hz
  have e : xs[j] = nth xs j := (nth_lt hj).symm
  rw [e, lag_at xs ys hnd j hj, h j hj]
end Go.Proofs.Ytndbfphmjmhkjaa.Gf
