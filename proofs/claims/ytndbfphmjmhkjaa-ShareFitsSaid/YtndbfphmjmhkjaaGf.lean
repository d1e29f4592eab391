/-
  THE FIELD OF 256 ELEMENTS, in plain Lean: products, inverses, their laws. No program in sight.
-/
namespace Go.Proofs.Ytndbfphmjmhkjaa.Gf

/-- doubling: x times the element -/
def dbl (a : UInt8) : UInt8 := if 128 ≤ a then (a <<< 1) ^^^ 29 else a <<< 1
def pw (a : UInt8) : Nat → UInt8
  | 0 => a
  | n + 1 => dbl (pw a n)
def bit (b : UInt8) (i : Nat) : Bool := b.toNat.testBit i
def sel (c : Bool) (a : UInt8) : UInt8 := if c then a else 0
def mulTo (a b : UInt8) : Nat → UInt8
  | 0 => 0
  | k + 1 => mulTo a b k ^^^ sel (bit b k) (pw a k)
def mul (a b : UInt8) : UInt8 := mulTo a b 8

def allB (P : UInt8 → Bool) : Bool := (List.range 256).all fun n => P (UInt8.ofNat n)
theorem of_allB {P : UInt8 → Bool} (h : allB P = true) (a : UInt8) : P a = true := by
  have := List.all_eq_true.1 h a.toNat (by simp; exact a.toNat_lt)
  simpa using this

theorem xor4 (a b c d : UInt8) : (a ^^^ b) ^^^ (c ^^^ d) = (a ^^^ c) ^^^ (b ^^^ d) := by ac_rfl
theorem sel_xor (c d : Bool) (x : UInt8) : sel (c ^^ d) x = sel c x ^^^ sel d x := by
  cases c <;> cases d <;> simp [sel]
theorem sel_xor' (c : Bool) (x y : UInt8) : sel c (x ^^^ y) = sel c x ^^^ sel c y := by
  cases c <;> simp [sel]
theorem bit_xor (a b : UInt8) (i : Nat) : bit (a ^^^ b) i = (bit a i ^^ bit b i) := by simp [bit]
theorem dbl_eq (a : UInt8) : dbl a = (a <<< 1) ^^^ sel (bit a 7) 29 := by
  have := of_allB (P := fun a => dbl a == ((a <<< 1) ^^^ sel (bit a 7) 29)) (by decide +kernel) a
  simpa using this
theorem dbl_xor (a b : UInt8) : dbl (a ^^^ b) = dbl a ^^^ dbl b := by
  rw [dbl_eq, dbl_eq, dbl_eq, bit_xor, UInt8.shiftLeft_xor, sel_xor, xor4]
theorem pw_xor (a b : UInt8) (n : Nat) : pw (a ^^^ b) n = pw a n ^^^ pw b n := by
  induction n with
  | zero => rfl
  | succ n ih => simp only [pw,ih,dbl_xor]
theorem mulTo_left (a a' b : UInt8) (n : Nat) : mulTo (a ^^^ a') b n = mulTo a b n ^^^ mulTo a' b n := by
  induction n with
  | zero => simp [mulTo]
  | succ n ih => simp only [mulTo,ih,pw_xor,sel_xor',xor4]
theorem mulTo_right (a b b' : UInt8) (n : Nat) : mulTo a (b ^^^ b') n = mulTo a b n ^^^ mulTo a b' n := by
  induction n with
  | zero => simp [mulTo]
  | succ n ih => simp only [mulTo,ih,bit_xor,sel_xor,xor4]
theorem mul_left (a a' b : UInt8) : mul (a ^^^ a') b = mul a b ^^^ mul a' b := mulTo_left a a' b 8
theorem mul_right (a b b' : UInt8) : mul a (b ^^^ b') = mul a b ^^^ mul a b' := mulTo_right a b b' 8

theorem expand (a : UInt8) : a = sel (bit a 0) 1 ^^^ (sel (bit a 1) 2 ^^^ (sel (bit a 2) 4 ^^^ (sel (bit a 3) 8 ^^^ (sel (bit a 4) 16 ^^^ (sel (bit a 5) 32 ^^^ (sel (bit a 6) 64 ^^^ sel (bit a 7) 128)))))) := by
  have := of_allB (P := fun a => a == sel (bit a 0) 1 ^^^ (sel (bit a 1) 2 ^^^ (sel (bit a 2) 4 ^^^ (sel (bit a 3) 8 ^^^ (sel (bit a 4) 16 ^^^ (sel (bit a 5) 32 ^^^ (sel (bit a 6) 64 ^^^ sel (bit a 7) 128))))))) (by decide +kernel) a
  simpa using this

def basis : List UInt8 := [1, 2, 4, 8, 16, 32, 64, 128]
theorem lin_zero {f : UInt8 → UInt8} (hf : ∀ a b, f (a ^^^ b) = f a ^^^ f b) : f 0 = 0 := by
  have h := hf 0 0
  have h2 : f 0 ^^^ f 0 = 0 := UInt8.xor_self
  rw [h2] at h
  simpa using h
theorem lin_sel {f : UInt8 → UInt8} (hf : ∀ a b, f (a ^^^ b) = f a ^^^ f b) (c : Bool) (x : UInt8) : f (sel c x) = sel c (f x) := by
  cases c
  · exact lin_zero hf
  · rfl
theorem lin_ext {f g : UInt8 → UInt8} (hf : ∀ a b, f (a ^^^ b) = f a ^^^ f b) (hg : ∀ a b, g (a ^^^ b) = g a ^^^ g b)
    (h : ∀ x ∈ basis, f x = g x) (a : UInt8) : f a = g a := by
  rw [expand a]
  simp only [hf,hg,lin_sel hf,lin_sel hg]
  rw [h 1 (by decide), h 2 (by decide), h 4 (by decide), h 8 (by decide), h 16 (by decide), h 32 (by decide), h 64 (by decide), h 128 (by decide)]

theorem mul_comm (a b : UInt8) : mul a b = mul b a := by
  refine lin_ext (f := fun b => mul a b) (g := fun b => mul b a) (fun _ _ => mul_right _ _ _) (fun _ _ => mul_left _ _ _) (fun x hx => ?_) b
  refine lin_ext (f := fun a => mul a x) (g := fun a => mul x a) (fun _ _ => mul_left _ _ _) (fun _ _ => mul_right _ _ _) (fun y hy => ?_) a
  have h : basis.all (fun x => basis.all fun y => mul y x == mul x y) = true := by decide +kernel
  have := List.all_eq_true.1 (List.all_eq_true.1 h x hx) y hy
  simpa using this
theorem mul_assoc (a b c : UInt8) : mul (mul a b) c = mul a (mul b c) := by
  refine lin_ext (f := fun c => mul (mul a b) c) (g := fun c => mul a (mul b c)) (fun _ _ => mul_right _ _ _) (fun _ _ => by simp only [mul_right]) (fun z hz => ?_) c
  refine lin_ext (f := fun b => mul (mul a b) z) (g := fun b => mul a (mul b z)) (fun _ _ => by simp only [mul_right,mul_left]) (fun _ _ => by simp only [mul_right,mul_left]) (fun y hy => ?_) b
  refine lin_ext (f := fun a => mul (mul a y) z) (g := fun a => mul a (mul y z)) (fun _ _ => by simp only [mul_left]) (fun _ _ => by simp only [mul_left]) (fun x hx => ?_) a
  have h : basis.all (fun z => basis.all fun y => basis.all fun x => mul (mul x y) z == mul x (mul y z)) = true := by decide +kernel
  have := List.all_eq_true.1 (List.all_eq_true.1 (List.all_eq_true.1 h z hz) y hy) x hx
  simpa using this
theorem mul_zero (a : UInt8) : mul a 0 = 0 := lin_zero (f := fun b => mul a b) (fun _ _ => mul_right _ _ _)
theorem zero_mul (a : UInt8) : mul 0 a = 0 := lin_zero (f := fun b => mul b a) (fun _ _ => mul_left _ _ _)
theorem mul_one (a : UInt8) : mul a 1 = a := by
  have := of_allB (P := fun a => mul a 1 == a) (by decide +kernel) a
  simpa using this
theorem one_mul (a : UInt8) : mul 1 a = a := by rw [mul_comm, mul_one]

/-- the inverse, as the program reckons it -/
def invTo : Nat → UInt8 → UInt8 × UInt8
  | 0, a => (a, 1)
  | n + 1, a => let r := invTo n a; (mul r.1 r.1, mul r.2 (mul r.1 r.1))
def inv (a : UInt8) : UInt8 := (invTo 7 a).2
theorem inv_zero : inv 0 = 0 := by decide +kernel
theorem mul_inv (a : UInt8) (h : a ≠ 0) : mul a (inv a) = 1 := by
  have := of_allB (P := fun a => a == 0 || mul a (inv a) == 1) (by decide +kernel) a
  simpa [h] using this
theorem inv_mul (a : UInt8) (h : a ≠ 0) : mul (inv a) a = 1 := by rw [mul_comm, mul_inv a h]
theorem mul_eq_zero {a b : UInt8} (h : mul a b = 0) : a = 0 ∨ b = 0 := by
  by_cases ha : a = 0
  · exact .inl ha
  · right
    have : mul (inv a) (mul a b) = 0 := by rw [h, mul_zero]
    rwa [← mul_assoc, inv_mul a ha, one_mul] at this
theorem mul_ne_zero {a b : UInt8} (ha : a ≠ 0) (hb : b ≠ 0) : mul a b ≠ 0 := fun h => by
  rcases mul_eq_zero h with h | h <;> contradiction
theorem inv_ne_zero {a : UInt8} (h : a ≠ 0) : inv a ≠ 0 := fun h' => by
  have := mul_inv a h
  rw [h', mul_zero] at this
  exact absurd this (by decide)
theorem mul_cancel {a b c : UInt8} (h : a ≠ 0) (e : mul a b = mul a c) : b = c := by
  have := congrArg (mul (inv a)) e
  rwa [← mul_assoc, ← mul_assoc, inv_mul a h, one_mul, one_mul] at this
theorem inv_unique {a b : UInt8} (h : mul a b = 1) : b = inv a := by
  have ha : a ≠ 0 := fun e => by rw [e, zero_mul] at h; exact absurd h (by decide)
  exact mul_cancel ha (h.trans (mul_inv a ha).symm)
theorem inv_inv (a : UInt8) : inv (inv a) = a := by
  by_cases h : a = 0
  · subst h; decide +kernel
  · exact (inv_unique (inv_mul a h)).symm
theorem inv_mul_dist (a b : UInt8) : inv (mul a b) = mul (inv a) (inv b) := by
  by_cases ha : a = 0
  · subst ha; rw [zero_mul, inv_zero, zero_mul]
  by_cases hb : b = 0
  · subst hb; rw [mul_zero, inv_zero, mul_zero]
  refine (inv_unique ?_).symm
  have : mul (mul a b) (mul (inv a) (inv b)) = mul (mul a (inv a)) (mul b (inv b)) := by
    rw [mul_assoc, mul_assoc, ← mul_assoc b, mul_comm b (inv a), mul_assoc]
  rw [this, mul_inv a ha, mul_inv b hb, mul_one]
theorem inv_one : inv 1 = 1 := by decide +kernel
theorem xor_eq_zero {a b : UInt8} : a ^^^ b = 0 ↔ a = b := by
  constructor
  · intro h
    have : (a ^^^ b) ^^^ b = b := by rw [h]; simp
    rwa [UInt8.xor_assoc, UInt8.xor_self, UInt8.xor_zero] at this
  · rintro rfl; exact UInt8.xor_self
/-! the product as the document reckons it: first without the rest, in sixteen bits, then the rest -/
def bit16 (b : UInt16) (i : Nat) : Bool := b.toNat.testBit i
def sel16 (c : Bool) (a : UInt16) : UInt16 := if c then a else 0
def sh (a : UInt8) (k : Nat) : UInt16 := a.toUInt16 <<< (UInt16.ofNat k)
def clTo (a b : UInt8) : Nat → UInt16
  | 0 => 0
  | k + 1 => clTo a b k ^^^ sel16 (bit b k) (sh a k)
def redTo (x : UInt16) : Nat → UInt16
  | 0 => x
  | k + 1 => redTo x k ^^^ sel16 (bit16 (redTo x k) (14 - k)) (285 <<< (UInt16.ofNat (6 - k)))
def rmul (a b : UInt8) : UInt8 := (redTo (clTo a b 8) 7).toUInt8
theorem sel16_xor (c d : Bool) (x : UInt16) : sel16 (c ^^ d) x = sel16 c x ^^^ sel16 d x := by
  cases c <;> cases d <;> simp [sel16]
theorem sel16_xor' (c : Bool) (x y : UInt16) : sel16 c (x ^^^ y) = sel16 c x ^^^ sel16 c y := by
  cases c <;> simp [sel16]
theorem bit16_xor (a b : UInt16) (i : Nat) : bit16 (a ^^^ b) i = (bit16 a i ^^ bit16 b i) := by simp [bit16]
theorem sh_xor (a b : UInt8) (k : Nat) : sh (a ^^^ b) k = sh a k ^^^ sh b k := by
  unfold sh
  rw [UInt8.toUInt16_xor, UInt16.shiftLeft_xor]
theorem xor4_16 (a b c d : UInt16) : (a ^^^ b) ^^^ (c ^^^ d) = (a ^^^ c) ^^^ (b ^^^ d) := by ac_rfl
theorem clTo_left (a a' b : UInt8) (n : Nat) : clTo (a ^^^ a') b n = clTo a b n ^^^ clTo a' b n := by
  induction n with
  | zero => simp [clTo]
  | succ n ih => simp only [clTo,ih,sh_xor,sel16_xor',xor4_16]
theorem clTo_right (a b b' : UInt8) (n : Nat) : clTo a (b ^^^ b') n = clTo a b n ^^^ clTo a b' n := by
  induction n with
  | zero => simp [clTo]
  | succ n ih => simp only [clTo,ih,bit_xor,sel16_xor,xor4_16]
theorem redTo_xor (x y : UInt16) (n : Nat) : redTo (x ^^^ y) n = redTo x n ^^^ redTo y n := by
  induction n with
  | zero => rfl
  | succ n ih => simp only [redTo,ih,bit16_xor,sel16_xor,xor4_16]
theorem rmul_left (a a' b : UInt8) : rmul (a ^^^ a') b = rmul a b ^^^ rmul a' b := by
  unfold rmul
  rw [clTo_left, redTo_xor, UInt16.toUInt8_xor]
theorem rmul_right (a b b' : UInt8) : rmul a (b ^^^ b') = rmul a b ^^^ rmul a b' := by
  unfold rmul
  rw [clTo_right, redTo_xor, UInt16.toUInt8_xor]
theorem rmul_eq (a b : UInt8) : rmul a b = mul a b := by
  refine lin_ext (f := fun b => rmul a b) (g := fun b => mul a b) (fun _ _ => rmul_right _ _ _) (fun _ _ => mul_right _ _ _) (fun x hx => ?_) b
  refine lin_ext (f := fun a => rmul a x) (g := fun a => mul a x) (fun _ _ => rmul_left _ _ _) (fun _ _ => mul_left _ _ _) (fun y hy => ?_) a
  have h : basis.all (fun x => basis.all fun y => rmul y x == mul y x) = true := by decide +kernel
  have := List.all_eq_true.1 (List.all_eq_true.1 h x hx) y hy
  simpa using this
end Go.Proofs.Ytndbfphmjmhkjaa.Gf
