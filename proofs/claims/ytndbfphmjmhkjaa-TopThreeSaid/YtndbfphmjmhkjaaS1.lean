/-
  SHARES as values; what the functions of package share, and of the document, answer (plain).
-/
import Derived.Test.YtndbfphmjmhkjaaFP
set_option linter.unusedVariables false
set_option linter.unusedSimpArgs false
namespace Go.Proofs.Ytndbfphmjmhkjaa.V
open Go Go.Proofs.Ytndbfphmjmhkjaa

structure Shr where
  x : UInt8
  d : List UInt8
deriving DecidableEq
instance : Inhabited Shr := ⟨⟨0, List.replicate 32 0⟩⟩
abbrev encKey (l : List UInt8) : VV := .agg (l.map encU)
def encShr (s : Shr) : VV := .agg [.int .u8 (B8 s.x), encKey s.d]
abbrev shrSh : Sh := .st [.cell, .arr 32 .cell]
abbrev encShrs (l : List Shr) : VV := .dat shrSh (l.map encShr)
theorem nl_shr (s : Shr) : nl (encShr s) = true := by simp only [encShr,nl_agg,nls_cons,nl_int,nls_u,nls_nil,Bool.and_self,Bool.and_true]
theorem nls_shr (l : List Shr) : nls (l.map encShr) = true := nls_map _ nl_shr l
theorem hasU (x : UInt8) : Has .cell (encU x) := by simp [encU, Has, VV.leaf]
theorem hasKey (l : List UInt8) (h : l.length = 32) : Has (.arr 32 .cell) (.agg (l.map encU)) := has_arrMap h hasU
theorem hasKey64 (l : List UInt8) (h : l.length = 64) : Has (.arr 64 .cell) (.agg (l.map encU)) := has_arrMap h hasU
theorem hasShr (s : Shr) (h : s.d.length = 32) : Has shrSh (.agg [.int .u8 (B8 s.x), .agg (s.d.map encU)]) := by simp [Has, HasL, VV.leaf, hasKey s.d h]; exact ⟨h, fun x _ => hasU x⟩
theorem B8_dec (a b : UInt8) : (B8 a = B8 b) = (a = b) := propext ⟨B8_inj, fun h => by rw [h]⟩
theorem B8_zero : (0 : Int) = B8 0 := id (Eq.refl _)
theorem B8_zero_iff (x : UInt8) : B8 x = 0 ↔ x = 0 := ⟨fun h => B8_inj (h.trans B8_zero), fun h => by rw [h]; rfl⟩
theorem veqs_u : ∀ (a b : List UInt8), veqs (a.map encU) (b.map encU) = decide (a = b)
  | [], [] => by simp [veqs]
  | [], y :: b => by simp [veqs]
  | x :: a, [] => by simp [veqs]
  | x :: a, y :: b => by
    simp only [List.map_cons,veqs,veqs_u a b,encU,veq,List.cons.injEq,B8_beq]
    by_cases h1 : x = y <;> by_cases h2 : a = b <;> simp [h1, h2]
theorem veq_key (a b : List UInt8) : veq (.agg (a.map encU)) (.agg (b.map encU)) = decide (a = b) := by
  simp only [veq,veqs_u]
theorem veq_shr (x y : UInt8) (a b : List UInt8) : veq (.agg [.int .u8 (B8 x), .agg (a.map encU)]) (.agg [.int .u8 (B8 y), .agg (b.map encU)]) = decide (x = y ∧ a = b) := by
  simp only [veq,veqs,veqs_u,B8_beq]
  by_cases h1 : x = y <;> by_cases h2 : a = b <;> simp [h1, h2]
theorem fit_key (a : List UInt8) (h : a.length = 32) : Fit (EQ.arr 32 (EQ.int .u8)) (.agg (a.map encU)) := by
  refine ⟨by rw [List.length_map]; exact h, fun v hv => ?_⟩
  obtain ⟨x, _, rfl⟩ := List.mem_map.1 hv
  rfl
theorem fit_shr (x : UInt8) (a : List UInt8) (h : a.length = 32) : Fit (EQ.st [EQ.int .u8, EQ.arr 32 (EQ.int .u8)]) (.agg [.int .u8 (B8 x), .agg (a.map encU)]) := ⟨rfl, fit_key a h, rfl⟩
theorem rdl_same {H : Heap} {vs : List VV} (h : nls vs = true) : RdL H vs vs := (rd_a H vs vs).mp (Rd.refl _ _ (by rw [nl_agg]; exact h))
/-- so many bytes, by their places -/
def tabU (n : Nat) (f : Nat → UInt8) : List UInt8 := (List.range n).map f
theorem tabU_len (n : Nat) (f : Nat → UInt8) : (tabU n f).length = n := by simp [tabU]
theorem tabU_nth (n : Nat) (f : Nat → UInt8) (i : Nat) (h : i < n) : Gf.nth (tabU n f) i = f i := by simp [Gf.nth, tabU, h]
theorem tabU_succ (n : Nat) (f : Nat → UInt8) : tabU (n + 1) f = tabU n f ++ [f n] := by simp [tabU, List.range_succ]
theorem ext_nth {a b : List UInt8} {n : Nat} (ha : a.length = n) (hb : b.length = n) (h : ∀ i, i < n → Gf.nth a i = Gf.nth b i) : a = b := by
  apply List.ext_getElem (by omega)
  intro i h1 h2
  have := h i (by omega)
  rwa [Gf.nth_lt h1, Gf.nth_lt h2] at this
theorem tabU_eq {n : Nat} {f g : Nat → UInt8} (h : ∀ i, i < n → f i = g i) : tabU n f = tabU n g :=
  ext_nth (tabU_len n f) (tabU_len n g) fun i hi => by rw [tabU_nth _ _ _ hi, tabU_nth _ _ _ hi, h i hi]
/-- a list filled from the front -/
def fillU (n k : Nat) (f : Nat → UInt8) : List UInt8 := tabU k f ++ List.replicate (n - k) 0
theorem fillU_len (n k : Nat) (f : Nat → UInt8) (h : k ≤ n) : (fillU n k f).length = n := by simp [fillU, tabU_len]; omega
theorem fillU_zero (n : Nat) (f : Nat → UInt8) : fillU n 0 f = List.replicate n 0 := by simp [fillU, tabU]
theorem fillU_all (n : Nat) (f : Nat → UInt8) : fillU n n f = tabU n f := by simp [fillU]
theorem fillU_set (n k : Nat) (f : Nat → UInt8) (h : k < n) : (fillU n k f).set k (f k) = fillU n (k + 1) f := by
  unfold fillU
  rw [List.set_append_right _ _ (by rw [tabU_len]; exact Nat.le_refl _), tabU_len, Nat.sub_self, tabU_succ, show n - k = (n - (k + 1)) + 1 by omega, List.replicate_succ, List.set_cons_zero, List.append_assoc]
  rfl
theorem fillU_setV (n k : Nat) (f : Nat → UInt8) (h : k < n) : ((fillU n k f).map encU).set k (.int .u8 (B8 (f k))) = (fillU n (k + 1) f).map encU := by
  rw [← fillU_set n k f h, List.map_set]
  rfl
theorem fillU_nth (n k : Nat) (f : Nat → UInt8) (i : Nat) (h : i < k) : Gf.nth (fillU n k f) i = f i := by
  have hl := tabU_len k f
  simp only [Gf.nth,fillU,List.getD_eq_getElem?_getD]
  rw [List.getElem?_append_left (by omega)]
  have := tabU_nth k f i h
  rwa [Gf.nth, List.getD_eq_getElem?_getD] at this
/-- the share at a place of a secret's polynomials -/
def shareAt (sec noise : List UInt8) (x : UInt8) : Shr := ⟨x, tabU 32 fun j => Gf.eval [Gf.nth sec j, Gf.nth noise j, Gf.nth noise (32 + j)] x⟩
def splitS (sec noise : List UInt8) (n : Nat) : List Shr := (List.range n).map fun i => shareAt sec noise (UInt8.ofNat (i + 1))
def keyAt (a b c : Shr) (t : UInt8) : List UInt8 := tabU 32 fun i => Gf.lag [a.x, b.x, c.x] [Gf.nth a.d i, Gf.nth b.d i, Gf.nth c.d i] t
/-- may three shares be joined? -/
def rightS (l : List Shr) : Bool := match l with
  | [a, b, c] => decide (a.x ≠ 0 ∧ b.x ≠ 0 ∧ c.x ≠ 0 ∧ a.x ≠ b.x ∧ a.x ≠ c.x ∧ b.x ≠ c.x)
  | _ => false
def joinS (l : List Shr) : List UInt8 × Int := match l with
  | [a, b, c] => if rightS [a, b, c] = true then (keyAt a b c 0, 0) else (List.replicate 32 0, 1)
  | _ => (List.replicate 32 0, 1)
def joinV (r : List UInt8 × Int) : VV := .tup [encKey r.1, .int .i64 r.2]
end Go.Proofs.Ytndbfphmjmhkjaa.V
