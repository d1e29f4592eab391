/-
  MMU, part 13: what is laid by one space, seen by it and by another (plain).
-/
import Derived.Test.YtigkgdjghelaoaaM12
set_option linter.unusedVariables false
set_option linter.unusedSimpArgs false
namespace Go.Proofs.Ytigkgdjghelaoaa.V
open Go
/-- no frame of the one is one of the other -/
def disj (s s' : List Pte) : Prop := ∀ p ∈ s, ∀ q ∈ s', p.is = true → q.is = true → p.fr ≠ q.fr
/-- no two pages have one frame -/
def lone (s : List Pte) : Prop := ∀ j k, j < k → k < s.length → (s.getD j default).is = true → (s.getD k default).is = true → (s.getD j default).fr ≠ (s.getD k default).fr
theorem getD_mem {s : List Pte} {k : Nat} (h : k < s.length) : s.getD k default ∈ s := by
  rw [List.getD_eq_getElem?_getD, List.getElem?_eq_getElem h]; exact List.getElem_mem _
theorem getD_set_ne (fr : Frames) (i j : Nat) (x : List UInt8) (h : i ≠ j) : (fr.set i x).getD j [] = fr.getD j [] := by
  rw [List.getD_eq_getElem?_getD, List.getD_eq_getElem?_getD, List.getElem?_set_ne h]
theorem getD_set_eq (fr : Frames) (i : Nat) (x : List UInt8) (h : i < fr.length) : (fr.set i x).getD i [] = x := by
  rw [List.getD_eq_getElem?_getD]; simp [h]
theorem setO_other {fr g : Frames} {s s' : List Pte} (hs : s.length = 16) (hs' : s'.length = 16) (hd : disj s s') {a x : Int} (ha : 0 ≤ a) (hx : 0 ≤ x) {b : UInt8} (h : setO fr s a b = some g) : byteO g s' x = byteO fr s' x := by
  have hsm := setO_same h
  unfold setO at h
  cases hf : findO s a 1 true with
  | none => simp [hf] at h
  | some q =>
    obtain ⟨f, i⟩ := q
    obtain ⟨-, h1, -, h2, -, h3, h4, -, -⟩ := findO_some ha hf
    simp only [hf] at h
    split at h
    · rename_i ht
      injection h with h
      unfold byteO
      cases hf' : findO s' x 1 false with
      | none => rfl
      | some q' =>
        obtain ⟨f', i'⟩ := q'
        obtain ⟨-, h1', -, h2', -, h3', h4', -, -⟩ := findO_some hx hf'
        have hne := hd _ (getD_mem (k := (a / 128).toNat) (by omega)) _ (getD_mem (k := (x / 128).toNat) (by omega)) h2 h2'
        rw [← h3, ← h3'] at hne
        have ht1 := thereF_iff.1 ht
        simp only [thereF_same hsm]
        by_cases ht' : thereF fr f' = true
        · rw [if_pos ht', if_pos ht', ← h, getD_set_ne _ _ _ _ (by have := thereF_iff.1 ht'; omega)]
        · rw [if_neg ht', if_neg ht']
    · cases h
theorem layN_other {s s' : List Pte} (hs : s.length = 16) (hs' : s'.length = 16) (hd : disj s s') {a x : Int} (ha : 0 ≤ a) (hx : 0 ≤ x) {d : List UInt8} {fr : Frames} : ∀ {k : Nat} {g : Frames}, layN s a d fr k = some g → byteO g s' x = byteO fr s' x
  | 0, g, h => by simp [layN] at h; rw [h]
  | k + 1, g, h => by
    simp only [layN] at h
    split at h
    · rename_i m hm
      rw [setO_other hs hs' hd (by omega) hx h, layN_other hs hs' hd ha hx hm]
    · cases h
theorem setO_own {fr g : Frames} {s : List Pte} (hs : s.length = 16) (hd : lone s) {a x : Int} (ha : 0 ≤ a) (hx : 0 ≤ x) {b : UInt8} (h : setO fr s a b = some g) : byteO g s x = if x = a then some b else byteO fr s x := by
  have hsm := setO_same h
  unfold setO at h
  cases hf : findO s a 1 true with
  | none => simp [hf] at h
  | some q =>
    obtain ⟨f, i⟩ := q
    obtain ⟨-, h1, -, h2, -, h3, h4, h5, h6⟩ := findO_some ha hf
    simp only [hf] at h
    split at h
    · rename_i ht
      injection h with h
      have ht1 := thereF_iff.1 ht
      unfold byteO
      by_cases e : x = a
      · subst e
        rw [if_pos rfl]
        have hff : findO s x 1 false = some (f, i) := by
          have h7 : ¬(¬((1 : Int) = 1 ∨ (1 : Int) = 4) ∨ 2048 ≤ x ∨ x % 1 ≠ 0) := by omega
          unfold findO
          rw [if_neg h7, if_neg (by rw [h2]; simp), if_neg (by simp), h3, h4]
        simp only [hff,thereF_same hsm]
        rw [if_pos ht, ← h, getD_set_eq _ _ _ (by omega), List.getD_eq_getElem?_getD]
        rw [List.getElem?_set_self (by omega)]
        rfl
      · rw [if_neg e]
        cases hf' : findO s x 1 false with
        | none => rfl
        | some q' =>
          obtain ⟨f', i'⟩ := q'
          obtain ⟨-, h1', -, h2', -, h3', h4', h5', h6'⟩ := findO_some hx hf'
          simp only [thereF_same hsm]
          by_cases ht' : thereF fr f' = true
          · have ht2 := thereF_iff.1 ht'
            rw [if_pos ht', if_pos ht', ← h]
            by_cases ep : x / 128 = a / 128
            · rw [ep] at h3'
              rw [← h3] at h3'
              subst h3'
              rw [getD_set_eq _ _ _ (by omega)]
              rw [List.getD_eq_getElem?_getD, List.getElem?_set_ne (by omega)]
              simp [List.getD_eq_getElem?_getD]
            · have hne : f ≠ f' := by
                rw [h3, h3']
                rcases Nat.lt_or_ge (a / 128).toNat (x / 128).toNat with hlt | hge
                · exact hd _ _ hlt (by omega) h2 h2'
                · exact fun e => hd (x / 128).toNat (a / 128).toNat (by omega) (by omega) h2' h2 e.symm
              rw [getD_set_ne _ _ _ _ (by omega)]
          · rw [if_neg ht', if_neg ht']
    · cases h
theorem layN_own {s : List Pte} (hs : s.length = 16) (hd : lone s) {a x : Int} (ha : 0 ≤ a) (hx : 0 ≤ x) {d : List UInt8} {fr : Frames} : ∀ {k : Nat} {g : Frames}, layN s a d fr k = some g → byteO g s x = if a ≤ x ∧ x < a + k then some (d.getD (x - a).toNat 0) else byteO fr s x
  | 0, g, h => by simp [layN] at h; rw [h, if_neg (by omega)]
  | k + 1, g, h => by
    simp only [layN] at h
    split at h
    · rename_i m hm
      rw [setO_own hs hd (by omega) hx h, layN_own hs hd ha hx hm]
      by_cases e : x = a + k
      · rw [if_pos e, if_pos (by omega)]
        congr 2
        omega
      · rw [if_neg e]
        by_cases e2 : a ≤ x ∧ x < a + k
        · rw [if_pos e2, if_pos (by omega)]
        · rw [if_neg e2, if_neg (by omega)]
    · cases h
theorem byteO_some {fr g : Frames} (h : g.map List.length = fr.map List.length) (s : List Pte) (x : Int) : (byteO g s x).isSome = (byteO fr s x).isSome := by
  unfold byteO
  cases findO s x 1 false with
  | none => rfl
  | some q =>
    obtain ⟨f, i⟩ := q
    simp only [thereF_same h]
    split <;> rfl
theorem copyN_congr {fr g : Frames} {s : List Pte} {a : Int} (ha : 0 ≤ a) (h : ∀ x, 0 ≤ x → byteO g s x = byteO fr s x) : ∀ k, copyN g s a k = copyN fr s a k
  | 0 => rfl
  | k + 1 => by simp only [copyN,copyN_congr ha h k,h (a + k) (by omega)]
theorem copyN_is {g : Frames} {s : List Pte} {a : Int} {d : List UInt8} : ∀ k, k ≤ d.length → (∀ j : Nat, j < k → byteO g s (a + j) = some (d.getD j 0)) → copyN g s a k = some (d.take k)
  | 0, _, _ => by simp [copyN]
  | k + 1, hk, h => by
    simp only [copyN,copyN_is k (by omega) (fun j hj => h j (by omega)),h k (by omega)]
    rw [take_snoc d k (by omega)]
    rfl
theorem load_one (fr : Frames) (s : List Pte) (a : Int) : loadR fr s a 1 = (byteO fr s a).map UInt8.toNat := by
  unfold loadR
  by_cases h : findO s a 1 false = none
  · rw [if_pos h]
    unfold byteO
    rw [h]
    rfl
  · rw [if_neg h]
    have e := copyN_cons (fr := fr) (s := s) (a := a) 0
    show Option.map getLE (copyN fr s a 1) = _
    rw [e]
    cases byteO fr s a <;> simp [copyN, getLE]
/-- what was laid is copied again -/
theorem back_copy {fr g : Frames} {s : List Pte} (hs : s.length = 16) (hd : lone s) {a : Int} (ha : 0 ≤ a) {d : List UInt8} (h : layO fr s a d = some g) : copyO g s a d.length = some d ∧ a + d.length ≤ 2048 := by
  unfold layO at h
  split at h
  · cases h
  · rename_i hc
    unfold copyO
    refine ⟨?_, by omega⟩
    rw [if_neg (by omega)]
    have := copyN_is (g := g) (s := s) (a := a) (d := d) d.length (Nat.le_refl _) fun j hj => by
      rw [layN_own hs hd ha (by omega) h, if_pos (by omega)]
      congr 2
      omega
    rw [Int.toNat_natCast, this, List.take_length]
theorem back_load {fr g : Frames} {s : List Pte} (hs : s.length = 16) (hd : lone s) {a : Int} (ha : 0 ≤ a) {d : List UInt8} (h : layO fr s a d = some g) (x : Int) (hx : 0 ≤ x) :
    (loadR g s x 1).isSome = (loadR fr s x 1).isSome ∧ (¬(a ≤ x ∧ x < a + d.length) → loadR g s x 1 = loadR fr s x 1) := by
  have hsm := layO_same h
  unfold layO at h
  split at h
  · cases h
  · rw [load_one, load_one]
    refine ⟨by rw [Option.isSome_map, Option.isSome_map, byteO_some hsm], fun hn => ?_⟩
    rw [layN_own hs hd ha hx h, if_neg hn]
theorem other_copy {fr g : Frames} {s s' : List Pte} (hs : s.length = 16) (hs' : s'.length = 16) (hd : disj s s') {a : Int} (ha : 0 ≤ a) {d : List UInt8} (h : layO fr s a d = some g) (x : Int) (hx : 0 ≤ x) (n : Int) : copyO g s' x n = copyO fr s' x n := by
  unfold layO at h
  split at h
  · cases h
  · unfold copyO
    rw [copyN_congr hx fun y hy => layN_other hs hs' hd ha hy h]
end Go.Proofs.Ytigkgdjghelaoaa.V
