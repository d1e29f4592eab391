/-
  MMU, part 10: the program's memory is the reference's, in plain words.
-/
import Derived.Test.YtigkgdjghelaoaaM9
set_option linter.unusedVariables false
set_option linter.unusedSimpArgs false
namespace Go.Proofs.Ytigkgdjghelaoaa.V
open Go
theorem getD_drop (l : List UInt8) (i k : Nat) : (l.drop i).getD k 0 = l.getD (i + k) 0 := by simp [List.getD_eq_getElem?_getD, List.getElem?_drop]
theorem drop_getD (l : List UInt8) (i : Nat) (h : i < l.length) : l.drop i = l.getD i 0 :: l.drop (i + 1) := by
  rw [List.drop_eq_getElem_cons h]; simp [h]
/-- an address near another one, in one page -/
theorem findO_near {s : List Pte} {a : Int} {wr : Bool} {f i : Int} {size : Int} (h0 : 0 ≤ a) (h : findO s a size wr = some (f, i)) (j : Int) (hj : 0 ≤ j) (hj2 : i + j < 128) : findO s (a + j) 1 wr = some (f, i + j) := by
  obtain ⟨g0, g1, g2, g3, g4, g5, g6, g7, g8⟩ := findO_some h0 h
  have e : (a + j) / 128 = a / 128 := by omega
  unfold findO
  rw [e, if_neg (by omega), if_neg (by rw [g3]; simp), if_neg (by rintro ⟨hw, hx⟩; rw [g4 hw] at hx; simp at hx), g5, g6]
  congr 2
  omega
theorem byteO_near {fr : Frames} {s : List Pte} {a : Int} {f i size : Int} (h0 : 0 ≤ a) (h : findO s a size false = some (f, i)) (j : Int) (hj : 0 ≤ j) (hj2 : i + j < 128) :
    byteO fr s (a + j) = if thereF fr f = true then some ((fr.getD f.toNat []).getD (i + j).toNat 0) else none := by
  unfold byteO
  rw [findO_near h0 h j hj hj2]
/-- bytes of one page -/
theorem copyN_page {fr : Frames} {s : List Pte} {a : Int} {f i size : Int} (h0 : 0 ≤ a) (h : findO s a size false = some (f, i)) : ∀ (k : Nat), 1 ≤ k → i + k ≤ 128 →
    copyN fr s a k = if thereF fr f = true then some (((fr.getD f.toNat []).drop i.toNat).take k) else none := by
  intro k hk hk2
  induction k with
  | zero => omega
  | succ k ih =>
    have hb := byteO_near (fr := fr) h0 h (k : Int) (by omega) (by omega)
    have g7 := (findO_some h0 h).2.2.2.2.2.2.2.1
    by_cases ht : thereF fr f = true
    · have ht' := thereF_iff.1 ht
      rw [if_pos ht] at hb ⊢
      have hdl : ((fr.getD f.toNat []).drop i.toNat).length = 128 - i.toNat := by rw [List.length_drop]; omega
      have hc : copyN fr s a k = some (((fr.getD f.toNat []).drop i.toNat).take k) := by
        by_cases e : k = 0
        · subst e; simp [copyN]
        · rw [ih (by omega) (by omega), if_pos ht]
      simp only [copyN,hc,hb,Option.map_some]
      rw [take_snoc _ k (by omega), default_u8]
      congr 3
      rw [getD_drop, show (i + (k : Int)).toNat = i.toNat + k by omega]
    · rw [if_neg ht] at hb ⊢
      simp only [copyN,hb]
      cases copyN fr s a k <;> rfl
theorem load_eq (fr : Frames) (s : List Pte) (a size : Int) (ha : 0 ≤ a) : loadP fr s a size = loadR fr s a size := by
  unfold loadP loadR
  rcases hF : findO s a size false with _ | ⟨f, i⟩
  · simp
  · obtain ⟨g0, g1, g2, g3, g4, g5, g6, g7, g8⟩ := findO_some ha hF
    have hsz : 1 ≤ size ∧ size ≤ 4 := by omega
    rw [if_neg (by simp), copyN_page ha hF size.toNat (by omega) (by omega)]
    dsimp only
    split <;> simp
theorem copyN_add {fr : Frames} {s : List Pte} {a : Int} : ∀ (m k : Nat), copyN fr s a (k + m) = (copyN fr s a k).bind fun l => (copyN fr s (a + k) m).map fun r => l ++ r
  | 0, k => by cases h : copyN fr s a k <;> simp [copyN, h]
  | m + 1, k => by
    rw [← Nat.add_assoc, copyN, copyN_add m k]
    cases h : copyN fr s a k with
    | none => simp
    | some l =>
      simp only [Option.bind_some,copyN]
      cases h2 : copyN fr s (a + k) m with
      | none => simp
      | some r =>
        simp only [Option.map_some]
        rw [show a + ((k + m : Nat) : Int) = a + (k : Int) + (m : Int) by omega]
        cases byteO fr s (a + (k : Int) + (m : Int)) <;> simp
theorem piece_eq (fr : Frames) (s : List Pte) : ∀ (t : Nat) (a : Int) (n : Nat), 0 ≤ a → n < t → pieceN fr s t a n = copyN fr s a n
  | _, _, 0, _, _ => by unfold pieceN; rfl
  | 0, _, n + 1, _, h => by omega
  | t + 1, a, n + 1, ha, h => by
    rw [pieceN_succ]
    rcases hF : findO s a 1 false with _ | ⟨f, i⟩
    · dsimp only
      rw [copyN_at (i := 0) (by simp only [byteO,Int.natCast_zero,Int.add_zero,hF]) (n + 1) (by omega)]
    · obtain ⟨g0, g1, g2, g3, g4, g5, g6, g7, g8⟩ := findO_some ha hF
      dsimp only
      obtain ⟨m, hm⟩ : ∃ m, m = min (n + 1) (128 - i.toNat) := ⟨_, rfl⟩
      rw [← hm, show n + 1 = m + (n + 1 - m) by omega, copyN_add, copyN_page ha hF m (by omega) (by omega), ← piece_eq fr s t (a + (m : Int)) (n + 1 - m) (by omega) (by omega)]
      rw [show m + (n + 1 - m) - m = n + 1 - m by omega]
      split <;> simp
theorem setO_near {fr : Frames} {s : List Pte} {a : Int} {f i size : Int} (h0 : 0 ≤ a) (h : findO s a size true = some (f, i)) (j : Int) (hj : 0 ≤ j) (hj2 : i + j < 128) (b : UInt8) :
    setO fr s (a + j) b = if thereF fr f = true then some (fr.set f.toNat ((fr.getD f.toNat []).set (i + j).toNat b)) else none := by
  unfold setO
  rw [findO_near h0 h j hj hj2]
/-- bytes laid in one page -/
theorem layN_page {fr : Frames} {s : List Pte} {a : Int} {f i size : Int} (h0 : 0 ≤ a) (h : findO s a size true = some (f, i)) (d : List UInt8) : ∀ (k : Nat), 1 ≤ k → k ≤ d.length → i + k ≤ 128 →
    layN s a d fr k = if thereF fr f = true then some (fr.set f.toNat (putF (fr.getD f.toNat []) i.toNat (d.take k))) else none := by
  intro k hk hkd hk2
  induction k with
  | zero => omega
  | succ k ih =>
    have g7 := (findO_some h0 h).2.2.2.2.2.2.2.1
    by_cases ht : thereF fr f = true
    · have ht' := thereF_iff.1 ht
      rw [if_pos ht]
      have hc : layN s a d fr k = some (fr.set f.toNat (putF (fr.getD f.toNat []) i.toNat (d.take k))) := by
        by_cases e : k = 0
        · subst e
          simp only [layN,List.take_zero]
          have e1 : putF (fr.getD f.toNat []) i.toNat [] = fr.getD f.toNat [] := by simp [putF]
          rw [e1]
          congr 1
          apply List.ext_getElem (by simp)
          intro j h1 h2
          simp only [List.getElem_set]
          split
          · rename_i e; subst e; rw [List.getD_eq_getElem?_getD, List.getElem?_eq_getElem h1]; rfl
          · rfl
        · rw [ih (by omega) (by omega) (by omega), if_pos ht]
      have htk : (d.take k).length = k := by rw [List.length_take]; omega
      have hpl := putF_len (fr.getD f.toNat []) i.toNat (d.take k) (by omega)
      have hth : thereF (fr.set f.toNat (putF (fr.getD f.toNat []) i.toNat (d.take k))) f = true := by rw [thereF_same (set_same hpl)]; exact ht
      simp only [layN,hc]
      rw [setO_near h0 h (k : Int) (by omega) (by omega), if_pos hth, List.set_set]
      congr 2
      rw [List.getD_eq_getElem?_getD, List.getElem?_set_self (by omega), Option.getD_some, take_snoc d k (by omega), default_u8]
      unfold putF
      rw [show (i + (k : Int)).toNat = i.toNat + k by omega]
      have hA : (List.take i.toNat (fr.getD f.toNat [])).length = i.toNat := by rw [List.length_take]; omega
      have hD : List.drop (i.toNat + (d.take k).length) (fr.getD f.toNat []) = (fr.getD f.toNat []).getD (i.toNat + k) 0 :: List.drop (i.toNat + k + 1) (fr.getD f.toNat []) := by
        rw [htk, drop_getD _ _ (by omega)]
      rw [hD, List.set_append_right _ _ (by rw [List.length_append, hA, htk]; omega), List.length_append, hA, htk, Nat.sub_self, List.set_cons_zero]
      simp [htk, Nat.add_assoc]
    · rw [if_neg ht]
      refine layN_none (k := 1) ?_ (k + 1) (by omega)
      simp only [layN,Int.natCast_zero]
      have := setO_near (fr := fr) h0 h 0 (by omega) (by omega) (d.getD 0 0)
      rw [this, if_neg ht]
theorem layN_add {s : List Pte} {d : List UInt8} : ∀ (m : Nat) (a : Int) (fr : Frames) (k : Nat), layN s a d fr (k + m) = (layN s a d fr k).bind fun g => layN s (a + k) (d.drop k) g m
  | 0, a, fr, k => by cases h : layN s a d fr k <;> simp [layN, h]
  | m + 1, a, fr, k => by
    rw [← Nat.add_assoc, layN, layN_add m a fr k]
    cases h : layN s a d fr k with
    | none => simp
    | some g =>
      simp only [Option.bind_some,layN]
      cases h2 : layN s (a + k) (d.drop k) g m with
      | none => rfl
      | some r =>
        dsimp only
        rw [show a + ((k + m : Nat) : Int) = a + (k : Int) + (m : Int) by omega]
        rw [getD_drop]
theorem lay_eq (s : List Pte) : ∀ (t : Nat) (a : Int) (d : List UInt8) (fr : Frames), 0 ≤ a → d.length < t → layP s t a d fr = layN s a d fr d.length
  | t, a, [], fr, _, _ => by unfold layP; rfl
  | 0, a, x :: d, fr, _, h => by simp at h
  | t + 1, a, x :: d, fr, ha, h => by
    rw [layP_cons _ _ _ _ (by simp)]
    rcases hF : findO s a 1 true with _ | ⟨f, i⟩
    · dsimp only
      refine (layN_none (k := 1) ?_ _ (by simp)).symm
      simp only [layN,Int.natCast_zero,Int.add_zero,setO,hF]
    · obtain ⟨g0, g1, g2, g3, g4, g5, g6, g7, g8⟩ := findO_some ha hF
      dsimp only
      obtain ⟨m, hm⟩ : ∃ m, m = min (x :: d).length (128 - i.toNat) := ⟨_, rfl⟩
      have hl : (x :: d).length = d.length + 1 := rfl
      rw [← hm]
      have hg := layN_page (fr := fr) ha hF (x :: d) m (by omega) (by omega) (by omega)
      rw [show layN s a (x :: d) fr (x :: d).length = layN s a (x :: d) fr (m + ((x :: d).length - m)) by rw [show m + ((x :: d).length - m) = (x :: d).length by omega], layN_add, hg]
      split
      · rw [Option.bind_some, lay_eq s t (a + (m : Int)) ((x :: d).drop m) _ (by omega) (by rw [List.length_drop]; simp only [List.length_cons] at h ⊢; omega), List.length_drop]
      · rfl
theorem store_eq (fr : Frames) (s : List Pte) (a size : Int) (v : Nat) (ha : 0 ≤ a) : storeP fr s a size v = storeR fr s a size v := by
  unfold storeP storeR
  rcases hF : findO s a size true with _ | ⟨f, i⟩
  · simp
  · obtain ⟨g0, g1, g2, g3, g4, g5, g6, g7, g8⟩ := findO_some ha hF
    have hsz : 1 ≤ size ∧ size ≤ 4 := by omega
    have hl := putLE_len v size.toNat
    rw [if_neg (by simp)]
    unfold layO
    rw [if_neg (by omega), hl, layN_page ha hF (putLE v size.toNat) size.toNat (by omega) (by omega) (by omega), List.take_of_length_le (by omega), show min size.toNat 8 = size.toNat by omega]
end Go.Proofs.Ytigkgdjghelaoaa.V
