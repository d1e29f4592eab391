/-
  A MACHINE OF VALUES, TWENTIETH PART: code by rules, one behind the other; frames that are written anew (loops, ways that meet), names turned.
-/
import Derived.Test.YtndbfphmjmhkjaaVstep
set_option linter.unusedVariables false
set_option linter.unusedSectionVars false
set_option linter.unusedSimpArgs false
namespace Go.Proofs.Ytndbfphmjmhkjaa.V
open Go Go.RowKit

/-- code, from a frame on, comes to what K takes; names from n0 on are the call's own -/
def Ok (P : Program) (n0 : Nat) (c : Code) (S : VS) (K : VX → VS → Prop) : Prop :=
  ∀ (N B : Nat) (ρ0 : Names) (w0 : World) (Q : Exit → Act → World → Prop) (a : Act) (w : World) (ρ : Names), (∀ m, n0 ≤ m → ρ0 m = none) → codeOk N c = true → SR N B ρ0 w0 S a w ρ →
    (∀ e S' a' w' ρ', K e S' → SR N B ρ0 w0 S' a' w' ρ' → Q e.x a' w') → c.wp P Q a w

/-! ### frames written anew -/
/-- slots that are known -/
def slots : List (Nat × VV) → Nat → VV
  | [], _ => .any
  | (k, v) :: l, t => if t = k then v else slots l t
/-- blocks that are known -/
def rows : List (Nat × Blk) → Heap
  | [], _ => none
  | (k, b) :: l, m => if m = k then some b else rows l m
theorem slots_cons (k : Nat) (v : VV) (l : List (Nat × VV)) (t : Nat) : slots ((k, v) :: l) t = if t = k then v else slots l t := rfl
theorem slots_nil (t : Nat) : slots [] t = .any := rfl
theorem rows_cons (k : Nat) (v : Blk) (l : List (Nat × Blk)) (t : Nat) : rows ((k, v) :: l) t = if t = k then some v else rows l t := rfl
theorem rows_nil (t : Nat) : rows [] t = none := rfl
/-- a list's names are turned as the list says, all others stay -/
def turn : List (Nat × Nat) → Nat → Nat
  | [], m => m
  | (k, j) :: l, m => if m = k then j else turn l m
theorem turn_cons (k j : Nat) (l : List (Nat × Nat)) (m : Nat) : turn ((k, j) :: l) m = if m = k then j else turn l m := rfl
theorem turn_nil (m : Nat) : turn [] m = m := rfl
/-- the names that there are: those of the list, and those that are the caller's -/
def known (n0 : Nat) (σ : List (Nat × Nat)) (m : Nat) : Prop := m < n0 ∨ m ∈ σ.map (·.1)
mutual
/-- the second value says of the same what the first one says: names are turned; or (fz) a row that nobody will write to any more is data -/
inductive MR (n0 : Nat) (σ : List (Nat × Nat)) (H : Heap) (fz : Bool) : VV → VV → Prop
  | data (v : VV) (h : nl v = true) : MR n0 σ H fz v v
  | sl {m m' : Nat} {p : List Nat} {i n : Nat} (h : known n0 σ m') (h' : turn σ m' = m) : MR n0 σ H fz (.sl (some (m, p, i)) n) (.sl (some (m', p, i)) n)
  | ptr {m m' : Nat} {p : List Nat} (h : known n0 σ m') (h' : turn σ m' = m) : MR n0 σ H fz (.ptr m p) (.ptr m' p)
  | map {m m' : Nat} (h : known n0 σ m') (h' : turn σ m' = m) : MR n0 σ H fz (.map m) (.map m')
  | agg {us vs : List VV} (h : MRL n0 σ H fz us vs) : MR n0 σ H fz (.agg us) (.agg vs)
  | tup {us vs : List VV} (h : MRL n0 σ H fz us vs) : MR n0 σ H fz (.tup us) (.tup vs)
  | fn {f : FuncId} {us vs : List VV} (h : MRL n0 σ H fz us vs) : MR n0 σ H fz (.fn f us) (.fn f vs)
  | row {m k n : Nat} {e : Sh} {els : List VV} (h : fz = true) (h1 : H m = some (.row (.arr k e) (.agg els))) (h2 : n = els.length) (h3 : nls els = true) (h4 : m ∉ σ.map (·.2)) : MR n0 σ H fz (.sl (some (m, [], 0)) n) (.dat e els)
  | place {m : Nat} {s : Sh} {v : VV} (h : fz = true) (h1 : H m = some (.row s v)) (h3 : nl v = true) (h4 : m ∉ σ.map (·.2)) : MR n0 σ H fz (.ptr m []) (.pd s v)
  | nil (e : Sh) : MR n0 σ H fz (.sl none 0) (.dat e [])
  | empty {m : Nat} {p : List Nat} {i : Nat} : MR n0 σ H fz (.sl none 0) (.sl (some (m, p, i)) 0)
inductive MRL (n0 : Nat) (σ : List (Nat × Nat)) (H : Heap) (fz : Bool) : List VV → List VV → Prop
  | nil : MRL n0 σ H fz [] []
  | cons {u v : VV} {us vs : List VV} (h : MR n0 σ H fz u v) (h' : MRL n0 σ H fz us vs) : MRL n0 σ H fz (u :: us) (v :: vs)
end
section
variable {n0 : Nat} {σ : List (Nat × Nat)} {H : Heap} {fz : Bool}
theorem MR.leaf {u v : VV} (h : MR n0 σ H fz u v) : v.leaf = u.leaf := by cases h <;> rfl
theorem MR.leaf_has {u v : VV} (h : MR n0 σ H fz u v) (hl : u.leaf = true) (s : Sh) (hu : Has s u) : Has s v := by
  cases s with
  | cell => simp only [Has]; rw [h.leaf]; exact hl
  | st ls => cases u <;> simp [VV.leaf] at hl <;> simp [Has] at hu
  | arr n s => cases u <;> simp [VV.leaf] at hl <;> simp [Has] at hu
mutual
theorem MR.has : ∀ {u v : VV}, MR n0 σ H fz u v → ∀ s, Has s u → Has s v
  | _, _, .data v h, s, hu => hu
  | _, _, .sl h h', s, hu => MR.leaf_has (n0 := n0) (σ := σ) (H := H) (fz := fz) (.sl h h') rfl s hu
  | _, _, .ptr h h', s, hu => MR.leaf_has (n0 := n0) (σ := σ) (H := H) (fz := fz) (.ptr h h') rfl s hu
  | _, _, .map h h', s, hu => MR.leaf_has (n0 := n0) (σ := σ) (H := H) (fz := fz) (.map h h') rfl s hu
  | _, _, .fn h, s, hu => MR.leaf_has (n0 := n0) (σ := σ) (H := H) (fz := fz) (.fn h) rfl s hu
  | _, _, .row h h1 h2 h3 h4, s, hu => MR.leaf_has (n0 := n0) (σ := σ) (H := H) (fz := fz) (.row h h1 h2 h3 h4) rfl s hu
  | _, _, .place h h1 h3 h4, s, hu => MR.leaf_has (n0 := n0) (σ := σ) (H := H) (fz := fz) (.place h h1 h3 h4) rfl s hu
  | _, _, .nil e, s, hu => MR.leaf_has (n0 := n0) (σ := σ) (H := H) (fz := fz) (.nil e) rfl s hu
  | _, _, @MR.empty _ _ _ _ m p i, s, hu => MR.leaf_has (n0 := n0) (σ := σ) (H := H) (fz := fz) (@MR.empty n0 σ H fz m p i) rfl s hu
  | _, _, .tup h, s, hu => by cases s <;> simp [Has, VV.leaf] at hu
  | _, _, .agg h, s, hu => by
    cases s with
    | cell => simp [Has, VV.leaf] at hu
    | st ls => simp only [Has] at hu ⊢; exact MRL.hasL h ls hu
    | arr n s => simp only [Has] at hu ⊢; exact ⟨by rw [MRL.len h] at hu; exact hu.1, MRL.hasA h s hu.2⟩
theorem MRL.hasL : ∀ {us vs : List VV}, MRL n0 σ H fz us vs → ∀ ls, HasL ls us → HasL ls vs
  | _, _, .nil, ls, hu => hu
  | _, _, .cons h h', ls, hu => by
    cases ls with
    | nil => simp [HasL] at hu
    | cons s ls => simp only [HasL] at hu ⊢; exact ⟨MR.has h s hu.1, MRL.hasL h' ls hu.2⟩
theorem MRL.hasA : ∀ {us vs : List VV}, MRL n0 σ H fz us vs → ∀ s, (∀ u ∈ us, Has s u) → ∀ v ∈ vs, Has s v
  | _, _, .nil, s, hu => hu
  | _, _, .cons h h', s, hu => by
    intro v hv
    rcases List.mem_cons.1 hv with rfl | hv
    · exact MR.has h s (hu _ (by simp))
    · exact MRL.hasA h' s (fun u hm => hu u (by simp [hm])) v hv
theorem MRL.len : ∀ {us vs : List VV}, MRL n0 σ H fz us vs → us.length = vs.length
  | _, _, .nil => rfl
  | _, _, .cons h h' => by simp only [List.length_cons,MRL.len h']
end
end
section
variable {n0 : Nat} {σ : List (Nat × Nat)} {H : Heap} {fz : Bool} {ρ ρ' : Names} {w : World}
/-- what is asked of the names, new and old -/
structure Turned (n0 : Nat) (σ : List (Nat × Nat)) (H : Heap) (fz : Bool) (ρ ρ' : Names) (w : World) : Prop where
  names : ∀ m, known n0 σ m → ρ' m = ρ (turn σ m)
  un : ∀ b, Unnamed ρ b → Unnamed ρ' b
  row : fz = true → ∀ m s v l, H m = some (.row s v) → m ∉ σ.map (·.2) → ρ m = some l → Unnamed ρ' l.block ∧ l.block < w.heap.size ∧ RowAt ρ w l s v
theorem C1.data (hU : ∀ b, Unnamed ρ b → Unnamed ρ' b) (v : VV) (cs : List Value) (hn : nl v = true) (h : C1 ρ w v cs) : C1 ρ' w v cs :=
  C1.mono (ρ := .bare (Unnamed ρ')) (fun m l h => by cases h) (fun b _ hu => hu.1) v cs (C1.bare hU v cs hn h)
theorem CR.data (hU : ∀ b, Unnamed ρ b → Unnamed ρ' b) (v : List VV) (cs : List Value) (hn : nls v = true) (h : CR ρ w v cs) : CR ρ' w v cs :=
  CR.mono (ρ := .bare (Unnamed ρ')) (fun m l h => by cases h) (fun b _ hu => hu.1) v cs (CR.bare hU v cs hn h)
mutual
theorem MR.cells (hT : Turned n0 σ H fz ρ ρ' w) : ∀ {u v : VV}, MR n0 σ H fz u v → ∀ (cs : List Value), C1 ρ w u cs → C1 ρ' w v cs
  | _, _, .data v h, cs, hc => C1.data hT.un v cs h hc
  | _, _, .sl h h', cs, hc => by simp only [C1] at hc ⊢; rw [hT.names _ h, h']; exact hc
  | _, _, .ptr h h', cs, hc => by simp only [C1] at hc ⊢; rw [hT.names _ h, h']; exact hc
  | _, _, .map h h', cs, hc => by simp only [C1] at hc ⊢; rw [hT.names _ h, h']; exact hc
  | _, _, .agg h, cs, hc => by simp only [C1] at hc ⊢; exact MRL.cells hT h cs hc
  | _, _, .tup h, cs, hc => by simp only [C1] at hc
  | _, _, .fn h, cs, hc => by
    simp only [C1] at hc ⊢
    obtain ⟨xs, h1, h2⟩ := hc
    exact ⟨xs, h1, MRL.caps hT h _ h2⟩
  | _, _, @MR.row _ _ _ _ m k n e els h h1 h2 h3 h4, cs, hc => by
    simp only [C1] at hc ⊢
    rcases hc with ⟨rfl, A, hc⟩ | ⟨l, cap, e', j', hl, hc, hcap, hat, _⟩
    · exact ⟨A, 0, by rw [← h2]; exact hc, by omega, fun h => absurd (List.eq_nil_of_length_eq_zero h2.symm) h⟩
    · obtain ⟨hu, hlt, hrow⟩ := hT.row h m _ _ l h1 h4 hl
      refine ⟨_, cap, by rw [← h2]; exact hc, by omega, fun _ => ?_⟩
      obtain ⟨ds, q1, q2, q3⟩ := hrow.cells
      simp only [C1] at q1
      have hh := hrow.has
      simp only [Has] at hh
      refine ⟨l.block, _, ds, rfl, CR.data hT.un _ _ h3 q1, hh.2, ?_, hu, hlt⟩
      rw [hrow.sh]
      simp only [List.nil_append,Sh.off,Nat.zero_mul,Nat.add_zero]
      exact q3
  | _, _, @MR.place _ _ _ _ m s v h h1 h3 h4, cs, hc => by
    simp only [C1] at hc ⊢
    obtain ⟨l, hl, hc⟩ := hc
    obtain ⟨hu, hlt, hrow⟩ := hT.row h m _ _ l h1 h4 hl
    obtain ⟨ds, q1, q2, q3⟩ := hrow.cells
    refine ⟨l.block, l.base, ds, ?_, C1.data hT.un _ _ h3 q1, hrow.has, q3, hu, hlt⟩
    rw [hc]
    simp [Sh.off]
  | _, _, .nil e, cs, hc => by
    simp only [C1] at hc ⊢
    exact ⟨none, 0, hc.2, Nat.le_refl _, fun h => absurd rfl h⟩
  | _, _, .empty, cs, hc => by
    simp only [C1] at hc ⊢
    exact .inl ⟨trivial, none, hc.2⟩
theorem MRL.cells (hT : Turned n0 σ H fz ρ ρ' w) : ∀ {us vs : List VV}, MRL n0 σ H fz us vs → ∀ (cs : List Value), CR ρ w us cs → CR ρ' w vs cs
  | _, _, .nil, cs, hc => by simpa only [CR] using hc
  | _, _, .cons h h', cs, hc => by
    simp only [CR] at hc ⊢
    obtain ⟨c1, c2, h1, h2, h3⟩ := hc
    exact ⟨c1, c2, h1, MR.cells hT h c1 h2, MRL.cells hT h' c2 h3⟩
theorem MRL.caps (hT : Turned n0 σ H fz ρ ρ' w) : ∀ {us vs : List VV}, MRL n0 σ H fz us vs → ∀ (cs : List Value), CV ρ w us cs → CV ρ' w vs cs
  | _, _, .nil, cs, hc => by simpa only [CV] using hc
  | _, _, .cons h h', cs, hc => by
    simp only [CV] at hc ⊢
    obtain ⟨x, c2, h1, h2, h3, h4⟩ := hc
    exact ⟨x, c2, h1, by rw [h.leaf]; exact h2, MR.cells hT h [x] h3, MRL.caps hT h' c2 h4⟩
end
/-- one value, as a whole -/
theorem MR.value1 (hT : Turned n0 σ H fz ρ ρ' w) {u v : VV} {x : Value} (h : MR n0 σ H fz u v) (hx : VR1 ρ w u x) : VR1 ρ' w v x := by
  by_cases hu : ∃ us, u = .agg us
  · obtain ⟨us, rfl⟩ := hu
    have key : ∃ vs, v = .agg vs ∧ ∀ cs, CR ρ w us cs → CR ρ' w vs cs := by
      cases h with
      | data _ h => exact ⟨us, rfl, fun cs hc => CR.data hT.un us cs (by simpa only [nl] using h) hc⟩
      | agg h => exact ⟨_, rfl, fun cs hc => MRL.cells hT h cs hc⟩
    obtain ⟨vs, rfl, hk⟩ := key
    obtain ⟨cs, h1, h2⟩ := hx
    exact ⟨cs, h1, hk _ h2⟩
  · have h1 : C1 ρ w u [x] := by
      cases u with
      | agg us => exact absurd ⟨us, rfl⟩ hu
      | any => cases h with | data _ h => simp [nl] at h
      | _ => exact hx
    have h2 := MR.cells hT h [x] h1
    cases v with
    | agg vs => cases h with
      | data _ _ => exact absurd ⟨vs, rfl⟩ hu
      | agg _ => exact absurd ⟨_, rfl⟩ hu
    | any => trivial
    | _ => exact h2
theorem MRL.values (hT : Turned n0 σ H fz ρ ρ' w) : ∀ {us vs : List VV}, MRL n0 σ H fz us vs → ∀ (xs : List Value), VRs ρ w us xs → VRs ρ' w vs xs
  | _, _, .nil, xs, hx => hx
  | _, _, .cons h h', xs, hx => by
    obtain ⟨x, ys, h1, h2, h3⟩ := hx
    exact ⟨x, ys, h1, MR.value1 hT h h2, MRL.values hT h' ys h3⟩
theorem MRL.data : ∀ (l : List VV), nls l = true → MRL n0 σ H fz l l
  | [], _ => .nil
  | v :: l, h => by
    simp only [nls,Bool.and_eq_true] at h
    exact .cons (.data v h.1) (MRL.data l h.2)
theorem MR.value (hT : Turned n0 σ H fz ρ ρ' w) {u v : VV} {x : Value} (h : MR n0 σ H fz u v) (hx : VR ρ w u x) : VR ρ' w v x := by
  by_cases hu : ∃ us, u = .tup us
  · obtain ⟨us, rfl⟩ := hu
    have key : ∃ vs, v = .tup vs ∧ MRL n0 σ H fz us vs := by
      cases h with
      | data _ h => exact ⟨us, rfl, MRL.data us (by simpa only [nl] using h)⟩
      | tup h => exact ⟨_, rfl, h⟩
    obtain ⟨vs, rfl, hk⟩ := key
    obtain ⟨xs, h1, h2⟩ := hx
    exact ⟨xs, h1, MRL.values hT hk _ h2⟩
  · have h1 : VR1 ρ w u x := by cases u <;> first | exact hx | exact absurd ⟨_, rfl⟩ hu
    have h2 := MR.value1 hT h h1
    cases v with
    | tup vs => cases h with
      | data _ _ => exact absurd ⟨_, rfl⟩ hu
      | tup _ => exact absurd ⟨_, rfl⟩ hu
    | _ => exact h2
end
/-- S holds what T says, T's names being S's by a list -/
def Ren (n0 : Nat) (S T : VS) : Prop :=
  ∀ (N B : Nat) (ρ0 : Names) (w0 : World) (a : Act) (w : World) (ρ : Names), (∀ m, n0 ≤ m → ρ0 m = none) → SR N B ρ0 w0 S a w ρ → ∃ ρ', SR N B ρ0 w0 T a w ρ'
theorem Ren.refl (n0 : Nat) (S : VS) : Ren n0 S S := fun _ _ _ _ _ _ ρ _ h => ⟨ρ, h⟩
theorem Ren.trans {n0 : Nat} {S T U : VS} (h : Ren n0 S T) (h' : Ren n0 T U) : Ren n0 S U := fun N B ρ0 w0 a w ρ h0 hS => by
  obtain ⟨ρ1, h1⟩ := h N B ρ0 w0 a w ρ h0 hS
  exact h' N B ρ0 w0 a w ρ1 h0 h1
def AllS (n0 : Nat) (σ : List (Nat × Nat)) (H : Heap) (fz : Bool) (tm : Nat → VV) : List (Nat × VV) → Prop
  | [] => True
  | (k, v) :: l => MR n0 σ H fz (tm k) v ∧ AllS n0 σ H fz tm l
inductive MB (n0 : Nat) (σ : List (Nat × Nat)) (H : Heap) (fz : Bool) : Blk → Blk → Prop
  | row {s : Sh} {u v : VV} (h : MR n0 σ H fz u v) : MB n0 σ H fz (.row s u) (.row s v)
  | map {es : List (VV × VV)} (h : ∀ x ∈ es, nl x.1 = true ∧ nl x.2 = true) : MB n0 σ H fz (.map es) (.map es)
def AllB (n0 : Nat) (σ : List (Nat × Nat)) (H : Heap) (fz : Bool) : List (Nat × Blk) → Prop
  | [] => True
  | (k, b) :: l => (known n0 σ k → ∃ b0, H (turn σ k) = some b0 ∧ MB n0 σ H fz b0 b) ∧ AllB n0 σ H fz l
theorem AllS.at {n0 : Nat} {σ : List (Nat × Nat)} {H : Heap} {fz : Bool} {tm : Nat → VV} : ∀ (l : List (Nat × VV)), AllS n0 σ H fz tm l → ∀ t, slots l t = .any ∨ MR n0 σ H fz (tm t) (slots l t)
  | [], _, t => .inl rfl
  | (k, v) :: l, h, t => by
    rw [slots_cons]
    split
    · rename_i e; subst e; exact .inr h.1
    · exact AllS.at l h.2 t
theorem AllB.at {n0 : Nat} {σ : List (Nat × Nat)} {H : Heap} {fz : Bool} : ∀ (l : List (Nat × Blk)), AllB n0 σ H fz l → ∀ m b, rows l m = some b → known n0 σ m → ∃ b0, H (turn σ m) = some b0 ∧ MB n0 σ H fz b0 b
  | [], _, m, b, h => by cases h
  | (k, v) :: l, hl, m, b, h => by
    rw [rows_cons] at h
    split at h
    · rename_i e; subst e; injection h with h; subst h; exact hl.1
    · exact AllB.at l hl.2 m b h
theorem turn_low : ∀ (σ : List (Nat × Nat)) (m : Nat), m ∉ σ.map (·.1) → turn σ m = m
  | [], m, _ => rfl
  | (k, j) :: l, m, h => by
    simp only [List.map_cons,List.mem_cons,not_or] at h
    rw [turn_cons, if_neg h.1, turn_low l m h.2]
theorem turn_mem : ∀ (σ : List (Nat × Nat)) (m : Nat), m ∈ σ.map (·.1) → (m, turn σ m) ∈ σ
  | [], m, h => by simp at h
  | (k, j) :: l, m, h => by
    rw [turn_cons]
    split
    · rename_i e; subst e; simp
    · rename_i e
      simp only [List.map_cons,List.mem_cons] at h
      exact List.mem_cons_of_mem _ (turn_mem l m (h.resolve_left e))
/-- a list by which names are turned: its names are the call's own, on both sides; no name of the elder frame is taken twice; all lie below n, and have blocks -/
def turnOk (n0 n : Nat) (ks : List Nat) (σ : List (Nat × Nat)) : Bool :=
  (σ.all fun x => decide (n0 ≤ x.1) && decide (x.1 < n) && decide (n0 ≤ x.2) && ks.contains x.1) && decide ((σ.map (·.2)).Nodup)
theorem turn_inj {n0 n : Nat} {ks : List Nat} {σ : List (Nat × Nat)} (h : turnOk n0 n ks σ = true) (m m' : Nat) (h1 : known n0 σ m) (h2 : known n0 σ m') (he : turn σ m = turn σ m') : m = m' := by
  simp only [turnOk,Bool.and_eq_true,decide_eq_true_eq,List.all_eq_true] at h
  obtain ⟨ha, hd⟩ := h
  have low : ∀ m, m < n0 → turn σ m = m := fun m hm => turn_low σ m fun hmem => by
    obtain ⟨x, hx, rfl⟩ := List.mem_map.1 hmem
    have := (ha x hx).1.1.1
    omega
  have inj : ∀ (l : List (Nat × Nat)), (l.map (·.2)).Nodup → ∀ x y, x ∈ l → y ∈ l → x.2 = y.2 → x = y := by
    intro l
    induction l with
    | nil => intro _ x y hx; simp at hx
    | cons z l ih =>
      intro hd x y hx hy e
      simp only [List.map_cons,List.nodup_cons] at hd
      rcases List.mem_cons.1 hx with g1 | g1
      · rcases List.mem_cons.1 hy with g2 | g2
        · rw [g1, g2]
        · exact (hd.1 (List.mem_map.2 ⟨y, g2, by rw [← e, g1]⟩)).elim
      · rcases List.mem_cons.1 hy with g2 | g2
        · exact (hd.1 (List.mem_map.2 ⟨x, g1, by rw [e, g2]⟩)).elim
        · exact ih hd.2 x y g1 g2 e
  have mem : ∀ m, m ∈ σ.map (·.1) → (m, turn σ m) ∈ σ := turn_mem σ
  rcases h1 with h1 | h1
  · rcases h2 with h2 | h2
    · rw [low m h1, low m' h2] at he; exact he
    · have := (ha _ (mem m' h2)).1.2
      rw [low m h1] at he
      dsimp only at this
      omega
  · rcases h2 with h2 | h2
    · have := (ha _ (mem m h1)).1.2
      rw [low m' h2] at he
      dsimp only at this
      omega
    · have := inj σ hd _ _ (mem m h1) (mem m' h2) he
      exact congrArg Prod.fst this
theorem rows_mem : ∀ (h : List (Nat × Blk)) (k : Nat), k ∈ h.map (·.1) → ∃ b, rows h k = some b
  | [], k, hk => by simp at hk
  | (j, b) :: l, k, hk => by
    rw [rows_cons]
    split
    · exact ⟨b, rfl⟩
    · rename_i e
      simp only [List.map_cons,List.mem_cons] at hk
      exact rows_mem l k (hk.resolve_left e)
theorem Ren.mk {n0 n n' : Nat} {tm : Nat → VV} {H : Heap} {l : List (Nat × VV)} {h : List (Nat × Blk)} (σ : List (Nat × Nat)) (fz : Bool) (hfz : fz = true → n0 = 0) (hσ : turnOk n0 n' (h.map (·.1)) σ = true) (hn : n0 ≤ n')
    (h1 : AllS n0 σ H fz tm l) (h3 : AllB n0 σ H fz h) :
    Ren n0 ⟨tm, H, n⟩ ⟨slots l, rows h, n'⟩ := by
  intro N B ρ0 w0 a w ρ h0 hS
  classical
  have hinj := turn_inj hσ
  have hσ' := hσ
  simp only [turnOk,Bool.and_eq_true,decide_eq_true_eq,List.all_eq_true] at hσ'
  obtain ⟨ha, _⟩ := hσ'
  have hh := hS.heap
  have he := hS.ext
  dsimp only at hh
  let ρ' : Names := ⟨fun m => if known n0 σ m then ρ (turn σ m) else none, fun b => ρ.im b ∨ (fz = true ∧ w0.heap.size ≤ b)⟩
  have hρ : ∀ m, known n0 σ m → ρ' m = ρ (turn σ m) := fun m hm => if_pos hm
  have hρ2 : ∀ m l, ρ' m = some l → known n0 σ m ∧ ρ (turn σ m) = some l := fun m l hm => by
    by_cases hk : known n0 σ m
    · exact ⟨hk, by rw [← hρ m hk]; exact hm⟩
    · have : ρ' m = none := if_neg hk
      rw [this] at hm
      cases hm
  have hU : ∀ b, Unnamed ρ b → Unnamed ρ' b := fun b hb => ⟨.inl hb.1, fun m l hm => hb.2 _ l (hρ2 m l hm).2⟩
  have low : ∀ m, m < n0 → turn σ m = m := fun m hm => turn_low σ m fun hmem => by
    obtain ⟨x, hx, rfl⟩ := List.mem_map.1 hmem
    have := (ha x hx).1.1.1
    omega
  have live : ∀ m, m ∈ σ.map (·.1) → H (turn σ m) ≠ none := fun m hm => by
    have h5 := (ha _ (turn_mem σ m hm)).2
    dsimp only at h5
    obtain ⟨b, hb⟩ := rows_mem h m (by simpa using h5)
    obtain ⟨b0, h6, _⟩ := AllB.at h h3 m b hb (.inr hm)
    rw [h6]; simp
  have hT : Turned n0 σ H fz ρ ρ' w := by
    refine ⟨hρ, hU, fun hf m s v l' hm hk hl => ?_⟩
    have hz := hfz hf
    have hlt := hh.lt m l' hl
    refine ⟨⟨.inr ⟨hf, ?_⟩, fun m2 l2 hm2 e => ?_⟩, hlt.2, hh.row m s v l' hm hl⟩
    · rcases he.fresh m l' hl with g | g | ⟨m0, l0, g, _⟩
      · rw [h0 m (by omega)] at g; cases g
      · exact g
      · rw [h0 m0 (by omega)] at g; cases g
    · obtain ⟨k1, k2⟩ := hρ2 m2 l2 hm2
      rcases k1 with k1 | k1
      · omega
      · have := hh.apart _ m l2 l' k2 hl (live m2 k1) (by rw [hm]; simp) e
        exact hk (by rw [← this]; exact List.mem_map.2 ⟨_, turn_mem σ m2 k1, rfl⟩)
  refine ⟨ρ', ⟨fun t => ?_, hS.defers, hS.size, ?_, hS.below, ?_⟩⟩
  · dsimp only
    rcases AllS.at l h1 t with e | e
    · rw [e]; simp [VR, VR1]
    · have := hS.tm t
      dsimp only at this
      exact MR.value hT e this
  · dsimp only
    refine ⟨hh.base, fun m hm => ?_, fun m l hm => hh.lt _ l (hρ2 m l hm).2, fun m m' l1 l2 g1 g2 e1 e2 hb => ?_, fun m s v l' hm hl => ?_, fun m es l' hm hl => ?_⟩
    · have hm : n' ≤ m := hm
      refine if_neg fun hk => ?_
      rcases hk with hk | hk
      · omega
      · have := (ha _ (turn_mem σ m hk)).1.1.2
        dsimp only at this
        omega
    · obtain ⟨k1, k2⟩ := hρ2 m l1 g1
      obtain ⟨k3, k4⟩ := hρ2 m' l2 g2
      have lv : ∀ m, known n0 σ m → rows h m ≠ none → H (turn σ m) ≠ none := fun m hk hm => by
        cases hr : rows h m with
        | none => exact absurd hr hm
        | some b => obtain ⟨b0, h6, _⟩ := AllB.at h h3 m b hr hk; rw [h6]; simp
      exact hinj m m' k1 k3 (hh.apart _ _ l1 l2 k2 k4 (lv m k1 e1) (lv m' k3 e2) hb)
    · obtain ⟨k1, k2⟩ := hρ2 m l' hl
      obtain ⟨b0, hb, hm⟩ := AllB.at h h3 m _ hm k1
      cases hm with
      | row hm =>
        rename_i u
        have hrow := hh.row _ s u l' hb k2
        obtain ⟨cs, c1, c2, c3⟩ := hrow.cells
        exact ⟨hrow.sh, hm.has s hrow.has, ⟨cs, MR.cells hT hm cs c1, c2, c3⟩, hrow.room⟩
    · obtain ⟨k1, k2⟩ := hρ2 m l' hl
      obtain ⟨b0, hb, hm⟩ := AllB.at h h3 m _ hm k1
      cases hm with
      | map hv =>
        have hmap := hh.map _ _ l' hb k2
        obtain ⟨xs, clock, c1, c2⟩ := hmap.obj
        refine ⟨xs, clock, c1, ?_⟩
        have key : ∀ (es : List (VV × VV)) (xs : List MapEntry), (∀ x ∈ es, nl x.1 = true ∧ nl x.2 = true) → ME ρ w es xs → ME ρ' w es xs := by
          intro es
          induction es with
          | nil => intro xs _ h; exact h
          | cons x es ih =>
            intro xs hq h
            obtain ⟨y, ys, g1, g2, g3, g4, g5⟩ := h
            obtain ⟨q1, q2⟩ := hq x (by simp)
            exact ⟨y, ys, g1, g2, MR.value1 hT (.data _ q1) g3, MR.value1 hT (.data _ q2) g4, ih ys (fun z hz => hq z (by simp [hz])) g5⟩
        exact key es _ hv c2
  · refine ⟨fun m l hm => ?_, he.size, fun b hb hu => he.block b hb hu, fun m l hm => ?_, fun b hb => .inl (he.im b hb), fun b hb => ?_⟩
    · have hlt : m < n0 := by
        rcases Nat.lt_or_ge m n0 with h | h
        · exact h
        · rw [h0 m h] at hm; cases hm
      rw [hρ m (.inl hlt), low m hlt]
      exact he.names m l hm
    · obtain ⟨k1, k2⟩ := hρ2 m l hm
      rcases he.fresh _ l k2 with g | g | g
      · exact .inr (.inr ⟨_, l, g, rfl⟩)
      · exact .inr (.inl g)
      · exact .inr (.inr g)
    · rcases hb with hb | hb
      · exact he.imb b hb
      · exact .inr hb.2

/-! ### rules -/
section
variable {P : Program} {n0 : Nat} {S T : VS} {K K' : VX → VS → Prop}
theorem ok_ren {c : Code} (h : Ren n0 S T) (h' : Ok P n0 c T K) : Ok P n0 c S K := fun N B ρ0 w0 Q a w ρ h0 hok hS next => by
  obtain ⟨ρ1, h1⟩ := h N B ρ0 w0 a w ρ h0 hS
  exact h' N B ρ0 w0 Q a w ρ1 h0 hok h1 next
theorem ok_mono {c : Code} (hk : ∀ e S, K e S → K' e S) (h : Ok P n0 c S K) : Ok P n0 c S K' := fun N B ρ0 w0 Q a w ρ h0 hok hS next =>
  h N B ρ0 w0 Q a w ρ h0 hok hS fun e S' a' w' ρ' k s => next e S' a' w' ρ' (hk e S' k) s
/-- K holds of frames that say as much -/
def Wide (n0 : Nat) (K : VX → VS → Prop) (e : VX) (S : VS) : Prop := ∃ T, Ren n0 S T ∧ K e T
theorem ok_wide {c : Code} (h : Ok P n0 c S (Wide n0 K)) : Ok P n0 c S K := fun N B ρ0 w0 Q a w ρ h0 hok hS next =>
  h N B ρ0 w0 Q a w ρ h0 hok hS fun e S' a' w' ρ' ⟨T, ht, k⟩ s => by
    obtain ⟨ρ1, h1⟩ := ht N B ρ0 w0 a' w' ρ' h0 s
    exact next e T a' w' ρ1 k h1
theorem ok_skip (h : K .normal S) : Ok P n0 .skip S K := fun N B ρ0 w0 Q a w ρ _ _ hS next => wp_skip (next .normal S a w ρ h hS)
theorem ok_label {l : Nat} (h : K .normal S) : Ok P n0 (.label l) S K := fun N B ρ0 w0 Q a w ρ _ _ hS next => wp_label (next .normal S a w ρ h hS)
theorem ok_exit {i : Nat} (h : K (.exit i) S) : Ok P n0 (.exit i) S K := fun N B ρ0 w0 Q a w ρ _ _ hS next => wp_exit (next (.exit i) S a w ρ h hS)
theorem ok_ret (h : K .ret S) : Ok P n0 .ret S K := fun N B ρ0 w0 Q a w ρ _ _ hS next => wp_ret (next .ret S a w ρ h hS)
theorem ok_seq {x y : Code} (h : Ok P n0 x S (VX.seq (fun S' => Ok P n0 y S' K) K)) : Ok P n0 (.seq x y) S K := fun N B ρ0 w0 Q a w ρ h0 hok hS next => by
  simp only [codeOk,Bool.and_eq_true] at hok
  refine wp_seq (h N B ρ0 w0 _ a w ρ h0 hok.1 hS fun e S' a' w' ρ' hk hS' => ?_)
  cases e with
  | normal => exact hk N B ρ0 w0 Q a' w' ρ' h0 hok.2 hS' next
  | exit i => exact next (.exit i) S' a' w' ρ' hk hS'
  | ret => exact next .ret S' a' w' ρ' hk hS'
theorem ok_cond {c : Operand} {x y : Code} {t : Bool} (hc : ev S.tm c = .bool t) (h : vif t (Ok P n0 x S K) (Ok P n0 y S K)) : Ok P n0 (.cond c x y) S K := fun N B ρ0 w0 Q a w ρ h0 hok hS next => by
  simp only [codeOk,Bool.and_eq_true] at hok
  have hx := ev_sound hS.tm c
  rw [hc] at hx
  exact wp_cond_split hx.bool (fun ht => h.1 ht N B ρ0 w0 Q a w ρ h0 hok.1 hS next) (fun ht => h.2 ht N B ρ0 w0 Q a w ρ h0 hok.2 hS next)
theorem ok_block {id : Nat} {c : Code} (h : Ok P n0 c S (VX.block id K)) : Ok P n0 (.block id c) S K := fun N B ρ0 w0 Q a w ρ h0 hok hS next => by
  simp only [codeOk] at hok
  refine wp_block (h N B ρ0 w0 _ a w ρ h0 hok hS fun e S' a' w' ρ' hk hS' => ?_)
  cases e with
  | normal => exact next .normal S' a' w' ρ' hk hS'
  | ret => exact next .ret S' a' w' ρ' hk hS'
  | exit j =>
    simp only [VX.block] at hk
    show Exit.inBlock id Q (.exit j) a' w'
    unfold Exit.inBlock
    dsimp only
    split at hk
    · rename_i e; rw [if_pos e]; exact next .normal S' a' w' ρ' hk hS'
    · rename_i e; rw [if_neg e]; exact next (.exit j) S' a' w' ρ' hk hS'
theorem ok_scope {c : Code} (h : Ok P n0 c S K) : Ok P n0 (.scope c) S K := fun N B ρ0 w0 Q a w ρ h0 hok hS next => by
  simp only [codeOk] at hok
  refine wp_scope_straight (h N B ρ0 w0 _ a w ρ h0 hok hS fun e S' a' w' ρ' hk hS' => ?_)
  have := next e S' a' w' ρ' hk hS'
  cases e <;> exact this
theorem ok_region {id : Nat} {l : List Oper} (h : ∀ M : VS → Prop, (∀ S, K .normal S → M S) → vl P l l S M) : Ok P n0 (.region id l.toArray false) S K := fun N B ρ0 w0 Q a w ρ h0 hok hS next => by
  simp only [codeOk,List.all_eq_true] at hok
  refine wp_region_list (vlist_sound (K := K .normal) l S a w ρ (fun o ho t ht => by have := hok o ho; rw [ht] at this; simpa using this) ?_ hS fun S' a' w' ρ' hk hS' => next .normal S' a' w' ρ' hk hS')
  rw [← vl_def]
  exact h _ fun _ h => h
theorem ok_draw {id : Nat} {l : List Oper} {tm : Nat → VV} {H : Heap} {n : Nat} (k : Nat) (hm : P.follows .mixedOrders = true) (hd : drawOk l.toArray k = true) (hfr : ∀ m, n ≤ m → H m = none)
    (h : ∀ M : VS → Prop, (∀ S, K .normal S → M S) → vh P l (l.take k) tm H n fun tm H n => vl P l (l.drop k) ⟨tm, H, n⟩ M) : Ok P n0 (.region id l.toArray true) ⟨tm, H, n⟩ K := fun N B ρ0 w0 Q a w ρ h0 hok hS next => by
  simp only [codeOk,List.all_eq_true] at hok
  exact region_intro (S := ⟨tm, H, n⟩) hm hfr k hd (by simpa only [vh_def,vl_def] using h _ fun _ h => h) id N B ρ0 w0 Q a w ρ (fun o ho t ht => by have := hok o ho; rw [ht] at this; simpa using this) hS.tm hS.defers hS.size hS.heap hS.below hS.ext
    fun S' a' w' ρ' hk h1 h2 h3 h4 h5 h6 => next .normal S' a' w' ρ' hk ⟨h1, h2, h3, h4, h5, h6⟩
/-- ways that meet again: what is known there, written anew -/
def CX {α : Type} (n0 : Nat) (fr : α → VS) (I : α → Prop) (K : VX → VS → Prop) : VX → VS → Prop
  | .normal, S => ∃ x, Ren n0 S (fr x) ∧ I x
  | .exit i, S => K (.exit i) S
  | .ret, S => K .ret S
theorem ok_cut {α : Type} {x y : Code} (fr : α → VS) (I : α → Prop) (h1 : Ok P n0 x S (CX n0 fr I K)) (h2 : ∀ x, I x → Ok P n0 y (fr x) K) : Ok P n0 (.seq x y) S K := by
  refine ok_seq (ok_wide (ok_mono (fun e S' hk => ?_) h1))
  cases e with
  | normal => obtain ⟨x, h3, h4⟩ := hk; exact ⟨fr x, h3, h2 x h4⟩
  | exit i => exact ⟨S', Ren.refl _ _, hk⟩
  | ret => exact ⟨S', Ren.refl _ _, hk⟩
/-- a round of a loop -/
def LX {α : Type} (n0 : Nat) (fr : α → VS) (I : α → Prop) (μ : α → Nat) (m : Nat) (K : VX → VS → Prop) : VX → VS → Prop
  | .normal, S => ∃ x, Ren n0 S (fr x) ∧ I x ∧ μ x < m
  | .exit i, S => K (.exit i) S
  | .ret, S => K .ret S
theorem ok_loop {α : Type} {c : Code} (fr : α → VS) (I : α → Prop) (μ : α → Nat) (x0 : α) (h0 : Ren n0 S (fr x0)) (hI : I x0) (round : ∀ x, I x → Ok P n0 c (fr x) (LX n0 fr I μ (μ x) K)) : Ok P n0 (.loop c) S K := fun N B ρ0 w0 Q a w ρ hn hok hS next => by
  simp only [codeOk] at hok
  obtain ⟨ρ1, hS1⟩ := h0 N B ρ0 w0 a w ρ hn hS
  refine wp_loop_rel (fun (x : α) a w => I x ∧ ∃ ρ, SR N B ρ0 w0 (fr x) a w ρ) μ (s := x0) ⟨hI, ρ1, hS1⟩ fun x a w hs => ?_
  obtain ⟨hIx, ρx, hSx⟩ := hs
  refine round x hIx N B ρ0 w0 _ a w ρx hn hok hSx fun e S' a' w' ρ' hk hS' => ?_
  cases e with
  | normal =>
    obtain ⟨y, g1, g2, g3⟩ := hk
    obtain ⟨ρ2, hS2⟩ := g1 N B ρ0 w0 a' w' ρ' hn hS'
    exact ⟨y, ⟨g2, ρ2, hS2⟩, g3⟩
  | exit i => exact next (.exit i) S' a' w' ρ' hk hS'
  | ret => exact next .ret S' a' w' ρ' hk hS'
/-- a function's own text -/
theorem ok_body {fn : Func} {f : FuncId} (hf : P.funcs[f]? = some fn) {c : Code} {rs : List ResultVar} (hb : fn.body = some c) (hr : fn.results.toList = rs) (hok : codeOk fn.ntmps c = true) {args : List VV} {k : Nat} (hl : args.length = k) (hlen : k ≤ fn.ntmps) {H : Heap} {n : Nat} {K : VV → Heap → Nat → Prop}
    (h : Ok P n c ⟨argsF 0 args (fun _ => .any), H, n⟩ (fin P rs K)) : vcall P f args H n K := by
  intro B ρ w xs hh ha
  have hxl := ha.len
  refine calls_of_wp hf hb ?_
  have hTM : TM ρ w (argsF 0 args (fun _ => .any)) { tmps := xs.toArray ++ Array.replicate (fn.ntmps - xs.toArray.size) undef, defers := [] } := by
    intro t
    rw [argsF_at]
    split
    · rename_i ht
      have ht' : t < xs.length := by omega
      have key : ∀ (vs : List VV) (xs : List Value) (t : Nat), VRA ρ w vs xs → t < xs.length → VR ρ w (vs.getD t .any) (xs.getD t undef) := by
        intro vs
        induction vs with
        | nil => intro xs t h ht; have h : xs = [] := h; subst h; simp at ht
        | cons v vs ih =>
          intro xs t h ht
          obtain ⟨x, ys, rfl, h1, h2⟩ := h
          cases t with
          | zero => simpa using h1
          | succ t => simpa using ih ys t h2 (by simpa using ht)
      have := key args xs t ha ht'
      simpa [Array.getD_eq_getD_getElem?, Array.getElem?_append, ht', List.getD_eq_getElem?_getD] using this
    · simp [VR, VR1]
  have hSR : SR fn.ntmps B ρ w ⟨argsF 0 args (fun _ => .any), H, n⟩ { tmps := xs.toArray ++ Array.replicate (fn.ntmps - xs.toArray.size) undef, defers := [] } w ρ :=
    ⟨hTM, rfl, by simp; omega, hh, Below.refl _ _, Ext.refl _ _⟩
  refine h fn.ntmps B ρ w _ _ w ρ (fun m hm => hh.fresh m hm) hok hSR fun e S' a' w' ρ' hk hS' => ?_
  cases e with
  | exit i => exact hk.elim
  | normal =>
    simp only [fin] at hk
    rw [← hr] at hk
    obtain ⟨v, x, h1, h2, h3⟩ := vres_sound hS' fn _ hk
    exact bodyPost_end h3 hS'.defers ⟨x, rfl, v, _, _, ρ', h1, h2, hS'.heap, hS'.ext, hS'.below⟩
  | ret =>
    simp only [fin] at hk
    rw [← hr] at hk
    obtain ⟨v, x, h1, h2, h3⟩ := vres_sound hS' fn _ hk
    exact bodyPost_ret h3 hS'.defers ⟨x, rfl, v, _, _, ρ', h1, h2, hS'.heap, hS'.ext, hS'.below⟩
/-- what a function answers, out of its text -/
theorem spec_ok {fn : Func} {f : FuncId} (hf : P.funcs[f]? = some fn) {c : Code} {rs : List ResultVar} (hb : fn.body = some c) (hr : fn.results.toList = rs) (hok : codeOk fn.ntmps c = true) {ds : List VV} {r : VV} {k : Nat} (hl : ds.length = k) (hlen : k ≤ fn.ntmps)
    (h : Ok P 0 c ⟨argsF 0 ds (fun _ => .any), fun _ => none, 0⟩ (fin P rs fun v H _ => RdT H v r)) : Spec P f ds r := by
  intro U w xs ha
  have hh : HR ZT w.heap.size (.bare U) (fun _ => none) 0 w := ⟨Nat.le_refl _, fun _ _ => rfl, fun m l h => (by cases h), fun m m' l l' h => (by cases h), fun m s v l h => (by cases h), fun m es l h => (by cases h)⟩
  refine (ok_body hf hb hr hok hl hlen h w.heap.size (.bare U) w xs hh ha).mono fun e w' ⟨x, he, v, H', n', ρ', hk, hv, hh', hext, hb⟩ => ⟨x, he, hb, ?_⟩
  exact hk.value hh' hext.imb (fun m l hl => .inr (hh'.lt m l hl).1) hv
end
theorem xs1 {N : VS → Prop} {K : VX → VS → Prop} {S : VS} (h : N S) : VX.seq N K .normal S := h
theorem xs2 {N : VS → Prop} {K : VX → VS → Prop} {S : VS} {i : Nat} (h : K (.exit i) S) : VX.seq N K (.exit i) S := h
theorem xs3 {N : VS → Prop} {K : VX → VS → Prop} {S : VS} (h : K .ret S) : VX.seq N K .ret S := h
theorem xb1 {i : Nat} {K : VX → VS → Prop} {S : VS} (h : K .normal S) : VX.block i K .normal S := h
theorem xb2 {i : Nat} {K : VX → VS → Prop} {S : VS} (h : K .normal S) : VX.block i K (.exit i) S := by rw [x_block2, if_pos rfl]; exact h
theorem xb3 {i j : Nat} {K : VX → VS → Prop} {S : VS} (hij : j ≠ i) (h : K (.exit j) S) : VX.block i K (.exit j) S := by rw [x_block2, if_neg hij]; exact h
theorem xb4 {i : Nat} {K : VX → VS → Prop} {S : VS} (h : K .ret S) : VX.block i K .ret S := h
section
variable {α : Type} {n0 : Nat} {fr : α → VS} {I : α → Prop} {μ : α → Nat} {m : Nat} {K : VX → VS → Prop} {S : VS}
theorem xl1 (x : α) (h1 : Ren n0 S (fr x)) (h2 : I x) (h3 : μ x < m) : LX n0 fr I μ m K .normal S := ⟨x, h1, h2, h3⟩
theorem xl2 {i : Nat} (h : K (.exit i) S) : LX n0 fr I μ m K (.exit i) S := h
theorem xl3 (h : K .ret S) : LX n0 fr I μ m K .ret S := h
theorem xc1 (x : α) (h1 : Ren n0 S (fr x)) (h2 : I x) : CX n0 fr I K .normal S := ⟨x, h1, h2⟩
theorem xc2 {i : Nat} (h : K (.exit i) S) : CX n0 fr I K (.exit i) S := h
theorem xc3 (h : K .ret S) : CX n0 fr I K .ret S := h
end
theorem fin_normal {P : Program} {rs : List ResultVar} {k : VV → Heap → Nat → Prop} {tm : Nat → VV} {H : Heap} {n : Nat} (h : vres P ⟨tm, H, n⟩ rs fun v => k v H n) : fin P rs k .normal ⟨tm, H, n⟩ := h
theorem fin_ret {P : Program} {rs : List ResultVar} {k : VV → Heap → Nat → Prop} {tm : Nat → VV} {H : Heap} {n : Nat} (h : vres P ⟨tm, H, n⟩ rs fun v => k v H n) : fin P rs k .ret ⟨tm, H, n⟩ := h
theorem vif_t {A B : Prop} (h : A) : vif true A B := ⟨fun _ => h, fun h => by cases h⟩
theorem vif_f {A B : Prop} (h : B) : vif false A B := ⟨fun h => (by cases h), fun _ => h⟩
theorem mb_map {n0 : Nat} {σ : List (Nat × Nat)} {H : Heap} {fz : Bool} {es es' : List (VV × VV)} (e : es = es') (h : (es.all fun q => nl q.1 && nl q.2) = true) : MB n0 σ H fz (.map es) (.map es') := by
  subst e
  exact MB.map fun x hx => by
    have := List.all_eq_true.1 h x hx
    simpa using this
end Go.Proofs.Ytndbfphmjmhkjaa.V
