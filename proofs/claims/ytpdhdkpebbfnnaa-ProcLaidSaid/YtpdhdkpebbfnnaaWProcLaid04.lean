/-
  Parts of the proof of ProcLaid: Vok, Vtab, Vlib, Vset, M1, M2, M3.
  Conditions: none.
-/
import Derived.Test.YtpdhdkpebbfnnaaWProcLaid03
import Derived.Test.YtpdhdkpebbfnnaaProg
import Derived.IntWalk
import Derived.Lib.EndianBits
set_option linter.unusedVariables false
set_option linter.unusedSimpArgs false
set_option linter.unusedSectionVars false
set_option linter.defProp false
section
namespace Go.Proofs.Ytpdhdkpebbfnnaa.V
open Go Go.RowKit

def Ok (P : Program) (n0 : Nat) (c : Code) (S : VS) (K : VX → VS → Prop) : Prop :=
  ∀ (N : NN) (B : Nat) (ρ0 : Names) (w0 : World) (Q : Exit → Act → World → Prop) (a : Act) (w : World) (ρ : Names), (∀ m, n0 ≤ m → ρ0 m = none) → codeOk N c = true → SR N B ρ0 w0 S a w ρ →
    (∀ e S' a' w' ρ', K e S' → SR N B ρ0 w0 S' a' w' ρ' → Q e.x a' w') → c.wp P Q a w

def slots : List (Nat × VV) → Nat → VV
  | [], _ => .any
  | (k, v) :: l, t => if t = k then v else slots l t
def rows : List (Nat × Blk) → Heap
  | [], _ => none
  | (k, b) :: l, m => if m = k then some b else rows l m
theorem slots_cons (k : Nat) (v : VV) (l : List (Nat × VV)) (t : Nat) : slots ((k, v) :: l) t = if t = k then v else slots l t := rfl
theorem slots_nil (t : Nat) : slots [] t = .any := rfl
theorem rows_cons (k : Nat) (v : Blk) (l : List (Nat × Blk)) (t : Nat) : rows ((k, v) :: l) t = if t = k then some v else rows l t := rfl
theorem rows_nil (t : Nat) : rows [] t = none := rfl
def turn : List (Nat × Nat) → Nat → Nat
  | [], m => m
  | (k, j) :: l, m => if m = k then j else turn l m
theorem turn_cons (k j : Nat) (l : List (Nat × Nat)) (m : Nat) : turn ((k, j) :: l) m = if m = k then j else turn l m := rfl
theorem turn_nil (m : Nat) : turn [] m = m := rfl
def known (n0 : Nat) (σ : List (Nat × Nat)) (m : Nat) : Prop := m < n0 ∨ m ∈ σ.map (·.1)
mutual
inductive MR (n0 : Nat) (σ : List (Nat × Nat)) (H : Heap) (fz : Bool) : VV → VV → Prop
  | data (v : VV) (h : nl v = true) : MR n0 σ H fz v v
  | sl {m m' : Nat} {p : List Nat} {i n : Nat} (h : known n0 σ m') (h' : turn σ m' = m) : MR n0 σ H fz (.sl (some (m, p, i)) n) (.sl (some (m', p, i)) n)
  | ptr {m m' : Nat} {p : List Nat} (h : known n0 σ m') (h' : turn σ m' = m) : MR n0 σ H fz (.ptr m p) (.ptr m' p)
  | map {m m' : Nat} (h : known n0 σ m') (h' : turn σ m' = m) : MR n0 σ H fz (.map m) (.map m')
  | agg {us vs : List VV} (h : MRL n0 σ H fz us vs) : MR n0 σ H fz (.agg us) (.agg vs)
  | tup {us vs : List VV} (h : MRL n0 σ H fz us vs) : MR n0 σ H fz (.tup us) (.tup vs)
  | fn {f : FuncId} {us vs : List VV} (h : MRL n0 σ H fz us vs) : MR n0 σ H fz (.fn f us) (.fn f vs)
  | row {m k n : Nat} {e : Sh} {els : List VV} (h : fz = true) (h1 : H m = some (.row (.arr k e) (.agg els))) (h2 : n = els.length) (h3 : nls els = true) (h4 : m ∉ σ.map (·.2)) : MR n0 σ H fz (.sl (some (m, [], 0)) n) (.dat e els)
  | place {m : Nat} {s : Sh} {v : VV} (h : fz = true) (h1 : H m = some (.row s v)) (h3 : nl v = true) (h4 : m ∉ σ.map (·.2)) : MR n0 σ H fz (.ptr m []) (.pd s v)
  | nil (e : Sh) : MR n0 σ H fz (.sl none 0) (.dat e [])
  | empty {m : Nat} {p : List Nat} {i : Nat} : MR n0 σ H fz (.sl none 0) (.sl (some (m, p, i)) 0)
inductive MRL (n0 : Nat) (σ : List (Nat × Nat)) (H : Heap) (fz : Bool) : List VV → List VV → Prop
  | nil : MRL n0 σ H fz [] []
  | cons {u v : VV} {us vs : List VV} (h : MR n0 σ H fz u v) (h' : MRL n0 σ H fz us vs) : MRL n0 σ H fz (u :: us) (v :: vs)
end
section
variable {n0 : Nat} {σ : List (Nat × Nat)} {H : Heap} {fz : Bool}
theorem MR.leaf {u v : VV} (h : MR n0 σ H fz u v) : v.leaf = u.leaf := by cases h <;> rfl
theorem MR.leaf_has {u v : VV} (h : MR n0 σ H fz u v) (hl : u.leaf = true) (s : Sh) (hu : Has s u) : Has s v := by
  cases s with
  | cell => simp only [Has]; rw [h.leaf]; exact hl
  | st ls => cases u <;> simp [VV.leaf] at hl <;> simp [Has] at hu
  | arr n s => cases u <;> simp [VV.leaf] at hl <;> simp [Has] at hu
mutual
theorem MR.has : ∀ {u v : VV}, MR n0 σ H fz u v → ∀ s, Has s u → Has s v
  | _, _, .data v h, s, hu => hu
  | _, _, .sl h h', s, hu => MR.leaf_has (n0 := n0) (σ := σ) (H := H) (fz := fz) (.sl h h') rfl s hu
  | _, _, .ptr h h', s, hu => MR.leaf_has (n0 := n0) (σ := σ) (H := H) (fz := fz) (.ptr h h') rfl s hu
  | _, _, .map h h', s, hu => MR.leaf_has (n0 := n0) (σ := σ) (H := H) (fz := fz) (.map h h') rfl s hu
  | _, _, .fn h, s, hu => MR.leaf_has (n0 := n0) (σ := σ) (H := H) (fz := fz) (.fn h) rfl s hu
  | _, _, .row h h1 h2 h3 h4, s, hu => MR.leaf_has (n0 := n0) (σ := σ) (H := H) (fz := fz) (.row h h1 h2 h3 h4) rfl s hu
  | _, _, .place h h1 h3 h4, s, hu => MR.leaf_has (n0 := n0) (σ := σ) (H := H) (fz := fz) (.place h h1 h3 h4) rfl s hu
  | _, _, .nil e, s, hu => MR.leaf_has (n0 := n0) (σ := σ) (H := H) (fz := fz) (.nil e) rfl s hu
  | _, _, @MR.empty _ _ _ _ m p i, s, hu => MR.leaf_has (n0 := n0) (σ := σ) (H := H) (fz := fz) (@MR.empty n0 σ H fz m p i) rfl s hu
  | _, _, .tup h, s, hu => by cases s <;> simp [Has, VV.leaf] at hu
  | _, _, .agg h, s, hu => by
    cases s with
    | cell => simp [Has, VV.leaf] at hu
    | st ls => simp only [Has] at hu ⊢; exact MRL.hasL h ls hu
    | arr n s => simp only [Has] at hu ⊢; exact ⟨by rw [MRL.len h] at hu; exact hu.1, MRL.hasA h s hu.2⟩
theorem MRL.hasL : ∀ {us vs : List VV}, MRL n0 σ H fz us vs → ∀ ls, HasL ls us → HasL ls vs
  | _, _, .nil, ls, hu => hu
  | _, _, .cons h h', ls, hu => by
    cases ls with
    | nil => simp [HasL] at hu
    | cons s ls => simp only [HasL] at hu ⊢; exact ⟨MR.has h s hu.1, MRL.hasL h' ls hu.2⟩
theorem MRL.hasA : ∀ {us vs : List VV}, MRL n0 σ H fz us vs → ∀ s, (∀ u ∈ us, Has s u) → ∀ v ∈ vs, Has s v
  | _, _, .nil, s, hu => hu
  | _, _, .cons h h', s, hu => by
    intro v hv
    rcases List.mem_cons.1 hv with rfl | hv
    · exact MR.has h s (hu _ (by simp))
    · exact MRL.hasA h' s (fun u hm => hu u (by simp [hm])) v hv
theorem MRL.len : ∀ {us vs : List VV}, MRL n0 σ H fz us vs → us.length = vs.length
  | _, _, .nil => rfl
  | _, _, .cons h h' => by simp only [List.length_cons,MRL.len h']
end
end
section
variable {n0 : Nat} {σ : List (Nat × Nat)} {H : Heap} {fz : Bool} {ρ ρ' : Names} {w : World}
structure Turned (n0 : Nat) (σ : List (Nat × Nat)) (H : Heap) (fz : Bool) (ρ ρ' : Names) (w : World) : Prop where
  names : ∀ m, known n0 σ m → ρ' m = ρ (turn σ m)
  un : ∀ b, Unnamed ρ b → Unnamed ρ' b
  row : fz = true → ∀ m s v l, H m = some (.row s v) → m ∉ σ.map (·.2) → ρ m = some l → Unnamed ρ' l.block ∧ l.block < w.heap.size ∧ RowAt ρ w l s v
theorem C1.data (hU : ∀ b, Unnamed ρ b → Unnamed ρ' b) (v : VV) (cs : List Value) (hn : nl v = true) (h : C1 ρ w v cs) : C1 ρ' w v cs :=
  C1.mono (ρ := .bare (Unnamed ρ')) (fun m l h => by cases h) (fun b _ hu => hu.1) v cs (C1.bare hU v cs hn h)
theorem CR.data (hU : ∀ b, Unnamed ρ b → Unnamed ρ' b) (v : List VV) (cs : List Value) (hn : nls v = true) (h : CR ρ w v cs) : CR ρ' w v cs :=
  CR.mono (ρ := .bare (Unnamed ρ')) (fun m l h => by cases h) (fun b _ hu => hu.1) v cs (CR.bare hU v cs hn h)
mutual
theorem MR.cells (hT : Turned n0 σ H fz ρ ρ' w) : ∀ {u v : VV}, MR n0 σ H fz u v → ∀ (cs : List Value), C1 ρ w u cs → C1 ρ' w v cs
  | _, _, .data v h, cs, hc => C1.data hT.un v cs h hc
  | _, _, .sl h h', cs, hc => by simp only [C1] at hc ⊢; rw [hT.names _ h, h']; exact hc
  | _, _, .ptr h h', cs, hc => by simp only [C1] at hc ⊢; rw [hT.names _ h, h']; exact hc
  | _, _, .map h h', cs, hc => by simp only [C1] at hc ⊢; rw [hT.names _ h, h']; exact hc
  | _, _, .agg h, cs, hc => by simp only [C1] at hc ⊢; exact MRL.cells hT h cs hc
  | _, _, .tup h, cs, hc => by simp only [C1] at hc
  | _, _, .fn h, cs, hc => by
    simp only [C1] at hc ⊢
    obtain ⟨xs, h1, h2⟩ := hc
    exact ⟨xs, h1, MRL.caps hT h _ h2⟩
  | _, _, @MR.row _ _ _ _ m k n e els h h1 h2 h3 h4, cs, hc => by
    simp only [C1] at hc ⊢
    rcases hc with ⟨rfl, A, hc⟩ | ⟨l, cap, e', j', hl, hc, hcap, hat, _⟩
    · exact ⟨A, 0, by rw [← h2]; exact hc, by omega, fun h => absurd (List.eq_nil_of_length_eq_zero h2.symm) h⟩
    · obtain ⟨hu, hlt, hrow⟩ := hT.row h m _ _ l h1 h4 hl
      refine ⟨_, cap, by rw [← h2]; exact hc, by omega, fun _ => ?_⟩
      obtain ⟨ds, q1, q2, q3⟩ := hrow.cells
      simp only [C1] at q1
      have hh := hrow.has
      simp only [Has] at hh
      refine ⟨l.block, _, ds, rfl, CR.data hT.un _ _ h3 q1, hh.2, ?_, hu, hlt⟩
      rw [hrow.sh]
      simp only [List.nil_append,Sh.off,Nat.zero_mul,Nat.add_zero]
      exact q3
  | _, _, @MR.place _ _ _ _ m s v h h1 h3 h4, cs, hc => by
    simp only [C1] at hc ⊢
    obtain ⟨l, hl, hc⟩ := hc
    obtain ⟨hu, hlt, hrow⟩ := hT.row h m _ _ l h1 h4 hl
    obtain ⟨ds, q1, q2, q3⟩ := hrow.cells
    refine ⟨l.block, l.base, ds, ?_, C1.data hT.un _ _ h3 q1, hrow.has, q3, hu, hlt⟩
    rw [hc]
    simp [Sh.off]
  | _, _, .nil e, cs, hc => by
    simp only [C1] at hc ⊢
    exact ⟨none, 0, hc.2, Nat.le_refl _, fun h => absurd rfl h⟩
  | _, _, .empty, cs, hc => by
    simp only [C1] at hc ⊢
    exact .inl ⟨trivial, none, hc.2⟩
theorem MRL.cells (hT : Turned n0 σ H fz ρ ρ' w) : ∀ {us vs : List VV}, MRL n0 σ H fz us vs → ∀ (cs : List Value), CR ρ w us cs → CR ρ' w vs cs
  | _, _, .nil, cs, hc => by simpa only [CR] using hc
  | _, _, .cons h h', cs, hc => by
    simp only [CR] at hc ⊢
    obtain ⟨c1, c2, h1, h2, h3⟩ := hc
    exact ⟨c1, c2, h1, MR.cells hT h c1 h2, MRL.cells hT h' c2 h3⟩
theorem MRL.caps (hT : Turned n0 σ H fz ρ ρ' w) : ∀ {us vs : List VV}, MRL n0 σ H fz us vs → ∀ (cs : List Value), CV ρ w us cs → CV ρ' w vs cs
  | _, _, .nil, cs, hc => by simpa only [CV] using hc
  | _, _, .cons h h', cs, hc => by
    simp only [CV] at hc ⊢
    obtain ⟨x, c2, h1, h2, h3, h4⟩ := hc
    exact ⟨x, c2, h1, by rw [h.leaf]; exact h2, MR.cells hT h [x] h3, MRL.caps hT h' c2 h4⟩
end
theorem MR.value1 (hT : Turned n0 σ H fz ρ ρ' w) {u v : VV} {x : Value} (h : MR n0 σ H fz u v) (hx : VR1 ρ w u x) : VR1 ρ' w v x := by
  by_cases hu : ∃ us, u = .agg us
  · obtain ⟨us, rfl⟩ := hu
    have key : ∃ vs, v = .agg vs ∧ ∀ cs, CR ρ w us cs → CR ρ' w vs cs := by
      cases h with
      | data _ h => exact ⟨us, rfl, fun cs hc => CR.data hT.un us cs (by simpa only [nl] using h) hc⟩
      | agg h => exact ⟨_, rfl, fun cs hc => MRL.cells hT h cs hc⟩
    obtain ⟨vs, rfl, hk⟩ := key
    obtain ⟨cs, h1, h2⟩ := hx
    exact ⟨cs, h1, hk _ h2⟩
  · have h1 : C1 ρ w u [x] := by
      cases u with
      | agg us => exact absurd ⟨us, rfl⟩ hu
      | any => cases h with | data _ h => simp [nl] at h
      | _ => exact hx
    have h2 := MR.cells hT h [x] h1
    cases v with
    | agg vs => cases h with
      | data _ _ => exact absurd ⟨vs, rfl⟩ hu
      | agg _ => exact absurd ⟨_, rfl⟩ hu
    | any => trivial
    | _ => exact h2
theorem MRL.values (hT : Turned n0 σ H fz ρ ρ' w) : ∀ {us vs : List VV}, MRL n0 σ H fz us vs → ∀ (xs : List Value), VRs ρ w us xs → VRs ρ' w vs xs
  | _, _, .nil, xs, hx => hx
  | _, _, .cons h h', xs, hx => by
    obtain ⟨x, ys, h1, h2, h3⟩ := hx
    exact ⟨x, ys, h1, MR.value1 hT h h2, MRL.values hT h' ys h3⟩
theorem MRL.data : ∀ (l : List VV), nls l = true → MRL n0 σ H fz l l
  | [], _ => .nil
  | v :: l, h => by
    simp only [nls,Bool.and_eq_true] at h
    exact .cons (.data v h.1) (MRL.data l h.2)
theorem MR.value (hT : Turned n0 σ H fz ρ ρ' w) {u v : VV} {x : Value} (h : MR n0 σ H fz u v) (hx : VR ρ w u x) : VR ρ' w v x := by
  by_cases hu : ∃ us, u = .tup us
  · obtain ⟨us, rfl⟩ := hu
    have key : ∃ vs, v = .tup vs ∧ MRL n0 σ H fz us vs := by
      cases h with
      | data _ h => exact ⟨us, rfl, MRL.data us (by simpa only [nl] using h)⟩
      | tup h => exact ⟨_, rfl, h⟩
    obtain ⟨vs, rfl, hk⟩ := key
    obtain ⟨xs, h1, h2⟩ := hx
    exact ⟨xs, h1, MRL.values hT hk _ h2⟩
  · have h1 : VR1 ρ w u x := by cases u <;> first | exact hx | exact absurd ⟨_, rfl⟩ hu
    have h2 := MR.value1 hT h h1
    cases v with
    | tup vs => cases h with
      | data _ _ => exact absurd ⟨_, rfl⟩ hu
      | tup _ => exact absurd ⟨_, rfl⟩ hu
    | _ => exact h2
end
def Ren (n0 : Nat) (S T : VS) : Prop :=
  ∀ (N : NN) (B : Nat) (ρ0 : Names) (w0 : World) (a : Act) (w : World) (ρ : Names), (∀ m, n0 ≤ m → ρ0 m = none) → SR N B ρ0 w0 S a w ρ → ∃ ρ', SR N B ρ0 w0 T a w ρ'
theorem Ren.refl (n0 : Nat) (S : VS) : Ren n0 S S := fun _ _ _ _ _ _ ρ _ h => ⟨ρ, h⟩
theorem Ren.trans {n0 : Nat} {S T U : VS} (h : Ren n0 S T) (h' : Ren n0 T U) : Ren n0 S U := fun N B ρ0 w0 a w ρ h0 hS => by
  obtain ⟨ρ1, h1⟩ := h N B ρ0 w0 a w ρ h0 hS
  exact h' N B ρ0 w0 a w ρ1 h0 h1
def AllS (n0 : Nat) (σ : List (Nat × Nat)) (H : Heap) (fz : Bool) (tm : Nat → VV) : List (Nat × VV) → Prop
  | [] => True
  | (k, v) :: l => MR n0 σ H fz (tm k) v ∧ AllS n0 σ H fz tm l
inductive MB (n0 : Nat) (σ : List (Nat × Nat)) (H : Heap) (fz : Bool) : Blk → Blk → Prop
  | row {s : Sh} {u v : VV} (h : MR n0 σ H fz u v) : MB n0 σ H fz (.row s u) (.row s v)
  | map {es : List (VV × VV)} (h : ∀ x ∈ es, nl x.1 = true ∧ nl x.2 = true) : MB n0 σ H fz (.map es) (.map es)
def AllB (n0 : Nat) (σ : List (Nat × Nat)) (H : Heap) (fz : Bool) : List (Nat × Blk) → Prop
  | [] => True
  | (k, b) :: l => (known n0 σ k → ∃ b0, H (turn σ k) = some b0 ∧ MB n0 σ H fz b0 b) ∧ AllB n0 σ H fz l
theorem AllS.at {n0 : Nat} {σ : List (Nat × Nat)} {H : Heap} {fz : Bool} {tm : Nat → VV} : ∀ (l : List (Nat × VV)), AllS n0 σ H fz tm l → ∀ t, slots l t = .any ∨ MR n0 σ H fz (tm t) (slots l t)
  | [], _, t => .inl rfl
  | (k, v) :: l, h, t => by
    rw [slots_cons]
    split
    · rename_i e; subst e; exact .inr h.1
    · exact AllS.at l h.2 t
theorem AllB.at {n0 : Nat} {σ : List (Nat × Nat)} {H : Heap} {fz : Bool} : ∀ (l : List (Nat × Blk)), AllB n0 σ H fz l → ∀ m b, rows l m = some b → known n0 σ m → ∃ b0, H (turn σ m) = some b0 ∧ MB n0 σ H fz b0 b
  | [], _, m, b, h => by cases h
  | (k, v) :: l, hl, m, b, h => by
    rw [rows_cons] at h
    split at h
    · rename_i e; subst e; injection h with h; subst h; exact hl.1
    · exact AllB.at l hl.2 m b h
theorem turn_low : ∀ (σ : List (Nat × Nat)) (m : Nat), m ∉ σ.map (·.1) → turn σ m = m
  | [], m, _ => rfl
  | (k, j) :: l, m, h => by
    simp only [List.map_cons,List.mem_cons,not_or] at h
    rw [turn_cons, if_neg h.1, turn_low l m h.2]
theorem turn_mem : ∀ (σ : List (Nat × Nat)) (m : Nat), m ∈ σ.map (·.1) → (m, turn σ m) ∈ σ
  | [], m, h => by simp at h
  | (k, j) :: l, m, h => by
    rw [turn_cons]
    split
    · rename_i e; subst e; simp
    · rename_i e
      simp only [List.map_cons,List.mem_cons] at h
      exact List.mem_cons_of_mem _ (turn_mem l m (h.resolve_left e))
def jN (n0 n : Nat) (ks : List Nat) (σ : List (Nat × Nat)) : Bool :=
  (σ.all fun x => decide (n0 ≤ x.1) && decide (x.1 < n) && decide (n0 ≤ x.2) && ks.contains x.1) && decide ((σ.map (·.2)).Nodup)
theorem turn_inj {n0 n : Nat} {ks : List Nat} {σ : List (Nat × Nat)} (h : jN n0 n ks σ = true) (m m' : Nat) (h1 : known n0 σ m) (h2 : known n0 σ m') (he : turn σ m = turn σ m') : m = m' := by
  simp only [jN,Bool.and_eq_true,decide_eq_true_eq,List.all_eq_true] at h
  obtain ⟨ha, hd⟩ := h
  have low : ∀ m, m < n0 → turn σ m = m := fun m hm => turn_low σ m fun hmem => by
    obtain ⟨x, hx, rfl⟩ := List.mem_map.1 hmem
    have := (ha x hx).1.1.1
    omega
  have inj : ∀ (l : List (Nat × Nat)), (l.map (·.2)).Nodup → ∀ x y, x ∈ l → y ∈ l → x.2 = y.2 → x = y := by
    intro l
    induction l with
    | nil => intro _ x y hx; simp at hx
    | cons z l ih =>
      intro hd x y hx hy e
      simp only [List.map_cons,List.nodup_cons] at hd
      rcases List.mem_cons.1 hx with g1 | g1
      · rcases List.mem_cons.1 hy with g2 | g2
        · rw [g1, g2]
        · exact (hd.1 (List.mem_map.2 ⟨y, g2, by rw [← e, g1]⟩)).elim
      · rcases List.mem_cons.1 hy with g2 | g2
        · exact (hd.1 (List.mem_map.2 ⟨x, g1, by rw [e, g2]⟩)).elim
        · exact ih hd.2 x y g1 g2 e
  have mem : ∀ m, m ∈ σ.map (·.1) → (m, turn σ m) ∈ σ := turn_mem σ
  rcases h1 with h1 | h1
  · rcases h2 with h2 | h2
    · rw [low m h1, low m' h2] at he; exact he
    · have := (ha _ (mem m' h2)).1.2
      rw [low m h1] at he
      dsimp only at this
      omega
  · rcases h2 with h2 | h2
    · have := (ha _ (mem m h1)).1.2
      rw [low m' h2] at he
      dsimp only at this
      omega
    · have := inj σ hd _ _ (mem m h1) (mem m' h2) he
      exact congrArg Prod.fst this
theorem rows_mem : ∀ (h : List (Nat × Blk)) (k : Nat), k ∈ h.map (·.1) → ∃ b, rows h k = some b
  | [], k, hk => by simp at hk
  | (j, b) :: l, k, hk => by
    rw [rows_cons]
    split
    · exact ⟨b, rfl⟩
    · rename_i e
      simp only [List.map_cons,List.mem_cons] at hk
      exact rows_mem l k (hk.resolve_left e)
theorem Ren.mk {n0 n n' : Nat} {tm : Nat → VV} {H : Heap} {l : List (Nat × VV)} {h : List (Nat × Blk)} (σ : List (Nat × Nat)) (fz : Bool) (hfz : fz = true → n0 = 0) (hσ : jN n0 n' (h.map (·.1)) σ = true) (hn : n0 ≤ n')
    (h1 : AllS n0 σ H fz tm l) (h3 : AllB n0 σ H fz h) :
    Ren n0 ⟨tm, H, n⟩ ⟨slots l, rows h, n'⟩ := by
  intro N B ρ0 w0 a w ρ h0 hS
  classical
  have hinj := turn_inj hσ
  have hσ' := hσ
  simp only [jN,Bool.and_eq_true,decide_eq_true_eq,List.all_eq_true] at hσ'
  obtain ⟨ha, _⟩ := hσ'
  have hh := hS.heap
  have he := hS.ext
  dsimp only at hh
  let ρ' : Names := ⟨fun m => if known n0 σ m then ρ (turn σ m) else none, fun b => ρ.im b ∨ (fz = true ∧ w0.heap.size ≤ b)⟩
  have hρ : ∀ m, known n0 σ m → ρ' m = ρ (turn σ m) := fun m hm => if_pos hm
  have hρ2 : ∀ m l, ρ' m = some l → known n0 σ m ∧ ρ (turn σ m) = some l := fun m l hm => by
    by_cases hk : known n0 σ m
    · exact ⟨hk, by rw [← hρ m hk]; exact hm⟩
    · have : ρ' m = none := if_neg hk
      rw [this] at hm
      cases hm
  have hU : ∀ b, Unnamed ρ b → Unnamed ρ' b := fun b hb => ⟨.inl hb.1, fun m l hm => hb.2 _ l (hρ2 m l hm).2⟩
  have low : ∀ m, m < n0 → turn σ m = m := fun m hm => turn_low σ m fun hmem => by
    obtain ⟨x, hx, rfl⟩ := List.mem_map.1 hmem
    have := (ha x hx).1.1.1
    omega
  have live : ∀ m, m ∈ σ.map (·.1) → H (turn σ m) ≠ none := fun m hm => by
    have h5 := (ha _ (turn_mem σ m hm)).2
    dsimp only at h5
    obtain ⟨b, hb⟩ := rows_mem h m (by simpa using h5)
    obtain ⟨b0, h6, _⟩ := AllB.at h h3 m b hb (.inr hm)
    rw [h6]; simp
  have hT : Turned n0 σ H fz ρ ρ' w := by
    refine ⟨hρ, hU, fun hf m s v l' hm hk hl => ?_⟩
    have hz := hfz hf
    have hlt := hh.lt m l' hl
    refine ⟨⟨.inr ⟨hf, ?_⟩, fun m2 l2 hm2 e => ?_⟩, hlt.2, hh.row m s v l' hm hl⟩
    · rcases he.fresh m l' hl with g | g | ⟨m0, l0, g, _⟩
      · rw [h0 m (by omega)] at g; cases g
      · exact g
      · rw [h0 m0 (by omega)] at g; cases g
    · obtain ⟨k1, k2⟩ := hρ2 m2 l2 hm2
      rcases k1 with k1 | k1
      · omega
      · have := hh.apart _ m l2 l' k2 hl (live m2 k1) (by rw [hm]; simp) e
        exact hk (by rw [← this]; exact List.mem_map.2 ⟨_, turn_mem σ m2 k1, rfl⟩)
  refine ⟨ρ', ⟨fun t => ?_, hS.defers, hS.size, ?_, hS.below, ?_⟩⟩
  · dsimp only
    rcases AllS.at l h1 t with e | e
    · rw [e]; simp [VR, VR1]
    · have := hS.tm t
      dsimp only at this
      exact MR.value hT e this
  · dsimp only
    refine ⟨hh.base, fun m hm => ?_, fun m l hm => hh.lt _ l (hρ2 m l hm).2, fun m m' l1 l2 g1 g2 e1 e2 hb => ?_, fun m s v l' hm hl => ?_, fun m es l' hm hl => ?_⟩
    · have hm : n' ≤ m := hm
      refine if_neg fun hk => ?_
      rcases hk with hk | hk
      · omega
      · have := (ha _ (turn_mem σ m hk)).1.1.2
        dsimp only at this
        omega
    · obtain ⟨k1, k2⟩ := hρ2 m l1 g1
      obtain ⟨k3, k4⟩ := hρ2 m' l2 g2
      have lv : ∀ m, known n0 σ m → rows h m ≠ none → H (turn σ m) ≠ none := fun m hk hm => by
        cases hr : rows h m with
        | none => exact absurd hr hm
        | some b => obtain ⟨b0, h6, _⟩ := AllB.at h h3 m b hr hk; rw [h6]; simp
      exact hinj m m' k1 k3 (hh.apart _ _ l1 l2 k2 k4 (lv m k1 e1) (lv m' k3 e2) hb)
    · obtain ⟨k1, k2⟩ := hρ2 m l' hl
      obtain ⟨b0, hb, hm⟩ := AllB.at h h3 m _ hm k1
      cases hm with
      | row hm =>
        rename_i u
        have hrow := hh.row _ s u l' hb k2
        obtain ⟨cs, c1, c2, c3⟩ := hrow.cells
        exact ⟨hrow.sh, hm.has s hrow.has, ⟨cs, MR.cells hT hm cs c1, c2, c3⟩, hrow.room⟩
    · obtain ⟨k1, k2⟩ := hρ2 m l' hl
      obtain ⟨b0, hb, hm⟩ := AllB.at h h3 m _ hm k1
      cases hm with
      | map hv =>
        have hmap := hh.map _ _ l' hb k2
        obtain ⟨xs, clock, c1, c2⟩ := hmap.obj
        refine ⟨⟨xs, clock, c1, ?_⟩, hmap.born⟩
        have key : ∀ (es : List (VV × VV)) (xs : List MapEntry), (∀ x ∈ es, nl x.1 = true ∧ nl x.2 = true) → ME ρ w es xs → ME ρ' w es xs := by
          intro es
          induction es with
          | nil => intro xs _ h; exact h
          | cons x es ih =>
            intro xs hq h
            obtain ⟨y, ys, g1, g2, g3, g4, g5⟩ := h
            obtain ⟨q1, q2⟩ := hq x (by simp)
            exact ⟨y, ys, g1, g2, MR.value1 hT (.data _ q1) g3, MR.value1 hT (.data _ q2) g4, ih ys (fun z hz => hq z (by simp [hz])) g5⟩
        exact key es _ hv c2
  · refine ⟨fun m l hm => ?_, he.size, fun b hb hu => he.block b hb hu, fun m l hm => ?_, fun b hb => .inl (he.im b hb), fun b hb => ?_⟩
    · have hlt : m < n0 := by
        rcases Nat.lt_or_ge m n0 with h | h
        · exact h
        · rw [h0 m h] at hm; cases hm
      rw [hρ m (.inl hlt), low m hlt]
      exact he.names m l hm
    · obtain ⟨k1, k2⟩ := hρ2 m l hm
      rcases he.fresh _ l k2 with g | g | g
      · exact .inr (.inr ⟨_, l, g, rfl⟩)
      · exact .inr (.inl g)
      · exact .inr (.inr g)
    · rcases hb with hb | hb
      · exact he.imb b hb
      · exact .inr hb.2

section
variable {P : Program} {n0 : Nat} {S T : VS} {K K' : VX → VS → Prop}
theorem ok_ren {c : Code} (h : Ren n0 S T) (h' : Ok P n0 c T K) : Ok P n0 c S K := fun N B ρ0 w0 Q a w ρ h0 hok hS next => by
  obtain ⟨ρ1, h1⟩ := h N B ρ0 w0 a w ρ h0 hS
  exact h' N B ρ0 w0 Q a w ρ1 h0 hok h1 next
theorem jn (h : K .normal S) : Ok P n0 .skip S K := fun N B ρ0 w0 Q a w ρ _ _ hS next => wp_skip (next .normal S a w ρ h hS)
theorem jo {l : Nat} (h : K .normal S) : Ok P n0 (.label l) S K := fun N B ρ0 w0 Q a w ρ _ _ hS next => wp_label (next .normal S a w ρ h hS)
theorem jp {i : Nat} (h : K (.exit i) S) : Ok P n0 (.exit i) S K := fun N B ρ0 w0 Q a w ρ _ _ hS next => wp_exit (next (.exit i) S a w ρ h hS)
theorem jq (h : K .ret S) : Ok P n0 .ret S K := fun N B ρ0 w0 Q a w ρ _ _ hS next => wp_ret (next .ret S a w ρ h hS)
theorem jr {x y : Code} (h : Ok P n0 x S (VX.seq (fun S' => Ok P n0 y S' K) K)) : Ok P n0 (.seq x y) S K := fun N B ρ0 w0 Q a w ρ h0 hok hS next => by
  simp only [codeOk,Bool.and_eq_true] at hok
  refine wp_seq (h N B ρ0 w0 _ a w ρ h0 hok.1 hS fun e S' a' w' ρ' hk hS' => ?_)
  cases e with
  | normal => exact hk N B ρ0 w0 Q a' w' ρ' h0 hok.2 hS' next
  | exit i => exact next (.exit i) S' a' w' ρ' hk hS'
  | ret => exact next .ret S' a' w' ρ' hk hS'
theorem jf {c : Operand} {x y : Code} {t : Bool} (hc : ev S.tm c = .bool t) (h : vif t (Ok P n0 x S K) (Ok P n0 y S K)) : Ok P n0 (.cond c x y) S K := fun N B ρ0 w0 Q a w ρ h0 hok hS next => by
  simp only [codeOk,Bool.and_eq_true] at hok
  have hx := ev_sound hS.tm c
  rw [hc] at hx
  exact wp_cond_split hx.bool (fun ht => h.1 ht N B ρ0 w0 Q a w ρ h0 hok.1 hS next) (fun ht => h.2 ht N B ρ0 w0 Q a w ρ h0 hok.2 hS next)
theorem jl {id : Nat} {c : Code} (h : Ok P n0 c S (VX.block id K)) : Ok P n0 (.block id c) S K := fun N B ρ0 w0 Q a w ρ h0 hok hS next => by
  simp only [codeOk] at hok
  refine wp_block (h N B ρ0 w0 _ a w ρ h0 hok hS fun e S' a' w' ρ' hk hS' => ?_)
  cases e with
  | normal => exact next .normal S' a' w' ρ' hk hS'
  | ret => exact next .ret S' a' w' ρ' hk hS'
  | exit j =>
    simp only [VX.block] at hk
    show Exit.inBlock id Q (.exit j) a' w'
    unfold Exit.inBlock
    dsimp only
    split at hk
    · rename_i e; rw [if_pos e]; exact next .normal S' a' w' ρ' hk hS'
    · rename_i e; rw [if_neg e]; exact next (.exit j) S' a' w' ρ' hk hS'
theorem jm {c : Code} (h : Ok P n0 c S K) : Ok P n0 (.scope c) S K := fun N B ρ0 w0 Q a w ρ h0 hok hS next => by
  simp only [codeOk] at hok
  refine wp_scope_straight (h N B ρ0 w0 _ a w ρ h0 hok hS fun e S' a' w' ρ' hk hS' => ?_)
  have := next e S' a' w' ρ' hk hS'
  cases e <;> exact this
theorem jk {id : Nat} {l : List Oper} (h : ∀ M : VS → Prop, (∀ S, K .normal S → M S) → vl P l l S M) : Ok P n0 (.region id l.toArray false) S K := fun N B ρ0 w0 Q a w ρ h0 hok hS next => by
  simp only [codeOk,List.all_eq_true] at hok
  refine wp_region_list (vlist_sound (K := K .normal) l S a w ρ (fun o ho t ht => by have := hok o ho; rw [ht] at this; simpa using this) ?_ hS fun S' a' w' ρ' hk hS' => next .normal S' a' w' ρ' hk hS')
  rw [← vl_def]
  exact h _ fun _ h => h
theorem ok_draw {id : Nat} {l : List Oper} {tm : Nat → VV} {H : Heap} {n : Nat} (k : Nat) (hm : P.follows .mixedOrders = true) (hd : drawOk l.toArray k = true) (hfr : ∀ m, n ≤ m → H m = none)
    (h : ∀ M : VS → Prop, (∀ S, K .normal S → M S) → vh P l (l.take k) tm H n fun tm H n => vl P l (l.drop k) ⟨tm, H, n⟩ M) : Ok P n0 (.region id l.toArray true) ⟨tm, H, n⟩ K := fun N B ρ0 w0 Q a w ρ h0 hok hS next => by
  simp only [codeOk,List.all_eq_true] at hok
  exact region_intro (S := ⟨tm, H, n⟩) hm hfr k hd (by simpa only [vh_def,vl_def] using h _ fun _ h => h) id N B ρ0 w0 Q a w ρ (fun o ho t ht => by have := hok o ho; rw [ht] at this; simpa using this) hS.tm hS.defers hS.size hS.heap hS.below hS.ext
    fun S' a' w' ρ' hk h1 h2 h3 h4 h5 h6 => next .normal S' a' w' ρ' hk ⟨h1, h2, h3, h4, h5, h6⟩
def CX {α : Type} (n0 : Nat) (fr : α → VS) (I : α → Prop) (K : VX → VS → Prop) : VX → VS → Prop
  | .normal, S => ∃ x, Ren n0 S (fr x) ∧ I x
  | .exit i, S => K (.exit i) S
  | .ret, S => K .ret S
def LX {α : Type} (n0 : Nat) (fr : α → VS) (I : α → Prop) (μ : α → Nat) (m : Nat) (K : VX → VS → Prop) : VX → VS → Prop
  | .normal, S => ∃ x, Ren n0 S (fr x) ∧ I x ∧ μ x < m
  | .exit i, S => K (.exit i) S
  | .ret, S => K .ret S
theorem ok_loop {α : Type} {c : Code} (fr : α → VS) (I : α → Prop) (μ : α → Nat) (x0 : α) (h0 : Ren n0 S (fr x0)) (hI : I x0) (round : ∀ x, I x → Ok P n0 c (fr x) (LX n0 fr I μ (μ x) K)) : Ok P n0 (.loop c) S K := fun N B ρ0 w0 Q a w ρ hn hok hS next => by
  simp only [codeOk] at hok
  obtain ⟨ρ1, hS1⟩ := h0 N B ρ0 w0 a w ρ hn hS
  refine wp_loop_rel (fun (x : α) a w => I x ∧ ∃ ρ, SR N B ρ0 w0 (fr x) a w ρ) μ (s := x0) ⟨hI, ρ1, hS1⟩ fun x a w hs => ?_
  obtain ⟨hIx, ρx, hSx⟩ := hs
  refine round x hIx N B ρ0 w0 _ a w ρx hn hok hSx fun e S' a' w' ρ' hk hS' => ?_
  cases e with
  | normal =>
    obtain ⟨y, g1, g2, g3⟩ := hk
    obtain ⟨ρ2, hS2⟩ := g1 N B ρ0 w0 a' w' ρ' hn hS'
    exact ⟨y, ⟨g2, ρ2, hS2⟩, g3⟩
  | exit i => exact next (.exit i) S' a' w' ρ' hk hS'
  | ret => exact next .ret S' a' w' ρ' hk hS'
theorem ok_body {fn : Func} {f : FuncId} (hf : P.funcs[f]? = some fn) {c : Code} {rs : List ResultVar} (hb : fn.body = some c) (hr : fn.results.toList = rs) (hok : codeOk fn.ntmps c = true) {args : List VV} {k : Nat} (hl : args.length = k) (hlen : k ≤ fn.ntmps) {H : Heap} {n : Nat} {K : VV → Heap → Nat → Prop}
    (h : Ok P n c ⟨argsF 0 args (fun _ => .any), H, n⟩ (fin P rs K)) : vcall P f args H n K := by
  intro B ρ w xs hh ha
  have hxl := ha.len
  refine calls_of_wp hf hb ?_
  have hTM : TM ρ w (argsF 0 args (fun _ => .any)) { tmps := xs.toArray ++ Array.replicate (fn.ntmps - xs.toArray.size) undef, defers := [] } := by
    intro t
    rw [argsF_at]
    split
    · rename_i ht
      have ht' : t < xs.length := by omega
      have key : ∀ (vs : List VV) (xs : List Value) (t : Nat), VRA ρ w vs xs → t < xs.length → VR ρ w (vs.getD t .any) (xs.getD t undef) := by
        intro vs
        induction vs with
        | nil => intro xs t h ht; have h : xs = [] := h; subst h; simp at ht
        | cons v vs ih =>
          intro xs t h ht
          obtain ⟨x, ys, rfl, h1, h2⟩ := h
          cases t with
          | zero => simpa using h1
          | succ t => simpa using ih ys t h2 (by simpa using ht)
      have := key args xs t ha ht'
      simpa [Array.getD_eq_getD_getElem?, Array.getElem?_append, ht', List.getD_eq_getElem?_getD] using this
    · simp [VR, VR1]
  have hSR : SR ⟨fn.ntmps, []⟩ B ρ w ⟨argsF 0 args (fun _ => .any), H, n⟩ { tmps := xs.toArray ++ Array.replicate (fn.ntmps - xs.toArray.size) undef, defers := [] } w ρ :=
    ⟨hTM, rfl, by simp; omega, hh, Below.refl _ _, Ext.refl _ _⟩
  refine h ⟨fn.ntmps, []⟩ B ρ w _ _ w ρ (fun m hm => hh.fresh m hm) hok hSR fun e S' a' w' ρ' hk hS' => ?_
  cases e with
  | exit i => exact hk.elim
  | normal =>
    simp only [fin] at hk
    rw [← hr] at hk
    obtain ⟨v, x, h1, h2, h3⟩ := vres_sound hS' fn _ hk
    exact bodyPost_end h3 hS'.defers ⟨x, rfl, v, _, _, ρ', h1, h2, hS'.heap, hS'.ext, hS'.below⟩
  | ret =>
    simp only [fin] at hk
    rw [← hr] at hk
    obtain ⟨v, x, h1, h2, h3⟩ := vres_sound hS' fn _ hk
    exact bodyPost_ret h3 hS'.defers ⟨x, rfl, v, _, _, ρ', h1, h2, hS'.heap, hS'.ext, hS'.below⟩
theorem spec_ok {fn : Func} {f : FuncId} (hf : P.funcs[f]? = some fn) {c : Code} {rs : List ResultVar} (hb : fn.body = some c) (hr : fn.results.toList = rs) (hok : codeOk fn.ntmps c = true) {ds : List VV} {r : VV} {k : Nat} (hl : ds.length = k) (hlen : k ≤ fn.ntmps)
    (h : Ok P 0 c ⟨argsF 0 ds (fun _ => .any), fun _ => none, 0⟩ (fin P rs fun v H _ => RdT H v r)) : Spec P f ds r := by
  intro U w xs ha
  have hh : HR ZT w.heap.size (.bare U) (fun _ => none) 0 w := ⟨Nat.le_refl _, fun _ _ => rfl, fun m l h => (by cases h), fun m m' l l' h => (by cases h), fun m s v l h => (by cases h), fun m es l h => (by cases h)⟩
  refine (ok_body hf hb hr hok hl hlen h w.heap.size (.bare U) w xs hh ha).mono fun e w' ⟨x, he, v, H', n', ρ', hk, hv, hh', hext, hb⟩ => ⟨x, he, hb, ?_⟩
  exact hk.value hh' hext.imb (fun m l hl => .inr (hh'.lt m l hl).1) hv
end
theorem xb2 {i : Nat} {K : VX → VS → Prop} {S : VS} (h : K .normal S) : VX.block i K (.exit i) S := by rw [x_block2, if_pos rfl]; exact h
theorem xb3 {i j : Nat} {K : VX → VS → Prop} {S : VS} (hij : j ≠ i) (h : K (.exit j) S) : VX.block i K (.exit j) S := by rw [x_block2, if_neg hij]; exact h
section
variable {α : Type} {n0 : Nat} {fr : α → VS} {I : α → Prop} {μ : α → Nat} {m : Nat} {K : VX → VS → Prop} {S : VS}
theorem xl1 (x : α) (h1 : Ren n0 S (fr x)) (h2 : I x) (h3 : μ x < m) : LX n0 fr I μ m K .normal S := ⟨x, h1, h2, h3⟩
end
theorem vif_t {A B : Prop} (h : A) : vif true A B := ⟨fun _ => h, fun h => by cases h⟩
theorem vif_f {A B : Prop} (h : B) : vif false A B := ⟨fun h => (by cases h), fun _ => h⟩
theorem jJ {n0 : Nat} {σ : List (Nat × Nat)} {H : Heap} {fz : Bool} {es es' : List (VV × VV)} (e : es = es') (h : (es.all fun q => nl q.1 && nl q.2) = true) : MB n0 σ H fz (.map es) (.map es') := by
  subst e
  exact MB.map fun x hx => by
    have := List.all_eq_true.1 h x hx
    simpa using this
end Go.Proofs.Ytpdhdkpebbfnnaa.V
end
section
namespace Go.Proofs.Ytpdhdkpebbfnnaa.V
open Go
theorem tab_0 : SH Try.prog 1 = some .cell ∧ SH Try.prog 2 = some .cell ∧ SH Try.prog 3 = some .cell ∧ SH Try.prog 4 = some .cell ∧ SH Try.prog 5 = some .cell ∧ SH Try.prog 9 = some .cell ∧ SH Try.prog 12 = some .cell ∧ SH Try.prog 13 = some (.st [.cell, .cell]) ∧ SH Try.prog 20 = some .cell ∧ SH Try.prog 21 = some .cell ∧ SH Try.prog 22 = some .cell ∧ SH Try.prog 23 = some .cell ∧ SH Try.prog 24 = some .cell ∧ SH Try.prog 25 = some .cell ∧ SH Try.prog 26 = some .cell ∧ SH Try.prog 27 = some (.st [.cell, .cell, .cell]) ∧ SH Try.prog 28 = some (.st [.cell, .cell, .cell]) ∧ SH Try.prog 29 = some (.st [.cell, .cell, .cell, .cell, .cell, .cell, .cell, .cell, .cell, .cell, .cell, .cell, .cell, (.st [.cell, .cell, .cell]), .cell]) ∧ SH Try.prog 30 = some (.st [.cell, .cell, .cell, .cell, .cell, .cell, .cell, .cell, .cell, .cell, .cell, .cell, .cell, (.st [.cell, .cell, .cell]), .cell]) ∧ SH Try.prog 31 = some .cell ∧ SH Try.prog 32 = some .cell ∧ SH Try.prog 33 = some (.st [.cell, .cell, .cell, .cell]) ∧ SH Try.prog 34 = some (.st [.cell, .cell, .cell, .cell]) ∧ SH Try.prog 35 = some (.st [.cell, .cell, .cell]) ∧ SH Try.prog 36 = some (.st [.cell, .cell, .cell]) ∧ SH Try.prog 37 = some .cell ∧ SH Try.prog 39 = some .cell ∧ SH Try.prog 40 = some .cell ∧ SH Try.prog 45 = some .cell ∧ SH Try.prog 48 = some .cell ∧ SH Try.prog 54 = some (.arr 16 .cell) ∧ SH Try.prog 55 = some (.st [(.arr 16 .cell), .cell]) ∧ SH Try.prog 56 = some (.st [(.arr 16 .cell), .cell]) ∧ SH Try.prog 57 = some (.st [.cell, .cell, .cell]) ∧ SH Try.prog 58 = some (.st [.cell, .cell, .cell]) ∧ SH Try.prog 59 = some (.arr 16 (.st [.cell, .cell, .cell])) ∧ SH Try.prog 60 = some (.arr 16 (.st [.cell, .cell, .cell])) ∧ SH Try.prog 61 = some (.arr 8 (.st [.cell, .cell, .cell])) ∧ SH Try.prog 62 = some (.st [.cell, .cell, .cell, (.st [(.arr 16 .cell), .cell]), (.arr 16 (.st [.cell, .cell, .cell])), (.arr 8 (.st [.cell, .cell, .cell])), .cell, .cell, .cell, .cell]) ∧ SH Try.prog 63 = some (.st [.cell, .cell, .cell, (.st [(.arr 16 .cell), .cell]), (.arr 16 (.st [.cell, .cell, .cell])), (.arr 8 (.st [.cell, .cell, .cell])), .cell, .cell, .cell, .cell]) := by
  refine ⟨(by kernel_rfl), (by kernel_rfl), (by kernel_rfl), (by kernel_rfl), (by kernel_rfl), (by kernel_rfl), (by kernel_rfl), (by kernel_rfl), (by kernel_rfl), (by kernel_rfl), (by kernel_rfl), (by kernel_rfl), (by kernel_rfl), (by kernel_rfl), (by kernel_rfl), (by kernel_rfl), (by kernel_rfl), (by kernel_rfl), (by kernel_rfl), (by kernel_rfl), (by kernel_rfl), (by kernel_rfl), (by kernel_rfl), (by kernel_rfl), (by kernel_rfl), (by kernel_rfl), (by kernel_rfl), (by kernel_rfl), (by kernel_rfl), (by kernel_rfl), (by kernel_rfl), (by kernel_rfl), (by kernel_rfl), (by kernel_rfl), (by kernel_rfl), (by kernel_rfl), (by kernel_rfl), (by kernel_rfl), (by kernel_rfl), (by kernel_rfl)⟩
theorem tab_1 : SH Try.prog 69 = some .cell ∧ SH Try.prog 71 = some .cell ∧ SH Try.prog 74 = some (.st [.cell, .cell, .cell]) ∧ SH Try.prog 75 = some (.st [.cell, .cell, .cell]) ∧ SH Try.prog 81 = some (.st [.cell, .cell]) ∧ SH Try.prog 82 = some (.st [.cell, .cell]) ∧ SH Try.prog 83 = some .cell ∧ SH Try.prog 84 = some (.st [.cell, .cell]) ∧ SH Try.prog 85 = some (.st [.cell, .cell]) ∧ SH Try.prog 87 = some .cell ∧ SH Try.prog 92 = some .cell ∧ SH Try.prog 94 = some .cell ∧ SH Try.prog 97 = some .cell ∧ SH Try.prog 98 = some .cell ∧ SH Try.prog 99 = some .cell ∧ SH Try.prog 100 = some .cell ∧ SH Try.prog 101 = some .cell ∧ SH Try.prog 102 = some .cell ∧ SH Try.prog 103 = some .cell ∧ SH Try.prog 104 = some .cell ∧ SH Try.prog 106 = some .cell ∧ SH Try.prog 107 = some .cell ∧ SH Try.prog 108 = some .cell ∧ SH Try.prog 109 = some .cell ∧ SH Try.prog 110 = some .cell ∧ SH Try.prog 111 = some .cell ∧ SH Try.prog 112 = some .cell ∧ SH Try.prog 113 = some .cell ∧ SH Try.prog 114 = some .cell ∧ SH Try.prog 115 = some .cell ∧ SH Try.prog 116 = some .cell ∧ SH Try.prog 118 = some .cell ∧ SH Try.prog 119 = some .cell ∧ SH Try.prog 120 = some .cell ∧ SH Try.prog 127 = some .cell ∧ SH Try.prog 128 = some .cell ∧ SH Try.prog 129 = some .cell ∧ SH Try.prog 130 = some .cell ∧ SH Try.prog 132 = some .cell ∧ SH Try.prog 133 = some .cell := by
  refine ⟨(by kernel_rfl), (by kernel_rfl), (by kernel_rfl), (by kernel_rfl), (by kernel_rfl), (by kernel_rfl), (by kernel_rfl), (by kernel_rfl), (by kernel_rfl), (by kernel_rfl), (by kernel_rfl), (by kernel_rfl), (by kernel_rfl), (by kernel_rfl), (by kernel_rfl), (by kernel_rfl), (by kernel_rfl), (by kernel_rfl), (by kernel_rfl), (by kernel_rfl), (by kernel_rfl), (by kernel_rfl), (by kernel_rfl), (by kernel_rfl), (by kernel_rfl), (by kernel_rfl), (by kernel_rfl), (by kernel_rfl), (by kernel_rfl), (by kernel_rfl), (by kernel_rfl), (by kernel_rfl), (by kernel_rfl), (by kernel_rfl), (by kernel_rfl), (by kernel_rfl), (by kernel_rfl), (by kernel_rfl), (by kernel_rfl), (by kernel_rfl)⟩
theorem tab_2 : SH Try.prog 134 = some .cell ∧ SH Try.prog 135 = some (.st [.cell, .cell]) ∧ SH Try.prog 136 = some (.st [.cell, .cell]) ∧ SH Try.prog 137 = some .cell ∧ SH Try.prog 138 = some .cell ∧ SH Try.prog 139 = some .cell ∧ SH Try.prog 141 = some .cell ∧ SH Try.prog 142 = some .cell ∧ SH Try.prog 144 = some .cell ∧ SH Try.prog 148 = some .cell ∧ SH Try.prog 149 = some .cell ∧ SH Try.prog 151 = some .cell ∧ SH Try.prog 152 = some .cell ∧ SH Try.prog 153 = some .cell ∧ SH Try.prog 154 = some .cell ∧ SH Try.prog 155 = some .cell ∧ SH Try.prog 158 = some .cell ∧ SH Try.prog 159 = some .cell ∧ SH Try.prog 160 = some .cell ∧ SH Try.prog 163 = some .cell ∧ SH Try.prog 168 = some (.st [.cell, .cell, .cell, .cell, .cell, .cell]) ∧ SH Try.prog 169 = some (.st [.cell, .cell, .cell, .cell, .cell, .cell]) ∧ SH Try.prog 171 = some .cell ∧ SH Try.prog 173 = some .cell ∧ SH Try.prog 175 = some .cell ∧ SH Try.prog 176 = some .cell ∧ SH Try.prog 177 = some .cell ∧ SH Try.prog 178 = some .cell ∧ SH Try.prog 180 = some .cell ∧ SH Try.prog 181 = some (.arr 8 .cell) ∧ SH Try.prog 183 = some .cell ∧ SH Try.prog 184 = some .cell ∧ SH Try.prog 185 = some .cell ∧ SH Try.prog 186 = some .cell ∧ SH Try.prog 191 = some .cell ∧ SH Try.prog 199 = some .cell ∧ ZE Try.prog 1 = some (.raw .nilFunc) ∧ ZE Try.prog 2 = some (.int .i64 0) ∧ ZE Try.prog 3 = some (.int .i64 0) ∧ ZE Try.prog 4 = some (.bool false) := by
  refine ⟨(by kernel_rfl), (by kernel_rfl), (by kernel_rfl), (by kernel_rfl), (by kernel_rfl), (by kernel_rfl), (by kernel_rfl), (by kernel_rfl), (by kernel_rfl), (by kernel_rfl), (by kernel_rfl), (by kernel_rfl), (by kernel_rfl), (by kernel_rfl), (by kernel_rfl), (by kernel_rfl), (by kernel_rfl), (by kernel_rfl), (by kernel_rfl), (by kernel_rfl), (by kernel_rfl), (by kernel_rfl), (by kernel_rfl), (by kernel_rfl), (by kernel_rfl), (by kernel_rfl), (by kernel_rfl), (by kernel_rfl), (by kernel_rfl), (by kernel_rfl), (by kernel_rfl), (by kernel_rfl), (by kernel_rfl), (by kernel_rfl), (by kernel_rfl), (by kernel_rfl), (by kernel_rfl), (by kernel_rfl), (by kernel_rfl), (by kernel_rfl)⟩
theorem tab_3 : ZE Try.prog 5 = some (.int .u8 0) ∧ ZE Try.prog 9 = some (.str []) ∧ ZE Try.prog 12 = some (.int .u64 0) ∧ ZE Try.prog 13 = some (.agg [(.str []), (.int .u64 0)]) ∧ ZE Try.prog 20 = some (.raw .nilIface) ∧ ZE Try.prog 21 = some (.int .i32 0) ∧ ZE Try.prog 22 = some (.int .u64 0) ∧ ZE Try.prog 23 = some (.sl none 0) ∧ ZE Try.prog 24 = some (.sl none 0) ∧ ZE Try.prog 25 = some (.sl none 0) ∧ ZE Try.prog 26 = some (.sl none 0) ∧ ZE Try.prog 27 = some (.agg [(.sl none 0), (.sl none 0), (.int .i64 0)]) ∧ ZE Try.prog 28 = some (.agg [(.sl none 0), (.sl none 0), (.int .i64 0)]) ∧ ZE Try.prog 29 = some (.agg [(.int .u64 0), (.int .i64 0), (.int .i64 0), (.int .i64 0), (.sl none 0), (.sl none 0), (.int .i64 0), (.str []), (.sl none 0), (.int .i64 0), (.str []), (.bool false), (.int .u64 0), (.agg [(.sl none 0), (.sl none 0), (.int .i64 0)]), (.sl none 0)]) ∧ ZE Try.prog 30 = some (.agg [(.int .u64 0), (.int .i64 0), (.int .i64 0), (.int .i64 0), (.sl none 0), (.sl none 0), (.int .i64 0), (.str []), (.sl none 0), (.int .i64 0), (.str []), (.bool false), (.int .u64 0), (.agg [(.sl none 0), (.sl none 0), (.int .i64 0)]), (.sl none 0)]) ∧ ZE Try.prog 31 = some (.sl none 0) ∧ ZE Try.prog 32 = some (.int .u32 0) ∧ ZE Try.prog 33 = some (.agg [(.sl none 0), (.str []), (.int .i64 0), (.int .u32 0)]) ∧ ZE Try.prog 34 = some (.agg [(.sl none 0), (.str []), (.int .i64 0), (.int .u32 0)]) ∧ ZE Try.prog 35 = some (.agg [(.int .i64 0), (.int .i64 0), (.int .i64 0)]) ∧ ZE Try.prog 36 = some (.agg [(.int .i64 0), (.int .i64 0), (.int .i64 0)]) ∧ ZE Try.prog 37 = some (.raw .nilFunc) ∧ ZE Try.prog 39 = some (.raw .nilFunc) ∧ ZE Try.prog 40 = some (.int .i64 0) ∧ ZE Try.prog 45 = some (.sl none 0) ∧ ZE Try.prog 48 = some (.raw .nilFunc) ∧ ZE Try.prog 54 = some (.agg (List.replicate 16 (.int .u32 0))) ∧ ZE Try.prog 55 = some (.agg [(.agg (List.replicate 16 (.int .u32 0))), (.int .u32 0)]) ∧ ZE Try.prog 56 = some (.agg [(.agg (List.replicate 16 (.int .u32 0))), (.int .u32 0)]) ∧ ZE Try.prog 57 = some (.agg [(.bool false), (.bool false), (.int .i64 0)]) ∧ ZE Try.prog 58 = some (.agg [(.bool false), (.bool false), (.int .i64 0)]) ∧ ZE Try.prog 59 = some (.agg (List.replicate 16 (.agg [(.bool false), (.bool false), (.int .i64 0)]))) ∧ ZE Try.prog 60 = some (.agg (List.replicate 16 (.agg [(.bool false), (.bool false), (.int .i64 0)]))) ∧ ZE Try.prog 61 = some (.agg (List.replicate 8 (.agg [(.int .i64 0), (.int .i64 0), (.int .i64 0)]))) ∧ ZE Try.prog 62 = some (.agg [(.int .i64 0), (.int .i64 0), (.int .i64 0), (.agg [(.agg (List.replicate 16 (.int .u32 0))), (.int .u32 0)]), (.agg (List.replicate 16 (.agg [(.bool false), (.bool false), (.int .i64 0)]))), (.agg (List.replicate 8 (.agg [(.int .i64 0), (.int .i64 0), (.int .i64 0)]))), (.bool false), (.int .u32 0), (.int .i64 0), (.int .u64 0)]) ∧ ZE Try.prog 63 = some (.agg [(.int .i64 0), (.int .i64 0), (.int .i64 0), (.agg [(.agg (List.replicate 16 (.int .u32 0))), (.int .u32 0)]), (.agg (List.replicate 16 (.agg [(.bool false), (.bool false), (.int .i64 0)]))), (.agg (List.replicate 8 (.agg [(.int .i64 0), (.int .i64 0), (.int .i64 0)]))), (.bool false), (.int .u32 0), (.int .i64 0), (.int .u64 0)]) ∧ ZE Try.prog 69 = some (.sl none 0) ∧ ZE Try.prog 71 = some (.raw .nilFunc) ∧ ZE Try.prog 74 = some (.agg [(.int .i64 0), (.str []), (.bool false)]) ∧ ZE Try.prog 75 = some (.agg [(.int .i64 0), (.str []), (.bool false)]) := by
  refine ⟨(by kernel_rfl), (by kernel_rfl), (by kernel_rfl), (by kernel_rfl), (by kernel_rfl), (by kernel_rfl), (by kernel_rfl), (by kernel_rfl), (by kernel_rfl), (by kernel_rfl), (by kernel_rfl), (by kernel_rfl), (by kernel_rfl), (by kernel_rfl), (by kernel_rfl), (by kernel_rfl), (by kernel_rfl), (by kernel_rfl), (by kernel_rfl), (by kernel_rfl), (by kernel_rfl), (by kernel_rfl), (by kernel_rfl), (by kernel_rfl), (by kernel_rfl), (by kernel_rfl), (by kernel_rfl), (by kernel_rfl), (by kernel_rfl), (by kernel_rfl), (by kernel_rfl), (by kernel_rfl), (by kernel_rfl), (by kernel_rfl), (by kernel_rfl), (by kernel_rfl), (by kernel_rfl), (by kernel_rfl), (by kernel_rfl), (by kernel_rfl)⟩
theorem tab_4 : ZE Try.prog 81 = some (.agg [(.int .i64 0), (.str [])]) ∧ ZE Try.prog 82 = some (.agg [(.int .i64 0), (.str [])]) ∧ ZE Try.prog 83 = some (.raw .nilFunc) ∧ ZE Try.prog 84 = some (.agg [(.int .i64 0), (.str [])]) ∧ ZE Try.prog 85 = some (.agg [(.int .i64 0), (.str [])]) ∧ ZE Try.prog 87 = some (.raw (.map none)) ∧ ZE Try.prog 92 = some (.raw .nilFunc) ∧ ZE Try.prog 94 = some (.raw (.pointer none)) ∧ ZE Try.prog 97 = some (.raw .nilFunc) ∧ ZE Try.prog 98 = some (.raw .nilFunc) ∧ ZE Try.prog 99 = some (.raw (.pointer none)) ∧ ZE Try.prog 100 = some (.raw .nilFunc) ∧ ZE Try.prog 101 = some (.raw .nilFunc) ∧ ZE Try.prog 102 = some (.raw (.map none)) ∧ ZE Try.prog 103 = some (.sl none 0) ∧ ZE Try.prog 104 = some (.raw .nilFunc) ∧ ZE Try.prog 106 = some (.raw .nilFunc) ∧ ZE Try.prog 107 = some (.raw .nilFunc) ∧ ZE Try.prog 108 = some (.raw .nilFunc) ∧ ZE Try.prog 109 = some (.raw .nilFunc) ∧ ZE Try.prog 110 = some (.sl none 0) ∧ ZE Try.prog 111 = some (.raw .nilFunc) ∧ ZE Try.prog 112 = some (.raw .nilFunc) ∧ ZE Try.prog 113 = some (.raw .nilFunc) ∧ ZE Try.prog 114 = some (.raw .nilFunc) ∧ ZE Try.prog 115 = some (.raw .nilFunc) ∧ ZE Try.prog 116 = some (.sl none 0) ∧ ZE Try.prog 118 = some (.raw .nilFunc) ∧ ZE Try.prog 119 = some (.raw .nilFunc) ∧ ZE Try.prog 120 = some (.raw .nilFunc) ∧ ZE Try.prog 127 = some (.sl none 0) ∧ ZE Try.prog 128 = some (.sl none 0) ∧ ZE Try.prog 129 = some (.sl none 0) ∧ ZE Try.prog 130 = some (.int .u64 0) ∧ ZE Try.prog 132 = some (.raw .nilFunc) ∧ ZE Try.prog 133 = some (.raw .nilFunc) ∧ ZE Try.prog 134 = some (.raw (.pointer none)) ∧ ZE Try.prog 135 = some (.agg [(.raw (.pointer none)), (.sl none 0)]) ∧ ZE Try.prog 136 = some (.agg [(.raw (.pointer none)), (.sl none 0)]) ∧ ZE Try.prog 137 = some (.raw .nilFunc) := by
  refine ⟨(by kernel_rfl), (by kernel_rfl), (by kernel_rfl), (by kernel_rfl), (by kernel_rfl), (by kernel_rfl), (by kernel_rfl), (by kernel_rfl), (by kernel_rfl), (by kernel_rfl), (by kernel_rfl), (by kernel_rfl), (by kernel_rfl), (by kernel_rfl), (by kernel_rfl), (by kernel_rfl), (by kernel_rfl), (by kernel_rfl), (by kernel_rfl), (by kernel_rfl), (by kernel_rfl), (by kernel_rfl), (by kernel_rfl), (by kernel_rfl), (by kernel_rfl), (by kernel_rfl), (by kernel_rfl), (by kernel_rfl), (by kernel_rfl), (by kernel_rfl), (by kernel_rfl), (by kernel_rfl), (by kernel_rfl), (by kernel_rfl), (by kernel_rfl), (by kernel_rfl), (by kernel_rfl), (by kernel_rfl), (by kernel_rfl), (by kernel_rfl)⟩
theorem tab_5 : ZE Try.prog 138 = some (.raw .nilIface) ∧ ZE Try.prog 139 = some (.raw .nilIface) ∧ ZE Try.prog 141 = some (.raw .nilFunc) ∧ ZE Try.prog 142 = some (.raw .nilFunc) ∧ ZE Try.prog 144 = some (.raw .nilFunc) ∧ ZE Try.prog 148 = some (.raw .nilFunc) ∧ ZE Try.prog 149 = some (.raw .nilFunc) ∧ ZE Try.prog 151 = some (.raw .nilFunc) ∧ ZE Try.prog 152 = some (.raw .nilFunc) ∧ ZE Try.prog 153 = some (.raw .nilFunc) ∧ ZE Try.prog 154 = some (.raw .nilFunc) ∧ ZE Try.prog 155 = some (.raw .nilFunc) ∧ ZE Try.prog 158 = some (.raw .nilFunc) ∧ ZE Try.prog 159 = some (.raw .nilFunc) ∧ ZE Try.prog 160 = some (.raw .nilFunc) ∧ ZE Try.prog 163 = some (.raw .nilFunc) ∧ ZE Try.prog 168 = some (.agg (List.replicate 6 (.int .i64 0))) ∧ ZE Try.prog 169 = some (.agg (List.replicate 6 (.int .i64 0))) ∧ ZE Try.prog 171 = some (.raw .nilFunc) ∧ ZE Try.prog 173 = some (.raw .nilFunc) ∧ ZE Try.prog 175 = some (.raw .nilFunc) ∧ ZE Try.prog 176 = some (.raw (.pointer none)) ∧ ZE Try.prog 177 = some (.raw .nilFunc) ∧ ZE Try.prog 178 = some (.raw .nilFunc) ∧ ZE Try.prog 180 = some (.raw .nilFunc) ∧ ZE Try.prog 181 = some (.agg (List.replicate 8 (.int .u8 0))) ∧ ZE Try.prog 183 = some (.raw .nilFunc) ∧ ZE Try.prog 185 = some (.raw .nilFunc) ∧ ZE Try.prog 186 = some (.raw .nilFunc) ∧ ZE Try.prog 191 = some (.raw .nilFunc) ∧ ZE Try.prog 199 = some (.raw .nilFunc) ∧ EL Try.prog 23 = some 9 ∧ EL Try.prog 24 = some 63 ∧ EL Try.prog 25 = some 82 ∧ EL Try.prog 26 = some 85 ∧ EL Try.prog 31 = some 32 ∧ EL Try.prog 45 = some 3 ∧ EL Try.prog 69 = some 75 ∧ EL Try.prog 103 = some 58 ∧ EL Try.prog 110 = some 36 := by
  refine ⟨(by kernel_rfl), (by kernel_rfl), (by kernel_rfl), (by kernel_rfl), (by kernel_rfl), (by kernel_rfl), (by kernel_rfl), (by kernel_rfl), (by kernel_rfl), (by kernel_rfl), (by kernel_rfl), (by kernel_rfl), (by kernel_rfl), (by kernel_rfl), (by kernel_rfl), (by kernel_rfl), (by kernel_rfl), (by kernel_rfl), (by kernel_rfl), (by kernel_rfl), (by kernel_rfl), (by kernel_rfl), (by kernel_rfl), (by kernel_rfl), (by kernel_rfl), (by kernel_rfl), (by kernel_rfl), (by kernel_rfl), (by kernel_rfl), (by kernel_rfl), (by kernel_rfl), (by kernel_rfl), (by kernel_rfl), (by kernel_rfl), (by kernel_rfl), (by kernel_rfl), (by kernel_rfl), (by kernel_rfl), (by kernel_rfl), (by kernel_rfl)⟩
theorem tab_6 : EL Try.prog 116 = some 5 ∧ EL Try.prog 127 = some 23 ∧ EL Try.prog 128 = some 26 ∧ EL Try.prog 129 = some 80 ∧ Try.prog.underlying 2 = some (.int .i64) ∧ Try.prog.underlying 3 = some (.int .i64) ∧ Try.prog.underlying 4 = some .bool ∧ Try.prog.underlying 5 = some (.int .u8) ∧ Try.prog.underlying 9 = some .string ∧ Try.prog.underlying 12 = some (.int .u64) ∧ Try.prog.underlying 21 = some (.int .i32) ∧ Try.prog.underlying 22 = some (.int .u64) ∧ Try.prog.underlying 23 = some (.slice 9) ∧ Try.prog.underlying 24 = some (.slice 63) ∧ Try.prog.underlying 25 = some (.slice 82) ∧ Try.prog.underlying 26 = some (.slice 85) ∧ Try.prog.underlying 31 = some (.slice 32) ∧ Try.prog.underlying 32 = some (.int .u32) ∧ Try.prog.underlying 40 = some (.int .i64) ∧ Try.prog.underlying 45 = some (.slice 3) ∧ Try.prog.underlying 54 = some (.array 16 32) ∧ Try.prog.underlying 59 = some (.array 16 58) ∧ Try.prog.underlying 60 = some (.array 16 58) ∧ Try.prog.underlying 61 = some (.array 8 36) ∧ Try.prog.underlying 69 = some (.slice 75) ∧ Try.prog.underlying 87 = some (.map 3 3) ∧ Try.prog.underlying 94 = some (.pointer 30) ∧ Try.prog.underlying 99 = some (.pointer 63) ∧ Try.prog.underlying 102 = some (.map 3 4) ∧ Try.prog.underlying 103 = some (.slice 58) ∧ Try.prog.underlying 110 = some (.slice 36) ∧ Try.prog.underlying 116 = some (.slice 5) ∧ Try.prog.underlying 127 = some (.slice 23) ∧ Try.prog.underlying 128 = some (.slice 26) ∧ Try.prog.underlying 129 = some (.slice 80) ∧ Try.prog.underlying 130 = some (.int .u64) ∧ Try.prog.underlying 134 = some (.pointer 136) ∧ Try.prog.underlying 176 = some (.pointer 5) ∧ Try.prog.underlying 181 = some (.array 8 5) ∧ BY Try.prog 3 = 8 := by
  refine ⟨(by kernel_rfl), (by kernel_rfl), (by kernel_rfl), (by kernel_rfl), (by kernel_rfl), (by kernel_rfl), (by kernel_rfl), (by kernel_rfl), (by kernel_rfl), (by kernel_rfl), (by kernel_rfl), (by kernel_rfl), (by kernel_rfl), (by kernel_rfl), (by kernel_rfl), (by kernel_rfl), (by kernel_rfl), (by kernel_rfl), (by kernel_rfl), (by kernel_rfl), (by kernel_rfl), (by kernel_rfl), (by kernel_rfl), (by kernel_rfl), (by kernel_rfl), (by kernel_rfl), (by kernel_rfl), (by kernel_rfl), (by kernel_rfl), (by kernel_rfl), (by kernel_rfl), (by kernel_rfl), (by kernel_rfl), (by kernel_rfl), (by kernel_rfl), (by kernel_rfl), (by kernel_rfl), (by kernel_rfl), (by kernel_rfl), (by kernel_rfl)⟩
theorem tab_7 : BY Try.prog 5 = 1 ∧ BY Try.prog 9 = 16 ∧ BY Try.prog 23 = 24 ∧ BY Try.prog 26 = 24 ∧ BY Try.prog 32 = 4 ∧ BY Try.prog 36 = 24 ∧ BY Try.prog 58 = 16 ∧ BY Try.prog 63 = 568 ∧ BY Try.prog 75 = 32 ∧ BY Try.prog 82 = 24 ∧ BY Try.prog 85 = 24 ∧ EQT Try.prog 4 = some .bool ∧ EQT Try.prog 35 = some (.st [(.int .i64), (.int .i64), (.int .i64)]) ∧ EQT Try.prog 36 = some (.st [(.int .i64), (.int .i64), (.int .i64)]) ∧ EQT Try.prog 54 = some (.arr 16 (.int .u32)) ∧ EQT Try.prog 55 = some (.st [(.arr 16 (.int .u32)), (.int .u32)]) ∧ EQT Try.prog 56 = some (.st [(.arr 16 (.int .u32)), (.int .u32)]) ∧ EQT Try.prog 57 = some (.st [.bool, .bool, (.int .i64)]) ∧ EQT Try.prog 58 = some (.st [.bool, .bool, (.int .i64)]) ∧ EQT Try.prog 59 = some (.arr 16 (.st [.bool, .bool, (.int .i64)])) ∧ EQT Try.prog 60 = some (.arr 16 (.st [.bool, .bool, (.int .i64)])) ∧ EQT Try.prog 61 = some (.arr 8 (.st [(.int .i64), (.int .i64), (.int .i64)])) ∧ EQT Try.prog 62 = some (.st [(.int .i64), (.int .i64), (.int .i64), (.st [(.arr 16 (.int .u32)), (.int .u32)]), (.arr 16 (.st [.bool, .bool, (.int .i64)])), (.arr 8 (.st [(.int .i64), (.int .i64), (.int .i64)])), .bool, (.int .u32), (.int .i64), (.int .u64)]) ∧ EQT Try.prog 63 = some (.st [(.int .i64), (.int .i64), (.int .i64), (.st [(.arr 16 (.int .u32)), (.int .u32)]), (.arr 16 (.st [.bool, .bool, (.int .i64)])), (.arr 8 (.st [(.int .i64), (.int .i64), (.int .i64)])), .bool, (.int .u32), (.int .i64), (.int .u64)]) ∧ EQT Try.prog 74 = some (.st [(.int .i64), .str, .bool]) ∧ EQT Try.prog 75 = some (.st [(.int .i64), .str, .bool]) ∧ EQT Try.prog 81 = some (.st [(.int .i64), .str]) ∧ EQT Try.prog 82 = some (.st [(.int .i64), .str]) ∧ EQT Try.prog 84 = some (.st [(.int .i64), .str]) ∧ EQT Try.prog 85 = some (.st [(.int .i64), .str]) ∧ EQT Try.prog 168 = some (.st [(.int .i64), (.int .i64), (.int .i64), (.int .i64), (.int .i64), (.int .i64)]) ∧ EQT Try.prog 169 = some (.st [(.int .i64), (.int .i64), (.int .i64), (.int .i64), (.int .i64), (.int .i64)]) ∧ EQT Try.prog 181 = some (.arr 8 (.int .u8)) ∧ callable Try.prog 3 = true ∧ callable Try.prog 4 = true ∧ callable Try.prog 5 = true ∧ callable Try.prog 6 = true ∧ callable Try.prog 7 = true ∧ callable Try.prog 8 = true ∧ callable Try.prog 9 = true := by
  refine ⟨(by kernel_rfl), (by kernel_rfl), (by kernel_rfl), (by kernel_rfl), (by kernel_rfl), (by kernel_rfl), (by kernel_rfl), (by kernel_rfl), (by kernel_rfl), (by kernel_rfl), (by kernel_rfl), (by kernel_rfl), (by kernel_rfl), (by kernel_rfl), (by kernel_rfl), (by kernel_rfl), (by kernel_rfl), (by kernel_rfl), (by kernel_rfl), (by kernel_rfl), (by kernel_rfl), (by kernel_rfl), (by kernel_rfl), (by kernel_rfl), (by kernel_rfl), (by kernel_rfl), (by kernel_rfl), (by kernel_rfl), (by kernel_rfl), (by kernel_rfl), (by kernel_rfl), (by kernel_rfl), (by kernel_rfl), (by kernel_rfl), (by kernel_rfl), (by kernel_rfl), (by kernel_rfl), (by kernel_rfl), (by kernel_rfl), (by kernel_rfl)⟩
theorem tab_8 : callable Try.prog 10 = true ∧ callable Try.prog 11 = true ∧ callable Try.prog 12 = true ∧ callable Try.prog 13 = true ∧ callable Try.prog 14 = true ∧ callable Try.prog 15 = true ∧ callable Try.prog 16 = true ∧ callable Try.prog 17 = true ∧ callable Try.prog 18 = true ∧ callable Try.prog 19 = true ∧ callable Try.prog 20 = true ∧ callable Try.prog 21 = true ∧ callable Try.prog 22 = true ∧ callable Try.prog 23 = true ∧ callable Try.prog 24 = true ∧ callable Try.prog 25 = true ∧ callable Try.prog 26 = true ∧ callable Try.prog 27 = true ∧ callable Try.prog 28 = true ∧ callable Try.prog 29 = true ∧ callable Try.prog 30 = true ∧ callable Try.prog 31 = true ∧ callable Try.prog 32 = true ∧ callable Try.prog 33 = true ∧ callable Try.prog 34 = true ∧ callable Try.prog 35 = true ∧ callable Try.prog 36 = true ∧ callable Try.prog 37 = true ∧ callable Try.prog 38 = true ∧ callable Try.prog 39 = true ∧ callable Try.prog 40 = true ∧ callable Try.prog 41 = true ∧ callable Try.prog 42 = true ∧ callable Try.prog 43 = true ∧ callable Try.prog 44 = true ∧ callable Try.prog 45 = true ∧ callable Try.prog 46 = true ∧ callable Try.prog 47 = true ∧ callable Try.prog 48 = true ∧ callable Try.prog 49 = true := by
  refine ⟨(by kernel_rfl), (by kernel_rfl), (by kernel_rfl), (by kernel_rfl), (by kernel_rfl), (by kernel_rfl), (by kernel_rfl), (by kernel_rfl), (by kernel_rfl), (by kernel_rfl), (by kernel_rfl), (by kernel_rfl), (by kernel_rfl), (by kernel_rfl), (by kernel_rfl), (by kernel_rfl), (by kernel_rfl), (by kernel_rfl), (by kernel_rfl), (by kernel_rfl), (by kernel_rfl), (by kernel_rfl), (by kernel_rfl), (by kernel_rfl), (by kernel_rfl), (by kernel_rfl), (by kernel_rfl), (by kernel_rfl), (by kernel_rfl), (by kernel_rfl), (by kernel_rfl), (by kernel_rfl), (by kernel_rfl), (by kernel_rfl), (by kernel_rfl), (by kernel_rfl), (by kernel_rfl), (by kernel_rfl), (by kernel_rfl), (by kernel_rfl)⟩
theorem tab_9 : callable Try.prog 50 = true ∧ callable Try.prog 51 = true ∧ callable Try.prog 52 = true ∧ callable Try.prog 53 = true ∧ callable Try.prog 54 = true ∧ callable Try.prog 55 = true ∧ callable Try.prog 56 = true ∧ callable Try.prog 57 = true ∧ callable Try.prog 58 = true ∧ callable Try.prog 59 = true ∧ callable Try.prog 60 = true ∧ callable Try.prog 61 = true ∧ callable Try.prog 62 = true ∧ callable Try.prog 63 = true ∧ callable Try.prog 64 = true ∧ callable Try.prog 65 = true ∧ callable Try.prog 66 = true ∧ callable Try.prog 67 = true ∧ callable Try.prog 68 = true ∧ callable Try.prog 69 = true ∧ callable Try.prog 70 = true ∧ callable Try.prog 71 = true ∧ callable Try.prog 72 = true ∧ callable Try.prog 73 = true ∧ callable Try.prog 74 = true ∧ callable Try.prog 75 = true ∧ callable Try.prog 76 = true ∧ callable Try.prog 77 = true ∧ callable Try.prog 78 = true ∧ callable Try.prog 79 = true ∧ callable Try.prog 80 = true ∧ callable Try.prog 81 = true ∧ callable Try.prog 82 = true ∧ callable Try.prog 83 = true ∧ callable Try.prog 84 = true ∧ callable Try.prog 85 = true ∧ callable Try.prog 86 = true ∧ callable Try.prog 87 = true ∧ callable Try.prog 88 = true ∧ callable Try.prog 89 = true := by
  refine ⟨(by kernel_rfl), (by kernel_rfl), (by kernel_rfl), (by kernel_rfl), (by kernel_rfl), (by kernel_rfl), (by kernel_rfl), (by kernel_rfl), (by kernel_rfl), (by kernel_rfl), (by kernel_rfl), (by kernel_rfl), (by kernel_rfl), (by kernel_rfl), (by kernel_rfl), (by kernel_rfl), (by kernel_rfl), (by kernel_rfl), (by kernel_rfl), (by kernel_rfl), (by kernel_rfl), (by kernel_rfl), (by kernel_rfl), (by kernel_rfl), (by kernel_rfl), (by kernel_rfl), (by kernel_rfl), (by kernel_rfl), (by kernel_rfl), (by kernel_rfl), (by kernel_rfl), (by kernel_rfl), (by kernel_rfl), (by kernel_rfl), (by kernel_rfl), (by kernel_rfl), (by kernel_rfl), (by kernel_rfl), (by kernel_rfl), (by kernel_rfl)⟩
theorem tab_10 : callable Try.prog 90 = true ∧ callable Try.prog 91 = true ∧ callable Try.prog 92 = true ∧ callable Try.prog 93 = true ∧ callable Try.prog 94 = true ∧ callable Try.prog 95 = true ∧ callable Try.prog 96 = true ∧ callable Try.prog 97 = true ∧ callable Try.prog 98 = true ∧ callable Try.prog 99 = true ∧ callable Try.prog 100 = true ∧ callable Try.prog 101 = true ∧ callable Try.prog 102 = true ∧ callable Try.prog 103 = true ∧ callable Try.prog 104 = true ∧ callable Try.prog 105 = true ∧ callable Try.prog 106 = true ∧ callable Try.prog 107 = true ∧ callable Try.prog 108 = true ∧ callable Try.prog 109 = true ∧ callable Try.prog 110 = true ∧ callable Try.prog 111 = true ∧ callable Try.prog 112 = true ∧ callable Try.prog 113 = true ∧ callable Try.prog 114 = true ∧ callable Try.prog 115 = true ∧ callable Try.prog 116 = true ∧ callable Try.prog 118 = true ∧ callable Try.prog 119 = true ∧ callable Try.prog 120 = true ∧ callable Try.prog 121 = true ∧ callable Try.prog 122 = true ∧ callable Try.prog 123 = true ∧ callable Try.prog 124 = true ∧ callable Try.prog 125 = true ∧ callable Try.prog 126 = true ∧ callable Try.prog 127 = true ∧ callable Try.prog 128 = true ∧ callable Try.prog 129 = true ∧ callable Try.prog 130 = true := by
  refine ⟨(by kernel_rfl), (by kernel_rfl), (by kernel_rfl), (by kernel_rfl), (by kernel_rfl), (by kernel_rfl), (by kernel_rfl), (by kernel_rfl), (by kernel_rfl), (by kernel_rfl), (by kernel_rfl), (by kernel_rfl), (by kernel_rfl), (by kernel_rfl), (by kernel_rfl), (by kernel_rfl), (by kernel_rfl), (by kernel_rfl), (by kernel_rfl), (by kernel_rfl), (by kernel_rfl), (by kernel_rfl), (by kernel_rfl), (by kernel_rfl), (by kernel_rfl), (by kernel_rfl), (by kernel_rfl), (by kernel_rfl), (by kernel_rfl), (by kernel_rfl), (by kernel_rfl), (by kernel_rfl), (by kernel_rfl), (by kernel_rfl), (by kernel_rfl), (by kernel_rfl), (by kernel_rfl), (by kernel_rfl), (by kernel_rfl), (by kernel_rfl)⟩
theorem tab_11 : callable Try.prog 131 = true ∧ callable Try.prog 132 = true ∧ callable Try.prog 133 = true ∧ callable Try.prog 134 = true ∧ callable Try.prog 135 = true ∧ callable Try.prog 136 = true ∧ callable Try.prog 137 = true ∧ callable Try.prog 138 = true ∧ callable Try.prog 139 = true ∧ callable Try.prog 140 = true ∧ callable Try.prog 141 = true ∧ callable Try.prog 142 = true ∧ callable Try.prog 143 = true ∧ callable Try.prog 146 = true ∧ callable Try.prog 147 = true ∧ callable Try.prog 148 = true ∧ callable Try.prog 149 = true ∧ callable Try.prog 150 = true ∧ MP Try.prog 87 = some ((.int .i64), 3) ∧ MP Try.prog 102 = some ((.int .i64), 4) := by
  refine ⟨(by kernel_rfl), (by kernel_rfl), (by kernel_rfl), (by kernel_rfl), (by kernel_rfl), (by kernel_rfl), (by kernel_rfl), (by kernel_rfl), (by kernel_rfl), (by kernel_rfl), (by kernel_rfl), (by kernel_rfl), (by kernel_rfl), (by kernel_rfl), (by kernel_rfl), (by kernel_rfl), (by kernel_rfl), (by kernel_rfl), (by kernel_rfl), (by kernel_rfl)⟩
theorem tab : (SH Try.prog 1 = some .cell ∧ SH Try.prog 2 = some .cell ∧ SH Try.prog 3 = some .cell ∧ SH Try.prog 4 = some .cell ∧ SH Try.prog 5 = some .cell ∧ SH Try.prog 9 = some .cell ∧ SH Try.prog 12 = some .cell ∧ SH Try.prog 13 = some (.st [.cell, .cell]) ∧ SH Try.prog 20 = some .cell ∧ SH Try.prog 21 = some .cell ∧ SH Try.prog 22 = some .cell ∧ SH Try.prog 23 = some .cell ∧ SH Try.prog 24 = some .cell ∧ SH Try.prog 25 = some .cell ∧ SH Try.prog 26 = some .cell ∧ SH Try.prog 27 = some (.st [.cell, .cell, .cell]) ∧ SH Try.prog 28 = some (.st [.cell, .cell, .cell]) ∧ SH Try.prog 29 = some (.st [.cell, .cell, .cell, .cell, .cell, .cell, .cell, .cell, .cell, .cell, .cell, .cell, .cell, (.st [.cell, .cell, .cell]), .cell]) ∧ SH Try.prog 30 = some (.st [.cell, .cell, .cell, .cell, .cell, .cell, .cell, .cell, .cell, .cell, .cell, .cell, .cell, (.st [.cell, .cell, .cell]), .cell]) ∧ SH Try.prog 31 = some .cell ∧ SH Try.prog 32 = some .cell ∧ SH Try.prog 33 = some (.st [.cell, .cell, .cell, .cell]) ∧ SH Try.prog 34 = some (.st [.cell, .cell, .cell, .cell]) ∧ SH Try.prog 35 = some (.st [.cell, .cell, .cell]) ∧ SH Try.prog 36 = some (.st [.cell, .cell, .cell]) ∧ SH Try.prog 37 = some .cell ∧ SH Try.prog 39 = some .cell ∧ SH Try.prog 40 = some .cell ∧ SH Try.prog 45 = some .cell ∧ SH Try.prog 48 = some .cell ∧ SH Try.prog 54 = some (.arr 16 .cell) ∧ SH Try.prog 55 = some (.st [(.arr 16 .cell), .cell]) ∧ SH Try.prog 56 = some (.st [(.arr 16 .cell), .cell]) ∧ SH Try.prog 57 = some (.st [.cell, .cell, .cell]) ∧ SH Try.prog 58 = some (.st [.cell, .cell, .cell]) ∧ SH Try.prog 59 = some (.arr 16 (.st [.cell, .cell, .cell])) ∧ SH Try.prog 60 = some (.arr 16 (.st [.cell, .cell, .cell])) ∧ SH Try.prog 61 = some (.arr 8 (.st [.cell, .cell, .cell])) ∧ SH Try.prog 62 = some (.st [.cell, .cell, .cell, (.st [(.arr 16 .cell), .cell]), (.arr 16 (.st [.cell, .cell, .cell])), (.arr 8 (.st [.cell, .cell, .cell])), .cell, .cell, .cell, .cell]) ∧ SH Try.prog 63 = some (.st [.cell, .cell, .cell, (.st [(.arr 16 .cell), .cell]), (.arr 16 (.st [.cell, .cell, .cell])), (.arr 8 (.st [.cell, .cell, .cell])), .cell, .cell, .cell, .cell])) ∧ (SH Try.prog 69 = some .cell ∧ SH Try.prog 71 = some .cell ∧ SH Try.prog 74 = some (.st [.cell, .cell, .cell]) ∧ SH Try.prog 75 = some (.st [.cell, .cell, .cell]) ∧ SH Try.prog 81 = some (.st [.cell, .cell]) ∧ SH Try.prog 82 = some (.st [.cell, .cell]) ∧ SH Try.prog 83 = some .cell ∧ SH Try.prog 84 = some (.st [.cell, .cell]) ∧ SH Try.prog 85 = some (.st [.cell, .cell]) ∧ SH Try.prog 87 = some .cell ∧ SH Try.prog 92 = some .cell ∧ SH Try.prog 94 = some .cell ∧ SH Try.prog 97 = some .cell ∧ SH Try.prog 98 = some .cell ∧ SH Try.prog 99 = some .cell ∧ SH Try.prog 100 = some .cell ∧ SH Try.prog 101 = some .cell ∧ SH Try.prog 102 = some .cell ∧ SH Try.prog 103 = some .cell ∧ SH Try.prog 104 = some .cell ∧ SH Try.prog 106 = some .cell ∧ SH Try.prog 107 = some .cell ∧ SH Try.prog 108 = some .cell ∧ SH Try.prog 109 = some .cell ∧ SH Try.prog 110 = some .cell ∧ SH Try.prog 111 = some .cell ∧ SH Try.prog 112 = some .cell ∧ SH Try.prog 113 = some .cell ∧ SH Try.prog 114 = some .cell ∧ SH Try.prog 115 = some .cell ∧ SH Try.prog 116 = some .cell ∧ SH Try.prog 118 = some .cell ∧ SH Try.prog 119 = some .cell ∧ SH Try.prog 120 = some .cell ∧ SH Try.prog 127 = some .cell ∧ SH Try.prog 128 = some .cell ∧ SH Try.prog 129 = some .cell ∧ SH Try.prog 130 = some .cell ∧ SH Try.prog 132 = some .cell ∧ SH Try.prog 133 = some .cell) ∧ (SH Try.prog 134 = some .cell ∧ SH Try.prog 135 = some (.st [.cell, .cell]) ∧ SH Try.prog 136 = some (.st [.cell, .cell]) ∧ SH Try.prog 137 = some .cell ∧ SH Try.prog 138 = some .cell ∧ SH Try.prog 139 = some .cell ∧ SH Try.prog 141 = some .cell ∧ SH Try.prog 142 = some .cell ∧ SH Try.prog 144 = some .cell ∧ SH Try.prog 148 = some .cell ∧ SH Try.prog 149 = some .cell ∧ SH Try.prog 151 = some .cell ∧ SH Try.prog 152 = some .cell ∧ SH Try.prog 153 = some .cell ∧ SH Try.prog 154 = some .cell ∧ SH Try.prog 155 = some .cell ∧ SH Try.prog 158 = some .cell ∧ SH Try.prog 159 = some .cell ∧ SH Try.prog 160 = some .cell ∧ SH Try.prog 163 = some .cell ∧ SH Try.prog 168 = some (.st [.cell, .cell, .cell, .cell, .cell, .cell]) ∧ SH Try.prog 169 = some (.st [.cell, .cell, .cell, .cell, .cell, .cell]) ∧ SH Try.prog 171 = some .cell ∧ SH Try.prog 173 = some .cell ∧ SH Try.prog 175 = some .cell ∧ SH Try.prog 176 = some .cell ∧ SH Try.prog 177 = some .cell ∧ SH Try.prog 178 = some .cell ∧ SH Try.prog 180 = some .cell ∧ SH Try.prog 181 = some (.arr 8 .cell) ∧ SH Try.prog 183 = some .cell ∧ SH Try.prog 184 = some .cell ∧ SH Try.prog 185 = some .cell ∧ SH Try.prog 186 = some .cell ∧ SH Try.prog 191 = some .cell ∧ SH Try.prog 199 = some .cell ∧ ZE Try.prog 1 = some (.raw .nilFunc) ∧ ZE Try.prog 2 = some (.int .i64 0) ∧ ZE Try.prog 3 = some (.int .i64 0) ∧ ZE Try.prog 4 = some (.bool false)) ∧ (ZE Try.prog 5 = some (.int .u8 0) ∧ ZE Try.prog 9 = some (.str []) ∧ ZE Try.prog 12 = some (.int .u64 0) ∧ ZE Try.prog 13 = some (.agg [(.str []), (.int .u64 0)]) ∧ ZE Try.prog 20 = some (.raw .nilIface) ∧ ZE Try.prog 21 = some (.int .i32 0) ∧ ZE Try.prog 22 = some (.int .u64 0) ∧ ZE Try.prog 23 = some (.sl none 0) ∧ ZE Try.prog 24 = some (.sl none 0) ∧ ZE Try.prog 25 = some (.sl none 0) ∧ ZE Try.prog 26 = some (.sl none 0) ∧ ZE Try.prog 27 = some (.agg [(.sl none 0), (.sl none 0), (.int .i64 0)]) ∧ ZE Try.prog 28 = some (.agg [(.sl none 0), (.sl none 0), (.int .i64 0)]) ∧ ZE Try.prog 29 = some (.agg [(.int .u64 0), (.int .i64 0), (.int .i64 0), (.int .i64 0), (.sl none 0), (.sl none 0), (.int .i64 0), (.str []), (.sl none 0), (.int .i64 0), (.str []), (.bool false), (.int .u64 0), (.agg [(.sl none 0), (.sl none 0), (.int .i64 0)]), (.sl none 0)]) ∧ ZE Try.prog 30 = some (.agg [(.int .u64 0), (.int .i64 0), (.int .i64 0), (.int .i64 0), (.sl none 0), (.sl none 0), (.int .i64 0), (.str []), (.sl none 0), (.int .i64 0), (.str []), (.bool false), (.int .u64 0), (.agg [(.sl none 0), (.sl none 0), (.int .i64 0)]), (.sl none 0)]) ∧ ZE Try.prog 31 = some (.sl none 0) ∧ ZE Try.prog 32 = some (.int .u32 0) ∧ ZE Try.prog 33 = some (.agg [(.sl none 0), (.str []), (.int .i64 0), (.int .u32 0)]) ∧ ZE Try.prog 34 = some (.agg [(.sl none 0), (.str []), (.int .i64 0), (.int .u32 0)]) ∧ ZE Try.prog 35 = some (.agg [(.int .i64 0), (.int .i64 0), (.int .i64 0)]) ∧ ZE Try.prog 36 = some (.agg [(.int .i64 0), (.int .i64 0), (.int .i64 0)]) ∧ ZE Try.prog 37 = some (.raw .nilFunc) ∧ ZE Try.prog 39 = some (.raw .nilFunc) ∧ ZE Try.prog 40 = some (.int .i64 0) ∧ ZE Try.prog 45 = some (.sl none 0) ∧ ZE Try.prog 48 = some (.raw .nilFunc) ∧ ZE Try.prog 54 = some (.agg (List.replicate 16 (.int .u32 0))) ∧ ZE Try.prog 55 = some (.agg [(.agg (List.replicate 16 (.int .u32 0))), (.int .u32 0)]) ∧ ZE Try.prog 56 = some (.agg [(.agg (List.replicate 16 (.int .u32 0))), (.int .u32 0)]) ∧ ZE Try.prog 57 = some (.agg [(.bool false), (.bool false), (.int .i64 0)]) ∧ ZE Try.prog 58 = some (.agg [(.bool false), (.bool false), (.int .i64 0)]) ∧ ZE Try.prog 59 = some (.agg (List.replicate 16 (.agg [(.bool false), (.bool false), (.int .i64 0)]))) ∧ ZE Try.prog 60 = some (.agg (List.replicate 16 (.agg [(.bool false), (.bool false), (.int .i64 0)]))) ∧ ZE Try.prog 61 = some (.agg (List.replicate 8 (.agg [(.int .i64 0), (.int .i64 0), (.int .i64 0)]))) ∧ ZE Try.prog 62 = some (.agg [(.int .i64 0), (.int .i64 0), (.int .i64 0), (.agg [(.agg (List.replicate 16 (.int .u32 0))), (.int .u32 0)]), (.agg (List.replicate 16 (.agg [(.bool false), (.bool false), (.int .i64 0)]))), (.agg (List.replicate 8 (.agg [(.int .i64 0), (.int .i64 0), (.int .i64 0)]))), (.bool false), (.int .u32 0), (.int .i64 0), (.int .u64 0)]) ∧ ZE Try.prog 63 = some (.agg [(.int .i64 0), (.int .i64 0), (.int .i64 0), (.agg [(.agg (List.replicate 16 (.int .u32 0))), (.int .u32 0)]), (.agg (List.replicate 16 (.agg [(.bool false), (.bool false), (.int .i64 0)]))), (.agg (List.replicate 8 (.agg [(.int .i64 0), (.int .i64 0), (.int .i64 0)]))), (.bool false), (.int .u32 0), (.int .i64 0), (.int .u64 0)]) ∧ ZE Try.prog 69 = some (.sl none 0) ∧ ZE Try.prog 71 = some (.raw .nilFunc) ∧ ZE Try.prog 74 = some (.agg [(.int .i64 0), (.str []), (.bool false)]) ∧ ZE Try.prog 75 = some (.agg [(.int .i64 0), (.str []), (.bool false)])) ∧ (ZE Try.prog 81 = some (.agg [(.int .i64 0), (.str [])]) ∧ ZE Try.prog 82 = some (.agg [(.int .i64 0), (.str [])]) ∧ ZE Try.prog 83 = some (.raw .nilFunc) ∧ ZE Try.prog 84 = some (.agg [(.int .i64 0), (.str [])]) ∧ ZE Try.prog 85 = some (.agg [(.int .i64 0), (.str [])]) ∧ ZE Try.prog 87 = some (.raw (.map none)) ∧ ZE Try.prog 92 = some (.raw .nilFunc) ∧ ZE Try.prog 94 = some (.raw (.pointer none)) ∧ ZE Try.prog 97 = some (.raw .nilFunc) ∧ ZE Try.prog 98 = some (.raw .nilFunc) ∧ ZE Try.prog 99 = some (.raw (.pointer none)) ∧ ZE Try.prog 100 = some (.raw .nilFunc) ∧ ZE Try.prog 101 = some (.raw .nilFunc) ∧ ZE Try.prog 102 = some (.raw (.map none)) ∧ ZE Try.prog 103 = some (.sl none 0) ∧ ZE Try.prog 104 = some (.raw .nilFunc) ∧ ZE Try.prog 106 = some (.raw .nilFunc) ∧ ZE Try.prog 107 = some (.raw .nilFunc) ∧ ZE Try.prog 108 = some (.raw .nilFunc) ∧ ZE Try.prog 109 = some (.raw .nilFunc) ∧ ZE Try.prog 110 = some (.sl none 0) ∧ ZE Try.prog 111 = some (.raw .nilFunc) ∧ ZE Try.prog 112 = some (.raw .nilFunc) ∧ ZE Try.prog 113 = some (.raw .nilFunc) ∧ ZE Try.prog 114 = some (.raw .nilFunc) ∧ ZE Try.prog 115 = some (.raw .nilFunc) ∧ ZE Try.prog 116 = some (.sl none 0) ∧ ZE Try.prog 118 = some (.raw .nilFunc) ∧ ZE Try.prog 119 = some (.raw .nilFunc) ∧ ZE Try.prog 120 = some (.raw .nilFunc) ∧ ZE Try.prog 127 = some (.sl none 0) ∧ ZE Try.prog 128 = some (.sl none 0) ∧ ZE Try.prog 129 = some (.sl none 0) ∧ ZE Try.prog 130 = some (.int .u64 0) ∧ ZE Try.prog 132 = some (.raw .nilFunc) ∧ ZE Try.prog 133 = some (.raw .nilFunc) ∧ ZE Try.prog 134 = some (.raw (.pointer none)) ∧ ZE Try.prog 135 = some (.agg [(.raw (.pointer none)), (.sl none 0)]) ∧ ZE Try.prog 136 = some (.agg [(.raw (.pointer none)), (.sl none 0)]) ∧ ZE Try.prog 137 = some (.raw .nilFunc)) ∧ (ZE Try.prog 138 = some (.raw .nilIface) ∧ ZE Try.prog 139 = some (.raw .nilIface) ∧ ZE Try.prog 141 = some (.raw .nilFunc) ∧ ZE Try.prog 142 = some (.raw .nilFunc) ∧ ZE Try.prog 144 = some (.raw .nilFunc) ∧ ZE Try.prog 148 = some (.raw .nilFunc) ∧ ZE Try.prog 149 = some (.raw .nilFunc) ∧ ZE Try.prog 151 = some (.raw .nilFunc) ∧ ZE Try.prog 152 = some (.raw .nilFunc) ∧ ZE Try.prog 153 = some (.raw .nilFunc) ∧ ZE Try.prog 154 = some (.raw .nilFunc) ∧ ZE Try.prog 155 = some (.raw .nilFunc) ∧ ZE Try.prog 158 = some (.raw .nilFunc) ∧ ZE Try.prog 159 = some (.raw .nilFunc) ∧ ZE Try.prog 160 = some (.raw .nilFunc) ∧ ZE Try.prog 163 = some (.raw .nilFunc) ∧ ZE Try.prog 168 = some (.agg (List.replicate 6 (.int .i64 0))) ∧ ZE Try.prog 169 = some (.agg (List.replicate 6 (.int .i64 0))) ∧ ZE Try.prog 171 = some (.raw .nilFunc) ∧ ZE Try.prog 173 = some (.raw .nilFunc) ∧ ZE Try.prog 175 = some (.raw .nilFunc) ∧ ZE Try.prog 176 = some (.raw (.pointer none)) ∧ ZE Try.prog 177 = some (.raw .nilFunc) ∧ ZE Try.prog 178 = some (.raw .nilFunc) ∧ ZE Try.prog 180 = some (.raw .nilFunc) ∧ ZE Try.prog 181 = some (.agg (List.replicate 8 (.int .u8 0))) ∧ ZE Try.prog 183 = some (.raw .nilFunc) ∧ ZE Try.prog 185 = some (.raw .nilFunc) ∧ ZE Try.prog 186 = some (.raw .nilFunc) ∧ ZE Try.prog 191 = some (.raw .nilFunc) ∧ ZE Try.prog 199 = some (.raw .nilFunc) ∧ EL Try.prog 23 = some 9 ∧ EL Try.prog 24 = some 63 ∧ EL Try.prog 25 = some 82 ∧ EL Try.prog 26 = some 85 ∧ EL Try.prog 31 = some 32 ∧ EL Try.prog 45 = some 3 ∧ EL Try.prog 69 = some 75 ∧ EL Try.prog 103 = some 58 ∧ EL Try.prog 110 = some 36) ∧ (EL Try.prog 116 = some 5 ∧ EL Try.prog 127 = some 23 ∧ EL Try.prog 128 = some 26 ∧ EL Try.prog 129 = some 80 ∧ Try.prog.underlying 2 = some (.int .i64) ∧ Try.prog.underlying 3 = some (.int .i64) ∧ Try.prog.underlying 4 = some .bool ∧ Try.prog.underlying 5 = some (.int .u8) ∧ Try.prog.underlying 9 = some .string ∧ Try.prog.underlying 12 = some (.int .u64) ∧ Try.prog.underlying 21 = some (.int .i32) ∧ Try.prog.underlying 22 = some (.int .u64) ∧ Try.prog.underlying 23 = some (.slice 9) ∧ Try.prog.underlying 24 = some (.slice 63) ∧ Try.prog.underlying 25 = some (.slice 82) ∧ Try.prog.underlying 26 = some (.slice 85) ∧ Try.prog.underlying 31 = some (.slice 32) ∧ Try.prog.underlying 32 = some (.int .u32) ∧ Try.prog.underlying 40 = some (.int .i64) ∧ Try.prog.underlying 45 = some (.slice 3) ∧ Try.prog.underlying 54 = some (.array 16 32) ∧ Try.prog.underlying 59 = some (.array 16 58) ∧ Try.prog.underlying 60 = some (.array 16 58) ∧ Try.prog.underlying 61 = some (.array 8 36) ∧ Try.prog.underlying 69 = some (.slice 75) ∧ Try.prog.underlying 87 = some (.map 3 3) ∧ Try.prog.underlying 94 = some (.pointer 30) ∧ Try.prog.underlying 99 = some (.pointer 63) ∧ Try.prog.underlying 102 = some (.map 3 4) ∧ Try.prog.underlying 103 = some (.slice 58) ∧ Try.prog.underlying 110 = some (.slice 36) ∧ Try.prog.underlying 116 = some (.slice 5) ∧ Try.prog.underlying 127 = some (.slice 23) ∧ Try.prog.underlying 128 = some (.slice 26) ∧ Try.prog.underlying 129 = some (.slice 80) ∧ Try.prog.underlying 130 = some (.int .u64) ∧ Try.prog.underlying 134 = some (.pointer 136) ∧ Try.prog.underlying 176 = some (.pointer 5) ∧ Try.prog.underlying 181 = some (.array 8 5) ∧ BY Try.prog 3 = 8) ∧ (BY Try.prog 5 = 1 ∧ BY Try.prog 9 = 16 ∧ BY Try.prog 23 = 24 ∧ BY Try.prog 26 = 24 ∧ BY Try.prog 32 = 4 ∧ BY Try.prog 36 = 24 ∧ BY Try.prog 58 = 16 ∧ BY Try.prog 63 = 568 ∧ BY Try.prog 75 = 32 ∧ BY Try.prog 82 = 24 ∧ BY Try.prog 85 = 24 ∧ EQT Try.prog 4 = some .bool ∧ EQT Try.prog 35 = some (.st [(.int .i64), (.int .i64), (.int .i64)]) ∧ EQT Try.prog 36 = some (.st [(.int .i64), (.int .i64), (.int .i64)]) ∧ EQT Try.prog 54 = some (.arr 16 (.int .u32)) ∧ EQT Try.prog 55 = some (.st [(.arr 16 (.int .u32)), (.int .u32)]) ∧ EQT Try.prog 56 = some (.st [(.arr 16 (.int .u32)), (.int .u32)]) ∧ EQT Try.prog 57 = some (.st [.bool, .bool, (.int .i64)]) ∧ EQT Try.prog 58 = some (.st [.bool, .bool, (.int .i64)]) ∧ EQT Try.prog 59 = some (.arr 16 (.st [.bool, .bool, (.int .i64)])) ∧ EQT Try.prog 60 = some (.arr 16 (.st [.bool, .bool, (.int .i64)])) ∧ EQT Try.prog 61 = some (.arr 8 (.st [(.int .i64), (.int .i64), (.int .i64)])) ∧ EQT Try.prog 62 = some (.st [(.int .i64), (.int .i64), (.int .i64), (.st [(.arr 16 (.int .u32)), (.int .u32)]), (.arr 16 (.st [.bool, .bool, (.int .i64)])), (.arr 8 (.st [(.int .i64), (.int .i64), (.int .i64)])), .bool, (.int .u32), (.int .i64), (.int .u64)]) ∧ EQT Try.prog 63 = some (.st [(.int .i64), (.int .i64), (.int .i64), (.st [(.arr 16 (.int .u32)), (.int .u32)]), (.arr 16 (.st [.bool, .bool, (.int .i64)])), (.arr 8 (.st [(.int .i64), (.int .i64), (.int .i64)])), .bool, (.int .u32), (.int .i64), (.int .u64)]) ∧ EQT Try.prog 74 = some (.st [(.int .i64), .str, .bool]) ∧ EQT Try.prog 75 = some (.st [(.int .i64), .str, .bool]) ∧ EQT Try.prog 81 = some (.st [(.int .i64), .str]) ∧ EQT Try.prog 82 = some (.st [(.int .i64), .str]) ∧ EQT Try.prog 84 = some (.st [(.int .i64), .str]) ∧ EQT Try.prog 85 = some (.st [(.int .i64), .str]) ∧ EQT Try.prog 168 = some (.st [(.int .i64), (.int .i64), (.int .i64), (.int .i64), (.int .i64), (.int .i64)]) ∧ EQT Try.prog 169 = some (.st [(.int .i64), (.int .i64), (.int .i64), (.int .i64), (.int .i64), (.int .i64)]) ∧ EQT Try.prog 181 = some (.arr 8 (.int .u8)) ∧ callable Try.prog 3 = true ∧ callable Try.prog 4 = true ∧ callable Try.prog 5 = true ∧ callable Try.prog 6 = true ∧ callable Try.prog 7 = true ∧ callable Try.prog 8 = true ∧ callable Try.prog 9 = true) ∧ (callable Try.prog 10 = true ∧ callable Try.prog 11 = true ∧ callable Try.prog 12 = true ∧ callable Try.prog 13 = true ∧ callable Try.prog 14 = true ∧ callable Try.prog 15 = true ∧ callable Try.prog 16 = true ∧ callable Try.prog 17 = true ∧ callable Try.prog 18 = true ∧ callable Try.prog 19 = true ∧ callable Try.prog 20 = true ∧ callable Try.prog 21 = true ∧ callable Try.prog 22 = true ∧ callable Try.prog 23 = true ∧ callable Try.prog 24 = true ∧ callable Try.prog 25 = true ∧ callable Try.prog 26 = true ∧ callable Try.prog 27 = true ∧ callable Try.prog 28 = true ∧ callable Try.prog 29 = true ∧ callable Try.prog 30 = true ∧ callable Try.prog 31 = true ∧ callable Try.prog 32 = true ∧ callable Try.prog 33 = true ∧ callable Try.prog 34 = true ∧ callable Try.prog 35 = true ∧ callable Try.prog 36 = true ∧ callable Try.prog 37 = true ∧ callable Try.prog 38 = true ∧ callable Try.prog 39 = true ∧ callable Try.prog 40 = true ∧ callable Try.prog 41 = true ∧ callable Try.prog 42 = true ∧ callable Try.prog 43 = true ∧ callable Try.prog 44 = true ∧ callable Try.prog 45 = true ∧ callable Try.prog 46 = true ∧ callable Try.prog 47 = true ∧ callable Try.prog 48 = true ∧ callable Try.prog 49 = true) ∧ (callable Try.prog 50 = true ∧ callable Try.prog 51 = true ∧ callable Try.prog 52 = true ∧ callable Try.prog 53 = true ∧ callable Try.prog 54 = true ∧ callable Try.prog 55 = true ∧ callable Try.prog 56 = true ∧ callable Try.prog 57 = true ∧ callable Try.prog 58 = true ∧ callable Try.prog 59 = true ∧ callable Try.prog 60 = true ∧ callable Try.prog 61 = true ∧ callable Try.prog 62 = true ∧ callable Try.prog 63 = true ∧ callable Try.prog 64 = true ∧ callable Try.prog 65 = true ∧ callable Try.prog 66 = true ∧ callable Try.prog 67 = true ∧ callable Try.prog 68 = true ∧ callable Try.prog 69 = true ∧ callable Try.prog 70 = true ∧ callable Try.prog 71 = true ∧ callable Try.prog 72 = true ∧ callable Try.prog 73 = true ∧ callable Try.prog 74 = true ∧ callable Try.prog 75 = true ∧ callable Try.prog 76 = true ∧ callable Try.prog 77 = true ∧ callable Try.prog 78 = true ∧ callable Try.prog 79 = true ∧ callable Try.prog 80 = true ∧ callable Try.prog 81 = true ∧ callable Try.prog 82 = true ∧ callable Try.prog 83 = true ∧ callable Try.prog 84 = true ∧ callable Try.prog 85 = true ∧ callable Try.prog 86 = true ∧ callable Try.prog 87 = true ∧ callable Try.prog 88 = true ∧ callable Try.prog 89 = true) ∧ (callable Try.prog 90 = true ∧ callable Try.prog 91 = true ∧ callable Try.prog 92 = true ∧ callable Try.prog 93 = true ∧ callable Try.prog 94 = true ∧ callable Try.prog 95 = true ∧ callable Try.prog 96 = true ∧ callable Try.prog 97 = true ∧ callable Try.prog 98 = true ∧ callable Try.prog 99 = true ∧ callable Try.prog 100 = true ∧ callable Try.prog 101 = true ∧ callable Try.prog 102 = true ∧ callable Try.prog 103 = true ∧ callable Try.prog 104 = true ∧ callable Try.prog 105 = true ∧ callable Try.prog 106 = true ∧ callable Try.prog 107 = true ∧ callable Try.prog 108 = true ∧ callable Try.prog 109 = true ∧ callable Try.prog 110 = true ∧ callable Try.prog 111 = true ∧ callable Try.prog 112 = true ∧ callable Try.prog 113 = true ∧ callable Try.prog 114 = true ∧ callable Try.prog 115 = true ∧ callable Try.prog 116 = true ∧ callable Try.prog 118 = true ∧ callable Try.prog 119 = true ∧ callable Try.prog 120 = true ∧ callable Try.prog 121 = true ∧ callable Try.prog 122 = true ∧ callable Try.prog 123 = true ∧ callable Try.prog 124 = true ∧ callable Try.prog 125 = true ∧ callable Try.prog 126 = true ∧ callable Try.prog 127 = true ∧ callable Try.prog 128 = true ∧ callable Try.prog 129 = true ∧ callable Try.prog 130 = true) ∧ (callable Try.prog 131 = true ∧ callable Try.prog 132 = true ∧ callable Try.prog 133 = true ∧ callable Try.prog 134 = true ∧ callable Try.prog 135 = true ∧ callable Try.prog 136 = true ∧ callable Try.prog 137 = true ∧ callable Try.prog 138 = true ∧ callable Try.prog 139 = true ∧ callable Try.prog 140 = true ∧ callable Try.prog 141 = true ∧ callable Try.prog 142 = true ∧ callable Try.prog 143 = true ∧ callable Try.prog 146 = true ∧ callable Try.prog 147 = true ∧ callable Try.prog 148 = true ∧ callable Try.prog 149 = true ∧ callable Try.prog 150 = true ∧ MP Try.prog 87 = some ((.int .i64), 3) ∧ MP Try.prog 102 = some ((.int .i64), 4)) := by
  refine ⟨tab_0, tab_1, tab_2, tab_3, tab_4, tab_5, tab_6, tab_7, tab_8, tab_9, tab_10, tab_11⟩
end Go.Proofs.Ytpdhdkpebbfnnaa.V
end
section
namespace Go.Proofs.Ytpdhdkpebbfnnaa.V
open Go

section
variable (H : Heap)
theorem rdt_t (vs ds : List VV) : RdT H (.tup vs) (.tup ds) = RdL H vs ds := by
  apply propext
  constructor
  · rintro ⟨ds', h, h'⟩
    injection h with h
    subst h
    exact h'
  · intro h
    exact ⟨ds, rfl, h⟩
theorem rdt_i (k : IntKind) (a b : Int) : RdT H (.int k a) (.int k b) = (a = b) := by simp [RdT, Rd, nl, eq_comm]
theorem rdt_b (a b : Bool) : RdT H (.bool a) (.bool b) = (a = b) := by simp [RdT, Rd, nl, eq_comm]
theorem rdt_s (a b : List UInt8) : RdT H (.str a) (.str b) = (a = b) := by simp [RdT, Rd, nl, eq_comm]
theorem rdt_a (vs ds : List VV) : RdT H (.agg vs) (.agg ds) = RdL H vs ds := by
  apply propext
  simp only [RdT,Rd]
  constructor
  · rintro ⟨ds', h, h'⟩
    injection h with h
    subst h
    exact h'
  · intro h
    exact ⟨ds, rfl, h⟩
theorem rd_i (k : IntKind) (a b : Int) : Rd H (.int k a) (.int k b) = (a = b) := by simp [Rd, nl, eq_comm]
theorem rd_b (a b : Bool) : Rd H (.bool a) (.bool b) = (a = b) := by simp [Rd, nl, eq_comm]
theorem rd_s (a b : List UInt8) : Rd H (.str a) (.str b) = (a = b) := by simp [Rd, nl, eq_comm]
theorem rd_a (vs ds : List VV) : Rd H (.agg vs) (.agg ds) = RdL H vs ds := by
  apply propext
  simp only [Rd]
  constructor
  · rintro ⟨ds', h, h'⟩
    injection h with h
    subst h
    exact h'
  · intro h
    exact ⟨ds, rfl, h⟩
theorem rdl_c (v d : VV) (vs ds : List VV) : RdL H (v :: vs) (d :: ds) = (Rd H v d ∧ RdL H vs ds) := by
  apply propext
  simp only [RdL]
  constructor
  · rintro ⟨d', ds', h, h1, h2⟩
    injection h with h h'
    subst h h'
    exact ⟨h1, h2⟩
  · rintro ⟨h1, h2⟩
    exact ⟨d, ds, rfl, h1, h2⟩
theorem rdl_n : RdL H [] [] = True := by simp [RdL]
end
theorem rd_own {H : Heap} {m k : Nat} {e : Sh} {els els' : List VV} {n : Nat} (h : H m = some (.row (.arr k e) (.agg els))) (hn : n = els.length) (he : els = els') (hl : nls els' = true) : Rd H (.sl (some (m, [], 0)) n) (.dat e els') := by
  subst he; exact rd_row h hn hl
theorem rd_nil {H : Heap} {e : Sh} : Rd H (.sl none 0) (.dat e []) := by simp only [Rd]; exact .inr ⟨trivial, e, rfl⟩
theorem rdt_of {H : Heap} {v d : VV} (h : Rd H v d) (hv : notTup v = true) : RdT H v d := by
  cases v <;> first | exact h | simp [notTup] at hv
theorem je {l : List VV} (h : nls l = true) : nls l = true := h
theorem nls_nil : nls [] = true := rfl
theorem nls_cons (v : VV) (l : List VV) : nls (v :: l) = (nl v && nls l) := rfl
theorem nls_append : ∀ (a b : List VV), nls (a ++ b) = (nls a && nls b)
  | [], b => by simp [nls]
  | v :: a, b => by simp [nls, nls_append a b, Bool.and_assoc]
theorem nls_mapStr (l : List (List UInt8)) : nls (l.map .str) = true := nls_map _ (fun _ => rfl) l
theorem nls_mapB (l : List UInt8) : nls (l.map encB) = true := nls_map _ (fun _ => rfl) l
theorem nls_rep {n : Nat} {v : VV} (hv : nl v = true) : nls (List.replicate n v) = true := by
  rw [nls_iff]
  intro x hx
  rw [(List.mem_replicate.1 hx).2]; exact hv
theorem nls_repInt (n : Nat) (k : IntKind) (a : Int) : nls (List.replicate n (.int k a)) = true := nls_rep rfl
theorem nls_repBool (n : Nat) (a : Bool) : nls (List.replicate n (.bool a)) = true := nls_rep rfl
theorem nls_repStr (n : Nat) (a : List UInt8) : nls (List.replicate n (.str a)) = true := nls_rep rfl
theorem some_nat (a b : Nat) : (some a = some b) = (a = b) := by simp
theorem nl_slnil (n : Nat) : nl (.sl none n) = true := rfl
theorem nl_int (k : IntKind) (a : Int) : nl (.int k a) = true := rfl
theorem nl_bool (a : Bool) : nl (.bool a) = true := rfl
theorem nl_str (a : List UInt8) : nl (.str a) = true := rfl
theorem nl_agg (l : List VV) : nl (.agg l) = nls l := by simp only [nl]
theorem nl_dat (s : Sh) (l : List VV) : nl (.dat s l) = nls l := by simp only [nl]
theorem has_str (s : List UInt8) : Has .cell (.str s) := by simp [Has, VV.leaf]
theorem has_int (k : IntKind) (s : Int) : Has .cell (.int k s) := by simp [Has, VV.leaf]
theorem has_bool (s : Bool) : Has .cell (.bool s) := by simp [Has, VV.leaf]
theorem has_sl (p : Option (Nat × List Nat × Nat)) (n : Nat) : Has .cell (.sl p n) := by simp [Has, VV.leaf]
theorem has_dat (s : Sh) (l : List VV) : Has .cell (.dat s l) := by simp [Has, VV.leaf]
theorem has_ptr (m : Nat) (p : List Nat) : Has .cell (.ptr m p) := by simp [Has, VV.leaf]
theorem has_fn (f : FuncId) (c : List VV) : Has .cell (.fn f c) := by simp [Has, VV.leaf]
theorem has_map (m : Nat) : Has .cell (.map m) := by simp [Has, VV.leaf]
theorem has_pd (s : Sh) (v : VV) : Has .cell (.pd s v) := by simp [Has, VV.leaf]
theorem has_st (ls : List Sh) (vs : List VV) : Has (.st ls) (.agg vs) = HasL ls vs := by simp only [Has]
theorem hasl_c (s : Sh) (ls : List Sh) (v : VV) (vs : List VV) : HasL (s :: ls) (v :: vs) = (Has s v ∧ HasL ls vs) := by simp only [HasL]
theorem hasl_n : HasL [] [] = True := by simp [HasL]
theorem has_arr {s : Sh} {n : Nat} {l : List VV} (h1 : l.length = n) (h2 : ∀ v ∈ l, Has s v) : Has (.arr n s) (.agg l) := by simp only [Has]; exact ⟨h1, h2⟩
theorem has_arrMap {α : Type} {s : Sh} {n : Nat} {l : List α} {f : α → VV} (h1 : l.length = n) (h2 : ∀ x, Has s (f x)) : Has (.arr n s) (.agg (l.map f)) := has_arr (by simp [h1]) fun v hv => by
  obtain ⟨x, _, rfl⟩ := List.mem_map.1 hv
  exact h2 x
theorem ite_min (a b : Int) : (if b < a then b else a) = min a b := by split <;> omega
theorem ite_max (a b : Int) : (if a < b then b else a) = max a b := by split <;> omega
theorem ex_arr (n : Nat) (s : Sh) : (∃ j, some (Sh.arr n s) = some (Sh.arr j s)) = True := eq_true ⟨n, rfl⟩
theorem default_str : (default : List UInt8) = [] := rfl
theorem default_u8 : (default : UInt8) = 0 := rfl
theorem rep_one {α : Type} (a : α) : List.replicate 1 a = [a] := rfl
theorem rep_two {α : Type} (a : α) : List.replicate 2 a = [a, a] := rfl
theorem rep_three {α : Type} (a : α) : List.replicate 3 a = [a, a, a] := rfl
theorem bytes_one (b : UInt8) : bytesOf [VV.int .u8 (b.toNat : Int)] = some [b] := bytesOf_enc [b]
theorem bytes_two (a b : UInt8) : bytesOf [VV.int .u8 (a.toNat : Int), VV.int .u8 (b.toNat : Int)] = some [a, b] := bytesOf_enc [a, b]
theorem allm_cons {α : Type} (p : α → Prop) (x : α) (l : List α) : (∀ c, c ∈ x :: l → p c) = (p x ∧ ∀ c, c ∈ l → p c) := by simp
theorem allm_nil {α : Type} (p : α → Prop) : (∀ c, c ∈ ([] : List α) → p c) = True := by simp
theorem leaf_ptr (m : Nat) (p : List Nat) : (VV.ptr m p).leaf = true := rfl
theorem leaf_int (k : IntKind) (n : Int) : (VV.int k n).leaf = true := rfl
theorem leaf_str (s : List UInt8) : (VV.str s).leaf = true := rfl
theorem leaf_bool (s : Bool) : (VV.bool s).leaf = true := rfl
theorem leaf_sl (p : Option (Nat × List Nat × Nat)) (n : Nat) : (VV.sl p n).leaf = true := rfl
theorem leaf_dat (s : Sh) (l : List VV) : (VV.dat s l).leaf = true := rfl
theorem leaf_fn (f : FuncId) (l : List VV) : (VV.fn f l).leaf = true := rfl
theorem leaf_map (m : Nat) : (VV.map m).leaf = true := rfl
theorem take_lenMap {α β : Type} (f : α → β) (l : List α) : List.take l.length (l.map f) = l.map f := List.take_of_length_le (by simp)
theorem veq_bool (a b : Bool) : veq (.bool a) (.bool b) = (a == b) := by simp only [veq]
theorem fit_bool (a : Bool) : Fit .bool (.bool a) = True := by simp only [Fit]
theorem dvalid (a b : Int) (h : 0 ≤ a) : a.tdiv b = a / b := Int.tdiv_eq_ediv_of_nonneg h
theorem mvalid (a b : Int) (h : 0 ≤ a) : a.tmod b = a % b := Int.tmod_eq_emod_of_nonneg h
section
variable {n0 : Nat} {σ : List (Nat × Nat)} {H : Heap} {fz : Bool} {tm : Nat → VV}
theorem jL {m : Nat} (h : (σ.map (·.1)).contains m = true) : known n0 σ m := .inr (by simpa using h)
theorem jM {m : Nat} (h : decide (m < n0) = true) : known n0 σ m := .inl (by simpa using h)
theorem jF : AllS n0 σ H fz tm [] := trivial
theorem jE {k : Nat} {v : VV} {l : List (Nat × VV)} (h : MR n0 σ H fz (tm k) v) (h' : AllS n0 σ H fz tm l) : AllS n0 σ H fz tm ((k, v) :: l) := ⟨h, h'⟩
theorem jG : AllB n0 σ H fz [] := trivial
theorem jH {k : Nat} {b0 b : Blk} {l : List (Nat × Blk)} (hk : known n0 σ k) (h : H (turn σ k) = some b0) (hm : MB n0 σ H fz b0 b) (h' : AllB n0 σ H fz l) : AllB n0 σ H fz ((k, b) :: l) := ⟨fun _ => ⟨b0, h, hm⟩, h'⟩
theorem jK {k : Nat} {b : Blk} {l : List (Nat × Blk)} (hk : (decide (k < n0) || (σ.map (·.1)).contains k) = false) (h' : AllB n0 σ H fz l) : AllB n0 σ H fz ((k, b) :: l) := by
  refine ⟨fun hn => ?_, h'⟩
  simp only [Bool.or_eq_false_iff,decide_eq_false_iff_not] at hk
  rcases hn with hn | hn
  · exact absurd hn hk.1
  · have : (σ.map (·.1)).contains k = true := by simpa using hn
    rw [hk.2] at this; cases this
theorem ju {k : IntKind} {a b : Int} (h : a = b) : MR n0 σ H fz (.int k a) (.int k b) := by subst h; exact .data _ rfl
theorem jw {a b : Bool} (h : a = b) : MR n0 σ H fz (.bool a) (.bool b) := by subst h; exact .data _ rfl
theorem jv {a b : List UInt8} (h : a = b) : MR n0 σ H fz (.str a) (.str b) := by subst h; exact .data _ rfl
theorem jx {s : Sh} {a b : List VV} (h : a = b) (hn : nls b = true) : MR n0 σ H fz (.dat s a) (.dat s b) := by subst h; exact .data _ (by simpa only [nl] using hn)
theorem jz {n : Nat} : MR n0 σ H fz (.sl none n) (.sl none n) := .data _ rfl
theorem jA {m : Nat} {p : List Nat} {i n : Nat} (h : 0 = n) : MR n0 σ H fz (.sl none 0) (.sl (some (m, p, i)) n) := by subst h; exact .empty
theorem jI {n n' : Nat} {e : Sh} {u v : VV} (hn : n = n') (h : MR n0 σ H fz u v) : MB n0 σ H fz (.row (.arr n e) u) (.row (.arr n' e) v) := by subst hn; exact .row h
theorem jy {v : Value} : MR n0 σ H fz (.raw v) (.raw v) := .data _ rfl
theorem jC {a b : List VV} (h : a = b) (hn : nls b = true) : MR n0 σ H fz (.agg a) (.agg b) := by subst h; exact .data _ (by simpa only [nl] using hn)
theorem jD {m m' : Nat} {p : List Nat} {i n n' : Nat} (h : known n0 σ m') (h' : turn σ m' = m) (hn : n = n') : MR n0 σ H fz (.sl (some (m, p, i)) n) (.sl (some (m', p, i)) n') := by subst hn; exact .sl h h'
theorem jB {m k n : Nat} {e : Sh} {els els' : List VV} (h : fz = true) (h1 : H m = some (.row (.arr k e) (.agg els))) (h2 : n = els.length) (he : els = els') (h3 : nls els' = true) (h4 : m ∉ σ.map (·.2)) : MR n0 σ H fz (.sl (some (m, [], 0)) n) (.dat e els') := by
  subst he; exact .row h h1 h2 h3 h4
end
theorem map_getD {α : Type} [Inhabited α] (f : α → VV) (l : List α) (i : Nat) (h : i < l.length) : (l.map f)[i]? = some (f (l.getD i default)) := by simp [h]
theorem rep_get {v : VV} {n i : Nat} (h : i < n) : (List.replicate n v)[i]? = some v := by simp [h]
end Go.Proofs.Ytpdhdkpebbfnnaa.V
end
section
namespace Go.Proofs.Ytpdhdkpebbfnnaa.V
open Go Go.RowKit
def jt :=
  And.intro @s_nil <|
  And.intro @s_cons <|
  And.intro @s_guard <|
  And.intro @r_tmp <|
  And.intro @r_cell <|
  And.intro @vop.eq_1 <|
  And.intro @vBox.eq_1 <|
  And.intro @vPick.eq_1 <|
  And.intro @vLoad.eq_1 <|
  And.intro @vStore.eq_1 <|
  And.intro @vNilCheck.eq_1 <|
  And.intro @vBin.eq_1 <|
  And.intro @vBinX.eq_1 <|
  And.intro @vBinH.eq_1 <|
  And.intro @vMax.eq_1 <|
  And.intro @vArrPtr.eq_1 <|
  And.intro @vEq.eq_1 <|
  And.intro @vEq.eq_2 <|
  And.intro @vEq.eq_3 <|
  And.intro @vNil.eq_1 <|
  And.intro @vNil.eq_2 <|
  And.intro @vNil.eq_3 <|
  And.intro @vNil.eq_4 <|
  And.intro @vNil.eq_5 <|
  And.intro @vNil.eq_6 <|
  And.intro @vNil.eq_7 <|
  And.intro @vEither_w <|
  And.intro @vbin.eq_1 <|
  And.intro @vbin.eq_2 <|
  And.intro @vbin.eq_3 <|
  And.intro @vbin.eq_4 <|
  And.intro @vbin.eq_5 <|
  And.intro @vbin.eq_6 <|
  And.intro @vbin.eq_7 <|
  And.intro @vbin.eq_8 <|
  And.intro @vbin.eq_9 <|
  And.intro @vbin.eq_10 <|
  And.intro @vbin.eq_11 <|
  And.intro @vbin.eq_12 <|
  And.intro @vbin.eq_13 <|
  And.intro @vbin.eq_14 <|
  And.intro @vbin.eq_15 <|
  And.intro @vbin.eq_16 <|
  And.intro @vbin.eq_17 <|
  And.intro @vbin.eq_18 <|
  And.intro @vbin.eq_19 <|
  And.intro @vUn.eq_1 <|
  And.intro @vField.eq_1 <|
  And.intro @vConv.eq_1 <|
  And.intro @vConvert.eq_1 <|
  And.intro @vToStr.eq_1 <|
  And.intro @vToBytes.eq_1 <|
  And.intro @vIndexAddr.eq_1 <|
  And.intro @vFieldAddr.eq_1 <|
  And.intro @vIndex.eq_1 <|
  And.intro @vExtract.eq_1 <|
  And.intro @vAlloc.eq_1 <|
  And.intro @vBuild.eq_1 <|
  And.intro @vBuildSlice.eq_1 <|
  And.intro @vMakeSlice.eq_1 <|
  And.intro @vSlice.eq_1 <|
  And.intro @lohi.eq_1 <|
  And.intro @lohi.eq_2 <|
  And.intro @lohi.eq_3 <|
  And.intro @lohi.eq_4 <|
  And.intro @vAppend.eq_1 <|
  And.intro @srcOf.eq_1 <|
  And.intro @vCall.eq_1 <|
  And.intro @vBuiltin.eq_1 <|
  And.intro @vBuiltin.eq_2 <|
  And.intro @vBuiltin.eq_3 <|
  And.intro @vBuiltin.eq_4 <|
  And.intro @vBuiltin.eq_5 <|
  And.intro @vBuiltin.eq_6 <|
  And.intro @vBuiltin.eq_7 <|
  And.intro @vLenM.eq_1 <|
  And.intro @vLen.eq_1 <|
  And.intro @vClear.eq_1 <|
  And.intro @vCopy.eq_1 <|
  And.intro @vSplice.eq_1 <|
  And.intro @vMin.eq_1 <|
  And.intro @vMakeFunc.eq_1 <|
  And.intro @vMakeMap.eq_1 <|
  And.intro @vLookup.eq_1 <|
  And.intro @vMapUpdate.eq_1 <|
  And.intro @onV_w <|
  And.intro @bnd_w <|
  And.intro @cnd_w <|
  And.intro @vif_w <|
  And.intro @vcall_w <|
  And.intro @vres.eq_1 <|
  And.intro @vresL.eq_1 <|
  And.intro @vresL.eq_2 <|
  And.intro @h_nil <|
  And.intro @h_cons <|
  And.intro @h_guard <|
  And.intro @vopH.eq_1 <|
  And.intro @vCallH.eq_1 <|
  And.intro @vAppendH.eq_1 <|
  And.intro @vAppendF.eq_1 <|
  And.intro @vBuildSliceH.eq_1 <|
  And.intro @vcallH_w <|
  And.intro @allm_cons <|
  And.intro @allm_nil <| True.intro
def zvs :=
  And.intro @argsF.eq_1 <|
  And.intro @argsF.eq_2 <|
  And.intro @some_nat <|
  And.intro @untup.eq_1 <|
  And.intro @untup.eq_2 <|
  And.intro @isStrV.eq_1 <|
  And.intro @isStrV.eq_2 <|
  And.intro @keyV.eq_1 <|
  And.intro @keyV.eq_2 <|
  And.intro @keyV.eq_3 <|
  And.intro @keyV.eq_4 <|
  And.intro @bndW_some <|
  And.intro @cndW_true <|
  And.intro @vifW_true <|
  And.intro @vifW_false <|
  And.intro @onW_int <|
  And.intro @onW_bool <|
  And.intro @onW_str <|
  And.intro @onW_agg <|
  And.intro @onW_tup <|
  And.intro @onW_sl <|
  And.intro @onW_ptr <|
  And.intro @onW_fn <|
  And.intro @onW_map <|
  And.intro @onW_dat <|
  And.intro @onW_pd <|
  And.intro @onW_raw <|
  And.intro @ev.eq_1 <|
  And.intro @ev.eq_2 <|
  And.intro @ev.eq_3 <|
  And.intro @ev.eq_4 <|
  And.intro @ofV.eq_1 <|
  And.intro @ofV.eq_2 <|
  And.intro @ofV.eq_3 <|
  And.intro @ofV.eq_4 <|
  And.intro @ofV.eq_5 <|
  And.intro @ofV.eq_6 <|
  And.intro @ofV.eq_7 <|
  And.intro @ofV.eq_8 <|
  And.intro @ofV.eq_9 <|
  And.intro @ofV.eq_10 <|
  And.intro @put.eq_1 <|
  And.intro @put.eq_2 <|
  And.intro @upd_ap <|
  And.intro @dstAt.eq_1 <|
  And.intro @dstAt.eq_2 <|
  And.intro @dstAt.eq_3 <|
  And.intro @Bool.not_true <|
  And.intro @Bool.not_false <|
  And.intro @true_and <|
  And.intro @and_true <|
  And.intro @Bool.true_beq <|
  And.intro @Bool.false_beq <|
  And.intro @beq_true <|
  And.intro @beq_false <|
  And.intro @BEq.rfl.{0} <|
  And.intro @if_true.{1} <|
  And.intro @if_false.{1} <|
  And.intro @get_nil <|
  And.intro @get_cons <|
  And.intro @set_nil <|
  And.intro @set_cons <|
  And.intro @at_nil <|
  And.intro @at_st <|
  And.intro @at_arr <|
  And.intro @List.getElem?_toArray.{0} <|
  And.intro @List.getElem?_cons_zero.{0} <|
  And.intro @List.getElem?_cons_succ.{0} <|
  And.intro @List.map_cons.{0,0} <|
  And.intro @List.map_nil.{0,0} <|
  And.intro @Option.map_some.{0,0} <|
  And.intro @Option.map_none.{0,0} <|
  And.intro @List.set_cons_zero.{0} <|
  And.intro @List.set_cons_succ.{0} <|
  And.intro @List.nil_append.{0} <|
  And.intro @List.cons_append.{0} <|
  And.intro @List.append_nil.{0} <|
  And.intro @setParts.eq_1 <|
  And.intro @setParts.eq_2 <|
  And.intro @HasParts.eq_1 <|
  And.intro @HasParts.eq_2 <|
  And.intro @List.length_map.{0,0} <|
  And.intro @List.length_append.{0} <|
  And.intro @List.length_replicate.{0} <|
  And.intro @List.length_set.{0} <|
  And.intro @List.length_cons.{0} <|
  And.intro @List.length_nil.{0} <|
  And.intro @List.length_take.{0} <|
  And.intro @List.length_drop.{0} <|
  And.intro @Nat.zero_le <|
  And.intro @List.take_succ_cons.{0} <|
  And.intro @List.take_zero.{0} <|
  And.intro @List.drop_succ_cons.{0} <|
  And.intro @List.drop_zero.{0} <|
  And.intro @List.take_nil.{0} <|
  And.intro @List.drop_nil.{0} <|
  And.intro @Nat.le_refl <|
  And.intro @slots_cons <|
  And.intro @slots_nil <|
  And.intro @rows_cons <|
  And.intro @rows_nil <|
  And.intro @List.all_cons.{0} <|
  And.intro @List.all_nil.{0} <|
  And.intro @notTup.eq_1 <|
  And.intro @notTup.eq_2 <|
  And.intro @Bool.and_self <|
  And.intro @Bool.and_true <|
  And.intro @Bool.true_and <|
  And.intro @has_str <|
  And.intro @has_int <|
  And.intro @has_bool <|
  And.intro @has_sl <|
  And.intro @has_dat <|
  And.intro @has_ptr <|
  And.intro @has_fn <|
  And.intro @has_map <|
  And.intro @has_pd <|
  And.intro @has_st <|
  And.intro @hasl_c <|
  And.intro @hasl_n <|
  And.intro @Sh.size.eq_1 <|
  And.intro @Sh.size.eq_2 <|
  And.intro @Sh.size.eq_3 <|
  And.intro @Sh.sizes.eq_1 <|
  And.intro @Sh.sizes.eq_2 <|
  And.intro @ne_eq.{1} <|
  And.intro @not_false_eq_true <|
  And.intro @decide_true <|
  And.intro @decide_false <|
  And.intro @Bool.not_not <|
  And.intro @Int.toNat_natCast <|
  And.intro @ite_min <|
  And.intro @ite_max <|
  And.intro @ex_arr <|
  And.intro @Nat.sub_zero <|
  And.intro @Nat.add_zero <|
  And.intro @Nat.zero_add <|
  And.intro @default_str <|
  And.intro @default_u8 <|
  And.intro @List.size_toArray.{0} <|
  And.intro @eq_self.{1} <|
  And.intro @List.replicate_zero.{0} <|
  And.intro @rep_one <|
  And.intro @rep_two <|
  And.intro @rep_three <|
  And.intro @bytes_one <|
  And.intro @bytes_two <|
  And.intro @bytesOf_enc <|
  And.intro @leaf_ptr <|
  And.intro @leaf_int <|
  And.intro @leaf_str <|
  And.intro @leaf_bool <|
  And.intro @leaf_sl <|
  And.intro @leaf_dat <|
  And.intro @leaf_fn <|
  And.intro @leaf_map <|
  And.intro @take_lenMap <|
  And.intro @List.take_length.{0} <|
  And.intro @veq_bool <|
  And.intro @fit_bool <| True.intro
def zhb :=
  And.intro @Go.IntWalk.i64_in <|
  And.intro @Go.IntWalk.i32_in <|
  And.intro @Go.IntWalk.u8_in <|
  And.intro @Go.IntWalk.u64_in <|
  And.intro @Go.IntWalk.u32_in <|
  And.intro @Go.IntWalk.u16_in <|
  And.intro @dvalid <|
  And.intro @mvalid <|
  And.intro @decide_eq_true_eq <|
  And.intro @decide_eq_false_iff_not <|
  And.intro @beq_iff_eq.{0} <|
  And.intro @bne_iff_ne.{0} <|
  And.intro @beq_eq_false_iff_ne.{0} <|
  And.intro @bne_eq_false_iff_eq.{0} <|
  And.intro @ne_eq.{1} <|
  And.intro @Decidable.not_not <|
  And.intro @Bool.not_eq_true' <|
  And.intro @Bool.not_eq_false' <|
  And.intro @Int.not_lt <|
  And.intro @Int.not_le <|
  And.intro @ge_iff_le.{0} <|
  And.intro @gt_iff_lt.{0} <|
  And.intro @List.length_map.{0,0} <|
  And.intro @not_true_eq_false <|
  And.intro @not_false_eq_true <|
  And.intro @Bool.not_true <|
  And.intro @Bool.not_false <|
  And.intro @Bool.true_eq_false <|
  And.intro @Bool.false_eq_true <| True.intro
def zlk :=
  And.intro @ev.eq_1 <|
  And.intro @ev.eq_2 <|
  And.intro @ev.eq_3 <|
  And.intro @ev.eq_4 <|
  And.intro @ofV.eq_1 <|
  And.intro @ofV.eq_2 <|
  And.intro @ofV.eq_3 <|
  And.intro @ofV.eq_4 <|
  And.intro @ofV.eq_5 <|
  And.intro @ofV.eq_6 <|
  And.intro @ofV.eq_7 <|
  And.intro @ofV.eq_8 <|
  And.intro @ofV.eq_9 <|
  And.intro @ofV.eq_10 <|
  And.intro @put.eq_1 <|
  And.intro @put.eq_2 <|
  And.intro @argsF.eq_1 <|
  And.intro @argsF.eq_2 <|
  And.intro @upd_ap <|
  And.intro @slots_cons <|
  And.intro @slots_nil <|
  And.intro @rows_cons <|
  And.intro @rows_nil <|
  And.intro @turn_cons <|
  And.intro @turn_nil <|
  And.intro @if_true.{1} <|
  And.intro @if_false.{1} <| True.intro
def znl :=
  And.intro @nl_slnil <|
  And.intro @nls_append <|
  And.intro @nls_mapB <|
  And.intro @nls_mapStr <|
  And.intro @nls_repInt <|
  And.intro @nls_repBool <|
  And.intro @nls_repStr <|
  And.intro @nls_cons <|
  And.intro @nls_nil <|
  And.intro @nl_int <|
  And.intro @nl_bool <|
  And.intro @nl_str <|
  And.intro @nl_agg <|
  And.intro @nl_dat <|
  And.intro @Bool.and_self <|
  And.intro @Bool.and_true <| True.intro
def ziw :=
  And.intro @Go.IntWalk.i64_in <|
  And.intro @Go.IntWalk.i32_in <|
  And.intro @Go.IntWalk.u8_in <|
  And.intro @Go.IntWalk.u64_in <|
  And.intro @Go.IntWalk.u32_in <|
  And.intro @Go.IntWalk.u16_in <|
  And.intro @dvalid <|
  And.intro @mvalid <|
  And.intro @map_getD <|
  And.intro @rep_get <| True.intro
def zrds :=
  And.intro @rdt_t <|
  And.intro @rdt_i <|
  And.intro @rdt_b <|
  And.intro @rdt_s <|
  And.intro @rdt_a <|
  And.intro @rd_i <|
  And.intro @rd_b <|
  And.intro @rd_s <|
  And.intro @rd_a <|
  And.intro @rdl_c <|
  And.intro @rdl_n <|
  And.intro @and_true <|
  And.intro @true_and <| True.intro
inductive Rl : Prop → Prop → Prop
  | seq {P : Program} {n0 : Nat} {x y : Code} {S : VS} {K : VX → VS → Prop} : Rl (Ok P n0 x S (VX.seq (fun S' => Ok P n0 y S' K) K)) (Ok P n0 (.seq x y) S K)
  | s1 {N : VS → Prop} {K : VX → VS → Prop} {S : VS} : Rl (N S) (VX.seq N K .normal S)
  | s2 {N : VS → Prop} {K : VX → VS → Prop} {S : VS} {i : Nat} : Rl (K (.exit i) S) (VX.seq N K (.exit i) S)
  | s3 {N : VS → Prop} {K : VX → VS → Prop} {S : VS} : Rl (K .ret S) (VX.seq N K .ret S)
  | b1 {i : Nat} {K : VX → VS → Prop} {S : VS} : Rl (K .normal S) (VX.block i K .normal S)
  | b2 {i : Nat} {K : VX → VS → Prop} {S : VS} : Rl (K .normal S) (VX.block i K (.exit i) S)
  | b4 {i : Nat} {K : VX → VS → Prop} {S : VS} : Rl (K .ret S) (VX.block i K .ret S)
  | l2 {α : Type} {n0 : Nat} {fr : α → VS} {I : α → Prop} {μ : α → Nat} {m : Nat} {K : VX → VS → Prop} {S : VS} {i : Nat} : Rl (K (.exit i) S) (LX n0 fr I μ m K (.exit i) S)
  | l3 {α : Type} {n0 : Nat} {fr : α → VS} {I : α → Prop} {μ : α → Nat} {m : Nat} {K : VX → VS → Prop} {S : VS} : Rl (K .ret S) (LX n0 fr I μ m K .ret S)
  | c2 {α : Type} {n0 : Nat} {fr : α → VS} {I : α → Prop} {K : VX → VS → Prop} {S : VS} {i : Nat} : Rl (K (.exit i) S) (CX n0 fr I K (.exit i) S)
  | c3 {α : Type} {n0 : Nat} {fr : α → VS} {I : α → Prop} {K : VX → VS → Prop} {S : VS} : Rl (K .ret S) (CX n0 fr I K .ret S)
  | block {P : Program} {n0 id : Nat} {c : Code} {S : VS} {K : VX → VS → Prop} : Rl (Ok P n0 c S (VX.block id K)) (Ok P n0 (.block id c) S K)
  | scope {P : Program} {n0 : Nat} {c : Code} {S : VS} {K : VX → VS → Prop} : Rl (Ok P n0 c S K) (Ok P n0 (.scope c) S K)
  | skip {P : Program} {n0 : Nat} {S : VS} {K : VX → VS → Prop} : Rl (K .normal S) (Ok P n0 .skip S K)
  | label {P : Program} {n0 l : Nat} {S : VS} {K : VX → VS → Prop} : Rl (K .normal S) (Ok P n0 (.label l) S K)
  | exit {P : Program} {n0 i : Nat} {S : VS} {K : VX → VS → Prop} : Rl (K (.exit i) S) (Ok P n0 (.exit i) S K)
  | ret {P : Program} {n0 : Nat} {S : VS} {K : VX → VS → Prop} : Rl (K .ret S) (Ok P n0 .ret S K)
  | t {A B : Prop} : Rl A (vif true A B)
  | f {A B : Prop} : Rl B (vif false A B)
  | en {P : Program} {rs : List ResultVar} {k : VV → Heap → Nat → Prop} {tm : Nat → VV} {H : Heap} {n : Nat} : Rl (vres P ⟨tm, H, n⟩ rs fun v => k v H n) (fin P rs k .normal ⟨tm, H, n⟩)
  | er {P : Program} {rs : List ResultVar} {k : VV → Heap → Nat → Prop} {tm : Nat → VV} {H : Heap} {n : Nat} : Rl (vres P ⟨tm, H, n⟩ rs fun v => k v H n) (fin P rs k .ret ⟨tm, H, n⟩)
theorem yrl {a b : Prop} (h : Rl a b) (h' : a) : b := by
  cases h with
  | seq => exact jr h'
  | s1 => exact h'
  | s2 => exact h'
  | s3 => exact h'
  | b1 => exact h'
  | b2 => exact xb2 h'
  | b4 => exact h'
  | l2 => exact h'
  | l3 => exact h'
  | c2 => exact h'
  | c3 => exact h'
  | block => exact jl h'
  | scope => exact jm h'
  | skip => exact jn h'
  | label => exact jo h'
  | exit => exact jp h'
  | ret => exact jq h'
  | t => exact vif_t h'
  | f => exact vif_f h'
  | en => exact h'
  | er => exact h'
theorem yqa {P : Program} {f : FuncId} {args : List VV} {H : Heap} {n : Nat} {K : VV → Heap → Nat → Prop} {t : Tag H} {t' : Tag K} {r : VV} (h : Spec P f args r) (hn : nls args = true) (hk : K r H n) (ht : args.all notTup = true := by with_unfolding_all rfl) : vcallW P H K t t' f args n := ja (jc h hn ht hk)
theorem yqb {P : Program} {f : FuncId} {args : List VV} {H : Heap} {n : Nat} {K : VV → Heap → Nat → Prop} {t : Tag H} {t' : Tag K} {r : VV} (h : Spec P f args r) (hn : nls args = true) (hk : K r H n) (ht : args.all notTup = true := by with_unfolding_all rfl) : vcallHW P H K t t' f args n := jb (jd h ht hn) hk
section
variable {n0 : Nat} {σ : List (Nat × Nat)} {H : Heap} {fz : Bool} {tm : Nat → VV}
theorem ya1 {k : IntKind} {a b : Int} (h : a = b := by first | rfl | omega) : MR n0 σ H fz (.int k a) (.int k b) := ju h
theorem ya2 {a b : List UInt8} (h : a = b := by rfl) : MR n0 σ H fz (.str a) (.str b) := jv h
theorem ya3 {a b : Bool} (h : a = b := by rfl) : MR n0 σ H fz (.bool a) (.bool b) := jw h
theorem ya5 {m m' : Nat} {p : List Nat} {i n n' : Nat} (hn : n = n' := by first | rfl | omega) (h : known n0 σ m' := by first | exact jL (by decide) | exact jM (by decide)) (h' : turn σ m' = m := by decide) : MR n0 σ H fz (.sl (some (m, p, i)) n) (.sl (some (m', p, i)) n') := jD h h' hn
theorem ya7 {m m' : Nat} {p : List Nat} (h : known n0 σ m' := by first | exact jL (by decide) | exact jM (by decide)) (h' : turn σ m' = m := by decide) : MR n0 σ H fz (.ptr m p) (.ptr m' p) := MR.ptr h h'
theorem ya8 {m m' : Nat} (h : known n0 σ m' := by first | exact jL (by decide) | exact jM (by decide)) (h' : turn σ m' = m := by decide) : MR n0 σ H fz (.map m) (.map m') := MR.map h h'
theorem ya9 {m k n : Nat} {e : Sh} {els els' : List VV} (h2 : n = els.length) (he : els = els') (h3 : nls els' = true) (h : fz = true := by rfl) (h1 : H m = some (.row (.arr k e) (.agg els)) := by simp only [↓reduceIte,zlk,Nat.reduceEqDiff,reduceCtorEq]; exact rfl) (h4 : m ∉ σ.map (·.2) := by decide) : MR n0 σ H fz (.sl (some (m, [], 0)) n) (.dat e els') := jB h h1 h2 he h3 h4
theorem yb1 {k : Nat} {b0 b : Blk} {l : List (Nat × Blk)} (hm : MB n0 σ H fz b0 b) (h' : AllB n0 σ H fz l) (hk : known n0 σ k := by first | exact jL (by decide) | exact jM (by decide)) (h : H (turn σ k) = some b0 := by simp only [↓reduceIte,zlk,Nat.reduceEqDiff,reduceCtorEq]; exact rfl) : AllB n0 σ H fz ((k, b) :: l) := jH hk h hm h'
theorem yb2 {k : Nat} {b : Blk} {l : List (Nat × Blk)} (h' : AllB n0 σ H fz l) (hk : (decide (k < n0) || (σ.map (·.1)).contains k) = false := by decide) : AllB n0 σ H fz ((k, b) :: l) := jK hk h'
theorem yrn {n n' : Nat} {l : List (Nat × VV)} {h : List (Nat × Blk)} (σ : List (Nat × Nat)) (fz : Bool) (h1 : AllS n0 σ H fz tm l) (h3 : AllB n0 σ H fz h) (hfz : fz = true → n0 = 0 := by first | (intro h; cases h; done) | exact fun _ => rfl) (hσ : jN n0 n' (h.map (·.1)) σ = true := by first | decide | rfl | (simp [jN]; done)) (hn : n0 ≤ n' := by decide) :
    Ren n0 ⟨tm, H, n⟩ ⟨slots l, rows h, n'⟩ := Ren.mk σ fz hfz hσ hn h1 h3
end
end Go.Proofs.Ytpdhdkpebbfnnaa.V
end
section
namespace Go.Proofs.Ytpdhdkpebbfnnaa.V
open Go
set_option maxRecDepth 100000
set_option maxHeartbeats 1000000
structure Pte where
  is : Bool
  wr : Bool
  fr : Int
instance : Inhabited Pte := ⟨⟨false, false, 0⟩⟩
def encPte (p : Pte) : VV := .agg [.bool p.is, .bool p.wr, .int .i64 p.fr]
abbrev encSpace (l : List Pte) : VV := .agg (l.map encPte)
abbrev encStrs (l : List (List UInt8)) : VV := .dat .cell (l.map .str)
theorem hasPte (x : Pte) : Has (.st [.cell, .cell, .cell]) (encPte x) := by simp [encPte, Has, HasL, VV.leaf]
theorem hasSpace (l : List Pte) (h : l.length = 16) : Has (.arr 16 (.st [.cell, .cell, .cell])) (.agg (l.map encPte)) := has_arrMap h hasPte
theorem jR (l : List Pte) : nls (l.map encPte) = true := nls_map _ (fun _ => rfl) l
def findO (s : List Pte) (a size : Int) (wr : Bool) : Option (Int × Int) :=
  if ¬(size = 1 ∨ size = 4) ∨ 2048 ≤ a ∨ a % size ≠ 0 then none
  else if (s.getD (a / 128).toNat default).is = false then none
  else if wr = true ∧ (s.getD (a / 128).toNat default).wr = false then none
  else some ((s.getD (a / 128).toNat default).fr, a % 128)
def findV : Option (Int × Int) → VV
  | some (f, i) => .tup [.int .i64 f, .int .i64 i, .bool true]
  | none => .tup [.int .i64 0, .int .i64 0, .bool false]
theorem find_spec (l : List Pte) (hl : l.length = 16) (a : Int) (ha : 0 ≤ a ∧ a < 2 ^ 32) (size : Int) (wr : Bool) :
    Spec Try.prog 106 [encSpace l, .int .u32 a, .int .i64 size, .bool wr] (findV (findO l a size wr)) := by
  have hS := hasSpace l hl
  refine spec_ok Try.func106 rfl rfl (by kernel_rfl) (k := 4) rfl (by decide) ?_
  repeat' (first|(with_reducible first|refine yrl (by constructor) ?_|refine jk (fun M hM=>?_)|(refine hM _ ?_;clear hM M)|refine xb3 (by decide) ?_)|((with_reducible refine je ?_)<;>(first|rfl|assumption|(simp only [znl];(first|done|fail))))|(with_reducible refine jf (by (simp only [↓reduceIte,zlk,Nat.reduceEqDiff,reduceCtorEq]);exact rfl) ?_)|((with_reducible first|refine jg (fun hc=>?_) (fun hc=>?_)|refine jh (fun hc=>?_) (fun hc=>?_))<;>(try simp (disch:=omega) only [zhb] at hc)<;>(try (exfalso;omega))<;>(try subst hc))|(with_reducible refine ji (by omega) ?_)|(simp (config := { maxSteps := 400000 }) only [↓jt,↓reduceIte,zvs,reduceCtorEq,seval,-List.reduceReplicate,tab,hS,encPte, Try.results106,jTA])|(simp (disch:=omega) only [ziw]))
  all_goals (unfold findO; (repeat' split))
  all_goals first
    | (exfalso; omega)
    | (simp only [findV]; simp only [zrds]; done)
    | (exfalso; simp_all; done)
    | (simp only [findV]; simp only [zrds]; simp_all; done)
theorem findO_some {s : List Pte} {a size : Int} {wr : Bool} {f i : Int} (h0 : 0 ≤ a) (h : findO s a size wr = some (f, i)) :
    (size = 1 ∨ size = 4) ∧ a < 2048 ∧ a % size = 0 ∧ (s.getD (a / 128).toNat default).is = true ∧ (wr = true → (s.getD (a / 128).toNat default).wr = true) ∧ f = (s.getD (a / 128).toNat default).fr ∧ i = a % 128 ∧ 0 ≤ i ∧ i + size ≤ 128 := by
  unfold findO at h
  split at h
  · cases h
  · split at h
    · cases h
    · split at h
      · cases h
      · rename_i h1 h2 h3
        injection h with h
        injection h with h4 h5
        have h6 : (size = 1 ∨ size = 4) ∧ a < 2048 ∧ a % size = 0 := by
          refine ⟨?_, ?_, ?_⟩
          · exact Decidable.byContradiction fun hc => h1 (.inl hc)
          · exact Decidable.byContradiction fun hc => h1 (.inr (.inl (by omega)))
          · exact Decidable.byContradiction fun hc => h1 (.inr (.inr hc))
        refine ⟨h6.1, h6.2.1, h6.2.2, by simpa using h2, fun hw => by simpa [hw] using h3, h4.symm, h5.symm, by omega, ?_⟩
        obtain ⟨h7, h8, h9⟩ := h6
        rcases h7 with rfl | rfl <;> omega
end Go.Proofs.Ytpdhdkpebbfnnaa.V
end
section
namespace Go.Proofs.Ytpdhdkpebbfnnaa.V
open Go
set_option maxRecDepth 100000
set_option maxHeartbeats 1000000
def getLE : List UInt8 → Nat
  | [] => 0
  | b :: l => b.toNat + 256 * getLE l
theorem getLE_lt : ∀ l : List UInt8, getLE l < 256 ^ l.length
  | [] => by simp [getLE]
  | b :: l => by
    have h1 := getLE_lt l
    have h2 := b.toNat_lt
    simp only [getLE,List.length_cons,Nat.pow_succ]
    omega
theorem getLE_snoc : ∀ (l : List UInt8) (b : UInt8), getLE (l ++ [b]) = getLE l + 256 ^ l.length * b.toNat
  | [], b => by simp [getLE]
  | a :: l, b => by
    simp only [List.cons_append,getLE,getLE_snoc l b,List.length_cons,Nat.pow_succ]
    rw [Nat.mul_add, Nat.add_assoc, ← Nat.mul_assoc, Nat.mul_comm 256 (256 ^ l.length)]
theorem take_snoc {α : Type} [Inhabited α] (l : List α) (i : Nat) (h : i < l.length) : l.take (i + 1) = l.take i ++ [l.getD i default] := by
  rw [List.take_succ_eq_append_getElem h]; simp [h]
theorem or_step (l : List UInt8) (b : UInt8) (hl : l.length < 8) : bits .or .u64 (getLE l : Int) (IntKind.u64.wrap (IntKind.u64.wrap (b.toNat : Int) * 2 ^ min (8 * (l.length : Int)).toNat IntKind.u64.bits)) = (getLE (l ++ [b]) : Int) := by
  have h1 := getLE_lt l
  have h2 := b.toNat_lt
  have e1 : IntKind.u64.wrap (b.toNat : Int) = b.toNat := wraps_u64 _ (by omega) (by omega)
  have e2 : min (8 * (l.length : Int)).toNat IntKind.u64.bits = 8 * l.length := by
    have : IntKind.u64.bits = 64 := rfl
    rw [this]; omega
  have e3 : (256 : Nat) ^ l.length = 2 ^ (8 * l.length) := by rw [Nat.pow_mul]
  have e4 : (256 : Nat) ^ l.length * 256 ≤ 2 ^ 64 := by
    have : (256 : Nat) ^ (l.length + 1) ≤ 256 ^ 8 := Nat.pow_le_pow_right (by omega) (by omega)
    rw [Nat.pow_succ] at this
    exact this
  have e5 : b.toNat * 256 ^ l.length < 2 ^ 64 := by
    have : b.toNat * 256 ^ l.length ≤ 255 * 256 ^ l.length := Nat.mul_le_mul_right _ (by omega)
    have : 0 < 256 ^ l.length := Nat.pow_pos (by omega)
    omega
  have e6 : ((b.toNat : Int) * 2 ^ (8 * l.length)) = ((b.toNat * 256 ^ l.length : Nat) : Int) := by rw [e3]; push_cast; rfl
  rw [e1, e2, e6, wraps_u64 _ (by omega) (by exact_mod_cast e5), getLE_snoc]
  have hb := bits_join_low .u64 64 (by decide) (fun n h0 h1 => wraps_u64 n h0 (by simpa using h1)) (8 * l.length) (getLE l : Int) ((b.toNat * 256 ^ l.length : Nat) : Int) (by omega)
    (by rw [e3] at h1; exact_mod_cast h1) (by have : getLE l < 2 ^ 64 := by omega
                                              exact_mod_cast this) (by omega) (by rw [e3]; push_cast; exact Int.mul_emod_left _ _) (by exact_mod_cast e5)
  rw [hb, Nat.mul_comm]
  push_cast
  rfl
theorem num_get_spec (s : List UInt8) (hs : s.length < 2 ^ 62) : Spec Try.prog 141 [.str s] (.int .u64 (getLE (s.take 8))) := by
  refine spec_ok Try.func141 rfl rfl (by kernel_rfl) (k := 1) rfl (by decide) ?_
  repeat' (first|(with_reducible first|refine yrl (by constructor) ?_|refine jk (fun M hM=>?_)|(refine hM _ ?_;clear hM M)|refine xb3 (by decide) ?_)|((with_reducible refine je ?_)<;>(first|rfl|assumption|(simp only [znl];(first|done|fail))))|(with_reducible refine jf (by (simp only [↓reduceIte,zlk,Nat.reduceEqDiff,reduceCtorEq]);exact rfl) ?_)|((with_reducible first|refine jg (fun hc=>?_) (fun hc=>?_)|refine jh (fun hc=>?_) (fun hc=>?_))<;>(try simp (disch:=omega) only [zhb] at hc)<;>(try (exfalso;omega))<;>(try subst hc))|(with_reducible refine ji (by omega) ?_)|(simp (config := { maxSteps := 400000 }) only [↓jt,↓reduceIte,zvs,reduceCtorEq,seval,-List.reduceReplicate,tab,Try.results141,jTA])|(simp (disch:=omega) only [ziw]))
  obtain ⟨b, hb⟩ : ∃ b : Int, b = min (s.length : Int) 8 := ⟨_, rfl⟩
  have hb1 : b ≤ 8 := by omega
  have hb2 : b ≤ s.length := by omega
  have hb3 : 0 ≤ b := by omega
  refine ok_loop (fun k : Nat => ⟨slots [(0, .str s), (2, .int .u64 0), (3, .int .u64 (getLE (s.take k))), (7, .int .i64 b), (8, .int .i64 k)], rows [], 0⟩) (fun k => (k : Int) ≤ b) (fun k => 8 - k) 0 ?_ (by omega) (fun k hk => ?_)
  · (refine yrn [] false ?_ ?_<;>(repeat' (first|(with_reducible first|exact ya1|exact ya2|exact ya3|refine jx rfl (by first|rfl|assumption|(simp only [znl];(first|done|fail)))|exact ya5|exact ya7|exact jy|exact jz|refine jA ?_|refine ya9 ?_ ?_ ?_|refine jC rfl (by first|rfl|assumption|(simp only [znl];(first|done|fail)))|refine MR.agg (MRL.cons ?_ ?_)|refine MR.fn ?_|refine MRL.cons ?_ ?_|exact MRL.nil|refine jE ?_ ?_|exact jF|exact jG|refine yb1 ?_ ?_|refine MB.row ?_|refine jI ?_ ?_|exact ya8|refine jJ rfl (by first|rfl|assumption|(simp only [znl];(first|done|fail)))|refine yb2 ?_|rfl)|(simp only [znl];(first|done|fail))|(simp only [↓reduceIte,zlk,Nat.reduceEqDiff,reduceCtorEq])|(with_reducible first|refine jJ ?_ ?_|refine ya5 ?_|refine ju ?_|refine jv ?_|refine jw ?_|refine jx ?_ (by first|rfl|assumption|(simp only [znl];(first|done|fail)))|refine jC ?_ (by first|rfl|assumption|(simp only [znl];(first|done|fail)))))))
    rfl
  by_cases hlt : (k : Int) < b
  · repeat' (first|(with_reducible first|refine yrl (by constructor) ?_|refine jk (fun M hM=>?_)|(refine hM _ ?_;clear hM M)|refine xb3 (by decide) ?_)|((with_reducible refine je ?_)<;>(first|rfl|assumption|(simp only [znl];(first|done|fail))))|(with_reducible refine jf (by (simp only [↓reduceIte,zlk,Nat.reduceEqDiff,reduceCtorEq]);exact rfl) ?_)|((with_reducible first|refine jg (fun hc=>?_) (fun hc=>?_)|refine jh (fun hc=>?_) (fun hc=>?_))<;>(try simp (disch:=omega) only [zhb] at hc)<;>(try (exfalso;omega))<;>(try subst hc))|(with_reducible refine ji (by omega) ?_)|(simp (config := { maxSteps := 400000 }) only [↓jt,↓reduceIte,zvs,reduceCtorEq,seval,-List.reduceReplicate,tab])|(simp (disch:=omega) only [ziw]))
    refine xl1 (k + 1) ?_ ?_ ?_
    · (refine yrn [] false ?_ ?_<;>(repeat' (first|(with_reducible first|exact ya1|exact ya2|exact ya3|refine jx rfl (by first|rfl|assumption|(simp only [znl];(first|done|fail)))|exact ya5|exact ya7|exact jy|exact jz|refine jA ?_|refine ya9 ?_ ?_ ?_|refine jC rfl (by first|rfl|assumption|(simp only [znl];(first|done|fail)))|refine MR.agg (MRL.cons ?_ ?_)|refine MR.fn ?_|refine MRL.cons ?_ ?_|exact MRL.nil|refine jE ?_ ?_|exact jF|exact jG|refine yb1 ?_ ?_|refine MB.row ?_|refine jI ?_ ?_|exact ya8|refine jJ rfl (by first|rfl|assumption|(simp only [znl];(first|done|fail)))|refine yb2 ?_|rfl)|(simp only [znl];(first|done|fail))|(simp only [↓reduceIte,zlk,Nat.reduceEqDiff,reduceCtorEq])|(with_reducible first|refine jJ ?_ ?_|refine ya5 ?_|refine ju ?_|refine jv ?_|refine jw ?_|refine jx ?_ (by first|rfl|assumption|(simp only [znl];(first|done|fail)))|refine jC ?_ (by first|rfl|assumption|(simp only [znl];(first|done|fail)))))))
      have hk8 : (s.take k).length = k := by rw [List.length_take]; omega
      have := or_step (s.take k) (s.getD k 0) (by omega)
      rw [hk8] at this
      rw [this, take_snoc s k (by omega)]
      rfl
    · show ((k + 1 : Nat) : Int) ≤ b
      omega
    · show 8 - (k + 1) < 8 - k
      omega
  · repeat' (first|(with_reducible first|refine yrl (by constructor) ?_|refine jk (fun M hM=>?_)|(refine hM _ ?_;clear hM M)|refine xb3 (by decide) ?_)|((with_reducible refine je ?_)<;>(first|rfl|assumption|(simp only [znl];(first|done|fail))))|(with_reducible refine jf (by (simp only [↓reduceIte,zlk,Nat.reduceEqDiff,reduceCtorEq]);exact rfl) ?_)|((with_reducible first|refine jg (fun hc=>?_) (fun hc=>?_)|refine jh (fun hc=>?_) (fun hc=>?_))<;>(try simp (disch:=omega) only [zhb] at hc)<;>(try (exfalso;omega))<;>(try subst hc))|(with_reducible refine ji (by omega) ?_)|(simp (config := { maxSteps := 400000 }) only [↓jt,↓reduceIte,zvs,reduceCtorEq,seval,-List.reduceReplicate,tab])|(simp (disch:=omega) only [ziw]))
    simp only [zrds]
    have e : k = min 8 s.length := by omega
    rw [e]
    congr 2
    by_cases h : s.length ≤ 8
    · rw [Nat.min_eq_right h, List.take_of_length_le (Nat.le_refl _), List.take_of_length_le h]
    · rw [Nat.min_eq_left (by omega)]
def putLE (n : Nat) : Nat → List UInt8
  | 0 => []
  | k + 1 => putLE n k ++ [UInt8.ofNat (n / 256 ^ k)]
theorem putLE_len (n : Nat) : ∀ k, (putLE n k).length = k
  | 0 => rfl
  | k + 1 => by simp [putLE, putLE_len n k]
theorem put_step (n k : Nat) (hk : k < 8) : ((putLE n k).map encB ++ List.replicate (8 - k) (VV.int .u8 0)).set k (.int .u8 (IntKind.u8.wrap ((n : Int).fdiv (2 ^ min (8 * (k : Int)).toNat IntKind.u64.bits)))) = (putLE n (k + 1)).map encB ++ List.replicate (8 - (k + 1)) (VV.int .u8 0) := by
  have e1 : min (8 * (k : Int)).toNat IntKind.u64.bits = 8 * k := by
    have : IntKind.u64.bits = 64 := rfl
    rw [this]; omega
  have e2 : IntKind.u8.wrap ((n : Int).fdiv (2 ^ (8 * k))) = ((UInt8.ofNat (n / 256 ^ k)).toNat : Int) := by
    have e3 : (2 : Int) ^ (8 * k) = ((256 ^ k : Nat) : Int) := by
      rw [show (256 : Nat) = 2 ^ 8 from rfl, ← Nat.pow_mul]; push_cast; rfl
    rw [e3, Int.fdiv_eq_ediv_of_nonneg _ (Int.natCast_nonneg _), IntKind.wrap_u8, UInt8.toNat_ofNat']
    push_cast
    rfl
  have hl : ((putLE n k).map encB).length = k := by simp [putLE_len]
  have e4 : List.replicate (8 - k) (VV.int .u8 0) = VV.int .u8 0 :: List.replicate (8 - (k + 1)) (VV.int .u8 0) := by
    rw [show 8 - k = (8 - (k + 1)) + 1 by omega, List.replicate_succ]
  rw [e1, e2, List.set_append_right _ _ (by omega), hl, e4, Nat.sub_self, List.set_cons_zero]
  simp [putLE, encB]
theorem num_put_spec (n : Nat) (hn : n < 2 ^ 64) (size : Int) : Spec Try.prog 105 [.int .u64 n, .int .i64 size] (.str (putLE n (min size.toNat 8))) := by
  refine spec_ok Try.func105 rfl rfl (by kernel_rfl) (k := 2) rfl (by decide) ?_
  repeat' (first|(with_reducible first|refine yrl (by constructor) ?_|refine jk (fun M hM=>?_)|(refine hM _ ?_;clear hM M)|refine xb3 (by decide) ?_)|((with_reducible refine je ?_)<;>(first|rfl|assumption|(simp only [znl];(first|done|fail))))|(with_reducible refine jf (by (simp only [↓reduceIte,zlk,Nat.reduceEqDiff,reduceCtorEq]);exact rfl) ?_)|((with_reducible first|refine jg (fun hc=>?_) (fun hc=>?_)|refine jh (fun hc=>?_) (fun hc=>?_))<;>(try simp (disch:=omega) only [zhb] at hc)<;>(try (exfalso;omega))<;>(try subst hc))|(with_reducible refine ji (by omega) ?_)|(simp (config := { maxSteps := 400000 }) only [↓jt,↓reduceIte,zvs,reduceCtorEq,seval,-List.reduceReplicate,tab,Try.results105,jTA])|(simp (disch:=omega) only [ziw]))
  obtain ⟨m, hm⟩ : ∃ m : Nat, m = min size.toNat 8 := ⟨_, rfl⟩
  refine ok_loop (fun k : Nat => ⟨slots [(0, .int .u64 n), (1, .int .i64 m), (4, .str []), (5, .ptr 0 []), (10, .int .i64 m), (11, .int .i64 k)], rows [(0, .row (.arr 8 .cell) (.agg ((putLE n k).map encB ++ List.replicate (8 - k) (.int .u8 0))))], 1⟩)
    (fun k => k ≤ m) (fun k => 8 - k) 0 ?_ (by omega) (fun k hk => ?_)
  · (refine yrn [(0, 0)] false ?_ ?_<;>(repeat' (first|(with_reducible first|exact ya1|exact ya2|exact ya3|refine jx rfl (by first|rfl|assumption|(simp only [znl];(first|done|fail)))|exact ya5|exact ya7|exact jy|exact jz|refine jA ?_|refine ya9 ?_ ?_ ?_|refine jC rfl (by first|rfl|assumption|(simp only [znl];(first|done|fail)))|refine MR.agg (MRL.cons ?_ ?_)|refine MR.fn ?_|refine MRL.cons ?_ ?_|exact MRL.nil|refine jE ?_ ?_|exact jF|exact jG|refine yb1 ?_ ?_|refine MB.row ?_|refine jI ?_ ?_|exact ya8|refine jJ rfl (by first|rfl|assumption|(simp only [znl];(first|done|fail)))|refine yb2 ?_|rfl)|(simp only [znl];(first|done|fail))|(simp only [↓reduceIte,zlk,Nat.reduceEqDiff,reduceCtorEq])|(with_reducible first|refine jJ ?_ ?_|refine ya5 ?_|refine ju ?_|refine jv ?_|refine jw ?_|refine jx ?_ (by first|rfl|assumption|(simp only [znl];(first|done|fail)))|refine jC ?_ (by first|rfl|assumption|(simp only [znl];(first|done|fail)))))))
  have hl : ((putLE n k).map encB ++ List.replicate (8 - k) (VV.int .u8 0)).length = 8 := by rw [List.length_append, List.length_map, List.length_replicate, putLE_len]; omega
  by_cases hlt : k < m
  · have hg : ((putLE n k).map encB ++ List.replicate (8 - k) (VV.int .u8 0))[k]? = some (.int .u8 0) := by
      rw [List.getElem?_append_right (by simp [putLE_len]), List.getElem?_replicate, if_pos (by rw [List.length_map, putLE_len]; omega)]
    repeat' (first|(with_reducible first|refine yrl (by constructor) ?_|refine jk (fun M hM=>?_)|(refine hM _ ?_;clear hM M)|refine xb3 (by decide) ?_)|((with_reducible refine je ?_)<;>(first|rfl|assumption|(simp only [znl];(first|done|fail))))|(with_reducible refine jf (by (simp only [↓reduceIte,zlk,Nat.reduceEqDiff,reduceCtorEq]);exact rfl) ?_)|((with_reducible first|refine jg (fun hc=>?_) (fun hc=>?_)|refine jh (fun hc=>?_) (fun hc=>?_))<;>(try simp (disch:=omega) only [zhb] at hc)<;>(try (exfalso;omega))<;>(try subst hc))|(with_reducible refine ji (by omega) ?_)|(simp (config := { maxSteps := 400000 }) only [↓jt,↓reduceIte,zvs,reduceCtorEq,seval,-List.reduceReplicate,tab,hg])|(simp (disch:=omega) only [ziw]))
    refine xl1 (k + 1) ?_ (by omega) (by show 8 - (k + 1) < 8 - k; omega)
    (refine yrn [(0, 0)] false ?_ ?_<;>(repeat' (first|(with_reducible first|exact ya1|exact ya2|exact ya3|refine jx rfl (by first|rfl|assumption|(simp only [znl];(first|done|fail)))|exact ya5|exact ya7|exact jy|exact jz|refine jA ?_|refine ya9 ?_ ?_ ?_|refine jC rfl (by first|rfl|assumption|(simp only [znl];(first|done|fail)))|refine MR.agg (MRL.cons ?_ ?_)|refine MR.fn ?_|refine MRL.cons ?_ ?_|exact MRL.nil|refine jE ?_ ?_|exact jF|exact jG|refine yb1 ?_ ?_|refine MB.row ?_|refine jI ?_ ?_|exact ya8|refine jJ rfl (by first|rfl|assumption|(simp only [znl];(first|done|fail)))|refine yb2 ?_|rfl)|(simp only [znl];(first|done|fail))|(simp only [↓reduceIte,zlk,Nat.reduceEqDiff,reduceCtorEq])|(with_reducible first|refine jJ ?_ ?_|refine ya5 ?_|refine ju ?_|refine jv ?_|refine jw ?_|refine jx ?_ (by first|rfl|assumption|(simp only [znl];(first|done|fail)))|refine jC ?_ (by first|rfl|assumption|(simp only [znl];(first|done|fail)))))))
    rw [put_step n k (by omega)]
  · have e : k = m := by omega
    subst e
    have hb : bytesOf (((putLE n k).map encB ++ List.replicate (8 - k) (VV.int .u8 0)).take k) = some (putLE n k) := by
      rw [List.take_append_of_le_length (by simp [putLE_len]), List.take_of_length_le (by simp [putLE_len]), bytesOf_enc]
    repeat' (first|(with_reducible first|refine yrl (by constructor) ?_|refine jk (fun M hM=>?_)|(refine hM _ ?_;clear hM M)|refine xb3 (by decide) ?_)|((with_reducible refine je ?_)<;>(first|rfl|assumption|(simp only [znl];(first|done|fail))))|(with_reducible refine jf (by (simp only [↓reduceIte,zlk,Nat.reduceEqDiff,reduceCtorEq]);exact rfl) ?_)|((with_reducible first|refine jg (fun hc=>?_) (fun hc=>?_)|refine jh (fun hc=>?_) (fun hc=>?_))<;>(try simp (disch:=omega) only [zhb] at hc)<;>(try (exfalso;omega))<;>(try subst hc))|(with_reducible refine ji (by omega) ?_)|(simp (config := { maxSteps := 400000 }) only [↓jt,↓reduceIte,zvs,reduceCtorEq,seval,-List.reduceReplicate,tab,hl,hb])|(simp (disch:=omega) only [ziw]))
    simp only [zrds]
    rw [← hm]
end Go.Proofs.Ytpdhdkpebbfnnaa.V
end
section
namespace Go.Proofs.Ytpdhdkpebbfnnaa.V
open Go
set_option maxRecDepth 100000
set_option maxHeartbeats 1000000
abbrev Frames := List (List UInt8)
def thereF (fr : Frames) (f : Int) : Bool := decide (0 ≤ f) && decide (f < fr.length) && decide ((fr.getD f.toNat []).length = 128)
theorem thereF_iff {fr : Frames} {f : Int} : thereF fr f = true ↔ 0 ≤ f ∧ f < fr.length ∧ (fr.getD f.toNat []).length = 128 := by
  unfold thereF; simp [and_assoc]
def fits (l : Frames) : Prop := l.length < 2 ^ 36 ∧ ∀ s ∈ l, s.length < 2 ^ 36
theorem there_spec (l : Frames) (hl : fits l) (n : Int) : Spec Try.prog 107 [encStrs l, .int .i64 n] (.bool (thereF l n)) := by
  obtain ⟨hl1, hl2⟩ := hl
  refine spec_ok Try.func107 rfl rfl (by kernel_rfl) (k := 2) rfl (by decide) ?_
  repeat' (first|(with_reducible first|refine yrl (by constructor) ?_|refine jk (fun M hM=>?_)|(refine hM _ ?_;clear hM M)|refine xb3 (by decide) ?_)|((with_reducible refine je ?_)<;>(first|rfl|assumption|(simp only [znl,jR];(first|done|fail))))|(with_reducible refine jf (by (simp only [↓reduceIte,zlk,Nat.reduceEqDiff,reduceCtorEq]);exact rfl) ?_)|((with_reducible first|refine jg (fun hc=>?_) (fun hc=>?_)|refine jh (fun hc=>?_) (fun hc=>?_))<;>(try simp (disch:=omega) only [zhb] at hc)<;>(try (exfalso;omega))<;>(try subst hc))|(with_reducible refine ji (by omega) ?_)|(simp (config := { maxSteps := 400000 }) only [↓jt,↓reduceIte,zvs,reduceCtorEq,seval,-List.reduceReplicate,tab,Try.results107,jTA])|(simp (disch:=omega) only [ziw]))
  all_goals simp only [zrds]
  all_goals (rw [Bool.eq_iff_iff, thereF_iff]; simp; omega)
def putF (p : List UInt8) (k : Nat) (s : List UInt8) : List UInt8 := p.take k ++ s ++ p.drop (k + s.length)
theorem put_spec (p s : List UInt8) (k : Int) (h0 : 0 ≤ k) (h : k + s.length ≤ p.length) (hp : p.length < 2 ^ 62) : Spec Try.prog 68 [.str p, .int .i64 k, .str s] (.str (putF p k.toNat s)) := by
  refine spec_ok Try.func68 rfl rfl (by kernel_rfl) (k := 3) rfl (by decide) ?_
  repeat' (first|(with_reducible first|refine yrl (by constructor) ?_|refine jk (fun M hM=>?_)|(refine hM _ ?_;clear hM M)|refine xb3 (by decide) ?_)|((with_reducible refine je ?_)<;>(first|rfl|assumption|(simp only [znl,jR];(first|done|fail))))|(with_reducible refine jf (by (simp only [↓reduceIte,zlk,Nat.reduceEqDiff,reduceCtorEq]);exact rfl) ?_)|((with_reducible first|refine jg (fun hc=>?_) (fun hc=>?_)|refine jh (fun hc=>?_) (fun hc=>?_))<;>(try simp (disch:=omega) only [zhb] at hc)<;>(try (exfalso;omega))<;>(try subst hc))|(with_reducible refine ji (by omega) ?_)|(simp (config := { maxSteps := 400000 }) only [↓jt,↓reduceIte,zvs,reduceCtorEq,seval,-List.reduceReplicate,tab,Try.results68,jTA])|(simp (disch:=omega) only [ziw]))
  refine ok_draw 12 (by kernel_rfl) (by decide +kernel) (by intro m hm; simp only [upd_ap,rows_cons,rows_nil]; (repeat (first | rfl | rw [if_neg (by omega)]))) (fun M hM => ?_); simp only [List.take_succ_cons,List.take_zero,List.drop_succ_cons,List.drop_zero]
  repeat' (first|(with_reducible first|refine yrl (by constructor) ?_|refine jk (fun M hM=>?_)|(refine hM _ ?_;clear hM M)|refine xb3 (by decide) ?_)|((with_reducible refine je ?_)<;>(first|rfl|assumption|(simp only [znl,jR];(first|done|fail))))|(with_reducible refine jf (by (simp only [↓reduceIte,zlk,Nat.reduceEqDiff,reduceCtorEq]);exact rfl) ?_)|((with_reducible first|refine jg (fun hc=>?_) (fun hc=>?_)|refine jh (fun hc=>?_) (fun hc=>?_))<;>(try simp (disch:=omega) only [zhb] at hc)<;>(try (exfalso;omega))<;>(try subst hc))|(with_reducible refine ji (by omega) ?_)|(simp (config := { maxSteps := 400000 }) only [↓jt,↓reduceIte,zvs,reduceCtorEq,seval,-List.reduceReplicate,tab,Try.results68,jTA])|(simp (disch:=omega) only [ziw]))
  all_goals simp only [zrds]
  unfold putF
  rw [show (k + (s.length : Int)).toNat = k.toNat + s.length by omega]
  congr 1
  exact List.take_of_length_le (by rw [List.length_drop]; omega)
def byteO (fr : Frames) (s : List Pte) (a : Int) : Option UInt8 := match findO s a 1 false with
  | some (f, i) => if thereF fr f = true then some ((fr.getD f.toNat []).getD i.toNat 0) else none
  | none => none
end Go.Proofs.Ytpdhdkpebbfnnaa.V
end
