/-
  A MACHINE OF VALUES, SECOND PART: named blocks and the model's heap; types; zero values.
-/
import Derived.Test.YtndbfphmjmhkjaaVal
set_option linter.unusedVariables false
set_option linter.unusedSectionVars false
set_option linter.unusedSimpArgs false
namespace Go.Proofs.Ytndbfphmjmhkjaa.V
open Go Go.RowKit

inductive Blk where
  | row (s : Sh) (v : VV)
  | map (es : List (VV × VV))
abbrev Heap := Nat → Option Blk
def upd {α : Type} (f : Nat → α) (n : Nat) (a : α) : Nat → α := fun m => if m = n then a else f m
theorem upd_ap {α : Type} (f : Nat → α) (n : Nat) (a : α) (m : Nat) : upd f n a m = if m = n then a else f m := rfl

/-- a named block's content lies where its name says -/
structure RowAt (ρ : Names) (w : World) (l : Loc) (s : Sh) (v : VV) : Prop where
  sh : l.sh = s
  has : Has s v
  cells : ∃ cs, C1 ρ w v cs ∧ cs.length ≤ l.room ∧ w.rangeAt l.block l.base cs
  room : w.there l.block l.base l.room
def ME (ρ : Names) (w : World) : List (VV × VV) → List MapEntry → Prop
  | [], xs => xs = []
  | (k, v) :: es, xs => ∃ x ys, xs = x :: ys ∧ k.leaf = true ∧ VR1 ρ w k x.key ∧ VR1 ρ w v x.val ∧ ME ρ w es ys
structure MapAt (ρ : Names) (w : World) (l : Loc) (es : List (VV × VV)) : Prop where
  obj : ∃ xs clock, w.heap[l.block]? = some (.map xs clock) ∧ ME ρ w es xs.toList

/-- names that are free, the next one being n -/
class Zone (Z : Nat → Nat → Prop) where
  ok : Nat → Prop
  mono : ∀ n n' m, n ≤ n' → Z n' m → Z n m
  next : ∀ n m, ok n → Z (n + 1) m → m ≠ n
  free : ∀ n, ok n → Z n n
/-- all names from n on -/
def ZT : Nat → Nat → Prop := fun n m => n ≤ m
instance : Zone ZT := ⟨fun _ => True, fun n n' m h h' => Nat.le_trans h h', fun n m _ h e => (by have : n + 1 ≤ m := h; omega), fun n _ => Nat.le_refl n⟩
/-- Z: the names that may be given -/
structure HR (Z : Nat → Nat → Prop) (B : Nat) (ρ : Names) (H : Heap) (n : Nat) (w : World) : Prop where
  base : B ≤ w.heap.size
  fresh : ∀ m, Z n m → ρ m = none
  lt : ∀ m l, ρ m = some l → B ≤ l.block ∧ l.block < w.heap.size
  apart : ∀ m m' l l', ρ m = some l → ρ m' = some l' → H m ≠ none → H m' ≠ none → l.block = l'.block → m = m'
  row : ∀ m s v l, H m = some (.row s v) → ρ m = some l → RowAt ρ w l s v
  map : ∀ m es l, H m = some (.map es) → ρ m = some l → MapAt ρ w l es

theorem range_same {w w' : World} {b o : Nat} {cs : List Value} (h : w'.heap[b]? = w.heap[b]?) (hr : w.rangeAt b o cs) : w'.rangeAt b o cs := fun j v hv => by
  rw [cell_of_block h]; exact hr j v hv
theorem frozen_of_block {w w' : World} {b : Nat} (h : w'.heap[b]? = w.heap[b]?) (o : Nat) : w'.frozen? ⟨b, o, none⟩ = w.frozen? ⟨b, o, none⟩ := by
  unfold World.frozen?
  simp only [h]
theorem there_same {w w' : World} {b o n : Nat} (h : w'.heap[b]? = w.heap[b]?) (hr : w.there b o n) : w'.there b o n := fun j hj => by
  rw [cell_of_block h, frozen_of_block h]; exact hr j hj
section
variable {Z : Nat → Nat → Prop} [Zone Z] {B : Nat} {ρ ρ' : Names} {w w' : World} {H : Heap} {n : Nat}
theorem RowAt.same {l : Loc} {s : Sh} {v : VV} (h : RowAt ρ w l s v) (he : Ext ρ w ρ' w') (hb : w'.heap[l.block]? = w.heap[l.block]?) : RowAt ρ' w' l s v := by
  obtain ⟨cs, h1, h2, h3⟩ := h.cells
  exact ⟨h.sh, h.has, ⟨cs, C1.ext he v cs h1, h2, range_same hb h3⟩, there_same hb h.room⟩
theorem ME.ext (he : Ext ρ w ρ' w') : ∀ (es : List (VV × VV)) (xs : List MapEntry), ME ρ w es xs → ME ρ' w' es xs
  | [], _, h => h
  | (k, v) :: es, xs, h => by
    obtain ⟨x, ys, h1, h2, h3, h4, h5⟩ := h
    exact ⟨x, ys, h1, h2, VR1.ext he _ _ h3, VR1.ext he _ _ h4, ME.ext he es ys h5⟩
theorem MapAt.same {l : Loc} {es : List (VV × VV)} (h : MapAt ρ w l es) (he : Ext ρ w ρ' w') (hb : w'.heap[l.block]? = w.heap[l.block]?) : MapAt ρ' w' l es := by
  obtain ⟨xs, c, h1, h2⟩ := h.obj
  exact ⟨xs, c, by rw [hb]; exact h1, ME.ext he es _ h2⟩
/-- nothing that was there is another one -/
theorem HR.kept (h : HR Z B ρ H n w) (hsz : w.heap.size ≤ w'.heap.size) (hb : ∀ b, b < w.heap.size → w'.heap[b]? = w.heap[b]?) : HR Z B ρ H n w' := by
  have he : Ext ρ w ρ w' := ⟨fun _ _ h => h, hsz, fun b hb' _ => hb b hb', fun _ _ h => .inl h, fun _ h => h, fun _ h => .inl h⟩
  refine ⟨Nat.le_trans h.base hsz, h.fresh, fun m l hm => ?_, h.apart, fun m s v l hm h1 => ?_, fun m es l hm h1 => ?_⟩
  · obtain ⟨h2, h3⟩ := h.lt m l hm
    exact ⟨h2, Nat.lt_of_lt_of_le h3 hsz⟩
  · exact (h.row m s v l hm h1).same he (hb _ (h.lt m l h1).2)
  · exact (h.map m es l hm h1).same he (hb _ (h.lt m l h1).2)
theorem HR.more (h : HR Z B ρ H n w) {n' : Nat} (hn : n ≤ n') : HR Z B ρ H n' w :=
  ⟨h.base, fun m hz => h.fresh m (Zone.mono _ _ _ hn hz), h.lt, h.apart, h.row, h.map⟩
/-- a new name: a new block, or one whose elder name dies -/
theorem ext_new (hn : ρ n = none) (l : Loc) (hsz : w.heap.size ≤ w'.heap.size) (hb : ∀ b, b < w.heap.size → b ≠ l.block → w'.heap[b]? = w.heap[b]?)
    (hl : w.heap.size ≤ l.block ∨ ∃ m0 l0, ρ m0 = some l0 ∧ l0.block = l.block) : Ext ρ w (ρ.give n l) w' := by
  refine ⟨fun m l' hm => ?_, hsz, fun b hb' hu => hb b hb' ?_, fun m l' hm => ?_, fun _ h => h, fun _ h => .inl h⟩
  · rw [give_ap, if_neg (by intro e; rw [e, hn] at hm; cases hm)]; exact hm
  · intro e
    rcases hl with h1 | ⟨m0, l0, h1, h2⟩
    · omega
    · exact hu.2 m0 l0 h1 (by rw [h2, e])
  · rw [give_ap] at hm
    split at hm
    · injection hm with hm
      subst hm
      exact .inr (hl.imp id id)
    · exact .inl hm
theorem HR.new (h : HR Z B ρ H n w) (hZ : Zone.ok Z n) {s : Sh} {v : VV} (l : Loc) (hl0 : w.heap.size ≤ l.block) (hl1 : l.block < w'.heap.size) (hsz : w.heap.size ≤ w'.heap.size) (hb : ∀ b, b < w.heap.size → w'.heap[b]? = w.heap[b]?)
    (hr : RowAt (ρ.give n l) w' l s v) : HR Z B (ρ.give n l) (upd H n (some (.row s v))) (n + 1) w' := by
  have he : Ext ρ w (ρ.give n l) w' := ext_new (h.fresh n (Zone.free n hZ)) l hsz (fun b hb' _ => hb b hb') (.inl hl0)
  have hbase := h.base
  refine ⟨Nat.le_trans h.base hsz, fun m hz => ?_, fun m l' hm => ?_, fun m m' l1 l2 h1 h2 g1 g2 heq => ?_, fun m s' v' l' hm h1 => ?_, fun m es l' hm h1 => ?_⟩
  · rw [give_ap, if_neg (Zone.next _ _ hZ hz)]
    exact h.fresh m (Zone.mono _ _ _ (Nat.le_succ _) hz)
  · rw [give_ap] at hm
    split at hm
    · injection hm with hm
      subst hm
      exact ⟨by omega, hl1⟩
    · obtain ⟨g2, g3⟩ := h.lt m l' hm
      exact ⟨g2, by omega⟩
  · simp only [upd_ap,give_ap] at h1 h2 g1 g2
    by_cases e1 : m = n
    · by_cases e2 : m' = n
      · omega
      · rw [if_pos e1] at h1
        rw [if_neg e2] at h2
        injection h1 with h1
        subst h1
        have := (h.lt m' l2 h2).2
        omega
    · by_cases e2 : m' = n
      · rw [if_neg e1] at h1
        rw [if_pos e2] at h2
        injection h2 with h2
        subst h2
        have := (h.lt m l1 h1).2
        omega
      · rw [if_neg e1] at h1 g1
        rw [if_neg e2] at h2 g2
        exact h.apart m m' l1 l2 h1 h2 g1 g2 heq
  · rw [upd_ap] at hm
    by_cases e : m = n
    · rw [if_pos e] at hm
      injection hm with hm
      injection hm with hm1 hm2
      subst hm1 hm2 e
      rw [give_ap, if_pos rfl] at h1
      injection h1 with h1
      subst h1
      exact hr
    · rw [if_neg e] at hm
      rw [give_ap, if_neg e] at h1
      exact (h.row m s' v' l' hm h1).same he (hb _ (h.lt m l' h1).2)
  · rw [upd_ap] at hm
    by_cases e : m = n
    · rw [if_pos e] at hm
      cases hm
    · rw [if_neg e] at hm
      rw [give_ap, if_neg e] at h1
      exact (h.map m es l' hm h1).same he (hb _ (h.lt m l' h1).2)
/-- a named block with another content -/
theorem HR.put (h : HR Z B ρ H n w) {m : Nat} {l : Loc} {s : Sh} {v : VV} (hm : ρ m = some l) (hlive : H m ≠ none) (hsz : w'.heap.size = w.heap.size) (hb : ∀ b, b ≠ l.block → w'.heap[b]? = w.heap[b]?)
    (hr : RowAt ρ w' l s v) : HR Z B ρ (upd H m (some (.row s v))) n w' ∧ Ext ρ w ρ w' := by
  have he : Ext ρ w ρ w' := ⟨fun _ _ h => h, by omega, fun b hb' hu => hb b (fun e => hu.2 m l hm e.symm), fun _ _ h => .inl h, fun _ h => h, fun _ h => .inl h⟩
  refine ⟨⟨by rw [hsz]; exact h.base, h.fresh, fun m l hm => by rw [hsz]; exact h.lt m l hm, fun m1 m2 l1 l2 h1 h2 g1 g2 heq => ?_, fun m1 s1 v1 l' hm1 h1 => ?_, fun m1 es l' hm1 h1 => ?_⟩, he⟩
  · refine h.apart m1 m2 l1 l2 h1 h2 ?_ ?_ heq
    · rw [upd_ap] at g1; split at g1
      · rename_i e; rw [e]; exact hlive
      · exact g1
    · rw [upd_ap] at g2; split at g2
      · rename_i e; rw [e]; exact hlive
      · exact g2
  · rw [upd_ap] at hm1
    by_cases e : m1 = m
    · rw [if_pos e] at hm1
      injection hm1 with hm1
      injection hm1 with e1 e2
      subst e1 e2 e
      rw [hm] at h1
      injection h1 with h1
      subst h1
      exact hr
    · rw [if_neg e] at hm1
      exact (h.row m1 s1 v1 l' hm1 h1).same he (hb _ fun eq => e (h.apart m1 m l' l h1 hm (by rw [hm1]; simp) hlive eq))
  · rw [upd_ap] at hm1
    by_cases e : m1 = m
    · rw [if_pos e] at hm1; cases hm1
    · rw [if_neg e] at hm1
      exact (h.map m1 es l' hm1 h1).same he (hb _ fun eq => e (h.apart m1 m l' l h1 hm (by rw [hm1]; simp) hlive eq))
end

/-! ### types -/
/-- a type's shape, if all that its table says fits -/
def shOf (P : Program) : Nat → TypeId → Option Sh
  | 0, _ => none
  | n + 1, t => match P.info? t, P.underlying t with
    | some i, some (.struct fs) =>
      match fs.toList.foldr (fun f acc => match acc, shOf P n f.type with
          | some l, some s => some (s :: l)
          | _, _ => none) (some []) with
      | some ls => if i.size = Sh.sizes ls ∧ (fs.toList.map (·.offset)) = (List.range ls.length).map (fun k => Sh.sizes (ls.take k)) then some (.st ls) else none
      | none => none
    | some i, some (.array k e) => match shOf P n e with
      | some s => if i.size = k * s.size then some (.arr k s) else none
      | none => none
    | some i, some _ => if i.size = 1 then some .cell else none
    | _, _ => none
def SH (P : Program) (t : TypeId) : Option Sh := shOf P 10 t
/-- of a slice's type: its elements' type -/
def EL (P : Program) (t : TypeId) : Option TypeId := match P.underlying t with
  | some (.slice e) => some e
  | _ => none
theorem EL_spec {P : Program} {t e : TypeId} (h : EL P t = some e) : P.underlying t = some (.slice e) := by
  unfold EL at h
  split at h
  · rename_i e' he; injection h with h; rw [he, h]
  · cases h
theorem shOf_spec {P : Program} {n : Nat} {t : TypeId} {s : Sh} (h : shOf P n t = some s) :
    ∃ i d, P.info? t = some i ∧ P.underlying t = some d ∧ i.size = s.size ∧ (d.isRow = true ↔ s ≠ .cell) := by
  cases n with
  | zero => simp [shOf] at h
  | succ n =>
    unfold shOf at h
    split at h
    · rename_i i fs hi hu
      split at h
      · rename_i ls hl
        split at h
        · rename_i hc
          injection h with h
          subst h
          exact ⟨i, _, hi, hu, by rw [hc.1]; rfl, by simp⟩
        · cases h
      · cases h
    · rename_i i k e hi hu
      split at h
      · rename_i s' hs
        split at h
        · rename_i hc
          injection h with h
          subst h
          exact ⟨i, _, hi, hu, by rw [hc]; rfl, by simp⟩
        · cases h
      · cases h
    · rename_i i d hns hna hi hu
      split at h
      · rename_i hc
        injection h with h
        subst h
        refine ⟨i, d, hi, hu, by rw [hc]; rfl, ?_⟩
        constructor
        · intro hr
          cases d <;> simp_all
        · intro hr
          exact absurd rfl hr
      · cases h
    · cases h
theorem foldr_fields {P : Program} {n : Nat} : ∀ (fs : List Field) (ls : List Sh), fs.foldr (fun f acc => match acc, shOf P n f.type with
          | some l, some s => some (s :: l)
          | _, _ => none) (some []) = some ls → ls.length = fs.length ∧ ∀ (i : Nat) (f : Field), fs[i]? = some f → ∃ s, ls[i]? = some s ∧ shOf P n f.type = some s
  | [], ls, h => by
    simp at h
    subst h
    exact ⟨rfl, fun i f hf => by simp at hf⟩
  | f :: fs, ls, h => by
    simp only [List.foldr_cons] at h
    split at h
    · rename_i l s hl hs
      injection h with h
      subst h
      obtain ⟨h1, h2⟩ := foldr_fields fs l hl
      refine ⟨by simp [h1], fun i g hg => ?_⟩
      cases i with
      | zero => simp at hg; subst hg; exact ⟨s, by simp, hs⟩
      | succ i => simp at hg; obtain ⟨s', g1, g2⟩ := h2 i g hg; exact ⟨s', by simpa using g1, g2⟩
    · cases h
theorem SH_struct {P : Program} {t : TypeId} {ls : List Sh} (h : SH P t = some (.st ls)) :
    ∃ fs, P.underlying t = some (.struct fs) ∧ fs.size = ls.length ∧ ∀ i s, ls[i]? = some s → ∃ f, fs[i]? = some f ∧ f.offset = Sh.sizes (ls.take i) ∧ shOf P 9 f.type = some s := by
  unfold SH shOf at h
  split at h
  · rename_i i fs hi hu
    split at h
    · rename_i l hl
      split at h
      · rename_i hc
        injection h with h
        injection h with h
        subst h
        obtain ⟨h1, h2⟩ := foldr_fields fs.toList l hl
        refine ⟨fs, hu, by rw [h1]; simp, fun i s hs => ?_⟩
        have hil : i < l.length := (List.getElem?_eq_some_iff.1 hs).1
        have hif : i < fs.toList.length := by omega
        obtain ⟨s', g1, g2⟩ := h2 i fs.toList[i] (List.getElem?_eq_getElem hif)
        rw [g1] at hs
        injection hs with hs
        subst hs
        refine ⟨fs.toList[i], by rw [← Array.getElem?_toList]; exact List.getElem?_eq_getElem hif, ?_, g2⟩
        have := congrArg (fun x => x[i]?) hc.2
        simp only [List.getElem?_map,List.getElem?_eq_getElem hif,Option.map_some,List.getElem?_range hil,Option.some.injEq] at this
        exact this
      · cases h
    · cases h
  · split at h
    · split at h <;> cases h
    · cases h
  · split at h <;> cases h
  · cases h
theorem SH_array {P : Program} {t : TypeId} {k : Nat} {s : Sh} (h : SH P t = some (.arr k s)) : ∃ e, P.underlying t = some (.array k e) ∧ shOf P 9 e = some s := by
  unfold SH shOf at h
  split at h
  · split at h
    · split at h <;> cases h
    · cases h
  · rename_i i k' e hi hu
    split at h
    · rename_i s' hs
      split at h
      · injection h with h
        injection h with h1 h2
        subst h1 h2
        exact ⟨e, hu, hs⟩
      · cases h
    · cases h
  · split at h <;> cases h
  · cases h
end Go.Proofs.Ytndbfphmjmhkjaa.V
