/-
  A MACHINE OF VALUES, EIGHTEENTH PART: arguments of a law, by their types, as trees.
-/
import Derived.Test.YtndbfphmjmhkjaaTy
import Derived.Test.YtndbfphmjmhkjaaVspec
set_option linter.unusedVariables false
set_option linter.unusedSectionVars false
set_option linter.unusedSimpArgs false
namespace Go.Proofs.Ytndbfphmjmhkjaa.V
open Go Go.RowKit

mutual
def tsh : Ty → Sh
  | .arr n t => .arr n (tsh t)
  | .fcons a b => .st (tsh a :: tshs b)
  | .fnil => .st []
  | _ => .cell
def tshs : Ty → List Sh
  | .fcons a b => tsh a :: tshs b
  | _ => []
end
/-- well formed: fields end with fnil, slices hold something -/
def twf : Ty → Bool
  | .arr _ t => twf t
  | .sl t => twf t && decide (0 < t.size)
  | .fcons a b => twf a && twf b && (match b with | .fnil => true | .fcons _ _ => true | _ => false)
  | _ => true
mutual
def toV : (t : Ty) → t.D → VV
  | .int k, x => let n : Int := x; .int k n
  | .u8, x => let b : UInt8 := x; .int .u8 b.toNat
  | .bool, x => let b : Bool := x; .bool b
  | .str, x => let s : List UInt8 := x; .str s
  | .arr _ t, x => let l : List t.D := x; .agg (l.map (toV t))
  | .sl t, x => let l : List t.D := x; .dat (tsh t) (l.map (toV t))
  | .fnil, _ => .agg []
  | .fcons a b, x => let p : a.D × b.D := x; .agg (toV a p.1 :: toVs b p.2)
def toVs : (t : Ty) → t.D → List VV
  | .fcons a b, x => let p : a.D × b.D := x; toV a p.1 :: toVs b p.2
  | _, _ => []
end
theorem chunks_cr {ρ : Names} {w : World} {t : Ty} (f : t.D → VV) : ∀ (l : List t.D) (cs : List Value), cs.length = l.length * t.size → (∀ i (h : i < l.length), Ty.Is w t ((cs.drop (i * t.size)).take t.size) l[i]) → (∀ x c, x ∈ l → Ty.Is w t c x → C1 ρ w (f x) c) → CR ρ w (l.map f) cs
  | [], cs, hl, _, _ => by
    have : cs = [] := List.eq_nil_of_length_eq_zero (by simpa using hl)
    simp only [List.map_nil,CR,this]
  | x :: l, cs, hl, h, hc => by
    simp only [List.map_cons,CR]
    have hsz : cs.length = l.length * t.size + t.size := by rw [hl, List.length_cons, Nat.succ_mul]
    refine ⟨cs.take t.size, cs.drop t.size, (List.take_append_drop _ _).symm, hc x _ (by simp) (by have h0 := h 0 (by simp); rw [Nat.zero_mul, List.drop_zero] at h0; exact h0), chunks_cr f l _ (by rw [List.length_drop]; omega) (fun i hi => ?_) fun x c hx => hc x c (by simp [hx])⟩
    have := h (i + 1) (by simpa using hi)
    rw [List.drop_drop, show t.size + i * t.size = (i + 1) * t.size by rw [Nat.succ_mul, Nat.add_comm]]
    exact this
theorem is_sound {w : World} : ∀ (t : Ty), twf t = true → (∀ (cs : List Value) (x : t.D), Ty.Is w t cs x → C1 (.bare fun _ => True) w (toV t x) cs ∧ Has (tsh t) (toV t x)) ∧
    ((match t with | .fnil => True | .fcons _ _ => True | _ => False) → ∀ (cs : List Value) (x : t.D), Ty.Is w t cs x → CR (.bare fun _ => True) w (toVs t x) cs ∧ HasL (tshs t) (toVs t x)) := by
  intro t
  induction t with
  | int k => intro _; exact ⟨fun cs x h => ⟨by simpa only [toV,C1] using h.1, by simp [tsh, toV, Has, VV.leaf]⟩, fun h => h.elim⟩
  | u8 => intro _; exact ⟨fun cs x h => ⟨by simp only [toV,C1]; exact h, by simp [tsh, toV, Has, VV.leaf]⟩, fun h => h.elim⟩
  | bool => intro _; exact ⟨fun cs x h => ⟨by simp only [toV,C1]; exact h, by simp [tsh, toV, Has, VV.leaf]⟩, fun h => h.elim⟩
  | str => intro _; exact ⟨fun cs x h => ⟨by simpa only [toV,C1] using h.1, by simp [tsh, toV, Has, VV.leaf]⟩, fun h => h.elim⟩
  | arr n t ih =>
    intro hw
    have ih := (ih (by simpa only [twf] using hw)).1
    refine ⟨fun cs (x : List t.D) h => ?_, fun h => h.elim⟩
    obtain ⟨h1, h2, h3⟩ := h
    have e : toV (.arr n t) x = .agg (x.map (toV t)) := by simp only [toV]
    rw [e]
    refine ⟨?_, ?_⟩
    · simp only [C1]
      exact chunks_cr _ _ cs (by rw [h1]; exact h2) h3 fun y c _ hy => (ih c y hy).1
    · simp only [tsh,Has]
      refine ⟨by rw [List.length_map]; exact h1, fun v hv => ?_⟩
      obtain ⟨y, hy, rfl⟩ := List.mem_map.1 hv
      obtain ⟨i, hi, e⟩ := List.mem_iff_getElem.1 hy
      have := (ih _ _ (h3 i hi)).2
      rw [← e]
      exact this
  | sl t ih =>
    intro hw
    simp only [twf,Bool.and_eq_true,decide_eq_true_eq] at hw
    have ih := (ih hw.1).1
    refine ⟨fun cs (x : List t.D) h => ?_, fun h => h.elim⟩
    obtain ⟨A, c, h1, h2, h3, ccs, h4, h5, h6⟩ := h
    have e : toV (.sl t) x = .dat (tsh t) (x.map (toV t)) := by simp only [toV]
    rw [e]
    refine ⟨?_, by simp [tsh, Has, VV.leaf]⟩
    simp only [C1]
    refine ⟨A, c, by rw [List.length_map]; exact h1, by rw [List.length_map]; exact h3, fun hne => ?_⟩
    have hpos : 0 < List.length (α := t.D) x := by
      apply Nat.pos_of_ne_zero
      intro e
      exact hne (by rw [List.eq_nil_of_length_eq_zero e]; rfl)
    have hcc : 0 < ccs.length := by rw [h4]; exact Nat.mul_pos hpos hw.2
    obtain ⟨b, o, hA, hcell⟩ := h5 hcc
    refine ⟨b, o, ccs, hA, chunks_cr _ _ ccs h4 h6 fun y c _ hy => (ih c y hy).1, fun e he => ?_, fun j v hv => ?_, ⟨trivial, fun n l hn => by cases hn⟩, cell_lt (hcell 0 hcc)⟩
    · obtain ⟨y, hy, rfl⟩ := List.mem_map.1 he
      obtain ⟨i, hi, e⟩ := List.mem_iff_getElem.1 hy
      have := (ih _ _ (h6 i hi)).2
      rw [← e]
      exact this
    · obtain ⟨hj, e⟩ := List.getElem?_eq_some_iff.1 hv
      rw [hcell j hj]
      simp [List.getD_eq_getElem?_getD, hv]
  | fnil => intro _; exact ⟨fun cs x h => ⟨by simp only [toV,C1,CR]; exact h, by simp [tsh, toV, Has, HasL]⟩, fun _ cs x h => ⟨by simp only [toVs,CR]; exact h, by simp [tshs, toVs, HasL]⟩⟩
  | fcons a b iha ihb =>
    intro hw
    simp only [twf,Bool.and_eq_true] at hw
    have iha := (iha hw.1.1).1
    have ihb := (ihb hw.1.2).2 (by revert hw; cases b <;> simp)
    have key : ∀ (cs : List Value) (x : (Ty.fcons a b).D), Ty.Is w (.fcons a b) cs x → CR (.bare fun _ => True) w (toVs (.fcons a b) x) cs ∧ HasL (tshs (.fcons a b)) (toVs (.fcons a b) x) := by
      intro cs x h
      obtain ⟨h1, h2, h3⟩ := h
      obtain ⟨a1, a2⟩ := iha _ _ h2
      obtain ⟨b1, b2⟩ := ihb _ _ h3
      simp only [toVs,tshs,CR,HasL]
      exact ⟨⟨_, _, (List.take_append_drop a.size cs).symm, a1, b1⟩, a2, b2⟩
    refine ⟨fun cs x h => ?_, fun _ => key⟩
    obtain ⟨k1, k2⟩ := key cs x h
    exact ⟨by simp only [toV,C1]; simpa only [toVs] using k1, by simp only [toV,tsh,Has]; simpa only [toVs,tshs] using k2⟩
theorem val_sound {w : World} {t : Ty} (hw : twf t = true) {v : Value} {x : t.D} (h : Ty.Val w t v x) : VR (.bare fun _ => True) w (toV t x) v := by
  have hs := (is_sound (w := w) t hw).1
  cases t with
  | arr n t =>
    obtain ⟨cs, rfl, h⟩ := h
    have := (hs _ _ h).1
    simp only [toV,C1] at this ⊢
    exact ⟨_, rfl, this⟩
  | fnil =>
    obtain ⟨cs, rfl, h⟩ := h
    have := (hs _ _ h).1
    simp only [toV,C1] at this ⊢
    exact ⟨_, rfl, this⟩
  | fcons a b =>
    obtain ⟨cs, rfl, h⟩ := h
    have := (hs _ _ h).1
    simp only [toV,C1] at this ⊢
    exact ⟨_, rfl, this⟩
  | int k => have := (hs _ _ h).1; simpa only [toV,VR,VR1] using this
  | u8 => have := (hs _ _ h).1; simpa only [toV,VR,VR1] using this
  | bool => have := (hs _ _ h).1; simpa only [toV,VR,VR1] using this
  | str => have := (hs _ _ h).1; simpa only [toV,VR,VR1] using this
  | sl t => have := (hs _ _ h).1; simpa only [toV,VR,VR1] using this
/-- numbers in their range, arrays of their length -/
def good : (t : Ty) → t.D → Prop
  | .int k, (x : Int) => (Lit.int k x).wf = true
  | .arr n t, (l : List t.D) => l.length = n ∧ ∀ x ∈ l, good t x
  | .sl t, (l : List t.D) => ∀ x ∈ l, good t x
  | .fcons a b, (x : a.D × b.D) => good a x.1 ∧ good b x.2
  | _, _ => True
theorem good_of {w : World} : ∀ (t : Ty) (cs : List Value) (x : t.D), Ty.Is w t cs x → good t x := by
  intro t
  induction t with
  | int k => intro cs x h; exact h.2
  | u8 => intro _ _ _; trivial
  | bool => intro _ _ _; trivial
  | str => intro _ _ _; trivial
  | arr n t ih =>
    intro cs (x : List t.D) h
    refine ⟨h.1, fun y hy => ?_⟩
    obtain ⟨i, hi, rfl⟩ := List.mem_iff_getElem.1 hy
    exact ih _ _ (h.2.2 i hi)
  | sl t ih =>
    intro cs (x : List t.D) h
    obtain ⟨A, c, h1, h2, h3, ccs, h4, h5, h6⟩ := h
    intro y hy
    obtain ⟨i, hi, rfl⟩ := List.mem_iff_getElem.1 hy
    exact ih _ _ (h6 i hi)
  | fnil => intro _ _ _; trivial
  | fcons a b iha ihb =>
    intro cs x h
    exact ⟨iha _ _ h.2.1, ihb _ _ h.2.2⟩
theorem good_val {w : World} {t : Ty} {v : Value} {x : t.D} (h : Ty.Val w t v x) : good t x := by
  unfold Ty.Val at h
  split at h
  · obtain ⟨cs, _, h⟩ := h; exact good_of t _ x h
  · exact good_of t _ x h
/-- a law that answers true -/
theorem law_true {P : Program} {f : FuncId} {ds : List VV} {xs : List Value} {W : World} (h : Spec P f ds (.bool true)) (hx : VRA (.bare fun _ => True) W ds xs) : Calls P f xs.toArray W (fun e W' => e = .returned (.bool true) ∧ Kept W W') := by
  refine (h _ W xs hx).mono fun e W' ⟨x, he, hb, hv⟩ => ?_
  subst he
  have : x = .bool true := by simpa only [VR,VR1,C1,List.cons.injEq,and_true] using hv
  exact ⟨by rw [this], hb⟩
end Go.Proofs.Ytndbfphmjmhkjaa.V
