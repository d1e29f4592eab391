/-
  REGIONS THAT DRAW THEIR ORDER: a quiet head, then operations one behind the other, then a suffix of moves, assigns and extracts in whatever order.
-/
import Derived.Test.YtgalfkjhogidmaaRegion
namespace Go.Proofs.Ytgalfkjhogidmaa
open Go.RowKit

section
variable {P : Program} {ops : Array Oper} {md : Region.Mode} {C : World → Prop}

/-- an operation that hangs on its slots alone -/
def plainOp (o : Oper) : Bool := o.guard.isNone && (match o.op with | .move _ | .assign _ | .extract _ _ => true | _ => false)

theorem plain_run {o : Oper} (h : plainOp o = true) (a : Act) : (∃ v, ∀ w, (execOp a.eval o).run P w = .ok (.value v) w) ∨ (∀ w K Q, ¬ o.upon P a K Q ((execOp a.eval o).run P w)) := by
  simp only [plainOp, Bool.and_eq_true] at h
  obtain ⟨_, h⟩ := h
  cases ho : o.op with
  | move x => exact .inl ⟨_, fun w => BigFrame.run_move x ho w⟩
  | assign x => exact .inl ⟨_, fun w => BigFrame.run_assign x ho w⟩
  | extract t i =>
    cases ht : a.eval t with
    | tuple vs =>
      cases hv : vs[i]? with
      | some v => exact .inl ⟨v, fun w => by unfold execOp; simp [ho, Instr.extract, ht, hv]⟩
      | none => exact .inr fun w K Q => by unfold execOp; simp [ho, Instr.extract, ht, hv, Oper.upon]
    | _ => exact .inr fun w K Q => by unfold execOp; simp [ho, Instr.extract, ht, Oper.upon]
  | _ => simp [ho] at h
theorem plain_asks {o : Oper} (h : plainOp o = true) (a : Act) (w : World) : ¬ o.asks P a w := by
  simp only [plainOp, Bool.and_eq_true] at h
  obtain ⟨_, h⟩ := h
  rintro ⟨h1, _⟩
  cases ho : o.op with
  | move x => unfold execOp at h1; simp [ho] at h1; change noRoomEvent ∈ (#[] : Array Event) at h1; simp at h1
  | assign x => unfold execOp at h1; simp [ho] at h1; change noRoomEvent ∈ (#[] : Array Event) at h1; simp at h1
  | extract t i =>
    unfold execOp at h1
    cases ht : a.eval t with
    | tuple vs =>
      cases hv : vs[i]? <;> simp [ho, Instr.extract, ht, hv] at h1 <;> change noRoomEvent ∈ (#[] : Array Event) at h1 <;> simp at h1
    | _ => simp [ho, Instr.extract, ht] at h1; change noRoomEvent ∈ (#[] : Array Event) at h1; simp at h1
  | _ => simp [ho] at h

theorem plain_wanted {o : Oper} (h : plainOp o = true) (y : Nat → Option Bool) : Region.wanted o y = true := by
  simp only [plainOp, Bool.and_eq_true, Option.isNone_iff_eq_none] at h
  unfold Region.wanted
  rw [h.1]

/-- operations that hang on their slots alone: the walk in the text's order is a quiet one -/
theorem quiet_of_list {Q : Exit → Act → World → Prop} : ∀ (l : List Oper) (a : Act) (w : World), (l.all plainOp) = true → wpList P ops Q l a w → wpQuiet P ops (fun w' => w' = w) (fun a' => ∀ w', w' = w → Q .normal a' w') l a
  | [], a, w, _, h => by rintro w' rfl; exact h
  | o :: l, a, w, hp, h => by
    simp only [List.all_cons, Bool.and_eq_true] at hp
    have hw := plain_wanted hp.1 (yielded ops a.tmps)
    unfold wpList at h
    unfold wpQuiet
    rw [if_pos hw] at h ⊢
    rcases h with h | h
    · rcases plain_run (P := P) hp.1 a with ⟨v, hv⟩ | hv
      · refine ⟨v, fun w' e => ?_, ?_⟩
        · subst e
          unfold Oper.quietAt
          rw [hv]
          exact ⟨rfl, rfl⟩
        · unfold Oper.wp at h
          rw [hv] at h
          exact quiet_of_list l _ w hp.2 h
      · exact absurd h (hv w _ _)
    · exact absurd h.1 (plain_asks hp.1 a w)

/-- one behind the other, then whatever order -/
def seqLexB (md : Region.Mode) (ops : Array Oper) : Nat → Nat → Nat → Array Bool → Bool
  | 0, g, k, listed => Region.lexFrom md ops g k listed && (Region.ready md ops listed).all (fun j => decide (k ≤ j))
  | m + 1, g, k, listed => decide (Region.ready md ops listed = [k]) && seqLexB md ops m g (k + 1) (listed.setIfInBounds k true)
theorem seqLexB_ready {m g k : Nat} {listed : Array Bool} (h : seqLexB md ops m g k listed = true) : ∀ j ∈ Region.ready md ops listed, k ≤ j := by
  cases m with
  | zero =>
    intro j hj
    simp only [seqLexB, Bool.and_eq_true, List.all_eq_true, decide_eq_true_eq] at h
    exact h.2 j hj
  | succ m =>
    intro j hj
    simp only [seqLexB, Bool.and_eq_true, decide_eq_true_eq] at h
    rw [h.1] at hj
    have : j = k := by simpa using hj
    omega

theorem wpAny_of_seqLex {Q' : Exit → Act → World → Prop} (hsel : Region.noSelect ops = true) (suf : List Oper) (hsuf : suf.all plainOp = true) : ∀ (l : List Oper) (k : Nat) (listed : Array Bool) (a : Act) (w : World), (∀ j, (l ++ suf)[j]? = ops[k + j]?) →
    seqLexB md ops l.length suf.length k listed = true → wpList P ops Q' (l ++ suf) a w → wpAny P md ops Q' (l ++ suf).length listed a w
  | [], k, listed, a, w, hl, hB, h => by
    simp only [List.length_nil, seqLexB, Bool.and_eq_true] at hB
    exact wpAny_of_quiet (Q := fun a' => ∀ w', w' = w → Q' .normal a' w') (fun a w' hw' h => h w' hw') _ _ _ w rfl
      (wpAnyQ_lex hsel suf k listed a hl hB.1 (quiet_of_list suf a w hsuf h))
  | o :: l, k, listed, a, w, hl, hB, h => by
    have h0 : ops[k]? = some o := by simpa using (hl 0).symm
    simp only [List.length_cons, seqLexB, Bool.and_eq_true, decide_eq_true_eq] at hB
    refine ⟨fun h1 => (by rw [hB.1] at h1; cases h1), fun i hi => ?_⟩
    rw [hB.1] at hi
    have hik : i = k := by simpa using hi
    subst hik
    have hw : wpOp P ops Q' i (wpList P ops Q' (l ++ suf)) a w := by unfold wpOp; simp only [h0]; exact h
    exact wpOp_mono (fun a' w' h' => wpAny_of_seqLex hsel suf hsuf l (i + 1) _ a' w' (fun j => by have := hl (j + 1); simpa [Nat.add_assoc, Nat.add_comm 1 j] using this) hB.2 h') hw

/-- every operation behind the head's end waits for one of the tail before it -/
def chainX (md : Region.Mode) (ops : Array Oper) (n : Nat) : Bool :=
  (List.range ops.size).all fun t => decide (t ≤ n) || (List.range t).any fun j => decide (n ≤ j) && Region.waitsFor md ops t j
theorem tail_waitsX {n : Nat} {listed : Array Bool} (hs : Region.sinkB md ops n = true) (hc : chainX md ops n = true) (hn : n < ops.size) (inv : HeadInv md ops n listed) :
    ∀ (d i : Nat), n - i = d → i < n → listed.getD i true = false → ∀ t, n ≤ t → t ∉ Region.ready md ops listed := by
  intro d
  induction d using Nat.strongRecOn with
  | _ d ih =>
    intro i hd hi hun t ht hr
    obtain ⟨_, ot, hot, hall⟩ := mem_ready.1 hr
    have htlt : t < ops.size := (Array.getElem?_eq_some_iff.1 hot).1
    by_cases htn : t = n
    · subst htn
      have h1 := List.all_eq_true.1 hs i (List.mem_range.2 hi)
      obtain ⟨j, hj, hj2⟩ := List.any_eq_true.1 h1
      simp only [Bool.and_eq_true, decide_eq_true_eq] at hj2
      obtain ⟨oj, hoj, e, he, hb, hon⟩ := Region.waitsFor_spec hj2.2
      have hjle : j ≤ t := by have := List.mem_range.1 hj; omega
      by_cases hjt : j = t
      · subst hjt
        have : oj = ot := Option.some.inj (hoj.symm.trans hot)
        subst this
        have h2 := hall e he hb
        rw [hon, getD_both hun] at h2
        cases h2
      · cases hl : listed.getD j false with
        | true =>
          have h2 := inv.closed j oj hoj hl e he hb
          rw [hon, getD_both hun] at h2
          cases h2
        | false =>
          have hjs : j < listed.size := by rw [inv.size]; omega
          exact ih (t - j) (by omega) j rfl (by omega) (getD_in hjs hl) t (Nat.le_refl _) hr
    · have h1 := List.all_eq_true.1 hc t (List.mem_range.2 htlt)
      simp only [Bool.or_eq_true, decide_eq_true_eq] at h1
      rcases h1 with h1 | h1
      · omega
      · obtain ⟨j, hj, hj2⟩ := List.any_eq_true.1 h1
        simp only [Bool.and_eq_true, decide_eq_true_eq] at hj2
        have hjt := List.mem_range.1 hj
        obtain ⟨o', ho', e, he, hb, hon⟩ := Region.waitsFor_spec hj2.2
        have : o' = ot := Option.some.inj (ho'.symm.trans hot)
        subst this
        have h2 := hall e he hb
        rw [hon, getD_both (inv.tail j hj2.1 (by omega))] at h2
        cases h2

theorem anyHead_firstX {n i : Nat} {oi : Oper} {v : Value} {L : Array Bool → Act → Prop} (hi : ops[i]? = some oi) (hsel : ∀ (j : Nat) (o : Oper) cs b, ops[j]? = some o → o.op ≠ .select cs b)
    (hs : Region.sinkB md ops n = true) (hc : chainX md ops n = true) (hn : n < ops.size) (hin : i < n) (hdone : ∀ listed a, L listed a → ∀ j ∈ Region.ready md ops listed, n ≤ j) :
    ∀ (f : Nat) (listed : Array Bool) (a : Act), HeadInv md ops n listed →
      (∀ j oj, ops[j]? = some oj → j ≠ i → listed.getD j true = false → (∀ e ∈ oj.after, Region.binds md e = true → e.on ≠ i) → oi.apart ops oj = true) →
      i ∈ Region.ready md ops listed → YieldsIn P ops C oi v a →
      AnyHead P md ops C n L f (listed.setIfInBounds i true) (a.put oi.dst v) → AnyHead P md ops C n L (f + 1) listed a := by
  intro f
  induction f with
  | zero =>
    intro listed a inv _ hr hy H
    have hun := (mem_ready.1 hr).1
    refine ⟨fun h => (by rw [h] at hr; cases hr), fun j hj => ?_⟩
    have hjn : j < n := Nat.lt_of_not_le fun h => tail_waitsX hs hc hn inv _ i rfl hin hun j h hj
    refine ⟨hjn, ?_⟩
    by_cases hji : j = i
    · subst hji; exact hy.qOp hi H
    · have := hdone _ _ H j (ready_mono hj hji)
      omega
  | succ f ih =>
    intro listed a inv hfree hr hy H
    have hun := (mem_ready.1 hr).1
    refine ⟨fun h => (by rw [h] at hr; cases hr), fun j hj => ?_⟩
    have hjn : j < n := Nat.lt_of_not_le fun h => tail_waitsX hs hc hn inv _ i rfl hin hun j h hj
    refine ⟨hjn, ?_⟩
    by_cases hji : j = i
    · subst hji; exact hy.qOp hi H
    · have h1 := (H.2 j (ready_mono hj hji)).2
      obtain ⟨hjun, oj, hoj, hall⟩ := mem_ready.1 hj
      have hnot : ∀ e ∈ oj.after, Region.binds md e = true → e.on ≠ i := fun e he hb heq => by
        have h1 := hall e he hb
        rw [heq, getD_both hun] at h1
        cases h1
      have h2 := qOp_put hoj (hfree j oj hoj hji hjun hnot) (fun cs b => hsel i oi cs b hi) (fun cs b => hsel j oj cs b hoj) hy h1
      have hfree' : ∀ k ok, ops[k]? = some ok → k ≠ i → (listed.setIfInBounds j true).getD k true = false →
          (∀ e ∈ ok.after, Region.binds md e = true → e.on ≠ i) → oi.apart ops ok = true := fun k ok hk hki hun hno => by
        refine hfree k ok hk hki ?_ hno
        by_cases hjk : j = k
        · subst hjk; exact hjun
        · rw [getD_set_ne true hjk] at hun; exact hun
      refine qOp_mono (fun a' h3 => ih (listed.setIfInBounds j true) a' (inv.set hj hjn) hfree' (ready_mono hr (Ne.symm hji)) h3.1 ?_) h2
      rw [Array.setIfInBounds_comm _ _ hji]
      exact h3.2


def lexHeadX (md : Region.Mode) (ops : Array Oper) (m g : Nat) : Nat → Nat → Array Bool → Bool
  | 0, k, listed => seqLexB md ops m g k listed
  | f + 1, k, listed => (Region.ready md ops listed).contains k && Region.free md ops listed k && lexHeadX md ops m g f (k + 1) (listed.setIfInBounds k true)

theorem anyHead_lexX {n m g : Nat} {Lq : Act → Prop} (hsel : Region.noSelect ops = true) (hs : Region.sinkB md ops n = true) (hc : chainX md ops n = true) (hn : n < ops.size) :
    ∀ (l : List Oper) (k : Nat) (listed : Array Bool) (a : Act), (∀ j, j < l.length → l[j]? = ops[k + j]?) → k + l.length = n → HeadInv md ops n listed →
    lexHeadX md ops m g l.length k listed = true → wpQuiet P ops C Lq l a →
    AnyHead P md ops C n (fun listed' a' => seqLexB md ops m g n listed' = true ∧ Lq a') l.length listed a
  | [], k, listed, a, _, hk, _, hB, h => by
    have : k = n := by simpa using hk
    subst this
    exact ⟨by simpa [lexHeadX] using hB, h⟩
  | o :: l, k, listed, a, hl, hk, inv, hB, h => by
    have h0 : ops[k]? = some o := by simpa using (hl 0 (by simp)).symm
    simp only [List.length_cons, lexHeadX, Bool.and_eq_true] at hB
    obtain ⟨⟨hr, hf⟩, hB'⟩ := hB
    have hkn : k < n := by simp only [List.length_cons] at hk; omega
    have hr' : k ∈ Region.ready md ops listed := by simpa using hr
    have hst : qOp P ops C k (wpQuiet P ops C Lq l) a := by unfold qOp; simp only [h0]; exact h
    obtain ⟨v, hy, hK⟩ := yieldsIn_of_qOp h0 hst
    exact anyHead_firstX h0 (Region.noSelect_spec hsel) hs hc hn hkn (fun listed' a' hL => seqLexB_ready hL.1) l.length listed a inv (Region.free_spec h0 hf) hr' hy
      (anyHead_lexX hsel hs hc hn l (k + 1) _ _ (fun j hj => by have := hl (j + 1) (by simp; omega); simpa [Nat.add_assoc, Nat.add_comm 1 j] using this) (by simp only [List.length_cons] at hk; omega) (inv.set hr' hkn) hB' hK)

def lexTailX (md : Region.Mode) (l : List Oper) (n m : Nat) : Bool :=
  Region.noSelect l.toArray && decide (n < l.length) && decide (n + m ≤ l.length) && Region.sinkB md l.toArray n && chainX md l.toArray n && (l.drop (n + m)).all plainOp &&
    lexHeadX md l.toArray m (l.length - n - m) n 0 (Array.replicate l.toArray.size false)

/-- a quiet head of n operations, in whatever order; m operations one behind the other; then moves, assigns, extracts in whatever order -/
theorem wp_region_quiet_tailX {id : Nat} {Q : Exit → Act → World → Prop} {a : Act} {w : World} {l : List Oper} (n m : Nat) (hm : P.follows .mixedOrders = true) (hB : lexTailX .any l n m = true)
    (hC : C { w with drawn := w.drawn + 1 }) (h : wpQuiet P l.toArray C (fun a' => ∀ w', C w' → wpList P l.toArray Q (l.drop n) a' w') (l.take n) a) : (Code.region id l.toArray true).wp P Q a w := by
  simp only [lexTailX, Bool.and_eq_true, decide_eq_true_eq] at hB
  obtain ⟨⟨⟨⟨⟨⟨hsel, hn⟩, hnm⟩, hs⟩, hc⟩, hpl⟩, hlex⟩ := hB
  have htl : (l.take n).length = n := by simp; omega
  have hdl : (l.drop n).length = l.length - n := by simp
  have inv0 : HeadInv .any l.toArray n (Array.replicate l.toArray.size false) :=
    ⟨by simp, fun j oj _ hl => (by rw [getD_replicate_false] at hl; cases hl), fun t _ ht => getD_in (by simpa using ht) (getD_replicate_false _ _)⟩
  have H := anyHead_lexX (md := .any) (m := m) (g := l.length - n - m) hsel hs hc (by simpa using hn) (l.take n) 0 _ a (fun j hj => by
    have hj' : j < n := by rw [htl] at hj; exact hj
    simp [hj']) (by simpa using htl) inv0 (by rw [htl]; exact hlex) h
  refine wp_region_any hm ?_
  have hsplit : (l.drop n).take m ++ l.drop (n + m) = l.drop n := by rw [← List.drop_drop, List.take_append_drop]
  have hlm : ((l.drop n).take m).length = m := by simp; omega
  have hls : (l.drop (n + m)).length = l.length - n - m := by simp; omega
  have := anyHead_wp (Q' := Q) (g := l.length - n) (fun listed a' w' hw' hL => by
    have := wpAny_of_seqLex (md := .any) (Q' := Q) hsel (l.drop (n + m)) hpl ((l.drop n).take m) n listed a' w' (fun j => by rw [hsplit]; simp [List.getElem?_drop]) (by rw [hlm, hls]; exact hL.1) (by rw [hsplit]; exact hL.2 w' hw')
    rwa [hsplit, hdl] at this) _ _ _ _ hC H
  rw [htl, show n + (l.length - n) = l.toArray.size by simp; omega] at this
  exact this

/-- .. at the class 'some draws later' -/
theorem region_tailX {id : Nat} {Q : Exit → Act → World → Prop} {a : Act} {w : World} {l : List Oper} (n m : Nat) (hm : P.follows .mixedOrders = true) (hB : lexTailX .any l n m = true)
    (h : wpQuiet P l.toArray (fun w' => ∃ n, w' = w.drewN n) (fun a' => ∀ w', (∃ n, w' = w.drewN n) → wpList P l.toArray Q (l.drop n) a' w') (l.take n) a) : (Code.region id l.toArray true).wp P Q a w :=
  wp_region_quiet_tailX (C := fun w' => ∃ n, w' = w.drewN n) n m hm hB ⟨1, rfl⟩ h
end
end Go.Proofs.Ytgalfkjhogidmaa
