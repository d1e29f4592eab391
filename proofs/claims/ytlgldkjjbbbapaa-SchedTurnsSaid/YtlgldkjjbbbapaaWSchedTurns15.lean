/-
  Parts of the proof of SchedTurns: VregS, NE.
  Conditions: none.
-/
import Derived.Test.YtlgldkjjbbbapaaWSchedTurns14
import Derived.Test.YtlgldkjjbbbapaaWSchedTurns12
import Derived.Test.YtlgldkjjbbbapaaWSchedTurns13
section
/-
  A MACHINE OF VALUES: regions whose order is drawn, with several stores; a quicker test of the form.
-/
set_option linter.unusedVariables false
set_option linter.unusedSectionVars false
set_option linter.unusedSimpArgs false
namespace Go.Proofs.Ytlgldkjjbbbapaa.V
open Go Go.RowKit

/-- does an operation wait for another one? (never below it) -/
def reachC (ops : Array Oper) : Nat → Oper → Nat → Bool
  | 0, _, _ => false
  | f + 1, o, j => o.after.any fun e => Region.binds .any e && (e.on == j || (decide (j < e.on) && (match ops[e.on]? with | some o' => reachC ops f o' j | none => false)))
theorem reachC_B {ops : Array Oper} : ∀ (f : Nat) (o : Oper) (j : Nat), reachC ops f o j = true → reachB ops f o j = true
  | 0, _, _, h => by simp [reachC] at h
  | f + 1, o, j, h => by
    simp only [reachC,reachB,Array.any_eq_true'] at h ⊢
    obtain ⟨e, he, h⟩ := h
    refine ⟨e, he, ?_⟩
    simp only [Bool.and_eq_true,Bool.or_eq_true,beq_iff_eq,decide_eq_true_eq] at h ⊢
    obtain ⟨hb, h⟩ := h
    refine ⟨hb, ?_⟩
    rcases h with h | ⟨_, h⟩
    · exact .inl h
    · right
      split at h
      · rename_i o' ho'
        rw [ho']
        exact reachC_B f o' j h
      · cases h
/-- drawOk, told more quickly -/
def drawOkC (ops : Array Oper) (k : Nat) : Bool :=
  decide (k ≤ ops.size) && wfL ops (ops.toList.take k) && (List.range k).all (fun j => match ops[j]? with | some o => o.after.all (fun e => !Region.binds .any e || decide (e.on < j)) | none => true) &&
  ((List.range k).all fun i => match ops[i]? with
    | some o => (o.looksAt ops).all fun t => (List.range k).all fun j => (match ops[j]? with | some o' => o'.dst != some t | none => true) || reachC ops ops.size o j
    | none => true) &&
  ((List.range ops.size).all fun j => decide (j < k) || (match ops[j]? with
    | some o => (List.range j).all (fun i => reachC ops ops.size o i) && o.after.all (fun e => !Region.binds .any e || decide (e.on < j))
    | none => true))
theorem all_mono {α : Type} {p q : α → Bool} {l : List α} (hpq : ∀ x ∈ l, p x = true → q x = true) (h : l.all p = true) : l.all q = true :=
  List.all_eq_true.2 fun x hx => hpq x hx (List.all_eq_true.1 h x hx)
theorem or_mono {a b c : Bool} (hbc : b = true → c = true) (h : (a || b) = true) : (a || c) = true := by
  cases a
  · exact hbc h
  · rfl
theorem drawOkC_ok {ops : Array Oper} {k : Nat} (h : drawOkC ops k = true) : drawOk ops k = true := by
  unfold drawOkC at h
  unfold drawOk
  simp only [Bool.and_eq_true] at h ⊢
  obtain ⟨⟨⟨⟨h1, h2⟩, h3⟩, h4⟩, h5⟩ := h
  refine ⟨⟨⟨⟨h1, h2⟩, h3⟩, all_mono (fun i _ hi => ?_) h4⟩, all_mono (fun j _ hj => or_mono (fun hj => ?_) hj) h5⟩
  · split at hi
    · rename_i o ho
      rw [ho]
      exact all_mono (fun t _ ht => all_mono (fun j _ hj => or_mono (reachC_B _ _ _) hj) ht) hi
    · rename_i ho; rw [ho]
  · split at hj
    · rename_i o ho
      rw [ho]
      simp only [Bool.and_eq_true] at hj ⊢
      exact ⟨all_mono (fun i _ hi => reachC_B _ _ _ hi) hj.1, hj.2⟩
    · rename_i ho; rw [ho]
section
variable {P : Program} {n0 : Nat} {K : VX → VS → Prop}
theorem ok_drawC {id : Nat} {l : List Oper} {tm : Nat → VV} {H : Heap} {n : Nat} (k : Nat) (hm : P.follows .mixedOrders = true) (hd : drawOkC l.toArray k = true) (hfr : ∀ m, n ≤ m → H m = none)
    (h : ∀ M : VS → Prop, (∀ S, K .normal S → M S) → vh P l (l.take k) tm H n fun tm H n => vl P l (l.drop k) ⟨tm, H, n⟩ M) : Ok P n0 (.region id l.toArray true) ⟨tm, H, n⟩ K := ok_draw k hm (drawOkC_ok hd) hfr h
end
/-- blocks as the stores leave them that are done -/
def gst (l : List (Nat × Nat × Blk)) (G : Heap) (f : Nat → Bool) : Heap := fun m => match l.find? fun e => f e.1 && e.2.1 == m with
  | some e => some e.2.2
  | none => G m
theorem find_congr {α : Type} {p q : α → Bool} : ∀ (l : List α), (∀ x ∈ l, p x = q x) → l.find? p = l.find? q
  | [], _ => rfl
  | x :: l, h => by
    rw [List.find?_cons, List.find?_cons, h x (by simp), find_congr l fun y hy => h y (by simp [hy])]
theorem gst_congr {l : List (Nat × Nat × Blk)} {G : Heap} {f g : Nat → Bool} (h : ∀ e ∈ l, f e.1 = g e.1) : gst l G f = gst l G g := by
  funext m
  unfold gst
  rw [find_congr l fun e he => by rw [h e he]]
theorem gst_other {l : List (Nat × Nat × Blk)} {G : Heap} {f : Nat → Bool} {m : Nat} (h : ∀ e ∈ l, f e.1 = true → e.2.1 ≠ m) : gst l G f m = G m := by
  unfold gst
  rw [List.find?_eq_none.2 fun e he => by
    simp only [Bool.and_eq_true,beq_iff_eq,not_and]
    exact h e he]
theorem gst_step {l : List (Nat × Nat × Blk)} {G : Heap} {f g : Nat → Bool} {e : Nat × Nat × Blk} (he : e ∈ l) (hdis : ∀ a ∈ l, ∀ b ∈ l, a.2.1 = b.2.1 ∨ a.1 = b.1 → a = b) (hge : g e.1 = true) (hg : ∀ j, j ≠ e.1 → g j = f j) :
    gst l G g = upd (gst l G f) e.2.1 (some e.2.2) := by
  funext m
  rw [upd_ap]
  split
  · rename_i hm
    subst hm
    unfold gst
    cases hx : l.find? fun a => g a.1 && a.2.1 == e.2.1 with
    | none =>
      have := List.find?_eq_none.1 hx e he
      simp [hge] at this
    | some a =>
      have h1 := List.mem_of_find?_eq_some hx
      have h2 := List.find?_some hx
      simp only [Bool.and_eq_true,beq_iff_eq] at h2
      rw [hdis a h1 e he (.inl h2.2)]
  · rename_i hm
    unfold gst
    rw [find_congr l fun a ha => ?_]
    by_cases h : a.1 = e.1
    · have := hdis a ha e he (.inr h)
      subst this
      have : (a.2.1 == m) = false := by simpa using Ne.symm hm
      rw [this, Bool.and_false, Bool.and_false]
    · rw [hg _ h]
section
variable {P : Program} {N B : Nat} {ρ0 : Names} {w0 : World} {ops : Array Oper} {k nx : Nat} {sts : List (Nat × Nat × Blk)} {perm : List Nat} {tm0 tmF : Nat → VV} {GA : Heap} {env : Nat → Nat → VV} {K : VS → Prop} {Q : Exit → Act → World → Prop}
theorem head3 (hk : k ≤ ops.size) (hd : ∀ o ∈ ops.toList, ∀ t, o.dst = some t → t < N)
    (hreach : ∀ j o, k ≤ j → ops[j]? = some o → (∀ i, i < j → reachB ops ops.size o i = true) ∧ ∀ e ∈ o.after, Region.binds .any e = true → e.on < j)
    (hb : ∀ j o, j < k → ops[j]? = some o → ∀ e ∈ o.after, Region.binds .any e = true → e.on < j)
    (hperm : ∀ i, i < k → (∀ e ∈ sts, e.1 ≠ i) → ∃ q : Nat, perm[q]? = some i)
    (hpk : ∀ (q : Nat) i, perm[q]? = some i → i < k ∧ ∀ e ∈ sts, e.1 ≠ i)
    (hpl : perm.length ≤ k)
    (huniq : ∀ (q r : Nat) i, perm[q]? = some i → perm[r]? = some i → q = r)
    (hone : ∀ i j t, i < k → j < k → i ≠ j → dstB ops i t = true → dstB ops j t = false)
    (henv : ∀ (q : Nat) i o t, perm[q]? = some i → ops[i]? = some o → t ∈ o.looksAt ops → ∀ listed, listed.getD i false = false → Closed ops listed → (∀ e ∈ o.after, Region.binds .any e = true → listed.getD e.on false = true) → tmQ ops listed k tm0 tmF t = env q t)
    (hsk : ∀ e ∈ sts, e.1 < k)
    (hdis : ∀ e ∈ sts, ∀ e' ∈ sts, e.2.1 = e'.2.1 ∨ e.1 = e'.1 → e = e')
    (hF : ∀ (q : Nat) i o, perm[q]? = some i → ops[i]? = some o → ∀ listed : Array Bool, listed.getD i false = false → Closed ops listed → Fact2 P ops.toList (env q) tmF (gst sts GA fun j => listed.getD j false) (nx + 64 * q) o)
    (hS : ∀ e ∈ sts, ∀ o, ops[e.1]? = some o → o.dst = none ∧ o.guard = none ∧ ∃ t y x, o.op = .store t y x ∧ (∀ listed, Closed ops listed → (∀ e ∈ o.after, Region.binds .any e = true → listed.getD e.on false = true) → ∀ z ∈ o.op.operands.toList, ev (tmQ ops listed k tm0 tmF) z = ev tmF z) ∧ (∀ z, z = y ∨ z = x → z ∈ o.op.operands.toList) ∧ ∀ f : Nat → Bool, f e.1 = false → vStore P (ev tmF) (gst sts GA f) 0 (fun v G n => v = .any ∧ G = upd (gst sts GA f) e.2.1 (some e.2.2) ∧ n = 0) t y x)
    (htail : vlist P ops.toList (ops.toList.drop k) ⟨tmF, gst sts GA fun _ => true, nx + 64 * k⟩ K)
    (next : ∀ S' a' w' ρ', K S' → SR N B ρ0 w0 S' a' w' ρ' → Q .normal a' w') :
    ∀ (fuel : Nat) (listed : Array Bool) (a : Act) (w : World) (ρ : Names), ops.size ≤ cnt listed k + fuel → listed.size = ops.size → (∀ i, k ≤ i → listed.getD i false = false) → Closed ops listed →
      TM ρ w (tmQ ops listed k tm0 tmF) a → a.defers = [] → a.tmps.size = N → HR (ZF (Fr2 nx perm listed)) B ρ (gst sts GA fun j => listed.getD j false) 0 w → Below B w0 w → Ext ρ0 w0 ρ w → wpAny P .any ops Q fuel listed a w := by
  have fin : ∀ (fuel : Nat) (listed : Array Bool) (a : Act) (w : World) (ρ : Names), ops.size ≤ k + fuel → (∀ i, i < k → listed.getD i false = true) → listed.size = ops.size → (∀ i, k ≤ i → listed.getD i false = false) → Closed ops listed →
      TM ρ w (tmQ ops listed k tm0 tmF) a → a.defers = [] → a.tmps.size = N → HR (ZF (Fr2 nx perm listed)) B ρ (gst sts GA fun j => listed.getD j false) 0 w → Below B w0 w → Ext ρ0 w0 ρ w → wpAny P .any ops Q fuel listed a w := by
    intro fuel listed a w ρ hf hall hsz hl hc hT hdf hts hh hbl he
    have hTF : TM ρ w tmF a := fun t => by
      have := hT t
      unfold tmQ at this
      rw [if_neg (by intro e; obtain ⟨j, h1, h2, _⟩ := pendB_true.1 e; rw [hall j h1] at h2; cases h2)] at this
      exact this
    have hG : (gst sts GA fun j => listed.getD j false) = gst sts GA fun _ => true := gst_congr fun e he => hall e.1 (hsk e he)
    rw [hG] at hh
    exact tail_any hd hreach next fuel k listed ⟨tmF, gst sts GA fun _ => true, nx + 64 * k⟩ a w ρ (Nat.le_refl _) (by omega) hsz (fun i => by
        by_cases hi : i < k
        · simp [hi, hall i hi]
        · simp [hi, hl i (by omega)]) hc htail
      ⟨hTF, hdf, hts, hh.zone (fun m (hm : nx + 64 * k ≤ m) => ⟨by omega, fun q i hq h1 h2 => by
        have : q < perm.length := (List.getElem?_eq_some_iff.1 hq).1
        omega⟩), hbl, he⟩
  intro fuel
  induction fuel with
  | zero =>
    intro listed a w ρ hf hsz hl hc hT hdf hts hh hbl he
    have hkz : k = ops.size := by have := cnt_le listed k; omega
    exact fin 0 listed a w ρ (by omega) (fun i hi => by
      cases hx : listed.getD i false with
      | true => rfl
      | false => have := cnt_lt k i hi hx; omega) hsz hl hc hT hdf hts hh hbl he
  | succ fuel ih =>
    intro listed a w ρ hf hsz hl hc hT hdf hts hh hbl he
    by_cases hall : ∀ i, i < k → listed.getD i false = true
    · exact fin (fuel + 1) listed a w ρ (by have := cnt_le listed k; omega) hall hsz hl hc hT hdf hts hh hbl he
    · simp only [Classical.not_forall] at hall
      obtain ⟨j0, hj0, hj0l⟩ := hall
      have hj0f : listed.getD j0 false = false := by simpa using hj0l
      refine ⟨fun hr => absurd hr (exists_ready hsz hk hb j0 j0 (Nat.le_refl _) hj0 hj0f), fun i hi => ?_⟩
      obtain ⟨h0, o, ho, hafter⟩ := mem_ready.1 hi
      obtain ⟨hil, hif⟩ := getD_true_false.1 h0
      have hik : i < k := by
        rcases Nat.lt_or_ge i k with h | h
        · exact h
        · exfalso
          have := reach_listed hc ops.size o j0 ((hreach i o h ho).1 j0 (by omega)) hafter
          rw [hj0f] at this
          cases this
      have hdN : ∀ t, o.dst = some t → t < a.tmps.size := fun t ht => by
        rw [hts]
        exact hd o (by obtain ⟨hlt, e⟩ := Array.getElem?_eq_some_iff.1 ho; rw [← e]; simp) t ht
      have hcl : Closed ops (listed.setIfInBounds i true) := fun x o' hx hlx e' he' hb' => by
        rw [getD_set hil] at hlx ⊢
        split
        · rfl
        · by_cases hxi : x = i
          · subst hxi
            rw [ho] at hx
            injection hx with hx
            subst hx
            exact hafter e' he' hb'
          · rw [if_neg hxi] at hlx
            exact hc x o' hx hlx e' he' hb'
      -- the slots behind the operation
      have htm : ∀ (ρ' : Names) (x : Value) (w' : World) (v : VV), (∀ t, o.dst = some t → tmF t = v) → VR ρ' w' v x → Ext ρ w ρ' w' → TM ρ' w' (tmQ ops (listed.setIfInBounds i true) k tm0 tmF) (a.put o.dst x) := by
        intro ρ' x w' v hv hvx he' t
        have hput := (hT.ext he').put hdN hvx t
        have e : V.put o.dst v (tmQ ops listed k tm0 tmF) t = tmQ ops (listed.setIfInBounds i true) k tm0 tmF t := by
          by_cases htd : o.dst = some t
          · have h1 : V.put o.dst v (tmQ ops listed k tm0 tmF) t = v := by rw [htd]; simp [V.put, upd_ap]
            rw [h1]
            unfold tmQ
            rw [if_neg]
            · exact (hv t htd).symm
            · intro e
              obtain ⟨j, h1, h2, o', ho', h3⟩ := pendB_true.1 e
              rw [getD_set hil] at h2
              split at h2
              · cases h2
              · rename_i hji
                have := hone i j t hik h1 (Ne.symm hji) (dstB_iff.2 ⟨o, ho, htd⟩)
                rw [dstB_iff.2 ⟨o', ho', h3⟩] at this
                cases this
          · have h1 : V.put o.dst v (tmQ ops listed k tm0 tmF) t = tmQ ops listed k tm0 tmF t := by
              cases hod : o.dst with
              | none => rfl
              | some d => simp only [V.put,upd_ap]; rw [if_neg (by intro e; rw [e] at htd; exact htd hod)]
            rw [h1]
            unfold tmQ
            have : pendB ops (listed.setIfInBounds i true) k t = pendB ops listed k t := by
              rw [Bool.eq_iff_iff, pendB_true, pendB_true]
              constructor
              · rintro ⟨j, h1, h2, o', ho', h3⟩
                rw [getD_set hil] at h2
                split at h2
                · cases h2
                · exact ⟨j, h1, h2, o', ho', h3⟩
              · rintro ⟨j, h1, h2, o', ho', h3⟩
                refine ⟨j, h1, ?_, o', ho', h3⟩
                rw [getD_set hil, if_neg]
                · exact h2
                · intro e; subst e; rw [ho] at ho'; injection ho' with ho'; subst ho'; exact htd h3
            rw [this]
        rw [e] at hput
        exact hput
      by_cases hjs : ∃ e ∈ sts, e.1 = i
      · -- a store
        obtain ⟨e, hes, rfl⟩ := hjs
        obtain ⟨hdst, hg, t, y, x, hop, hev, hyx, hst⟩ := hS e hes o ho
        have hst := hst (fun j => listed.getD j false) hif
        have hev := hev listed hc hafter
        have hset : (gst sts GA fun j => (listed.setIfInBounds e.1 true).getD j false) = upd (gst sts GA fun j => listed.getD j false) e.2.1 (some e.2.2) :=
          gst_step hes hdis (by rw [getD_set hil, if_pos rfl]) fun j hj => by rw [getD_set hil, if_neg hj]
        obtain ⟨GB, hGB⟩ : ∃ GB, GB = upd (gst sts GA fun j => listed.getD j false) e.2.1 (some e.2.2) := ⟨_, rfl⟩
        rw [← hGB] at hst hset
        have hst2 : vStore P (ev (tmQ ops listed k tm0 tmF)) (gst sts GA fun j => listed.getD j false) 0 (fun v G n => v = .any ∧ G = GB ∧ n = 0) t y x := by
          unfold vStore at hst ⊢
          unfold onV at hst ⊢
          rw [hev y (hyx y (.inl rfl)), hev x (hyx x (.inr rfl))]
          exact hst
        have hr := store_sound hT hh t y x hop hst2
        have after : ∀ (ρ' : Names) (x : Value) (w' : World), HR (ZF (Fr2 nx perm listed)) B ρ' GB 0 w' → Ext ρ w ρ' w' → Below B w w' → wpAny P .any ops Q fuel (listed.setIfInBounds e.1 true) (a.put o.dst x) w' := by
          intro ρ' x w' hh' he' hb'
          have hz := put_size a o.dst x
          refine ih _ _ _ ρ' ?_ (by simpa using hsz) (fun j hj => by rw [getD_set hil, if_neg (by omega)]; exact hl j hj) hcl ?_ (by rw [hz.2]; exact hdf) (by rw [hz.1]; exact hts) ?_ (hbl.trans hb') (he.trans he')
          · rw [cnt_set hil hif, if_pos hik]; omega
          · exact htm ρ' x w' .any (fun t ht => by rw [hdst] at ht; cases ht) (by simp [VR, VR1]) he'
          · rw [hset]
            refine hh'.zone fun m hm => ⟨hm.1, fun q j hq h1 h2 => ?_⟩
            have := hm.2 q j hq h1 h2
            rw [getD_set hil, if_neg (fun h => (hpk q j hq).2 e hes h.symm)] at this
            exact this
        have hw : (if Region.wanted o (yielded ops a.tmps) = true then o.wp P a w (wpAny P .any ops Q fuel (listed.setIfInBounds e.1 true)) Q else wpAny P .any ops Q fuel (listed.setIfInBounds e.1 true) (a.put o.dst undef) w) := by
          rw [if_pos (by simp [Region.wanted, hg])]
          unfold Oper.wp
          rcases hr with ⟨x, w', hr, hg⟩ | ⟨w', hr, hg⟩ | ⟨f, xs, hr, hcl'⟩
          · rw [hr]
            obtain ⟨v', H', n'', ρ', ⟨rfl, rfl, rfl⟩, h1, h2, h3, h4⟩ := hg
            exact after ρ' x w' h2 h3 h4
          · rw [hr]
            obtain ⟨v', H', n'', ρ', ⟨rfl, rfl, rfl⟩, h1, h2, h3, h4⟩ := hg
            exact after ρ' undef w' h2 h3 h4
          · rw [hr]
            refine Calls.mono hcl' fun e w' hee => ?_
            obtain ⟨x, rfl, v', H', n'', ρ', ⟨rfl, rfl, rfl⟩, h1, h2, h3, h4⟩ := hee
            exact after ρ' x w' h2 h3 h4
        unfold wpOp
        rw [ho]
        dsimp only
        split
        · rename_i hx; rw [if_pos hx] at hw; exact .inl hw
        · rename_i hx; rw [if_neg hx] at hw; exact hw
      -- another one
      obtain ⟨q, hq⟩ := hperm i hik fun e he h => hjs ⟨e, he, h⟩
      have hseen : ∀ t ∈ o.looksAt ops, tmQ ops listed k tm0 tmF t = env q t := fun t ht => henv q i o t hq ho ht listed hif hc hafter
      obtain ⟨G, hGe⟩ : ∃ G, G = gst sts GA fun j => listed.getD j false := ⟨_, rfl⟩
      have hFi : Fact2 P ops.toList (env q) tmF G (nx + 64 * q) o := by rw [hGe]; exact hF q i o hq ho listed hif hc
      have hGe' : (gst sts GA fun j => (listed.setIfInBounds i true).getD j false) = G := by
        rw [hGe]
        exact gst_congr fun e he => by rw [getD_set hil, if_neg (fun h => hjs ⟨e, he, h⟩)]
      rw [← hGe] at hh
      -- on behind the operation
      have go : ∀ (ρ' : Names) (x : Value) (w' : World) (v : VV) (n' : Nat), (∀ t, o.dst = some t → tmF t = v) → VR ρ' w' v x → HR (ZI (Fr2 nx perm listed) (nx + 64 * q)) B ρ' G n' w' → n' ≤ nx + 64 * q + 64 → Ext ρ w ρ' w' → Below B w w' →
          wpAny P .any ops Q fuel (listed.setIfInBounds i true) (a.put o.dst x) w' := by
        intro ρ' x w' v n' hv hvx hh' hn' he' hb'
        have hz := put_size a o.dst x
        refine ih _ _ _ ρ' ?_ (by simpa using hsz) (fun j hj => by rw [getD_set hil, if_neg (by omega)]; exact hl j hj) hcl (htm ρ' x w' v hv hvx he') (by rw [hz.2]; exact hdf) (by rw [hz.1]; exact hts) ?_ (hbl.trans hb') (he.trans he')
        · rw [cnt_set hil hif, if_pos hik]; omega
        · rw [hGe']
          refine hh'.zone fun m hm => .inr ⟨⟨hm.1, fun r j hr h1 h2 => ?_⟩, fun hc' => ?_⟩
          · have := hm.2 r j hr h1 h2
            rw [getD_set hil] at this
            split at this
            · cases this
            · exact this
          · have := hm.2 q i hq hc'.1 hc'.2
            rw [getD_set hil, if_pos rfl] at this
            cases this
      have hhI : HR (ZI (Fr2 nx perm listed) (nx + 64 * q)) B ρ G (nx + 64 * q) w := hh.zone fun m hm => by
        rcases hm with hm | hm
        · refine ⟨by omega, fun r j hr h1 h2 => ?_⟩
          have : r = q := by omega
          subst this
          rw [hq] at hr
          injection hr with hr
          subst hr
          exact hif
        · exact hm.1
      have run : Does2 P (env q) tmF G (nx + 64 * q) o → o.wp P a w (wpAny P .any ops Q fuel (listed.setIfInBounds i true)) Q := by
        rintro ⟨v, n', hv, hn1, hn2, hdo⟩
        have hop := hdo (ev (tmQ ops listed k tm0 tmF)) (fun v' H' n'' => v' = v ∧ H' = G ∧ n'' = n') (fun x hx => by
          cases x with
          | tmp t => exact hseen t (looks_operand hx)
          | _ => rfl) ⟨rfl, rfl, rfl⟩
        have hr := vopH_sound (Z := ZI (Fr2 nx perm listed) (nx + 64 * q)) hT hhI (fun v' H' n'' h1 h2 => (⟨Nat.le_refl _, by omega⟩ : nx + 64 * q ≤ nx + 64 * q ∧ nx + 64 * q < nx + 64 * q + 64)) hop
        unfold Oper.wp
        rcases hr with ⟨x, w', hr, hg⟩ | ⟨w', hr, hg⟩ | ⟨f, xs, hr, hcl'⟩
        · rw [hr]
          obtain ⟨v', H', n'', ρ', ⟨rfl, rfl, rfl⟩, h1, h2, h3, h4⟩ := hg
          exact go ρ' x w' v' n'' hv h1 h2 hn2 h3 h4
        · rw [hr]
          obtain ⟨v', H', n'', ρ', ⟨rfl, rfl, rfl⟩, h1, h2, h3, h4⟩ := hg
          exact go ρ' undef w' v' n'' hv h1 h2 hn2 h3 h4
        · rw [hr]
          refine Calls.mono hcl' fun e w' hee => ?_
          obtain ⟨x, rfl, v', H', n'', ρ', ⟨rfl, rfl, rfl⟩, h1, h2, h3, h4⟩ := hee
          exact go ρ' x w' v' n'' hv h1 h2 hn2 h3 h4
      have skip : (∀ t, o.dst = some t → tmF t = .raw undef) → wpAny P .any ops Q fuel (listed.setIfInBounds i true) (a.put o.dst undef) w := fun hv =>
        go ρ undef w (.raw undef) (nx + 64 * q) hv (by simp [VR, VR1, C1]) hhI (by omega) (Ext.refl _ _) (Below.refl _ _)
      have hst : if Region.wanted o (yielded ops a.tmps) = true then o.wp P a w (wpAny P .any ops Q fuel (listed.setIfInBounds i true)) Q else wpAny P .any ops Q fuel (listed.setIfInBounds i true) (a.put o.dst undef) w := by
        rcases hFi with ⟨hg, hdo⟩ | ⟨g, want, d, hg, hdg, hrest⟩
        · rw [if_pos (by simp [Region.wanted, hg])]
          exact run hdo
        · have hTd := hT d
          rw [hseen d (looks_guard hg hdg)] at hTd
          have hyd : yielded ops a.tmps g = match a.tmps[d]? with | some (.bool b) => some b | _ => none := by
            unfold yielded
            rw [dstAt_eq, Array.getElem?_toList] at hdg
            rw [hdg]
            simp only [Option.bind_some]
            rfl
          have hbool : ∀ b, env q d = .bool b → Region.wanted o (yielded ops a.tmps) = (b == want) := fun b hb2 => by
            rw [hb2] at hTd
            have hx := hTd.bool
            have hbd : a.tmps[d]? = some (.bool b) := by
              rw [Array.getD_eq_getD_getElem?] at hx
              cases hy : a.tmps[d]? with
              | none => rw [hy] at hx; simp [undef] at hx
              | some y => rw [hy] at hx; simp at hx; rw [hx]
            simp only [Region.wanted,hg,hyd,hbd]
            cases b <;> cases want <;> rfl
          rcases hrest with ⟨hdv, hdo⟩ | ⟨hdv, hu⟩
          · rw [hbool want hdv, if_pos (by simp)]
            exact run hdo
          · have hw : Region.wanted o (yielded ops a.tmps) = false := by
              rcases hdv with hdv | hdv
              · rw [hbool _ hdv]; cases want <;> rfl
              · rw [hdv] at hTd
                have hx : a.tmps.getD d undef = undef := by simpa [VR, VR1, C1] using hTd
                simp only [Region.wanted,hg,hyd]
                rw [Array.getD_eq_getD_getElem?] at hx
                cases hy : a.tmps[d]? with
                | none => cases want <;> rfl
                | some y =>
                  rw [hy] at hx
                  simp only [Option.getD_some] at hx
                  subst hx
                  cases want <;> rfl
            rw [hw, if_neg (by simp)]
            exact skip hu
      unfold wpOp
      rw [ho]
      dsimp only
      split
      · rename_i hw; rw [if_pos hw] at hst; exact .inl hst
      · rename_i hw; rw [if_neg hw] at hst; exact hst
end
/-- k operations, gone through in such an order; of them some that store (each with the place from which on it waits for all); then the others -/
def drawOk3 (ops : Array Oper) (k : Nat) (perm : List Nat) (ss : List (Nat × Nat)) : Bool :=
  decide (k ≤ ops.size) && decide (perm.length ≤ k) && oneL (picks ops.toList perm) && (perm.all fun i => decide (i < k) && ss.all fun s => i != s.1) &&
  ((List.range perm.length).all fun q => (List.range perm.length).all fun r => decide (q = r) || (perm.getD q 0 != perm.getD r 0)) &&
  ((List.range k).all fun i => (ss.any fun s => s.1 == i) || perm.contains i) &&
  ((List.range k).all fun j => opD ops j fun o => o.after.all fun e => !Region.binds .any e || decide (e.on < j)) &&
  ((List.range perm.length).all fun q => opD ops (perm.getD q 0) fun o => (o.looksAt ops).all fun t => (List.range perm.length).all fun r =>
    !dstB ops (perm.getD r 0) t || decide (r = q) || (if r < q then reachC ops ops.size o (perm.getD r 0) else opD ops (perm.getD r 0) fun o' => reachC ops ops.size o' (perm.getD q 0))) &&
  (ss.all fun s => decide (s.1 < k) && opD ops s.1 fun o => o.dst == none && o.guard == none && isSt o.op && ((o.looksAt ops).all fun t => (List.range k).all fun j => !dstB ops j t || reachC ops ops.size o j) &&
    (List.range perm.length).all fun q => decide (q < s.2) || reachC ops ops.size o (perm.getD q 0)) &&
  ((List.range ops.size).all fun j => decide (j < k) || (match ops[j]? with
    | some o => (List.range j).all (fun i => reachC ops ops.size o i) && o.after.all (fun e => !Region.binds .any e || decide (e.on < j))
    | none => true))
def storesAt (P : Program) (e : Operand → VV) (l : List Oper) : List (Nat × Nat × Nat) → Heap → (Heap → Prop) → Prop
  | [], H, K => K H
  | s :: ss, H, K => storeAt P s.2.2 e H (fun G => storesAt P e l ss G K) l[s.1]?
theorem storeAt_some2 {P : Program} {m : Nat} {e : Operand → VV} {H : Heap} {K : Heap → Prop} {o : Option Oper} (h : storeAt P m e H K o) :
    ∃ o' t y x b, o = some o' ∧ o'.op = .store t y x ∧ K (upd H m (some b)) ∧ ∀ H' : Heap, H' m = H m → vStore P e H' 0 (fun v G n => v = .any ∧ G = upd H' m (some b) ∧ n = 0) t y x := by
  unfold storeAt at h
  split at h
  · rename_i o'
    split at h
    · rename_i t y x hop
      refine ⟨o', t, y, x, ?_⟩
      obtain ⟨hp, h⟩ := h
      unfold vStore onV at h
      dsimp only at h
      cases hy : e y <;> rw [hy] at hp h <;> simp only [isP] at hp <;> try exact hp.elim
      subst hp
      dsimp only at h
      obtain ⟨b, hb, h⟩ := bnd_iff.1 h
      cases b with
      | map es => exact h.elim
      | row s c =>
        obtain ⟨st, hst, hc, h⟩ := bnd_iff.1 h
        obtain ⟨u, hu, h⟩ := bnd_iff.1 h
        refine ⟨_, rfl, hop, h, fun H' hH' => ?_⟩
        unfold vStore onV
        dsimp only
        rw [hy]
        dsimp only
        exact bnd_intro (hH'.trans hb) (bnd_intro hst ⟨hc, bnd_intro hu ⟨rfl, rfl, rfl⟩⟩)
    · exact h.elim
  · exact h.elim
theorem gst_cons_all {j m : Nat} {b : Blk} {l : List (Nat × Nat × Blk)} {H : Heap} (h : ∀ e ∈ l, e.2.1 ≠ m) : gst ((j, m, b) :: l) H (fun _ => true) = gst l (upd H m (some b)) fun _ => true := by
  funext m'
  by_cases hm : m = m'
  · subst hm
    rw [gst_other (fun e he _ => h e he), upd_ap, if_pos rfl]
    simp [gst, List.find?_cons]
  · have : (m == m') = false := by simpa using hm
    simp only [gst,List.find?_cons,this,Bool.and_false]
    rw [upd_ap, if_neg (Ne.symm hm)]
theorem storesAt_some {P : Program} {e : Operand → VV} {l : List Oper} {K : Heap → Prop} : ∀ (ss : List (Nat × Nat × Nat)) (H : Heap), (ss.map fun s => s.2.2).Nodup → storesAt P e l ss H K →
    ∃ sts : List (Nat × Nat × Blk), (sts.map fun a => (a.1, a.2.1)) = (ss.map fun s => (s.1, s.2.2)) ∧ K (gst sts H fun _ => true) ∧
      ∀ a ∈ sts, ∃ o t y x, l[a.1]? = some o ∧ o.op = .store t y x ∧ ∀ H' : Heap, H' a.2.1 = H a.2.1 → vStore P e H' 0 (fun v G n => v = .any ∧ G = upd H' a.2.1 (some a.2.2) ∧ n = 0) t y x
  | [], H, _, h => ⟨[], rfl, h, fun a ha => by simp at ha⟩
  | s :: ss, H, hn, h => by
    rw [List.map_cons, List.nodup_cons] at hn
    obtain ⟨o, t, y, x, b, ho, hop, hk, hst⟩ := storeAt_some2 h
    obtain ⟨sts, h1, h2, h3⟩ := storesAt_some ss _ hn.2 hk
    have hne : ∀ a ∈ sts, a.2.1 ≠ s.2.2 := fun a ha e => hn.1 (by
      have : (a.1, a.2.1) ∈ ss.map fun s => (s.1, s.2.2) := by rw [← h1]; exact List.mem_map.2 ⟨a, ha, rfl⟩
      obtain ⟨s', hs', e'⟩ := List.mem_map.1 this
      exact List.mem_map.2 ⟨s', hs', by rw [← e]; exact congrArg Prod.snd e'⟩)
    refine ⟨(s.1, s.2.2, b) :: sts, by rw [List.map_cons, List.map_cons, h1], by rw [gst_cons_all hne]; exact h2, fun a ha => ?_⟩
    rcases List.mem_cons.1 ha with rfl | ha
    · exact ⟨o, t, y, x, ho, hop, hst⟩
    · obtain ⟨o', t', y', x', g1, g2, g3⟩ := h3 a ha
      exact ⟨o', t', y', x', g1, g2, fun H' hH' => g3 H' (by rw [upd_ap, if_neg (hne a ha)]; exact hH')⟩
section
variable {P : Program} {ops : Array Oper} {k : Nat} {perm : List Nat} {ss : List (Nat × Nat)} {sts : List (Nat × Nat × Blk)} {K : VS → Prop}
/-- the rule, of the frames ahead of the store and behind it -/
theorem region3 {S : VS} (hm : P.follows .mixedOrders = true) (hfr : ∀ m, S.nx ≤ m → S.hp m = none) (hok : drawOk3 ops k perm ss = true) {tmF : Nat → VV} {GA : Heap}
    (hsame : ∀ t, (∀ o ∈ picks ops.toList perm, o.dst ≠ some t) → tmF t = S.tm t)
    (hnm : ∀ m, m < S.nx → GA m = S.hp m)
    (hs1 : ∀ e ∈ sts, ∃ s ∈ ss, s.1 = e.1) (hs2 : ∀ s ∈ ss, ∃ e ∈ sts, e.1 = s.1) (hdis : ∀ e ∈ sts, ∀ e' ∈ sts, e.2.1 = e'.2.1 ∨ e.1 = e'.1 → e = e')
    (hF : ∀ (q : Nat) o, (picks ops.toList perm)[q]? = some o → ∀ f : Nat → Bool, (∀ s ∈ ss, f s.1 = true → q < s.2) → Fact2 P ops.toList (rd2 (picks ops.toList perm) q S.tm tmF) tmF (gst sts GA f) (S.nx + 64 * q) o)
    (hS : ∀ e ∈ sts, ∀ o t y x, ops[e.1]? = some o → o.op = .store t y x → ∀ f : Nat → Bool, f e.1 = false → vStore P (ev tmF) (gst sts GA f) 0 (fun v G n => v = .any ∧ G = upd (gst sts GA f) e.2.1 (some e.2.2) ∧ n = 0) t y x)
    (htail : vlist P ops.toList (ops.toList.drop k) ⟨tmF, gst sts GA fun _ => true, S.nx + 64 * k⟩ K) : vdraw P ops S K := by
  intro id N B ρ0 w0 Q a w ρ hd hT hdf hts hh hbl he next
  unfold drawOk3 at hok
  simp only [Bool.and_eq_true,decide_eq_true_eq] at hok
  obtain ⟨⟨⟨⟨⟨⟨⟨⟨⟨hk, hpl⟩, hone⟩, hpk⟩, hun⟩, hall⟩, hbk⟩, hrd⟩, hst⟩, htl⟩ := hok
  have rep : ∀ i, (Array.replicate ops.size false).getD i false = false := fun i => by
    rw [Array.getD_eq_getD_getElem?, Array.getElem?_replicate]
    split <;> rfl
  have hpk1 : ∀ (q : Nat) i, perm[q]? = some i → i < k ∧ ∀ s ∈ ss, s.1 ≠ i := fun q i hq => by
    have := (List.all_eq_true.1 hpk) i (List.mem_of_getElem? hq)
    simp only [Bool.and_eq_true,decide_eq_true_eq,List.all_eq_true,bne_iff_ne] at this
    exact ⟨this.1, fun s hs e => this.2 s hs e.symm⟩
  have hpk' : ∀ (q : Nat) i, perm[q]? = some i → i < k ∧ ∀ e ∈ sts, e.1 ≠ i := fun q i hq => ⟨(hpk1 q i hq).1, fun e he h => by
    obtain ⟨s, hs, h'⟩ := hs1 e he
    exact (hpk1 q i hq).2 s hs (h'.trans h)⟩
  have hlt : ∀ i ∈ perm, i < ops.toList.length := fun i hi => by
    obtain ⟨q, hq, e⟩ := List.mem_iff_getElem.1 hi
    have := (hpk' q i (by rw [List.getElem?_eq_getElem hq, e])).1
    rw [Array.length_toList]; omega
  have hget : ∀ (q i : Nat) o, perm[q]? = some i → ops[i]? = some o → (picks ops.toList perm)[q]? = some o := fun q i o hq ho => by
    rw [picks_get _ _ hlt, hq]
    simpa using ho
  have hgetD : ∀ (q i : Nat), perm[q]? = some i → perm.getD q 0 = i := fun q i hq => by
    rw [List.getD_eq_getElem?_getD, hq]; rfl
  have hql : ∀ (q i : Nat), perm[q]? = some i → q < perm.length := fun q i hq => (List.getElem?_eq_some_iff.1 hq).1
  have hsome : ∀ i, i < k → ∃ o, ops[i]? = some o := fun i hi => ⟨ops[i], by simp [show i < ops.size by omega]⟩
  have hperm : ∀ i, i < k → (∀ e ∈ sts, e.1 ≠ i) → ∃ q : Nat, perm[q]? = some i := fun i hi hne => by
    have := (List.all_eq_true.1 hall) i (List.mem_range.2 hi)
    simp only [Bool.or_eq_true,List.any_eq_true,beq_iff_eq] at this
    rcases this with ⟨s, hs, h⟩ | h
    · obtain ⟨e, he, h'⟩ := hs2 s hs
      exact absurd (h'.trans h) (hne e he)
    · obtain ⟨q, hq, e⟩ := List.mem_iff_getElem.1 (List.contains_iff_mem.1 h)
      exact ⟨q, by rw [List.getElem?_eq_getElem hq, e]⟩
  have hstore : ∀ s ∈ ss, s.1 < k ∧ ∃ o, ops[s.1]? = some o ∧ o.dst = none ∧ o.guard = none ∧ isSt o.op = true ∧ (∀ t ∈ o.looksAt ops, ∀ j, j < k → dstB ops j t = true → reachB ops ops.size o j = true) ∧ ∀ (q i : Nat), perm[q]? = some i → s.2 ≤ q → reachB ops ops.size o i = true := fun s hs => by
    have h := (List.all_eq_true.1 hst) s hs
    simp only [Bool.and_eq_true,decide_eq_true_eq] at h
    obtain ⟨hjk, h⟩ := h
    obtain ⟨o, ho, h⟩ := opD_some h
    simp only [Bool.and_eq_true,beq_iff_eq] at h
    obtain ⟨⟨⟨⟨h1, h2⟩, h3⟩, h4⟩, h5⟩ := h
    refine ⟨hjk, o, ho, h1, h2, h3, fun t ht j hj hdj => ?_, fun q i hq hqq => ?_⟩
    · have := (List.all_eq_true.1 ((List.all_eq_true.1 h4) t ht)) j (List.mem_range.2 hj)
      rw [hdj] at this
      exact reachC_B _ _ _ (by simpa using this)
    · have := (List.all_eq_true.1 h5) q (List.mem_range.2 (hql q i hq))
      rw [hgetD q i hq] at this
      simp only [Bool.or_eq_true,decide_eq_true_eq] at this
      rcases this with h | h
      · omega
      · exact reachC_B _ _ _ h
  have hdj : ∀ j t, j < k → dstB ops j t = true → ∀ e ∈ sts, e.1 ≠ j := fun j t hj hdt e he h => by
    obtain ⟨s, hs, h'⟩ := hs1 e he
    obtain ⟨_, o, ho, h1, _⟩ := hstore s hs
    obtain ⟨o', ho', h2⟩ := dstB_iff.1 hdt
    rw [h', h, ho'] at ho; injection ho with ho; subst ho
    rw [h1] at h2; cases h2
  have hone' : ∀ i j t, i < k → j < k → i ≠ j → dstB ops i t = true → dstB ops j t = false := fun i j t hi hj hij h => by
    cases hx : dstB ops j t with
    | false => rfl
    | true =>
      exfalso
      obtain ⟨q, hq⟩ := hperm i hi (hdj i t hi h)
      obtain ⟨r, hr⟩ := hperm j hj (hdj j t hj hx)
      obtain ⟨o, ho, h1⟩ := dstB_iff.1 h
      obtain ⟨o', ho', h2⟩ := dstB_iff.1 hx
      rcases Nat.lt_trichotomy q r with h' | h' | h'
      · exact oneL_one _ q r o o' t hone h' (hget q i o hq ho) (hget r j o' hr ho') h1 h2
      · subst h'
        rw [hq] at hr; injection hr with hr; exact hij hr
      · exact oneL_one _ r q o' o t hone h' (hget r j o' hr ho') (hget q i o hq ho) h2 h1
  refine wp_region_any hm ?_
  have hnamed : ∀ m l, ρ m = some l → m < S.nx := fun m l hm' => by
    rcases Nat.lt_or_ge m S.nx with h' | h'
    · exact h'
    · have := hh.fresh m h'
      rw [this] at hm'
      cases hm'
  have hh0 : HR (ZF (Fr2 S.nx perm (Array.replicate ops.size false))) B ρ GA 0 { w with drawn := w.drawn + 1 } := by
    have hd0 := hh.drew
    refine ⟨hd0.base, fun m hm' => hh.fresh m hm'.1, hd0.lt, fun m m' l l' h1 h2 g1 g2 => ?_, fun m s v l hs hl' => ?_, fun m es l hs hl' => ?_⟩
    · rw [hnm m (hnamed m l h1)] at g1
      rw [hnm m' (hnamed m' l' h2)] at g2
      exact hd0.apart m m' l l' h1 h2 g1 g2
    · rw [hnm m (hnamed m l hl')] at hs
      exact hd0.row m s v l hs hl'
    · rw [hnm m (hnamed m l hl')] at hs
      exact hd0.map m es l hs hl'
  have hext : Ext ρ w ρ { w with drawn := w.drawn + 1 } := ⟨fun _ _ h => h, Nat.le_refl _, fun _ _ _ => rfl, fun _ _ h => .inl h, fun _ h => h, fun _ h => .inl h⟩
  have henv : ∀ (q : Nat) i o t, perm[q]? = some i → ops[i]? = some o → t ∈ o.looksAt ops → ∀ listed, listed.getD i false = false → Closed ops listed → (∀ e ∈ o.after, Region.binds .any e = true → listed.getD e.on false = true) → tmQ ops listed k S.tm tmF t = rd2 (picks ops.toList perm) q S.tm tmF t := by
    intro q i o t hq ho ht listed hif hc hafter
    have hrd2 := (List.all_eq_true.1 hrd) q (List.mem_range.2 (hql q i hq))
    rw [hgetD q i hq] at hrd2
    obtain ⟨o2, ho2, hrd2⟩ := opD_some hrd2
    rw [ho] at ho2; injection ho2 with ho2; subst ho2
    have hrd3 := fun (r j : Nat) (hr : perm[r]? = some j) => by
      have := (List.all_eq_true.1 ((List.all_eq_true.1 hrd2) t ht)) r (List.mem_range.2 (hql r j hr))
      rw [hgetD r j hr] at this
      exact this
    unfold rd2 tmQ
    by_cases hany : (((picks ops.toList perm).drop q).any fun o => o.dst == some t) = true
    · rw [if_pos hany, if_pos]
      rw [List.any_eq_true] at hany
      obtain ⟨o', ho', hdt⟩ := hany
      obtain ⟨r0, hr0, e⟩ := List.mem_iff_getElem.1 ho'
      have hr : (picks ops.toList perm)[q + r0]? = some o' := by
        rw [← List.getElem?_drop, List.getElem?_eq_getElem hr0, e]
      rw [picks_get _ _ hlt] at hr
      obtain ⟨j, hj, hjo⟩ := Option.bind_eq_some_iff.1 hr
      have hjo : ops[j]? = some o' := by simpa using hjo
      have hjk := (hpk' _ j hj).1
      have hdt : o'.dst = some t := by simpa using hdt
      refine pendB_true.2 ⟨j, hjk, ?_, o', hjo, hdt⟩
      by_cases h0 : r0 = 0
      · subst h0
        rw [Nat.add_zero, hq] at hj; injection hj with hj
        rw [← hj]; exact hif
      · have := hrd3 (q + r0) j hj
        rw [dstB_iff.2 ⟨o', hjo, hdt⟩] at this
        simp only [Bool.not_true,Bool.false_or,Bool.or_eq_true,decide_eq_true_eq] at this
        rcases this with h | h
        · omega
        · rw [if_neg (by omega)] at h
          obtain ⟨o3, ho3, h⟩ := opD_some h
          rw [hjo] at ho3; injection ho3 with ho3; subst ho3
          have h := reachC_B _ _ _ h
          cases hx : listed.getD j false with
          | false => rfl
          | true =>
            have := reach_listed hc ops.size o' i h (fun e he hb' => hc j o' hjo hx e he hb')
            rw [hif] at this
            cases this
    · rw [if_neg hany, if_neg]
      intro e
      obtain ⟨j, h1, h2, o', ho', h3⟩ := pendB_true.1 e
      obtain ⟨r, hr⟩ := hperm j h1 (hdj j t h1 (dstB_iff.2 ⟨o', ho', h3⟩))
      by_cases hrq : q ≤ r
      · refine hany ?_
        rw [List.any_eq_true]
        refine ⟨o', ?_, by simp [h3]⟩
        have hpr := hget r j o' hr ho'
        have : ((picks ops.toList perm).drop q)[r - q]? = some o' := by rw [List.getElem?_drop, show q + (r - q) = r by omega]; exact hpr
        exact List.mem_of_getElem? this
      · have := hrd3 r j hr
        rw [dstB_iff.2 ⟨o', ho', h3⟩] at this
        simp only [Bool.not_true,Bool.false_or,Bool.or_eq_true,decide_eq_true_eq] at this
        rcases this with h | h
        · omega
        · rw [if_pos (by omega)] at h
          have := reach_listed hc ops.size o j (reachC_B _ _ _ h) hafter
          rw [h2] at this
          cases this
  refine head3 (K := K) (GA := GA) (sts := sts) (tm0 := S.tm) (tmF := tmF) (nx := S.nx) (N := N) (B := B) (ρ0 := ρ0) (w0 := w0) (k := k) (perm := perm) (env := fun q => rd2 (picks ops.toList perm) q S.tm tmF) hk hd ?_ ?_ hperm hpk' hpl ?_ hone' henv ?_ hdis ?_ ?_ htail ?_ ops.size _ a _ ρ (by omega) (by simp) ?_ ?_ ?_ hdf hts ?_ ?_ (he.trans hext)
  · intro j o hj ho
    have hlt : j < ops.size := (Array.getElem?_eq_some_iff.1 ho).1
    have := (List.all_eq_true.1 htl) j (List.mem_range.2 hlt)
    rw [ho] at this
    simp only [Bool.or_eq_true,decide_eq_true_eq,Bool.and_eq_true] at this
    rcases this with this | ⟨t1, t2⟩
    · omega
    · exact ⟨fun i hi => reachC_B _ _ _ ((List.all_eq_true.1 t1) i (List.mem_range.2 hi)), fun e he' hb => by
        have := (Array.all_eq_true_iff_forall_mem.1 t2) e he'
        simpa [hb] using this⟩
  · intro j o hj ho e he' hb
    have := (List.all_eq_true.1 hbk) j (List.mem_range.2 hj)
    obtain ⟨o2, ho2, this⟩ := opD_some this
    rw [ho] at ho2; injection ho2 with ho2; subst ho2
    have := (Array.all_eq_true_iff_forall_mem.1 this) e he'
    simpa [hb] using this
  · intro q r i hq hr
    have := (List.all_eq_true.1 ((List.all_eq_true.1 hun) q (List.mem_range.2 (hql q i hq)))) r (List.mem_range.2 (hql r i hr))
    rw [hgetD q i hq, hgetD r i hr] at this
    simpa using this
  · intro e he
    obtain ⟨s, hs, h⟩ := hs1 e he
    rw [← h]
    exact (hstore s hs).1
  · intro q i o hq ho listed hif hc
    refine hF q o (hget q i o hq ho) _ fun s hs hls => ?_
    rcases Nat.lt_or_ge q s.2 with h | h
    · exact h
    · exfalso
      obtain ⟨_, oj, hoj, _, _, _, _, h5⟩ := hstore s hs
      have := reach_listed hc ops.size oj i (h5 q i hq h) (fun e he hb' => hc s.1 oj hoj hls e he hb')
      rw [hif] at this
      cases this
  · intro e he o ho
    obtain ⟨s, hs, hse⟩ := hs1 e he
    obtain ⟨_, o2, ho2, h1, h2, h3, h4, h5⟩ := hstore s hs
    rw [hse, ho] at ho2; injection ho2 with ho2; subst ho2
    cases hop : o.op <;> rw [hop] at h3 <;> simp only [isSt,Bool.false_eq_true] at h3
    rename_i t y x
    refine ⟨h1, h2, t, y, x, rfl, fun listed hc hafter z hz => ?_, fun z hz => ?_, hS e he o t y x ho hop⟩
    · cases z with
      | tmp u =>
        show tmQ ops listed k S.tm tmF u = tmF u
        unfold tmQ
        rw [if_neg]
        intro e
        obtain ⟨j, g1, g2, o', ho', g3⟩ := pendB_true.1 e
        have := h4 u (looks_operand (by rw [hop]; exact hz)) j g1 (dstB_iff.2 ⟨o', ho', g3⟩)
        have := reach_listed hc ops.size o j this hafter
        rw [g2] at this
        cases this
      | _ => rfl
    · rcases hz with rfl | rfl <;> simp [Op.operands]
  · intro S' a' w' ρ' hk' hS'
    exact next S' a' w' ρ' hk' hS'.tm hS'.defers hS'.size hS'.heap hS'.below hS'.ext
  · intro i _
    exact rep i
  · intro i o _ hli
    rw [rep i] at hli
    cases hli
  · intro t
    unfold tmQ
    split
    · exact (hT.ext hext) t
    · rename_i hp
      rw [hsame t]
      · exact (hT.ext hext) t
      · intro o ho e
        obtain ⟨q, hq, e2⟩ := List.mem_iff_getElem.1 ho
        have hq2 : (picks ops.toList perm)[q]? = some o := by rw [List.getElem?_eq_getElem hq, e2]
        rw [picks_get _ _ hlt] at hq2
        obtain ⟨j, hj, hjo⟩ := Option.bind_eq_some_iff.1 hq2
        exact hp (pendB_true.2 ⟨j, (hpk' q j hj).1, rep j, o, by simpa using hjo, e⟩)
  · rw [show (gst sts GA fun j => (Array.replicate ops.size false).getD j false) = GA from funext fun m => gst_other fun e _ h => by rw [rep] at h; cases h]
    exact hh0
  · exact hbl.drew
/-- blocks hidden from the others, and shown again -/
def hides (H : Heap) : List Nat → Heap
  | [] => H
  | m :: l => upd (hides H l) m none
def shows (G : Heap) : List Nat → List Blk → Heap
  | m :: l, b :: bs => upd (shows G l bs) m (some b)
  | _, _ => G
def Olds (n : Nat) (H : Heap) : List Nat → List Blk → Prop
  | [], [] => True
  | m :: l, b :: bs => m < n ∧ H m = some b ∧ Olds n H l bs
  | _, _ => False
theorem olds_nil {n : Nat} {H : Heap} : Olds n H [] [] := trivial
theorem olds_cons {n m : Nat} {H : Heap} {l : List Nat} {b : Blk} {bs : List Blk} (h1 : m < n) (h2 : H m = some b) (h3 : Olds n H l bs) : Olds n H (m :: l) (b :: bs) := ⟨h1, h2, h3⟩
theorem hides_in {H : Heap} : ∀ {l : List Nat} {m : Nat}, m ∈ l → hides H l m = none
  | m' :: l, m, h => by
    simp only [hides,upd_ap]
    split
    · rfl
    · rename_i hne
      rcases List.mem_cons.1 h with h | h
      · exact absurd h hne
      · exact hides_in h
theorem hides_out {H : Heap} : ∀ {l : List Nat} {m : Nat}, m ∉ l → hides H l m = H m
  | [], m, h => rfl
  | m' :: l, m, h => by
    simp only [List.mem_cons,not_or] at h
    simp only [hides,upd_ap]
    rw [if_neg h.1]
    exact hides_out h.2
theorem shows_in {n : Nat} {H G : Heap} : ∀ {l : List Nat} {bs : List Blk} {m : Nat}, Olds n H l bs → m ∈ l → m < n ∧ shows G l bs m = H m
  | m' :: l, b :: bs, m, h, hm => by
    obtain ⟨h1, h2, h3⟩ := h
    simp only [shows,upd_ap]
    split
    · rename_i e; rw [e]; exact ⟨h1, h2.symm⟩
    · rename_i hne
      rcases List.mem_cons.1 hm with e | e
      · exact absurd e hne
      · exact shows_in h3 e
  | _ :: _, [], _, h, _ => h.elim
theorem shows_out {n : Nat} {H G : Heap} : ∀ {l : List Nat} {bs : List Blk} {m : Nat}, Olds n H l bs → m ∉ l → shows G l bs m = G m
  | [], [], m, _, _ => rfl
  | m' :: l, b :: bs, m, h, hm => by
    simp only [List.mem_cons,not_or] at hm
    simp only [shows,upd_ap]
    rw [if_neg hm.1]
    exact shows_out h.2.2 hm.2
  | [], _ :: _, _, h, _ => h.elim
  | _ :: _, [], _, h, _ => h.elim
/-- some stores, each into a block of its own: one that is made among the others, or one that these leave alone (ms) -/
theorem regionS {S : VS} (ss3 : List (Nat × Nat × Nat)) (ms : List Nat) (bs : List Blk) (hm : P.follows .mixedOrders = true) (hfr : ∀ m, S.nx ≤ m → S.hp m = none) (hok : drawOk3 ops k perm (ss3.map fun s => (s.1, s.2.1)) = true)
    (hq : (ss3.all fun s => decide (S.nx + 64 * s.2.1 ≤ s.2.2) || ms.contains s.2.2) = true) (hn1 : (ss3.map fun s => s.1).Nodup) (hn2 : (ss3.map fun s => s.2.2).Nodup) (ho : Olds S.nx S.hp ms bs)
    (h : vheld P ops.toList (picks ops.toList perm) S.tm (hides S.hp ms) S.nx fun tm H n => storesAt P (ev tm) ops.toList ss3 (shows H ms bs) fun G => vlist P ops.toList (ops.toList.drop k) ⟨tm, G, S.nx + 64 * k⟩ K) : vdraw P ops S K := by
  have hok' := hok
  unfold drawOk3 at hok'
  simp only [Bool.and_eq_true,decide_eq_true_eq] at hok'
  obtain ⟨⟨⟨⟨⟨⟨⟨⟨⟨hk, hpl⟩, hone⟩, hpk⟩, hun⟩, hall⟩, hbk⟩, hrd⟩, hst⟩, htl⟩ := hok'
  have hfr' : ∀ m, S.nx ≤ m → hides S.hp ms m = none := fun m hm' => by
    by_cases e : m ∈ ms
    · exact hides_in e
    · rw [hides_out e]; exact hfr m hm'
  obtain ⟨tmF, G, k1, k2, k3, k4⟩ := held2 (ops := ops) _ S.tm _ S.nx hone hfr' h
  obtain ⟨sts, g1, g2, g3⟩ := storesAt_some ss3 _ hn2 k1
  have hmem : ∀ e ∈ sts, ∃ s ∈ ss3, s.1 = e.1 ∧ s.2.2 = e.2.1 := fun e he => by
    have : (e.1, e.2.1) ∈ ss3.map fun s => (s.1, s.2.2) := by rw [← g1]; exact List.mem_map.2 ⟨e, he, rfl⟩
    obtain ⟨s, hs, e'⟩ := List.mem_map.1 this
    exact ⟨s, hs, congrArg Prod.fst e', congrArg Prod.snd e'⟩
  have hmem2 : ∀ s ∈ ss3, ∃ e ∈ sts, e.1 = s.1 ∧ e.2.1 = s.2.2 := fun s hs => by
    have : (s.1, s.2.2) ∈ sts.map fun a => (a.1, a.2.1) := by rw [g1]; exact List.mem_map.2 ⟨s, hs, rfl⟩
    obtain ⟨e, he, e'⟩ := List.mem_map.1 this
    exact ⟨e, he, congrArg Prod.fst e', congrArg Prod.snd e'⟩
  have hnd1 : (sts.map fun a => a.1).Nodup := by
    have e : (sts.map fun a => a.1) = ss3.map fun s => s.1 := by
      have := congrArg (List.map Prod.fst) g1
      rwa [List.map_map, List.map_map] at this
    rw [e]; exact hn1
  have hnd2 : (sts.map fun a => a.2.1).Nodup := by
    have e : (sts.map fun a => a.2.1) = ss3.map fun s => s.2.2 := by
      have := congrArg (List.map Prod.snd) g1
      rwa [List.map_map, List.map_map] at this
    rw [e]; exact hn2
  have inj : ∀ {β : Type} {α : Type} (f : α → β) (l : List α), (l.map f).Nodup → ∀ a ∈ l, ∀ b ∈ l, f a = f b → a = b := by
    intro β α f l
    induction l with
    | nil => intro _ a ha; simp at ha
    | cons x l ih =>
      intro hnd a ha b hb e
      rw [List.map_cons, List.nodup_cons] at hnd
      rcases List.mem_cons.1 ha with rfl | ha' <;> rcases List.mem_cons.1 hb with rfl | hb'
      · rfl
      · exact (hnd.1 (List.mem_map.2 ⟨b, hb', e.symm⟩)).elim
      · exact (hnd.1 (List.mem_map.2 ⟨a, ha', e⟩)).elim
      · exact ih hnd.2 a ha' b hb' e
  have hdis : ∀ e ∈ sts, ∀ e' ∈ sts, e.2.1 = e'.2.1 ∨ e.1 = e'.1 → e = e' := fun e he e' he' h => by
    rcases h with h | h
    · exact inj _ _ hnd2 e he e' he' h
    · exact inj _ _ hnd1 e he e' he' h
  refine region3 (sts := sts) hm hfr hok (GA := shows G ms bs) k2 (fun m hm' => ?_) (fun e he => ?_) (fun s hs => ?_) hdis (fun q o hqo f hf => ?_) (fun e he o t y x ho' hop f hfe => ?_) g2
  · by_cases e : m ∈ ms
    · exact (shows_in ho e).2
    · rw [shows_out ho e, k3.2 m hm', hides_out e]
  · obtain ⟨s, hs, e1, _⟩ := hmem e he
    exact ⟨_, List.mem_map.2 ⟨s, hs, rfl⟩, e1⟩
  · obtain ⟨s3, hs3, rfl⟩ := List.mem_map.1 hs
    obtain ⟨e, he, e1, _⟩ := hmem2 s3 hs3
    exact ⟨e, he, e1⟩
  · obtain ⟨Hq, q1, q2, q3, q4⟩ := k4 q o hqo
    refine q4 _ fun m' b' hb' => ?_
    rw [gst_other]
    · by_cases e : m' ∈ ms
      · exfalso
        have hlt := (shows_in (G := G) ho e).1
        rw [q1 m' hlt, hides_in e] at hb'
        cases hb'
      · rw [shows_out ho e]; exact q3 m' b' hb'
    · intro e he hfe hme
      obtain ⟨s, hs, e1, e2⟩ := hmem e he
      have hlt := hf _ (List.mem_map.2 ⟨s, hs, rfl⟩) (by show f s.1 = true; rw [e1]; exact hfe)
      have := (List.all_eq_true.1 hq) s hs
      simp only [Bool.or_eq_true,decide_eq_true_eq] at this
      rcases this with h | h
      · rw [q2 m' (by rw [← hme, ← e2]; simp only at hlt; omega)] at hb'
        cases hb'
      · have hmm : m' ∈ ms := by rw [← hme, ← e2]; exact List.contains_iff_mem.1 h
        rw [q1 m' (shows_in (G := G) ho hmm).1, hides_in hmm] at hb'
        cases hb'
  · obtain ⟨o', t', y', x', p1, p2, p3⟩ := g3 e he
    rw [Array.getElem?_toList, ho'] at p1
    injection p1 with p1
    subst p1
    rw [hop] at p2; injection p2 with r1 r2 r3
    subst r1 r2 r3
    refine p3 _ (gst_other fun e' he' hfe' hme => ?_)
    have := hdis e' he' e he (.inl hme)
    subst this
    rw [hfe] at hfe'
    cases hfe'
end
section
variable {P : Program} {n0 : Nat} {K : VX → VS → Prop}
theorem ok_drawS {id : Nat} {l : List Oper} {tm : Nat → VV} {H : Heap} {n : Nat} (k : Nat) (perm : List Nat) (ss3 : List (Nat × Nat × Nat)) (ms : List Nat) (bs : List Blk) (hm : P.follows .mixedOrders = true) (hd : drawOk3 l.toArray k perm (ss3.map fun s => (s.1, s.2.1)) = true)
    (hq : (ss3.all fun s => decide (n + 64 * s.2.1 ≤ s.2.2) || ms.contains s.2.2) = true) (hn1 : (ss3.map fun s => s.1).Nodup) (hn2 : (ss3.map fun s => s.2.2).Nodup) (ho : Olds n H ms bs) (hfr : ∀ m, n ≤ m → H m = none)
    (h : ∀ M : VS → Prop, (∀ S, K .normal S → M S) → vh P l (picks l perm) tm (hides H ms) n fun tm H _ => storesAt P (ev tm) l ss3 (shows H ms bs) fun G => vl P l (l.drop k) ⟨tm, G, n + 64 * k⟩ M) : Ok P n0 (.region id l.toArray true) ⟨tm, H, n⟩ K := fun N B ρ0 w0 Q a w ρ h0 hok hS next => by
  simp only [codeOk,List.all_eq_true] at hok
  exact regionS (S := ⟨tm, H, n⟩) ss3 ms bs hm hfr hd hq hn1 hn2 ho (by simpa only [vh_def,vl_def] using h _ fun _ h => h) id N B ρ0 w0 Q a w ρ (fun o ho t ht => by have := hok o ho; rw [ht] at this; simpa using this) hS.tm hS.defers hS.size hS.heap hS.below hS.ext
    fun S' a' w' ρ' hk h1 h2 h3 h4 h5 h6 => next .normal S' a' w' ρ' hk ⟨h1, h2, h3, h4, h5, h6⟩
end
theorem storesAt_nil (P : Program) (e : Operand → VV) (l : List Oper) (H : Heap) (K : Heap → Prop) : storesAt P e l [] H K = K H := id (Eq.refl _)
theorem storesAt_cons (P : Program) (e : Operand → VV) (l : List Oper) (j q m : Nat) (ss : List (Nat × Nat × Nat)) (H : Heap) (K : Heap → Prop) : storesAt P e l ((j, q, m) :: ss) H K = storeAt P m e H (fun G => storesAt P e l ss G K) l[j]? := id (Eq.refl _)
theorem hides_nil (H : Heap) : hides H [] = H := id (Eq.refl _)
theorem hides_cons (H : Heap) (m : Nat) (l : List Nat) : hides H (m :: l) = upd (hides H l) m none := id (Eq.refl _)
theorem shows_nil (H : Heap) : shows H [] [] = H := id (Eq.refl _)
theorem shows_cons (H : Heap) (m : Nat) (l : List Nat) (b : Blk) (bs : List Blk) : shows H (m :: l) (b :: bs) = upd (shows H l bs) m (some b) := id (Eq.refl _)
end Go.Proofs.Ytlgldkjjbbbapaa.V
end
section
/-
  MACHINES, part 14: may a machine be (the document's).
-/
set_option linter.unusedVariables false
set_option linter.unusedSimpArgs false
namespace Go.Proofs.Ytlgldkjjbbbapaa.V
open Go
set_option maxRecDepth 100000
-- nlx: nls_wr, nls_pr, nls_pi, nls_pte, nls_fd, nls_u32, nl_pr
set_option maxHeartbeats 4000000
def dirtyQ (v : Frames) (l : List Wr) (i : Nat) : Bool := !(decide ((l.getD i default).b < 0) || decide ((v.length : Int) ≤ (l.getD i default).b) || decide ((l.getD i default).d.length ≠ 128) || (decide (0 < i) && decide ((l.getD i default).b ≤ (l.getD (i - 1) default).b)))
theorem volM_fit {m : Mach} (hm : MFit 20000 m) : (volM m).length ≤ 20000 ∧ ∀ s ∈ volM m, s.length ≤ 20000 := by
  refine ⟨?_, ?_⟩
  · unfold volM
    rw [foldl_wrV_len]
    exact Nat.le_trans (homeD_len _) hm.bl
  · exact foldl_wrV_fit _ _ (homeD_fit hm.blS fun w hw => (hm.peS w hw).2) fun w hw => (hm.dirtyS w hw).2
theorem disk_spec (m : Mach) (hm : MFit 20000 m) : Spec Try.prog 66 [encM m] (.int .i64 (diskE m)) := by
  have hC := rcheck_spec m.dr (dfit_of hm)
  have hH := rhome_spec m.dr (dfit_of hm)
  have hV := volume_spec m hm
  obtain ⟨g, hO⟩ := of_spec (volM m) (volM_fit hm).1 (volM_fit hm).2
  have hlen := homeD_len m.dr
  have hb := hm.bl
  have hd := hm.dirty
  have hdS := hm.dirtyS
  obtain ⟨R, hR⟩ : ∃ R, R = diskE m := ⟨_, rfl⟩
  rw [← hR]
  unfold diskE at hR
  generalize volE (volM m) = e at hO hR
  by_cases h0 : checkD m.dr = 0
  · rw [if_neg (by omega)] at hR
    rw [h0] at hC
    generalize homeD m.dr = v at hH hlen hR
    by_cases h1 : v.length = 0
    · rw [if_pos (List.eq_nil_of_length_eq_zero h1)] at hR
      rw [hR]
      refine spec_ok Try.func66 rfl rfl (by kernel_rfl) (k := 1) rfl (by decide) ?_
      repeat' (first | (with_reducible first | refine ok_seq ?_ | refine xs1 ?_ | refine xs2 ?_ | refine xs3 ?_ | refine xb1 ?_ | refine xb2 ?_ | refine xb3 (by decide) ?_ | refine xb4 ?_ | refine xl2 ?_ | refine xl3 ?_ | refine xc2 ?_ | refine xc3 ?_ | refine ok_block ?_ | refine ok_scope ?_ | refine ok_skip ?_ | refine ok_label ?_ | refine ok_exit ?_ | refine ok_ret ?_ | refine ok_region (fun M hM => ?_) | refine vif_t ?_ | refine vif_f ?_ | refine fin_normal ?_ | refine fin_ret ?_ | (refine hM _ ?_; clear hM M) | refine vcallW_intro (call_data (by assumption) ?_ rfl ?_) | refine vcallHW_intro (hcall_data (by assumption) rfl ?_) ?_) | ((with_reducible refine nls_q ?_) <;> (first | rfl | assumption | (simp only [znl,nls_wr,nls_pr,nls_pi,nls_pte,nls_fd,nls_u32,nl_pr]; (first | done | fail)))) | (with_reducible refine ok_cond (by (simp only [↓reduceIte,zlk,Nat.reduceEqDiff,reduceCtorEq]); exact rfl) ?_) | ((with_reducible first | refine vif_intro (fun hc => ?_) (fun hc => ?_) | refine vifW_intro (fun hc => ?_) (fun hc => ?_)) <;> (try simp (disch := omega) only [zhb] at hc) <;> (try (exfalso; omega)) <;> (try subst hc)) | (with_reducible refine cndW_intro (by omega) ?_) | (simp (config := { maxSteps := 400000 }) only [↓zvs_pre,↓reduceIte,zvs,reduceCtorEq,Nat.reduceEqDiff,Nat.reduceAdd,Nat.reduceLeDiff,Nat.reduceMul,Int.reduceBNe,Int.reduceBEq,Int.reduceEq,Int.reduceNe,Int.reduceLT,Int.reduceLE,Int.reduceGT,Int.reduceGE,Int.reduceNeg,Int.reduceToNat,Nat.reduceLT,Nat.reduceSub,tab,h1,Try.results66,List.toList_toArray]) | (simp (disch := omega) only [ziw]))
      all_goals first
        | (exfalso; omega)
        | (simp only [zrds]; done)
        | trace_state
    · rw [if_neg (fun h => h1 (by rw [h]; rfl))] at hR
      by_cases h2 : 32 < m.dirty.length
      · rw [if_pos h2] at hR
        rw [hR]
        refine spec_ok Try.func66 rfl rfl (by kernel_rfl) (k := 1) rfl (by decide) ?_
        repeat' (first | (with_reducible first | refine ok_seq ?_ | refine xs1 ?_ | refine xs2 ?_ | refine xs3 ?_ | refine xb1 ?_ | refine xb2 ?_ | refine xb3 (by decide) ?_ | refine xb4 ?_ | refine xl2 ?_ | refine xl3 ?_ | refine xc2 ?_ | refine xc3 ?_ | refine ok_block ?_ | refine ok_scope ?_ | refine ok_skip ?_ | refine ok_label ?_ | refine ok_exit ?_ | refine ok_ret ?_ | refine ok_region (fun M hM => ?_) | refine vif_t ?_ | refine vif_f ?_ | refine fin_normal ?_ | refine fin_ret ?_ | (refine hM _ ?_; clear hM M) | refine vcallW_intro (call_data (by assumption) ?_ rfl ?_) | refine vcallHW_intro (hcall_data (by assumption) rfl ?_) ?_) | ((with_reducible refine nls_q ?_) <;> (first | rfl | assumption | (simp only [znl,nls_wr,nls_pr,nls_pi,nls_pte,nls_fd,nls_u32,nl_pr]; (first | done | fail)))) | (with_reducible refine ok_cond (by (simp only [↓reduceIte,zlk,Nat.reduceEqDiff,reduceCtorEq]); exact rfl) ?_) | ((with_reducible first | refine vif_intro (fun hc => ?_) (fun hc => ?_) | refine vifW_intro (fun hc => ?_) (fun hc => ?_)) <;> (try simp (disch := omega) only [zhb] at hc) <;> (try (exfalso; omega)) <;> (try subst hc)) | (with_reducible refine cndW_intro (by omega) ?_) | (simp (config := { maxSteps := 400000 }) only [↓zvs_pre,↓reduceIte,zvs,reduceCtorEq,Nat.reduceEqDiff,Nat.reduceAdd,Nat.reduceLeDiff,Nat.reduceMul,Int.reduceBNe,Int.reduceBEq,Int.reduceEq,Int.reduceNe,Int.reduceLT,Int.reduceLE,Int.reduceGT,Int.reduceGE,Int.reduceNeg,Int.reduceToNat,Nat.reduceLT,Nat.reduceSub,tab,Try.results66,List.toList_toArray]) | (simp (disch := omega) only [ziw]))
        all_goals first
          | (exfalso; omega)
          | (simp only [zrds]; done)
          | trace_state
      · rw [if_neg h2] at hR
        obtain ⟨n, hn⟩ : ∃ n, n = v.length := ⟨_, rfl⟩
        refine spec_ok Try.func66 rfl rfl (by kernel_rfl) (k := 1) rfl (by decide) ?_
        repeat' (first | (with_reducible first | refine ok_seq ?_ | refine xs1 ?_ | refine xs2 ?_ | refine xs3 ?_ | refine xb1 ?_ | refine xb2 ?_ | refine xb3 (by decide) ?_ | refine xb4 ?_ | refine xl2 ?_ | refine xl3 ?_ | refine xc2 ?_ | refine xc3 ?_ | refine ok_block ?_ | refine ok_scope ?_ | refine ok_skip ?_ | refine ok_label ?_ | refine ok_exit ?_ | refine ok_ret ?_ | refine ok_region (fun M hM => ?_) | refine vif_t ?_ | refine vif_f ?_ | refine fin_normal ?_ | refine fin_ret ?_ | (refine hM _ ?_; clear hM M) | refine vcallW_intro (call_data (by assumption) ?_ rfl ?_) | refine vcallHW_intro (hcall_data (by assumption) rfl ?_) ?_) | ((with_reducible refine nls_q ?_) <;> (first | rfl | assumption | (simp only [znl,nls_wr,nls_pr,nls_pi,nls_pte,nls_fd,nls_u32,nl_pr]; (first | done | fail)))) | (with_reducible refine ok_cond (by (simp only [↓reduceIte,zlk,Nat.reduceEqDiff,reduceCtorEq]); exact rfl) ?_) | ((with_reducible first | refine vif_intro (fun hc => ?_) (fun hc => ?_) | refine vifW_intro (fun hc => ?_) (fun hc => ?_)) <;> (try simp (disch := omega) only [zhb] at hc) <;> (try (exfalso; omega)) <;> (try subst hc)) | (with_reducible refine cndW_intro (by omega) ?_) | (simp (config := { maxSteps := 400000 }) only [↓zvs_pre,↓reduceIte,zvs,reduceCtorEq,Nat.reduceEqDiff,Nat.reduceAdd,Nat.reduceLeDiff,Nat.reduceMul,Int.reduceBNe,Int.reduceBEq,Int.reduceEq,Int.reduceNe,Int.reduceLT,Int.reduceLE,Int.reduceGT,Int.reduceGE,Int.reduceNeg,Int.reduceToNat,Nat.reduceLT,Nat.reduceSub,tab,Try.results66,List.toList_toArray]) | (simp (disch := omega) only [ziw]))
        all_goals (try (exfalso; omega))
        refine ok_loop (fun k : Nat => ⟨slots [(1, .ptr 0 []), (4, .int .i64 v.length), (24, encWrs m.dirty), (25, .int .i64 m.dirty.length), (26, .int .i64 k)], rows [(0, .row machSh (encM m))], 1⟩) (fun k => k ≤ m.dirty.length ∧ ∀ j, j < k → dirtyQ v m.dirty j = true) (fun k => m.dirty.length - k) 0 ?_ ⟨Nat.zero_le _, fun j hj => by omega⟩ (fun k hk => ?_)
        · (refine Ren.mk [(0, 0)] false (by first | (intro h; cases h; done) | exact fun _ => rfl) (by first | decide | rfl | (simp [turnOk]; done)) (by decide) ?_ ?_ <;> (repeat' (first | (with_reducible first | refine mr_int (by first | rfl | omega) | refine mr_str rfl | refine mr_bool rfl | refine mr_dat rfl (by first | rfl | assumption | (simp only [znl,nls_wr,nls_pr,nls_pi,nls_pte,nls_fd,nls_u32,nl_pr]; (first | done | fail))) | refine mr_sl ?_ ?_ (by first | rfl | omega) | refine MR.ptr ?_ ?_ | refine mr_raw | refine mr_slnil | refine mr_empty ?_ | refine mr_row rfl (by (simp only [↓reduceIte,zlk,Nat.reduceEqDiff,reduceCtorEq]); exact rfl) ?_ ?_ ?_ (by decide) | refine mr_aggD rfl (by first | rfl | assumption | (simp only [znl,nls_wr,nls_pr,nls_pi,nls_pte,nls_fd,nls_u32,nl_pr]; (first | done | fail))) | refine MR.agg (MRL.cons ?_ ?_) | refine mr_aggD ?_ (by first | rfl | assumption | (simp only [znl,nls_wr,nls_pr,nls_pi,nls_pte,nls_fd,nls_u32,nl_pr]; (first | done | fail))) | refine MR.fn ?_ | refine MRL.cons ?_ ?_ | refine MRL.nil | refine alls_cons ?_ ?_ | refine alls_nil | refine allb_nil | refine allb_cons ?_ (by (simp only [↓reduceIte,zlk,Nat.reduceEqDiff,reduceCtorEq]); exact rfl) ?_ ?_ | refine MB.row ?_ | refine mb_arr ?_ ?_ | refine MR.map ?_ ?_ | refine mb_map rfl (by first | rfl | assumption | (simp only [znl,nls_wr,nls_pr,nls_pi,nls_pte,nls_fd,nls_u32,nl_pr]; (first | done | fail))) | rfl) | (simp only [znl,nls_wr,nls_pr,nls_pi,nls_pte,nls_fd,nls_u32,nl_pr]; (first | done | fail)) | (refine allb_ghost rfl ?_) | exact known_in rfl | exact known_lt rfl | ((with_reducible refine turn_ok ?_) <;> rfl) | (simp only [↓reduceIte,zlk,Nat.reduceEqDiff,reduceCtorEq]) | (with_reducible first | refine mb_map ?_ ?_ | refine mr_sl ?_ ?_ ?_ | refine mr_int ?_ | refine mr_str ?_ | refine mr_bool ?_ | refine mr_dat ?_ (by first | rfl | assumption | (simp only [znl,nls_wr,nls_pr,nls_pi,nls_pte,nls_fd,nls_u32,nl_pr]; (first | done | fail))) | refine mr_aggD ?_ ?_))))
          all_goals (first | rfl | trace_state)
        obtain ⟨hk, hq⟩ := hk
        by_cases hlt : k < m.dirty.length
        · obtain ⟨⟨w1, w2⟩, w3⟩ := hdS _ (getD_mem' hlt)
          have w4 : ∀ j, j < m.dirty.length → i64R (m.dirty.getD j default).b := fun j hj => (hdS _ (getD_mem' hj)).1
          have w5 := w4 (k - 1) (by omega)
          have hF : dirtyQ v m.dirty k = false → R = 3 := fun h => by
            rw [hR, if_pos]
            unfold dirtyE
            rw [List.all_eq_false]
            exact ⟨k, List.mem_range.2 hlt, by show ¬(dirtyQ v m.dirty k = true); rw [h]; simp⟩
          have hst : dirtyQ v m.dirty k = true → ∀ j, j < k + 1 → dirtyQ v m.dirty j = true := fun h j hj => by
            by_cases e : j = k
            · rw [e]; exact h
            · exact hq j (by omega)
          by_cases hk0 : k = 0
          · subst hk0
            have z0 : ((0 : Nat) : Int) = 0 := rfl
            have hQ : dirtyQ v m.dirty 0 = true ↔ (0 ≤ (m.dirty.getD 0 default).b ∧ (m.dirty.getD 0 default).b < v.length ∧ (m.dirty.getD 0 default).d.length = 128) := by
              unfold dirtyQ
              simp only [Nat.lt_irrefl,decide_false,Bool.false_and,Bool.or_false,Bool.not_eq_true',Bool.or_eq_false_iff,decide_eq_false_iff_not,ne_eq,Decidable.not_not]
              omega
            repeat' (first | (with_reducible first | refine ok_seq ?_ | refine xs1 ?_ | refine xs2 ?_ | refine xs3 ?_ | refine xb1 ?_ | refine xb2 ?_ | refine xb3 (by decide) ?_ | refine xb4 ?_ | refine xl2 ?_ | refine xl3 ?_ | refine xc2 ?_ | refine xc3 ?_ | refine ok_block ?_ | refine ok_scope ?_ | refine ok_skip ?_ | refine ok_label ?_ | refine ok_exit ?_ | refine ok_ret ?_ | refine ok_region (fun M hM => ?_) | refine vif_t ?_ | refine vif_f ?_ | refine fin_normal ?_ | refine fin_ret ?_ | (refine hM _ ?_; clear hM M) | refine vcallW_intro (call_data (by assumption) ?_ rfl ?_) | refine vcallHW_intro (hcall_data (by assumption) rfl ?_) ?_) | ((with_reducible refine nls_q ?_) <;> (first | rfl | assumption | (simp only [znl,nls_wr,nls_pr,nls_pi,nls_pte,nls_fd,nls_u32,nl_pr]; (first | done | fail)))) | (with_reducible refine ok_cond (by (simp only [↓reduceIte,zlk,Nat.reduceEqDiff,reduceCtorEq]); exact rfl) ?_) | ((with_reducible first | refine vif_intro (fun hc => ?_) (fun hc => ?_) | refine vifW_intro (fun hc => ?_) (fun hc => ?_)) <;> (try simp (disch := omega) only [zhb] at hc) <;> (try (exfalso; omega)) <;> (try subst hc)) | (with_reducible refine cndW_intro (by omega) ?_) | (simp (config := { maxSteps := 400000 }) only [↓zvs_pre,↓reduceIte,zvs,reduceCtorEq,Nat.reduceEqDiff,Nat.reduceAdd,Nat.reduceLeDiff,Nat.reduceMul,Int.reduceBNe,Int.reduceBEq,Int.reduceEq,Int.reduceNe,Int.reduceLT,Int.reduceLE,Int.reduceGT,Int.reduceGE,Int.reduceNeg,Int.reduceToNat,Nat.reduceLT,Nat.reduceSub,tab,encWr,z0,Try.results66,List.toList_toArray]) | (simp (disch := omega) only [ziw]))
            refine ok_drawC 31 (by kernel_rfl) (by decide +kernel) (by intro m hm; simp only [upd_ap,rows_cons,rows_nil]; (repeat (first | rfl | rw [if_neg (by omega)]))) (fun M hM => ?_); simp only [List.take_succ_cons,List.take_zero,List.drop_succ_cons,List.drop_zero]
            repeat' (first | (with_reducible first | refine ok_seq ?_ | refine xs1 ?_ | refine xs2 ?_ | refine xs3 ?_ | refine xb1 ?_ | refine xb2 ?_ | refine xb3 (by decide) ?_ | refine xb4 ?_ | refine xl2 ?_ | refine xl3 ?_ | refine xc2 ?_ | refine xc3 ?_ | refine ok_block ?_ | refine ok_scope ?_ | refine ok_skip ?_ | refine ok_label ?_ | refine ok_exit ?_ | refine ok_ret ?_ | refine ok_region (fun M hM => ?_) | refine vif_t ?_ | refine vif_f ?_ | refine fin_normal ?_ | refine fin_ret ?_ | (refine hM _ ?_; clear hM M) | refine vcallW_intro (call_data (by assumption) ?_ rfl ?_) | refine vcallHW_intro (hcall_data (by assumption) rfl ?_) ?_) | ((with_reducible refine nls_q ?_) <;> (first | rfl | assumption | (simp only [znl,nls_wr,nls_pr,nls_pi,nls_pte,nls_fd,nls_u32,nl_pr]; (first | done | fail)))) | (with_reducible refine ok_cond (by (simp only [↓reduceIte,zlk,Nat.reduceEqDiff,reduceCtorEq]); exact rfl) ?_) | ((with_reducible first | refine vif_intro (fun hc => ?_) (fun hc => ?_) | refine vifW_intro (fun hc => ?_) (fun hc => ?_)) <;> (try simp (disch := omega) only [zhb] at hc) <;> (try (exfalso; omega)) <;> (try subst hc)) | (with_reducible refine cndW_intro (by omega) ?_) | (simp (config := { maxSteps := 400000 }) only [↓zvs_pre,↓reduceIte,zvs,reduceCtorEq,Nat.reduceEqDiff,Nat.reduceAdd,Nat.reduceLeDiff,Nat.reduceMul,Int.reduceBNe,Int.reduceBEq,Int.reduceEq,Int.reduceNe,Int.reduceLT,Int.reduceLE,Int.reduceGT,Int.reduceGE,Int.reduceNeg,Int.reduceToNat,Nat.reduceLT,Nat.reduceSub,tab,encWr,z0,Try.results66,List.toList_toArray]) | (simp (disch := omega) only [ziw]))
            all_goals first
              | (exfalso; omega)
              | (rw [hF (by rw [Bool.eq_false_iff]; intro h; have := hQ.1 h; omega)]; simp only [zrds]; done)
              | (refine xl1 1 ?_ ⟨by omega, hst (hQ.2 (by omega))⟩ (by show m.dirty.length - 1 < m.dirty.length - 0; omega); (refine Ren.mk [(0, 0)] false (by first | (intro h; cases h; done) | exact fun _ => rfl) (by first | decide | rfl | (simp [turnOk]; done)) (by decide) ?_ ?_ <;> (repeat' (first | (with_reducible first | refine mr_int (by first | rfl | omega) | refine mr_str rfl | refine mr_bool rfl | refine mr_dat rfl (by first | rfl | assumption | (simp only [znl,nls_wr,nls_pr,nls_pi,nls_pte,nls_fd,nls_u32,nl_pr]; (first | done | fail))) | refine mr_sl ?_ ?_ (by first | rfl | omega) | refine MR.ptr ?_ ?_ | refine mr_raw | refine mr_slnil | refine mr_empty ?_ | refine mr_row rfl (by (simp only [↓reduceIte,zlk,Nat.reduceEqDiff,reduceCtorEq]); exact rfl) ?_ ?_ ?_ (by decide) | refine mr_aggD rfl (by first | rfl | assumption | (simp only [znl,nls_wr,nls_pr,nls_pi,nls_pte,nls_fd,nls_u32,nl_pr]; (first | done | fail))) | refine MR.agg (MRL.cons ?_ ?_) | refine mr_aggD ?_ (by first | rfl | assumption | (simp only [znl,nls_wr,nls_pr,nls_pi,nls_pte,nls_fd,nls_u32,nl_pr]; (first | done | fail))) | refine MR.fn ?_ | refine MRL.cons ?_ ?_ | refine MRL.nil | refine alls_cons ?_ ?_ | refine alls_nil | refine allb_nil | refine allb_cons ?_ (by (simp only [↓reduceIte,zlk,Nat.reduceEqDiff,reduceCtorEq]); exact rfl) ?_ ?_ | refine MB.row ?_ | refine mb_arr ?_ ?_ | refine MR.map ?_ ?_ | refine mb_map rfl (by first | rfl | assumption | (simp only [znl,nls_wr,nls_pr,nls_pi,nls_pte,nls_fd,nls_u32,nl_pr]; (first | done | fail))) | rfl) | (simp only [znl,nls_wr,nls_pr,nls_pi,nls_pte,nls_fd,nls_u32,nl_pr]; (first | done | fail)) | (refine allb_ghost rfl ?_) | exact known_in rfl | exact known_lt rfl | ((with_reducible refine turn_ok ?_) <;> rfl) | (simp only [↓reduceIte,zlk,Nat.reduceEqDiff,reduceCtorEq]) | (with_reducible first | refine mb_map ?_ ?_ | refine mr_sl ?_ ?_ ?_ | refine mr_int ?_ | refine mr_str ?_ | refine mr_bool ?_ | refine mr_dat ?_ (by first | rfl | assumption | (simp only [znl,nls_wr,nls_pr,nls_pi,nls_pte,nls_fd,nls_u32,nl_pr]; (first | done | fail))) | refine mr_aggD ?_ ?_)))); done)
              | trace_state
          · obtain ⟨i, rfl⟩ : ∃ i, k = i + 1 := ⟨k - 1, by omega⟩
            have z1 : ((i + 1 : Nat) : Int) - 1 = i := by omega
            have hQ : dirtyQ v m.dirty (i + 1) = true ↔ (0 ≤ (m.dirty.getD (i + 1) default).b ∧ (m.dirty.getD (i + 1) default).b < v.length ∧ (m.dirty.getD (i + 1) default).d.length = 128 ∧ (m.dirty.getD i default).b < (m.dirty.getD (i + 1) default).b) := by
              unfold dirtyQ
              rw [Nat.add_sub_cancel, decide_eq_true (Nat.succ_pos i)]
              simp only [Bool.true_and,Bool.not_eq_true',Bool.or_eq_false_iff,decide_eq_false_iff_not,ne_eq,Decidable.not_not]
              omega
            repeat' (first | (with_reducible first | refine ok_seq ?_ | refine xs1 ?_ | refine xs2 ?_ | refine xs3 ?_ | refine xb1 ?_ | refine xb2 ?_ | refine xb3 (by decide) ?_ | refine xb4 ?_ | refine xl2 ?_ | refine xl3 ?_ | refine xc2 ?_ | refine xc3 ?_ | refine ok_block ?_ | refine ok_scope ?_ | refine ok_skip ?_ | refine ok_label ?_ | refine ok_exit ?_ | refine ok_ret ?_ | refine ok_region (fun M hM => ?_) | refine vif_t ?_ | refine vif_f ?_ | refine fin_normal ?_ | refine fin_ret ?_ | (refine hM _ ?_; clear hM M) | refine vcallW_intro (call_data (by assumption) ?_ rfl ?_) | refine vcallHW_intro (hcall_data (by assumption) rfl ?_) ?_) | ((with_reducible refine nls_q ?_) <;> (first | rfl | assumption | (simp only [znl,nls_wr,nls_pr,nls_pi,nls_pte,nls_fd,nls_u32,nl_pr]; (first | done | fail)))) | (with_reducible refine ok_cond (by (simp only [↓reduceIte,zlk,Nat.reduceEqDiff,reduceCtorEq]); exact rfl) ?_) | ((with_reducible first | refine vif_intro (fun hc => ?_) (fun hc => ?_) | refine vifW_intro (fun hc => ?_) (fun hc => ?_)) <;> (try simp (disch := omega) only [zhb] at hc) <;> (try (exfalso; omega)) <;> (try subst hc)) | (with_reducible refine cndW_intro (by omega) ?_) | (simp (config := { maxSteps := 400000 }) only [↓zvs_pre,↓reduceIte,zvs,reduceCtorEq,Nat.reduceEqDiff,Nat.reduceAdd,Nat.reduceLeDiff,Nat.reduceMul,Int.reduceBNe,Int.reduceBEq,Int.reduceEq,Int.reduceNe,Int.reduceLT,Int.reduceLE,Int.reduceGT,Int.reduceGE,Int.reduceNeg,Int.reduceToNat,Nat.reduceLT,Nat.reduceSub,tab,encWr,z1,Try.results66,List.toList_toArray]) | (simp (disch := omega) only [ziw]))
            refine ok_drawC 31 (by kernel_rfl) (by decide +kernel) (by intro m hm; simp only [upd_ap,rows_cons,rows_nil]; (repeat (first | rfl | rw [if_neg (by omega)]))) (fun M hM => ?_); simp only [List.take_succ_cons,List.take_zero,List.drop_succ_cons,List.drop_zero]
            repeat' (first | (with_reducible first | refine ok_seq ?_ | refine xs1 ?_ | refine xs2 ?_ | refine xs3 ?_ | refine xb1 ?_ | refine xb2 ?_ | refine xb3 (by decide) ?_ | refine xb4 ?_ | refine xl2 ?_ | refine xl3 ?_ | refine xc2 ?_ | refine xc3 ?_ | refine ok_block ?_ | refine ok_scope ?_ | refine ok_skip ?_ | refine ok_label ?_ | refine ok_exit ?_ | refine ok_ret ?_ | refine ok_region (fun M hM => ?_) | refine vif_t ?_ | refine vif_f ?_ | refine fin_normal ?_ | refine fin_ret ?_ | (refine hM _ ?_; clear hM M) | refine vcallW_intro (call_data (by assumption) ?_ rfl ?_) | refine vcallHW_intro (hcall_data (by assumption) rfl ?_) ?_) | ((with_reducible refine nls_q ?_) <;> (first | rfl | assumption | (simp only [znl,nls_wr,nls_pr,nls_pi,nls_pte,nls_fd,nls_u32,nl_pr]; (first | done | fail)))) | (with_reducible refine ok_cond (by (simp only [↓reduceIte,zlk,Nat.reduceEqDiff,reduceCtorEq]); exact rfl) ?_) | ((with_reducible first | refine vif_intro (fun hc => ?_) (fun hc => ?_) | refine vifW_intro (fun hc => ?_) (fun hc => ?_)) <;> (try simp (disch := omega) only [zhb] at hc) <;> (try (exfalso; omega)) <;> (try subst hc)) | (with_reducible refine cndW_intro (by omega) ?_) | (simp (config := { maxSteps := 400000 }) only [↓zvs_pre,↓reduceIte,zvs,reduceCtorEq,Nat.reduceEqDiff,Nat.reduceAdd,Nat.reduceLeDiff,Nat.reduceMul,Int.reduceBNe,Int.reduceBEq,Int.reduceEq,Int.reduceNe,Int.reduceLT,Int.reduceLE,Int.reduceGT,Int.reduceGE,Int.reduceNeg,Int.reduceToNat,Nat.reduceLT,Nat.reduceSub,tab,encWr,z1,Try.results66,List.toList_toArray]) | (simp (disch := omega) only [ziw]))
            all_goals first
              | (exfalso; omega)
              | (rw [hF (by rw [Bool.eq_false_iff]; intro h; have := hQ.1 h; omega)]; simp only [zrds]; done)
              | (refine xl1 (i + 1 + 1) ?_ ⟨by omega, hst (hQ.2 (by omega))⟩ (by show m.dirty.length - (i + 1 + 1) < m.dirty.length - (i + 1); omega); (refine Ren.mk [(0, 0)] false (by first | (intro h; cases h; done) | exact fun _ => rfl) (by first | decide | rfl | (simp [turnOk]; done)) (by decide) ?_ ?_ <;> (repeat' (first | (with_reducible first | refine mr_int (by first | rfl | omega) | refine mr_str rfl | refine mr_bool rfl | refine mr_dat rfl (by first | rfl | assumption | (simp only [znl,nls_wr,nls_pr,nls_pi,nls_pte,nls_fd,nls_u32,nl_pr]; (first | done | fail))) | refine mr_sl ?_ ?_ (by first | rfl | omega) | refine MR.ptr ?_ ?_ | refine mr_raw | refine mr_slnil | refine mr_empty ?_ | refine mr_row rfl (by (simp only [↓reduceIte,zlk,Nat.reduceEqDiff,reduceCtorEq]); exact rfl) ?_ ?_ ?_ (by decide) | refine mr_aggD rfl (by first | rfl | assumption | (simp only [znl,nls_wr,nls_pr,nls_pi,nls_pte,nls_fd,nls_u32,nl_pr]; (first | done | fail))) | refine MR.agg (MRL.cons ?_ ?_) | refine mr_aggD ?_ (by first | rfl | assumption | (simp only [znl,nls_wr,nls_pr,nls_pi,nls_pte,nls_fd,nls_u32,nl_pr]; (first | done | fail))) | refine MR.fn ?_ | refine MRL.cons ?_ ?_ | refine MRL.nil | refine alls_cons ?_ ?_ | refine alls_nil | refine allb_nil | refine allb_cons ?_ (by (simp only [↓reduceIte,zlk,Nat.reduceEqDiff,reduceCtorEq]); exact rfl) ?_ ?_ | refine MB.row ?_ | refine mb_arr ?_ ?_ | refine MR.map ?_ ?_ | refine mb_map rfl (by first | rfl | assumption | (simp only [znl,nls_wr,nls_pr,nls_pi,nls_pte,nls_fd,nls_u32,nl_pr]; (first | done | fail))) | rfl) | (simp only [znl,nls_wr,nls_pr,nls_pi,nls_pte,nls_fd,nls_u32,nl_pr]; (first | done | fail)) | (refine allb_ghost rfl ?_) | exact known_in rfl | exact known_lt rfl | ((with_reducible refine turn_ok ?_) <;> rfl) | (simp only [↓reduceIte,zlk,Nat.reduceEqDiff,reduceCtorEq]) | (with_reducible first | refine mb_map ?_ ?_ | refine mr_sl ?_ ?_ ?_ | refine mr_int ?_ | refine mr_str ?_ | refine mr_bool ?_ | refine mr_dat ?_ (by first | rfl | assumption | (simp only [znl,nls_wr,nls_pr,nls_pi,nls_pte,nls_fd,nls_u32,nl_pr]; (first | done | fail))) | refine mr_aggD ?_ ?_)))); done)
              | trace_state
        · obtain rfl : k = m.dirty.length := by omega
          have hE : dirtyE v m.dirty = true := by
            unfold dirtyE
            rw [List.all_eq_true]
            intro i hi
            exact hq i (List.mem_range.1 hi)
          rw [hE, if_neg (by simp)] at hR
          rw [← hR] at hO
          repeat' (first | (with_reducible first | refine ok_seq ?_ | refine xs1 ?_ | refine xs2 ?_ | refine xs3 ?_ | refine xb1 ?_ | refine xb2 ?_ | refine xb3 (by decide) ?_ | refine xb4 ?_ | refine xl2 ?_ | refine xl3 ?_ | refine xc2 ?_ | refine xc3 ?_ | refine ok_block ?_ | refine ok_scope ?_ | refine ok_skip ?_ | refine ok_label ?_ | refine ok_exit ?_ | refine ok_ret ?_ | refine ok_region (fun M hM => ?_) | refine vif_t ?_ | refine vif_f ?_ | refine fin_normal ?_ | refine fin_ret ?_ | (refine hM _ ?_; clear hM M) | refine vcallW_intro (call_data (by assumption) ?_ rfl ?_) | refine vcallHW_intro (hcall_data (by assumption) rfl ?_) ?_) | ((with_reducible refine nls_q ?_) <;> (first | rfl | assumption | (simp only [znl,nls_wr,nls_pr,nls_pi,nls_pte,nls_fd,nls_u32,nl_pr]; (first | done | fail)))) | (with_reducible refine ok_cond (by (simp only [↓reduceIte,zlk,Nat.reduceEqDiff,reduceCtorEq]); exact rfl) ?_) | ((with_reducible first | refine vif_intro (fun hc => ?_) (fun hc => ?_) | refine vifW_intro (fun hc => ?_) (fun hc => ?_)) <;> (try simp (disch := omega) only [zhb] at hc) <;> (try (exfalso; omega)) <;> (try subst hc)) | (with_reducible refine cndW_intro (by omega) ?_) | (simp (config := { maxSteps := 400000 }) only [↓zvs_pre,↓reduceIte,zvs,reduceCtorEq,Nat.reduceEqDiff,Nat.reduceAdd,Nat.reduceLeDiff,Nat.reduceMul,Int.reduceBNe,Int.reduceBEq,Int.reduceEq,Int.reduceNe,Int.reduceLT,Int.reduceLE,Int.reduceGT,Int.reduceGE,Int.reduceNeg,Int.reduceToNat,Nat.reduceLT,Nat.reduceSub,tab,Try.results66,List.toList_toArray]) | (simp (disch := omega) only [ziw]))
          all_goals first
            | (exfalso; omega)
            | (simp only [zrds]; done)
            | trace_state
  · rw [if_pos h0] at hR
    rw [hR]
    refine spec_ok Try.func66 rfl rfl (by kernel_rfl) (k := 1) rfl (by decide) ?_
    repeat' (first | (with_reducible first | refine ok_seq ?_ | refine xs1 ?_ | refine xs2 ?_ | refine xs3 ?_ | refine xb1 ?_ | refine xb2 ?_ | refine xb3 (by decide) ?_ | refine xb4 ?_ | refine xl2 ?_ | refine xl3 ?_ | refine xc2 ?_ | refine xc3 ?_ | refine ok_block ?_ | refine ok_scope ?_ | refine ok_skip ?_ | refine ok_label ?_ | refine ok_exit ?_ | refine ok_ret ?_ | refine ok_region (fun M hM => ?_) | refine vif_t ?_ | refine vif_f ?_ | refine fin_normal ?_ | refine fin_ret ?_ | (refine hM _ ?_; clear hM M) | refine vcallW_intro (call_data (by assumption) ?_ rfl ?_) | refine vcallHW_intro (hcall_data (by assumption) rfl ?_) ?_) | ((with_reducible refine nls_q ?_) <;> (first | rfl | assumption | (simp only [znl,nls_wr,nls_pr,nls_pi,nls_pte,nls_fd,nls_u32,nl_pr]; (first | done | fail)))) | (with_reducible refine ok_cond (by (simp only [↓reduceIte,zlk,Nat.reduceEqDiff,reduceCtorEq]); exact rfl) ?_) | ((with_reducible first | refine vif_intro (fun hc => ?_) (fun hc => ?_) | refine vifW_intro (fun hc => ?_) (fun hc => ?_)) <;> (try simp (disch := omega) only [zhb] at hc) <;> (try (exfalso; omega)) <;> (try subst hc)) | (with_reducible refine cndW_intro (by omega) ?_) | (simp (config := { maxSteps := 400000 }) only [↓zvs_pre,↓reduceIte,zvs,reduceCtorEq,Nat.reduceEqDiff,Nat.reduceAdd,Nat.reduceLeDiff,Nat.reduceMul,Int.reduceBNe,Int.reduceBEq,Int.reduceEq,Int.reduceNe,Int.reduceLT,Int.reduceLE,Int.reduceGT,Int.reduceGE,Int.reduceNeg,Int.reduceToNat,Nat.reduceLT,Nat.reduceSub,tab,Try.results66,List.toList_toArray]) | (simp (disch := omega) only [ziw]))
    all_goals first
      | (exfalso; omega)
      | (simp only [zrds]; done)
      | trace_state
end Go.Proofs.Ytlgldkjjbbbapaa.V
end
