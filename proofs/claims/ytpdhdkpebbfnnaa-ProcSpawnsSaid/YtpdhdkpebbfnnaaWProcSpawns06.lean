/-
  Parts of the proof of ProcSpawns: VregS, T6, N8, T7, Vren2, T9, Bd.
  Conditions: none.
-/
import Derived.Test.YtpdhdkpebbfnnaaWProcSpawns05
import Derived.Test.YtpdhdkpebbfnnaaWProcSpawns04
import Derived.WalkKit
import Derived.Lib.BufStepsIn
import Derived.Shelf.Strings.BuilderK
set_option linter.unusedVariables false
set_option linter.unusedSimpArgs false
set_option linter.unusedSectionVars false
set_option linter.defProp false
section
namespace Go.Proofs.Ytpdhdkpebbfnnaa.V
open Go Go.RowKit

def reachC (ops : Array Oper) : Nat → Oper → Nat → Bool
  | 0, _, _ => false
  | f + 1, o, j => o.after.any fun e => Region.binds .any e && (e.on == j || (decide (j < e.on) && (match ops[e.on]? with | some o' => reachC ops f o' j | none => false)))
theorem reachC_B {ops : Array Oper} : ∀ (f : Nat) (o : Oper) (j : Nat), reachC ops f o j = true → reachB ops f o j = true
  | 0, _, _, h => by simp [reachC] at h
  | f + 1, o, j, h => by
    simp only [reachC,reachB,Array.any_eq_true'] at h ⊢
    obtain ⟨e, he, h⟩ := h
    refine ⟨e, he, ?_⟩
    simp only [Bool.and_eq_true,Bool.or_eq_true,beq_iff_eq,decide_eq_true_eq] at h ⊢
    obtain ⟨hb, h⟩ := h
    refine ⟨hb, ?_⟩
    rcases h with h | ⟨_, h⟩
    · exact .inl h
    · right
      split at h
      · rename_i o' ho'
        rw [ho']
        exact reachC_B f o' j h
      · cases h
def drawOkC (ops : Array Oper) (k : Nat) : Bool :=
  decide (k ≤ ops.size ∧ ops.size ≤ 1000000) && wfL ops (ops.toList.take k) && (List.range k).all (fun j => match ops[j]? with | some o => o.after.all (fun e => !Region.binds .any e || decide (e.on < j)) | none => true) &&
  ((List.range k).all fun i => match ops[i]? with
    | some o => (o.looksAt ops).all fun t => (List.range k).all fun j => (match ops[j]? with | some o' => o'.dst != some t | none => true) || reachC ops ops.size o j
    | none => true) &&
  ((List.range ops.size).all fun j => decide (j < k) || (match ops[j]? with
    | some o => (List.range j).all (fun i => reachC ops ops.size o i) && o.after.all (fun e => !Region.binds .any e || decide (e.on < j))
    | none => true))
theorem all_mono {α : Type} {p q : α → Bool} {l : List α} (hpq : ∀ x ∈ l, p x = true → q x = true) (h : l.all p = true) : l.all q = true :=
  List.all_eq_true.2 fun x hx => hpq x hx (List.all_eq_true.1 h x hx)
theorem or_mono {a b c : Bool} (hbc : b = true → c = true) (h : (a || b) = true) : (a || c) = true := by
  cases a
  · exact hbc h
  · rfl
theorem drawOkC_ok {ops : Array Oper} {k : Nat} (h : drawOkC ops k = true) : drawOk ops k = true := by
  unfold drawOkC at h
  unfold drawOk
  simp only [Bool.and_eq_true] at h ⊢
  obtain ⟨⟨⟨⟨h1, h2⟩, h3⟩, h4⟩, h5⟩ := h
  refine ⟨⟨⟨⟨h1, h2⟩, h3⟩, all_mono (fun i _ hi => ?_) h4⟩, all_mono (fun j _ hj => or_mono (fun hj => ?_) hj) h5⟩
  · split at hi
    · rename_i o ho
      rw [ho]
      exact all_mono (fun t _ ht => all_mono (fun j _ hj => or_mono (reachC_B _ _ _) hj) ht) hi
    · rename_i ho; rw [ho]
  · split at hj
    · rename_i o ho
      rw [ho]
      simp only [Bool.and_eq_true] at hj ⊢
      exact ⟨all_mono (fun i _ hi => reachC_B _ _ _ hi) hj.1, hj.2⟩
    · rename_i ho; rw [ho]
section
variable {P : Program} {n0 : Nat} {K : VX → VS → Prop}
theorem ok_drawC {id : Nat} {l : List Oper} {tm : Nat → VV} {H : Heap} {n : Nat} (k : Nat) (hm : P.follows .mixedOrders = true) (hd : drawOkC l.toArray k = true) (hfr : ∀ m, n ≤ m → H m = none)
    (h : ∀ M : VS → Prop, (∀ S, K .normal S → M S) → vh P l (l.take k) tm H n fun tm H n => vl P l (l.drop k) ⟨tm, H, n⟩ M) : Ok P n0 (.region id l.toArray true) ⟨tm, H, n⟩ K := ok_draw k hm (drawOkC_ok hd) hfr h
end
def gst (l : List (Nat × Nat × Blk)) (G : Heap) (f : Nat → Bool) : Heap := fun m => match l.find? fun e => f e.1 && e.2.1 == m with
  | some e => some e.2.2
  | none => G m
theorem find_congr {α : Type} {p q : α → Bool} : ∀ (l : List α), (∀ x ∈ l, p x = q x) → l.find? p = l.find? q
  | [], _ => rfl
  | x :: l, h => by
    rw [List.find?_cons, List.find?_cons, h x (by simp), find_congr l fun y hy => h y (by simp [hy])]
theorem gst_congr {l : List (Nat × Nat × Blk)} {G : Heap} {f g : Nat → Bool} (h : ∀ e ∈ l, f e.1 = g e.1) : gst l G f = gst l G g := by
  funext m
  unfold gst
  rw [find_congr l fun e he => by rw [h e he]]
theorem gst_other {l : List (Nat × Nat × Blk)} {G : Heap} {f : Nat → Bool} {m : Nat} (h : ∀ e ∈ l, f e.1 = true → e.2.1 ≠ m) : gst l G f m = G m := by
  unfold gst
  rw [List.find?_eq_none.2 fun e he => by
    simp only [Bool.and_eq_true,beq_iff_eq,not_and]
    exact h e he]
theorem gst_step {l : List (Nat × Nat × Blk)} {G : Heap} {f g : Nat → Bool} {e : Nat × Nat × Blk} (he : e ∈ l) (hdis : ∀ a ∈ l, ∀ b ∈ l, a.2.1 = b.2.1 ∨ a.1 = b.1 → a = b) (hge : g e.1 = true) (hg : ∀ j, j ≠ e.1 → g j = f j) :
    gst l G g = upd (gst l G f) e.2.1 (some e.2.2) := by
  funext m
  rw [upd_ap]
  split
  · rename_i hm
    subst hm
    unfold gst
    cases hx : l.find? fun a => g a.1 && a.2.1 == e.2.1 with
    | none =>
      have := List.find?_eq_none.1 hx e he
      simp [hge] at this
    | some a =>
      have h1 := List.mem_of_find?_eq_some hx
      have h2 := List.find?_some hx
      simp only [Bool.and_eq_true,beq_iff_eq] at h2
      rw [hdis a h1 e he (.inl h2.2)]
  · rename_i hm
    unfold gst
    rw [find_congr l fun a ha => ?_]
    by_cases h : a.1 = e.1
    · have := hdis a ha e he (.inr h)
      subst this
      have : (a.2.1 == m) = false := by simpa using Ne.symm hm
      rw [this, Bool.and_false, Bool.and_false]
    · rw [hg _ h]
section
variable {P : Program} {N : NN} {B : Nat} {ρ0 : Names} {w0 : World} {ops : Array Oper} {k nx : Nat} {sts : List (Nat × Nat × Blk)} {perm : List Nat} {tm0 tmF : Nat → VV} {GA : Heap} {env : Nat → Nat → VV} {K : VS → Prop} {Q : Exit → Act → World → Prop}
theorem head3 (hk9 : k ≤ ops.size ∧ ops.size ≤ 1000000) (hd : ∀ o ∈ ops.toList, ∀ t, o.dst = some t → t < N)
    (hreach : ∀ j o, k ≤ j → ops[j]? = some o → (∀ i, i < j → reachB ops ops.size o i = true) ∧ ∀ e ∈ o.after, Region.binds .any e = true → e.on < j)
    (hb : ∀ j o, j < k → ops[j]? = some o → ∀ e ∈ o.after, Region.binds .any e = true → e.on < j)
    (hperm : ∀ i, i < k → (∀ e ∈ sts, e.1 ≠ i) → ∃ q : Nat, perm[q]? = some i)
    (hpk : ∀ (q : Nat) i, perm[q]? = some i → i < k ∧ ∀ e ∈ sts, e.1 ≠ i)
    (hpl : perm.length ≤ k)
    (huniq : ∀ (q r : Nat) i, perm[q]? = some i → perm[r]? = some i → q = r)
    (hone : ∀ i j t, i < k → j < k → i ≠ j → dstB ops i t = true → dstB ops j t = false)
    (henv : ∀ (q : Nat) i o t, perm[q]? = some i → ops[i]? = some o → t ∈ o.looksAt ops → ∀ listed, listed.getD i false = false → Closed ops listed → (∀ e ∈ o.after, Region.binds .any e = true → listed.getD e.on false = true) → tmQ ops listed k tm0 tmF t = env q t)
    (hsk : ∀ e ∈ sts, e.1 < k)
    (hdis : ∀ e ∈ sts, ∀ e' ∈ sts, e.2.1 = e'.2.1 ∨ e.1 = e'.1 → e = e')
    (hF : ∀ (q : Nat) i o, perm[q]? = some i → ops[i]? = some o → ∀ listed : Array Bool, listed.getD i false = false → Closed ops listed → Fact2 P ops.toList (env q) tmF (gst sts GA fun j => listed.getD j false) (nx + 64 * q) o)
    (hS : ∀ e ∈ sts, ∀ o, ops[e.1]? = some o → o.dst = none ∧ o.guard = none ∧ ∃ t y x, o.op = .store t y x ∧ (∀ listed, Closed ops listed → (∀ e ∈ o.after, Region.binds .any e = true → listed.getD e.on false = true) → ∀ z ∈ o.op.operands.toList, ev (tmQ ops listed k tm0 tmF) z = ev tmF z) ∧ (∀ z, z = y ∨ z = x → z ∈ o.op.operands.toList) ∧ ∀ f : Nat → Bool, f e.1 = false → vStore P (ev tmF) (gst sts GA f) 0 (fun v G n => v = .any ∧ G = upd (gst sts GA f) e.2.1 (some e.2.2) ∧ n = 0) t y x)
    (htail : vlist P ops.toList (ops.toList.drop k) ⟨tmF, gst sts GA fun _ => true, nx + 64 * k⟩ K)
    (next : ∀ S' a' w' ρ', K S' → SR N B ρ0 w0 S' a' w' ρ' → Q .normal a' w') :
    ∀ (fuel : Nat) (listed : Array Bool) (a : Act) (w : World) (ρ : Names), ops.size ≤ cnt listed k + fuel → listed.size = ops.size → (∀ i, k ≤ i → listed.getD i false = false) → Closed ops listed →
      TM ρ w (tmQ ops listed k tm0 tmF) a → a.defers = N.ds → a.tmps.size = N → HR (ZF (Fr2 nx perm listed)) B ρ (gst sts GA fun j => listed.getD j false) 0 w → Below B w0 w → Ext ρ0 w0 ρ w → wpAny P .any ops Q fuel listed a w := by
  have fin : ∀ (fuel : Nat) (listed : Array Bool) (a : Act) (w : World) (ρ : Names), ops.size ≤ k + fuel → (∀ i, i < k → listed.getD i false = true) → listed.size = ops.size → (∀ i, k ≤ i → listed.getD i false = false) → Closed ops listed →
      TM ρ w (tmQ ops listed k tm0 tmF) a → a.defers = N.ds → a.tmps.size = N → HR (ZF (Fr2 nx perm listed)) B ρ (gst sts GA fun j => listed.getD j false) 0 w → Below B w0 w → Ext ρ0 w0 ρ w → wpAny P .any ops Q fuel listed a w := by
    intro fuel listed a w ρ hf hall hsz hl hc hT hdf hts hh hbl he
    have hTF : TM ρ w tmF a := fun t => by
      have := hT t
      unfold tmQ at this
      rw [if_neg (by intro e; obtain ⟨j, h1, h2, _⟩ := pendB_true.1 e; rw [hall j h1] at h2; cases h2)] at this
      exact this
    have hG : (gst sts GA fun j => listed.getD j false) = gst sts GA fun _ => true := gst_congr fun e he => hall e.1 (hsk e he)
    rw [hG] at hh
    exact tail_any hd hreach next fuel k listed ⟨tmF, gst sts GA fun _ => true, nx + 64 * k⟩ a w ρ (Nat.le_refl _) (by omega) hsz (fun i => by
        by_cases hi : i < k
        · simp [hi, hall i hi]
        · simp [hi, hl i (by omega)]) hc htail
      ⟨hTF, hdf, hts, hh.zone (fun m (hm : nx + 64 * k ≤ m) => ⟨by omega, fun q i hq h1 h2 => by
        have : q < perm.length := (List.getElem?_eq_some_iff.1 hq).1
        omega⟩), hbl, he⟩
  obtain ⟨hk, hsm⟩ := hk9
  intro fuel
  induction fuel with
  | zero =>
    intro listed a w ρ hf hsz hl hc hT hdf hts hh hbl he
    have hkz : k = ops.size := by have := cnt_le listed k; omega
    exact fin 0 listed a w ρ (by omega) (fun i hi => by
      cases hx : listed.getD i false with
      | true => rfl
      | false => have := cnt_lt k i hi hx; omega) hsz hl hc hT hdf hts hh hbl he
  | succ fuel ih =>
    intro listed a w ρ hf hsz hl hc hT hdf hts hh hbl he
    by_cases hall : ∀ i, i < k → listed.getD i false = true
    · exact fin (fuel + 1) listed a w ρ (by have := cnt_le listed k; omega) hall hsz hl hc hT hdf hts hh hbl he
    · simp only [Classical.not_forall] at hall
      obtain ⟨j0, hj0, hj0l⟩ := hall
      have hj0f : listed.getD j0 false = false := by simpa using hj0l
      refine ⟨fun hr => absurd hr (exists_ready hsz hk hb j0 j0 (Nat.le_refl _) hj0 hj0f), fun i hi => ?_⟩
      obtain ⟨h0, o, ho, hafter⟩ := mem_ready.1 hi
      obtain ⟨hil, hif⟩ := getD_true_false.1 h0
      have hik : i < k := by
        rcases Nat.lt_or_ge i k with h | h
        · exact h
        · exfalso
          have := reach_listed hc ops.size o j0 ((hreach i o h ho).1 j0 (by omega)) hafter
          rw [hj0f] at this
          cases this
      have hdN : ∀ t, o.dst = some t → t < a.tmps.size := fun t ht => by
        rw [hts]
        exact hd o (by obtain ⟨hlt, e⟩ := Array.getElem?_eq_some_iff.1 ho; rw [← e]; simp) t ht
      have hcl : Closed ops (listed.setIfInBounds i true) := fun x o' hx hlx e' he' hb' => by
        rw [getD_set hil] at hlx ⊢
        split
        · rfl
        · by_cases hxi : x = i
          · subst hxi
            rw [ho] at hx
            injection hx with hx
            subst hx
            exact hafter e' he' hb'
          · rw [if_neg hxi] at hlx
            exact hc x o' hx hlx e' he' hb'
      -- the slots behind the operation
      have htm : ∀ (ρ' : Names) (x : Value) (w' : World) (v : VV), (∀ t, o.dst = some t → tmF t = v) → VR ρ' w' v x → Ext ρ w ρ' w' → TM ρ' w' (tmQ ops (listed.setIfInBounds i true) k tm0 tmF) (a.put o.dst x) := by
        intro ρ' x w' v hv hvx he' t
        have hput := (hT.ext he').put hdN hvx t
        have e : V.put o.dst v (tmQ ops listed k tm0 tmF) t = tmQ ops (listed.setIfInBounds i true) k tm0 tmF t := by
          by_cases htd : o.dst = some t
          · have h1 : V.put o.dst v (tmQ ops listed k tm0 tmF) t = v := by rw [htd]; simp [V.put, upd_ap]
            rw [h1]
            unfold tmQ
            rw [if_neg]
            · exact (hv t htd).symm
            · intro e
              obtain ⟨j, h1, h2, o', ho', h3⟩ := pendB_true.1 e
              rw [getD_set hil] at h2
              split at h2
              · cases h2
              · rename_i hji
                have := hone i j t hik h1 (Ne.symm hji) (dstB_iff.2 ⟨o, ho, htd⟩)
                rw [dstB_iff.2 ⟨o', ho', h3⟩] at this
                cases this
          · have h1 : V.put o.dst v (tmQ ops listed k tm0 tmF) t = tmQ ops listed k tm0 tmF t := by
              cases hod : o.dst with
              | none => rfl
              | some d => simp only [V.put,upd_ap]; rw [if_neg (by intro e; rw [e] at htd; exact htd hod)]
            rw [h1]
            unfold tmQ
            have : pendB ops (listed.setIfInBounds i true) k t = pendB ops listed k t := by
              rw [Bool.eq_iff_iff, pendB_true, pendB_true]
              constructor
              · rintro ⟨j, h1, h2, o', ho', h3⟩
                rw [getD_set hil] at h2
                split at h2
                · cases h2
                · exact ⟨j, h1, h2, o', ho', h3⟩
              · rintro ⟨j, h1, h2, o', ho', h3⟩
                refine ⟨j, h1, ?_, o', ho', h3⟩
                rw [getD_set hil, if_neg]
                · exact h2
                · intro e; subst e; rw [ho] at ho'; injection ho' with ho'; subst ho'; exact htd h3
            rw [this]
        rw [e] at hput
        exact hput
      by_cases hjs : ∃ e ∈ sts, e.1 = i
      · -- a store
        obtain ⟨e, hes, rfl⟩ := hjs
        obtain ⟨hdst, hg, t, y, x, hop, hev, hyx, hst⟩ := hS e hes o ho
        have hst := hst (fun j => listed.getD j false) hif
        have hev := hev listed hc hafter
        have hset : (gst sts GA fun j => (listed.setIfInBounds e.1 true).getD j false) = upd (gst sts GA fun j => listed.getD j false) e.2.1 (some e.2.2) :=
          gst_step hes hdis (by rw [getD_set hil, if_pos rfl]) fun j hj => by rw [getD_set hil, if_neg hj]
        obtain ⟨GB, hGB⟩ : ∃ GB, GB = upd (gst sts GA fun j => listed.getD j false) e.2.1 (some e.2.2) := ⟨_, rfl⟩
        rw [← hGB] at hst hset
        have hst2 : vStore P (ev (tmQ ops listed k tm0 tmF)) (gst sts GA fun j => listed.getD j false) 0 (fun v G n => v = .any ∧ G = GB ∧ n = 0) t y x := by
          unfold vStore at hst ⊢
          unfold onV at hst ⊢
          rw [hev y (hyx y (.inl rfl)), hev x (hyx x (.inr rfl))]
          exact hst
        have hr := store_sound hT hh t y x hop hst2
        have after : ∀ (ρ' : Names) (x : Value) (w' : World), HR (ZF (Fr2 nx perm listed)) B ρ' GB 0 w' → Ext ρ w ρ' w' → Below B w w' → wpAny P .any ops Q fuel (listed.setIfInBounds e.1 true) (a.put o.dst x) w' := by
          intro ρ' x w' hh' he' hb'
          have hz := put_size a o.dst x
          refine ih _ _ _ ρ' ?_ (by simpa using hsz) (fun j hj => by rw [getD_set hil, if_neg (by omega)]; exact hl j hj) hcl ?_ (by rw [hz.2]; exact hdf) (by rw [hz.1]; exact hts) ?_ (hbl.trans hb') (he.trans he')
          · rw [cnt_set hil hif, if_pos hik]; omega
          · exact htm ρ' x w' .any (fun t ht => by rw [hdst] at ht; cases ht) (by simp [VR, VR1]) he'
          · rw [hset]
            refine hh'.zone fun m hm => ⟨hm.1, fun q j hq h1 h2 => ?_⟩
            have := hm.2 q j hq h1 h2
            rw [getD_set hil, if_neg (fun h => (hpk q j hq).2 e hes h.symm)] at this
            exact this
        have hw : (if Region.wanted o (yielded ops a.tmps) = true then o.wp P a w (wpAny P .any ops Q fuel (listed.setIfInBounds e.1 true)) Q else wpAny P .any ops Q fuel (listed.setIfInBounds e.1 true) (a.put o.dst undef) w) := by
          rw [if_pos (by simp [Region.wanted, hg])]
          unfold Oper.wp
          rcases hr with ⟨x, w', hr, hg⟩ | ⟨w', hr, hg⟩ | ⟨f, xs, hr, hcl'⟩
          · rw [hr]
            obtain ⟨v', H', n'', ρ', ⟨rfl, rfl, rfl⟩, h1, h2, h3, h4⟩ := hg
            exact after ρ' x w' h2 h3 h4
          · rw [hr]
            obtain ⟨v', H', n'', ρ', ⟨rfl, rfl, rfl⟩, h1, h2, h3, h4⟩ := hg
            exact after ρ' undef w' h2 h3 h4
          · rw [hr]
            refine Calls.mono hcl' fun e w' hee => ?_
            obtain ⟨x, rfl, v', H', n'', ρ', ⟨rfl, rfl, rfl⟩, h1, h2, h3, h4⟩ := hee
            exact after ρ' x w' h2 h3 h4
        unfold wpOp
        rw [ho]
        dsimp only
        split
        · rename_i hx; rw [if_pos hx] at hw; exact .inl hw
        · rename_i hx; rw [if_neg hx] at hw; exact hw
      -- another one
      obtain ⟨q, hq⟩ := hperm i hik fun e he h => hjs ⟨e, he, h⟩
      have hseen : ∀ t ∈ o.looksAt ops, tmQ ops listed k tm0 tmF t = env q t := fun t ht => henv q i o t hq ho ht listed hif hc hafter
      obtain ⟨G, hGe⟩ : ∃ G, G = gst sts GA fun j => listed.getD j false := ⟨_, rfl⟩
      have hFi : Fact2 P ops.toList (env q) tmF G (nx + 64 * q) o := by rw [hGe]; exact hF q i o hq ho listed hif hc
      have hGe' : (gst sts GA fun j => (listed.setIfInBounds i true).getD j false) = G := by
        rw [hGe]
        exact gst_congr fun e he => by rw [getD_set hil, if_neg (fun h => hjs ⟨e, he, h⟩)]
      rw [← hGe] at hh
      -- on behind the operation
      have go : ∀ (ρ' : Names) (x : Value) (w' : World) (v : VV) (n' : Nat), (∀ t, o.dst = some t → tmF t = v) → VR ρ' w' v x → HR (ZI (Fr2 nx perm listed) (nx + 64 * q)) B ρ' G n' w' → n' ≤ nx + 64 * q + 64 → Ext ρ w ρ' w' → Below B w w' →
          wpAny P .any ops Q fuel (listed.setIfInBounds i true) (a.put o.dst x) w' := by
        intro ρ' x w' v n' hv hvx hh' hn' he' hb'
        have hz := put_size a o.dst x
        refine ih _ _ _ ρ' ?_ (by simpa using hsz) (fun j hj => by rw [getD_set hil, if_neg (by omega)]; exact hl j hj) hcl (htm ρ' x w' v hv hvx he') (by rw [hz.2]; exact hdf) (by rw [hz.1]; exact hts) ?_ (hbl.trans hb') (he.trans he')
        · rw [cnt_set hil hif, if_pos hik]; omega
        · rw [hGe']
          refine hh'.zone fun m hm => .inr ⟨⟨hm.1, fun r j hr h1 h2 => ?_⟩, fun hc' => ?_⟩
          · have := hm.2 r j hr h1 h2
            rw [getD_set hil] at this
            split at this
            · cases this
            · exact this
          · have := hm.2 q i hq hc'.1 hc'.2
            rw [getD_set hil, if_pos rfl] at this
            cases this
      have hhI : HR (ZI (Fr2 nx perm listed) (nx + 64 * q)) B ρ G (nx + 64 * q) w := hh.zone fun m hm => by
        rcases hm with hm | hm
        · refine ⟨by omega, fun r j hr h1 h2 => ?_⟩
          have : r = q := by omega
          subst this
          rw [hq] at hr
          injection hr with hr
          subst hr
          exact hif
        · exact hm.1
      have run : Does2 P (env q) tmF G (nx + 64 * q) o → o.wp P a w (wpAny P .any ops Q fuel (listed.setIfInBounds i true)) Q := by
        rintro ⟨v, n', hv, hn1, hn2, hdo⟩
        have hop := hdo (ev (tmQ ops listed k tm0 tmF)) (fun v' H' n'' => v' = v ∧ H' = G ∧ n'' = n') (fun x hx => by
          cases x with
          | tmp t => exact hseen t (looks_operand hx)
          | _ => rfl) ⟨rfl, rfl, rfl⟩
        have hr := vopH_sound (Z := ZI (Fr2 nx perm listed) (nx + 64 * q)) hT hhI (fun v' H' n'' h1 h2 => (⟨Nat.le_refl _, by omega⟩ : nx + 64 * q ≤ nx + 64 * q ∧ nx + 64 * q < nx + 64 * q + 64)) (fun m hm => hh.fresh m ⟨by omega, fun r j hr h1 h2 => by have := (List.getElem?_eq_some_iff.1 hr).1; omega⟩) hop
        unfold Oper.wp
        rcases hr with ⟨x, w', hr, hg⟩ | ⟨w', hr, hg⟩ | ⟨f, xs, hr, hcl'⟩
        · rw [hr]
          obtain ⟨v', H', n'', ρ', ⟨rfl, rfl, rfl⟩, h1, h2, h3, h4⟩ := hg
          exact go ρ' x w' v' n'' hv h1 h2 hn2 h3 h4
        · rw [hr]
          obtain ⟨v', H', n'', ρ', ⟨rfl, rfl, rfl⟩, h1, h2, h3, h4⟩ := hg
          exact go ρ' undef w' v' n'' hv h1 h2 hn2 h3 h4
        · rw [hr]
          refine Calls.mono hcl' fun e w' hee => ?_
          obtain ⟨x, rfl, v', H', n'', ρ', ⟨rfl, rfl, rfl⟩, h1, h2, h3, h4⟩ := hee
          exact go ρ' x w' v' n'' hv h1 h2 hn2 h3 h4
      have skip : (∀ t, o.dst = some t → tmF t = .raw undef) → wpAny P .any ops Q fuel (listed.setIfInBounds i true) (a.put o.dst undef) w := fun hv =>
        go ρ undef w (.raw undef) (nx + 64 * q) hv (by simp [VR, VR1, C1]) hhI (by omega) (Ext.refl _ _) (Below.refl _ _)
      have hst : if Region.wanted o (yielded ops a.tmps) = true then o.wp P a w (wpAny P .any ops Q fuel (listed.setIfInBounds i true)) Q else wpAny P .any ops Q fuel (listed.setIfInBounds i true) (a.put o.dst undef) w := by
        rcases hFi with ⟨hg, hdo⟩ | ⟨g, want, d, hg, hdg, hrest⟩
        · rw [if_pos (by simp [Region.wanted, hg])]
          exact run hdo
        · have hTd := hT d
          rw [hseen d (looks_guard hg hdg)] at hTd
          have hyd : yielded ops a.tmps g = match a.tmps[d]? with | some (.bool b) => some b | _ => none := by
            unfold yielded
            rw [dstAt_eq, Array.getElem?_toList] at hdg
            rw [hdg]
            simp only [Option.bind_some]
            rfl
          have hbool : ∀ b, env q d = .bool b → Region.wanted o (yielded ops a.tmps) = (b == want) := fun b hb2 => by
            rw [hb2] at hTd
            have hx := hTd.bool
            have hbd : a.tmps[d]? = some (.bool b) := by
              rw [Array.getD_eq_getD_getElem?] at hx
              cases hy : a.tmps[d]? with
              | none => rw [hy] at hx; simp [undef] at hx
              | some y => rw [hy] at hx; simp at hx; rw [hx]
            simp only [Region.wanted,hg,hyd,hbd]
            cases b <;> cases want <;> rfl
          rcases hrest with ⟨hdv, hdo⟩ | ⟨hdv, hu⟩
          · rw [hbool want hdv, if_pos (by simp)]
            exact run hdo
          · have hw : Region.wanted o (yielded ops a.tmps) = false := by
              rcases hdv with hdv | hdv
              · rw [hbool _ hdv]; cases want <;> rfl
              · rw [hdv] at hTd
                have hx : a.tmps.getD d undef = undef := by simpa [VR, VR1, C1] using hTd
                simp only [Region.wanted,hg,hyd]
                rw [Array.getD_eq_getD_getElem?] at hx
                cases hy : a.tmps[d]? with
                | none => cases want <;> rfl
                | some y =>
                  rw [hy] at hx
                  simp only [Option.getD_some] at hx
                  subst hx
                  cases want <;> rfl
            rw [hw, if_neg (by simp)]
            exact skip hu
      unfold wpOp
      rw [ho]
      dsimp only
      split
      · rename_i hw; rw [if_pos hw] at hst; exact .inl hst
      · rename_i hw; rw [if_neg hw] at hst; exact hst
end
def drawOk3 (ops : Array Oper) (k : Nat) (perm : List Nat) (ss : List (Nat × Nat)) : Bool :=
  decide (k ≤ ops.size ∧ ops.size ≤ 1000000) && decide (perm.length ≤ k) && oneL (picks ops.toList perm) && (perm.all fun i => decide (i < k) && ss.all fun s => i != s.1) &&
  ((List.range perm.length).all fun q => (List.range perm.length).all fun r => decide (q = r) || (perm.getD q 0 != perm.getD r 0)) &&
  ((List.range k).all fun i => (ss.any fun s => s.1 == i) || perm.contains i) &&
  ((List.range k).all fun j => opD ops j fun o => o.after.all fun e => !Region.binds .any e || decide (e.on < j)) &&
  ((List.range perm.length).all fun q => opD ops (perm.getD q 0) fun o => (o.looksAt ops).all fun t => (List.range perm.length).all fun r =>
    !dstB ops (perm.getD r 0) t || decide (r = q) || (if r < q then reachC ops ops.size o (perm.getD r 0) else opD ops (perm.getD r 0) fun o' => reachC ops ops.size o' (perm.getD q 0))) &&
  (ss.all fun s => decide (s.1 < k) && opD ops s.1 fun o => o.dst == none && o.guard == none && isSt o.op && ((o.looksAt ops).all fun t => (List.range k).all fun j => !dstB ops j t || reachC ops ops.size o j) &&
    (List.range perm.length).all fun q => decide (q < s.2) || reachC ops ops.size o (perm.getD q 0)) &&
  ((List.range ops.size).all fun j => decide (j < k) || (match ops[j]? with
    | some o => (List.range j).all (fun i => reachC ops ops.size o i) && o.after.all (fun e => !Region.binds .any e || decide (e.on < j))
    | none => true))
def storesAt (P : Program) (e : Operand → VV) (l : List Oper) : List (Nat × Nat × Nat) → Heap → (Heap → Prop) → Prop
  | [], H, K => K H
  | s :: ss, H, K => storeAt P s.2.2 e H (fun G => storesAt P e l ss G K) l[s.1]?
theorem storeAt_some2 {P : Program} {m : Nat} {e : Operand → VV} {H : Heap} {K : Heap → Prop} {o : Option Oper} (h : storeAt P m e H K o) :
    ∃ o' t y x b, o = some o' ∧ o'.op = .store t y x ∧ K (upd H m (some b)) ∧ ∀ H' : Heap, H' m = H m → vStore P e H' 0 (fun v G n => v = .any ∧ G = upd H' m (some b) ∧ n = 0) t y x := by
  unfold storeAt at h
  split at h
  · rename_i o'
    split at h
    · rename_i t y x hop
      refine ⟨o', t, y, x, ?_⟩
      obtain ⟨hp, h⟩ := h
      unfold vStore onV at h
      dsimp only at h
      cases hy : e y <;> rw [hy] at hp h <;> simp only [isP] at hp <;> try exact hp.elim
      subst hp
      dsimp only at h
      obtain ⟨b, hb, h⟩ := bnd_iff.1 h
      cases b with
      | map es => exact h.elim
      | row s c =>
        obtain ⟨st, hst, hc, h⟩ := bnd_iff.1 h
        obtain ⟨u, hu, h⟩ := bnd_iff.1 h
        refine ⟨_, rfl, hop, h, fun H' hH' => ?_⟩
        unfold vStore onV
        dsimp only
        rw [hy]
        dsimp only
        exact bnd_intro (hH'.trans hb) (bnd_intro hst ⟨hc, bnd_intro hu ⟨rfl, rfl, rfl⟩⟩)
    · exact h.elim
  · exact h.elim
theorem gst_cons_all {j m : Nat} {b : Blk} {l : List (Nat × Nat × Blk)} {H : Heap} (h : ∀ e ∈ l, e.2.1 ≠ m) : gst ((j, m, b) :: l) H (fun _ => true) = gst l (upd H m (some b)) fun _ => true := by
  funext m'
  by_cases hm : m = m'
  · subst hm
    rw [gst_other (fun e he _ => h e he), upd_ap, if_pos rfl]
    simp [gst, List.find?_cons]
  · have : (m == m') = false := by simpa using hm
    simp only [gst,List.find?_cons,this,Bool.and_false]
    rw [upd_ap, if_neg (Ne.symm hm)]
theorem storesAt_some {P : Program} {e : Operand → VV} {l : List Oper} {K : Heap → Prop} : ∀ (ss : List (Nat × Nat × Nat)) (H : Heap), (ss.map fun s => s.2.2).Nodup → storesAt P e l ss H K →
    ∃ sts : List (Nat × Nat × Blk), (sts.map fun a => (a.1, a.2.1)) = (ss.map fun s => (s.1, s.2.2)) ∧ K (gst sts H fun _ => true) ∧
      ∀ a ∈ sts, ∃ o t y x, l[a.1]? = some o ∧ o.op = .store t y x ∧ ∀ H' : Heap, H' a.2.1 = H a.2.1 → vStore P e H' 0 (fun v G n => v = .any ∧ G = upd H' a.2.1 (some a.2.2) ∧ n = 0) t y x
  | [], H, _, h => ⟨[], rfl, h, fun a ha => by simp at ha⟩
  | s :: ss, H, hn, h => by
    rw [List.map_cons, List.nodup_cons] at hn
    obtain ⟨o, t, y, x, b, ho, hop, hk, hst⟩ := storeAt_some2 h
    obtain ⟨sts, h1, h2, h3⟩ := storesAt_some ss _ hn.2 hk
    have hne : ∀ a ∈ sts, a.2.1 ≠ s.2.2 := fun a ha e => hn.1 (by
      have : (a.1, a.2.1) ∈ ss.map fun s => (s.1, s.2.2) := by rw [← h1]; exact List.mem_map.2 ⟨a, ha, rfl⟩
      obtain ⟨s', hs', e'⟩ := List.mem_map.1 this
      exact List.mem_map.2 ⟨s', hs', by rw [← e]; exact congrArg Prod.snd e'⟩)
    refine ⟨(s.1, s.2.2, b) :: sts, by rw [List.map_cons, List.map_cons, h1], by rw [gst_cons_all hne]; exact h2, fun a ha => ?_⟩
    rcases List.mem_cons.1 ha with rfl | ha
    · exact ⟨o, t, y, x, ho, hop, hst⟩
    · obtain ⟨o', t', y', x', g1, g2, g3⟩ := h3 a ha
      exact ⟨o', t', y', x', g1, g2, fun H' hH' => g3 H' (by rw [upd_ap, if_neg (hne a ha)]; exact hH')⟩
section
variable {P : Program} {ops : Array Oper} {k : Nat} {perm : List Nat} {ss : List (Nat × Nat)} {sts : List (Nat × Nat × Blk)} {K : VS → Prop}
theorem region3 {S : VS} (hm : P.follows .mixedOrders = true) (hfr : ∀ m, S.nx ≤ m → S.hp m = none) (hok : drawOk3 ops k perm ss = true) {tmF : Nat → VV} {GA : Heap}
    (hsame : ∀ t, (∀ o ∈ picks ops.toList perm, o.dst ≠ some t) → tmF t = S.tm t)
    (hnm : ∀ m, m < S.nx → GA m = S.hp m)
    (hs1 : ∀ e ∈ sts, ∃ s ∈ ss, s.1 = e.1) (hs2 : ∀ s ∈ ss, ∃ e ∈ sts, e.1 = s.1) (hdis : ∀ e ∈ sts, ∀ e' ∈ sts, e.2.1 = e'.2.1 ∨ e.1 = e'.1 → e = e')
    (hF : ∀ (q : Nat) o, (picks ops.toList perm)[q]? = some o → ∀ f : Nat → Bool, (∀ s ∈ ss, f s.1 = true → q < s.2) → Fact2 P ops.toList (rd2 (picks ops.toList perm) q S.tm tmF) tmF (gst sts GA f) (S.nx + 64 * q) o)
    (hS : ∀ e ∈ sts, ∀ o t y x, ops[e.1]? = some o → o.op = .store t y x → ∀ f : Nat → Bool, f e.1 = false → vStore P (ev tmF) (gst sts GA f) 0 (fun v G n => v = .any ∧ G = upd (gst sts GA f) e.2.1 (some e.2.2) ∧ n = 0) t y x)
    (htail : vlist P ops.toList (ops.toList.drop k) ⟨tmF, gst sts GA fun _ => true, S.nx + 64 * k⟩ K) : vdraw P ops S K := by
  intro id N B ρ0 w0 Q a w ρ hd hT hdf hts hh hbl he next
  unfold drawOk3 at hok
  simp only [Bool.and_eq_true,decide_eq_true_eq] at hok
  obtain ⟨⟨⟨⟨⟨⟨⟨⟨⟨hk9, hpl⟩, hone⟩, hpk⟩, hun⟩, hall⟩, hbk⟩, hrd⟩, hst⟩, htl⟩ := hok
  have hk := hk9.1
  have rep : ∀ i, (Array.replicate ops.size false).getD i false = false := fun i => by
    rw [Array.getD_eq_getD_getElem?, Array.getElem?_replicate]
    split <;> rfl
  have hpk1 : ∀ (q : Nat) i, perm[q]? = some i → i < k ∧ ∀ s ∈ ss, s.1 ≠ i := fun q i hq => by
    have := (List.all_eq_true.1 hpk) i (List.mem_of_getElem? hq)
    simp only [Bool.and_eq_true,decide_eq_true_eq,List.all_eq_true,bne_iff_ne] at this
    exact ⟨this.1, fun s hs e => this.2 s hs e.symm⟩
  have hpk' : ∀ (q : Nat) i, perm[q]? = some i → i < k ∧ ∀ e ∈ sts, e.1 ≠ i := fun q i hq => ⟨(hpk1 q i hq).1, fun e he h => by
    obtain ⟨s, hs, h'⟩ := hs1 e he
    exact (hpk1 q i hq).2 s hs (h'.trans h)⟩
  have hlt : ∀ i ∈ perm, i < ops.toList.length := fun i hi => by
    obtain ⟨q, hq, e⟩ := List.mem_iff_getElem.1 hi
    have := (hpk' q i (by rw [List.getElem?_eq_getElem hq, e])).1
    rw [Array.length_toList]; omega
  have hget : ∀ (q i : Nat) o, perm[q]? = some i → ops[i]? = some o → (picks ops.toList perm)[q]? = some o := fun q i o hq ho => by
    rw [picks_get _ _ hlt, hq]
    simpa using ho
  have hgetD : ∀ (q i : Nat), perm[q]? = some i → perm.getD q 0 = i := fun q i hq => by
    rw [List.getD_eq_getElem?_getD, hq]; rfl
  have hql : ∀ (q i : Nat), perm[q]? = some i → q < perm.length := fun q i hq => (List.getElem?_eq_some_iff.1 hq).1
  have hsome : ∀ i, i < k → ∃ o, ops[i]? = some o := fun i hi => ⟨ops[i], by simp [show i < ops.size by omega]⟩
  have hperm : ∀ i, i < k → (∀ e ∈ sts, e.1 ≠ i) → ∃ q : Nat, perm[q]? = some i := fun i hi hne => by
    have := (List.all_eq_true.1 hall) i (List.mem_range.2 hi)
    simp only [Bool.or_eq_true,List.any_eq_true,beq_iff_eq] at this
    rcases this with ⟨s, hs, h⟩ | h
    · obtain ⟨e, he, h'⟩ := hs2 s hs
      exact absurd (h'.trans h) (hne e he)
    · obtain ⟨q, hq, e⟩ := List.mem_iff_getElem.1 (List.contains_iff_mem.1 h)
      exact ⟨q, by rw [List.getElem?_eq_getElem hq, e]⟩
  have hstore : ∀ s ∈ ss, s.1 < k ∧ ∃ o, ops[s.1]? = some o ∧ o.dst = none ∧ o.guard = none ∧ isSt o.op = true ∧ (∀ t ∈ o.looksAt ops, ∀ j, j < k → dstB ops j t = true → reachB ops ops.size o j = true) ∧ ∀ (q i : Nat), perm[q]? = some i → s.2 ≤ q → reachB ops ops.size o i = true := fun s hs => by
    have h := (List.all_eq_true.1 hst) s hs
    simp only [Bool.and_eq_true,decide_eq_true_eq] at h
    obtain ⟨hjk, h⟩ := h
    obtain ⟨o, ho, h⟩ := opD_some h
    simp only [Bool.and_eq_true,beq_iff_eq] at h
    obtain ⟨⟨⟨⟨h1, h2⟩, h3⟩, h4⟩, h5⟩ := h
    refine ⟨hjk, o, ho, h1, h2, h3, fun t ht j hj hdj => ?_, fun q i hq hqq => ?_⟩
    · have := (List.all_eq_true.1 ((List.all_eq_true.1 h4) t ht)) j (List.mem_range.2 hj)
      rw [hdj] at this
      exact reachC_B _ _ _ (by simpa using this)
    · have := (List.all_eq_true.1 h5) q (List.mem_range.2 (hql q i hq))
      rw [hgetD q i hq] at this
      simp only [Bool.or_eq_true,decide_eq_true_eq] at this
      rcases this with h | h
      · omega
      · exact reachC_B _ _ _ h
  have hdj : ∀ j t, j < k → dstB ops j t = true → ∀ e ∈ sts, e.1 ≠ j := fun j t hj hdt e he h => by
    obtain ⟨s, hs, h'⟩ := hs1 e he
    obtain ⟨_, o, ho, h1, _⟩ := hstore s hs
    obtain ⟨o', ho', h2⟩ := dstB_iff.1 hdt
    rw [h', h, ho'] at ho; injection ho with ho; subst ho
    rw [h1] at h2; cases h2
  have hone' : ∀ i j t, i < k → j < k → i ≠ j → dstB ops i t = true → dstB ops j t = false := fun i j t hi hj hij h => by
    cases hx : dstB ops j t with
    | false => rfl
    | true =>
      exfalso
      obtain ⟨q, hq⟩ := hperm i hi (hdj i t hi h)
      obtain ⟨r, hr⟩ := hperm j hj (hdj j t hj hx)
      obtain ⟨o, ho, h1⟩ := dstB_iff.1 h
      obtain ⟨o', ho', h2⟩ := dstB_iff.1 hx
      rcases Nat.lt_trichotomy q r with h' | h' | h'
      · exact oneL_one _ q r o o' t hone h' (hget q i o hq ho) (hget r j o' hr ho') h1 h2
      · subst h'
        rw [hq] at hr; injection hr with hr; exact hij hr
      · exact oneL_one _ r q o' o t hone h' (hget r j o' hr ho') (hget q i o hq ho) h2 h1
  refine wp_region_any hm ?_
  have hnamed : ∀ m l, ρ m = some l → m < S.nx := fun m l hm' => by
    rcases Nat.lt_or_ge m S.nx with h' | h'
    · exact h'
    · have := hh.fresh m h'
      rw [this] at hm'
      cases hm'
  have hh0 : HR (ZF (Fr2 S.nx perm (Array.replicate ops.size false))) B ρ GA 0 { w with drawn := w.drawn + 1 } := by
    have hd0 := hh.drew
    refine ⟨hd0.base, fun m hm' => hh.fresh m hm'.1, hd0.lt, fun m m' l l' h1 h2 g1 g2 => ?_, fun m s v l hs hl' => ?_, fun m es l hs hl' => ?_⟩
    · rw [hnm m (hnamed m l h1)] at g1
      rw [hnm m' (hnamed m' l' h2)] at g2
      exact hd0.apart m m' l l' h1 h2 g1 g2
    · rw [hnm m (hnamed m l hl')] at hs
      exact hd0.row m s v l hs hl'
    · rw [hnm m (hnamed m l hl')] at hs
      exact hd0.map m es l hs hl'
  have hext : Ext ρ w ρ { w with drawn := w.drawn + 1 } := ⟨fun _ _ h => h, Nat.le_refl _, fun _ _ _ => rfl, fun _ _ h => .inl h, fun _ h => h, fun _ h => .inl h⟩
  have henv : ∀ (q : Nat) i o t, perm[q]? = some i → ops[i]? = some o → t ∈ o.looksAt ops → ∀ listed, listed.getD i false = false → Closed ops listed → (∀ e ∈ o.after, Region.binds .any e = true → listed.getD e.on false = true) → tmQ ops listed k S.tm tmF t = rd2 (picks ops.toList perm) q S.tm tmF t := by
    intro q i o t hq ho ht listed hif hc hafter
    have hrd2 := (List.all_eq_true.1 hrd) q (List.mem_range.2 (hql q i hq))
    rw [hgetD q i hq] at hrd2
    obtain ⟨o2, ho2, hrd2⟩ := opD_some hrd2
    rw [ho] at ho2; injection ho2 with ho2; subst ho2
    have hrd3 := fun (r j : Nat) (hr : perm[r]? = some j) => by
      have := (List.all_eq_true.1 ((List.all_eq_true.1 hrd2) t ht)) r (List.mem_range.2 (hql r j hr))
      rw [hgetD r j hr] at this
      exact this
    unfold rd2 tmQ
    by_cases hany : (((picks ops.toList perm).drop q).any fun o => o.dst == some t) = true
    · rw [if_pos hany, if_pos]
      rw [List.any_eq_true] at hany
      obtain ⟨o', ho', hdt⟩ := hany
      obtain ⟨r0, hr0, e⟩ := List.mem_iff_getElem.1 ho'
      have hr : (picks ops.toList perm)[q + r0]? = some o' := by
        rw [← List.getElem?_drop, List.getElem?_eq_getElem hr0, e]
      rw [picks_get _ _ hlt] at hr
      obtain ⟨j, hj, hjo⟩ := Option.bind_eq_some_iff.1 hr
      have hjo : ops[j]? = some o' := by simpa using hjo
      have hjk := (hpk' _ j hj).1
      have hdt : o'.dst = some t := by simpa using hdt
      refine pendB_true.2 ⟨j, hjk, ?_, o', hjo, hdt⟩
      by_cases h0 : r0 = 0
      · subst h0
        rw [Nat.add_zero, hq] at hj; injection hj with hj
        rw [← hj]; exact hif
      · have := hrd3 (q + r0) j hj
        rw [dstB_iff.2 ⟨o', hjo, hdt⟩] at this
        simp only [Bool.not_true,Bool.false_or,Bool.or_eq_true,decide_eq_true_eq] at this
        rcases this with h | h
        · omega
        · rw [if_neg (by omega)] at h
          obtain ⟨o3, ho3, h⟩ := opD_some h
          rw [hjo] at ho3; injection ho3 with ho3; subst ho3
          have h := reachC_B _ _ _ h
          cases hx : listed.getD j false with
          | false => rfl
          | true =>
            have := reach_listed hc ops.size o' i h (fun e he hb' => hc j o' hjo hx e he hb')
            rw [hif] at this
            cases this
    · rw [if_neg hany, if_neg]
      intro e
      obtain ⟨j, h1, h2, o', ho', h3⟩ := pendB_true.1 e
      obtain ⟨r, hr⟩ := hperm j h1 (hdj j t h1 (dstB_iff.2 ⟨o', ho', h3⟩))
      by_cases hrq : q ≤ r
      · refine hany ?_
        rw [List.any_eq_true]
        refine ⟨o', ?_, by simp [h3]⟩
        have hpr := hget r j o' hr ho'
        have : ((picks ops.toList perm).drop q)[r - q]? = some o' := by rw [List.getElem?_drop, show q + (r - q) = r by omega]; exact hpr
        exact List.mem_of_getElem? this
      · have := hrd3 r j hr
        rw [dstB_iff.2 ⟨o', ho', h3⟩] at this
        simp only [Bool.not_true,Bool.false_or,Bool.or_eq_true,decide_eq_true_eq] at this
        rcases this with h | h
        · omega
        · rw [if_pos (by omega)] at h
          have := reach_listed hc ops.size o j (reachC_B _ _ _ h) hafter
          rw [h2] at this
          cases this
  refine head3 (K := K) (GA := GA) (sts := sts) (tm0 := S.tm) (tmF := tmF) (nx := S.nx) (N := N) (B := B) (ρ0 := ρ0) (w0 := w0) (k := k) (perm := perm) (env := fun q => rd2 (picks ops.toList perm) q S.tm tmF) hk9 hd ?_ ?_ hperm hpk' hpl ?_ hone' henv ?_ hdis ?_ ?_ htail ?_ ops.size _ a _ ρ (by omega) (by simp) ?_ ?_ ?_ hdf hts ?_ ?_ (he.trans hext)
  · intro j o hj ho
    have hlt : j < ops.size := (Array.getElem?_eq_some_iff.1 ho).1
    have := (List.all_eq_true.1 htl) j (List.mem_range.2 hlt)
    rw [ho] at this
    simp only [Bool.or_eq_true,decide_eq_true_eq,Bool.and_eq_true] at this
    rcases this with this | ⟨t1, t2⟩
    · omega
    · exact ⟨fun i hi => reachC_B _ _ _ ((List.all_eq_true.1 t1) i (List.mem_range.2 hi)), fun e he' hb => by
        have := (Array.all_eq_true_iff_forall_mem.1 t2) e he'
        simpa [hb] using this⟩
  · intro j o hj ho e he' hb
    have := (List.all_eq_true.1 hbk) j (List.mem_range.2 hj)
    obtain ⟨o2, ho2, this⟩ := opD_some this
    rw [ho] at ho2; injection ho2 with ho2; subst ho2
    have := (Array.all_eq_true_iff_forall_mem.1 this) e he'
    simpa [hb] using this
  · intro q r i hq hr
    have := (List.all_eq_true.1 ((List.all_eq_true.1 hun) q (List.mem_range.2 (hql q i hq)))) r (List.mem_range.2 (hql r i hr))
    rw [hgetD q i hq, hgetD r i hr] at this
    simpa using this
  · intro e he
    obtain ⟨s, hs, h⟩ := hs1 e he
    rw [← h]
    exact (hstore s hs).1
  · intro q i o hq ho listed hif hc
    refine hF q o (hget q i o hq ho) _ fun s hs hls => ?_
    rcases Nat.lt_or_ge q s.2 with h | h
    · exact h
    · exfalso
      obtain ⟨_, oj, hoj, _, _, _, _, h5⟩ := hstore s hs
      have := reach_listed hc ops.size oj i (h5 q i hq h) (fun e he hb' => hc s.1 oj hoj hls e he hb')
      rw [hif] at this
      cases this
  · intro e he o ho
    obtain ⟨s, hs, hse⟩ := hs1 e he
    obtain ⟨_, o2, ho2, h1, h2, h3, h4, h5⟩ := hstore s hs
    rw [hse, ho] at ho2; injection ho2 with ho2; subst ho2
    cases hop : o.op <;> rw [hop] at h3 <;> simp only [isSt,Bool.false_eq_true] at h3
    rename_i t y x
    refine ⟨h1, h2, t, y, x, rfl, fun listed hc hafter z hz => ?_, fun z hz => ?_, hS e he o t y x ho hop⟩
    · cases z with
      | tmp u =>
        show tmQ ops listed k S.tm tmF u = tmF u
        unfold tmQ
        rw [if_neg]
        intro e
        obtain ⟨j, g1, g2, o', ho', g3⟩ := pendB_true.1 e
        have := h4 u (looks_operand (by rw [hop]; exact hz)) j g1 (dstB_iff.2 ⟨o', ho', g3⟩)
        have := reach_listed hc ops.size o j this hafter
        rw [g2] at this
        cases this
      | _ => rfl
    · rcases hz with rfl | rfl <;> simp [Op.operands]
  · intro S' a' w' ρ' hk' hS'
    exact next S' a' w' ρ' hk' hS'.tm hS'.defers hS'.size hS'.heap hS'.below hS'.ext
  · intro i _
    exact rep i
  · intro i o _ hli
    rw [rep i] at hli
    cases hli
  · intro t
    unfold tmQ
    split
    · exact (hT.ext hext) t
    · rename_i hp
      rw [hsame t]
      · exact (hT.ext hext) t
      · intro o ho e
        obtain ⟨q, hq, e2⟩ := List.mem_iff_getElem.1 ho
        have hq2 : (picks ops.toList perm)[q]? = some o := by rw [List.getElem?_eq_getElem hq, e2]
        rw [picks_get _ _ hlt] at hq2
        obtain ⟨j, hj, hjo⟩ := Option.bind_eq_some_iff.1 hq2
        exact hp (pendB_true.2 ⟨j, (hpk' q j hj).1, rep j, o, by simpa using hjo, e⟩)
  · rw [show (gst sts GA fun j => (Array.replicate ops.size false).getD j false) = GA from funext fun m => gst_other fun e _ h => by rw [rep] at h; cases h]
    exact hh0
  · exact hbl.drew
def hides (H : Heap) : List Nat → Heap
  | [] => H
  | m :: l => upd (hides H l) m none
def shows (G : Heap) : List Nat → List Blk → Heap
  | m :: l, b :: bs => upd (shows G l bs) m (some b)
  | _, _ => G
def Olds (n : Nat) (H : Heap) : List Nat → List Blk → Prop
  | [], [] => True
  | m :: l, b :: bs => m < n ∧ H m = some b ∧ Olds n H l bs
  | _, _ => False
theorem olds_nil {n : Nat} {H : Heap} : Olds n H [] [] := trivial
theorem olds_cons {n m : Nat} {H : Heap} {l : List Nat} {b : Blk} {bs : List Blk} (h1 : m < n) (h2 : H m = some b) (h3 : Olds n H l bs) : Olds n H (m :: l) (b :: bs) := ⟨h1, h2, h3⟩
theorem hides_in {H : Heap} : ∀ {l : List Nat} {m : Nat}, m ∈ l → hides H l m = none
  | m' :: l, m, h => by
    simp only [hides,upd_ap]
    split
    · rfl
    · rename_i hne
      rcases List.mem_cons.1 h with h | h
      · exact absurd h hne
      · exact hides_in h
theorem hides_out {H : Heap} : ∀ {l : List Nat} {m : Nat}, m ∉ l → hides H l m = H m
  | [], m, h => rfl
  | m' :: l, m, h => by
    simp only [List.mem_cons,not_or] at h
    simp only [hides,upd_ap]
    rw [if_neg h.1]
    exact hides_out h.2
theorem shows_in {n : Nat} {H G : Heap} : ∀ {l : List Nat} {bs : List Blk} {m : Nat}, Olds n H l bs → m ∈ l → m < n ∧ shows G l bs m = H m
  | m' :: l, b :: bs, m, h, hm => by
    obtain ⟨h1, h2, h3⟩ := h
    simp only [shows,upd_ap]
    split
    · rename_i e; rw [e]; exact ⟨h1, h2.symm⟩
    · rename_i hne
      rcases List.mem_cons.1 hm with e | e
      · exact absurd e hne
      · exact shows_in h3 e
  | _ :: _, [], _, h, _ => h.elim
theorem shows_out {n : Nat} {H G : Heap} : ∀ {l : List Nat} {bs : List Blk} {m : Nat}, Olds n H l bs → m ∉ l → shows G l bs m = G m
  | [], [], m, _, _ => rfl
  | m' :: l, b :: bs, m, h, hm => by
    simp only [List.mem_cons,not_or] at hm
    simp only [shows,upd_ap]
    rw [if_neg hm.1]
    exact shows_out h.2.2 hm.2
  | [], _ :: _, _, h, _ => h.elim
  | _ :: _, [], _, h, _ => h.elim
theorem regionS {S : VS} (ss3 : List (Nat × Nat × Nat)) (ms : List Nat) (bs : List Blk) (hm : P.follows .mixedOrders = true) (hfr : ∀ m, S.nx ≤ m → S.hp m = none) (hok : drawOk3 ops k perm (ss3.map fun s => (s.1, s.2.1)) = true)
    (hq : (ss3.all fun s => decide (S.nx + 64 * s.2.1 ≤ s.2.2) || ms.contains s.2.2) = true) (hn1 : (ss3.map fun s => s.1).Nodup) (hn2 : (ss3.map fun s => s.2.2).Nodup) (ho : Olds S.nx S.hp ms bs)
    (h : vheld P ops.toList (picks ops.toList perm) S.tm (hides S.hp ms) S.nx fun tm H n => storesAt P (ev tm) ops.toList ss3 (shows H ms bs) fun G => vlist P ops.toList (ops.toList.drop k) ⟨tm, G, S.nx + 64 * k⟩ K) : vdraw P ops S K := by
  have hok' := hok
  unfold drawOk3 at hok'
  simp only [Bool.and_eq_true,decide_eq_true_eq] at hok'
  obtain ⟨⟨⟨⟨⟨⟨⟨⟨⟨hk9, hpl⟩, hone⟩, hpk⟩, hun⟩, hall⟩, hbk⟩, hrd⟩, hst⟩, htl⟩ := hok'
  have hk := hk9.1
  have hfr' : ∀ m, S.nx ≤ m → hides S.hp ms m = none := fun m hm' => by
    by_cases e : m ∈ ms
    · exact hides_in e
    · rw [hides_out e]; exact hfr m hm'
  obtain ⟨tmF, G, k1, k2, k3, k4⟩ := held2 (ops := ops) _ S.tm _ S.nx hone hfr' h
  obtain ⟨sts, g1, g2, g3⟩ := storesAt_some ss3 _ hn2 k1
  have hmem : ∀ e ∈ sts, ∃ s ∈ ss3, s.1 = e.1 ∧ s.2.2 = e.2.1 := fun e he => by
    have : (e.1, e.2.1) ∈ ss3.map fun s => (s.1, s.2.2) := by rw [← g1]; exact List.mem_map.2 ⟨e, he, rfl⟩
    obtain ⟨s, hs, e'⟩ := List.mem_map.1 this
    exact ⟨s, hs, congrArg Prod.fst e', congrArg Prod.snd e'⟩
  have hmem2 : ∀ s ∈ ss3, ∃ e ∈ sts, e.1 = s.1 ∧ e.2.1 = s.2.2 := fun s hs => by
    have : (s.1, s.2.2) ∈ sts.map fun a => (a.1, a.2.1) := by rw [g1]; exact List.mem_map.2 ⟨s, hs, rfl⟩
    obtain ⟨e, he, e'⟩ := List.mem_map.1 this
    exact ⟨e, he, congrArg Prod.fst e', congrArg Prod.snd e'⟩
  have hnd1 : (sts.map fun a => a.1).Nodup := by
    have e : (sts.map fun a => a.1) = ss3.map fun s => s.1 := by
      have := congrArg (List.map Prod.fst) g1
      rwa [List.map_map, List.map_map] at this
    rw [e]; exact hn1
  have hnd2 : (sts.map fun a => a.2.1).Nodup := by
    have e : (sts.map fun a => a.2.1) = ss3.map fun s => s.2.2 := by
      have := congrArg (List.map Prod.snd) g1
      rwa [List.map_map, List.map_map] at this
    rw [e]; exact hn2
  have inj : ∀ {β : Type} {α : Type} (f : α → β) (l : List α), (l.map f).Nodup → ∀ a ∈ l, ∀ b ∈ l, f a = f b → a = b := by
    intro β α f l
    induction l with
    | nil => intro _ a ha; simp at ha
    | cons x l ih =>
      intro hnd a ha b hb e
      rw [List.map_cons, List.nodup_cons] at hnd
      rcases List.mem_cons.1 ha with rfl | ha' <;> rcases List.mem_cons.1 hb with rfl | hb'
      · rfl
      · exact (hnd.1 (List.mem_map.2 ⟨b, hb', e.symm⟩)).elim
      · exact (hnd.1 (List.mem_map.2 ⟨a, ha', e⟩)).elim
      · exact ih hnd.2 a ha' b hb' e
  have hdis : ∀ e ∈ sts, ∀ e' ∈ sts, e.2.1 = e'.2.1 ∨ e.1 = e'.1 → e = e' := fun e he e' he' h => by
    rcases h with h | h
    · exact inj _ _ hnd2 e he e' he' h
    · exact inj _ _ hnd1 e he e' he' h
  refine region3 (sts := sts) hm hfr hok (GA := shows G ms bs) k2 (fun m hm' => ?_) (fun e he => ?_) (fun s hs => ?_) hdis (fun q o hqo f hf => ?_) (fun e he o t y x ho' hop f hfe => ?_) g2
  · by_cases e : m ∈ ms
    · exact (shows_in ho e).2
    · rw [shows_out ho e, k3.2 m hm', hides_out e]
  · obtain ⟨s, hs, e1, _⟩ := hmem e he
    exact ⟨_, List.mem_map.2 ⟨s, hs, rfl⟩, e1⟩
  · obtain ⟨s3, hs3, rfl⟩ := List.mem_map.1 hs
    obtain ⟨e, he, e1, _⟩ := hmem2 s3 hs3
    exact ⟨e, he, e1⟩
  · obtain ⟨Hq, q1, q2, q3, q4⟩ := k4 q o hqo
    refine q4 _ fun m' b' hb' => ?_
    rw [gst_other]
    · by_cases e : m' ∈ ms
      · exfalso
        have hlt := (shows_in (G := G) ho e).1
        rw [q1 m' hlt, hides_in e] at hb'
        cases hb'
      · rw [shows_out ho e]; exact q3 m' b' hb'
    · intro e he hfe hme
      obtain ⟨s, hs, e1, e2⟩ := hmem e he
      have hlt := hf _ (List.mem_map.2 ⟨s, hs, rfl⟩) (by show f s.1 = true; rw [e1]; exact hfe)
      have := (List.all_eq_true.1 hq) s hs
      simp only [Bool.or_eq_true,decide_eq_true_eq] at this
      rcases this with h | h
      · rw [q2 m' (by rw [← hme, ← e2]; simp only at hlt; omega)] at hb'
        cases hb'
      · have hmm : m' ∈ ms := by rw [← hme, ← e2]; exact List.contains_iff_mem.1 h
        rw [q1 m' (shows_in (G := G) ho hmm).1, hides_in hmm] at hb'
        cases hb'
  · obtain ⟨o', t', y', x', p1, p2, p3⟩ := g3 e he
    rw [Array.getElem?_toList, ho'] at p1
    injection p1 with p1
    subst p1
    rw [hop] at p2; injection p2 with r1 r2 r3
    subst r1 r2 r3
    refine p3 _ (gst_other fun e' he' hfe' hme => ?_)
    have := hdis e' he' e he (.inl hme)
    subst this
    rw [hfe] at hfe'
    cases hfe'
end
section
variable {P : Program} {n0 : Nat} {K : VX → VS → Prop}
theorem ok_drawS {id : Nat} {l : List Oper} {tm : Nat → VV} {H : Heap} {n : Nat} (k : Nat) (perm : List Nat) (ss3 : List (Nat × Nat × Nat)) (ms : List Nat) (bs : List Blk) (hm : P.follows .mixedOrders = true) (hd : drawOk3 l.toArray k perm (ss3.map fun s => (s.1, s.2.1)) = true)
    (hq : (ss3.all fun s => decide (n + 64 * s.2.1 ≤ s.2.2) || ms.contains s.2.2) = true) (hn1 : (ss3.map fun s => s.1).Nodup) (hn2 : (ss3.map fun s => s.2.2).Nodup) (ho : Olds n H ms bs) (hfr : ∀ m, n ≤ m → H m = none)
    (h : ∀ M : VS → Prop, (∀ S, K .normal S → M S) → vh P l (picks l perm) tm (hides H ms) n fun tm H _ => storesAt P (ev tm) l ss3 (shows H ms bs) fun G => vl P l (l.drop k) ⟨tm, G, n + 64 * k⟩ M) : Ok P n0 (.region id l.toArray true) ⟨tm, H, n⟩ K := fun N B ρ0 w0 Q a w ρ h0 hok hS next => by
  simp only [codeOk,List.all_eq_true] at hok
  exact regionS (S := ⟨tm, H, n⟩) ss3 ms bs hm hfr hd hq hn1 hn2 ho (by simpa only [vh_def,vl_def] using h _ fun _ h => h) id N B ρ0 w0 Q a w ρ (fun o ho t ht => by have := hok o ho; rw [ht] at this; simpa using this) hS.tm hS.defers hS.size hS.heap hS.below hS.ext
    fun S' a' w' ρ' hk h1 h2 h3 h4 h5 h6 => next .normal S' a' w' ρ' hk ⟨h1, h2, h3, h4, h5, h6⟩
end
theorem storesAt_nil (P : Program) (e : Operand → VV) (l : List Oper) (H : Heap) (K : Heap → Prop) : storesAt P e l [] H K = K H := id (Eq.refl _)
theorem storesAt_cons (P : Program) (e : Operand → VV) (l : List Oper) (j q m : Nat) (ss : List (Nat × Nat × Nat)) (H : Heap) (K : Heap → Prop) : storesAt P e l ((j, q, m) :: ss) H K = storeAt P m e H (fun G => storesAt P e l ss G K) l[j]? := id (Eq.refl _)
theorem hides_nil (H : Heap) : hides H [] = H := id (Eq.refl _)
theorem hides_cons (H : Heap) (m : Nat) (l : List Nat) : hides H (m :: l) = upd (hides H l) m none := id (Eq.refl _)
theorem shows_nil (H : Heap) : shows H [] [] = H := id (Eq.refl _)
theorem shows_cons (H : Heap) (m : Nat) (l : List Nat) (b : Blk) (bs : List Blk) : shows H (m :: l) (b :: bs) = upd (shows H l bs) m (some b) := id (Eq.refl _)
end Go.Proofs.Ytpdhdkpebbfnnaa.V
end
section
namespace Go.Proofs.Ytpdhdkpebbfnnaa.V
open Go
set_option maxRecDepth 100000
def znT6 := And.intro @jO <| And.intro @jP <| And.intro @jQ <| And.intro @jR <| And.intro @jS <| And.intro @jT <| And.intro @jU <| True.intro
set_option maxHeartbeats 8000000
structure Exe where
  ws : List Int
  data : List UInt8
  z : Int
  en : Int
abbrev encWords (l : List Int) : VV := .dat .cell (l.map (.int .u32))
abbrev encExe (e : Exe) : VV := .agg [encWords e.ws, .str e.data, .int .i64 e.z, .int .u32 e.en]
structure ExeR (e : Exe) : Prop where
  ws : e.ws.length ≤ 20000
  wsR : ∀ x ∈ e.ws, u32R x
  data : e.data.length ≤ 20000
  z : i64R e.z
  en : u32R e.en
def pagesI (x : Int) : Int := (x + 127) / 128
def okE (e : Exe) : Prop := 1 ≤ e.ws.length ∧ e.ws.length ≤ 448 ∧ 0 ≤ e.z ∧ e.en % 4 = 0 ∧ e.en < 4 * e.ws.length ∧ e.data.length ≤ 1792 ∧ e.z ≤ 1792 ∧ pagesI (4 * e.ws.length) + pagesI (e.data.length + e.z) ≤ 14
instance (e : Exe) : Decidable (okE e) := by unfold okE; infer_instance
theorem spages_spec (x : Int) (h0 : 0 ≤ x) (h1 : x ≤ 1000000000) : Spec Try.prog 63 [.int .i64 x] (.int .i64 (pagesI x)) := by
  unfold pagesI
  refine spec_ok Try.func63 rfl rfl (by kernel_rfl) (k := 1) rfl (by decide) ?_
  repeat' (first|(with_reducible first|refine yrl (by constructor) ?_|refine jk (fun M hM=>?_)|(refine hM _ ?_;clear hM M)|refine xb3 (by decide) ?_|refine yqa (by assumption) ?_ ?_|refine yqb (by assumption) ?_ ?_)|((with_reducible refine je ?_)<;>(first|rfl|assumption|(simp only [znl,znT6];(first|done|fail))))|(with_reducible refine jf (by (simp only [↓reduceIte,zlk,Nat.reduceEqDiff,reduceCtorEq]);exact rfl) ?_)|((with_reducible first|refine jg (fun hc=>?_) (fun hc=>?_)|refine jh (fun hc=>?_) (fun hc=>?_))<;>(try simp (disch:=omega) only [zhb] at hc)<;>(try (exfalso;omega))<;>(try subst hc))|(with_reducible refine ji (by omega) ?_)|(simp (config := { maxSteps := 400000 }) only [↓jt,↓reduceIte,zvs,reduceCtorEq,Nat.reduceEqDiff,Nat.reduceAdd,Nat.reduceLeDiff,Nat.reduceMul,Int.reduceBNe,Int.reduceBEq,Int.reduceEq,Int.reduceNe,Int.reduceLT,Int.reduceLE,Int.reduceGT,Int.reduceGE,Int.reduceNeg,Int.reduceToNat,Nat.reduceLT,Nat.reduceSub,tab,Try.results63,jTA])|(simp (disch:=omega) only [ziw]))
  all_goals first
    | (exfalso; omega)
    | (simp only [zrds]; done)
    | (simp only [zrds]; omega)
theorem rpages_spec (x : Int) (h0 : 0 ≤ x) (h1 : x ≤ 1000000000) : Spec Try.prog 132 [.int .i64 x] (.int .i64 (pagesI x)) := by
  unfold pagesI
  refine spec_ok Try.func132 rfl rfl (by kernel_rfl) (k := 1) rfl (by decide) ?_
  repeat' (first|(with_reducible first|refine yrl (by constructor) ?_|refine jk (fun M hM=>?_)|(refine hM _ ?_;clear hM M)|refine xb3 (by decide) ?_|refine yqa (by assumption) ?_ ?_|refine yqb (by assumption) ?_ ?_)|((with_reducible refine je ?_)<;>(first|rfl|assumption|(simp only [znl,znT6];(first|done|fail))))|(with_reducible refine jf (by (simp only [↓reduceIte,zlk,Nat.reduceEqDiff,reduceCtorEq]);exact rfl) ?_)|((with_reducible first|refine jg (fun hc=>?_) (fun hc=>?_)|refine jh (fun hc=>?_) (fun hc=>?_))<;>(try simp (disch:=omega) only [zhb] at hc)<;>(try (exfalso;omega))<;>(try subst hc))|(with_reducible refine ji (by omega) ?_)|(simp (config := { maxSteps := 400000 }) only [↓jt,↓reduceIte,zvs,reduceCtorEq,Nat.reduceEqDiff,Nat.reduceAdd,Nat.reduceLeDiff,Nat.reduceMul,Int.reduceBNe,Int.reduceBEq,Int.reduceEq,Int.reduceNe,Int.reduceLT,Int.reduceLE,Int.reduceGT,Int.reduceGE,Int.reduceNeg,Int.reduceToNat,Nat.reduceLT,Nat.reduceSub,tab,Try.results132,jTA])|(simp (disch:=omega) only [ziw]))
  all_goals first
    | (exfalso; omega)
    | (simp only [zrds]; done)
    | (simp only [zrds]; omega)
theorem rcheckE_spec (e : Exe) (he : ExeR e) : Spec Try.prog 95 [encExe e] (.int .i64 (if okE e then 0 else 1)) := by
  obtain ⟨R, hR⟩ : ∃ R : Int, R = if okE e then 0 else 1 := ⟨_, rfl⟩
  rw [← hR]
  obtain ⟨e1, e2⟩ := he.en
  obtain ⟨z1, z2⟩ := he.z
  have hw := he.ws
  have hd := he.data
  have hyes : okE e → R = 0 := fun h => by rw [hR, if_pos h]
  have hno : ¬okE e → R = 1 := fun h => by rw [hR, if_neg h]
  clear hR
  unfold okE at hyes hno
  by_cases hsz : 1 ≤ e.ws.length ∧ e.ws.length ≤ 448 ∧ 0 ≤ e.z ∧ e.z ≤ 2048 ∧ e.data.length ≤ 2048
  · have P1 := rpages_spec (4 * e.ws.length) (by omega) (by omega)
    have P2 := rpages_spec (e.data.length + e.z) (by omega) (by omega)
    have hpa : pagesI (4 * e.ws.length) * 128 < 4 * e.ws.length + 128 ∧ 4 * e.ws.length ≤ pagesI (4 * e.ws.length) * 128 := by unfold pagesI; omega
    have hpb : pagesI (e.data.length + e.z) * 128 < e.data.length + e.z + 128 ∧ e.data.length + e.z ≤ pagesI (e.data.length + e.z) * 128 := by unfold pagesI; omega
    generalize pagesI (4 * e.ws.length) = a at P1 hyes hno hpa
    generalize pagesI (e.data.length + e.z) = b at P2 hyes hno hpb
    refine spec_ok Try.func95 rfl rfl (by kernel_rfl) (k := 1) rfl (by decide) ?_
    repeat' (first|(with_reducible first|refine yrl (by constructor) ?_|refine jk (fun M hM=>?_)|(refine hM _ ?_;clear hM M)|refine xb3 (by decide) ?_|refine yqa (by assumption) ?_ ?_|refine yqb (by assumption) ?_ ?_)|((with_reducible refine je ?_)<;>(first|rfl|assumption|(simp only [znl,znT6];(first|done|fail))))|(with_reducible refine jf (by (simp only [↓reduceIte,zlk,Nat.reduceEqDiff,reduceCtorEq]);exact rfl) ?_)|((with_reducible first|refine jg (fun hc=>?_) (fun hc=>?_)|refine jh (fun hc=>?_) (fun hc=>?_))<;>(try simp (disch:=omega) only [zhb] at hc)<;>(try (exfalso;omega))<;>(try subst hc))|(with_reducible refine ji (by omega) ?_)|(simp (config := { maxSteps := 400000 }) only [↓jt,↓reduceIte,zvs,reduceCtorEq,Nat.reduceEqDiff,Nat.reduceAdd,Nat.reduceLeDiff,Nat.reduceMul,Int.reduceBNe,Int.reduceBEq,Int.reduceEq,Int.reduceNe,Int.reduceLT,Int.reduceLE,Int.reduceGT,Int.reduceGE,Int.reduceNeg,Int.reduceToNat,Nat.reduceLT,Nat.reduceSub,tab,Try.results95,jTA])|(simp (disch:=omega) only [ziw]))
    all_goals first
      | (exfalso; omega)
      | (rw [hno (by omega)]; simp only [zrds]; done)
      | skip
    refine ok_drawC 11 (by kernel_rfl) (by decide +kernel) (by intro m hm; simp only [upd_ap,rows_cons,rows_nil]; (repeat (first | rfl | rw [if_neg (by omega)]))) (fun M hM => ?_); simp only [List.take_succ_cons,List.take_zero,List.drop_succ_cons,List.drop_zero]
    repeat' (first|(with_reducible first|refine yrl (by constructor) ?_|refine jk (fun M hM=>?_)|(refine hM _ ?_;clear hM M)|refine xb3 (by decide) ?_|refine yqa (by assumption) ?_ ?_|refine yqb (by assumption) ?_ ?_)|((with_reducible refine je ?_)<;>(first|rfl|assumption|(simp only [znl,znT6];(first|done|fail))))|(with_reducible refine jf (by (simp only [↓reduceIte,zlk,Nat.reduceEqDiff,reduceCtorEq]);exact rfl) ?_)|((with_reducible first|refine jg (fun hc=>?_) (fun hc=>?_)|refine jh (fun hc=>?_) (fun hc=>?_))<;>(try simp (disch:=omega) only [zhb] at hc)<;>(try (exfalso;omega))<;>(try subst hc))|(with_reducible refine ji (by omega) ?_)|(simp (config := { maxSteps := 400000 }) only [↓jt,↓reduceIte,zvs,reduceCtorEq,Nat.reduceEqDiff,Nat.reduceAdd,Nat.reduceLeDiff,Nat.reduceMul,Int.reduceBNe,Int.reduceBEq,Int.reduceEq,Int.reduceNe,Int.reduceLT,Int.reduceLE,Int.reduceGT,Int.reduceGE,Int.reduceNeg,Int.reduceToNat,Nat.reduceLT,Nat.reduceSub,tab,Try.results95,jTA])|(simp (disch:=omega) only [ziw]))
    all_goals first
      | (exfalso; omega)
      | (rw [hno (by omega)]; simp only [zrds]; done)
      | (rw [hyes (by omega)]; simp only [zrds]; done)
  · have hn := hno (fun h => hsz ⟨h.1, h.2.1, h.2.2.1, by omega, by omega⟩)
    rw [hn]
    refine spec_ok Try.func95 rfl rfl (by kernel_rfl) (k := 1) rfl (by decide) ?_
    repeat' (first|(with_reducible first|refine yrl (by constructor) ?_|refine jk (fun M hM=>?_)|(refine hM _ ?_;clear hM M)|refine xb3 (by decide) ?_|refine yqa (by assumption) ?_ ?_|refine yqb (by assumption) ?_ ?_)|((with_reducible refine je ?_)<;>(first|rfl|assumption|(simp only [znl,znT6];(first|done|fail))))|(with_reducible refine jf (by (simp only [↓reduceIte,zlk,Nat.reduceEqDiff,reduceCtorEq]);exact rfl) ?_)|((with_reducible first|refine jg (fun hc=>?_) (fun hc=>?_)|refine jh (fun hc=>?_) (fun hc=>?_))<;>(try simp (disch:=omega) only [zhb] at hc)<;>(try (exfalso;omega))<;>(try subst hc))|(with_reducible refine ji (by omega) ?_)|(simp (config := { maxSteps := 400000 }) only [↓jt,↓reduceIte,zvs,reduceCtorEq,Nat.reduceEqDiff,Nat.reduceAdd,Nat.reduceLeDiff,Nat.reduceMul,Int.reduceBNe,Int.reduceBEq,Int.reduceEq,Int.reduceNe,Int.reduceLT,Int.reduceLE,Int.reduceGT,Int.reduceGE,Int.reduceNeg,Int.reduceToNat,Nat.reduceLT,Nat.reduceSub,tab,Try.results95,jTA])|(simp (disch:=omega) only [ziw]))
    all_goals first
      | (exfalso; omega)
      | (simp only [zrds]; done)
theorem scheckE_spec (e : Exe) (he : ExeR e) : Spec Try.prog 59 [encExe e] (.int .i64 (if okE e then 0 else 1)) := by
  obtain ⟨R, hR⟩ : ∃ R : Int, R = if okE e then 0 else 1 := ⟨_, rfl⟩
  rw [← hR]
  obtain ⟨e1, e2⟩ := he.en
  obtain ⟨z1, z2⟩ := he.z
  have hw := he.ws
  have hd := he.data
  have hyes : okE e → R = 0 := fun h => by rw [hR, if_pos h]
  have hno : ¬okE e → R = 1 := fun h => by rw [hR, if_neg h]
  clear hR
  unfold okE at hyes hno
  by_cases hsz : 1 ≤ e.ws.length ∧ e.ws.length ≤ 448 ∧ 0 ≤ e.z ∧ e.z ≤ 1792 ∧ e.data.length ≤ 1792
  · have P1 := spages_spec (4 * e.ws.length) (by omega) (by omega)
    have P2 := spages_spec (e.data.length + e.z) (by omega) (by omega)
    have hpa : pagesI (4 * e.ws.length) * 128 < 4 * e.ws.length + 128 ∧ 4 * e.ws.length ≤ pagesI (4 * e.ws.length) * 128 := by unfold pagesI; omega
    have hpb : pagesI (e.data.length + e.z) * 128 < e.data.length + e.z + 128 ∧ e.data.length + e.z ≤ pagesI (e.data.length + e.z) * 128 := by unfold pagesI; omega
    generalize pagesI (4 * e.ws.length) = a at P1 hyes hno hpa
    generalize pagesI (e.data.length + e.z) = b at P2 hyes hno hpb
    refine spec_ok Try.func59 rfl rfl (by kernel_rfl) (k := 1) rfl (by decide) ?_
    repeat' (first|(with_reducible first|refine yrl (by constructor) ?_|refine jk (fun M hM=>?_)|(refine hM _ ?_;clear hM M)|refine xb3 (by decide) ?_|refine yqa (by assumption) ?_ ?_|refine yqb (by assumption) ?_ ?_)|((with_reducible refine je ?_)<;>(first|rfl|assumption|(simp only [znl,znT6];(first|done|fail))))|(with_reducible refine jf (by (simp only [↓reduceIte,zlk,Nat.reduceEqDiff,reduceCtorEq]);exact rfl) ?_)|((with_reducible first|refine jg (fun hc=>?_) (fun hc=>?_)|refine jh (fun hc=>?_) (fun hc=>?_))<;>(try simp (disch:=omega) only [zhb] at hc)<;>(try (exfalso;omega))<;>(try subst hc))|(with_reducible refine ji (by omega) ?_)|(simp (config := { maxSteps := 400000 }) only [↓jt,↓reduceIte,zvs,reduceCtorEq,Nat.reduceEqDiff,Nat.reduceAdd,Nat.reduceLeDiff,Nat.reduceMul,Int.reduceBNe,Int.reduceBEq,Int.reduceEq,Int.reduceNe,Int.reduceLT,Int.reduceLE,Int.reduceGT,Int.reduceGE,Int.reduceNeg,Int.reduceToNat,Nat.reduceLT,Nat.reduceSub,tab,Try.results59,jTA])|(simp (disch:=omega) only [ziw]))
    all_goals first
      | (exfalso; omega)
      | (rw [hno (by omega)]; simp only [zrds]; done)
      | skip
    refine ok_drawC 19 (by kernel_rfl) (by decide +kernel) (by intro m hm; simp only [upd_ap,rows_cons,rows_nil]; (repeat (first | rfl | rw [if_neg (by omega)]))) (fun M hM => ?_); simp only [List.take_succ_cons,List.take_zero,List.drop_succ_cons,List.drop_zero]
    repeat' (first|(with_reducible first|refine yrl (by constructor) ?_|refine jk (fun M hM=>?_)|(refine hM _ ?_;clear hM M)|refine xb3 (by decide) ?_|refine yqa (by assumption) ?_ ?_|refine yqb (by assumption) ?_ ?_)|((with_reducible refine je ?_)<;>(first|rfl|assumption|(simp only [znl,znT6];(first|done|fail))))|(with_reducible refine jf (by (simp only [↓reduceIte,zlk,Nat.reduceEqDiff,reduceCtorEq]);exact rfl) ?_)|((with_reducible first|refine jg (fun hc=>?_) (fun hc=>?_)|refine jh (fun hc=>?_) (fun hc=>?_))<;>(try simp (disch:=omega) only [zhb] at hc)<;>(try (exfalso;omega))<;>(try subst hc))|(with_reducible refine ji (by omega) ?_)|(simp (config := { maxSteps := 400000 }) only [↓jt,↓reduceIte,zvs,reduceCtorEq,Nat.reduceEqDiff,Nat.reduceAdd,Nat.reduceLeDiff,Nat.reduceMul,Int.reduceBNe,Int.reduceBEq,Int.reduceEq,Int.reduceNe,Int.reduceLT,Int.reduceLE,Int.reduceGT,Int.reduceGE,Int.reduceNeg,Int.reduceToNat,Nat.reduceLT,Nat.reduceSub,tab,Try.results59,jTA])|(simp (disch:=omega) only [ziw]))
    all_goals first
      | (exfalso; omega)
      | (rw [hno (by omega)]; simp only [zrds]; done)
      | (rw [hyes (by omega)]; simp only [zrds]; done)
  · have hn := hno (fun h => hsz ⟨h.1, h.2.1, h.2.2.1, by omega, by omega⟩)
    rw [hn]
    refine spec_ok Try.func59 rfl rfl (by kernel_rfl) (k := 1) rfl (by decide) ?_
    repeat' (first|(with_reducible first|refine yrl (by constructor) ?_|refine jk (fun M hM=>?_)|(refine hM _ ?_;clear hM M)|refine xb3 (by decide) ?_|refine yqa (by assumption) ?_ ?_|refine yqb (by assumption) ?_ ?_)|((with_reducible refine je ?_)<;>(first|rfl|assumption|(simp only [znl,znT6];(first|done|fail))))|(with_reducible refine jf (by (simp only [↓reduceIte,zlk,Nat.reduceEqDiff,reduceCtorEq]);exact rfl) ?_)|((with_reducible first|refine jg (fun hc=>?_) (fun hc=>?_)|refine jh (fun hc=>?_) (fun hc=>?_))<;>(try simp (disch:=omega) only [zhb] at hc)<;>(try (exfalso;omega))<;>(try subst hc))|(with_reducible refine ji (by omega) ?_)|(simp (config := { maxSteps := 400000 }) only [↓jt,↓reduceIte,zvs,reduceCtorEq,Nat.reduceEqDiff,Nat.reduceAdd,Nat.reduceLeDiff,Nat.reduceMul,Int.reduceBNe,Int.reduceBEq,Int.reduceEq,Int.reduceNe,Int.reduceLT,Int.reduceLE,Int.reduceGT,Int.reduceGE,Int.reduceNeg,Int.reduceToNat,Nat.reduceLT,Nat.reduceSub,tab,Try.results59,jTA])|(simp (disch:=omega) only [ziw]))
    all_goals first
      | (exfalso; omega)
      | (simp only [zrds]; done)
      | skip
    refine ok_drawC 19 (by kernel_rfl) (by decide +kernel) (by intro m hm; simp only [upd_ap,rows_cons,rows_nil]; (repeat (first | rfl | rw [if_neg (by omega)]))) (fun M hM => ?_); simp only [List.take_succ_cons,List.take_zero,List.drop_succ_cons,List.drop_zero]
    repeat' (first|(with_reducible first|refine yrl (by constructor) ?_|refine jk (fun M hM=>?_)|(refine hM _ ?_;clear hM M)|refine xb3 (by decide) ?_|refine yqa (by assumption) ?_ ?_|refine yqb (by assumption) ?_ ?_)|((with_reducible refine je ?_)<;>(first|rfl|assumption|(simp only [znl,znT6];(first|done|fail))))|(with_reducible refine jf (by (simp only [↓reduceIte,zlk,Nat.reduceEqDiff,reduceCtorEq]);exact rfl) ?_)|((with_reducible first|refine jg (fun hc=>?_) (fun hc=>?_)|refine jh (fun hc=>?_) (fun hc=>?_))<;>(try simp (disch:=omega) only [zhb] at hc)<;>(try (exfalso;omega))<;>(try subst hc))|(with_reducible refine ji (by omega) ?_)|(simp (config := { maxSteps := 400000 }) only [↓jt,↓reduceIte,zvs,reduceCtorEq,Nat.reduceEqDiff,Nat.reduceAdd,Nat.reduceLeDiff,Nat.reduceMul,Int.reduceBNe,Int.reduceBEq,Int.reduceEq,Int.reduceNe,Int.reduceLT,Int.reduceLE,Int.reduceGT,Int.reduceGE,Int.reduceNeg,Int.reduceToNat,Nat.reduceLT,Nat.reduceSub,tab,Try.results59,jTA])|(simp (disch:=omega) only [ziw]))
    all_goals first
      | (exfalso; omega)
      | (simp only [zrds]; done)
end Go.Proofs.Ytpdhdkpebbfnnaa.V
end
section
namespace Go.Proofs.Ytpdhdkpebbfnnaa.V
open Go
set_option maxRecDepth 100000
set_option maxHeartbeats 1000000
theorem zeros17_spec (n : Nat) (hn : n ≤ 1000) : Spec Try.prog 122 [.int .i64 n] (.str (List.replicate n 0)) := by
  refine spec_ok Try.func122 rfl rfl (by kernel_rfl) (k := 1) rfl (by decide) ?_
  repeat' (first|(with_reducible first|refine yrl (by constructor) ?_|refine jk (fun M hM=>?_)|(refine hM _ ?_;clear hM M)|refine xb3 (by decide) ?_|refine yqa (by assumption) ?_ ?_|refine yqb (by assumption) ?_ ?_)|((with_reducible refine je ?_)<;>(first|rfl|assumption|(simp only [znl,jO];(first|done|fail))))|(with_reducible refine jf (by (simp only [↓reduceIte,zlk,Nat.reduceEqDiff,reduceCtorEq]);exact rfl) ?_)|((with_reducible first|refine jg (fun hc=>?_) (fun hc=>?_)|refine jh (fun hc=>?_) (fun hc=>?_))<;>(try simp (disch:=omega) only [zhb] at hc)<;>(try (exfalso;omega))<;>(try subst hc))|(with_reducible refine ji (by omega) ?_)|(simp (config := { maxSteps := 400000 }) only [↓jt,↓reduceIte,zvs,reduceCtorEq,Nat.reduceEqDiff,Nat.reduceAdd,Nat.reduceLeDiff,Nat.reduceMul,Int.reduceBNe,Int.reduceBEq,Int.reduceEq,Int.reduceNe,Int.reduceLT,Int.reduceLE,Int.reduceGT,Int.reduceGE,Int.reduceNeg,Int.reduceToNat,Nat.reduceLT,Nat.reduceSub,tab,Try.results122,jTA])|(simp (disch:=omega) only [ziw]))
  refine ok_loop (fun k : Nat => ⟨slots [(0, .int .i64 n), (2, .str []), (3, .str (List.replicate k 0)), (4, .int .i64 k)], rows [], 0⟩) (fun k => k ≤ n) (fun k => n - k) 0 ?_ (Nat.zero_le _) (fun k hk => ?_)
  · (refine yrn [] false ?_ ?_<;>(repeat' (first|(with_reducible first|exact ya1|exact ya2|exact ya3|refine jx rfl (by first|rfl|assumption|(simp only [znl,jO];(first|done|fail)))|exact ya5|exact ya7|exact jy|exact jz|refine jA ?_|refine ya9 ?_ ?_ ?_|refine jC rfl (by first|rfl|assumption|(simp only [znl,jO];(first|done|fail)))|refine MR.agg (MRL.cons ?_ ?_)|refine MR.fn ?_|refine MRL.cons ?_ ?_|exact MRL.nil|refine jE ?_ ?_|exact jF|exact jG|refine yb1 ?_ ?_|refine MB.row ?_|refine jI ?_ ?_|exact ya8|refine jJ rfl (by first|rfl|assumption|(simp only [znl,jO];(first|done|fail)))|refine yb2 ?_|rfl)|(simp only [znl,jO];(first|done|fail))|(simp only [↓reduceIte,zlk,Nat.reduceEqDiff,reduceCtorEq])|(with_reducible first|refine jJ ?_ ?_|refine ya5 ?_|refine ju ?_|refine jv ?_|refine jw ?_|refine jx ?_ (by first|rfl|assumption|(simp only [znl,jO];(first|done|fail)))|refine jC ?_ (by first|rfl|assumption|(simp only [znl,jO];(first|done|fail)))))))
    all_goals (first | rfl | (simp; done))
  by_cases hlt : k < n
  · repeat' (first|(with_reducible first|refine yrl (by constructor) ?_|refine jk (fun M hM=>?_)|(refine hM _ ?_;clear hM M)|refine xb3 (by decide) ?_|refine yqa (by assumption) ?_ ?_|refine yqb (by assumption) ?_ ?_)|((with_reducible refine je ?_)<;>(first|rfl|assumption|(simp only [znl,jO];(first|done|fail))))|(with_reducible refine jf (by (simp only [↓reduceIte,zlk,Nat.reduceEqDiff,reduceCtorEq]);exact rfl) ?_)|((with_reducible first|refine jg (fun hc=>?_) (fun hc=>?_)|refine jh (fun hc=>?_) (fun hc=>?_))<;>(try simp (disch:=omega) only [zhb] at hc)<;>(try (exfalso;omega))<;>(try subst hc))|(with_reducible refine ji (by omega) ?_)|(simp (config := { maxSteps := 400000 }) only [↓jt,↓reduceIte,zvs,reduceCtorEq,Nat.reduceEqDiff,Nat.reduceAdd,Nat.reduceLeDiff,Nat.reduceMul,Int.reduceBNe,Int.reduceBEq,Int.reduceEq,Int.reduceNe,Int.reduceLT,Int.reduceLE,Int.reduceGT,Int.reduceGE,Int.reduceNeg,Int.reduceToNat,Nat.reduceLT,Nat.reduceSub,tab,List.length_replicate,Try.results122,jTA])|(simp (disch:=omega) only [ziw]))
    refine xl1 (k + 1) ?_ (by show k + 1 ≤ n; omega) (by show n - (k + 1) < n - k; omega)
    (refine yrn [] false ?_ ?_<;>(repeat' (first|(with_reducible first|exact ya1|exact ya2|exact ya3|refine jx rfl (by first|rfl|assumption|(simp only [znl,jO];(first|done|fail)))|exact ya5|exact ya7|exact jy|exact jz|refine jA ?_|refine ya9 ?_ ?_ ?_|refine jC rfl (by first|rfl|assumption|(simp only [znl,jO];(first|done|fail)))|refine MR.agg (MRL.cons ?_ ?_)|refine MR.fn ?_|refine MRL.cons ?_ ?_|exact MRL.nil|refine jE ?_ ?_|exact jF|exact jG|refine yb1 ?_ ?_|refine MB.row ?_|refine jI ?_ ?_|exact ya8|refine jJ rfl (by first|rfl|assumption|(simp only [znl,jO];(first|done|fail)))|refine yb2 ?_|rfl)|(simp only [znl,jO];(first|done|fail))|(simp only [↓reduceIte,zlk,Nat.reduceEqDiff,reduceCtorEq])|(with_reducible first|refine jJ ?_ ?_|refine ya5 ?_|refine ju ?_|refine jv ?_|refine jw ?_|refine jx ?_ (by first|rfl|assumption|(simp only [znl,jO];(first|done|fail)))|refine jC ?_ (by first|rfl|assumption|(simp only [znl,jO];(first|done|fail)))))))
    all_goals (first | rfl | (simp [List.replicate_succ']; done))
  · obtain rfl : k = n := by omega
    repeat' (first|(with_reducible first|refine yrl (by constructor) ?_|refine jk (fun M hM=>?_)|(refine hM _ ?_;clear hM M)|refine xb3 (by decide) ?_|refine yqa (by assumption) ?_ ?_|refine yqb (by assumption) ?_ ?_)|((with_reducible refine je ?_)<;>(first|rfl|assumption|(simp only [znl,jO];(first|done|fail))))|(with_reducible refine jf (by (simp only [↓reduceIte,zlk,Nat.reduceEqDiff,reduceCtorEq]);exact rfl) ?_)|((with_reducible first|refine jg (fun hc=>?_) (fun hc=>?_)|refine jh (fun hc=>?_) (fun hc=>?_))<;>(try simp (disch:=omega) only [zhb] at hc)<;>(try (exfalso;omega))<;>(try subst hc))|(with_reducible refine ji (by omega) ?_)|(simp (config := { maxSteps := 400000 }) only [↓jt,↓reduceIte,zvs,reduceCtorEq,Nat.reduceEqDiff,Nat.reduceAdd,Nat.reduceLeDiff,Nat.reduceMul,Int.reduceBNe,Int.reduceBEq,Int.reduceEq,Int.reduceNe,Int.reduceLT,Int.reduceLE,Int.reduceGT,Int.reduceGE,Int.reduceNeg,Int.reduceToNat,Nat.reduceLT,Nat.reduceSub,tab,Try.results122,jTA])|(simp (disch:=omega) only [ziw]))
    simp only [zrds]
theorem zeros16_spec (n : Nat) (hn : n ≤ 1000) : Spec Try.prog 124 [.int .i64 n] (.str (List.replicate n 0)) := by
  refine spec_ok Try.func124 rfl rfl (by kernel_rfl) (k := 1) rfl (by decide) ?_
  repeat' (first|(with_reducible first|refine yrl (by constructor) ?_|refine jk (fun M hM=>?_)|(refine hM _ ?_;clear hM M)|refine xb3 (by decide) ?_|refine yqa (by assumption) ?_ ?_|refine yqb (by assumption) ?_ ?_)|((with_reducible refine je ?_)<;>(first|rfl|assumption|(simp only [znl,jO];(first|done|fail))))|(with_reducible refine jf (by (simp only [↓reduceIte,zlk,Nat.reduceEqDiff,reduceCtorEq]);exact rfl) ?_)|((with_reducible first|refine jg (fun hc=>?_) (fun hc=>?_)|refine jh (fun hc=>?_) (fun hc=>?_))<;>(try simp (disch:=omega) only [zhb] at hc)<;>(try (exfalso;omega))<;>(try subst hc))|(with_reducible refine ji (by omega) ?_)|(simp (config := { maxSteps := 400000 }) only [↓jt,↓reduceIte,zvs,reduceCtorEq,Nat.reduceEqDiff,Nat.reduceAdd,Nat.reduceLeDiff,Nat.reduceMul,Int.reduceBNe,Int.reduceBEq,Int.reduceEq,Int.reduceNe,Int.reduceLT,Int.reduceLE,Int.reduceGT,Int.reduceGE,Int.reduceNeg,Int.reduceToNat,Nat.reduceLT,Nat.reduceSub,tab,Try.results124,jTA])|(simp (disch:=omega) only [ziw]))
  refine ok_loop (fun k : Nat => ⟨slots [(0, .int .i64 n), (2, .str []), (3, .str (List.replicate k 0)), (4, .int .i64 k)], rows [], 0⟩) (fun k => k ≤ n) (fun k => n - k) 0 ?_ (Nat.zero_le _) (fun k hk => ?_)
  · (refine yrn [] false ?_ ?_<;>(repeat' (first|(with_reducible first|exact ya1|exact ya2|exact ya3|refine jx rfl (by first|rfl|assumption|(simp only [znl,jO];(first|done|fail)))|exact ya5|exact ya7|exact jy|exact jz|refine jA ?_|refine ya9 ?_ ?_ ?_|refine jC rfl (by first|rfl|assumption|(simp only [znl,jO];(first|done|fail)))|refine MR.agg (MRL.cons ?_ ?_)|refine MR.fn ?_|refine MRL.cons ?_ ?_|exact MRL.nil|refine jE ?_ ?_|exact jF|exact jG|refine yb1 ?_ ?_|refine MB.row ?_|refine jI ?_ ?_|exact ya8|refine jJ rfl (by first|rfl|assumption|(simp only [znl,jO];(first|done|fail)))|refine yb2 ?_|rfl)|(simp only [znl,jO];(first|done|fail))|(simp only [↓reduceIte,zlk,Nat.reduceEqDiff,reduceCtorEq])|(with_reducible first|refine jJ ?_ ?_|refine ya5 ?_|refine ju ?_|refine jv ?_|refine jw ?_|refine jx ?_ (by first|rfl|assumption|(simp only [znl,jO];(first|done|fail)))|refine jC ?_ (by first|rfl|assumption|(simp only [znl,jO];(first|done|fail)))))))
    all_goals (first | rfl | (simp; done))
  by_cases hlt : k < n
  · repeat' (first|(with_reducible first|refine yrl (by constructor) ?_|refine jk (fun M hM=>?_)|(refine hM _ ?_;clear hM M)|refine xb3 (by decide) ?_|refine yqa (by assumption) ?_ ?_|refine yqb (by assumption) ?_ ?_)|((with_reducible refine je ?_)<;>(first|rfl|assumption|(simp only [znl,jO];(first|done|fail))))|(with_reducible refine jf (by (simp only [↓reduceIte,zlk,Nat.reduceEqDiff,reduceCtorEq]);exact rfl) ?_)|((with_reducible first|refine jg (fun hc=>?_) (fun hc=>?_)|refine jh (fun hc=>?_) (fun hc=>?_))<;>(try simp (disch:=omega) only [zhb] at hc)<;>(try (exfalso;omega))<;>(try subst hc))|(with_reducible refine ji (by omega) ?_)|(simp (config := { maxSteps := 400000 }) only [↓jt,↓reduceIte,zvs,reduceCtorEq,Nat.reduceEqDiff,Nat.reduceAdd,Nat.reduceLeDiff,Nat.reduceMul,Int.reduceBNe,Int.reduceBEq,Int.reduceEq,Int.reduceNe,Int.reduceLT,Int.reduceLE,Int.reduceGT,Int.reduceGE,Int.reduceNeg,Int.reduceToNat,Nat.reduceLT,Nat.reduceSub,tab,List.length_replicate,Try.results124,jTA])|(simp (disch:=omega) only [ziw]))
    refine xl1 (k + 1) ?_ (by show k + 1 ≤ n; omega) (by show n - (k + 1) < n - k; omega)
    (refine yrn [] false ?_ ?_<;>(repeat' (first|(with_reducible first|exact ya1|exact ya2|exact ya3|refine jx rfl (by first|rfl|assumption|(simp only [znl,jO];(first|done|fail)))|exact ya5|exact ya7|exact jy|exact jz|refine jA ?_|refine ya9 ?_ ?_ ?_|refine jC rfl (by first|rfl|assumption|(simp only [znl,jO];(first|done|fail)))|refine MR.agg (MRL.cons ?_ ?_)|refine MR.fn ?_|refine MRL.cons ?_ ?_|exact MRL.nil|refine jE ?_ ?_|exact jF|exact jG|refine yb1 ?_ ?_|refine MB.row ?_|refine jI ?_ ?_|exact ya8|refine jJ rfl (by first|rfl|assumption|(simp only [znl,jO];(first|done|fail)))|refine yb2 ?_|rfl)|(simp only [znl,jO];(first|done|fail))|(simp only [↓reduceIte,zlk,Nat.reduceEqDiff,reduceCtorEq])|(with_reducible first|refine jJ ?_ ?_|refine ya5 ?_|refine ju ?_|refine jv ?_|refine jw ?_|refine jx ?_ (by first|rfl|assumption|(simp only [znl,jO];(first|done|fail)))|refine jC ?_ (by first|rfl|assumption|(simp only [znl,jO];(first|done|fail)))))))
    all_goals (first | rfl | (simp [List.replicate_succ']; done))
  · obtain rfl : k = n := by omega
    repeat' (first|(with_reducible first|refine yrl (by constructor) ?_|refine jk (fun M hM=>?_)|(refine hM _ ?_;clear hM M)|refine xb3 (by decide) ?_|refine yqa (by assumption) ?_ ?_|refine yqb (by assumption) ?_ ?_)|((with_reducible refine je ?_)<;>(first|rfl|assumption|(simp only [znl,jO];(first|done|fail))))|(with_reducible refine jf (by (simp only [↓reduceIte,zlk,Nat.reduceEqDiff,reduceCtorEq]);exact rfl) ?_)|((with_reducible first|refine jg (fun hc=>?_) (fun hc=>?_)|refine jh (fun hc=>?_) (fun hc=>?_))<;>(try simp (disch:=omega) only [zhb] at hc)<;>(try (exfalso;omega))<;>(try subst hc))|(with_reducible refine ji (by omega) ?_)|(simp (config := { maxSteps := 400000 }) only [↓jt,↓reduceIte,zvs,reduceCtorEq,Nat.reduceEqDiff,Nat.reduceAdd,Nat.reduceLeDiff,Nat.reduceMul,Int.reduceBNe,Int.reduceBEq,Int.reduceEq,Int.reduceNe,Int.reduceLT,Int.reduceLE,Int.reduceGT,Int.reduceGE,Int.reduceNeg,Int.reduceToNat,Nat.reduceLT,Nat.reduceSub,tab,Try.results124,jTA])|(simp (disch:=omega) only [ziw]))
    simp only [zrds]
theorem rnum_get_spec (s : List UInt8) (hs : s.length ≤ 4) : Spec Try.prog 149 [.str s] (.int .u64 (getLE s)) := by
  obtain ⟨R, hR⟩ : ∃ R, R = getLE s := ⟨_, rfl⟩
  rw [← hR]
  refine spec_ok Try.func149 rfl rfl (by kernel_rfl) (k := 1) rfl (by decide) ?_
  repeat' (first|(with_reducible first|refine yrl (by constructor) ?_|refine jk (fun M hM=>?_)|(refine hM _ ?_;clear hM M)|refine xb3 (by decide) ?_|refine yqa (by assumption) ?_ ?_|refine yqb (by assumption) ?_ ?_)|((with_reducible refine je ?_)<;>(first|rfl|assumption|(simp only [znl,jO];(first|done|fail))))|(with_reducible refine jf (by (simp only [↓reduceIte,zlk,Nat.reduceEqDiff,reduceCtorEq]);exact rfl) ?_)|((with_reducible first|refine jg (fun hc=>?_) (fun hc=>?_)|refine jh (fun hc=>?_) (fun hc=>?_))<;>(try simp (disch:=omega) only [zhb] at hc)<;>(try (exfalso;omega))<;>(try subst hc))|(with_reducible refine ji (by omega) ?_)|(simp (config := { maxSteps := 400000 }) only [↓jt,↓reduceIte,zvs,reduceCtorEq,Nat.reduceEqDiff,Nat.reduceAdd,Nat.reduceLeDiff,Nat.reduceMul,Int.reduceBNe,Int.reduceBEq,Int.reduceEq,Int.reduceNe,Int.reduceLT,Int.reduceLE,Int.reduceGT,Int.reduceGE,Int.reduceNeg,Int.reduceToNat,Nat.reduceLT,Nat.reduceSub,tab,Try.results149,jTA])|(simp (disch:=omega) only [ziw]))
  refine ok_loop (fun k : Nat => ⟨slots [(0, .str s), (2, .int .u64 0), (3, .int .u64 (getLE (s.drop k))), (4, .int .i64 ((k : Int) - 1))], rows [], 0⟩) (fun k => k ≤ s.length) (fun k => k) s.length ?_ (Nat.le_refl _) (fun k hk => ?_)
  · (refine yrn [] false ?_ ?_<;>(repeat' (first|(with_reducible first|exact ya1|exact ya2|exact ya3|refine jx rfl (by first|rfl|assumption|(simp only [znl,jO];(first|done|fail)))|exact ya5|exact ya7|exact jy|exact jz|refine jA ?_|refine ya9 ?_ ?_ ?_|refine jC rfl (by first|rfl|assumption|(simp only [znl,jO];(first|done|fail)))|refine MR.agg (MRL.cons ?_ ?_)|refine MR.fn ?_|refine MRL.cons ?_ ?_|exact MRL.nil|refine jE ?_ ?_|exact jF|exact jG|refine yb1 ?_ ?_|refine MB.row ?_|refine jI ?_ ?_|exact ya8|refine jJ rfl (by first|rfl|assumption|(simp only [znl,jO];(first|done|fail)))|refine yb2 ?_|rfl)|(simp only [znl,jO];(first|done|fail))|(simp only [↓reduceIte,zlk,Nat.reduceEqDiff,reduceCtorEq])|(with_reducible first|refine jJ ?_ ?_|refine ya5 ?_|refine ju ?_|refine jv ?_|refine jw ?_|refine jx ?_ (by first|rfl|assumption|(simp only [znl,jO];(first|done|fail)))|refine jC ?_ (by first|rfl|assumption|(simp only [znl,jO];(first|done|fail)))))))
    all_goals (first | rfl | (rw [List.drop_length]; rfl))
  by_cases hlt : 0 < k
  · obtain ⟨k, rfl⟩ : ∃ j, k = j + 1 := ⟨k - 1, by omega⟩
    have e1 : s.drop k = s.getD k 0 :: s.drop (k + 1) := by
      rw [List.drop_eq_getElem_cons (by omega), List.getD_eq_getElem?_getD, List.getElem?_eq_getElem (by omega)]; rfl
    have e2 : getLE (s.drop k) = (s.getD k 0).toNat + 256 * getLE (s.drop (k + 1)) := by rw [e1, getLE]
    have h1 := getLE_lt (s.drop (k + 1))
    have h2 := (s.getD k 0).toNat_lt
    have h3 : (256 : Nat) ^ (s.drop (k + 1)).length ≤ 256 ^ 3 := Nat.pow_le_pow_right (by omega) (by rw [List.length_drop]; omega)
    have h4 : getLE (s.drop (k + 1)) < 16777216 := by omega
    have e3 : ((k + 1 : Nat) : Int) - 1 = k := by omega
    repeat' (first|(with_reducible first|refine yrl (by constructor) ?_|refine jk (fun M hM=>?_)|(refine hM _ ?_;clear hM M)|refine xb3 (by decide) ?_|refine yqa (by assumption) ?_ ?_|refine yqb (by assumption) ?_ ?_)|((with_reducible refine je ?_)<;>(first|rfl|assumption|(simp only [znl,jO];(first|done|fail))))|(with_reducible refine jf (by (simp only [↓reduceIte,zlk,Nat.reduceEqDiff,reduceCtorEq]);exact rfl) ?_)|((with_reducible first|refine jg (fun hc=>?_) (fun hc=>?_)|refine jh (fun hc=>?_) (fun hc=>?_))<;>(try simp (disch:=omega) only [zhb] at hc)<;>(try (exfalso;omega))<;>(try subst hc))|(with_reducible refine ji (by omega) ?_)|(simp (config := { maxSteps := 400000 }) only [↓jt,↓reduceIte,zvs,reduceCtorEq,Nat.reduceEqDiff,Nat.reduceAdd,Nat.reduceLeDiff,Nat.reduceMul,Int.reduceBNe,Int.reduceBEq,Int.reduceEq,Int.reduceNe,Int.reduceLT,Int.reduceLE,Int.reduceGT,Int.reduceGE,Int.reduceNeg,Int.reduceToNat,Nat.reduceLT,Nat.reduceSub,tab,e3,Try.results149,jTA])|(simp (disch:=omega) only [ziw]))
    all_goals first
      | (exfalso; omega)
      | (refine xl1 k ?_ (by show k ≤ s.length; omega) (by show k < k + 1; omega); (refine yrn [] false ?_ ?_<;>(repeat' (first|(with_reducible first|exact ya1|exact ya2|exact ya3|refine jx rfl (by first|rfl|assumption|(simp only [znl,jO];(first|done|fail)))|exact ya5|exact ya7|exact jy|exact jz|refine jA ?_|refine ya9 ?_ ?_ ?_|refine jC rfl (by first|rfl|assumption|(simp only [znl,jO];(first|done|fail)))|refine MR.agg (MRL.cons ?_ ?_)|refine MR.fn ?_|refine MRL.cons ?_ ?_|exact MRL.nil|refine jE ?_ ?_|exact jF|exact jG|refine yb1 ?_ ?_|refine MB.row ?_|refine jI ?_ ?_|exact ya8|refine jJ rfl (by first|rfl|assumption|(simp only [znl,jO];(first|done|fail)))|refine yb2 ?_|rfl)|(simp only [znl,jO];(first|done|fail))|(simp only [↓reduceIte,zlk,Nat.reduceEqDiff,reduceCtorEq])|(with_reducible first|refine jJ ?_ ?_|refine ya5 ?_|refine ju ?_|refine jv ?_|refine jw ?_|refine jx ?_ (by first|rfl|assumption|(simp only [znl,jO];(first|done|fail)))|refine jC ?_ (by first|rfl|assumption|(simp only [znl,jO];(first|done|fail))))))); all_goals (first | (rw [e2]; omega)))
  · obtain rfl : k = 0 := by omega
    repeat' (first|(with_reducible first|refine yrl (by constructor) ?_|refine jk (fun M hM=>?_)|(refine hM _ ?_;clear hM M)|refine xb3 (by decide) ?_|refine yqa (by assumption) ?_ ?_|refine yqb (by assumption) ?_ ?_)|((with_reducible refine je ?_)<;>(first|rfl|assumption|(simp only [znl,jO];(first|done|fail))))|(with_reducible refine jf (by (simp only [↓reduceIte,zlk,Nat.reduceEqDiff,reduceCtorEq]);exact rfl) ?_)|((with_reducible first|refine jg (fun hc=>?_) (fun hc=>?_)|refine jh (fun hc=>?_) (fun hc=>?_))<;>(try simp (disch:=omega) only [zhb] at hc)<;>(try (exfalso;omega))<;>(try subst hc))|(with_reducible refine ji (by omega) ?_)|(simp (config := { maxSteps := 400000 }) only [↓jt,↓reduceIte,zvs,reduceCtorEq,Nat.reduceEqDiff,Nat.reduceAdd,Nat.reduceLeDiff,Nat.reduceMul,Int.reduceBNe,Int.reduceBEq,Int.reduceEq,Int.reduceNe,Int.reduceLT,Int.reduceLE,Int.reduceGT,Int.reduceGE,Int.reduceNeg,Int.reduceToNat,Nat.reduceLT,Nat.reduceSub,tab,Try.results149,jTA])|(simp (disch:=omega) only [ziw]))
    rw [hR]
    simp only [zrds]
    all_goals rfl
theorem byte_of (x : Nat) : (((x % 256 : Nat) : Int)) = ((UInt8.ofNat x).toNat : Int) := by
  rw [UInt8.toNat_ofNat']
theorem rnum_put_spec (n : Nat) (hn : n < 2 ^ 32) (z : Nat) (hz : z ≤ 8) : Spec Try.prog 133 [.int .u64 n, .int .i64 z] (.str (putLE n z)) := by
  refine spec_ok Try.func133 rfl rfl (by kernel_rfl) (k := 2) rfl (by decide) ?_
  repeat' (first|(with_reducible first|refine yrl (by constructor) ?_|refine jk (fun M hM=>?_)|(refine hM _ ?_;clear hM M)|refine xb3 (by decide) ?_|refine yqa (by assumption) ?_ ?_|refine yqb (by assumption) ?_ ?_)|((with_reducible refine je ?_)<;>(first|rfl|assumption|(simp only [znl,jO];(first|done|fail))))|(with_reducible refine jf (by (simp only [↓reduceIte,zlk,Nat.reduceEqDiff,reduceCtorEq]);exact rfl) ?_)|((with_reducible first|refine jg (fun hc=>?_) (fun hc=>?_)|refine jh (fun hc=>?_) (fun hc=>?_))<;>(try simp (disch:=omega) only [zhb] at hc)<;>(try (exfalso;omega))<;>(try subst hc))|(with_reducible refine ji (by omega) ?_)|(simp (config := { maxSteps := 400000 }) only [↓jt,↓reduceIte,zvs,reduceCtorEq,Nat.reduceEqDiff,Nat.reduceAdd,Nat.reduceLeDiff,Nat.reduceMul,Int.reduceBNe,Int.reduceBEq,Int.reduceEq,Int.reduceNe,Int.reduceLT,Int.reduceLE,Int.reduceGT,Int.reduceGE,Int.reduceNeg,Int.reduceToNat,Nat.reduceLT,Nat.reduceSub,tab,Try.results133,jTA])|(simp (disch:=omega) only [ziw]))
  refine ok_loop (fun k : Nat => ⟨slots [(0, .int .u64 ((n / 256 ^ k : Nat) : Int)), (1, .int .i64 z), (4, .str []), (5, .str (putLE n k)), (6, .int .i64 k)], rows [], 0⟩) (fun k => k ≤ z) (fun k => z - k) 0 ?_ (Nat.zero_le _) (fun k hk => ?_)
  · (refine yrn [] false ?_ ?_<;>(repeat' (first|(with_reducible first|exact ya1|exact ya2|exact ya3|refine jx rfl (by first|rfl|assumption|(simp only [znl,jO];(first|done|fail)))|exact ya5|exact ya7|exact jy|exact jz|refine jA ?_|refine ya9 ?_ ?_ ?_|refine jC rfl (by first|rfl|assumption|(simp only [znl,jO];(first|done|fail)))|refine MR.agg (MRL.cons ?_ ?_)|refine MR.fn ?_|refine MRL.cons ?_ ?_|exact MRL.nil|refine jE ?_ ?_|exact jF|exact jG|refine yb1 ?_ ?_|refine MB.row ?_|refine jI ?_ ?_|exact ya8|refine jJ rfl (by first|rfl|assumption|(simp only [znl,jO];(first|done|fail)))|refine yb2 ?_|rfl)|(simp only [znl,jO];(first|done|fail))|(simp only [↓reduceIte,zlk,Nat.reduceEqDiff,reduceCtorEq])|(with_reducible first|refine jJ ?_ ?_|refine ya5 ?_|refine ju ?_|refine jv ?_|refine jw ?_|refine jx ?_ (by first|rfl|assumption|(simp only [znl,jO];(first|done|fail)))|refine jC ?_ (by first|rfl|assumption|(simp only [znl,jO];(first|done|fail)))))))
    all_goals (first | rfl | (simp; done))
  have hq : n / 256 ^ k < 2 ^ 32 := Nat.lt_of_le_of_lt (Nat.div_le_self _ _) hn
  have e4 : n / 256 ^ (k + 1) = n / 256 ^ k / 256 := by rw [Nat.pow_succ, Nat.div_div_eq_div_mul]
  have e5 : putLE n (k + 1) = putLE n k ++ [UInt8.ofNat (n / 256 ^ k)] := rfl
  have hl := putLE_len n k
  by_cases hlt : k < z
  · obtain ⟨x, hx⟩ : ∃ x, x = n / 256 ^ k := ⟨_, rfl⟩
    rw [← hx] at hq e4 e5 ⊢
    have hb : bytesOf [VV.int .u8 ((x : Int) % 256)] = some [UInt8.ofNat x] := by
      have := bytesOf_enc [UInt8.ofNat x]
      rw [List.map_cons, List.map_nil] at this
      rw [← this, encB, ← byte_of x]
      norm_cast
    repeat' (first|(with_reducible first|refine yrl (by constructor) ?_|refine jk (fun M hM=>?_)|(refine hM _ ?_;clear hM M)|refine xb3 (by decide) ?_|refine yqa (by assumption) ?_ ?_|refine yqb (by assumption) ?_ ?_)|((with_reducible refine je ?_)<;>(first|rfl|assumption|(simp only [znl,jO];(first|done|fail))))|(with_reducible refine jf (by (simp only [↓reduceIte,zlk,Nat.reduceEqDiff,reduceCtorEq]);exact rfl) ?_)|((with_reducible first|refine jg (fun hc=>?_) (fun hc=>?_)|refine jh (fun hc=>?_) (fun hc=>?_))<;>(try simp (disch:=omega) only [zhb] at hc)<;>(try (exfalso;omega))<;>(try subst hc))|(with_reducible refine ji (by omega) ?_)|(simp (config := { maxSteps := 400000 }) only [↓jt,↓reduceIte,zvs,reduceCtorEq,Nat.reduceEqDiff,Nat.reduceAdd,Nat.reduceLeDiff,Nat.reduceMul,Int.reduceBNe,Int.reduceBEq,Int.reduceEq,Int.reduceNe,Int.reduceLT,Int.reduceLE,Int.reduceGT,Int.reduceGE,Int.reduceNeg,Int.reduceToNat,Nat.reduceLT,Nat.reduceSub,tab,hb,hl,Try.results133,jTA])|(simp (disch:=omega) only [ziw]))
    all_goals first
      | (exfalso; omega)
      | (refine xl1 (k + 1) ?_ (by show k + 1 ≤ z; omega) (by show z - (k + 1) < z - k; omega); (refine yrn [] false ?_ ?_<;>(repeat' (first|(with_reducible first|exact ya1|exact ya2|exact ya3|refine jx rfl (by first|rfl|assumption|(simp only [znl,jO];(first|done|fail)))|exact ya5|exact ya7|exact jy|exact jz|refine jA ?_|refine ya9 ?_ ?_ ?_|refine jC rfl (by first|rfl|assumption|(simp only [znl,jO];(first|done|fail)))|refine MR.agg (MRL.cons ?_ ?_)|refine MR.fn ?_|refine MRL.cons ?_ ?_|exact MRL.nil|refine jE ?_ ?_|exact jF|exact jG|refine yb1 ?_ ?_|refine MB.row ?_|refine jI ?_ ?_|exact ya8|refine jJ rfl (by first|rfl|assumption|(simp only [znl,jO];(first|done|fail)))|refine yb2 ?_|rfl)|(simp only [znl,jO];(first|done|fail))|(simp only [↓reduceIte,zlk,Nat.reduceEqDiff,reduceCtorEq])|(with_reducible first|refine jJ ?_ ?_|refine ya5 ?_|refine ju ?_|refine jv ?_|refine jw ?_|refine jx ?_ (by first|rfl|assumption|(simp only [znl,jO];(first|done|fail)))|refine jC ?_ (by first|rfl|assumption|(simp only [znl,jO];(first|done|fail))))))); all_goals (first | (rw [e4]; omega) | (rw [e5]; done)))
  · obtain rfl : k = z := by omega
    repeat' (first|(with_reducible first|refine yrl (by constructor) ?_|refine jk (fun M hM=>?_)|(refine hM _ ?_;clear hM M)|refine xb3 (by decide) ?_|refine yqa (by assumption) ?_ ?_|refine yqb (by assumption) ?_ ?_)|((with_reducible refine je ?_)<;>(first|rfl|assumption|(simp only [znl,jO];(first|done|fail))))|(with_reducible refine jf (by (simp only [↓reduceIte,zlk,Nat.reduceEqDiff,reduceCtorEq]);exact rfl) ?_)|((with_reducible first|refine jg (fun hc=>?_) (fun hc=>?_)|refine jh (fun hc=>?_) (fun hc=>?_))<;>(try simp (disch:=omega) only [zhb] at hc)<;>(try (exfalso;omega))<;>(try subst hc))|(with_reducible refine ji (by omega) ?_)|(simp (config := { maxSteps := 400000 }) only [↓jt,↓reduceIte,zvs,reduceCtorEq,Nat.reduceEqDiff,Nat.reduceAdd,Nat.reduceLeDiff,Nat.reduceMul,Int.reduceBNe,Int.reduceBEq,Int.reduceEq,Int.reduceNe,Int.reduceLT,Int.reduceLE,Int.reduceGT,Int.reduceGE,Int.reduceNeg,Int.reduceToNat,Nat.reduceLT,Nat.reduceSub,tab,Try.results133,jTA])|(simp (disch:=omega) only [ziw]))
    all_goals simp only [zrds]
def geoV (g : Geo) : VV := .agg [.int .i64 g.bl, .int .i64 g.ino, .int .i64 g.quo, .int .i64 g.map, .int .i64 g.tab, .int .i64 g.dat]
def planV (x : Geo × Int) : VV := .tup [geoV x.1, .int .i64 x.2]
theorem plan_spec (b i : Int) (hb : 0 ≤ b ∧ b ≤ 1000000) (hi : 0 ≤ i ∧ i ≤ 1000000) : Spec Try.prog 120 [.int .i64 b, .int .i64 i] (planV (planG b i)) := by
  unfold planG
  have h6 : ∀ a : VV, List.replicate 6 a = [a, a, a, a, a, a] := fun _ => rfl
  by_cases h1 : b < 16 ∨ 223 < b ∨ i < 4 ∨ 64 < i
  · rw [if_pos h1]
    refine spec_ok Try.func120 rfl rfl (by kernel_rfl) (k := 2) rfl (by decide) ?_
    repeat' (first|(with_reducible first|refine yrl (by constructor) ?_|refine jk (fun M hM=>?_)|(refine hM _ ?_;clear hM M)|refine xb3 (by decide) ?_|refine yqa (by assumption) ?_ ?_|refine yqb (by assumption) ?_ ?_)|((with_reducible refine je ?_)<;>(first|rfl|assumption|(simp only [znl,jO];(first|done|fail))))|(with_reducible refine jf (by (simp only [↓reduceIte,zlk,Nat.reduceEqDiff,reduceCtorEq]);exact rfl) ?_)|((with_reducible first|refine jg (fun hc=>?_) (fun hc=>?_)|refine jh (fun hc=>?_) (fun hc=>?_))<;>(try simp (disch:=omega) only [zhb] at hc)<;>(try (exfalso;omega))<;>(try subst hc))|(with_reducible refine ji (by omega) ?_)|(simp (config := { maxSteps := 400000 }) only [↓jt,↓reduceIte,zvs,reduceCtorEq,Nat.reduceEqDiff,Nat.reduceAdd,Nat.reduceLeDiff,Nat.reduceMul,Int.reduceBNe,Int.reduceBEq,Int.reduceEq,Int.reduceNe,Int.reduceLT,Int.reduceLE,Int.reduceGT,Int.reduceGE,Int.reduceNeg,Int.reduceToNat,Nat.reduceLT,Nat.reduceSub,tab,h6,Try.results120,jTA])|(simp (disch:=omega) only [ziw]))
    all_goals first
      | (exfalso; omega)
      | (simp only [planV,geoV]; simp only [zrds]; done)
  · rw [if_neg h1]
    by_cases h2 : b ≤ 3 + (i + 1) / 2
    · rw [if_pos h2]
      refine spec_ok Try.func120 rfl rfl (by kernel_rfl) (k := 2) rfl (by decide) ?_
      repeat' (first|(with_reducible first|refine yrl (by constructor) ?_|refine jk (fun M hM=>?_)|(refine hM _ ?_;clear hM M)|refine xb3 (by decide) ?_|refine yqa (by assumption) ?_ ?_|refine yqb (by assumption) ?_ ?_)|((with_reducible refine je ?_)<;>(first|rfl|assumption|(simp only [znl,jO];(first|done|fail))))|(with_reducible refine jf (by (simp only [↓reduceIte,zlk,Nat.reduceEqDiff,reduceCtorEq]);exact rfl) ?_)|((with_reducible first|refine jg (fun hc=>?_) (fun hc=>?_)|refine jh (fun hc=>?_) (fun hc=>?_))<;>(try simp (disch:=omega) only [zhb] at hc)<;>(try (exfalso;omega))<;>(try subst hc))|(with_reducible refine ji (by omega) ?_)|(simp (config := { maxSteps := 400000 }) only [↓jt,↓reduceIte,zvs,reduceCtorEq,Nat.reduceEqDiff,Nat.reduceAdd,Nat.reduceLeDiff,Nat.reduceMul,Int.reduceBNe,Int.reduceBEq,Int.reduceEq,Int.reduceNe,Int.reduceLT,Int.reduceLE,Int.reduceGT,Int.reduceGE,Int.reduceNeg,Int.reduceToNat,Nat.reduceLT,Nat.reduceSub,tab,h6,Try.results120,jTA])|(simp (disch:=omega) only [ziw]))
      all_goals first
        | (exfalso; omega)
        | (simp only [planV,geoV]; simp only [zrds]; done)
    · rw [if_neg h2]
      refine spec_ok Try.func120 rfl rfl (by kernel_rfl) (k := 2) rfl (by decide) ?_
      repeat' (first|(with_reducible first|refine yrl (by constructor) ?_|refine jk (fun M hM=>?_)|(refine hM _ ?_;clear hM M)|refine xb3 (by decide) ?_|refine yqa (by assumption) ?_ ?_|refine yqb (by assumption) ?_ ?_)|((with_reducible refine je ?_)<;>(first|rfl|assumption|(simp only [znl,jO];(first|done|fail))))|(with_reducible refine jf (by (simp only [↓reduceIte,zlk,Nat.reduceEqDiff,reduceCtorEq]);exact rfl) ?_)|((with_reducible first|refine jg (fun hc=>?_) (fun hc=>?_)|refine jh (fun hc=>?_) (fun hc=>?_))<;>(try simp (disch:=omega) only [zhb] at hc)<;>(try (exfalso;omega))<;>(try subst hc))|(with_reducible refine ji (by omega) ?_)|(simp (config := { maxSteps := 400000 }) only [↓jt,↓reduceIte,zvs,reduceCtorEq,Nat.reduceEqDiff,Nat.reduceAdd,Nat.reduceLeDiff,Nat.reduceMul,Int.reduceBNe,Int.reduceBEq,Int.reduceEq,Int.reduceNe,Int.reduceLT,Int.reduceLE,Int.reduceGT,Int.reduceGE,Int.reduceNeg,Int.reduceToNat,Nat.reduceLT,Nat.reduceSub,tab,h6,Try.results120,jTA])|(simp (disch:=omega) only [ziw]))
      all_goals first
        | (exfalso; omega)
        | (simp only [planV,geoV]; simp only [zrds]; done)
end Go.Proofs.Ytpdhdkpebbfnnaa.V
end
section
namespace Go.Proofs.Ytpdhdkpebbfnnaa.V
open Go
def znT7 := And.intro @jO <| And.intro @jP <| And.intro @jQ <| And.intro @jR <| And.intro @jS <| And.intro @jT <| And.intro @jU <| True.intro
set_option maxRecDepth 100000
set_option maxHeartbeats 8000000
theorem rzeros_spec (n : Nat) (hn : n ≤ 20000) : Spec Try.prog 98 [.int .i64 n] (.str (List.replicate n 0)) := by
  refine spec_ok Try.func98 rfl rfl (by kernel_rfl) (k := 1) rfl (by decide) ?_
  repeat' (first|(with_reducible first|refine yrl (by constructor) ?_|refine jk (fun M hM=>?_)|(refine hM _ ?_;clear hM M)|refine xb3 (by decide) ?_|refine yqa (by assumption) ?_ ?_|refine yqb (by assumption) ?_ ?_)|((with_reducible refine je ?_)<;>(first|rfl|assumption|(simp only [znl,znT7];(first|done|fail))))|(with_reducible refine jf (by (simp only [↓reduceIte,zlk,Nat.reduceEqDiff,reduceCtorEq]);exact rfl) ?_)|((with_reducible first|refine jg (fun hc=>?_) (fun hc=>?_)|refine jh (fun hc=>?_) (fun hc=>?_))<;>(try simp (disch:=omega) only [zhb] at hc)<;>(try (exfalso;omega))<;>(try subst hc))|(with_reducible refine ji (by omega) ?_)|(simp (config := { maxSteps := 400000 }) only [↓jt,↓reduceIte,zvs,reduceCtorEq,Nat.reduceEqDiff,Nat.reduceAdd,Nat.reduceLeDiff,Nat.reduceMul,Int.reduceBNe,Int.reduceBEq,Int.reduceEq,Int.reduceNe,Int.reduceLT,Int.reduceLE,Int.reduceGT,Int.reduceGE,Int.reduceNeg,Int.reduceToNat,Nat.reduceLT,Nat.reduceSub,tab,Try.results98,jTA])|(simp (disch:=omega) only [ziw]))
  refine ok_loop (fun k : Nat => ⟨slots [(0, .int .i64 n), (3, .str (List.replicate k 0)), (4, .int .i64 k)], rows [], 0⟩) (fun k => k ≤ n) (fun k => n - k) 0 ?_ (Nat.zero_le _) (fun k hk => ?_)
  · (refine yrn [] false ?_ ?_<;>(repeat' (first|(with_reducible first|exact ya1|exact ya2|exact ya3|refine jx rfl (by first|rfl|assumption|(simp only [znl,znT7];(first|done|fail)))|exact ya5|exact ya7|exact jy|exact jz|refine jA ?_|refine ya9 ?_ ?_ ?_|refine jC rfl (by first|rfl|assumption|(simp only [znl,znT7];(first|done|fail)))|refine MR.agg (MRL.cons ?_ ?_)|refine MR.fn ?_|refine MRL.cons ?_ ?_|exact MRL.nil|refine jE ?_ ?_|exact jF|exact jG|refine yb1 ?_ ?_|refine MB.row ?_|refine jI ?_ ?_|exact ya8|refine jJ rfl (by first|rfl|assumption|(simp only [znl,znT7];(first|done|fail)))|refine yb2 ?_|rfl)|(simp only [znl,znT7];(first|done|fail))|(simp only [↓reduceIte,zlk,Nat.reduceEqDiff,reduceCtorEq])|(with_reducible first|refine jJ ?_ ?_|refine ya5 ?_|refine ju ?_|refine jv ?_|refine jw ?_|refine jx ?_ (by first|rfl|assumption|(simp only [znl,znT7];(first|done|fail)))|refine jC ?_ (by first|rfl|assumption|(simp only [znl,znT7];(first|done|fail)))))))
    all_goals (first | rfl)
  have hlen : (List.replicate k (0 : UInt8)).length = k := List.length_replicate
  by_cases hlt : k < n
  · have hs : List.replicate k (0 : UInt8) ++ [0] = List.replicate (k + 1) 0 := by rw [List.replicate_succ']
    generalize hL : List.replicate k (0 : UInt8) = L at hlen hs ⊢
    repeat' (first|(with_reducible first|refine yrl (by constructor) ?_|refine jk (fun M hM=>?_)|(refine hM _ ?_;clear hM M)|refine xb3 (by decide) ?_|refine yqa (by assumption) ?_ ?_|refine yqb (by assumption) ?_ ?_)|((with_reducible refine je ?_)<;>(first|rfl|assumption|(simp only [znl,znT7];(first|done|fail))))|(with_reducible refine jf (by (simp only [↓reduceIte,zlk,Nat.reduceEqDiff,reduceCtorEq]);exact rfl) ?_)|((with_reducible first|refine jg (fun hc=>?_) (fun hc=>?_)|refine jh (fun hc=>?_) (fun hc=>?_))<;>(try simp (disch:=omega) only [zhb] at hc)<;>(try (exfalso;omega))<;>(try subst hc))|(with_reducible refine ji (by omega) ?_)|(simp (config := { maxSteps := 400000 }) only [↓jt,↓reduceIte,zvs,reduceCtorEq,Nat.reduceEqDiff,Nat.reduceAdd,Nat.reduceLeDiff,Nat.reduceMul,Int.reduceBNe,Int.reduceBEq,Int.reduceEq,Int.reduceNe,Int.reduceLT,Int.reduceLE,Int.reduceGT,Int.reduceGE,Int.reduceNeg,Int.reduceToNat,Nat.reduceLT,Nat.reduceSub,tab,hlen,hs,Try.results98,jTA])|(simp (disch:=omega) only [ziw]))
    all_goals first
      | (exfalso; omega)
      | (refine xl1 (k + 1) ?_ (by show k + 1 ≤ n; omega) (by show n - (k + 1) < n - k; omega); (refine yrn [] false ?_ ?_<;>(repeat' (first|(with_reducible first|exact ya1|exact ya2|exact ya3|refine jx rfl (by first|rfl|assumption|(simp only [znl,znT7];(first|done|fail)))|exact ya5|exact ya7|exact jy|exact jz|refine jA ?_|refine ya9 ?_ ?_ ?_|refine jC rfl (by first|rfl|assumption|(simp only [znl,znT7];(first|done|fail)))|refine MR.agg (MRL.cons ?_ ?_)|refine MR.fn ?_|refine MRL.cons ?_ ?_|exact MRL.nil|refine jE ?_ ?_|exact jF|exact jG|refine yb1 ?_ ?_|refine MB.row ?_|refine jI ?_ ?_|exact ya8|refine jJ rfl (by first|rfl|assumption|(simp only [znl,znT7];(first|done|fail)))|refine yb2 ?_|rfl)|(simp only [znl,znT7];(first|done|fail))|(simp only [↓reduceIte,zlk,Nat.reduceEqDiff,reduceCtorEq])|(with_reducible first|refine jJ ?_ ?_|refine ya5 ?_|refine ju ?_|refine jv ?_|refine jw ?_|refine jx ?_ (by first|rfl|assumption|(simp only [znl,znT7];(first|done|fail)))|refine jC ?_ (by first|rfl|assumption|(simp only [znl,znT7];(first|done|fail))))))); all_goals (first | rfl | exact hs); done)
  · obtain rfl : k = n := by omega
    repeat' (first|(with_reducible first|refine yrl (by constructor) ?_|refine jk (fun M hM=>?_)|(refine hM _ ?_;clear hM M)|refine xb3 (by decide) ?_|refine yqa (by assumption) ?_ ?_|refine yqb (by assumption) ?_ ?_)|((with_reducible refine je ?_)<;>(first|rfl|assumption|(simp only [znl,znT7];(first|done|fail))))|(with_reducible refine jf (by (simp only [↓reduceIte,zlk,Nat.reduceEqDiff,reduceCtorEq]);exact rfl) ?_)|((with_reducible first|refine jg (fun hc=>?_) (fun hc=>?_)|refine jh (fun hc=>?_) (fun hc=>?_))<;>(try simp (disch:=omega) only [zhb] at hc)<;>(try (exfalso;omega))<;>(try subst hc))|(with_reducible refine ji (by omega) ?_)|(simp (config := { maxSteps := 400000 }) only [↓jt,↓reduceIte,zvs,reduceCtorEq,Nat.reduceEqDiff,Nat.reduceAdd,Nat.reduceLeDiff,Nat.reduceMul,Int.reduceBNe,Int.reduceBEq,Int.reduceEq,Int.reduceNe,Int.reduceLT,Int.reduceLE,Int.reduceGT,Int.reduceGE,Int.reduceNeg,Int.reduceToNat,Nat.reduceLT,Nat.reduceSub,tab,Try.results98,jTA])|(simp (disch:=omega) only [ziw]))
    all_goals first
      | (exfalso; omega)
      | (simp only [zrds]; done)
def wordsB (l : List Int) : List UInt8 := (l.map fun x => putLE x.toNat 4).flatten
theorem wordsB_snoc (l : List Int) (x : Int) : wordsB (l ++ [x]) = wordsB l ++ putLE x.toNat 4 := by simp [wordsB]
theorem wordsB_len : ∀ l : List Int, (wordsB l).length = 4 * l.length
  | [] => rfl
  | x :: l => by
    have e : wordsB (x :: l) = putLE x.toNat 4 ++ wordsB l := by simp [wordsB]
    rw [e, List.length_append, putLE_len, wordsB_len l, List.length_cons]; omega
theorem take_snocI (l : List Int) (k : Nat) (h : k < l.length) : l.take (k + 1) = l.take k ++ [l.getD k default] := by
  rw [List.take_add_one, List.getD_eq_getElem?_getD, List.getElem?_eq_getElem h]; rfl
theorem rtext_spec (e : Exe) (he : ExeR e) : Spec Try.prog 97 [encExe e] (.str (wordsB e.ws)) := by
  have hw := he.ws
  have hwR := he.wsR
  refine spec_ok Try.func97 rfl rfl (by kernel_rfl) (k := 1) rfl (by decide) ?_
  repeat' (first|(with_reducible first|refine yrl (by constructor) ?_|refine jk (fun M hM=>?_)|(refine hM _ ?_;clear hM M)|refine xb3 (by decide) ?_|refine yqa (by assumption) ?_ ?_|refine yqb (by assumption) ?_ ?_)|((with_reducible refine je ?_)<;>(first|rfl|assumption|(simp only [znl,znT7];(first|done|fail))))|(with_reducible refine jf (by (simp only [↓reduceIte,zlk,Nat.reduceEqDiff,reduceCtorEq]);exact rfl) ?_)|((with_reducible first|refine jg (fun hc=>?_) (fun hc=>?_)|refine jh (fun hc=>?_) (fun hc=>?_))<;>(try simp (disch:=omega) only [zhb] at hc)<;>(try (exfalso;omega))<;>(try subst hc))|(with_reducible refine ji (by omega) ?_)|(simp (config := { maxSteps := 400000 }) only [↓jt,↓reduceIte,zvs,reduceCtorEq,Nat.reduceEqDiff,Nat.reduceAdd,Nat.reduceLeDiff,Nat.reduceMul,Int.reduceBNe,Int.reduceBEq,Int.reduceEq,Int.reduceNe,Int.reduceLT,Int.reduceLE,Int.reduceGT,Int.reduceGE,Int.reduceNeg,Int.reduceToNat,Nat.reduceLT,Nat.reduceSub,tab,Try.results97,jTA])|(simp (disch:=omega) only [ziw]))
  refine ok_loop (fun k : Nat => ⟨slots [(1, .ptr 0 []), (3, .str (wordsB (e.ws.take k))), (7, .int .i64 e.ws.length), (8, .int .i64 k)], rows [(0, .row (.st [.cell, .cell, .cell, .cell]) (encExe e))], 1⟩) (fun k => k ≤ e.ws.length) (fun k => e.ws.length - k) 0 ?_ (Nat.zero_le _) (fun k hk => ?_)
  · (refine yrn [(0, 0)] false ?_ ?_<;>(repeat' (first|(with_reducible first|exact ya1|exact ya2|exact ya3|refine jx rfl (by first|rfl|assumption|(simp only [znl,znT7];(first|done|fail)))|exact ya5|exact ya7|exact jy|exact jz|refine jA ?_|refine ya9 ?_ ?_ ?_|refine jC rfl (by first|rfl|assumption|(simp only [znl,znT7];(first|done|fail)))|refine MR.agg (MRL.cons ?_ ?_)|refine MR.fn ?_|refine MRL.cons ?_ ?_|exact MRL.nil|refine jE ?_ ?_|exact jF|exact jG|refine yb1 ?_ ?_|refine MB.row ?_|refine jI ?_ ?_|exact ya8|refine jJ rfl (by first|rfl|assumption|(simp only [znl,znT7];(first|done|fail)))|refine yb2 ?_|rfl)|(simp only [znl,znT7];(first|done|fail))|(simp only [↓reduceIte,zlk,Nat.reduceEqDiff,reduceCtorEq])|(with_reducible first|refine jJ ?_ ?_|refine ya5 ?_|refine ju ?_|refine jv ?_|refine jw ?_|refine jx ?_ (by first|rfl|assumption|(simp only [znl,znT7];(first|done|fail)))|refine jC ?_ (by first|rfl|assumption|(simp only [znl,znT7];(first|done|fail)))))))
    all_goals (first | rfl)
  have hlen := wordsB_len (e.ws.take k)
  rw [List.length_take] at hlen
  by_cases hlt : k < e.ws.length
  · obtain ⟨x1, x2⟩ := hwR _ (getD_mem' hlt)
    have hs : wordsB (e.ws.take (k + 1)) = wordsB (e.ws.take k) ++ putLE (e.ws.getD k default).toNat 4 := by rw [take_snocI _ _ hlt, wordsB_snoc]
    have hpl := putLE_len (e.ws.getD k default).toNat 4
    have hP : Spec Try.prog 133 [.int .u64 (e.ws.getD k default), .int .i64 4] (.str (putLE (e.ws.getD k default).toNat 4)) := by
      have := rnum_put_spec (e.ws.getD k default).toNat (by omega) 4 (by omega)
      rw [Int.toNat_of_nonneg x1] at this
      exact this
    generalize wordsB (e.ws.take k) = L at hlen hs ⊢
    generalize putLE (e.ws.getD k default).toNat 4 = Q at hs hpl hP
    repeat' (first|(with_reducible first|refine yrl (by constructor) ?_|refine jk (fun M hM=>?_)|(refine hM _ ?_;clear hM M)|refine xb3 (by decide) ?_|refine yqa (by assumption) ?_ ?_|refine yqb (by assumption) ?_ ?_)|((with_reducible refine je ?_)<;>(first|rfl|assumption|(simp only [znl,znT7];(first|done|fail))))|(with_reducible refine jf (by (simp only [↓reduceIte,zlk,Nat.reduceEqDiff,reduceCtorEq]);exact rfl) ?_)|((with_reducible first|refine jg (fun hc=>?_) (fun hc=>?_)|refine jh (fun hc=>?_) (fun hc=>?_))<;>(try simp (disch:=omega) only [zhb] at hc)<;>(try (exfalso;omega))<;>(try subst hc))|(with_reducible refine ji (by omega) ?_)|(simp (config := { maxSteps := 400000 }) only [↓jt,↓reduceIte,zvs,reduceCtorEq,Nat.reduceEqDiff,Nat.reduceAdd,Nat.reduceLeDiff,Nat.reduceMul,Int.reduceBNe,Int.reduceBEq,Int.reduceEq,Int.reduceNe,Int.reduceLT,Int.reduceLE,Int.reduceGT,Int.reduceGE,Int.reduceNeg,Int.reduceToNat,Nat.reduceLT,Nat.reduceSub,tab,hlen,hpl,Try.results97,jTA])|(simp (disch:=omega) only [ziw]))
    all_goals first
      | (exfalso; omega)
      | (refine xl1 (k + 1) ?_ (by show k + 1 ≤ e.ws.length; omega) (by show e.ws.length - (k + 1) < e.ws.length - k; omega); (refine yrn [(0, 0)] false ?_ ?_<;>(repeat' (first|(with_reducible first|exact ya1|exact ya2|exact ya3|refine jx rfl (by first|rfl|assumption|(simp only [znl,znT7];(first|done|fail)))|exact ya5|exact ya7|exact jy|exact jz|refine jA ?_|refine ya9 ?_ ?_ ?_|refine jC rfl (by first|rfl|assumption|(simp only [znl,znT7];(first|done|fail)))|refine MR.agg (MRL.cons ?_ ?_)|refine MR.fn ?_|refine MRL.cons ?_ ?_|exact MRL.nil|refine jE ?_ ?_|exact jF|exact jG|refine yb1 ?_ ?_|refine MB.row ?_|refine jI ?_ ?_|exact ya8|refine jJ rfl (by first|rfl|assumption|(simp only [znl,znT7];(first|done|fail)))|refine yb2 ?_|rfl)|(simp only [znl,znT7];(first|done|fail))|(simp only [↓reduceIte,zlk,Nat.reduceEqDiff,reduceCtorEq])|(with_reducible first|refine jJ ?_ ?_|refine ya5 ?_|refine ju ?_|refine jv ?_|refine jw ?_|refine jx ?_ (by first|rfl|assumption|(simp only [znl,znT7];(first|done|fail)))|refine jC ?_ (by first|rfl|assumption|(simp only [znl,znT7];(first|done|fail))))))); all_goals (first | rfl | exact hs.symm); done)
  · obtain rfl : k = e.ws.length := by omega
    rw [List.take_length]
    repeat' (first|(with_reducible first|refine yrl (by constructor) ?_|refine jk (fun M hM=>?_)|(refine hM _ ?_;clear hM M)|refine xb3 (by decide) ?_|refine yqa (by assumption) ?_ ?_|refine yqb (by assumption) ?_ ?_)|((with_reducible refine je ?_)<;>(first|rfl|assumption|(simp only [znl,znT7];(first|done|fail))))|(with_reducible refine jf (by (simp only [↓reduceIte,zlk,Nat.reduceEqDiff,reduceCtorEq]);exact rfl) ?_)|((with_reducible first|refine jg (fun hc=>?_) (fun hc=>?_)|refine jh (fun hc=>?_) (fun hc=>?_))<;>(try simp (disch:=omega) only [zhb] at hc)<;>(try (exfalso;omega))<;>(try subst hc))|(with_reducible refine ji (by omega) ?_)|(simp (config := { maxSteps := 400000 }) only [↓jt,↓reduceIte,zvs,reduceCtorEq,Nat.reduceEqDiff,Nat.reduceAdd,Nat.reduceLeDiff,Nat.reduceMul,Int.reduceBNe,Int.reduceBEq,Int.reduceEq,Int.reduceNe,Int.reduceLT,Int.reduceLE,Int.reduceGT,Int.reduceGE,Int.reduceNeg,Int.reduceToNat,Nat.reduceLT,Nat.reduceSub,tab,Try.results97,jTA])|(simp (disch:=omega) only [ziw]))
    all_goals first
      | (exfalso; omega)
      | (simp only [zrds]; done)
end Go.Proofs.Ytpdhdkpebbfnnaa.V
end
section
namespace Go.Proofs.Ytpdhdkpebbfnnaa.V
open Go Go.RowKit
def turnOk2 (n0 n : Nat) (ks : List Nat) (σ : List (Nat × Nat)) : Bool :=
  (σ.all fun x => decide (n0 ≤ x.1) && decide (x.1 < n) && (decide (n0 ≤ x.2) || !ks.contains x.2) && ks.contains x.1) && decide ((σ.map (·.2)).Nodup)
theorem rows_in : ∀ (h : List (Nat × Blk)) (k : Nat), rows h k ≠ none → k ∈ h.map (·.1)
  | [], k, hk => absurd rfl hk
  | (j, b) :: l, k, hk => by
    rw [rows_cons] at hk
    by_cases e : k = j
    · rw [e]; simp
    · rw [if_neg e] at hk
      simp only [List.map_cons,List.mem_cons]
      exact .inr (rows_in l k hk)
theorem turn_inj2 {n0 n : Nat} {h : List (Nat × Blk)} {σ : List (Nat × Nat)} (hσ : turnOk2 n0 n (h.map (·.1)) σ = true) (m m' : Nat) (h1 : known n0 σ m) (h2 : known n0 σ m') (l1 : rows h m ≠ none) (l2 : rows h m' ≠ none) (he : turn σ m = turn σ m') : m = m' := by
  simp only [turnOk2,Bool.and_eq_true,decide_eq_true_eq,List.all_eq_true,Bool.or_eq_true,Bool.not_eq_true'] at hσ
  obtain ⟨ha, hd⟩ := hσ
  have low : ∀ m, m < n0 → turn σ m = m := fun m hm => turn_low σ m fun hmem => by
    obtain ⟨x, hx, rfl⟩ := List.mem_map.1 hmem
    have := (ha x hx).1.1.1
    omega
  have inj : ∀ (l : List (Nat × Nat)), (l.map (·.2)).Nodup → ∀ x y, x ∈ l → y ∈ l → x.2 = y.2 → x = y := by
    intro l
    induction l with
    | nil => intro _ x y hx; simp at hx
    | cons z l ih =>
      intro hd x y hx hy e
      simp only [List.map_cons,List.nodup_cons] at hd
      rcases List.mem_cons.1 hx with g1 | g1
      · rcases List.mem_cons.1 hy with g2 | g2
        · rw [g1, g2]
        · exact (hd.1 (List.mem_map.2 ⟨y, g2, by rw [← e, g1]⟩)).elim
      · rcases List.mem_cons.1 hy with g2 | g2
        · exact (hd.1 (List.mem_map.2 ⟨x, g1, by rw [e, g2]⟩)).elim
        · exact ih hd.2 x y g1 g2 e
  have mem : ∀ m, m ∈ σ.map (·.1) → (m, turn σ m) ∈ σ := turn_mem σ
  have cross : ∀ m m', m < n0 → m' ∈ σ.map (·.1) → rows h m ≠ none → turn σ m = turn σ m' → False := fun m m' h1 h2 l1 he => by
    have h3 := (ha _ (mem m' h2)).1.2
    rw [← he, low m h1] at h3
    rcases h3 with h3 | h3
    · dsimp only at h3; omega
    · have := rows_in h m l1
      rw [List.contains_eq_mem] at h3
      exact absurd this (by simpa using h3)
  rcases h1 with h1 | h1
  · rcases h2 with h2 | h2
    · rw [low m h1, low m' h2] at he; exact he
    · exact (cross m m' h1 h2 l1 he).elim
  · rcases h2 with h2 | h2
    · exact (cross m' m h2 h1 l2 he.symm).elim
    · have := inj σ hd _ _ (mem m h1) (mem m' h2) he
      exact congrArg Prod.fst this
theorem Ren.mk2 {n0 n n' : Nat} {tm : Nat → VV} {H : Heap} {l : List (Nat × VV)} {h : List (Nat × Blk)} (σ : List (Nat × Nat)) (hσ : turnOk2 n0 n' (h.map (·.1)) σ = true) (hn : n0 ≤ n')
    (h1 : AllS n0 σ H false tm l) (h3 : AllB n0 σ H false h) :
    Ren n0 ⟨tm, H, n⟩ ⟨slots l, rows h, n'⟩ := by
  intro N B ρ0 w0 a w ρ h0 hS
  classical
  have hfz : false = true → n0 = 0 := fun h => by cases h
  have hinj := turn_inj2 (h := h) hσ
  have hσ' := hσ
  simp only [turnOk2,Bool.and_eq_true,decide_eq_true_eq,List.all_eq_true] at hσ'
  obtain ⟨ha, _⟩ := hσ'
  have hh := hS.heap
  have he := hS.ext
  dsimp only at hh
  let ρ' : Names := ⟨fun m => if known n0 σ m then ρ (turn σ m) else none, fun b => ρ.im b ∨ (false = true ∧ w0.heap.size ≤ b)⟩
  have hρ : ∀ m, known n0 σ m → ρ' m = ρ (turn σ m) := fun m hm => if_pos hm
  have hρ2 : ∀ m l, ρ' m = some l → known n0 σ m ∧ ρ (turn σ m) = some l := fun m l hm => by
    by_cases hk : known n0 σ m
    · exact ⟨hk, by rw [← hρ m hk]; exact hm⟩
    · have : ρ' m = none := if_neg hk
      rw [this] at hm
      cases hm
  have hU : ∀ b, Unnamed ρ b → Unnamed ρ' b := fun b hb => ⟨.inl hb.1, fun m l hm => hb.2 _ l (hρ2 m l hm).2⟩
  have low : ∀ m, m < n0 → turn σ m = m := fun m hm => turn_low σ m fun hmem => by
    obtain ⟨x, hx, rfl⟩ := List.mem_map.1 hmem
    have := (ha x hx).1.1.1
    omega
  have live : ∀ m, m ∈ σ.map (·.1) → H (turn σ m) ≠ none := fun m hm => by
    have h5 := (ha _ (turn_mem σ m hm)).2
    dsimp only at h5
    obtain ⟨b, hb⟩ := rows_mem h m (by simpa using h5)
    obtain ⟨b0, h6, _⟩ := AllB.at h h3 m b hb (.inr hm)
    rw [h6]; simp
  have hT : Turned n0 σ H false ρ ρ' w := by
    refine ⟨hρ, hU, fun hf m s v l' hm hk hl => ?_⟩
    have hz := hfz hf
    have hlt := hh.lt m l' hl
    refine ⟨⟨.inr ⟨hf, ?_⟩, fun m2 l2 hm2 e => ?_⟩, hlt.2, hh.row m s v l' hm hl⟩
    · rcases he.fresh m l' hl with g | g | ⟨m0, l0, g, _⟩
      · rw [h0 m (by omega)] at g; cases g
      · exact g
      · rw [h0 m0 (by omega)] at g; cases g
    · obtain ⟨k1, k2⟩ := hρ2 m2 l2 hm2
      rcases k1 with k1 | k1
      · omega
      · have := hh.apart _ m l2 l' k2 hl (live m2 k1) (by rw [hm]; simp) e
        exact hk (by rw [← this]; exact List.mem_map.2 ⟨_, turn_mem σ m2 k1, rfl⟩)
  refine ⟨ρ', ⟨fun t => ?_, hS.defers, hS.size, ?_, hS.below, ?_⟩⟩
  · dsimp only
    rcases AllS.at l h1 t with e | e
    · rw [e]; simp [VR, VR1]
    · have := hS.tm t
      dsimp only at this
      exact MR.value hT e this
  · dsimp only
    refine ⟨hh.base, fun m hm => ?_, fun m l hm => hh.lt _ l (hρ2 m l hm).2, fun m m' l1 l2 g1 g2 e1 e2 hb => ?_, fun m s v l' hm hl => ?_, fun m es l' hm hl => ?_⟩
    · have hm : n' ≤ m := hm
      refine if_neg fun hk => ?_
      rcases hk with hk | hk
      · omega
      · have := (ha _ (turn_mem σ m hk)).1.1.2
        dsimp only at this
        omega
    · obtain ⟨k1, k2⟩ := hρ2 m l1 g1
      obtain ⟨k3, k4⟩ := hρ2 m' l2 g2
      have lv : ∀ m, known n0 σ m → rows h m ≠ none → H (turn σ m) ≠ none := fun m hk hm => by
        cases hr : rows h m with
        | none => exact absurd hr hm
        | some b => obtain ⟨b0, h6, _⟩ := AllB.at h h3 m b hr hk; rw [h6]; simp
      exact hinj m m' k1 k3 e1 e2 (hh.apart _ _ l1 l2 k2 k4 (lv m k1 e1) (lv m' k3 e2) hb)
    · obtain ⟨k1, k2⟩ := hρ2 m l' hl
      obtain ⟨b0, hb, hm⟩ := AllB.at h h3 m _ hm k1
      cases hm with
      | row hm =>
        rename_i u
        have hrow := hh.row _ s u l' hb k2
        obtain ⟨cs, c1, c2, c3⟩ := hrow.cells
        exact ⟨hrow.sh, hm.has s hrow.has, ⟨cs, MR.cells hT hm cs c1, c2, c3⟩, hrow.room⟩
    · obtain ⟨k1, k2⟩ := hρ2 m l' hl
      obtain ⟨b0, hb, hm⟩ := AllB.at h h3 m _ hm k1
      cases hm with
      | map hv =>
        have hmap := hh.map _ _ l' hb k2
        obtain ⟨xs, clock, c1, c2⟩ := hmap.obj
        refine ⟨⟨xs, clock, c1, ?_⟩, hmap.born⟩
        have key : ∀ (es : List (VV × VV)) (xs : List MapEntry), (∀ x ∈ es, nl x.1 = true ∧ nl x.2 = true) → ME ρ w es xs → ME ρ' w es xs := by
          intro es
          induction es with
          | nil => intro xs _ h; exact h
          | cons x es ih =>
            intro xs hq h
            obtain ⟨y, ys, g1, g2, g3, g4, g5⟩ := h
            obtain ⟨q1, q2⟩ := hq x (by simp)
            exact ⟨y, ys, g1, g2, MR.value1 hT (.data _ q1) g3, MR.value1 hT (.data _ q2) g4, ih ys (fun z hz => hq z (by simp [hz])) g5⟩
        exact key es _ hv c2
  · refine ⟨fun m l hm => ?_, he.size, fun b hb hu => he.block b hb hu, fun m l hm => ?_, fun b hb => .inl (he.im b hb), fun b hb => ?_⟩
    · have hlt : m < n0 := by
        rcases Nat.lt_or_ge m n0 with h | h
        · exact h
        · rw [h0 m h] at hm; cases hm
      rw [hρ m (.inl hlt), low m hlt]
      exact he.names m l hm
    · obtain ⟨k1, k2⟩ := hρ2 m l hm
      rcases he.fresh _ l k2 with g | g | g
      · exact .inr (.inr ⟨_, l, g, rfl⟩)
      · exact .inr (.inl g)
      · exact .inr (.inr g)
    · rcases hb with hb | hb
      · exact he.imb b hb
      · exact .inr hb.2

theorem yrn2 {n0 n n' : Nat} {tm : Nat → VV} {H : Heap} {l : List (Nat × VV)} {h : List (Nat × Blk)} (σ : List (Nat × Nat)) (h1 : AllS n0 σ H false tm l) (h3 : AllB n0 σ H false h) (hσ : turnOk2 n0 n' (h.map (·.1)) σ = true := by first | decide | rfl | (simp [turnOk2]; done)) (hn : n0 ≤ n' := by decide) :
    Ren n0 ⟨tm, H, n⟩ ⟨slots l, rows h, n'⟩ := Ren.mk2 σ hσ hn h1 h3
end Go.Proofs.Ytpdhdkpebbfnnaa.V
end
section
namespace Go.Proofs.Ytpdhdkpebbfnnaa.V
open Go
set_option maxRecDepth 100000
set_option maxHeartbeats 8000000
structure Lay where
  at_ : Int
  d : List UInt8
  w : Bool
deriving DecidableEq
abbrev laySh : Sh := .st [.cell, .cell, .cell]
def encLay (p : Lay) : VV := .agg [.int .i64 p.at_, .str p.d, .bool p.w]
abbrev encLays (l : List Lay) : VV := .dat laySh (l.map encLay)
theorem nl_lay (p : Lay) : nl (encLay p) = true := rfl
theorem nls_lay (l : List Lay) : nls (l.map encLay) = true := nls_map _ nl_lay l
theorem hasLay (p : Lay) : Has laySh (encLay p) := by simp [encLay, Has, HasL, VV.leaf]
instance : Inhabited Lay := ⟨⟨0, [], false⟩⟩
def pgB (b : List UInt8) (i : Nat) : List UInt8 := (List.range 128).map fun j => b.getD (128 * i + j) 0
theorem pgB_len (b : List UInt8) (i : Nat) : (pgB b i).length = 128 := by simp [pgB]
theorem pgB_at (b : List UInt8) (i j : Nat) (h : j < (pgB b i).length) : (pgB b i)[j] = b.getD (128 * i + j) 0 := by simp [pgB]
theorem pg_cut (b : List UInt8) (i : Nat) : (b.drop (128 * i)).take 128 ++ List.replicate (128 - ((b.drop (128 * i)).take 128).length) 0 = pgB b i := by
  apply List.ext_getElem
  · rw [pgB_len]; simp; omega
  · intro j h1 h2
    rw [pgB_at, List.getElem_append, List.getD_eq_getElem?_getD]
    simp only [List.length_take,List.length_drop]
    split
    · rename_i h
      rw [List.getElem_take, List.getElem_drop, List.getElem?_eq_getElem (by omega)]
      rfl
    · rename_i h
      rw [pgB_len] at h2
      rw [List.getElem_replicate, List.getElem?_eq_none (by omega)]
      rfl
theorem pg_pad (b : List UInt8) (i k : Nat) (h : 128 * i + 128 ≤ b.length + k) : ((b ++ List.replicate k 0).drop (128 * i)).take 128 = pgB b i := by
  apply List.ext_getElem
  · rw [pgB_len]; simp; omega
  · intro j h1 h2
    rw [pgB_len] at h2
    rw [pgB_at, List.getElem_take, List.getElem_drop, List.getElem_append, List.getD_eq_getElem?_getD]
    split
    · rename_i h
      rw [List.getElem?_eq_getElem h]; rfl
    · rename_i h
      rw [List.getElem_replicate, List.getElem?_eq_none (by omega)]
      rfl
theorem pgB_zeros (b : List UInt8) (k i : Nat) : pgB (b ++ List.replicate k 0) i = pgB b i := by
  unfold pgB
  refine List.map_congr_left fun j _ => ?_
  rw [List.getD_eq_getElem?_getD, List.getD_eq_getElem?_getD, List.getElem?_append]
  split
  · rfl
  · rename_i h
    rw [List.getElem?_eq_none (l := b) (by omega), List.getElem?_replicate]
    split <;> rfl
def layN (at_ n : Nat) (b : List UInt8) (w : Bool) : List Lay := (List.range n).map fun i : Nat => ⟨at_ + i, pgB b i, w⟩
theorem layN_len (at_ n : Nat) (b : List UInt8) (w : Bool) : (layN at_ n b w).length = n := by simp [layN]
theorem layN_snoc (at_ n : Nat) (b : List UInt8) (w : Bool) : layN at_ (n + 1) b w = layN at_ n b w ++ [⟨at_ + n, pgB b n, w⟩] := by simp [layN, List.range_succ]
def pagesN (n : Nat) : Nat := (n + 127) / 128
theorem pagesI_nat (n : Nat) : pagesI n = pagesN n := by unfold pagesI pagesN; omega
def lastL : Lay := ⟨15, List.replicate 128 0, true⟩
def layTo (e : Exe) : List Lay := layN 0 (pagesN (4 * e.ws.length)) (wordsB e.ws) false ++ layN (pagesN (4 * e.ws.length)) (pagesN (e.data.length + e.z.toNat)) e.data true
def layE (e : Exe) : List Lay := layTo e ++ [lastL]
theorem layTo_len (e : Exe) (h : okE e) : (layTo e).length ≤ 14 := by
  obtain ⟨h1, h2, h3, h4, h5, h6, h7, h8⟩ := h
  rw [layTo, List.length_append, layN_len, layN_len]
  unfold pagesI at h8
  unfold pagesN
  omega
theorem layTo_at (e : Exe) (k : Nat) (h : k < (layTo e).length) : ((layTo e)[k]).at_ = k := by
  simp only [layTo,List.getElem_append]
  split
  · simp [layN]
  · rename_i h1
    rw [layN_len] at h1
    simp [layN]
    omega
def layVV (e : Exe) : VV := if okE e then .tup [encLays (layE e), .int .i64 0] else .tup [encLays [], .int .i64 1]
theorem rlay_spec (e : Exe) (he : ExeR e) : Spec Try.prog 43 [encExe e] (layVV e) := by
  have hK := rcheckE_spec e he
  unfold layVV
  by_cases hok : okE e
  · rw [if_pos hok] at hK ⊢
    have hlT := layTo_len e hok
    have hlE : layE e = layTo e ++ [lastL] := rfl
    have hlD : layTo e = layN 0 (pagesN (4 * e.ws.length)) (wordsB e.ws) false ++ layN (pagesN (4 * e.ws.length)) (pagesN (e.data.length + e.z.toNat)) e.data true := rfl
    have hT := rtext_spec e he
    obtain ⟨h1, h2, h3, h4, h5, h6, h7, h8⟩ := hok
    have hwl := wordsB_len e.ws
    have hZ := rzeros_spec e.z.toNat (by omega)
    rw [Int.toNat_of_nonneg h3] at hZ
    have hZ2 : Spec Try.prog 98 [.int .i64 128] (.str (List.replicate 128 0)) := rzeros_spec 128 (by decide)
    refine spec_ok Try.func43 rfl rfl (by kernel_rfl) (k := 1) rfl (by decide) ?_
    repeat' (first|(with_reducible first|refine yrl (by constructor) ?_|refine jk (fun M hM=>?_)|(refine hM _ ?_;clear hM M)|refine xb3 (by decide) ?_|refine yqa (by assumption) ?_ ?_|refine yqb (by assumption) ?_ ?_)|((with_reducible refine je ?_)<;>(first|rfl|assumption|(simp only [znl,jO,jP,jQ,jR,jS,jT,jU,nls_lay,nl_lay];(first|done|fail))))|(with_reducible refine jf (by (simp only [↓reduceIte,zlk,Nat.reduceEqDiff,reduceCtorEq]);exact rfl) ?_)|((with_reducible first|refine jg (fun hc=>?_) (fun hc=>?_)|refine jh (fun hc=>?_) (fun hc=>?_))<;>(try simp (disch:=omega) only [zhb] at hc)<;>(try (exfalso;omega))<;>(try subst hc))|(with_reducible refine ji (by omega) ?_)|(simp (config := { maxSteps := 400000 }) only [↓jt,↓reduceIte,zvs,reduceCtorEq,Nat.reduceEqDiff,Nat.reduceAdd,Nat.reduceLeDiff,Nat.reduceMul,Int.reduceBNe,Int.reduceBEq,Int.reduceEq,Int.reduceNe,Int.reduceLT,Int.reduceLE,Int.reduceGT,Int.reduceGE,Int.reduceNeg,Int.reduceToNat,Nat.reduceLT,Nat.reduceSub,tab,Try.results96,Try.results43,jTA])|(simp (disch:=omega) only [ziw]))
    all_goals (try (exfalso; omega))
    obtain ⟨n1, hn1⟩ : ∃ n, n = pagesN (4 * e.ws.length) := ⟨_, rfl⟩
    obtain ⟨n2, hn2⟩ : ∃ n, n = pagesN (e.data.length + e.z.toNat) := ⟨_, rfl⟩
    have hP1 : Spec Try.prog 132 [.int .i64 ((4 * e.ws.length : Nat) : Int)] (.int .i64 n1) := by
      have := rpages_spec (4 * e.ws.length) (by omega) (by omega)
      rw [hn1]
      have e1 := pagesI_nat (4 * e.ws.length)
      push_cast at e1 ⊢
      rw [e1] at this
      exact this
    have hn1' : n1 = (4 * e.ws.length + 127) / 128 := hn1
    have hn2' : n2 = (e.data.length + e.z.toNat + 127) / 128 := hn2
    have hZ1 : Spec Try.prog 98 [.int .i64 (128 * (n1 : Int) - ((4 * e.ws.length : Nat) : Int))] (.str (List.replicate (128 * n1 - 4 * e.ws.length) 0)) := by
      have := rzeros_spec (128 * n1 - 4 * e.ws.length) (by omega)
      rw [show (128 * (n1 : Int) - ((4 * e.ws.length : Nat) : Int)) = ((128 * n1 - 4 * e.ws.length : Nat) : Int) by omega]
      exact this
    refine ja (ok_body Try.func96 rfl rfl (by kernel_rfl) (k := 4) (by rfl) (by decide) ?_)
    repeat' (first|(with_reducible first|refine yrl (by constructor) ?_|refine jk (fun M hM=>?_)|(refine hM _ ?_;clear hM M)|refine xb3 (by decide) ?_|refine yqa (by assumption) ?_ ?_|refine yqb (by assumption) ?_ ?_)|((with_reducible refine je ?_)<;>(first|rfl|assumption|(simp only [znl,jO,jP,jQ,jR,jS,jT,jU,nls_lay,nl_lay];(first|done|fail))))|(with_reducible refine jf (by (simp only [↓reduceIte,zlk,Nat.reduceEqDiff,reduceCtorEq]);exact rfl) ?_)|((with_reducible first|refine jg (fun hc=>?_) (fun hc=>?_)|refine jh (fun hc=>?_) (fun hc=>?_))<;>(try simp (disch:=omega) only [zhb] at hc)<;>(try (exfalso;omega))<;>(try subst hc))|(with_reducible refine ji (by omega) ?_)|(simp (config := { maxSteps := 400000 }) only [↓jt,↓reduceIte,zvs,reduceCtorEq,Nat.reduceEqDiff,Nat.reduceAdd,Nat.reduceLeDiff,Nat.reduceMul,Int.reduceBNe,Int.reduceBEq,Int.reduceEq,Int.reduceNe,Int.reduceLT,Int.reduceLE,Int.reduceGT,Int.reduceGE,Int.reduceNeg,Int.reduceToNat,Nat.reduceLT,Nat.reduceSub,tab,hwl,Try.results96,Try.results43,jTA])|(simp (disch:=omega) only [ziw]))
    obtain ⟨tb, htb⟩ : ∃ tb, tb = wordsB e.ws ++ List.replicate (128 * n1 - 4 * e.ws.length) 0 := ⟨_, rfl⟩
    have htl : tb.length = 128 * n1 := by rw [htb, List.length_append, List.length_replicate]; omega
    have hpg : ∀ k, k < n1 → (tb.drop (128 * k)).take 128 = pgB (wordsB e.ws) k := fun k hk => by rw [htb]; exact pg_pad _ k _ (by omega)
    rw [← htb]
    refine ok_loop (fun i : Nat => ⟨slots [(0, .sl (some (2, [], 0)) i), (1, .int .i64 0), (2, .str tb), (3, .bool false), (9, .int .i64 n1), (10, .int .i64 i)], rows [(0, .row (.st [.cell, .cell, .cell, .cell]) (encExe e)), (2, .row (.arr i laySh) (.agg ((layN 0 i (wordsB e.ws) false).map encLay)))], 3⟩) (fun i => i ≤ n1) (fun i => n1 - i) 0 ?_ (Nat.zero_le _) (fun i hi => ?_)
    · (refine yrn2 [(2, 1)] ?_ ?_<;>(repeat' (first|(with_reducible first|exact ya1|exact ya2|exact ya3|refine jx rfl (by first|rfl|assumption|(simp only [znl,jO,jP,jQ,jR,jS,jT,jU,nls_lay,nl_lay];(first|done|fail)))|exact ya5|exact ya7|exact jy|exact jz|refine jA ?_|refine ya9 ?_ ?_ ?_|refine jC rfl (by first|rfl|assumption|(simp only [znl,jO,jP,jQ,jR,jS,jT,jU,nls_lay,nl_lay];(first|done|fail)))|refine MR.agg (MRL.cons ?_ ?_)|refine MR.fn ?_|refine MRL.cons ?_ ?_|exact MRL.nil|refine jE ?_ ?_|exact jF|exact jG|refine yb1 ?_ ?_|refine MB.row ?_|refine jI ?_ ?_|exact ya8|refine jJ rfl (by first|rfl|assumption|(simp only [znl,jO,jP,jQ,jR,jS,jT,jU,nls_lay,nl_lay];(first|done|fail)))|refine yb2 ?_|rfl)|(simp only [znl,jO,jP,jQ,jR,jS,jT,jU,nls_lay,nl_lay];(first|done|fail))|(simp only [↓reduceIte,zlk,Nat.reduceEqDiff,reduceCtorEq])|(with_reducible first|refine jJ ?_ ?_|refine ya5 ?_|refine ju ?_|refine jv ?_|refine jw ?_|refine jx ?_ (by first|rfl|assumption|(simp only [znl,jO,jP,jQ,jR,jS,jT,jU,nls_lay,nl_lay];(first|done|fail)))|refine jC ?_ (by first|rfl|assumption|(simp only [znl,jO,jP,jQ,jR,jS,jT,jU,nls_lay,nl_lay];(first|done|fail)))))))
      all_goals (first | rfl)
    have hln := layN_len 0 i (wordsB e.ws) false
    by_cases hlt : i < n1
    · have hp := hpg i hlt
      have hsn := layN_snoc 0 i (wordsB e.ws) false
      have hi1 : (128 * (i : Int)).toNat = 128 * i := by omega
      have hi2 : (128 * (i : Int) + 128).toNat - 128 * i = 128 := by omega
      have hw : (layN 0 i (wordsB e.ws) false).map encLay ++ [VV.agg [.int .i64 (0 + (i : Int)), .str (pgB (wordsB e.ws) i), .bool false]] = (layN 0 (i + 1) (wordsB e.ws) false).map encLay := by rw [hsn, List.map_append]; rfl
      repeat' (first|(with_reducible first|refine yrl (by constructor) ?_|refine jk (fun M hM=>?_)|(refine hM _ ?_;clear hM M)|refine xb3 (by decide) ?_|refine yqa (by assumption) ?_ ?_|refine yqb (by assumption) ?_ ?_)|((with_reducible refine je ?_)<;>(first|rfl|assumption|(simp only [znl,jO,jP,jQ,jR,jS,jT,jU,nls_lay,nl_lay];(first|done|fail))))|(with_reducible refine jf (by (simp only [↓reduceIte,zlk,Nat.reduceEqDiff,reduceCtorEq]);exact rfl) ?_)|((with_reducible first|refine jg (fun hc=>?_) (fun hc=>?_)|refine jh (fun hc=>?_) (fun hc=>?_))<;>(try simp (disch:=omega) only [zhb] at hc)<;>(try (exfalso;omega))<;>(try subst hc))|(with_reducible refine ji (by omega) ?_)|(simp (config := { maxSteps := 400000 }) only [↓jt,↓reduceIte,zvs,reduceCtorEq,Nat.reduceEqDiff,Nat.reduceAdd,Nat.reduceLeDiff,Nat.reduceMul,Int.reduceBNe,Int.reduceBEq,Int.reduceEq,Int.reduceNe,Int.reduceLT,Int.reduceLE,Int.reduceGT,Int.reduceGE,Int.reduceNeg,Int.reduceToNat,Nat.reduceLT,Nat.reduceSub,tab,htl,hln,hi1,hi2,hp,hw,Try.results96,Try.results43,jTA])|(simp (disch:=omega) only [ziw]))
      all_goals (try (exfalso; omega))
      all_goals (refine xl1 (i + 1) ?_ (by show i + 1 ≤ n1; omega) (by show n1 - (i + 1) < n1 - i; omega); (refine yrn2 [(2, 4)] ?_ ?_<;>(repeat' (first|(with_reducible first|exact ya1|exact ya2|exact ya3|refine jx rfl (by first|rfl|assumption|(simp only [znl,jO,jP,jQ,jR,jS,jT,jU,nls_lay,nl_lay];(first|done|fail)))|exact ya5|exact ya7|exact jy|exact jz|refine jA ?_|refine ya9 ?_ ?_ ?_|refine jC rfl (by first|rfl|assumption|(simp only [znl,jO,jP,jQ,jR,jS,jT,jU,nls_lay,nl_lay];(first|done|fail)))|refine MR.agg (MRL.cons ?_ ?_)|refine MR.fn ?_|refine MRL.cons ?_ ?_|exact MRL.nil|refine jE ?_ ?_|exact jF|exact jG|refine yb1 ?_ ?_|refine MB.row ?_|refine jI ?_ ?_|exact ya8|refine jJ rfl (by first|rfl|assumption|(simp only [znl,jO,jP,jQ,jR,jS,jT,jU,nls_lay,nl_lay];(first|done|fail)))|refine yb2 ?_|rfl)|(simp only [znl,jO,jP,jQ,jR,jS,jT,jU,nls_lay,nl_lay];(first|done|fail))|(simp only [↓reduceIte,zlk,Nat.reduceEqDiff,reduceCtorEq])|(with_reducible first|refine jJ ?_ ?_|refine ya5 ?_|refine ju ?_|refine jv ?_|refine jw ?_|refine jx ?_ (by first|rfl|assumption|(simp only [znl,jO,jP,jQ,jR,jS,jT,jU,nls_lay,nl_lay];(first|done|fail)))|refine jC ?_ (by first|rfl|assumption|(simp only [znl,jO,jP,jQ,jR,jS,jT,jU,nls_lay,nl_lay];(first|done|fail))))))); all_goals (first | rfl | (simp only [hi1,hi2,hp,hw]; done)))
    · obtain rfl : i = n1 := by omega
      clear hP1 hZ1 hpg htb
      repeat' (first|(with_reducible first|refine yrl (by constructor) ?_|refine jk (fun M hM=>?_)|(refine hM _ ?_;clear hM M)|refine xb3 (by decide) ?_|refine yqa (by assumption) ?_ ?_|refine yqb (by assumption) ?_ ?_)|((with_reducible refine je ?_)<;>(first|rfl|assumption|(simp only [znl,jO,jP,jQ,jR,jS,jT,jU,nls_lay,nl_lay];(first|done|fail))))|(with_reducible refine jf (by (simp only [↓reduceIte,zlk,Nat.reduceEqDiff,reduceCtorEq]);exact rfl) ?_)|((with_reducible first|refine jg (fun hc=>?_) (fun hc=>?_)|refine jh (fun hc=>?_) (fun hc=>?_))<;>(try simp (disch:=omega) only [zhb] at hc)<;>(try (exfalso;omega))<;>(try subst hc))|(with_reducible refine ji (by omega) ?_)|(simp (config := { maxSteps := 400000 }) only [↓jt,↓reduceIte,zvs,reduceCtorEq,Nat.reduceEqDiff,Nat.reduceAdd,Nat.reduceLeDiff,Nat.reduceMul,Int.reduceBNe,Int.reduceBEq,Int.reduceEq,Int.reduceNe,Int.reduceLT,Int.reduceLE,Int.reduceGT,Int.reduceGE,Int.reduceNeg,Int.reduceToNat,Nat.reduceLT,Nat.reduceSub,tab,htl,hln,Try.results96,Try.results43,jTA])|(simp (disch:=omega) only [ziw]))
      all_goals (try (exfalso; omega))
      obtain ⟨b2, hb2⟩ : ∃ b, e.data ++ List.replicate e.z.toNat 0 = b := ⟨_, rfl⟩
      obtain ⟨m2, hm2⟩ : ∃ k, k = e.data.length + e.z.toNat := ⟨_, rfl⟩
      have hb2l : b2.length = m2 := by rw [← hb2, List.length_append, List.length_replicate, hm2]
      have hP2 : Spec Try.prog 132 [.int .i64 m2] (.int .i64 n2) := by
        have := rpages_spec m2 (by omega) (by omega)
        rw [hn2, ← hm2, ← pagesI_nat]
        exact this
      have hZ3 : Spec Try.prog 98 [.int .i64 (128 * (n2 : Int) - (m2 : Int))] (.str (List.replicate (128 * n2 - m2) 0)) := by
        have := rzeros_spec (128 * n2 - m2) (by omega)
        rw [show (128 * (n2 : Int) - (m2 : Int)) = ((128 * n2 - m2 : Nat) : Int) by omega]
        exact this
      refine ok_drawC 9 (by kernel_rfl) (by decide +kernel) (by intro m hm; simp only [upd_ap,rows_cons,rows_nil]; (repeat (first | rfl | rw [if_neg (by omega)]))) (fun M hM => ?_); simp only [List.take_succ_cons,List.take_zero,List.drop_succ_cons,List.drop_zero]
      repeat' (first|(with_reducible first|refine yrl (by constructor) ?_|refine jk (fun M hM=>?_)|(refine hM _ ?_;clear hM M)|refine xb3 (by decide) ?_|refine yqa (by assumption) ?_ ?_|refine yqb (by assumption) ?_ ?_)|((with_reducible refine je ?_)<;>(first|rfl|assumption|(simp only [znl,jO,jP,jQ,jR,jS,jT,jU,nls_lay,nl_lay];(first|done|fail))))|(with_reducible refine jf (by (simp only [↓reduceIte,zlk,Nat.reduceEqDiff,reduceCtorEq]);exact rfl) ?_)|((with_reducible first|refine jg (fun hc=>?_) (fun hc=>?_)|refine jh (fun hc=>?_) (fun hc=>?_))<;>(try simp (disch:=omega) only [zhb] at hc)<;>(try (exfalso;omega))<;>(try subst hc))|(with_reducible refine ji (by omega) ?_)|(simp (config := { maxSteps := 400000 }) only [↓jt,↓reduceIte,zvs,reduceCtorEq,Nat.reduceEqDiff,Nat.reduceAdd,Nat.reduceLeDiff,Nat.reduceMul,Int.reduceBNe,Int.reduceBEq,Int.reduceEq,Int.reduceNe,Int.reduceLT,Int.reduceLE,Int.reduceGT,Int.reduceGE,Int.reduceNeg,Int.reduceToNat,Nat.reduceLT,Nat.reduceSub,tab,hb2,hb2l,hln,Try.results96,Try.results43,jTA])|(simp (disch:=omega) only [ziw]))
      all_goals (try (exfalso; omega))
      refine ja (ok_body Try.func96 rfl rfl (by kernel_rfl) (k := 4) (by rfl) (by decide) ?_)
      repeat' (first|(with_reducible first|refine yrl (by constructor) ?_|refine jk (fun M hM=>?_)|(refine hM _ ?_;clear hM M)|refine xb3 (by decide) ?_|refine yqa (by assumption) ?_ ?_|refine yqb (by assumption) ?_ ?_)|((with_reducible refine je ?_)<;>(first|rfl|assumption|(simp only [znl,jO,jP,jQ,jR,jS,jT,jU,nls_lay,nl_lay];(first|done|fail))))|(with_reducible refine jf (by (simp only [↓reduceIte,zlk,Nat.reduceEqDiff,reduceCtorEq]);exact rfl) ?_)|((with_reducible first|refine jg (fun hc=>?_) (fun hc=>?_)|refine jh (fun hc=>?_) (fun hc=>?_))<;>(try simp (disch:=omega) only [zhb] at hc)<;>(try (exfalso;omega))<;>(try subst hc))|(with_reducible refine ji (by omega) ?_)|(simp (config := { maxSteps := 400000 }) only [↓jt,↓reduceIte,zvs,reduceCtorEq,Nat.reduceEqDiff,Nat.reduceAdd,Nat.reduceLeDiff,Nat.reduceMul,Int.reduceBNe,Int.reduceBEq,Int.reduceEq,Int.reduceNe,Int.reduceLT,Int.reduceLE,Int.reduceGT,Int.reduceGE,Int.reduceNeg,Int.reduceToNat,Nat.reduceLT,Nat.reduceSub,tab,hb2,hb2l,hln,Try.results96,Try.results43,jTA])|(simp (disch:=omega) only [ziw]))
      all_goals (try (exfalso; omega))
      obtain ⟨tc, htc⟩ : ∃ tc, tc = b2 ++ List.replicate (128 * n2 - m2) 0 := ⟨_, rfl⟩
      have htcl : tc.length = 128 * n2 := by rw [htc, List.length_append, List.length_replicate]; omega
      have hpc : ∀ k, k < n2 → (tc.drop (128 * k)).take 128 = pgB e.data k := fun k hk => by
        rw [htc, pg_pad _ k _ (by omega), ← hb2, pgB_zeros]
      rw [← htc]
      refine ok_loop (fun j : Nat => ⟨slots [(0, .sl (some (579, [], 0)) (i + j)), (1, .int .i64 i), (2, .str tc), (3, .bool true), (9, .int .i64 n2), (10, .int .i64 j)], rows [(0, .row (.st [.cell, .cell, .cell, .cell]) (encExe e)), (579, .row (.arr (i + j) laySh) (.agg ((layN 0 i (wordsB e.ws) false ++ layN i j e.data true).map encLay)))], 580⟩) (fun j => j ≤ n2) (fun j => n2 - j) 0 ?_ (Nat.zero_le _) (fun j hj => ?_)
      · (refine yrn2 [(579, 2)] ?_ ?_<;>(repeat' (first|(with_reducible first|exact ya1|exact ya2|exact ya3|refine jx rfl (by first|rfl|assumption|(simp only [znl,jO,jP,jQ,jR,jS,jT,jU,nls_lay,nl_lay];(first|done|fail)))|exact ya5|exact ya7|exact jy|exact jz|refine jA ?_|refine ya9 ?_ ?_ ?_|refine jC rfl (by first|rfl|assumption|(simp only [znl,jO,jP,jQ,jR,jS,jT,jU,nls_lay,nl_lay];(first|done|fail)))|refine MR.agg (MRL.cons ?_ ?_)|refine MR.fn ?_|refine MRL.cons ?_ ?_|exact MRL.nil|refine jE ?_ ?_|exact jF|exact jG|refine yb1 ?_ ?_|refine MB.row ?_|refine jI ?_ ?_|exact ya8|refine jJ rfl (by first|rfl|assumption|(simp only [znl,jO,jP,jQ,jR,jS,jT,jU,nls_lay,nl_lay];(first|done|fail)))|refine yb2 ?_|rfl)|(simp only [znl,jO,jP,jQ,jR,jS,jT,jU,nls_lay,nl_lay];(first|done|fail))|(simp only [↓reduceIte,zlk,Nat.reduceEqDiff,reduceCtorEq])|(with_reducible first|refine jJ ?_ ?_|refine ya5 ?_|refine ju ?_|refine jv ?_|refine jw ?_|refine jx ?_ (by first|rfl|assumption|(simp only [znl,jO,jP,jQ,jR,jS,jT,jU,nls_lay,nl_lay];(first|done|fail)))|refine jC ?_ (by first|rfl|assumption|(simp only [znl,jO,jP,jQ,jR,jS,jT,jU,nls_lay,nl_lay];(first|done|fail)))))))
        all_goals (first | rfl | (simp [layN]; done))
      have hlm : (layN 0 i (wordsB e.ws) false ++ layN i j e.data true).length = i + j := by rw [List.length_append, layN_len, layN_len]
      by_cases hlt : j < n2
      · have hp := hpc j hlt
        have hsn := layN_snoc i j e.data true
        have hi1 : (128 * (j : Int)).toNat = 128 * j := by omega
        have hi2 : (128 * (j : Int) + 128).toNat - 128 * j = 128 := by omega
        have hw : (layN 0 i (wordsB e.ws) false ++ layN i j e.data true).map encLay ++ [VV.agg [.int .i64 ((i : Int) + (j : Int)), .str (pgB e.data j), .bool true]] = (layN 0 i (wordsB e.ws) false ++ layN i (j + 1) e.data true).map encLay := by
          rw [hsn, ← List.append_assoc, List.map_append (l₂ := [_])]; rfl
        generalize layN 0 i (wordsB e.ws) false ++ layN i j e.data true = L at hlm hw ⊢
        repeat' (first|(with_reducible first|refine yrl (by constructor) ?_|refine jk (fun M hM=>?_)|(refine hM _ ?_;clear hM M)|refine xb3 (by decide) ?_|refine yqa (by assumption) ?_ ?_|refine yqb (by assumption) ?_ ?_)|((with_reducible refine je ?_)<;>(first|rfl|assumption|(simp only [znl,jO,jP,jQ,jR,jS,jT,jU,nls_lay,nl_lay];(first|done|fail))))|(with_reducible refine jf (by (simp only [↓reduceIte,zlk,Nat.reduceEqDiff,reduceCtorEq]);exact rfl) ?_)|((with_reducible first|refine jg (fun hc=>?_) (fun hc=>?_)|refine jh (fun hc=>?_) (fun hc=>?_))<;>(try simp (disch:=omega) only [zhb] at hc)<;>(try (exfalso;omega))<;>(try subst hc))|(with_reducible refine ji (by omega) ?_)|(simp (config := { maxSteps := 400000 }) only [↓jt,↓reduceIte,zvs,reduceCtorEq,Nat.reduceEqDiff,Nat.reduceAdd,Nat.reduceLeDiff,Nat.reduceMul,Int.reduceBNe,Int.reduceBEq,Int.reduceEq,Int.reduceNe,Int.reduceLT,Int.reduceLE,Int.reduceGT,Int.reduceGE,Int.reduceNeg,Int.reduceToNat,Nat.reduceLT,Nat.reduceSub,tab,htcl,hlm,hi1,hi2,hp,hw,Try.results96,Try.results43,jTA])|(simp (disch:=omega) only [ziw]))
        all_goals (try (exfalso; omega))
        all_goals (refine xl1 (j + 1) ?_ (by show j + 1 ≤ n2; omega) (by show n2 - (j + 1) < n2 - j; omega); (refine yrn2 [(579, 581)] ?_ ?_<;>(repeat' (first|(with_reducible first|exact ya1|exact ya2|exact ya3|refine jx rfl (by first|rfl|assumption|(simp only [znl,jO,jP,jQ,jR,jS,jT,jU,nls_lay,nl_lay];(first|done|fail)))|exact ya5|exact ya7|exact jy|exact jz|refine jA ?_|refine ya9 ?_ ?_ ?_|refine jC rfl (by first|rfl|assumption|(simp only [znl,jO,jP,jQ,jR,jS,jT,jU,nls_lay,nl_lay];(first|done|fail)))|refine MR.agg (MRL.cons ?_ ?_)|refine MR.fn ?_|refine MRL.cons ?_ ?_|exact MRL.nil|refine jE ?_ ?_|exact jF|exact jG|refine yb1 ?_ ?_|refine MB.row ?_|refine jI ?_ ?_|exact ya8|refine jJ rfl (by first|rfl|assumption|(simp only [znl,jO,jP,jQ,jR,jS,jT,jU,nls_lay,nl_lay];(first|done|fail)))|refine yb2 ?_|rfl)|(simp only [znl,jO,jP,jQ,jR,jS,jT,jU,nls_lay,nl_lay];(first|done|fail))|(simp only [↓reduceIte,zlk,Nat.reduceEqDiff,reduceCtorEq])|(with_reducible first|refine jJ ?_ ?_|refine ya5 ?_|refine ju ?_|refine jv ?_|refine jw ?_|refine jx ?_ (by first|rfl|assumption|(simp only [znl,jO,jP,jQ,jR,jS,jT,jU,nls_lay,nl_lay];(first|done|fail)))|refine jC ?_ (by first|rfl|assumption|(simp only [znl,jO,jP,jQ,jR,jS,jT,jU,nls_lay,nl_lay];(first|done|fail))))))); all_goals (first | rfl | (simp only [hi1,hi2,hp,hw]; done) | (simp only [Nat.add_assoc]; done)))
      · obtain rfl : j = n2 := by omega
        have hlay : layN 0 i (wordsB e.ws) false ++ layN i j e.data true = layTo e := by rw [hlD, ← hn1, ← hn2]
        rw [hlay] at hlm ⊢
        have hw : (layTo e).map encLay ++ [VV.agg [.int .i64 15, .str (List.replicate 128 0), .bool true]] = (layE e).map encLay := by rw [hlE, List.map_append]; rfl
        have hlE2 : (layE e).length = i + j + 1 := by rw [hlE, List.length_append, List.length_singleton, hlm]
        have hnl := nls_lay (layE e)
        clear hlE hlD hlay
        repeat' (first|(with_reducible first|refine yrl (by constructor) ?_|refine jk (fun M hM=>?_)|(refine hM _ ?_;clear hM M)|refine xb3 (by decide) ?_|refine yqa (by assumption) ?_ ?_|refine yqb (by assumption) ?_ ?_)|((with_reducible refine je ?_)<;>(first|rfl|assumption|(simp only [znl,jO,jP,jQ,jR,jS,jT,jU,nls_lay,nl_lay];(first|done|fail))))|(with_reducible refine jf (by (simp only [↓reduceIte,zlk,Nat.reduceEqDiff,reduceCtorEq]);exact rfl) ?_)|((with_reducible first|refine jg (fun hc=>?_) (fun hc=>?_)|refine jh (fun hc=>?_) (fun hc=>?_))<;>(try simp (disch:=omega) only [zhb] at hc)<;>(try (exfalso;omega))<;>(try subst hc))|(with_reducible refine ji (by omega) ?_)|(simp (config := { maxSteps := 400000 }) only [↓jt,↓reduceIte,zvs,reduceCtorEq,Nat.reduceEqDiff,Nat.reduceAdd,Nat.reduceLeDiff,Nat.reduceMul,Int.reduceBNe,Int.reduceBEq,Int.reduceEq,Int.reduceNe,Int.reduceLT,Int.reduceLE,Int.reduceGT,Int.reduceGE,Int.reduceNeg,Int.reduceToNat,Nat.reduceLT,Nat.reduceSub,tab,htcl,hlm,hw,Try.results96,Try.results43,jTA])|(simp (disch:=omega) only [ziw]))
        all_goals (try (exfalso; omega))
        all_goals first
          | (((try simp only [List.map_nil]); simp only [zrds]; (repeat' (first | exact rd_nil | exact Rd.refl _ _ (by first|rfl|assumption|(simp only [znl,jO,jP,jQ,jR,jS,jT,jU,nls_lay,nl_lay];(first|done|fail))) | (refine And.intro ?_ ?_) | (refine rd_own (by (simp only [↓reduceIte,zlk,Nat.reduceEqDiff,reduceCtorEq]); exact rfl) ?_ ?_ ?_) | rfl | assumption | (simp only [znl,jO,jP,jQ,jR,jS,jT,jU,nls_lay,nl_lay];(first|done|fail)) | (simp; done) | (simp; omega)))); done)
  · rw [if_neg hok] at hK ⊢
    refine spec_ok Try.func43 rfl rfl (by kernel_rfl) (k := 1) rfl (by decide) ?_
    repeat' (first|(with_reducible first|refine yrl (by constructor) ?_|refine jk (fun M hM=>?_)|(refine hM _ ?_;clear hM M)|refine xb3 (by decide) ?_|refine yqa (by assumption) ?_ ?_|refine yqb (by assumption) ?_ ?_)|((with_reducible refine je ?_)<;>(first|rfl|assumption|(simp only [znl,jO,jP,jQ,jR,jS,jT,jU,nls_lay,nl_lay];(first|done|fail))))|(with_reducible refine jf (by (simp only [↓reduceIte,zlk,Nat.reduceEqDiff,reduceCtorEq]);exact rfl) ?_)|((with_reducible first|refine jg (fun hc=>?_) (fun hc=>?_)|refine jh (fun hc=>?_) (fun hc=>?_))<;>(try simp (disch:=omega) only [zhb] at hc)<;>(try (exfalso;omega))<;>(try subst hc))|(with_reducible refine ji (by omega) ?_)|(simp (config := { maxSteps := 400000 }) only [↓jt,↓reduceIte,zvs,reduceCtorEq,Nat.reduceEqDiff,Nat.reduceAdd,Nat.reduceLeDiff,Nat.reduceMul,Int.reduceBNe,Int.reduceBEq,Int.reduceEq,Int.reduceNe,Int.reduceLT,Int.reduceLE,Int.reduceGT,Int.reduceGE,Int.reduceNeg,Int.reduceToNat,Nat.reduceLT,Nat.reduceSub,tab,Try.results43,jTA])|(simp (disch:=omega) only [ziw]))
    all_goals first
      | (exfalso; omega)
      | (((try simp only [List.map_nil]); simp only [zrds]; (repeat' (first | exact rd_nil | exact Rd.refl _ _ (by first|rfl|assumption|(simp only [znl,jO,jP,jQ,jR,jS,jT,jU,nls_lay,nl_lay];(first|done|fail))) | (refine And.intro ?_ ?_) | (refine rd_own (by (simp only [↓reduceIte,zlk,Nat.reduceEqDiff,reduceCtorEq]); exact rfl) ?_ ?_ ?_) | rfl | assumption | (simp only [znl,jO,jP,jQ,jR,jS,jT,jU,nls_lay,nl_lay];(first|done|fail)) | (simp; done) | (simp; omega)))); done)
end Go.Proofs.Ytpdhdkpebbfnnaa.V
end
section
namespace Go.Proofs.Ytpdhdkpebbfnnaa
open Go Go.RowKit Go.Proofs
theorem sizeBuilder : (Try.prog.info? 136).map (·.size) = some 2 := by kernel_rfl
theorem liesBuilder : liesAt Try.prog Try.prog.depth 136 (2 / Try.prog.cellsOf 136) 0 136 1 = true := by kernel_rfl
theorem infoByte : (Try.prog.info? 5).map (fun i => (i.zero, i.size, i.bytes)) = some (some (.int .u8 0), 1, 1) := by kernel_rfl
set_option maxHeartbeats 1000000 in
set_option maxRecDepth 100000 in
theorem copyCheck_used (b : Nat) (w : World) (h0 : w.cell? ⟨b, 0, none⟩ = some (.pointer (some ⟨b, 0, none⟩))) :
    Calls Try.prog 118 #[.pointer (some ⟨b, 0, none⟩)] w fun e w' => e = .returned (.tuple #[]) ∧ w' = w := by
  obtain ⟨j, hj, _⟩ := Option.map_eq_some_iff.1 sizeBuilder
  go_enter Try.func118, Try.ntmps118
  go_wp2
  rw [Lib.run_neq_ptr_same w _ Try.underlying134 hj]
  go_wp2
  go_end0
  exact ⟨rfl, rfl⟩
set_option maxHeartbeats 1000000 in
set_option maxRecDepth 100000 in
theorem copyCheck_fresh (b : Nat) (w : World) (h0 : w.cell? ⟨b, 0, none⟩ = some (.pointer none)) (hsh : w.shape? b = some (136, 2)) (hfz : w.frozen? ⟨b, 0, none⟩ = false) :
    Calls Try.prog 118 #[.pointer (some ⟨b, 0, none⟩)] w fun e w' => e = .returned (.tuple #[]) ∧ w' = w.setCell ⟨b, 0, none⟩ (.pointer (some ⟨b, 0, none⟩)) := by
  obtain ⟨j, hj, hjs⟩ := Option.map_eq_some_iff.1 sizeBuilder
  go_enter Try.func118, Try.ntmps118
  go_wp2
  rw [Lib.run_to_unsafe w ⟨b, 0, none⟩ Try.underlying134 Try.underlying184 hj (by rw [hjs]; decide) hsh (Nat.zero_lt_succ 1)]
  simp only [Result.andThen]
  rw [Oper.upon_value]
  go_wp2
  rw [run_callFunc_extern Try.func144 (by kernel_rfl) (by kernel_rfl) (by kernel_rfl) (e := Extern.AbiNoEscape.same) (by kernel_rfl)]
  rw [Lib.run_noEscape]
  simp only [Result.andThen]
  rw [Oper.upon_value]
  go_wp2
  rw [Lib.run_from_unsafe w ⟨b, 0, none⟩ Try.underlying184 Try.underlying134 hj hsh liesBuilder]
  simp only [Result.andThen]
  rw [Oper.upon_value]
  go_wp2
  go_end0
  exact ⟨rfl, rfl⟩
theorem copyCheck_k (B b : Nat) (bs : List Value) (w : World) (h : Lib.IsBuilderF 136 5 B b bs w) :
    Calls Try.prog 118 #[.pointer (some ⟨b, 0, none⟩)] w fun e w' => e = .returned (.tuple #[]) ∧ (Lib.BuilderAtF 136 5 B b (.pointer (some ⟨b, 0, none⟩)) bs w' ∧ Below B w w' ∧ Lib.OthersKept 5 (some b) w w') := by
  rcases h with h | h
  · refine (copyCheck_fresh b w h.cell0 h.shape h.frozen0).mono ?_
    rintro e w' ⟨rfl, rfl⟩
    exact ⟨rfl, h.used _, (Below.refl B w).setCell (p := ⟨b, 0, none⟩) h.1 _, (Lib.OthersKept.refl _ _ w).setCell ⟨b, 0, none⟩ rfl _⟩
  · refine (copyCheck_used b w h.cell0).mono ?_
    rintro e w' ⟨rfl, rfl⟩
    exact ⟨rfl, h, Below.refl B _, Lib.OthersKept.refl _ _ _⟩
set_option maxHeartbeats 2000000 in
set_option maxRecDepth 100000 in
theorem writeString_k (B b : Nat) (bs : List Value) (s : ByteArray) (w : World) (h : Lib.IsBuilderF 136 5 B b bs w) (hlen : bs.length + s.size ≤ 140737488355328) (hBw : B ≤ w.heap.size) :
    Calls Try.prog 82 #[.pointer (some ⟨b, 0, none⟩), .string s] w fun e w' => e = .returned (.tuple #[.int .i64 s.size, .nilIface]) ∧ (Lib.BuilderAtF 136 5 B b (.pointer (some ⟨b, 0, none⟩)) (bs ++ Lib.strCells s) w' ∧ Below B w w' ∧ Lib.OthersKept 5 (some b) w w') := by
  obtain ⟨i0, hi, hz0, hz1, hz2⟩ := info_parts infoByte
  go_enter Try.func82, Try.ntmps82
  go_wp2_with (go_at_call 118; refine (copyCheck_k B b bs _ h).mono ?_)
  rintro e w1 ⟨rfl, h1, hb1, hk1⟩
  obtain ⟨hB, v, hbk, hown, hne⟩ := h1
  have c0 : w1.cell? ⟨b, 0, none⟩ = some (.pointer (some ⟨b, 0, none⟩)) := by rw [Lib.cell_of_heap hbk]; rfl
  have c1 : w1.cell? ⟨b, 1, none⟩ = some v := by rw [Lib.cell_of_heap hbk]; rfl
  go_wp2_with (at_builtin; refine Lib.wpList_append_own_stringF _ rfl _ _ 116 9 rfl B 5 i0 Try.underlying116 Try.underlying9 hi hz0 hz1 hz2 _ _ _ rfl hown s rfl ?c3 ?c4 ?c5 ?_)
  case c3 => unfold maxLen; omega
  case c4 => omega
  case c5 => have := hb1.size; omega
  intro v' w2 hown' hgrow _
  have hlt : b < w1.heap.size := by
    rcases Nat.lt_or_ge b w1.heap.size with h' | h'
    · exact h'
    · simp [Array.getElem?_eq_none h'] at hbk
  have hb2 : w2.heap[b]? = some (.cells #[.pointer (some ⟨b, 0, none⟩), v] 136 (0, 0)) := by
    rw [hgrow.block b hlt (fun e => hne e.symm)]
    exact hbk
  have d0 : w2.cell? ⟨b, 0, none⟩ = some (.pointer (some ⟨b, 0, none⟩)) := by rw [Lib.cell_of_heap hb2]; rfl
  have d1 : w2.cell? ⟨b, 1, none⟩ = some v := by rw [Lib.cell_of_heap hb2]; rfl
  have f1 : w2.frozen? ⟨b, 1, none⟩ = false := Lib.frozen_of_heap hb2 1
  obtain ⟨ao, n', cap, rfl⟩ : ∃ ao n' cap, v' = .slice ao n' cap := by
    rcases hown'.2 with ⟨hv, _⟩ | ⟨g, cap, cur, fz, hv, _⟩
    · exact ⟨_, _, _, hv⟩
    · exact ⟨_, _, _, hv⟩
  go_wp2
  go_ret2
  refine ⟨rfl, ?_, ?_, (hk1.grown hgrow (Lib.ownsRowF_kind hown)).setCell ⟨b, 1, none⟩ rfl _⟩
  · exact Lib.BuilderAtF.put (T := 136) (e := 5) hB hb2 (bs' := bs ++ Lib.strCells s) (by simpa [Lib.strCells_length] using hown') (by decide)
  · exact (hb1.grown hgrow (by have := hb1.size; omega) (fun k hk => (hown.lt k hk).1)).setCell (p := ⟨b, 1, none⟩) hB _
end Go.Proofs.Ytpdhdkpebbfnnaa
end
