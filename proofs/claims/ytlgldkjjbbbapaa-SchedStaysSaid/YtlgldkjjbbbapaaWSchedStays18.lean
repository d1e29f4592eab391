/-
  Parts of the proof of SchedStays: NY.
  Conditions: none.
-/
import Derived.Test.YtlgldkjjbbbapaaWSchedStays14
import Derived.Test.YtlgldkjjbbbapaaWSchedStays16
import Derived.Test.YtlgldkjjbbbapaaWSchedStays17
import Derived.Test.YtlgldkjjbbbapaaWSchedStays13
section
/-
  MACHINES, part 30: the law SchedStays.
-/
set_option linter.unusedVariables false
set_option linter.unusedSimpArgs false
namespace Go.Proofs.Ytlgldkjjbbbapaa.V
open Go
set_option maxRecDepth 100000
-- nlx: jR, jS, jT, jU, jV, jW, jX
set_option maxHeartbeats 4000000
def fQ (c : Int) (p : Pr) : Bool := decide (p.pid = c) && decide (p.st = 1)
def curQ (m : Mach) (p : Pr) : Bool := decide (p.pid = m.cur) && decide (p.st = 1)
theorem turnN_mem {R : List Int} (hs : R.Pairwise (· < ·)) (hn : 0 < R.length) (c : Int) : turnN R c ∈ R := by
  obtain ⟨a, h1, h2, _, _⟩ := find_at R hs c
  rw [turnN_first hn h1 h2]
  have := turnK_mem (R := R) a 0 hn
  unfold turnK at this
  rwa [Nat.add_zero] at this
theorem nextM_nil {m : Mach} (hO : PidOk m) (h : readyL m.pr = []) : nextM m = 0 := by
  rw [nextM_turn m hO.inc hO.pos hO.cur, h]; rfl
theorem ready_at {m : Mach} (hO : PidOk m) {x : Int} (hx : x ∈ readyL m.pr) : ∃ k, k < m.pr.length ∧ (m.pr.getD k default).pid = x ∧ (m.pr.getD k default).st = 1 := by
  obtain ⟨q, hq, rfl⟩ := List.mem_map.1 hx
  obtain ⟨hq1, hq2⟩ := List.mem_filter.1 hq
  obtain ⟨j, hj, rfl⟩ := List.mem_iff_getElem.1 hq1
  refine ⟨j, hj, ?_⟩
  rw [List.getD_eq_getElem?_getD, List.getElem?_eq_getElem hj]
  exact ⟨rfl, by simpa using hq2⟩
theorem any_at {m : Mach} (h : m.pr.any (curQ m) = true) : ∃ k, k < m.pr.length ∧ (m.pr.getD k default).pid = m.cur ∧ (m.pr.getD k default).st = 1 := by
  rw [List.any_eq_true] at h
  obtain ⟨p, hp, h3⟩ := h
  obtain ⟨j, hj, rfl⟩ := List.mem_iff_getElem.1 hp
  refine ⟨j, hj, ?_⟩
  rw [List.getD_eq_getElem?_getD, List.getElem?_eq_getElem hj]
  simpa [curQ] using h3
theorem pick_parts {m : Mach} (hm : MFit 20000 m) (hO : PidOk m) (hc : chkM m = 0) : ∃ c l, pickM m = withM m c l ∧ i64R c ∧ i64R l ∧ chkM (withM m c l) = 0 ∧ ((m.pr.any (curQ m) = true ∧ 0 < m.left) ∨ (readyL m.pr).length = 0 → c = m.cur ∧ l = m.left) ∧ (0 < (readyL m.pr).length → ∃ k, k < m.pr.length ∧ (m.pr.getD k default).pid = c ∧ (m.pr.getD k default).st = 1) := by
  have hchk : ∀ c l, 0 ≤ c → 0 ≤ l → l ≤ m.quantum → chkM (withM m c l) = 0 := fun c l h1 h2 h3 => by
    have hn : numB (withM m c l) = false := by
      have h0 := (chk_parts hc).1
      unfold numB at h0 ⊢
      have h0 := of_decide_eq_false h0
      refine decide_eq_false ?_
      show ¬(m.quantum < 1 ∨ 1000 < m.quantum ∨ l < 0 ∨ m.quantum < l ∨ c < 0 ∨ m.next < 1 ∨ 1000000000 < m.next ∨ m.newp < 1 ∨ 1000000000 < m.newp)
      omega
    have h0 := (chk_parts hc).1
    have hc2 := hc
    unfold chkM at hc2 ⊢
    rw [hn]
    rw [h0] at hc2
    exact hc2
  have hnum := (chk_parts hc).1
  unfold numB at hnum
  have hnum := of_decide_eq_false hnum
  by_cases hK : (m.pr.any fun p => decide (p.pid = m.cur) && decide (p.st = 1)) = true ∧ 0 < m.left
  · refine ⟨m.cur, m.left, ?_, hm.cur, hm.left, hc, fun _ => ⟨rfl, rfl⟩, fun _ => any_at hK.1⟩
    unfold pickM
    rw [if_pos hK]; rfl
  · by_cases hN : 0 < nextM m
    · have hR : 0 < (readyL m.pr).length := by
        refine Decidable.byContradiction fun h => ?_
        rw [nextM_nil hO (List.eq_nil_of_length_eq_zero (by omega))] at hN
        omega
      have hmem : nextM m ∈ readyL m.pr := by
        rw [nextM_turn m hO.inc hO.pos hO.cur]
        exact turnN_mem (ready_sorted hO.inc) hR _
      obtain ⟨k, hk, e1, e2⟩ := ready_at hO hmem
      refine ⟨nextM m, m.quantum, ?_, ?_, hm.quantum, hchk _ _ (by omega) (by omega) (by omega), fun h => ?_, fun _ => ⟨k, hk, e1, e2⟩⟩
      · unfold pickM
        rw [if_neg hK, if_pos hN]; rfl
      · rw [← e1]; exact (hm.prR _ (getD_mem' hk)).pid
      · rcases h with h | h
        · exact absurd h hK
        · omega
    · refine ⟨m.cur, m.left, ?_, hm.cur, hm.left, hc, fun _ => ⟨rfl, rfl⟩, fun hR => ?_⟩
      · unfold pickM
        rw [if_neg hK, if_neg hN]; rfl
      · exfalso
        have hmem : nextM m ∈ readyL m.pr := by
          rw [nextM_turn m hO.inc hO.pos hO.cur]
          exact turnN_mem (ready_sorted hO.inc) hR _
        have := ready_pos hO.pos _ hmem
        omega
theorem any_snoc {α : Type} [Inhabited α] (l : List α) (q : α → Bool) (k : Nat) (hk : k < l.length) : (l.take (k + 1)).any q = ((l.take k).any q || q (l.getD k default)) := by
  rw [take_snoc l k hk, List.any_append]; simp
theorem stays_law (x0 : MachD) (g0 : good machT x0) (l0 : Ty.lite machT x0) : Spec Try.prog 7 [toV machT x0] (.bool true) := by
  have hm := mach_good x0 g0 l0
  rw [toV_mach]
  generalize mMach x0 = m at hm
  clear g0 l0 x0
  have hG := great27_spec m hm
  have hF := fixed27_spec
  cases hs : sadB m with
  | true =>
    rw [hs] at hG
    refine spec_ok Try.func7 rfl rfl (by kernel_rfl) (k := 1) rfl (by decide) ?_
    repeat' (first | (with_reducible first | refine ju ?_ | refine xs1 ?_ | refine xs2 ?_ | refine xs3 ?_ | refine xb1 ?_ | refine xb2 ?_ | refine xb3 (by decide) ?_ | refine xb4 ?_ | refine xl2 ?_ | refine xl3 ?_ | refine xc2 ?_ | refine xc3 ?_ | refine jn ?_ | refine jo ?_ | refine jp ?_ | refine jq ?_ | refine jr ?_ | refine jt ?_ | refine jk (fun M hM => ?_) | refine vif_t ?_ | refine vif_f ?_ | refine jl ?_ | refine jm ?_ | (refine hM _ ?_; clear hM M) | refine ja (jc (by assumption) ?_ rfl ?_) | refine jb (jd (by assumption) rfl ?_) ?_) | ((with_reducible refine je ?_) <;> (first | rfl | assumption | (simp only [znl,jR,jS,jT,jU,jV,jW,jX]; (first | done | fail)))) | (with_reducible refine jf (by (simp only [↓reduceIte,zlk,Nat.reduceEqDiff,reduceCtorEq]); exact rfl) ?_) | ((with_reducible first | refine jg (fun hc => ?_) (fun hc => ?_) | refine jh (fun hc => ?_) (fun hc => ?_)) <;> (try simp (disch := omega) only [zhb] at hc) <;> (try (exfalso; omega)) <;> (try subst hc)) | (with_reducible refine ji (by omega) ?_) | (simp (config := { maxSteps := 400000 }) only [↓jv,↓reduceIte,zvs,reduceCtorEq,Nat.reduceEqDiff,Nat.reduceAdd,Nat.reduceLeDiff,Nat.reduceMul,Int.reduceBNe,Int.reduceBEq,Int.reduceEq,Int.reduceNe,Int.reduceLT,Int.reduceLE,Int.reduceGT,Int.reduceGE,Int.reduceNeg,Int.reduceToNat,Nat.reduceLT,Nat.reduceSub,tab,Try.results7,List.toList_toArray]) | (simp (disch := omega) only [ziw]))
    all_goals first
      | (exfalso; omega)
      | (simp only [zrds]; done)
      | (simp only [zrds]; rfl)
      | trace_state
  | false =>
    rw [hs] at hG
    unfold sadB at hs
    simp only [Bool.or_eq_false_iff,decide_eq_false_iff_not,ne_eq,Decidable.not_not] at hs
    have hfit := (hm.small hs.1).1
    have hO := chk_pids hs.2
    have hl8 := (chk_parts hs.2).2.2.2.1
    have hpR := hfit.prR
    obtain ⟨hq1, hq2⟩ := hfit.left
    obtain ⟨hq3, hq4⟩ := hfit.cur
    obtain ⟨c, l, hw, hci, hli, hchk, hcl, hfnd⟩ := pick_parts hfit hO hs.2
    have hP : Spec Try.prog 18 [encM m] (encX m c l) := by
      have := pick_spec m hfit hO
      rw [hw] at this
      exact this
    have hCk : Spec Try.prog 24 [encX m c l] (.int .i64 0) := scheck_ok _ (withM_fit hfit hci hli) hchk
    have hSm := same27_spec m hfit
    clear hm hs hw hchk
    obtain ⟨R, hR⟩ : ∃ R, R = (readyL m.pr).length := ⟨_, rfl⟩
    rw [← hR] at hcl hfnd
    have hRl : R ≤ 8 := by
      rw [hR]; unfold readyL
      rw [List.length_map]
      exact Nat.le_trans (List.length_filter_le _ _) hl8
    refine spec_ok Try.func7 rfl rfl (by kernel_rfl) (k := 1) rfl (by decide) ?_
    repeat' (first | (with_reducible first | refine ju ?_ | refine xs1 ?_ | refine xs2 ?_ | refine xs3 ?_ | refine xb1 ?_ | refine xb2 ?_ | refine xb3 (by decide) ?_ | refine xb4 ?_ | refine xl2 ?_ | refine xl3 ?_ | refine xc2 ?_ | refine xc3 ?_ | refine jn ?_ | refine jo ?_ | refine jp ?_ | refine jq ?_ | refine jr ?_ | refine jt ?_ | refine jk (fun M hM => ?_) | refine vif_t ?_ | refine vif_f ?_ | refine jl ?_ | refine jm ?_ | (refine hM _ ?_; clear hM M) | refine ja (jc (by assumption) ?_ rfl ?_) | refine jb (jd (by assumption) rfl ?_) ?_) | ((with_reducible refine je ?_) <;> (first | rfl | assumption | (simp only [znl,jR,jS,jT,jU,jV,jW,jX]; (first | done | fail)))) | (with_reducible refine jf (by (simp only [↓reduceIte,zlk,Nat.reduceEqDiff,reduceCtorEq]); exact rfl) ?_) | ((with_reducible first | refine jg (fun hc => ?_) (fun hc => ?_) | refine jh (fun hc => ?_) (fun hc => ?_)) <;> (try simp (disch := omega) only [zhb] at hc) <;> (try (exfalso; omega)) <;> (try subst hc)) | (with_reducible refine ji (by omega) ?_) | (simp (config := { maxSteps := 400000 }) only [↓jv,↓reduceIte,zvs,reduceCtorEq,Nat.reduceEqDiff,Nat.reduceAdd,Nat.reduceLeDiff,Nat.reduceMul,Int.reduceBNe,Int.reduceBEq,Int.reduceEq,Int.reduceNe,Int.reduceLT,Int.reduceLE,Int.reduceGT,Int.reduceGE,Int.reduceNeg,Int.reduceToNat,Nat.reduceLT,Nat.reduceSub,tab,Try.results7,List.toList_toArray]) | (simp (disch := omega) only [ziw]))
    refine ok_loop (fun k : Nat => ⟨slots [(1, .ptr 0 []), (3, .ptr 1 []), (4, .int .i64 (readyL (m.pr.take k)).length), (5, .bool ((m.pr.take k).any (curQ m))), (17, encPrs m.pr), (18, .int .i64 m.pr.length), (19, .int .i64 k)], rows [(0, .row machSh (encM m)), (1, .row machSh (encX m c l))], 2⟩) (fun k => k ≤ m.pr.length) (fun k => m.pr.length - k) 0 ?_ (Nat.zero_le _) (fun k hk => ?_)
    · (refine Ren.mk [(0, 0), (1, 1)] false (by first | (intro h; cases h; done) | exact fun _ => rfl) (by first | decide | rfl | (simp [jQ]; done)) (by decide) ?_ ?_ <;> (repeat' (first | (with_reducible first | refine jw (by first | rfl | omega) | refine jx rfl | refine jy rfl | refine jz rfl (by first | rfl | assumption | (simp only [znl,jR,jS,jT,jU,jV,jW,jX]; (first | done | fail))) | refine jF ?_ ?_ (by first | rfl | omega) | refine MR.ptr ?_ ?_ | refine jA | refine jB | refine jC ?_ | refine jD rfl (by (simp only [↓reduceIte,zlk,Nat.reduceEqDiff,reduceCtorEq]); exact rfl) ?_ ?_ ?_ (by decide) | refine jE rfl (by first | rfl | assumption | (simp only [znl,jR,jS,jT,jU,jV,jW,jX]; (first | done | fail))) | refine MR.agg (MRL.cons ?_ ?_) | refine jE ?_ (by first | rfl | assumption | (simp only [znl,jR,jS,jT,jU,jV,jW,jX]; (first | done | fail))) | refine MR.fn ?_ | refine MRL.cons ?_ ?_ | refine MRL.nil | refine jG ?_ ?_ | refine jH | refine jI | refine jJ ?_ (by (simp only [↓reduceIte,zlk,Nat.reduceEqDiff,reduceCtorEq]); exact rfl) ?_ ?_ | refine MB.row ?_ | refine jK ?_ ?_ | refine MR.map ?_ ?_ | refine jL rfl (by first | rfl | assumption | (simp only [znl,jR,jS,jT,jU,jV,jW,jX]; (first | done | fail))) | rfl) | (simp only [znl,jR,jS,jT,jU,jV,jW,jX]; (first | done | fail)) | (refine jM rfl ?_) | exact jN rfl | exact jO rfl | ((with_reducible refine jP ?_) <;> rfl) | (simp only [↓reduceIte,zlk,Nat.reduceEqDiff,reduceCtorEq]) | (with_reducible first | refine jL ?_ ?_ | refine jF ?_ ?_ ?_ | refine jw ?_ | refine jx ?_ | refine jy ?_ | refine jz ?_ (by first | rfl | assumption | (simp only [znl,jR,jS,jT,jU,jV,jW,jX]; (first | done | fail))) | refine jE ?_ ?_))))
      all_goals (first | rfl | trace_state)
    by_cases hlt : k < m.pr.length
    · have hb := hpR _ (getD_mem' hlt)
      obtain ⟨hS1, hS2, hS3⟩ := pr3 hb
      have e1 := ready_len m.pr k hlt
      have e2 : (readyL (m.pr.take k)).length ≤ k := by
        unfold readyL
        rw [List.length_map]
        refine Nat.le_trans (List.length_filter_le _ _) ?_
        rw [List.length_take]; omega
      have e3 := any_snoc m.pr (curQ m) k hlt
      have e4 : curQ m (m.pr.getD k default) = (decide ((m.pr.getD k default).pid = m.cur) && decide ((m.pr.getD k default).st = 1)) := rfl
      by_cases hq : (m.pr.getD k default).st = 1
      · rw [if_pos hq] at e1
        rw [decide_eq_true hq, Bool.and_true] at e4
        rw [e4] at e3
        generalize ef : (m.pr.take k).any (curQ m) = b at e3 ⊢
        by_cases hpc : (m.pr.getD k default).pid = m.cur
        · rw [decide_eq_true hpc, Bool.or_true] at e3
          have hpb : ((m.pr.getD k default).pid == m.cur) = true := by rw [hpc]; exact beq_self_eq_true _
          cases b
          all_goals
            repeat' (first | (with_reducible first | refine ju ?_ | refine xs1 ?_ | refine xs2 ?_ | refine xs3 ?_ | refine xb1 ?_ | refine xb2 ?_ | refine xb3 (by decide) ?_ | refine xb4 ?_ | refine xl2 ?_ | refine xl3 ?_ | refine xc2 ?_ | refine xc3 ?_ | refine jn ?_ | refine jo ?_ | refine jp ?_ | refine jq ?_ | refine jr ?_ | refine jt ?_ | refine jk (fun M hM => ?_) | refine vif_t ?_ | refine vif_f ?_ | refine jl ?_ | refine jm ?_ | (refine hM _ ?_; clear hM M) | refine ja (jc (by assumption) ?_ rfl ?_) | refine jb (jd (by assumption) rfl ?_) ?_) | ((with_reducible refine je ?_) <;> (first | rfl | assumption | (simp only [znl,jR,jS,jT,jU,jV,jW,jX]; (first | done | fail)))) | (with_reducible refine jf (by (simp only [↓reduceIte,zlk,Nat.reduceEqDiff,reduceCtorEq]); exact rfl) ?_) | ((with_reducible first | refine jg (fun hc => ?_) (fun hc => ?_) | refine jh (fun hc => ?_) (fun hc => ?_)) <;> (try simp (disch := omega) only [zhb] at hc) <;> (try (exfalso; omega)) <;> (try subst hc)) | (with_reducible refine ji (by omega) ?_) | (simp (config := { maxSteps := 400000 }) only [↓jv,↓reduceIte,zvs,reduceCtorEq,Nat.reduceEqDiff,Nat.reduceAdd,Nat.reduceLeDiff,Nat.reduceMul,Int.reduceBNe,Int.reduceBEq,Int.reduceEq,Int.reduceNe,Int.reduceLT,Int.reduceLE,Int.reduceGT,Int.reduceGE,Int.reduceNeg,Int.reduceToNat,Nat.reduceLT,Nat.reduceSub,tab,hS1,hS2,hS3,encPr,hpb,Try.results7,List.toList_toArray]) | (simp (disch := omega) only [ziw]))
            all_goals first
              | (exfalso; omega)
              | (refine xl1 (k + 1) ?_ (by show k + 1 ≤ m.pr.length; omega) (by show m.pr.length - (k + 1) < m.pr.length - k; omega); (refine Ren.mk [(0, 0), (1, 1)] false (by first | (intro h; cases h; done) | exact fun _ => rfl) (by first | decide | rfl | (simp [jQ]; done)) (by decide) ?_ ?_ <;> (repeat' (first | (with_reducible first | refine jw (by first | rfl | omega) | refine jx rfl | refine jy rfl | refine jz rfl (by first | rfl | assumption | (simp only [znl,jR,jS,jT,jU,jV,jW,jX]; (first | done | fail))) | refine jF ?_ ?_ (by first | rfl | omega) | refine MR.ptr ?_ ?_ | refine jA | refine jB | refine jC ?_ | refine jD rfl (by (simp only [↓reduceIte,zlk,Nat.reduceEqDiff,reduceCtorEq]); exact rfl) ?_ ?_ ?_ (by decide) | refine jE rfl (by first | rfl | assumption | (simp only [znl,jR,jS,jT,jU,jV,jW,jX]; (first | done | fail))) | refine MR.agg (MRL.cons ?_ ?_) | refine jE ?_ (by first | rfl | assumption | (simp only [znl,jR,jS,jT,jU,jV,jW,jX]; (first | done | fail))) | refine MR.fn ?_ | refine MRL.cons ?_ ?_ | refine MRL.nil | refine jG ?_ ?_ | refine jH | refine jI | refine jJ ?_ (by (simp only [↓reduceIte,zlk,Nat.reduceEqDiff,reduceCtorEq]); exact rfl) ?_ ?_ | refine MB.row ?_ | refine jK ?_ ?_ | refine MR.map ?_ ?_ | refine jL rfl (by first | rfl | assumption | (simp only [znl,jR,jS,jT,jU,jV,jW,jX]; (first | done | fail))) | rfl) | (simp only [znl,jR,jS,jT,jU,jV,jW,jX]; (first | done | fail)) | (refine jM rfl ?_) | exact jN rfl | exact jO rfl | ((with_reducible refine jP ?_) <;> rfl) | (simp only [↓reduceIte,zlk,Nat.reduceEqDiff,reduceCtorEq]) | (with_reducible first | refine jL ?_ ?_ | refine jF ?_ ?_ ?_ | refine jw ?_ | refine jx ?_ | refine jy ?_ | refine jz ?_ (by first | rfl | assumption | (simp only [znl,jR,jS,jT,jU,jV,jW,jX]; (first | done | fail))) | refine jE ?_ ?_)))); all_goals (first | omega | exact e3 | exact e3.symm))
              | trace_state
        · rw [decide_eq_false hpc, Bool.or_false] at e3
          have hpb : ((m.pr.getD k default).pid == m.cur) = false := beq_eq_false_iff_ne.2 hpc
          cases b
          all_goals
            repeat' (first | (with_reducible first | refine ju ?_ | refine xs1 ?_ | refine xs2 ?_ | refine xs3 ?_ | refine xb1 ?_ | refine xb2 ?_ | refine xb3 (by decide) ?_ | refine xb4 ?_ | refine xl2 ?_ | refine xl3 ?_ | refine xc2 ?_ | refine xc3 ?_ | refine jn ?_ | refine jo ?_ | refine jp ?_ | refine jq ?_ | refine jr ?_ | refine jt ?_ | refine jk (fun M hM => ?_) | refine vif_t ?_ | refine vif_f ?_ | refine jl ?_ | refine jm ?_ | (refine hM _ ?_; clear hM M) | refine ja (jc (by assumption) ?_ rfl ?_) | refine jb (jd (by assumption) rfl ?_) ?_) | ((with_reducible refine je ?_) <;> (first | rfl | assumption | (simp only [znl,jR,jS,jT,jU,jV,jW,jX]; (first | done | fail)))) | (with_reducible refine jf (by (simp only [↓reduceIte,zlk,Nat.reduceEqDiff,reduceCtorEq]); exact rfl) ?_) | ((with_reducible first | refine jg (fun hc => ?_) (fun hc => ?_) | refine jh (fun hc => ?_) (fun hc => ?_)) <;> (try simp (disch := omega) only [zhb] at hc) <;> (try (exfalso; omega)) <;> (try subst hc)) | (with_reducible refine ji (by omega) ?_) | (simp (config := { maxSteps := 400000 }) only [↓jv,↓reduceIte,zvs,reduceCtorEq,Nat.reduceEqDiff,Nat.reduceAdd,Nat.reduceLeDiff,Nat.reduceMul,Int.reduceBNe,Int.reduceBEq,Int.reduceEq,Int.reduceNe,Int.reduceLT,Int.reduceLE,Int.reduceGT,Int.reduceGE,Int.reduceNeg,Int.reduceToNat,Nat.reduceLT,Nat.reduceSub,tab,hS1,hS2,hS3,encPr,hpb,Try.results7,List.toList_toArray]) | (simp (disch := omega) only [ziw]))
            all_goals first
              | (exfalso; omega)
              | (refine xl1 (k + 1) ?_ (by show k + 1 ≤ m.pr.length; omega) (by show m.pr.length - (k + 1) < m.pr.length - k; omega); (refine Ren.mk [(0, 0), (1, 1)] false (by first | (intro h; cases h; done) | exact fun _ => rfl) (by first | decide | rfl | (simp [jQ]; done)) (by decide) ?_ ?_ <;> (repeat' (first | (with_reducible first | refine jw (by first | rfl | omega) | refine jx rfl | refine jy rfl | refine jz rfl (by first | rfl | assumption | (simp only [znl,jR,jS,jT,jU,jV,jW,jX]; (first | done | fail))) | refine jF ?_ ?_ (by first | rfl | omega) | refine MR.ptr ?_ ?_ | refine jA | refine jB | refine jC ?_ | refine jD rfl (by (simp only [↓reduceIte,zlk,Nat.reduceEqDiff,reduceCtorEq]); exact rfl) ?_ ?_ ?_ (by decide) | refine jE rfl (by first | rfl | assumption | (simp only [znl,jR,jS,jT,jU,jV,jW,jX]; (first | done | fail))) | refine MR.agg (MRL.cons ?_ ?_) | refine jE ?_ (by first | rfl | assumption | (simp only [znl,jR,jS,jT,jU,jV,jW,jX]; (first | done | fail))) | refine MR.fn ?_ | refine MRL.cons ?_ ?_ | refine MRL.nil | refine jG ?_ ?_ | refine jH | refine jI | refine jJ ?_ (by (simp only [↓reduceIte,zlk,Nat.reduceEqDiff,reduceCtorEq]); exact rfl) ?_ ?_ | refine MB.row ?_ | refine jK ?_ ?_ | refine MR.map ?_ ?_ | refine jL rfl (by first | rfl | assumption | (simp only [znl,jR,jS,jT,jU,jV,jW,jX]; (first | done | fail))) | rfl) | (simp only [znl,jR,jS,jT,jU,jV,jW,jX]; (first | done | fail)) | (refine jM rfl ?_) | exact jN rfl | exact jO rfl | ((with_reducible refine jP ?_) <;> rfl) | (simp only [↓reduceIte,zlk,Nat.reduceEqDiff,reduceCtorEq]) | (with_reducible first | refine jL ?_ ?_ | refine jF ?_ ?_ ?_ | refine jw ?_ | refine jx ?_ | refine jy ?_ | refine jz ?_ (by first | rfl | assumption | (simp only [znl,jR,jS,jT,jU,jV,jW,jX]; (first | done | fail))) | refine jE ?_ ?_)))); all_goals (first | omega | exact e3 | exact e3.symm))
              | trace_state
      · rw [if_neg hq] at e1
        rw [decide_eq_false hq, Bool.and_false] at e4
        rw [e4, Bool.or_false] at e3
        repeat' (first | (with_reducible first | refine ju ?_ | refine xs1 ?_ | refine xs2 ?_ | refine xs3 ?_ | refine xb1 ?_ | refine xb2 ?_ | refine xb3 (by decide) ?_ | refine xb4 ?_ | refine xl2 ?_ | refine xl3 ?_ | refine xc2 ?_ | refine xc3 ?_ | refine jn ?_ | refine jo ?_ | refine jp ?_ | refine jq ?_ | refine jr ?_ | refine jt ?_ | refine jk (fun M hM => ?_) | refine vif_t ?_ | refine vif_f ?_ | refine jl ?_ | refine jm ?_ | (refine hM _ ?_; clear hM M) | refine ja (jc (by assumption) ?_ rfl ?_) | refine jb (jd (by assumption) rfl ?_) ?_) | ((with_reducible refine je ?_) <;> (first | rfl | assumption | (simp only [znl,jR,jS,jT,jU,jV,jW,jX]; (first | done | fail)))) | (with_reducible refine jf (by (simp only [↓reduceIte,zlk,Nat.reduceEqDiff,reduceCtorEq]); exact rfl) ?_) | ((with_reducible first | refine jg (fun hc => ?_) (fun hc => ?_) | refine jh (fun hc => ?_) (fun hc => ?_)) <;> (try simp (disch := omega) only [zhb] at hc) <;> (try (exfalso; omega)) <;> (try subst hc)) | (with_reducible refine ji (by omega) ?_) | (simp (config := { maxSteps := 400000 }) only [↓jv,↓reduceIte,zvs,reduceCtorEq,Nat.reduceEqDiff,Nat.reduceAdd,Nat.reduceLeDiff,Nat.reduceMul,Int.reduceBNe,Int.reduceBEq,Int.reduceEq,Int.reduceNe,Int.reduceLT,Int.reduceLE,Int.reduceGT,Int.reduceGE,Int.reduceNeg,Int.reduceToNat,Nat.reduceLT,Nat.reduceSub,tab,hS1,hS2,hS3,encPr,Try.results7,List.toList_toArray]) | (simp (disch := omega) only [ziw]))
        all_goals first
          | (exfalso; omega)
          | (refine xl1 (k + 1) ?_ (by show k + 1 ≤ m.pr.length; omega) (by show m.pr.length - (k + 1) < m.pr.length - k; omega); (refine Ren.mk [(0, 0), (1, 1)] false (by first | (intro h; cases h; done) | exact fun _ => rfl) (by first | decide | rfl | (simp [jQ]; done)) (by decide) ?_ ?_ <;> (repeat' (first | (with_reducible first | refine jw (by first | rfl | omega) | refine jx rfl | refine jy rfl | refine jz rfl (by first | rfl | assumption | (simp only [znl,jR,jS,jT,jU,jV,jW,jX]; (first | done | fail))) | refine jF ?_ ?_ (by first | rfl | omega) | refine MR.ptr ?_ ?_ | refine jA | refine jB | refine jC ?_ | refine jD rfl (by (simp only [↓reduceIte,zlk,Nat.reduceEqDiff,reduceCtorEq]); exact rfl) ?_ ?_ ?_ (by decide) | refine jE rfl (by first | rfl | assumption | (simp only [znl,jR,jS,jT,jU,jV,jW,jX]; (first | done | fail))) | refine MR.agg (MRL.cons ?_ ?_) | refine jE ?_ (by first | rfl | assumption | (simp only [znl,jR,jS,jT,jU,jV,jW,jX]; (first | done | fail))) | refine MR.fn ?_ | refine MRL.cons ?_ ?_ | refine MRL.nil | refine jG ?_ ?_ | refine jH | refine jI | refine jJ ?_ (by (simp only [↓reduceIte,zlk,Nat.reduceEqDiff,reduceCtorEq]); exact rfl) ?_ ?_ | refine MB.row ?_ | refine jK ?_ ?_ | refine MR.map ?_ ?_ | refine jL rfl (by first | rfl | assumption | (simp only [znl,jR,jS,jT,jU,jV,jW,jX]; (first | done | fail))) | rfl) | (simp only [znl,jR,jS,jT,jU,jV,jW,jX]; (first | done | fail)) | (refine jM rfl ?_) | exact jN rfl | exact jO rfl | ((with_reducible refine jP ?_) <;> rfl) | (simp only [↓reduceIte,zlk,Nat.reduceEqDiff,reduceCtorEq]) | (with_reducible first | refine jL ?_ ?_ | refine jF ?_ ?_ ?_ | refine jw ?_ | refine jx ?_ | refine jy ?_ | refine jz ?_ (by first | rfl | assumption | (simp only [znl,jR,jS,jT,jU,jV,jW,jX]; (first | done | fail))) | refine jE ?_ ?_)))); all_goals (first | omega | (rw [e3]; done)))
          | trace_state
    · obtain rfl : k = m.pr.length := by omega
      have et : m.pr.take m.pr.length = m.pr := List.take_length
      rw [et, ← hR]
      have hSx : (m.pr.any (curQ m) = true ∧ 0 < m.left) ∨ R = 0 → Spec Try.prog 17 [encX m c l, encM m] (.bool true) := fun h => by
        obtain ⟨rfl, rfl⟩ := hcl h
        exact hSm
      generalize m.pr.any (curQ m) = b at hSx ⊢
      have hSm2 : Spec Try.prog 17 [encX m m.cur m.left, encM m] (.bool true) := hSm
      have hT : (((R : Int) == 0) || m.pr.any (fQ c)) = true := by
        by_cases h0 : R = 0
        · subst h0; rfl
        · obtain ⟨k, hk, e1, e2⟩ := hfnd (by omega)
          rw [any_of m.pr (fQ c) k hk (by unfold fQ; rw [decide_eq_true e1, decide_eq_true e2]; rfl), Bool.or_true]
      by_cases hcase : (b = true ∧ 0 < m.left) ∨ R = 0
      · have hSx := hSx hcase
        cases b
        all_goals
          simp only [Bool.false_eq_true,false_and,false_or,true_and] at hcase
          repeat' (first | (with_reducible first | refine ju ?_ | refine xs1 ?_ | refine xs2 ?_ | refine xs3 ?_ | refine xb1 ?_ | refine xb2 ?_ | refine xb3 (by decide) ?_ | refine xb4 ?_ | refine xl2 ?_ | refine xl3 ?_ | refine xc2 ?_ | refine xc3 ?_ | refine jn ?_ | refine jo ?_ | refine jp ?_ | refine jq ?_ | refine jr ?_ | refine jt ?_ | refine jk (fun M hM => ?_) | refine vif_t ?_ | refine vif_f ?_ | refine jl ?_ | refine jm ?_ | (refine hM _ ?_; clear hM M) | refine ja (jc (by assumption) ?_ rfl ?_) | refine jb (jd (by assumption) rfl ?_) ?_) | ((with_reducible refine je ?_) <;> (first | rfl | assumption | (simp only [znl,jR,jS,jT,jU,jV,jW,jX]; (first | done | fail)))) | (with_reducible refine jf (by (simp only [↓reduceIte,zlk,Nat.reduceEqDiff,reduceCtorEq]); exact rfl) ?_) | ((with_reducible first | refine jg (fun hc => ?_) (fun hc => ?_) | refine jh (fun hc => ?_) (fun hc => ?_)) <;> (try simp (disch := omega) only [zhb] at hc) <;> (try (exfalso; omega)) <;> (try subst hc)) | (with_reducible refine ji (by omega) ?_) | (simp (config := { maxSteps := 400000 }) only [↓jv,↓reduceIte,zvs,reduceCtorEq,Nat.reduceEqDiff,Nat.reduceAdd,Nat.reduceLeDiff,Nat.reduceMul,Int.reduceBNe,Int.reduceBEq,Int.reduceEq,Int.reduceNe,Int.reduceLT,Int.reduceLE,Int.reduceGT,Int.reduceGE,Int.reduceNeg,Int.reduceToNat,Nat.reduceLT,Nat.reduceSub,tab,Try.results7,List.toList_toArray]) | (simp (disch := omega) only [ziw]))
          all_goals (try (exfalso; omega))
          all_goals
            refine ok_loop (fun k : Nat => ⟨slots [(1, .ptr 0 []), (3, .ptr 1 []), (8, .bool (((R : Int) == 0) || (m.pr.take k).any (fQ c))), (61, encPrs m.pr), (62, .int .i64 m.pr.length), (63, .int .i64 k)], rows [(0, .row machSh (encM m)), (1, .row machSh (encX m c l))], 2⟩) (fun k => k ≤ m.pr.length) (fun k => m.pr.length - k) 0 ?_ (Nat.zero_le _) (fun k hk => ?_)
            · (refine Ren.mk [(0, 0), (1, 1)] false (by first | (intro h; cases h; done) | exact fun _ => rfl) (by first | decide | rfl | (simp [jQ]; done)) (by decide) ?_ ?_ <;> (repeat' (first | (with_reducible first | refine jw (by first | rfl | omega) | refine jx rfl | refine jy rfl | refine jz rfl (by first | rfl | assumption | (simp only [znl,jR,jS,jT,jU,jV,jW,jX]; (first | done | fail))) | refine jF ?_ ?_ (by first | rfl | omega) | refine MR.ptr ?_ ?_ | refine jA | refine jB | refine jC ?_ | refine jD rfl (by (simp only [↓reduceIte,zlk,Nat.reduceEqDiff,reduceCtorEq]); exact rfl) ?_ ?_ ?_ (by decide) | refine jE rfl (by first | rfl | assumption | (simp only [znl,jR,jS,jT,jU,jV,jW,jX]; (first | done | fail))) | refine MR.agg (MRL.cons ?_ ?_) | refine jE ?_ (by first | rfl | assumption | (simp only [znl,jR,jS,jT,jU,jV,jW,jX]; (first | done | fail))) | refine MR.fn ?_ | refine MRL.cons ?_ ?_ | refine MRL.nil | refine jG ?_ ?_ | refine jH | refine jI | refine jJ ?_ (by (simp only [↓reduceIte,zlk,Nat.reduceEqDiff,reduceCtorEq]); exact rfl) ?_ ?_ | refine MB.row ?_ | refine jK ?_ ?_ | refine MR.map ?_ ?_ | refine jL rfl (by first | rfl | assumption | (simp only [znl,jR,jS,jT,jU,jV,jW,jX]; (first | done | fail))) | rfl) | (simp only [znl,jR,jS,jT,jU,jV,jW,jX]; (first | done | fail)) | (refine jM rfl ?_) | exact jN rfl | exact jO rfl | ((with_reducible refine jP ?_) <;> rfl) | (simp only [↓reduceIte,zlk,Nat.reduceEqDiff,reduceCtorEq]) | (with_reducible first | refine jL ?_ ?_ | refine jF ?_ ?_ ?_ | refine jw ?_ | refine jx ?_ | refine jy ?_ | refine jz ?_ (by first | rfl | assumption | (simp only [znl,jR,jS,jT,jU,jV,jW,jX]; (first | done | fail))) | refine jE ?_ ?_))))
              all_goals (first | rfl | (simp; done) | trace_state)
            by_cases hlt : k < m.pr.length
            · have hb := hpR _ (getD_mem' hlt)
              obtain ⟨hS1, hS2, hS3⟩ := pr3 hb
              have e3 := any_snoc m.pr (fQ c) k hlt
              have e4 : fQ c (m.pr.getD k default) = (((m.pr.getD k default).pid == c) && ((m.pr.getD k default).st == 1)) := by
                unfold fQ; rw [Bool.eq_iff_iff]; simp
              have e5 : (((R : Int) == 0) || (m.pr.take (k + 1)).any (fQ c)) = ((((R : Int) == 0) || (m.pr.take k).any (fQ c)) || (((m.pr.getD k default).pid == c) && ((m.pr.getD k default).st == 1))) := by
                rw [e3, e4, Bool.or_assoc]
              generalize (((R : Int) == 0) || (m.pr.take k).any (fQ c)) = f at e5 ⊢
              by_cases hpc : (m.pr.getD k default).pid = c
              · have hpb : ((m.pr.getD k default).pid == c) = true := by rw [hpc]; exact beq_self_eq_true _
                by_cases hq : (m.pr.getD k default).st = 1
                · have hsb : ((m.pr.getD k default).st == 1) = true := by rw [hq]; rfl
                  rw [hpb, hsb, Bool.and_self, Bool.or_true] at e5
                  cases f
                  all_goals
                    repeat' (first | (with_reducible first | refine ju ?_ | refine xs1 ?_ | refine xs2 ?_ | refine xs3 ?_ | refine xb1 ?_ | refine xb2 ?_ | refine xb3 (by decide) ?_ | refine xb4 ?_ | refine xl2 ?_ | refine xl3 ?_ | refine xc2 ?_ | refine xc3 ?_ | refine jn ?_ | refine jo ?_ | refine jp ?_ | refine jq ?_ | refine jr ?_ | refine jt ?_ | refine jk (fun M hM => ?_) | refine vif_t ?_ | refine vif_f ?_ | refine jl ?_ | refine jm ?_ | (refine hM _ ?_; clear hM M) | refine ja (jc (by assumption) ?_ rfl ?_) | refine jb (jd (by assumption) rfl ?_) ?_) | ((with_reducible refine je ?_) <;> (first | rfl | assumption | (simp only [znl,jR,jS,jT,jU,jV,jW,jX]; (first | done | fail)))) | (with_reducible refine jf (by (simp only [↓reduceIte,zlk,Nat.reduceEqDiff,reduceCtorEq]); exact rfl) ?_) | ((with_reducible first | refine jg (fun hc => ?_) (fun hc => ?_) | refine jh (fun hc => ?_) (fun hc => ?_)) <;> (try simp (disch := omega) only [zhb] at hc) <;> (try (exfalso; omega)) <;> (try subst hc)) | (with_reducible refine ji (by omega) ?_) | (simp (config := { maxSteps := 400000 }) only [↓jv,↓reduceIte,zvs,reduceCtorEq,Nat.reduceEqDiff,Nat.reduceAdd,Nat.reduceLeDiff,Nat.reduceMul,Int.reduceBNe,Int.reduceBEq,Int.reduceEq,Int.reduceNe,Int.reduceLT,Int.reduceLE,Int.reduceGT,Int.reduceGE,Int.reduceNeg,Int.reduceToNat,Nat.reduceLT,Nat.reduceSub,tab,hS1,hS2,hS3,encPr,hpb,hsb,Try.results7,List.toList_toArray]) | (simp (disch := omega) only [ziw]))
                    all_goals first
                      | (exfalso; omega)
                      | (refine xl1 (k + 1) ?_ (by show k + 1 ≤ m.pr.length; omega) (by show m.pr.length - (k + 1) < m.pr.length - k; omega); (refine Ren.mk [(0, 0), (1, 1)] false (by first | (intro h; cases h; done) | exact fun _ => rfl) (by first | decide | rfl | (simp [jQ]; done)) (by decide) ?_ ?_ <;> (repeat' (first | (with_reducible first | refine jw (by first | rfl | omega) | refine jx rfl | refine jy rfl | refine jz rfl (by first | rfl | assumption | (simp only [znl,jR,jS,jT,jU,jV,jW,jX]; (first | done | fail))) | refine jF ?_ ?_ (by first | rfl | omega) | refine MR.ptr ?_ ?_ | refine jA | refine jB | refine jC ?_ | refine jD rfl (by (simp only [↓reduceIte,zlk,Nat.reduceEqDiff,reduceCtorEq]); exact rfl) ?_ ?_ ?_ (by decide) | refine jE rfl (by first | rfl | assumption | (simp only [znl,jR,jS,jT,jU,jV,jW,jX]; (first | done | fail))) | refine MR.agg (MRL.cons ?_ ?_) | refine jE ?_ (by first | rfl | assumption | (simp only [znl,jR,jS,jT,jU,jV,jW,jX]; (first | done | fail))) | refine MR.fn ?_ | refine MRL.cons ?_ ?_ | refine MRL.nil | refine jG ?_ ?_ | refine jH | refine jI | refine jJ ?_ (by (simp only [↓reduceIte,zlk,Nat.reduceEqDiff,reduceCtorEq]); exact rfl) ?_ ?_ | refine MB.row ?_ | refine jK ?_ ?_ | refine MR.map ?_ ?_ | refine jL rfl (by first | rfl | assumption | (simp only [znl,jR,jS,jT,jU,jV,jW,jX]; (first | done | fail))) | rfl) | (simp only [znl,jR,jS,jT,jU,jV,jW,jX]; (first | done | fail)) | (refine jM rfl ?_) | exact jN rfl | exact jO rfl | ((with_reducible refine jP ?_) <;> rfl) | (simp only [↓reduceIte,zlk,Nat.reduceEqDiff,reduceCtorEq]) | (with_reducible first | refine jL ?_ ?_ | refine jF ?_ ?_ ?_ | refine jw ?_ | refine jx ?_ | refine jy ?_ | refine jz ?_ (by first | rfl | assumption | (simp only [znl,jR,jS,jT,jU,jV,jW,jX]; (first | done | fail))) | refine jE ?_ ?_)))); all_goals (first | omega | exact e5 | exact e5.symm))
                      | trace_state
                · have hsb : ((m.pr.getD k default).st == 1) = false := beq_eq_false_iff_ne.2 hq
                  rw [hsb, Bool.and_false, Bool.or_false] at e5
                  cases f
                  all_goals
                    repeat' (first | (with_reducible first | refine ju ?_ | refine xs1 ?_ | refine xs2 ?_ | refine xs3 ?_ | refine xb1 ?_ | refine xb2 ?_ | refine xb3 (by decide) ?_ | refine xb4 ?_ | refine xl2 ?_ | refine xl3 ?_ | refine xc2 ?_ | refine xc3 ?_ | refine jn ?_ | refine jo ?_ | refine jp ?_ | refine jq ?_ | refine jr ?_ | refine jt ?_ | refine jk (fun M hM => ?_) | refine vif_t ?_ | refine vif_f ?_ | refine jl ?_ | refine jm ?_ | (refine hM _ ?_; clear hM M) | refine ja (jc (by assumption) ?_ rfl ?_) | refine jb (jd (by assumption) rfl ?_) ?_) | ((with_reducible refine je ?_) <;> (first | rfl | assumption | (simp only [znl,jR,jS,jT,jU,jV,jW,jX]; (first | done | fail)))) | (with_reducible refine jf (by (simp only [↓reduceIte,zlk,Nat.reduceEqDiff,reduceCtorEq]); exact rfl) ?_) | ((with_reducible first | refine jg (fun hc => ?_) (fun hc => ?_) | refine jh (fun hc => ?_) (fun hc => ?_)) <;> (try simp (disch := omega) only [zhb] at hc) <;> (try (exfalso; omega)) <;> (try subst hc)) | (with_reducible refine ji (by omega) ?_) | (simp (config := { maxSteps := 400000 }) only [↓jv,↓reduceIte,zvs,reduceCtorEq,Nat.reduceEqDiff,Nat.reduceAdd,Nat.reduceLeDiff,Nat.reduceMul,Int.reduceBNe,Int.reduceBEq,Int.reduceEq,Int.reduceNe,Int.reduceLT,Int.reduceLE,Int.reduceGT,Int.reduceGE,Int.reduceNeg,Int.reduceToNat,Nat.reduceLT,Nat.reduceSub,tab,hS1,hS2,hS3,encPr,hpb,hsb,Try.results7,List.toList_toArray]) | (simp (disch := omega) only [ziw]))
                    all_goals first
                      | (exfalso; omega)
                      | (refine xl1 (k + 1) ?_ (by show k + 1 ≤ m.pr.length; omega) (by show m.pr.length - (k + 1) < m.pr.length - k; omega); (refine Ren.mk [(0, 0), (1, 1)] false (by first | (intro h; cases h; done) | exact fun _ => rfl) (by first | decide | rfl | (simp [jQ]; done)) (by decide) ?_ ?_ <;> (repeat' (first | (with_reducible first | refine jw (by first | rfl | omega) | refine jx rfl | refine jy rfl | refine jz rfl (by first | rfl | assumption | (simp only [znl,jR,jS,jT,jU,jV,jW,jX]; (first | done | fail))) | refine jF ?_ ?_ (by first | rfl | omega) | refine MR.ptr ?_ ?_ | refine jA | refine jB | refine jC ?_ | refine jD rfl (by (simp only [↓reduceIte,zlk,Nat.reduceEqDiff,reduceCtorEq]); exact rfl) ?_ ?_ ?_ (by decide) | refine jE rfl (by first | rfl | assumption | (simp only [znl,jR,jS,jT,jU,jV,jW,jX]; (first | done | fail))) | refine MR.agg (MRL.cons ?_ ?_) | refine jE ?_ (by first | rfl | assumption | (simp only [znl,jR,jS,jT,jU,jV,jW,jX]; (first | done | fail))) | refine MR.fn ?_ | refine MRL.cons ?_ ?_ | refine MRL.nil | refine jG ?_ ?_ | refine jH | refine jI | refine jJ ?_ (by (simp only [↓reduceIte,zlk,Nat.reduceEqDiff,reduceCtorEq]); exact rfl) ?_ ?_ | refine MB.row ?_ | refine jK ?_ ?_ | refine MR.map ?_ ?_ | refine jL rfl (by first | rfl | assumption | (simp only [znl,jR,jS,jT,jU,jV,jW,jX]; (first | done | fail))) | rfl) | (simp only [znl,jR,jS,jT,jU,jV,jW,jX]; (first | done | fail)) | (refine jM rfl ?_) | exact jN rfl | exact jO rfl | ((with_reducible refine jP ?_) <;> rfl) | (simp only [↓reduceIte,zlk,Nat.reduceEqDiff,reduceCtorEq]) | (with_reducible first | refine jL ?_ ?_ | refine jF ?_ ?_ ?_ | refine jw ?_ | refine jx ?_ | refine jy ?_ | refine jz ?_ (by first | rfl | assumption | (simp only [znl,jR,jS,jT,jU,jV,jW,jX]; (first | done | fail))) | refine jE ?_ ?_)))); all_goals (first | omega | exact e5 | exact e5.symm))
                      | trace_state
              · have hpb : ((m.pr.getD k default).pid == c) = false := beq_eq_false_iff_ne.2 hpc
                rw [hpb, Bool.false_and, Bool.or_false] at e5
                cases f
                all_goals
                  repeat' (first | (with_reducible first | refine ju ?_ | refine xs1 ?_ | refine xs2 ?_ | refine xs3 ?_ | refine xb1 ?_ | refine xb2 ?_ | refine xb3 (by decide) ?_ | refine xb4 ?_ | refine xl2 ?_ | refine xl3 ?_ | refine xc2 ?_ | refine xc3 ?_ | refine jn ?_ | refine jo ?_ | refine jp ?_ | refine jq ?_ | refine jr ?_ | refine jt ?_ | refine jk (fun M hM => ?_) | refine vif_t ?_ | refine vif_f ?_ | refine jl ?_ | refine jm ?_ | (refine hM _ ?_; clear hM M) | refine ja (jc (by assumption) ?_ rfl ?_) | refine jb (jd (by assumption) rfl ?_) ?_) | ((with_reducible refine je ?_) <;> (first | rfl | assumption | (simp only [znl,jR,jS,jT,jU,jV,jW,jX]; (first | done | fail)))) | (with_reducible refine jf (by (simp only [↓reduceIte,zlk,Nat.reduceEqDiff,reduceCtorEq]); exact rfl) ?_) | ((with_reducible first | refine jg (fun hc => ?_) (fun hc => ?_) | refine jh (fun hc => ?_) (fun hc => ?_)) <;> (try simp (disch := omega) only [zhb] at hc) <;> (try (exfalso; omega)) <;> (try subst hc)) | (with_reducible refine ji (by omega) ?_) | (simp (config := { maxSteps := 400000 }) only [↓jv,↓reduceIte,zvs,reduceCtorEq,Nat.reduceEqDiff,Nat.reduceAdd,Nat.reduceLeDiff,Nat.reduceMul,Int.reduceBNe,Int.reduceBEq,Int.reduceEq,Int.reduceNe,Int.reduceLT,Int.reduceLE,Int.reduceGT,Int.reduceGE,Int.reduceNeg,Int.reduceToNat,Nat.reduceLT,Nat.reduceSub,tab,hS1,hS2,hS3,encPr,hpb,Try.results7,List.toList_toArray]) | (simp (disch := omega) only [ziw]))
                  all_goals first
                    | (exfalso; omega)
                    | (refine xl1 (k + 1) ?_ (by show k + 1 ≤ m.pr.length; omega) (by show m.pr.length - (k + 1) < m.pr.length - k; omega); (refine Ren.mk [(0, 0), (1, 1)] false (by first | (intro h; cases h; done) | exact fun _ => rfl) (by first | decide | rfl | (simp [jQ]; done)) (by decide) ?_ ?_ <;> (repeat' (first | (with_reducible first | refine jw (by first | rfl | omega) | refine jx rfl | refine jy rfl | refine jz rfl (by first | rfl | assumption | (simp only [znl,jR,jS,jT,jU,jV,jW,jX]; (first | done | fail))) | refine jF ?_ ?_ (by first | rfl | omega) | refine MR.ptr ?_ ?_ | refine jA | refine jB | refine jC ?_ | refine jD rfl (by (simp only [↓reduceIte,zlk,Nat.reduceEqDiff,reduceCtorEq]); exact rfl) ?_ ?_ ?_ (by decide) | refine jE rfl (by first | rfl | assumption | (simp only [znl,jR,jS,jT,jU,jV,jW,jX]; (first | done | fail))) | refine MR.agg (MRL.cons ?_ ?_) | refine jE ?_ (by first | rfl | assumption | (simp only [znl,jR,jS,jT,jU,jV,jW,jX]; (first | done | fail))) | refine MR.fn ?_ | refine MRL.cons ?_ ?_ | refine MRL.nil | refine jG ?_ ?_ | refine jH | refine jI | refine jJ ?_ (by (simp only [↓reduceIte,zlk,Nat.reduceEqDiff,reduceCtorEq]); exact rfl) ?_ ?_ | refine MB.row ?_ | refine jK ?_ ?_ | refine MR.map ?_ ?_ | refine jL rfl (by first | rfl | assumption | (simp only [znl,jR,jS,jT,jU,jV,jW,jX]; (first | done | fail))) | rfl) | (simp only [znl,jR,jS,jT,jU,jV,jW,jX]; (first | done | fail)) | (refine jM rfl ?_) | exact jN rfl | exact jO rfl | ((with_reducible refine jP ?_) <;> rfl) | (simp only [↓reduceIte,zlk,Nat.reduceEqDiff,reduceCtorEq]) | (with_reducible first | refine jL ?_ ?_ | refine jF ?_ ?_ ?_ | refine jw ?_ | refine jx ?_ | refine jy ?_ | refine jz ?_ (by first | rfl | assumption | (simp only [znl,jR,jS,jT,jU,jV,jW,jX]; (first | done | fail))) | refine jE ?_ ?_)))); all_goals (first | omega | exact e5 | exact e5.symm))
                    | trace_state
            · obtain rfl : k = m.pr.length := by omega
              rw [et, hT]
              repeat' (first | (with_reducible first | refine ju ?_ | refine xs1 ?_ | refine xs2 ?_ | refine xs3 ?_ | refine xb1 ?_ | refine xb2 ?_ | refine xb3 (by decide) ?_ | refine xb4 ?_ | refine xl2 ?_ | refine xl3 ?_ | refine xc2 ?_ | refine xc3 ?_ | refine jn ?_ | refine jo ?_ | refine jp ?_ | refine jq ?_ | refine jr ?_ | refine jt ?_ | refine jk (fun M hM => ?_) | refine vif_t ?_ | refine vif_f ?_ | refine jl ?_ | refine jm ?_ | (refine hM _ ?_; clear hM M) | refine ja (jc (by assumption) ?_ rfl ?_) | refine jb (jd (by assumption) rfl ?_) ?_) | ((with_reducible refine je ?_) <;> (first | rfl | assumption | (simp only [znl,jR,jS,jT,jU,jV,jW,jX]; (first | done | fail)))) | (with_reducible refine jf (by (simp only [↓reduceIte,zlk,Nat.reduceEqDiff,reduceCtorEq]); exact rfl) ?_) | ((with_reducible first | refine jg (fun hc => ?_) (fun hc => ?_) | refine jh (fun hc => ?_) (fun hc => ?_)) <;> (try simp (disch := omega) only [zhb] at hc) <;> (try (exfalso; omega)) <;> (try subst hc)) | (with_reducible refine ji (by omega) ?_) | (simp (config := { maxSteps := 400000 }) only [↓jv,↓reduceIte,zvs,reduceCtorEq,Nat.reduceEqDiff,Nat.reduceAdd,Nat.reduceLeDiff,Nat.reduceMul,Int.reduceBNe,Int.reduceBEq,Int.reduceEq,Int.reduceNe,Int.reduceLT,Int.reduceLE,Int.reduceGT,Int.reduceGE,Int.reduceNeg,Int.reduceToNat,Nat.reduceLT,Nat.reduceSub,tab,Try.results7,List.toList_toArray]) | (simp (disch := omega) only [ziw]))
              refine ok_drawG 6 [0, 1, 2, 3, 4] 5 1 (by kernel_rfl) (by decide +kernel) (by decide) (by decide) (by intro m hm; simp only [upd_ap,rows_cons,rows_nil]; (repeat (first | rfl | rw [if_neg (by omega)]))) (fun M hM => ?_); simp only [picks,List.getElem?_cons_succ,List.getElem?_cons_zero,List.drop_succ_cons,List.drop_zero]
              repeat' (first | (with_reducible first | refine ju ?_ | refine xs1 ?_ | refine xs2 ?_ | refine xs3 ?_ | refine xb1 ?_ | refine xb2 ?_ | refine xb3 (by decide) ?_ | refine xb4 ?_ | refine xl2 ?_ | refine xl3 ?_ | refine xc2 ?_ | refine xc3 ?_ | refine jn ?_ | refine jo ?_ | refine jp ?_ | refine jq ?_ | refine jr ?_ | refine jt ?_ | refine jk (fun M hM => ?_) | refine vif_t ?_ | refine vif_f ?_ | refine jl ?_ | refine jm ?_ | (refine hM _ ?_; clear hM M) | refine ja (jc (by assumption) ?_ rfl ?_) | refine jb (jd (by assumption) rfl ?_) ?_) | ((with_reducible refine je ?_) <;> (first | rfl | assumption | (simp only [znl,jR,jS,jT,jU,jV,jW,jX]; (first | done | fail)))) | (with_reducible refine jf (by (simp only [↓reduceIte,zlk,Nat.reduceEqDiff,reduceCtorEq]); exact rfl) ?_) | ((with_reducible first | refine jg (fun hc => ?_) (fun hc => ?_) | refine jh (fun hc => ?_) (fun hc => ?_)) <;> (try simp (disch := omega) only [zhb] at hc) <;> (try (exfalso; omega)) <;> (try subst hc)) | (with_reducible refine ji (by omega) ?_) | (simp (config := { maxSteps := 400000 }) only [↓jv,↓reduceIte,zvs,reduceCtorEq,Nat.reduceEqDiff,Nat.reduceAdd,Nat.reduceLeDiff,Nat.reduceMul,Int.reduceBNe,Int.reduceBEq,Int.reduceEq,Int.reduceNe,Int.reduceLT,Int.reduceLE,Int.reduceGT,Int.reduceGE,Int.reduceNeg,Int.reduceToNat,Nat.reduceLT,Nat.reduceSub,tab,storeAt_go,isP_ptr,Try.results7,List.toList_toArray]) | (simp (disch := omega) only [ziw]))
              all_goals first
                | (exfalso; omega)
                | (simp only [zrds]; done)
                | (simp only [zrds]; rfl)
                | trace_state
      · cases b
        all_goals
          simp only [Bool.false_eq_true,false_and,false_or,true_and] at hcase
          repeat' (first | (with_reducible first | refine ju ?_ | refine xs1 ?_ | refine xs2 ?_ | refine xs3 ?_ | refine xb1 ?_ | refine xb2 ?_ | refine xb3 (by decide) ?_ | refine xb4 ?_ | refine xl2 ?_ | refine xl3 ?_ | refine xc2 ?_ | refine xc3 ?_ | refine jn ?_ | refine jo ?_ | refine jp ?_ | refine jq ?_ | refine jr ?_ | refine jt ?_ | refine jk (fun M hM => ?_) | refine vif_t ?_ | refine vif_f ?_ | refine jl ?_ | refine jm ?_ | (refine hM _ ?_; clear hM M) | refine ja (jc (by assumption) ?_ rfl ?_) | refine jb (jd (by assumption) rfl ?_) ?_) | ((with_reducible refine je ?_) <;> (first | rfl | assumption | (simp only [znl,jR,jS,jT,jU,jV,jW,jX]; (first | done | fail)))) | (with_reducible refine jf (by (simp only [↓reduceIte,zlk,Nat.reduceEqDiff,reduceCtorEq]); exact rfl) ?_) | ((with_reducible first | refine jg (fun hc => ?_) (fun hc => ?_) | refine jh (fun hc => ?_) (fun hc => ?_)) <;> (try simp (disch := omega) only [zhb] at hc) <;> (try (exfalso; omega)) <;> (try subst hc)) | (with_reducible refine ji (by omega) ?_) | (simp (config := { maxSteps := 400000 }) only [↓jv,↓reduceIte,zvs,reduceCtorEq,Nat.reduceEqDiff,Nat.reduceAdd,Nat.reduceLeDiff,Nat.reduceMul,Int.reduceBNe,Int.reduceBEq,Int.reduceEq,Int.reduceNe,Int.reduceLT,Int.reduceLE,Int.reduceGT,Int.reduceGE,Int.reduceNeg,Int.reduceToNat,Nat.reduceLT,Nat.reduceSub,tab,Try.results7,List.toList_toArray]) | (simp (disch := omega) only [ziw]))
          all_goals (try (exfalso; omega))
          all_goals
            refine ok_loop (fun k : Nat => ⟨slots [(1, .ptr 0 []), (3, .ptr 1 []), (8, .bool (((R : Int) == 0) || (m.pr.take k).any (fQ c))), (61, encPrs m.pr), (62, .int .i64 m.pr.length), (63, .int .i64 k)], rows [(0, .row machSh (encM m)), (1, .row machSh (encX m c l))], 2⟩) (fun k => k ≤ m.pr.length) (fun k => m.pr.length - k) 0 ?_ (Nat.zero_le _) (fun k hk => ?_)
            · (refine Ren.mk [(0, 0), (1, 1)] false (by first | (intro h; cases h; done) | exact fun _ => rfl) (by first | decide | rfl | (simp [jQ]; done)) (by decide) ?_ ?_ <;> (repeat' (first | (with_reducible first | refine jw (by first | rfl | omega) | refine jx rfl | refine jy rfl | refine jz rfl (by first | rfl | assumption | (simp only [znl,jR,jS,jT,jU,jV,jW,jX]; (first | done | fail))) | refine jF ?_ ?_ (by first | rfl | omega) | refine MR.ptr ?_ ?_ | refine jA | refine jB | refine jC ?_ | refine jD rfl (by (simp only [↓reduceIte,zlk,Nat.reduceEqDiff,reduceCtorEq]); exact rfl) ?_ ?_ ?_ (by decide) | refine jE rfl (by first | rfl | assumption | (simp only [znl,jR,jS,jT,jU,jV,jW,jX]; (first | done | fail))) | refine MR.agg (MRL.cons ?_ ?_) | refine jE ?_ (by first | rfl | assumption | (simp only [znl,jR,jS,jT,jU,jV,jW,jX]; (first | done | fail))) | refine MR.fn ?_ | refine MRL.cons ?_ ?_ | refine MRL.nil | refine jG ?_ ?_ | refine jH | refine jI | refine jJ ?_ (by (simp only [↓reduceIte,zlk,Nat.reduceEqDiff,reduceCtorEq]); exact rfl) ?_ ?_ | refine MB.row ?_ | refine jK ?_ ?_ | refine MR.map ?_ ?_ | refine jL rfl (by first | rfl | assumption | (simp only [znl,jR,jS,jT,jU,jV,jW,jX]; (first | done | fail))) | rfl) | (simp only [znl,jR,jS,jT,jU,jV,jW,jX]; (first | done | fail)) | (refine jM rfl ?_) | exact jN rfl | exact jO rfl | ((with_reducible refine jP ?_) <;> rfl) | (simp only [↓reduceIte,zlk,Nat.reduceEqDiff,reduceCtorEq]) | (with_reducible first | refine jL ?_ ?_ | refine jF ?_ ?_ ?_ | refine jw ?_ | refine jx ?_ | refine jy ?_ | refine jz ?_ (by first | rfl | assumption | (simp only [znl,jR,jS,jT,jU,jV,jW,jX]; (first | done | fail))) | refine jE ?_ ?_))))
              all_goals (first | rfl | (simp; done) | trace_state)
            by_cases hlt : k < m.pr.length
            · have hb := hpR _ (getD_mem' hlt)
              obtain ⟨hS1, hS2, hS3⟩ := pr3 hb
              have e3 := any_snoc m.pr (fQ c) k hlt
              have e4 : fQ c (m.pr.getD k default) = (((m.pr.getD k default).pid == c) && ((m.pr.getD k default).st == 1)) := by
                unfold fQ; rw [Bool.eq_iff_iff]; simp
              have e5 : (((R : Int) == 0) || (m.pr.take (k + 1)).any (fQ c)) = ((((R : Int) == 0) || (m.pr.take k).any (fQ c)) || (((m.pr.getD k default).pid == c) && ((m.pr.getD k default).st == 1))) := by
                rw [e3, e4, Bool.or_assoc]
              generalize (((R : Int) == 0) || (m.pr.take k).any (fQ c)) = f at e5 ⊢
              by_cases hpc : (m.pr.getD k default).pid = c
              · have hpb : ((m.pr.getD k default).pid == c) = true := by rw [hpc]; exact beq_self_eq_true _
                by_cases hq : (m.pr.getD k default).st = 1
                · have hsb : ((m.pr.getD k default).st == 1) = true := by rw [hq]; rfl
                  rw [hpb, hsb, Bool.and_self, Bool.or_true] at e5
                  cases f
                  all_goals
                    repeat' (first | (with_reducible first | refine ju ?_ | refine xs1 ?_ | refine xs2 ?_ | refine xs3 ?_ | refine xb1 ?_ | refine xb2 ?_ | refine xb3 (by decide) ?_ | refine xb4 ?_ | refine xl2 ?_ | refine xl3 ?_ | refine xc2 ?_ | refine xc3 ?_ | refine jn ?_ | refine jo ?_ | refine jp ?_ | refine jq ?_ | refine jr ?_ | refine jt ?_ | refine jk (fun M hM => ?_) | refine vif_t ?_ | refine vif_f ?_ | refine jl ?_ | refine jm ?_ | (refine hM _ ?_; clear hM M) | refine ja (jc (by assumption) ?_ rfl ?_) | refine jb (jd (by assumption) rfl ?_) ?_) | ((with_reducible refine je ?_) <;> (first | rfl | assumption | (simp only [znl,jR,jS,jT,jU,jV,jW,jX]; (first | done | fail)))) | (with_reducible refine jf (by (simp only [↓reduceIte,zlk,Nat.reduceEqDiff,reduceCtorEq]); exact rfl) ?_) | ((with_reducible first | refine jg (fun hc => ?_) (fun hc => ?_) | refine jh (fun hc => ?_) (fun hc => ?_)) <;> (try simp (disch := omega) only [zhb] at hc) <;> (try (exfalso; omega)) <;> (try subst hc)) | (with_reducible refine ji (by omega) ?_) | (simp (config := { maxSteps := 400000 }) only [↓jv,↓reduceIte,zvs,reduceCtorEq,Nat.reduceEqDiff,Nat.reduceAdd,Nat.reduceLeDiff,Nat.reduceMul,Int.reduceBNe,Int.reduceBEq,Int.reduceEq,Int.reduceNe,Int.reduceLT,Int.reduceLE,Int.reduceGT,Int.reduceGE,Int.reduceNeg,Int.reduceToNat,Nat.reduceLT,Nat.reduceSub,tab,hS1,hS2,hS3,encPr,hpb,hsb,Try.results7,List.toList_toArray]) | (simp (disch := omega) only [ziw]))
                    all_goals first
                      | (exfalso; omega)
                      | (refine xl1 (k + 1) ?_ (by show k + 1 ≤ m.pr.length; omega) (by show m.pr.length - (k + 1) < m.pr.length - k; omega); (refine Ren.mk [(0, 0), (1, 1)] false (by first | (intro h; cases h; done) | exact fun _ => rfl) (by first | decide | rfl | (simp [jQ]; done)) (by decide) ?_ ?_ <;> (repeat' (first | (with_reducible first | refine jw (by first | rfl | omega) | refine jx rfl | refine jy rfl | refine jz rfl (by first | rfl | assumption | (simp only [znl,jR,jS,jT,jU,jV,jW,jX]; (first | done | fail))) | refine jF ?_ ?_ (by first | rfl | omega) | refine MR.ptr ?_ ?_ | refine jA | refine jB | refine jC ?_ | refine jD rfl (by (simp only [↓reduceIte,zlk,Nat.reduceEqDiff,reduceCtorEq]); exact rfl) ?_ ?_ ?_ (by decide) | refine jE rfl (by first | rfl | assumption | (simp only [znl,jR,jS,jT,jU,jV,jW,jX]; (first | done | fail))) | refine MR.agg (MRL.cons ?_ ?_) | refine jE ?_ (by first | rfl | assumption | (simp only [znl,jR,jS,jT,jU,jV,jW,jX]; (first | done | fail))) | refine MR.fn ?_ | refine MRL.cons ?_ ?_ | refine MRL.nil | refine jG ?_ ?_ | refine jH | refine jI | refine jJ ?_ (by (simp only [↓reduceIte,zlk,Nat.reduceEqDiff,reduceCtorEq]); exact rfl) ?_ ?_ | refine MB.row ?_ | refine jK ?_ ?_ | refine MR.map ?_ ?_ | refine jL rfl (by first | rfl | assumption | (simp only [znl,jR,jS,jT,jU,jV,jW,jX]; (first | done | fail))) | rfl) | (simp only [znl,jR,jS,jT,jU,jV,jW,jX]; (first | done | fail)) | (refine jM rfl ?_) | exact jN rfl | exact jO rfl | ((with_reducible refine jP ?_) <;> rfl) | (simp only [↓reduceIte,zlk,Nat.reduceEqDiff,reduceCtorEq]) | (with_reducible first | refine jL ?_ ?_ | refine jF ?_ ?_ ?_ | refine jw ?_ | refine jx ?_ | refine jy ?_ | refine jz ?_ (by first | rfl | assumption | (simp only [znl,jR,jS,jT,jU,jV,jW,jX]; (first | done | fail))) | refine jE ?_ ?_)))); all_goals (first | omega | exact e5 | exact e5.symm))
                      | trace_state
                · have hsb : ((m.pr.getD k default).st == 1) = false := beq_eq_false_iff_ne.2 hq
                  rw [hsb, Bool.and_false, Bool.or_false] at e5
                  cases f
                  all_goals
                    repeat' (first | (with_reducible first | refine ju ?_ | refine xs1 ?_ | refine xs2 ?_ | refine xs3 ?_ | refine xb1 ?_ | refine xb2 ?_ | refine xb3 (by decide) ?_ | refine xb4 ?_ | refine xl2 ?_ | refine xl3 ?_ | refine xc2 ?_ | refine xc3 ?_ | refine jn ?_ | refine jo ?_ | refine jp ?_ | refine jq ?_ | refine jr ?_ | refine jt ?_ | refine jk (fun M hM => ?_) | refine vif_t ?_ | refine vif_f ?_ | refine jl ?_ | refine jm ?_ | (refine hM _ ?_; clear hM M) | refine ja (jc (by assumption) ?_ rfl ?_) | refine jb (jd (by assumption) rfl ?_) ?_) | ((with_reducible refine je ?_) <;> (first | rfl | assumption | (simp only [znl,jR,jS,jT,jU,jV,jW,jX]; (first | done | fail)))) | (with_reducible refine jf (by (simp only [↓reduceIte,zlk,Nat.reduceEqDiff,reduceCtorEq]); exact rfl) ?_) | ((with_reducible first | refine jg (fun hc => ?_) (fun hc => ?_) | refine jh (fun hc => ?_) (fun hc => ?_)) <;> (try simp (disch := omega) only [zhb] at hc) <;> (try (exfalso; omega)) <;> (try subst hc)) | (with_reducible refine ji (by omega) ?_) | (simp (config := { maxSteps := 400000 }) only [↓jv,↓reduceIte,zvs,reduceCtorEq,Nat.reduceEqDiff,Nat.reduceAdd,Nat.reduceLeDiff,Nat.reduceMul,Int.reduceBNe,Int.reduceBEq,Int.reduceEq,Int.reduceNe,Int.reduceLT,Int.reduceLE,Int.reduceGT,Int.reduceGE,Int.reduceNeg,Int.reduceToNat,Nat.reduceLT,Nat.reduceSub,tab,hS1,hS2,hS3,encPr,hpb,hsb,Try.results7,List.toList_toArray]) | (simp (disch := omega) only [ziw]))
                    all_goals first
                      | (exfalso; omega)
                      | (refine xl1 (k + 1) ?_ (by show k + 1 ≤ m.pr.length; omega) (by show m.pr.length - (k + 1) < m.pr.length - k; omega); (refine Ren.mk [(0, 0), (1, 1)] false (by first | (intro h; cases h; done) | exact fun _ => rfl) (by first | decide | rfl | (simp [jQ]; done)) (by decide) ?_ ?_ <;> (repeat' (first | (with_reducible first | refine jw (by first | rfl | omega) | refine jx rfl | refine jy rfl | refine jz rfl (by first | rfl | assumption | (simp only [znl,jR,jS,jT,jU,jV,jW,jX]; (first | done | fail))) | refine jF ?_ ?_ (by first | rfl | omega) | refine MR.ptr ?_ ?_ | refine jA | refine jB | refine jC ?_ | refine jD rfl (by (simp only [↓reduceIte,zlk,Nat.reduceEqDiff,reduceCtorEq]); exact rfl) ?_ ?_ ?_ (by decide) | refine jE rfl (by first | rfl | assumption | (simp only [znl,jR,jS,jT,jU,jV,jW,jX]; (first | done | fail))) | refine MR.agg (MRL.cons ?_ ?_) | refine jE ?_ (by first | rfl | assumption | (simp only [znl,jR,jS,jT,jU,jV,jW,jX]; (first | done | fail))) | refine MR.fn ?_ | refine MRL.cons ?_ ?_ | refine MRL.nil | refine jG ?_ ?_ | refine jH | refine jI | refine jJ ?_ (by (simp only [↓reduceIte,zlk,Nat.reduceEqDiff,reduceCtorEq]); exact rfl) ?_ ?_ | refine MB.row ?_ | refine jK ?_ ?_ | refine MR.map ?_ ?_ | refine jL rfl (by first | rfl | assumption | (simp only [znl,jR,jS,jT,jU,jV,jW,jX]; (first | done | fail))) | rfl) | (simp only [znl,jR,jS,jT,jU,jV,jW,jX]; (first | done | fail)) | (refine jM rfl ?_) | exact jN rfl | exact jO rfl | ((with_reducible refine jP ?_) <;> rfl) | (simp only [↓reduceIte,zlk,Nat.reduceEqDiff,reduceCtorEq]) | (with_reducible first | refine jL ?_ ?_ | refine jF ?_ ?_ ?_ | refine jw ?_ | refine jx ?_ | refine jy ?_ | refine jz ?_ (by first | rfl | assumption | (simp only [znl,jR,jS,jT,jU,jV,jW,jX]; (first | done | fail))) | refine jE ?_ ?_)))); all_goals (first | omega | exact e5 | exact e5.symm))
                      | trace_state
              · have hpb : ((m.pr.getD k default).pid == c) = false := beq_eq_false_iff_ne.2 hpc
                rw [hpb, Bool.false_and, Bool.or_false] at e5
                cases f
                all_goals
                  repeat' (first | (with_reducible first | refine ju ?_ | refine xs1 ?_ | refine xs2 ?_ | refine xs3 ?_ | refine xb1 ?_ | refine xb2 ?_ | refine xb3 (by decide) ?_ | refine xb4 ?_ | refine xl2 ?_ | refine xl3 ?_ | refine xc2 ?_ | refine xc3 ?_ | refine jn ?_ | refine jo ?_ | refine jp ?_ | refine jq ?_ | refine jr ?_ | refine jt ?_ | refine jk (fun M hM => ?_) | refine vif_t ?_ | refine vif_f ?_ | refine jl ?_ | refine jm ?_ | (refine hM _ ?_; clear hM M) | refine ja (jc (by assumption) ?_ rfl ?_) | refine jb (jd (by assumption) rfl ?_) ?_) | ((with_reducible refine je ?_) <;> (first | rfl | assumption | (simp only [znl,jR,jS,jT,jU,jV,jW,jX]; (first | done | fail)))) | (with_reducible refine jf (by (simp only [↓reduceIte,zlk,Nat.reduceEqDiff,reduceCtorEq]); exact rfl) ?_) | ((with_reducible first | refine jg (fun hc => ?_) (fun hc => ?_) | refine jh (fun hc => ?_) (fun hc => ?_)) <;> (try simp (disch := omega) only [zhb] at hc) <;> (try (exfalso; omega)) <;> (try subst hc)) | (with_reducible refine ji (by omega) ?_) | (simp (config := { maxSteps := 400000 }) only [↓jv,↓reduceIte,zvs,reduceCtorEq,Nat.reduceEqDiff,Nat.reduceAdd,Nat.reduceLeDiff,Nat.reduceMul,Int.reduceBNe,Int.reduceBEq,Int.reduceEq,Int.reduceNe,Int.reduceLT,Int.reduceLE,Int.reduceGT,Int.reduceGE,Int.reduceNeg,Int.reduceToNat,Nat.reduceLT,Nat.reduceSub,tab,hS1,hS2,hS3,encPr,hpb,Try.results7,List.toList_toArray]) | (simp (disch := omega) only [ziw]))
                  all_goals first
                    | (exfalso; omega)
                    | (refine xl1 (k + 1) ?_ (by show k + 1 ≤ m.pr.length; omega) (by show m.pr.length - (k + 1) < m.pr.length - k; omega); (refine Ren.mk [(0, 0), (1, 1)] false (by first | (intro h; cases h; done) | exact fun _ => rfl) (by first | decide | rfl | (simp [jQ]; done)) (by decide) ?_ ?_ <;> (repeat' (first | (with_reducible first | refine jw (by first | rfl | omega) | refine jx rfl | refine jy rfl | refine jz rfl (by first | rfl | assumption | (simp only [znl,jR,jS,jT,jU,jV,jW,jX]; (first | done | fail))) | refine jF ?_ ?_ (by first | rfl | omega) | refine MR.ptr ?_ ?_ | refine jA | refine jB | refine jC ?_ | refine jD rfl (by (simp only [↓reduceIte,zlk,Nat.reduceEqDiff,reduceCtorEq]); exact rfl) ?_ ?_ ?_ (by decide) | refine jE rfl (by first | rfl | assumption | (simp only [znl,jR,jS,jT,jU,jV,jW,jX]; (first | done | fail))) | refine MR.agg (MRL.cons ?_ ?_) | refine jE ?_ (by first | rfl | assumption | (simp only [znl,jR,jS,jT,jU,jV,jW,jX]; (first | done | fail))) | refine MR.fn ?_ | refine MRL.cons ?_ ?_ | refine MRL.nil | refine jG ?_ ?_ | refine jH | refine jI | refine jJ ?_ (by (simp only [↓reduceIte,zlk,Nat.reduceEqDiff,reduceCtorEq]); exact rfl) ?_ ?_ | refine MB.row ?_ | refine jK ?_ ?_ | refine MR.map ?_ ?_ | refine jL rfl (by first | rfl | assumption | (simp only [znl,jR,jS,jT,jU,jV,jW,jX]; (first | done | fail))) | rfl) | (simp only [znl,jR,jS,jT,jU,jV,jW,jX]; (first | done | fail)) | (refine jM rfl ?_) | exact jN rfl | exact jO rfl | ((with_reducible refine jP ?_) <;> rfl) | (simp only [↓reduceIte,zlk,Nat.reduceEqDiff,reduceCtorEq]) | (with_reducible first | refine jL ?_ ?_ | refine jF ?_ ?_ ?_ | refine jw ?_ | refine jx ?_ | refine jy ?_ | refine jz ?_ (by first | rfl | assumption | (simp only [znl,jR,jS,jT,jU,jV,jW,jX]; (first | done | fail))) | refine jE ?_ ?_)))); all_goals (first | omega | exact e5 | exact e5.symm))
                    | trace_state
            · obtain rfl : k = m.pr.length := by omega
              rw [et, hT]
              repeat' (first | (with_reducible first | refine ju ?_ | refine xs1 ?_ | refine xs2 ?_ | refine xs3 ?_ | refine xb1 ?_ | refine xb2 ?_ | refine xb3 (by decide) ?_ | refine xb4 ?_ | refine xl2 ?_ | refine xl3 ?_ | refine xc2 ?_ | refine xc3 ?_ | refine jn ?_ | refine jo ?_ | refine jp ?_ | refine jq ?_ | refine jr ?_ | refine jt ?_ | refine jk (fun M hM => ?_) | refine vif_t ?_ | refine vif_f ?_ | refine jl ?_ | refine jm ?_ | (refine hM _ ?_; clear hM M) | refine ja (jc (by assumption) ?_ rfl ?_) | refine jb (jd (by assumption) rfl ?_) ?_) | ((with_reducible refine je ?_) <;> (first | rfl | assumption | (simp only [znl,jR,jS,jT,jU,jV,jW,jX]; (first | done | fail)))) | (with_reducible refine jf (by (simp only [↓reduceIte,zlk,Nat.reduceEqDiff,reduceCtorEq]); exact rfl) ?_) | ((with_reducible first | refine jg (fun hc => ?_) (fun hc => ?_) | refine jh (fun hc => ?_) (fun hc => ?_)) <;> (try simp (disch := omega) only [zhb] at hc) <;> (try (exfalso; omega)) <;> (try subst hc)) | (with_reducible refine ji (by omega) ?_) | (simp (config := { maxSteps := 400000 }) only [↓jv,↓reduceIte,zvs,reduceCtorEq,Nat.reduceEqDiff,Nat.reduceAdd,Nat.reduceLeDiff,Nat.reduceMul,Int.reduceBNe,Int.reduceBEq,Int.reduceEq,Int.reduceNe,Int.reduceLT,Int.reduceLE,Int.reduceGT,Int.reduceGE,Int.reduceNeg,Int.reduceToNat,Nat.reduceLT,Nat.reduceSub,tab,Try.results7,List.toList_toArray]) | (simp (disch := omega) only [ziw]))
              refine ok_drawG 6 [0, 1, 2, 3, 4] 5 1 (by kernel_rfl) (by decide +kernel) (by decide) (by decide) (by intro m hm; simp only [upd_ap,rows_cons,rows_nil]; (repeat (first | rfl | rw [if_neg (by omega)]))) (fun M hM => ?_); simp only [picks,List.getElem?_cons_succ,List.getElem?_cons_zero,List.drop_succ_cons,List.drop_zero]
              repeat' (first | (with_reducible first | refine ju ?_ | refine xs1 ?_ | refine xs2 ?_ | refine xs3 ?_ | refine xb1 ?_ | refine xb2 ?_ | refine xb3 (by decide) ?_ | refine xb4 ?_ | refine xl2 ?_ | refine xl3 ?_ | refine xc2 ?_ | refine xc3 ?_ | refine jn ?_ | refine jo ?_ | refine jp ?_ | refine jq ?_ | refine jr ?_ | refine jt ?_ | refine jk (fun M hM => ?_) | refine vif_t ?_ | refine vif_f ?_ | refine jl ?_ | refine jm ?_ | (refine hM _ ?_; clear hM M) | refine ja (jc (by assumption) ?_ rfl ?_) | refine jb (jd (by assumption) rfl ?_) ?_) | ((with_reducible refine je ?_) <;> (first | rfl | assumption | (simp only [znl,jR,jS,jT,jU,jV,jW,jX]; (first | done | fail)))) | (with_reducible refine jf (by (simp only [↓reduceIte,zlk,Nat.reduceEqDiff,reduceCtorEq]); exact rfl) ?_) | ((with_reducible first | refine jg (fun hc => ?_) (fun hc => ?_) | refine jh (fun hc => ?_) (fun hc => ?_)) <;> (try simp (disch := omega) only [zhb] at hc) <;> (try (exfalso; omega)) <;> (try subst hc)) | (with_reducible refine ji (by omega) ?_) | (simp (config := { maxSteps := 400000 }) only [↓jv,↓reduceIte,zvs,reduceCtorEq,Nat.reduceEqDiff,Nat.reduceAdd,Nat.reduceLeDiff,Nat.reduceMul,Int.reduceBNe,Int.reduceBEq,Int.reduceEq,Int.reduceNe,Int.reduceLT,Int.reduceLE,Int.reduceGT,Int.reduceGE,Int.reduceNeg,Int.reduceToNat,Nat.reduceLT,Nat.reduceSub,tab,storeAt_go,isP_ptr,Try.results7,List.toList_toArray]) | (simp (disch := omega) only [ziw]))
              all_goals first
                | (exfalso; omega)
                | (simp only [zrds]; done)
                | (simp only [zrds]; rfl)
                | trace_state
end Go.Proofs.Ytlgldkjjbbbapaa.V
end
