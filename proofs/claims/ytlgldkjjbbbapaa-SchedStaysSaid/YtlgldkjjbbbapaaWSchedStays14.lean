/-
  Parts of the proof of SchedStays: NI, NK, NL, NT, NM.
  Conditions: none.
-/
import Derived.Test.YtlgldkjjbbbapaaWSchedStays13
import Derived.Test.YtlgldkjjbbbapaaWSchedStays07
import Derived.Test.YtlgldkjjbbbapaaWSchedStays08
import Derived.Test.YtlgldkjjbbbapaaWSchedStays06
import Derived.Test.YtlgldkjjbbbapaaWSchedStays12
section
/-
  MACHINES, part 18: who goes on, by the program.
-/
set_option linter.unusedVariables false
set_option linter.unusedSimpArgs false
namespace Go.Proofs.Ytlgldkjjbbbapaa.V
open Go
set_option maxRecDepth 100000
-- nlx: jR, jS, jT, jU, jV, jW, jX
set_option maxHeartbeats 4000000
theorem inc_inj {m : Mach} (h : PidOk m) {i j : Nat} (hi : i < m.pr.length) (hj : j < m.pr.length) (e : (m.pr.getD i default).pid = (m.pr.getD j default).pid) : i = j := by
  rw [List.getD_eq_getElem?_getD, List.getElem?_eq_getElem hi, List.getD_eq_getElem?_getD, List.getElem?_eq_getElem hj] at e
  simp only [Option.getD_some] at e
  have := List.pairwise_iff_getElem.1 h.inc
  rcases Nat.lt_trichotomy i j with h1 | h1 | h1
  · have := this i j hi hj h1; omega
  · exact h1
  · have := this j i hj hi h1; omega
theorem findI_some {l : List Pr} {pid : Int} {i : Nat} (h : findI l pid = some i) : i < l.length ∧ (l.getD i default).pid = pid := by
  unfold findI at h
  rw [List.findIdx?_eq_some_iff_getElem] at h
  obtain ⟨h1, h2, _⟩ := h
  refine ⟨h1, ?_⟩
  rw [List.getD_eq_getElem?_getD, List.getElem?_eq_getElem h1]
  simpa using h2
theorem findI_none {l : List Pr} {pid : Int} (h : findI l pid = none) : ∀ j, j < l.length → (l.getD j default).pid ≠ pid := by
  intro j hj
  unfold findI at h
  rw [List.findIdx?_eq_none_iff] at h
  have := h l[j] (List.getElem_mem hj)
  rw [List.getD_eq_getElem?_getD, List.getElem?_eq_getElem hj]
  simpa using this
theorem pick_spec (m : Mach) (hm : MFit 20000 m) (hO : PidOk m) : Spec Try.prog 18 [encM m] (encM (pickM m)) := by
  obtain ⟨R, hR⟩ : ∃ R, R = pickM m := ⟨_, rfl⟩
  rw [← hR]
  have hl := hm.pr
  have hpR := hm.prR
  obtain ⟨hc1, hc2⟩ := hm.cur
  obtain ⟨hl1, hl2⟩ := hm.left
  have hpos := hO.pos
  have hcur := hO.cur
  have hW := own_machine m hm
  have hF := find_spec m hm m.cur hm.cur
  have hT := fun h => hR.trans (pickM_turn (m := m) h)
  cases hf : findI m.pr m.cur with
  | none =>
    rw [hf] at hF
    simp only [placeV] at hF
    have hno := findI_none hf
    have hT := hT fun k hk h => hno k hk h.1
    refine spec_ok Try.func18 rfl rfl (by kernel_rfl) (k := 1) rfl (by decide) ?_
    repeat' (first | (with_reducible first | refine ju ?_ | refine xs1 ?_ | refine xs2 ?_ | refine xs3 ?_ | refine xb1 ?_ | refine xb2 ?_ | refine xb3 (by decide) ?_ | refine xb4 ?_ | refine xl2 ?_ | refine xl3 ?_ | refine xc2 ?_ | refine xc3 ?_ | refine jn ?_ | refine jo ?_ | refine jp ?_ | refine jq ?_ | refine jr ?_ | refine jt ?_ | refine jk (fun M hM => ?_) | refine vif_t ?_ | refine vif_f ?_ | refine jl ?_ | refine jm ?_ | (refine hM _ ?_; clear hM M) | refine ja (jc (by assumption) ?_ rfl ?_) | refine jb (jd (by assumption) rfl ?_) ?_) | ((with_reducible refine je ?_) <;> (first | rfl | assumption | (simp only [znl,jR,jS,jT,jU,jV,jW,jX]; (first | done | fail)))) | (with_reducible refine jf (by (simp only [↓reduceIte,zlk,Nat.reduceEqDiff,reduceCtorEq]); exact rfl) ?_) | ((with_reducible first | refine jg (fun hc => ?_) (fun hc => ?_) | refine jh (fun hc => ?_) (fun hc => ?_)) <;> (try simp (disch := omega) only [zhb] at hc) <;> (try (exfalso; omega)) <;> (try subst hc)) | (with_reducible refine ji (by omega) ?_) | (simp (config := { maxSteps := 400000 }) only [↓jv,↓reduceIte,zvs,reduceCtorEq,Nat.reduceEqDiff,Nat.reduceAdd,Nat.reduceLeDiff,Nat.reduceMul,Int.reduceBNe,Int.reduceBEq,Int.reduceEq,Int.reduceNe,Int.reduceLT,Int.reduceLE,Int.reduceGT,Int.reduceGE,Int.reduceNeg,Int.reduceToNat,Nat.reduceLT,Nat.reduceSub,tab,Try.results18,List.toList_toArray]) | (simp (disch := omega) only [ziw]))
    refine ok_loop (fun k : Nat => ⟨slots [(1, .ptr 0 []), (2, .ptr 1 []), (3, .ptr 2 []), (6, .int .i64 (nextF (m.pr.take k) 0)), (7, .int .i64 (nextF (m.pr.take k) m.cur)), (8, .bool (decide (¬nextF (m.pr.take k) 0 = 0))), (9, .bool (decide (¬nextF (m.pr.take k) m.cur = 0))), (38, encPrs m.pr), (39, .int .i64 m.pr.length), (40, .int .i64 k)], rows [(0, .row machSh (encM m)), (1, .row machSh zM), (2, .row machSh (encM m))], 3⟩) (fun k => k ≤ m.pr.length) (fun k => m.pr.length - k) 0 ?_ (Nat.zero_le _) (fun k hk => ?_)
    · (refine Ren.mk [(0, 0), (1, 1), (2, 2)] false (by first | (intro h; cases h; done) | exact fun _ => rfl) (by first | decide | rfl | (simp [jQ]; done)) (by decide) ?_ ?_ <;> (repeat' (first | (with_reducible first | refine jw (by first | rfl | omega) | refine jx rfl | refine jy rfl | refine jz rfl (by first | rfl | assumption | (simp only [znl,jR,jS,jT,jU,jV,jW,jX]; (first | done | fail))) | refine jF ?_ ?_ (by first | rfl | omega) | refine MR.ptr ?_ ?_ | refine jA | refine jB | refine jC ?_ | refine jD rfl (by (simp only [↓reduceIte,zlk,Nat.reduceEqDiff,reduceCtorEq]); exact rfl) ?_ ?_ ?_ (by decide) | refine jE rfl (by first | rfl | assumption | (simp only [znl,jR,jS,jT,jU,jV,jW,jX]; (first | done | fail))) | refine MR.agg (MRL.cons ?_ ?_) | refine jE ?_ (by first | rfl | assumption | (simp only [znl,jR,jS,jT,jU,jV,jW,jX]; (first | done | fail))) | refine MR.fn ?_ | refine MRL.cons ?_ ?_ | refine MRL.nil | refine jG ?_ ?_ | refine jH | refine jI | refine jJ ?_ (by (simp only [↓reduceIte,zlk,Nat.reduceEqDiff,reduceCtorEq]); exact rfl) ?_ ?_ | refine MB.row ?_ | refine jK ?_ ?_ | refine MR.map ?_ ?_ | refine jL rfl (by first | rfl | assumption | (simp only [znl,jR,jS,jT,jU,jV,jW,jX]; (first | done | fail))) | rfl) | (simp only [znl,jR,jS,jT,jU,jV,jW,jX]; (first | done | fail)) | (refine jM rfl ?_) | exact jN rfl | exact jO rfl | ((with_reducible refine jP ?_) <;> rfl) | (simp only [↓reduceIte,zlk,Nat.reduceEqDiff,reduceCtorEq]) | (with_reducible first | refine jL ?_ ?_ | refine jF ?_ ?_ ?_ | refine jw ?_ | refine jx ?_ | refine jy ?_ | refine jz ?_ (by first | rfl | assumption | (simp only [znl,jR,jS,jT,jU,jV,jW,jX]; (first | done | fail))) | refine jE ?_ ?_))))
      all_goals (first | rfl | trace_state)
    by_cases hlt : k < m.pr.length
    · have hb := hpR _ (getD_mem' hlt)
      have hp1 := hpos _ (getD_mem' hlt)
      obtain ⟨hS1, hS2, hS3⟩ := pr3 hb
      have hs1 := nextF_step m.pr k hlt 0
      have hs2 := nextF_step m.pr k hlt m.cur
      generalize e1 : decide (¬nextF (m.pr.take k) 0 = 0) = b1
      generalize e2 : decide (¬nextF (m.pr.take k) m.cur = 0) = b2
      cases b1 <;> cases b2
      all_goals
        first | have e1 := of_decide_eq_false e1 | have e1 := of_decide_eq_true e1
        first | have e2 := of_decide_eq_false e2 | have e2 := of_decide_eq_true e2
        repeat' (first | (with_reducible first | refine ju ?_ | refine xs1 ?_ | refine xs2 ?_ | refine xs3 ?_ | refine xb1 ?_ | refine xb2 ?_ | refine xb3 (by decide) ?_ | refine xb4 ?_ | refine xl2 ?_ | refine xl3 ?_ | refine xc2 ?_ | refine xc3 ?_ | refine jn ?_ | refine jo ?_ | refine jp ?_ | refine jq ?_ | refine jr ?_ | refine jt ?_ | refine jk (fun M hM => ?_) | refine vif_t ?_ | refine vif_f ?_ | refine jl ?_ | refine jm ?_ | (refine hM _ ?_; clear hM M) | refine ja (jc (by assumption) ?_ rfl ?_) | refine jb (jd (by assumption) rfl ?_) ?_) | ((with_reducible refine je ?_) <;> (first | rfl | assumption | (simp only [znl,jR,jS,jT,jU,jV,jW,jX]; (first | done | fail)))) | (with_reducible refine jf (by (simp only [↓reduceIte,zlk,Nat.reduceEqDiff,reduceCtorEq]); exact rfl) ?_) | ((with_reducible first | refine jg (fun hc => ?_) (fun hc => ?_) | refine jh (fun hc => ?_) (fun hc => ?_)) <;> (try simp (disch := omega) only [zhb] at hc) <;> (try (exfalso; omega)) <;> (try subst hc)) | (with_reducible refine ji (by omega) ?_) | (simp (config := { maxSteps := 400000 }) only [↓jv,↓reduceIte,zvs,reduceCtorEq,Nat.reduceEqDiff,Nat.reduceAdd,Nat.reduceLeDiff,Nat.reduceMul,Int.reduceBNe,Int.reduceBEq,Int.reduceEq,Int.reduceNe,Int.reduceLT,Int.reduceLE,Int.reduceGT,Int.reduceGE,Int.reduceNeg,Int.reduceToNat,Nat.reduceLT,Nat.reduceSub,tab,hS1,hS2,hS3,encPr,Try.results18,List.toList_toArray]) | (simp (disch := omega) only [ziw]))
        all_goals first
          | (exfalso; omega)
          | (refine xl1 (k + 1) ?_ (by show k + 1 ≤ m.pr.length; omega) (by show m.pr.length - (k + 1) < m.pr.length - k; omega); (refine Ren.mk [(0, 0), (1, 1), (2, 2)] false (by first | (intro h; cases h; done) | exact fun _ => rfl) (by first | decide | rfl | (simp [jQ]; done)) (by decide) ?_ ?_ <;> (repeat' (first | (with_reducible first | refine jw (by first | rfl | omega) | refine jx rfl | refine jy rfl | refine jz rfl (by first | rfl | assumption | (simp only [znl,jR,jS,jT,jU,jV,jW,jX]; (first | done | fail))) | refine jF ?_ ?_ (by first | rfl | omega) | refine MR.ptr ?_ ?_ | refine jA | refine jB | refine jC ?_ | refine jD rfl (by (simp only [↓reduceIte,zlk,Nat.reduceEqDiff,reduceCtorEq]); exact rfl) ?_ ?_ ?_ (by decide) | refine jE rfl (by first | rfl | assumption | (simp only [znl,jR,jS,jT,jU,jV,jW,jX]; (first | done | fail))) | refine MR.agg (MRL.cons ?_ ?_) | refine jE ?_ (by first | rfl | assumption | (simp only [znl,jR,jS,jT,jU,jV,jW,jX]; (first | done | fail))) | refine MR.fn ?_ | refine MRL.cons ?_ ?_ | refine MRL.nil | refine jG ?_ ?_ | refine jH | refine jI | refine jJ ?_ (by (simp only [↓reduceIte,zlk,Nat.reduceEqDiff,reduceCtorEq]); exact rfl) ?_ ?_ | refine MB.row ?_ | refine jK ?_ ?_ | refine MR.map ?_ ?_ | refine jL rfl (by first | rfl | assumption | (simp only [znl,jR,jS,jT,jU,jV,jW,jX]; (first | done | fail))) | rfl) | (simp only [znl,jR,jS,jT,jU,jV,jW,jX]; (first | done | fail)) | (refine jM rfl ?_) | exact jN rfl | exact jO rfl | ((with_reducible refine jP ?_) <;> rfl) | (simp only [↓reduceIte,zlk,Nat.reduceEqDiff,reduceCtorEq]) | (with_reducible first | refine jL ?_ ?_ | refine jF ?_ ?_ ?_ | refine jw ?_ | refine jx ?_ | refine jy ?_ | refine jz ?_ (by first | rfl | assumption | (simp only [znl,jR,jS,jT,jU,jV,jW,jX]; (first | done | fail))) | refine jE ?_ ?_)))); all_goals first | omega | exact (decide_eq_true (by omega)).symm | exact (decide_eq_false (by omega)).symm | exact decide_eq_true (by omega) | exact decide_eq_false (by omega))
          | trace_state
    · obtain rfl : k = m.pr.length := by omega
      have et : m.pr.take m.pr.length = m.pr := List.take_length
      rw [et]
      generalize e1 : decide (¬nextF m.pr 0 = 0) = b1
      generalize e2 : decide (¬nextF m.pr m.cur = 0) = b2
      have hz1 := nextF_zero_or 0 m.pr
      have hz2 := nextF_zero_or m.cur m.pr
      have hp1 : nextF m.pr 0 = 0 ∨ 1 ≤ nextF m.pr 0 := by
        rcases hz1 with h | ⟨p, hp, h⟩
        · exact .inl h
        · have := hpos p hp; omega
      have hp2 : nextF m.pr m.cur = 0 ∨ 1 ≤ nextF m.pr m.cur := by
        rcases hz2 with h | ⟨p, hp, h⟩
        · exact .inl h
        · have := hpos p hp; omega
      unfold nextM at hT
      cases b2
      · have e2 := of_decide_eq_false e2
        rw [if_pos (show nextF m.pr m.cur = 0 by omega)] at hT
        cases b1
        · have e1 := of_decide_eq_false e1
          rw [if_neg (show ¬0 < nextF m.pr 0 by omega)] at hT
          rw [hT]
          repeat' (first | (with_reducible first | refine ju ?_ | refine xs1 ?_ | refine xs2 ?_ | refine xs3 ?_ | refine xb1 ?_ | refine xb2 ?_ | refine xb3 (by decide) ?_ | refine xb4 ?_ | refine xl2 ?_ | refine xl3 ?_ | refine xc2 ?_ | refine xc3 ?_ | refine jn ?_ | refine jo ?_ | refine jp ?_ | refine jq ?_ | refine jr ?_ | refine jt ?_ | refine jk (fun M hM => ?_) | refine vif_t ?_ | refine vif_f ?_ | refine jl ?_ | refine jm ?_ | (refine hM _ ?_; clear hM M) | refine ja (jc (by assumption) ?_ rfl ?_) | refine jb (jd (by assumption) rfl ?_) ?_) | ((with_reducible refine je ?_) <;> (first | rfl | assumption | (simp only [znl,jR,jS,jT,jU,jV,jW,jX]; (first | done | fail)))) | (with_reducible refine jf (by (simp only [↓reduceIte,zlk,Nat.reduceEqDiff,reduceCtorEq]); exact rfl) ?_) | ((with_reducible first | refine jg (fun hc => ?_) (fun hc => ?_) | refine jh (fun hc => ?_) (fun hc => ?_)) <;> (try simp (disch := omega) only [zhb] at hc) <;> (try (exfalso; omega)) <;> (try subst hc)) | (with_reducible refine ji (by omega) ?_) | (simp (config := { maxSteps := 400000 }) only [↓jv,↓reduceIte,zvs,reduceCtorEq,Nat.reduceEqDiff,Nat.reduceAdd,Nat.reduceLeDiff,Nat.reduceMul,Int.reduceBNe,Int.reduceBEq,Int.reduceEq,Int.reduceNe,Int.reduceLT,Int.reduceLE,Int.reduceGT,Int.reduceGE,Int.reduceNeg,Int.reduceToNat,Nat.reduceLT,Nat.reduceSub,tab,et,Try.results18,List.toList_toArray]) | (simp (disch := omega) only [ziw]))
          all_goals first
            | (exfalso; omega)
            | (((try simp only [List.map_nil]); simp only [zrds]; (repeat' (first | exact rd_nil | exact Rd.refl _ _ (by first | rfl | assumption | (simp only [znl,jR,jS,jT,jU,jV,jW,jX]; (first | done | fail))) | (refine And.intro ?_ ?_) | (refine rd_own (by (simp only [↓reduceIte,zlk,Nat.reduceEqDiff,reduceCtorEq]); exact rfl) ?_ ?_ ?_) | rfl | assumption | (simp only [znl,jR,jS,jT,jU,jV,jW,jX]; (first | done | fail)) | (simp; done) | (simp; omega)))); done)
            | trace_state
        · have e1 := of_decide_eq_true e1
          rw [if_pos (show 0 < nextF m.pr 0 by omega)] at hT
          rw [hT]
          repeat' (first | (with_reducible first | refine ju ?_ | refine xs1 ?_ | refine xs2 ?_ | refine xs3 ?_ | refine xb1 ?_ | refine xb2 ?_ | refine xb3 (by decide) ?_ | refine xb4 ?_ | refine xl2 ?_ | refine xl3 ?_ | refine xc2 ?_ | refine xc3 ?_ | refine jn ?_ | refine jo ?_ | refine jp ?_ | refine jq ?_ | refine jr ?_ | refine jt ?_ | refine jk (fun M hM => ?_) | refine vif_t ?_ | refine vif_f ?_ | refine jl ?_ | refine jm ?_ | (refine hM _ ?_; clear hM M) | refine ja (jc (by assumption) ?_ rfl ?_) | refine jb (jd (by assumption) rfl ?_) ?_) | ((with_reducible refine je ?_) <;> (first | rfl | assumption | (simp only [znl,jR,jS,jT,jU,jV,jW,jX]; (first | done | fail)))) | (with_reducible refine jf (by (simp only [↓reduceIte,zlk,Nat.reduceEqDiff,reduceCtorEq]); exact rfl) ?_) | ((with_reducible first | refine jg (fun hc => ?_) (fun hc => ?_) | refine jh (fun hc => ?_) (fun hc => ?_)) <;> (try simp (disch := omega) only [zhb] at hc) <;> (try (exfalso; omega)) <;> (try subst hc)) | (with_reducible refine ji (by omega) ?_) | (simp (config := { maxSteps := 400000 }) only [↓jv,↓reduceIte,zvs,reduceCtorEq,Nat.reduceEqDiff,Nat.reduceAdd,Nat.reduceLeDiff,Nat.reduceMul,Int.reduceBNe,Int.reduceBEq,Int.reduceEq,Int.reduceNe,Int.reduceLT,Int.reduceLE,Int.reduceGT,Int.reduceGE,Int.reduceNeg,Int.reduceToNat,Nat.reduceLT,Nat.reduceSub,tab,et,Try.results18,List.toList_toArray]) | (simp (disch := omega) only [ziw]))
          refine ok_drawG 5 [0, 1, 2, 3] 4 2 (by kernel_rfl) (by decide +kernel) (by decide) (by decide) (by intro m hm; simp only [upd_ap,rows_cons,rows_nil]; (repeat (first | rfl | rw [if_neg (by omega)]))) (fun M hM => ?_); simp only [picks,List.getElem?_cons_succ,List.getElem?_cons_zero,List.drop_succ_cons,List.drop_zero]
          repeat' (first | (with_reducible first | refine ju ?_ | refine xs1 ?_ | refine xs2 ?_ | refine xs3 ?_ | refine xb1 ?_ | refine xb2 ?_ | refine xb3 (by decide) ?_ | refine xb4 ?_ | refine xl2 ?_ | refine xl3 ?_ | refine xc2 ?_ | refine xc3 ?_ | refine jn ?_ | refine jo ?_ | refine jp ?_ | refine jq ?_ | refine jr ?_ | refine jt ?_ | refine jk (fun M hM => ?_) | refine vif_t ?_ | refine vif_f ?_ | refine jl ?_ | refine jm ?_ | (refine hM _ ?_; clear hM M) | refine ja (jc (by assumption) ?_ rfl ?_) | refine jb (jd (by assumption) rfl ?_) ?_) | ((with_reducible refine je ?_) <;> (first | rfl | assumption | (simp only [znl,jR,jS,jT,jU,jV,jW,jX]; (first | done | fail)))) | (with_reducible refine jf (by (simp only [↓reduceIte,zlk,Nat.reduceEqDiff,reduceCtorEq]); exact rfl) ?_) | ((with_reducible first | refine jg (fun hc => ?_) (fun hc => ?_) | refine jh (fun hc => ?_) (fun hc => ?_)) <;> (try simp (disch := omega) only [zhb] at hc) <;> (try (exfalso; omega)) <;> (try subst hc)) | (with_reducible refine ji (by omega) ?_) | (simp (config := { maxSteps := 400000 }) only [↓jv,↓reduceIte,zvs,reduceCtorEq,Nat.reduceEqDiff,Nat.reduceAdd,Nat.reduceLeDiff,Nat.reduceMul,Int.reduceBNe,Int.reduceBEq,Int.reduceEq,Int.reduceNe,Int.reduceLT,Int.reduceLE,Int.reduceGT,Int.reduceGE,Int.reduceNeg,Int.reduceToNat,Nat.reduceLT,Nat.reduceSub,tab,et,storeAt_go,isP_ptr,Try.results18,List.toList_toArray]) | (simp (disch := omega) only [ziw]))
          all_goals first
            | (exfalso; omega)
            | (((try simp only [List.map_nil]); simp only [zrds]; (repeat' (first | exact rd_nil | exact Rd.refl _ _ (by first | rfl | assumption | (simp only [znl,jR,jS,jT,jU,jV,jW,jX]; (first | done | fail))) | (refine And.intro ?_ ?_) | (refine rd_own (by (simp only [↓reduceIte,zlk,Nat.reduceEqDiff,reduceCtorEq]); exact rfl) ?_ ?_ ?_) | rfl | assumption | (simp only [znl,jR,jS,jT,jU,jV,jW,jX]; (first | done | fail)) | (simp; done) | (simp; omega)))); done)
            | trace_state
      · have e2 := of_decide_eq_true e2
        rw [if_neg (show ¬nextF m.pr m.cur = 0 by omega), if_pos (show 0 < nextF m.pr m.cur by omega)] at hT
        rw [hT]
        repeat' (first | (with_reducible first | refine ju ?_ | refine xs1 ?_ | refine xs2 ?_ | refine xs3 ?_ | refine xb1 ?_ | refine xb2 ?_ | refine xb3 (by decide) ?_ | refine xb4 ?_ | refine xl2 ?_ | refine xl3 ?_ | refine xc2 ?_ | refine xc3 ?_ | refine jn ?_ | refine jo ?_ | refine jp ?_ | refine jq ?_ | refine jr ?_ | refine jt ?_ | refine jk (fun M hM => ?_) | refine vif_t ?_ | refine vif_f ?_ | refine jl ?_ | refine jm ?_ | (refine hM _ ?_; clear hM M) | refine ja (jc (by assumption) ?_ rfl ?_) | refine jb (jd (by assumption) rfl ?_) ?_) | ((with_reducible refine je ?_) <;> (first | rfl | assumption | (simp only [znl,jR,jS,jT,jU,jV,jW,jX]; (first | done | fail)))) | (with_reducible refine jf (by (simp only [↓reduceIte,zlk,Nat.reduceEqDiff,reduceCtorEq]); exact rfl) ?_) | ((with_reducible first | refine jg (fun hc => ?_) (fun hc => ?_) | refine jh (fun hc => ?_) (fun hc => ?_)) <;> (try simp (disch := omega) only [zhb] at hc) <;> (try (exfalso; omega)) <;> (try subst hc)) | (with_reducible refine ji (by omega) ?_) | (simp (config := { maxSteps := 400000 }) only [↓jv,↓reduceIte,zvs,reduceCtorEq,Nat.reduceEqDiff,Nat.reduceAdd,Nat.reduceLeDiff,Nat.reduceMul,Int.reduceBNe,Int.reduceBEq,Int.reduceEq,Int.reduceNe,Int.reduceLT,Int.reduceLE,Int.reduceGT,Int.reduceGE,Int.reduceNeg,Int.reduceToNat,Nat.reduceLT,Nat.reduceSub,tab,et,Try.results18,List.toList_toArray]) | (simp (disch := omega) only [ziw]))
        refine ok_drawG 5 [0, 1, 2, 3] 4 2 (by kernel_rfl) (by decide +kernel) (by decide) (by decide) (by intro m hm; simp only [upd_ap,rows_cons,rows_nil]; (repeat (first | rfl | rw [if_neg (by omega)]))) (fun M hM => ?_); simp only [picks,List.getElem?_cons_succ,List.getElem?_cons_zero,List.drop_succ_cons,List.drop_zero]
        repeat' (first | (with_reducible first | refine ju ?_ | refine xs1 ?_ | refine xs2 ?_ | refine xs3 ?_ | refine xb1 ?_ | refine xb2 ?_ | refine xb3 (by decide) ?_ | refine xb4 ?_ | refine xl2 ?_ | refine xl3 ?_ | refine xc2 ?_ | refine xc3 ?_ | refine jn ?_ | refine jo ?_ | refine jp ?_ | refine jq ?_ | refine jr ?_ | refine jt ?_ | refine jk (fun M hM => ?_) | refine vif_t ?_ | refine vif_f ?_ | refine jl ?_ | refine jm ?_ | (refine hM _ ?_; clear hM M) | refine ja (jc (by assumption) ?_ rfl ?_) | refine jb (jd (by assumption) rfl ?_) ?_) | ((with_reducible refine je ?_) <;> (first | rfl | assumption | (simp only [znl,jR,jS,jT,jU,jV,jW,jX]; (first | done | fail)))) | (with_reducible refine jf (by (simp only [↓reduceIte,zlk,Nat.reduceEqDiff,reduceCtorEq]); exact rfl) ?_) | ((with_reducible first | refine jg (fun hc => ?_) (fun hc => ?_) | refine jh (fun hc => ?_) (fun hc => ?_)) <;> (try simp (disch := omega) only [zhb] at hc) <;> (try (exfalso; omega)) <;> (try subst hc)) | (with_reducible refine ji (by omega) ?_) | (simp (config := { maxSteps := 400000 }) only [↓jv,↓reduceIte,zvs,reduceCtorEq,Nat.reduceEqDiff,Nat.reduceAdd,Nat.reduceLeDiff,Nat.reduceMul,Int.reduceBNe,Int.reduceBEq,Int.reduceEq,Int.reduceNe,Int.reduceLT,Int.reduceLE,Int.reduceGT,Int.reduceGE,Int.reduceNeg,Int.reduceToNat,Nat.reduceLT,Nat.reduceSub,tab,et,storeAt_go,isP_ptr,Try.results18,List.toList_toArray]) | (simp (disch := omega) only [ziw]))
        all_goals first
          | (exfalso; omega)
          | (((try simp only [List.map_nil]); simp only [zrds]; (repeat' (first | exact rd_nil | exact Rd.refl _ _ (by first | rfl | assumption | (simp only [znl,jR,jS,jT,jU,jV,jW,jX]; (first | done | fail))) | (refine And.intro ?_ ?_) | (refine rd_own (by (simp only [↓reduceIte,zlk,Nat.reduceEqDiff,reduceCtorEq]); exact rfl) ?_ ?_ ?_) | rfl | assumption | (simp only [znl,jR,jS,jT,jU,jV,jW,jX]; (first | done | fail)) | (simp; done) | (simp; omega)))); done)
          | trace_state
  | some i =>
    rw [hf] at hF
    simp only [placeV] at hF
    obtain ⟨hi1, hi2⟩ := findI_some hf
    have hbi := hpR _ (getD_mem' hi1)
    obtain ⟨hI1, hI2, hI3⟩ := pr3 hbi
    by_cases hkeep : (m.pr.getD i default).st = 1 ∧ 0 < m.left
    · rw [hR.trans (pickM_keep hi1 hi2 hkeep.1 hkeep.2)]
      refine spec_ok Try.func18 rfl rfl (by kernel_rfl) (k := 1) rfl (by decide) ?_
      repeat' (first | (with_reducible first | refine ju ?_ | refine xs1 ?_ | refine xs2 ?_ | refine xs3 ?_ | refine xb1 ?_ | refine xb2 ?_ | refine xb3 (by decide) ?_ | refine xb4 ?_ | refine xl2 ?_ | refine xl3 ?_ | refine xc2 ?_ | refine xc3 ?_ | refine jn ?_ | refine jo ?_ | refine jp ?_ | refine jq ?_ | refine jr ?_ | refine jt ?_ | refine jk (fun M hM => ?_) | refine vif_t ?_ | refine vif_f ?_ | refine jl ?_ | refine jm ?_ | (refine hM _ ?_; clear hM M) | refine ja (jc (by assumption) ?_ rfl ?_) | refine jb (jd (by assumption) rfl ?_) ?_) | ((with_reducible refine je ?_) <;> (first | rfl | assumption | (simp only [znl,jR,jS,jT,jU,jV,jW,jX]; (first | done | fail)))) | (with_reducible refine jf (by (simp only [↓reduceIte,zlk,Nat.reduceEqDiff,reduceCtorEq]); exact rfl) ?_) | ((with_reducible first | refine jg (fun hc => ?_) (fun hc => ?_) | refine jh (fun hc => ?_) (fun hc => ?_)) <;> (try simp (disch := omega) only [zhb] at hc) <;> (try (exfalso; omega)) <;> (try subst hc)) | (with_reducible refine ji (by omega) ?_) | (simp (config := { maxSteps := 400000 }) only [↓jv,↓reduceIte,zvs,reduceCtorEq,Nat.reduceEqDiff,Nat.reduceAdd,Nat.reduceLeDiff,Nat.reduceMul,Int.reduceBNe,Int.reduceBEq,Int.reduceEq,Int.reduceNe,Int.reduceLT,Int.reduceLE,Int.reduceGT,Int.reduceGE,Int.reduceNeg,Int.reduceToNat,Nat.reduceLT,Nat.reduceSub,tab,hI1,hI2,hI3,encPr,Try.results18,List.toList_toArray]) | (simp (disch := omega) only [ziw]))
      all_goals first
        | (exfalso; omega)
        | (((try simp only [List.map_nil]); simp only [zrds]; (repeat' (first | exact rd_nil | exact Rd.refl _ _ (by first | rfl | assumption | (simp only [znl,jR,jS,jT,jU,jV,jW,jX]; (first | done | fail))) | (refine And.intro ?_ ?_) | (refine rd_own (by (simp only [↓reduceIte,zlk,Nat.reduceEqDiff,reduceCtorEq]); exact rfl) ?_ ?_ ?_) | rfl | assumption | (simp only [znl,jR,jS,jT,jU,jV,jW,jX]; (first | done | fail)) | (simp; done) | (simp; omega)))); done)
        | trace_state
    · have hT := hT fun k hk h => hkeep (by
        obtain rfl := inc_inj hO hk hi1 (h.1.trans hi2.symm)
        exact h.2)
      refine spec_ok Try.func18 rfl rfl (by kernel_rfl) (k := 1) rfl (by decide) ?_
      repeat' (first | (with_reducible first | refine ju ?_ | refine xs1 ?_ | refine xs2 ?_ | refine xs3 ?_ | refine xb1 ?_ | refine xb2 ?_ | refine xb3 (by decide) ?_ | refine xb4 ?_ | refine xl2 ?_ | refine xl3 ?_ | refine xc2 ?_ | refine xc3 ?_ | refine jn ?_ | refine jo ?_ | refine jp ?_ | refine jq ?_ | refine jr ?_ | refine jt ?_ | refine jk (fun M hM => ?_) | refine vif_t ?_ | refine vif_f ?_ | refine jl ?_ | refine jm ?_ | (refine hM _ ?_; clear hM M) | refine ja (jc (by assumption) ?_ rfl ?_) | refine jb (jd (by assumption) rfl ?_) ?_) | ((with_reducible refine je ?_) <;> (first | rfl | assumption | (simp only [znl,jR,jS,jT,jU,jV,jW,jX]; (first | done | fail)))) | (with_reducible refine jf (by (simp only [↓reduceIte,zlk,Nat.reduceEqDiff,reduceCtorEq]); exact rfl) ?_) | ((with_reducible first | refine jg (fun hc => ?_) (fun hc => ?_) | refine jh (fun hc => ?_) (fun hc => ?_)) <;> (try simp (disch := omega) only [zhb] at hc) <;> (try (exfalso; omega)) <;> (try subst hc)) | (with_reducible refine ji (by omega) ?_) | (simp (config := { maxSteps := 400000 }) only [↓jv,↓reduceIte,zvs,reduceCtorEq,Nat.reduceEqDiff,Nat.reduceAdd,Nat.reduceLeDiff,Nat.reduceMul,Int.reduceBNe,Int.reduceBEq,Int.reduceEq,Int.reduceNe,Int.reduceLT,Int.reduceLE,Int.reduceGT,Int.reduceGE,Int.reduceNeg,Int.reduceToNat,Nat.reduceLT,Nat.reduceSub,tab,hI1,hI2,hI3,encPr,Try.results18,List.toList_toArray]) | (simp (disch := omega) only [ziw]))
      all_goals (try (exfalso; omega))
      all_goals
        refine ok_loop (fun k : Nat => ⟨slots [(1, .ptr 0 []), (2, .ptr 1 []), (3, .ptr 2 []), (6, .int .i64 (nextF (m.pr.take k) 0)), (7, .int .i64 (nextF (m.pr.take k) m.cur)), (8, .bool (decide (¬nextF (m.pr.take k) 0 = 0))), (9, .bool (decide (¬nextF (m.pr.take k) m.cur = 0))), (38, encPrs m.pr), (39, .int .i64 m.pr.length), (40, .int .i64 k)], rows [(0, .row machSh (encM m)), (1, .row machSh zM), (2, .row machSh (encM m))], 3⟩) (fun k => k ≤ m.pr.length) (fun k => m.pr.length - k) 0 ?_ (Nat.zero_le _) (fun k hk => ?_)
        · (refine Ren.mk [(0, 0), (1, 1), (2, 2)] false (by first | (intro h; cases h; done) | exact fun _ => rfl) (by first | decide | rfl | (simp [jQ]; done)) (by decide) ?_ ?_ <;> (repeat' (first | (with_reducible first | refine jw (by first | rfl | omega) | refine jx rfl | refine jy rfl | refine jz rfl (by first | rfl | assumption | (simp only [znl,jR,jS,jT,jU,jV,jW,jX]; (first | done | fail))) | refine jF ?_ ?_ (by first | rfl | omega) | refine MR.ptr ?_ ?_ | refine jA | refine jB | refine jC ?_ | refine jD rfl (by (simp only [↓reduceIte,zlk,Nat.reduceEqDiff,reduceCtorEq]); exact rfl) ?_ ?_ ?_ (by decide) | refine jE rfl (by first | rfl | assumption | (simp only [znl,jR,jS,jT,jU,jV,jW,jX]; (first | done | fail))) | refine MR.agg (MRL.cons ?_ ?_) | refine jE ?_ (by first | rfl | assumption | (simp only [znl,jR,jS,jT,jU,jV,jW,jX]; (first | done | fail))) | refine MR.fn ?_ | refine MRL.cons ?_ ?_ | refine MRL.nil | refine jG ?_ ?_ | refine jH | refine jI | refine jJ ?_ (by (simp only [↓reduceIte,zlk,Nat.reduceEqDiff,reduceCtorEq]); exact rfl) ?_ ?_ | refine MB.row ?_ | refine jK ?_ ?_ | refine MR.map ?_ ?_ | refine jL rfl (by first | rfl | assumption | (simp only [znl,jR,jS,jT,jU,jV,jW,jX]; (first | done | fail))) | rfl) | (simp only [znl,jR,jS,jT,jU,jV,jW,jX]; (first | done | fail)) | (refine jM rfl ?_) | exact jN rfl | exact jO rfl | ((with_reducible refine jP ?_) <;> rfl) | (simp only [↓reduceIte,zlk,Nat.reduceEqDiff,reduceCtorEq]) | (with_reducible first | refine jL ?_ ?_ | refine jF ?_ ?_ ?_ | refine jw ?_ | refine jx ?_ | refine jy ?_ | refine jz ?_ (by first | rfl | assumption | (simp only [znl,jR,jS,jT,jU,jV,jW,jX]; (first | done | fail))) | refine jE ?_ ?_))))
          all_goals (first | rfl | trace_state)
        by_cases hlt : k < m.pr.length
        · have hb := hpR _ (getD_mem' hlt)
          have hp1 := hpos _ (getD_mem' hlt)
          obtain ⟨hS1, hS2, hS3⟩ := pr3 hb
          have hs1 := nextF_step m.pr k hlt 0
          have hs2 := nextF_step m.pr k hlt m.cur
          generalize e1 : decide (¬nextF (m.pr.take k) 0 = 0) = b1
          generalize e2 : decide (¬nextF (m.pr.take k) m.cur = 0) = b2
          cases b1 <;> cases b2
          all_goals
            first | have e1 := of_decide_eq_false e1 | have e1 := of_decide_eq_true e1
            first | have e2 := of_decide_eq_false e2 | have e2 := of_decide_eq_true e2
            repeat' (first | (with_reducible first | refine ju ?_ | refine xs1 ?_ | refine xs2 ?_ | refine xs3 ?_ | refine xb1 ?_ | refine xb2 ?_ | refine xb3 (by decide) ?_ | refine xb4 ?_ | refine xl2 ?_ | refine xl3 ?_ | refine xc2 ?_ | refine xc3 ?_ | refine jn ?_ | refine jo ?_ | refine jp ?_ | refine jq ?_ | refine jr ?_ | refine jt ?_ | refine jk (fun M hM => ?_) | refine vif_t ?_ | refine vif_f ?_ | refine jl ?_ | refine jm ?_ | (refine hM _ ?_; clear hM M) | refine ja (jc (by assumption) ?_ rfl ?_) | refine jb (jd (by assumption) rfl ?_) ?_) | ((with_reducible refine je ?_) <;> (first | rfl | assumption | (simp only [znl,jR,jS,jT,jU,jV,jW,jX]; (first | done | fail)))) | (with_reducible refine jf (by (simp only [↓reduceIte,zlk,Nat.reduceEqDiff,reduceCtorEq]); exact rfl) ?_) | ((with_reducible first | refine jg (fun hc => ?_) (fun hc => ?_) | refine jh (fun hc => ?_) (fun hc => ?_)) <;> (try simp (disch := omega) only [zhb] at hc) <;> (try (exfalso; omega)) <;> (try subst hc)) | (with_reducible refine ji (by omega) ?_) | (simp (config := { maxSteps := 400000 }) only [↓jv,↓reduceIte,zvs,reduceCtorEq,Nat.reduceEqDiff,Nat.reduceAdd,Nat.reduceLeDiff,Nat.reduceMul,Int.reduceBNe,Int.reduceBEq,Int.reduceEq,Int.reduceNe,Int.reduceLT,Int.reduceLE,Int.reduceGT,Int.reduceGE,Int.reduceNeg,Int.reduceToNat,Nat.reduceLT,Nat.reduceSub,tab,hS1,hS2,hS3,encPr,Try.results18,List.toList_toArray]) | (simp (disch := omega) only [ziw]))
            all_goals first
              | (exfalso; omega)
              | (refine xl1 (k + 1) ?_ (by show k + 1 ≤ m.pr.length; omega) (by show m.pr.length - (k + 1) < m.pr.length - k; omega); (refine Ren.mk [(0, 0), (1, 1), (2, 2)] false (by first | (intro h; cases h; done) | exact fun _ => rfl) (by first | decide | rfl | (simp [jQ]; done)) (by decide) ?_ ?_ <;> (repeat' (first | (with_reducible first | refine jw (by first | rfl | omega) | refine jx rfl | refine jy rfl | refine jz rfl (by first | rfl | assumption | (simp only [znl,jR,jS,jT,jU,jV,jW,jX]; (first | done | fail))) | refine jF ?_ ?_ (by first | rfl | omega) | refine MR.ptr ?_ ?_ | refine jA | refine jB | refine jC ?_ | refine jD rfl (by (simp only [↓reduceIte,zlk,Nat.reduceEqDiff,reduceCtorEq]); exact rfl) ?_ ?_ ?_ (by decide) | refine jE rfl (by first | rfl | assumption | (simp only [znl,jR,jS,jT,jU,jV,jW,jX]; (first | done | fail))) | refine MR.agg (MRL.cons ?_ ?_) | refine jE ?_ (by first | rfl | assumption | (simp only [znl,jR,jS,jT,jU,jV,jW,jX]; (first | done | fail))) | refine MR.fn ?_ | refine MRL.cons ?_ ?_ | refine MRL.nil | refine jG ?_ ?_ | refine jH | refine jI | refine jJ ?_ (by (simp only [↓reduceIte,zlk,Nat.reduceEqDiff,reduceCtorEq]); exact rfl) ?_ ?_ | refine MB.row ?_ | refine jK ?_ ?_ | refine MR.map ?_ ?_ | refine jL rfl (by first | rfl | assumption | (simp only [znl,jR,jS,jT,jU,jV,jW,jX]; (first | done | fail))) | rfl) | (simp only [znl,jR,jS,jT,jU,jV,jW,jX]; (first | done | fail)) | (refine jM rfl ?_) | exact jN rfl | exact jO rfl | ((with_reducible refine jP ?_) <;> rfl) | (simp only [↓reduceIte,zlk,Nat.reduceEqDiff,reduceCtorEq]) | (with_reducible first | refine jL ?_ ?_ | refine jF ?_ ?_ ?_ | refine jw ?_ | refine jx ?_ | refine jy ?_ | refine jz ?_ (by first | rfl | assumption | (simp only [znl,jR,jS,jT,jU,jV,jW,jX]; (first | done | fail))) | refine jE ?_ ?_)))); all_goals first | omega | exact (decide_eq_true (by omega)).symm | exact (decide_eq_false (by omega)).symm | exact decide_eq_true (by omega) | exact decide_eq_false (by omega))
              | trace_state
        · obtain rfl : k = m.pr.length := by omega
          have et : m.pr.take m.pr.length = m.pr := List.take_length
          rw [et]
          generalize e1 : decide (¬nextF m.pr 0 = 0) = b1
          generalize e2 : decide (¬nextF m.pr m.cur = 0) = b2
          have hz1 := nextF_zero_or 0 m.pr
          have hz2 := nextF_zero_or m.cur m.pr
          have hp1 : nextF m.pr 0 = 0 ∨ 1 ≤ nextF m.pr 0 := by
            rcases hz1 with h | ⟨p, hp, h⟩
            · exact .inl h
            · have := hpos p hp; omega
          have hp2 : nextF m.pr m.cur = 0 ∨ 1 ≤ nextF m.pr m.cur := by
            rcases hz2 with h | ⟨p, hp, h⟩
            · exact .inl h
            · have := hpos p hp; omega
          unfold nextM at hT
          cases b2
          · have e2 := of_decide_eq_false e2
            rw [if_pos (show nextF m.pr m.cur = 0 by omega)] at hT
            cases b1
            · have e1 := of_decide_eq_false e1
              rw [if_neg (show ¬0 < nextF m.pr 0 by omega)] at hT
              rw [hT]
              repeat' (first | (with_reducible first | refine ju ?_ | refine xs1 ?_ | refine xs2 ?_ | refine xs3 ?_ | refine xb1 ?_ | refine xb2 ?_ | refine xb3 (by decide) ?_ | refine xb4 ?_ | refine xl2 ?_ | refine xl3 ?_ | refine xc2 ?_ | refine xc3 ?_ | refine jn ?_ | refine jo ?_ | refine jp ?_ | refine jq ?_ | refine jr ?_ | refine jt ?_ | refine jk (fun M hM => ?_) | refine vif_t ?_ | refine vif_f ?_ | refine jl ?_ | refine jm ?_ | (refine hM _ ?_; clear hM M) | refine ja (jc (by assumption) ?_ rfl ?_) | refine jb (jd (by assumption) rfl ?_) ?_) | ((with_reducible refine je ?_) <;> (first | rfl | assumption | (simp only [znl,jR,jS,jT,jU,jV,jW,jX]; (first | done | fail)))) | (with_reducible refine jf (by (simp only [↓reduceIte,zlk,Nat.reduceEqDiff,reduceCtorEq]); exact rfl) ?_) | ((with_reducible first | refine jg (fun hc => ?_) (fun hc => ?_) | refine jh (fun hc => ?_) (fun hc => ?_)) <;> (try simp (disch := omega) only [zhb] at hc) <;> (try (exfalso; omega)) <;> (try subst hc)) | (with_reducible refine ji (by omega) ?_) | (simp (config := { maxSteps := 400000 }) only [↓jv,↓reduceIte,zvs,reduceCtorEq,Nat.reduceEqDiff,Nat.reduceAdd,Nat.reduceLeDiff,Nat.reduceMul,Int.reduceBNe,Int.reduceBEq,Int.reduceEq,Int.reduceNe,Int.reduceLT,Int.reduceLE,Int.reduceGT,Int.reduceGE,Int.reduceNeg,Int.reduceToNat,Nat.reduceLT,Nat.reduceSub,tab,et,Try.results18,List.toList_toArray]) | (simp (disch := omega) only [ziw]))
              all_goals first
                | (exfalso; omega)
                | (((try simp only [List.map_nil]); simp only [zrds]; (repeat' (first | exact rd_nil | exact Rd.refl _ _ (by first | rfl | assumption | (simp only [znl,jR,jS,jT,jU,jV,jW,jX]; (first | done | fail))) | (refine And.intro ?_ ?_) | (refine rd_own (by (simp only [↓reduceIte,zlk,Nat.reduceEqDiff,reduceCtorEq]); exact rfl) ?_ ?_ ?_) | rfl | assumption | (simp only [znl,jR,jS,jT,jU,jV,jW,jX]; (first | done | fail)) | (simp; done) | (simp; omega)))); done)
                | trace_state
            · have e1 := of_decide_eq_true e1
              rw [if_pos (show 0 < nextF m.pr 0 by omega)] at hT
              rw [hT]
              repeat' (first | (with_reducible first | refine ju ?_ | refine xs1 ?_ | refine xs2 ?_ | refine xs3 ?_ | refine xb1 ?_ | refine xb2 ?_ | refine xb3 (by decide) ?_ | refine xb4 ?_ | refine xl2 ?_ | refine xl3 ?_ | refine xc2 ?_ | refine xc3 ?_ | refine jn ?_ | refine jo ?_ | refine jp ?_ | refine jq ?_ | refine jr ?_ | refine jt ?_ | refine jk (fun M hM => ?_) | refine vif_t ?_ | refine vif_f ?_ | refine jl ?_ | refine jm ?_ | (refine hM _ ?_; clear hM M) | refine ja (jc (by assumption) ?_ rfl ?_) | refine jb (jd (by assumption) rfl ?_) ?_) | ((with_reducible refine je ?_) <;> (first | rfl | assumption | (simp only [znl,jR,jS,jT,jU,jV,jW,jX]; (first | done | fail)))) | (with_reducible refine jf (by (simp only [↓reduceIte,zlk,Nat.reduceEqDiff,reduceCtorEq]); exact rfl) ?_) | ((with_reducible first | refine jg (fun hc => ?_) (fun hc => ?_) | refine jh (fun hc => ?_) (fun hc => ?_)) <;> (try simp (disch := omega) only [zhb] at hc) <;> (try (exfalso; omega)) <;> (try subst hc)) | (with_reducible refine ji (by omega) ?_) | (simp (config := { maxSteps := 400000 }) only [↓jv,↓reduceIte,zvs,reduceCtorEq,Nat.reduceEqDiff,Nat.reduceAdd,Nat.reduceLeDiff,Nat.reduceMul,Int.reduceBNe,Int.reduceBEq,Int.reduceEq,Int.reduceNe,Int.reduceLT,Int.reduceLE,Int.reduceGT,Int.reduceGE,Int.reduceNeg,Int.reduceToNat,Nat.reduceLT,Nat.reduceSub,tab,et,Try.results18,List.toList_toArray]) | (simp (disch := omega) only [ziw]))
              refine ok_drawG 5 [0, 1, 2, 3] 4 2 (by kernel_rfl) (by decide +kernel) (by decide) (by decide) (by intro m hm; simp only [upd_ap,rows_cons,rows_nil]; (repeat (first | rfl | rw [if_neg (by omega)]))) (fun M hM => ?_); simp only [picks,List.getElem?_cons_succ,List.getElem?_cons_zero,List.drop_succ_cons,List.drop_zero]
              repeat' (first | (with_reducible first | refine ju ?_ | refine xs1 ?_ | refine xs2 ?_ | refine xs3 ?_ | refine xb1 ?_ | refine xb2 ?_ | refine xb3 (by decide) ?_ | refine xb4 ?_ | refine xl2 ?_ | refine xl3 ?_ | refine xc2 ?_ | refine xc3 ?_ | refine jn ?_ | refine jo ?_ | refine jp ?_ | refine jq ?_ | refine jr ?_ | refine jt ?_ | refine jk (fun M hM => ?_) | refine vif_t ?_ | refine vif_f ?_ | refine jl ?_ | refine jm ?_ | (refine hM _ ?_; clear hM M) | refine ja (jc (by assumption) ?_ rfl ?_) | refine jb (jd (by assumption) rfl ?_) ?_) | ((with_reducible refine je ?_) <;> (first | rfl | assumption | (simp only [znl,jR,jS,jT,jU,jV,jW,jX]; (first | done | fail)))) | (with_reducible refine jf (by (simp only [↓reduceIte,zlk,Nat.reduceEqDiff,reduceCtorEq]); exact rfl) ?_) | ((with_reducible first | refine jg (fun hc => ?_) (fun hc => ?_) | refine jh (fun hc => ?_) (fun hc => ?_)) <;> (try simp (disch := omega) only [zhb] at hc) <;> (try (exfalso; omega)) <;> (try subst hc)) | (with_reducible refine ji (by omega) ?_) | (simp (config := { maxSteps := 400000 }) only [↓jv,↓reduceIte,zvs,reduceCtorEq,Nat.reduceEqDiff,Nat.reduceAdd,Nat.reduceLeDiff,Nat.reduceMul,Int.reduceBNe,Int.reduceBEq,Int.reduceEq,Int.reduceNe,Int.reduceLT,Int.reduceLE,Int.reduceGT,Int.reduceGE,Int.reduceNeg,Int.reduceToNat,Nat.reduceLT,Nat.reduceSub,tab,et,storeAt_go,isP_ptr,Try.results18,List.toList_toArray]) | (simp (disch := omega) only [ziw]))
              all_goals first
                | (exfalso; omega)
                | (((try simp only [List.map_nil]); simp only [zrds]; (repeat' (first | exact rd_nil | exact Rd.refl _ _ (by first | rfl | assumption | (simp only [znl,jR,jS,jT,jU,jV,jW,jX]; (first | done | fail))) | (refine And.intro ?_ ?_) | (refine rd_own (by (simp only [↓reduceIte,zlk,Nat.reduceEqDiff,reduceCtorEq]); exact rfl) ?_ ?_ ?_) | rfl | assumption | (simp only [znl,jR,jS,jT,jU,jV,jW,jX]; (first | done | fail)) | (simp; done) | (simp; omega)))); done)
                | trace_state
          · have e2 := of_decide_eq_true e2
            rw [if_neg (show ¬nextF m.pr m.cur = 0 by omega), if_pos (show 0 < nextF m.pr m.cur by omega)] at hT
            rw [hT]
            repeat' (first | (with_reducible first | refine ju ?_ | refine xs1 ?_ | refine xs2 ?_ | refine xs3 ?_ | refine xb1 ?_ | refine xb2 ?_ | refine xb3 (by decide) ?_ | refine xb4 ?_ | refine xl2 ?_ | refine xl3 ?_ | refine xc2 ?_ | refine xc3 ?_ | refine jn ?_ | refine jo ?_ | refine jp ?_ | refine jq ?_ | refine jr ?_ | refine jt ?_ | refine jk (fun M hM => ?_) | refine vif_t ?_ | refine vif_f ?_ | refine jl ?_ | refine jm ?_ | (refine hM _ ?_; clear hM M) | refine ja (jc (by assumption) ?_ rfl ?_) | refine jb (jd (by assumption) rfl ?_) ?_) | ((with_reducible refine je ?_) <;> (first | rfl | assumption | (simp only [znl,jR,jS,jT,jU,jV,jW,jX]; (first | done | fail)))) | (with_reducible refine jf (by (simp only [↓reduceIte,zlk,Nat.reduceEqDiff,reduceCtorEq]); exact rfl) ?_) | ((with_reducible first | refine jg (fun hc => ?_) (fun hc => ?_) | refine jh (fun hc => ?_) (fun hc => ?_)) <;> (try simp (disch := omega) only [zhb] at hc) <;> (try (exfalso; omega)) <;> (try subst hc)) | (with_reducible refine ji (by omega) ?_) | (simp (config := { maxSteps := 400000 }) only [↓jv,↓reduceIte,zvs,reduceCtorEq,Nat.reduceEqDiff,Nat.reduceAdd,Nat.reduceLeDiff,Nat.reduceMul,Int.reduceBNe,Int.reduceBEq,Int.reduceEq,Int.reduceNe,Int.reduceLT,Int.reduceLE,Int.reduceGT,Int.reduceGE,Int.reduceNeg,Int.reduceToNat,Nat.reduceLT,Nat.reduceSub,tab,et,Try.results18,List.toList_toArray]) | (simp (disch := omega) only [ziw]))
            refine ok_drawG 5 [0, 1, 2, 3] 4 2 (by kernel_rfl) (by decide +kernel) (by decide) (by decide) (by intro m hm; simp only [upd_ap,rows_cons,rows_nil]; (repeat (first | rfl | rw [if_neg (by omega)]))) (fun M hM => ?_); simp only [picks,List.getElem?_cons_succ,List.getElem?_cons_zero,List.drop_succ_cons,List.drop_zero]
            repeat' (first | (with_reducible first | refine ju ?_ | refine xs1 ?_ | refine xs2 ?_ | refine xs3 ?_ | refine xb1 ?_ | refine xb2 ?_ | refine xb3 (by decide) ?_ | refine xb4 ?_ | refine xl2 ?_ | refine xl3 ?_ | refine xc2 ?_ | refine xc3 ?_ | refine jn ?_ | refine jo ?_ | refine jp ?_ | refine jq ?_ | refine jr ?_ | refine jt ?_ | refine jk (fun M hM => ?_) | refine vif_t ?_ | refine vif_f ?_ | refine jl ?_ | refine jm ?_ | (refine hM _ ?_; clear hM M) | refine ja (jc (by assumption) ?_ rfl ?_) | refine jb (jd (by assumption) rfl ?_) ?_) | ((with_reducible refine je ?_) <;> (first | rfl | assumption | (simp only [znl,jR,jS,jT,jU,jV,jW,jX]; (first | done | fail)))) | (with_reducible refine jf (by (simp only [↓reduceIte,zlk,Nat.reduceEqDiff,reduceCtorEq]); exact rfl) ?_) | ((with_reducible first | refine jg (fun hc => ?_) (fun hc => ?_) | refine jh (fun hc => ?_) (fun hc => ?_)) <;> (try simp (disch := omega) only [zhb] at hc) <;> (try (exfalso; omega)) <;> (try subst hc)) | (with_reducible refine ji (by omega) ?_) | (simp (config := { maxSteps := 400000 }) only [↓jv,↓reduceIte,zvs,reduceCtorEq,Nat.reduceEqDiff,Nat.reduceAdd,Nat.reduceLeDiff,Nat.reduceMul,Int.reduceBNe,Int.reduceBEq,Int.reduceEq,Int.reduceNe,Int.reduceLT,Int.reduceLE,Int.reduceGT,Int.reduceGE,Int.reduceNeg,Int.reduceToNat,Nat.reduceLT,Nat.reduceSub,tab,et,storeAt_go,isP_ptr,Try.results18,List.toList_toArray]) | (simp (disch := omega) only [ziw]))
            all_goals first
              | (exfalso; omega)
              | (((try simp only [List.map_nil]); simp only [zrds]; (repeat' (first | exact rd_nil | exact Rd.refl _ _ (by first | rfl | assumption | (simp only [znl,jR,jS,jT,jU,jV,jW,jX]; (first | done | fail))) | (refine And.intro ?_ ?_) | (refine rd_own (by (simp only [↓reduceIte,zlk,Nat.reduceEqDiff,reduceCtorEq]); exact rfl) ?_ ?_ ?_) | rfl | assumption | (simp only [znl,jR,jS,jT,jU,jV,jW,jX]; (first | done | fail)) | (simp; done) | (simp; omega)))); done)
              | trace_state
end Go.Proofs.Ytlgldkjjbbbapaa.V
end
section
/-
  MACHINES, part 20: the chapter's example of turns; machines that may be.
-/
set_option linter.unusedVariables false
set_option linter.unusedSimpArgs false
namespace Go.Proofs.Ytlgldkjjbbbapaa.V
open Go
set_option maxRecDepth 100000
-- nlx: jR, jS, jT, jU, jV, jW, jX
set_option maxHeartbeats 4000000
theorem procQ_pos {m : Mach} {i : Nat} (h : procQ m i = true) : 1 ≤ (m.pr.getD i default).pid ∧ procB m (m.pr.getD i default) = true := by
  unfold procQ at h
  rw [Bool.and_eq_true] at h
  refine ⟨?_, h.2⟩
  have h2 := h.2
  unfold procB at h2
  simp only [Bool.and_eq_true] at h2
  have := (procH_iff m _).1 h2.1.1
  unfold headP at this
  exact this.1
theorem procQ_inc {m : Mach} {i : Nat} (h : procQ m (i + 1) = true) : (m.pr.getD i default).pid < (m.pr.getD (i + 1) default).pid := by
  unfold procQ at h
  rw [Bool.and_eq_true, Nat.add_sub_cancel, decide_eq_true (Nat.succ_pos i)] at h
  have h1 := h.1
  simp only [Bool.true_and,Bool.not_eq_true',decide_eq_false_iff_not] at h1
  omega
theorem chk_parts {m : Mach} (h : chkM m = 0) : numB m = false ∧ (1 ≤ m.fr.length ∧ m.fr.length ≤ 64) ∧ (∀ s ∈ m.fr, s.length = 128) ∧ m.pr.length ≤ 8 ∧ procsB m = true ∧ m.pipes.length ≤ 64 ∧ pipesB m = true ∧ m.inp.length ≤ 65536 ∧ m.init.length ≤ 128 ∧ diskE m = 0 := by
  unfold chkM at h
  split at h
  · omega
  split at h
  · omega
  split at h
  · omega
  split at h
  · omega
  split at h
  · omega
  split at h
  · omega
  split at h
  · omega
  split at h
  · omega
  rename_i h1 h2 h3 h4 h5 h6 h7 h8
  refine ⟨by simpa using h1, by omega, fun s hs => ?_, by omega, by simpa using h5, by omega, by simpa using h7, by omega, by omega, h⟩
  refine Decidable.byContradiction fun hc => h3 ?_
  rw [List.any_eq_true]
  exact ⟨s, hs, decide_eq_true hc⟩
theorem chk_pids {m : Mach} (h : chkM m = 0) : PidOk m := by
  obtain ⟨h1, _, _, _, h5, _⟩ := chk_parts h
  have hq : ∀ i, i < m.pr.length → procQ m i = true := fun i hi => (List.all_eq_true.1 h5) i (List.mem_range.2 hi)
  refine ⟨fun p hp => ?_, ?_, ?_⟩
  · obtain ⟨i, hi, rfl⟩ := List.mem_iff_getElem.1 hp
    have := (procQ_pos (hq i hi)).1
    rw [List.getD_eq_getElem?_getD, List.getElem?_eq_getElem hi] at this
    exact this
  · rw [List.pairwise_iff_getElem]
    have key : ∀ d i, i + d + 1 < m.pr.length → (m.pr.getD i default).pid < (m.pr.getD (i + d + 1) default).pid := by
      intro d
      induction d with
      | zero => intro i hi; exact procQ_inc (hq (i + 1) hi)
      | succ d ih =>
        intro i hi
        have h1 := ih i (by omega)
        have h2 := procQ_inc (i := i + d + 1) (hq _ (by omega))
        rw [show i + (d + 1) + 1 = i + d + 1 + 1 by omega]
        omega
    intro i j hi hj hij
    have := key (j - i - 1) i (by omega)
    rw [show i + (j - i - 1) + 1 = j by omega, List.getD_eq_getElem?_getD, List.getElem?_eq_getElem hi, List.getD_eq_getElem?_getD, List.getElem?_eq_getElem hj] at this
    exact this
  · unfold numB at h1
    have := of_decide_eq_false h1
    omega
structure MOk (m : Mach) : Prop where
  fit : MFit 20000 m
  chk : chkM m = 0
def sadB (m : Mach) : Bool := greatM m || decide (chkM m ≠ 0)
theorem great27_spec (m : Mach) (hm : MFit (2 ^ 47) m) : Spec Try.prog 15 [encM m] (.bool (sadB m)) := by
  have hG := great_spec m hm
  unfold sadB
  cases hg : greatM m with
  | true =>
    rw [hg, if_pos rfl] at hG
    refine spec_ok Try.func15 rfl rfl (by kernel_rfl) (k := 1) rfl (by decide) ?_
    repeat' (first | (with_reducible first | refine ju ?_ | refine xs1 ?_ | refine xs2 ?_ | refine xs3 ?_ | refine xb1 ?_ | refine xb2 ?_ | refine xb3 (by decide) ?_ | refine xb4 ?_ | refine xl2 ?_ | refine xl3 ?_ | refine xc2 ?_ | refine xc3 ?_ | refine jn ?_ | refine jo ?_ | refine jp ?_ | refine jq ?_ | refine jr ?_ | refine jt ?_ | refine jk (fun M hM => ?_) | refine vif_t ?_ | refine vif_f ?_ | refine jl ?_ | refine jm ?_ | (refine hM _ ?_; clear hM M) | refine ja (jc (by assumption) ?_ rfl ?_) | refine jb (jd (by assumption) rfl ?_) ?_) | ((with_reducible refine je ?_) <;> (first | rfl | assumption | (simp only [znl,jR,jS,jT,jU,jV,jW,jX]; (first | done | fail)))) | (with_reducible refine jf (by (simp only [↓reduceIte,zlk,Nat.reduceEqDiff,reduceCtorEq]); exact rfl) ?_) | ((with_reducible first | refine jg (fun hc => ?_) (fun hc => ?_) | refine jh (fun hc => ?_) (fun hc => ?_)) <;> (try simp (disch := omega) only [zhb] at hc) <;> (try (exfalso; omega)) <;> (try subst hc)) | (with_reducible refine ji (by omega) ?_) | (simp (config := { maxSteps := 400000 }) only [↓jv,↓reduceIte,zvs,reduceCtorEq,Nat.reduceEqDiff,Nat.reduceAdd,Nat.reduceLeDiff,Nat.reduceMul,Int.reduceBNe,Int.reduceBEq,Int.reduceEq,Int.reduceNe,Int.reduceLT,Int.reduceLE,Int.reduceGT,Int.reduceGE,Int.reduceNeg,Int.reduceToNat,Nat.reduceLT,Nat.reduceSub,tab,Try.results15,List.toList_toArray]) | (simp (disch := omega) only [ziw]))
    all_goals first
      | (exfalso; omega)
      | (simp only [zrds]; done)
      | (simp only [zrds]; rfl)
      | trace_state
  | false =>
    rw [hg, if_neg (by simp)] at hG
    have hC := rcheckM_spec m (hm.small hg).1
    by_cases hc0 : chkM m = 0
    · rw [hc0] at hC
      rw [decide_eq_false (by omega)]
      refine spec_ok Try.func15 rfl rfl (by kernel_rfl) (k := 1) rfl (by decide) ?_
      repeat' (first | (with_reducible first | refine ju ?_ | refine xs1 ?_ | refine xs2 ?_ | refine xs3 ?_ | refine xb1 ?_ | refine xb2 ?_ | refine xb3 (by decide) ?_ | refine xb4 ?_ | refine xl2 ?_ | refine xl3 ?_ | refine xc2 ?_ | refine xc3 ?_ | refine jn ?_ | refine jo ?_ | refine jp ?_ | refine jq ?_ | refine jr ?_ | refine jt ?_ | refine jk (fun M hM => ?_) | refine vif_t ?_ | refine vif_f ?_ | refine jl ?_ | refine jm ?_ | (refine hM _ ?_; clear hM M) | refine ja (jc (by assumption) ?_ rfl ?_) | refine jb (jd (by assumption) rfl ?_) ?_) | ((with_reducible refine je ?_) <;> (first | rfl | assumption | (simp only [znl,jR,jS,jT,jU,jV,jW,jX]; (first | done | fail)))) | (with_reducible refine jf (by (simp only [↓reduceIte,zlk,Nat.reduceEqDiff,reduceCtorEq]); exact rfl) ?_) | ((with_reducible first | refine jg (fun hc => ?_) (fun hc => ?_) | refine jh (fun hc => ?_) (fun hc => ?_)) <;> (try simp (disch := omega) only [zhb] at hc) <;> (try (exfalso; omega)) <;> (try subst hc)) | (with_reducible refine ji (by omega) ?_) | (simp (config := { maxSteps := 400000 }) only [↓jv,↓reduceIte,zvs,reduceCtorEq,Nat.reduceEqDiff,Nat.reduceAdd,Nat.reduceLeDiff,Nat.reduceMul,Int.reduceBNe,Int.reduceBEq,Int.reduceEq,Int.reduceNe,Int.reduceLT,Int.reduceLE,Int.reduceGT,Int.reduceGE,Int.reduceNeg,Int.reduceToNat,Nat.reduceLT,Nat.reduceSub,tab,Try.results15,List.toList_toArray]) | (simp (disch := omega) only [ziw]))
      all_goals first
        | (exfalso; omega)
        | (simp only [zrds]; done)
        | (simp only [zrds]; rfl)
        | trace_state
    · rw [decide_eq_true hc0]
      generalize chkM m = c at hC hc0
      have hcb : (c != 0) = true := bne_iff_ne.2 hc0
      refine spec_ok Try.func15 rfl rfl (by kernel_rfl) (k := 1) rfl (by decide) ?_
      repeat' (first | (with_reducible first | refine ju ?_ | refine xs1 ?_ | refine xs2 ?_ | refine xs3 ?_ | refine xb1 ?_ | refine xb2 ?_ | refine xb3 (by decide) ?_ | refine xb4 ?_ | refine xl2 ?_ | refine xl3 ?_ | refine xc2 ?_ | refine xc3 ?_ | refine jn ?_ | refine jo ?_ | refine jp ?_ | refine jq ?_ | refine jr ?_ | refine jt ?_ | refine jk (fun M hM => ?_) | refine vif_t ?_ | refine vif_f ?_ | refine jl ?_ | refine jm ?_ | (refine hM _ ?_; clear hM M) | refine ja (jc (by assumption) ?_ rfl ?_) | refine jb (jd (by assumption) rfl ?_) ?_) | ((with_reducible refine je ?_) <;> (first | rfl | assumption | (simp only [znl,jR,jS,jT,jU,jV,jW,jX]; (first | done | fail)))) | (with_reducible refine jf (by (simp only [↓reduceIte,zlk,Nat.reduceEqDiff,reduceCtorEq]); exact rfl) ?_) | ((with_reducible first | refine jg (fun hc => ?_) (fun hc => ?_) | refine jh (fun hc => ?_) (fun hc => ?_)) <;> (try simp (disch := omega) only [zhb] at hc) <;> (try (exfalso; omega)) <;> (try subst hc)) | (with_reducible refine ji (by omega) ?_) | (simp (config := { maxSteps := 400000 }) only [↓jv,↓reduceIte,zvs,reduceCtorEq,Nat.reduceEqDiff,Nat.reduceAdd,Nat.reduceLeDiff,Nat.reduceMul,Int.reduceBNe,Int.reduceBEq,Int.reduceEq,Int.reduceNe,Int.reduceLT,Int.reduceLE,Int.reduceGT,Int.reduceGE,Int.reduceNeg,Int.reduceToNat,Nat.reduceLT,Nat.reduceSub,tab,hcb,Try.results15,List.toList_toArray]) | (simp (disch := omega) only [ziw]))
      all_goals first
        | (exfalso; omega)
        | (simp only [zrds]; done)
        | (simp only [zrds]; rfl)
        | trace_state
def rp (pid : Int) : Pr := ⟨pid, 0, 1, List.replicate 16 0, 0, List.replicate 16 ⟨false, false, 0⟩, List.replicate 8 ⟨0, 0, 0⟩, false, 0, 0, 0⟩
def exM (f : List UInt8) (d : Dr) (c l : Int) : Mach := ⟨0, 3, c, l, [f, f, f, f], [rp 1, rp 2], 3, [], [], 1, [], false, 0, d, []⟩
end Go.Proofs.Ytlgldkjjbbbapaa.V
end
section
/-
  MACHINES, part 21: the chapter's example of turns.
-/
set_option linter.unusedVariables false
set_option linter.unusedSimpArgs false
namespace Go.Proofs.Ytlgldkjjbbbapaa.V
open Go
set_option maxRecDepth 100000
-- nlx: jR, jS, jT, jU, jV, jW, jX
set_option maxHeartbeats 4000000
abbrev zP (pid : Int) : VV := .agg [.int .i64 pid, .int .i64 0, .int .i64 1, .agg [.agg (List.replicate 16 (.int .u32 0)), .int .u32 0], .agg (List.replicate 16 (.agg [.bool false, .bool false, .int .i64 0])), .agg (List.replicate 8 (.agg [.int .i64 0, .int .i64 0, .int .i64 0])), .bool false, .int .u32 0, .int .i64 0, .int .u64 0]
abbrev exV (f : List UInt8) (d : Dr) (ps : VV) (c l nx : Int) : VV := .agg [.int .u64 0, .int .i64 3, .int .i64 c, .int .i64 l, encStrs [f, f, f, f], ps, .int .i64 nx, .str [], encPis [], .int .i64 1, .str [], .bool false, .int .u64 0, encDr d, encWrs []]
theorem i64_of {x : Int} (h : -1000 ≤ x ∧ x ≤ 1000) : i64R x := by unfold i64R; omega
theorem u64_of {x : Int} (h : 0 ≤ x ∧ x ≤ 1000) : u64R x := by unfold u64R; omega
theorem u32_of {x : Int} (h : 0 ≤ x ∧ x ≤ 1000) : u32R x := by unfold u32R; omega
theorem rp_ok (pid : Int) (hp : 1 ≤ pid ∧ pid ≤ 2) : PrR (rp pid) where
  pid := i64_of (show -1000 ≤ pid ∧ pid ≤ 1000 by omega)
  par := i64_of (show -1000 ≤ (0 : Int) ∧ (0 : Int) ≤ 1000 by omega)
  st := i64_of (show -1000 ≤ (1 : Int) ∧ (1 : Int) ≤ 1000 by omega)
  rs := List.length_replicate
  rsR := fun x hx => by rw [(List.mem_replicate.1 hx).2]; exact u32_of (by omega)
  pc := u32_of (show 0 ≤ (0 : Int) ∧ (0 : Int) ≤ 1000 by omega)
  sp := List.length_replicate
  spR := fun x hx => by rw [(List.mem_replicate.1 hx).2]; exact i64_of (show -1000 ≤ (0 : Int) ∧ (0 : Int) ≤ 1000 by omega)
  fds := List.length_replicate
  fdsR := fun x hx => by
    rw [(List.mem_replicate.1 hx).2]
    have h0 : i64R 0 := i64_of (by omega)
    exact ⟨h0, h0, h0⟩
  code := u32_of (show 0 ≤ (0 : Int) ∧ (0 : Int) ≤ 1000 by omega)
  why := i64_of (show -1000 ≤ (0 : Int) ∧ (0 : Int) ≤ 1000 by omega)
  n := u64_of (show 0 ≤ (0 : Int) ∧ (0 : Int) ≤ 1000 by omega)
theorem exM_fit (f : List UInt8) (d : Dr) (c l : Int) (hf : f.length = 128) (h1 : d.bl.length = 57) (h2 : ∀ s ∈ d.bl, s.length = 128) (h3 : d.pe = []) (h4 : d.left = -1) (hc : 0 ≤ c ∧ c ≤ 10) (hl : 0 ≤ l ∧ l ≤ 10) : MFit 20000 (exM f d c l) where
  clock := u64_of (show 0 ≤ (0 : Int) ∧ (0 : Int) ≤ 1000 by omega)
  quantum := i64_of (show -1000 ≤ (3 : Int) ∧ (3 : Int) ≤ 1000 by omega)
  cur := i64_of (show -1000 ≤ c ∧ c ≤ 1000 by omega)
  left := i64_of (show -1000 ≤ l ∧ l ≤ 1000 by omega)
  fr := show 4 ≤ 20000 by omega
  frS := fun s hs => by
    simp only [exM,List.mem_cons,List.not_mem_nil,or_false] at hs
    rcases hs with rfl | rfl | rfl | rfl <;> omega
  pr := show 2 ≤ 20000 by omega
  prR := fun p hp => by
    simp only [exM,List.mem_cons,List.not_mem_nil,or_false] at hp
    rcases hp with rfl | rfl
    · exact rp_ok 1 (by omega)
    · exact rp_ok 2 (by omega)
  next := i64_of (show -1000 ≤ (3 : Int) ∧ (3 : Int) ≤ 1000 by omega)
  init := show 0 ≤ 20000 by omega
  pipes := show 0 ≤ 20000 by omega
  pipesR := fun p hp => by cases hp
  newp := i64_of (show -1000 ≤ (1 : Int) ∧ (1 : Int) ≤ 1000 by omega)
  inp := show 0 ≤ 20000 by omega
  told := u64_of (show 0 ≤ (0 : Int) ∧ (0 : Int) ≤ 1000 by omega)
  bl := show d.bl.length ≤ 20000 by omega
  blS := fun s hs => by have := h2 s hs; omega
  pe := by show d.pe.length ≤ 20000; rw [h3]; exact Nat.zero_le _
  peS := fun w hw => by
    exfalso
    rw [show (exM f d c l).dr.pe = [] from h3] at hw
    cases hw
  dleft := by show i64R d.left; rw [h4]; exact i64_of (by omega)
  dirty := show 0 ≤ 20000 by omega
  dirtyS := fun w hw => by cases hw
theorem exM_pid (f : List UInt8) (d : Dr) (c l : Int) (hc : 0 ≤ c) : PidOk (exM f d c l) := by
  refine ⟨fun p hp => ?_, ?_, hc⟩
  · simp only [exM,List.mem_cons,List.not_mem_nil,or_false] at hp
    rcases hp with rfl | rfl <;> decide
  · simp only [exM,List.pairwise_cons,List.mem_cons,List.not_mem_nil,or_false,forall_eq,List.Pairwise.nil,and_true,false_imp_iff,implies_true]
    decide
theorem fixed27_spec : Spec Try.prog 16 [] (.bool true) := by
  obtain ⟨f, d, hf, h1, h2, h3, h4, hB⟩ := bare_spec
  have hP1 : Spec Try.prog 18 [exV f d (.dat prSh [zP 1, zP 2]) 1 0 3] (exV f d (.dat prSh [zP 1, zP 2]) 2 3 3) := by
    have := pick_spec (exM f d 1 0) (exM_fit f d 1 0 hf h1 h2 h3 h4 (by omega) (by omega)) (exM_pid f d 1 0 (by omega))
    rw [show pickM (exM f d 1 0) = exM f d 2 3 from rfl] at this
    exact this
  have hP2 : Spec Try.prog 18 [exV f d (.dat prSh [zP 1, zP 2]) 2 0 3] (exV f d (.dat prSh [zP 1, zP 2]) 1 3 3) := by
    have := pick_spec (exM f d 2 0) (exM_fit f d 2 0 hf h1 h2 h3 h4 (by omega) (by omega)) (exM_pid f d 2 0 (by omega))
    rw [show pickM (exM f d 2 0) = exM f d 1 3 from rfl] at this
    exact this
  have hB : Spec Try.prog 29 [] (exV f d (encPrs []) 0 0 1) := hB
  clear h1 h2 h3 h4
  have hn0 : nls (zP 1 :: zP 2 :: []) = true := rfl
  have hn1 : nls [exV f d (.dat prSh [zP 1, zP 2]) 1 0 3] = true := by
    generalize [zP 1, zP 2] = Z at hn0
    simp [nls, nl, hn0, jR, nls_mapStr]
  have hn2 : nls [exV f d (.dat prSh [zP 1, zP 2]) 2 0 3] = true := by
    generalize [zP 1, zP 2] = Z at hn0
    simp [nls, nl, hn0, jR, nls_mapStr]
  have hz1 : Has (Sh.arr 16 Sh.cell) (VV.agg (List.replicate 16 (VV.int IntKind.u32 0))) := by simp [Has, VV.leaf]
  have hz2 : Has (Sh.arr 16 (Sh.st [Sh.cell, Sh.cell, Sh.cell])) (VV.agg (List.replicate 16 (VV.agg [VV.bool false, VV.bool false, VV.int IntKind.i64 0]))) := by simp [Has, HasL, VV.leaf]
  have hz3 : Has (Sh.arr 8 (Sh.st [Sh.cell, Sh.cell, Sh.cell])) (VV.agg (List.replicate 8 (VV.agg [VV.int IntKind.i64 0, VV.int IntKind.i64 0, VV.int IntKind.i64 0]))) := by simp [Has, HasL, VV.leaf]
  refine spec_ok Try.func16 rfl rfl (by kernel_rfl) (k := 0) rfl (by decide) ?_
  refine ok_cut (fun _ : Unit => ⟨slots [], rows [], 0⟩) (fun _ => True) ?_ fun _ _ => ?_
  · repeat' (first | (with_reducible first | refine ju ?_ | refine xs1 ?_ | refine xs2 ?_ | refine xs3 ?_ | refine xb1 ?_ | refine xb2 ?_ | refine xb3 (by decide) ?_ | refine xb4 ?_ | refine xl2 ?_ | refine xl3 ?_ | refine xc2 ?_ | refine xc3 ?_ | refine jn ?_ | refine jo ?_ | refine jp ?_ | refine jq ?_ | refine jr ?_ | refine jt ?_ | refine jk (fun M hM => ?_) | refine vif_t ?_ | refine vif_f ?_ | refine jl ?_ | refine jm ?_ | (refine hM _ ?_; clear hM M) | refine ja (jc (by assumption) ?_ rfl ?_) | refine jb (jd (by assumption) rfl ?_) ?_) | ((with_reducible refine je ?_) <;> (first | rfl | assumption | (simp only [znl,jR,jS,jT,jU,jV,jW,jX]; (first | done | fail)))) | (with_reducible refine jf (by (simp only [↓reduceIte,zlk,Nat.reduceEqDiff,reduceCtorEq]); exact rfl) ?_) | ((with_reducible first | refine jg (fun hc => ?_) (fun hc => ?_) | refine jh (fun hc => ?_) (fun hc => ?_)) <;> (try simp (disch := omega) only [zhb] at hc) <;> (try (exfalso; omega)) <;> (try subst hc)) | (with_reducible refine ji (by omega) ?_) | (simp (config := { maxSteps := 400000 }) only [↓jv,↓reduceIte,zvs,reduceCtorEq,Nat.reduceEqDiff,Nat.reduceAdd,Nat.reduceLeDiff,Nat.reduceMul,Int.reduceBNe,Int.reduceBEq,Int.reduceEq,Int.reduceNe,Int.reduceLT,Int.reduceLE,Int.reduceGT,Int.reduceGE,Int.reduceNeg,Int.reduceToNat,Nat.reduceLT,Nat.reduceSub,tab,hz1,hz2,hz3,Try.results16,List.toList_toArray]) | (simp (disch := omega) only [ziw]))
    refine xc1 () ?_ trivial
    (refine Ren.mk [] false (by first | (intro h; cases h; done) | exact fun _ => rfl) (by first | decide | rfl | (simp [jQ]; done)) (by decide) ?_ ?_ <;> (repeat' (first | (with_reducible first | refine jw (by first | rfl | omega) | refine jx rfl | refine jy rfl | refine jz rfl (by first | rfl | assumption | (simp only [znl,jR,jS,jT,jU,jV,jW,jX]; (first | done | fail))) | refine jF ?_ ?_ (by first | rfl | omega) | refine MR.ptr ?_ ?_ | refine jA | refine jB | refine jC ?_ | refine jD rfl (by (simp only [↓reduceIte,zlk,Nat.reduceEqDiff,reduceCtorEq]); exact rfl) ?_ ?_ ?_ (by decide) | refine jE rfl (by first | rfl | assumption | (simp only [znl,jR,jS,jT,jU,jV,jW,jX]; (first | done | fail))) | refine MR.agg (MRL.cons ?_ ?_) | refine jE ?_ (by first | rfl | assumption | (simp only [znl,jR,jS,jT,jU,jV,jW,jX]; (first | done | fail))) | refine MR.fn ?_ | refine MRL.cons ?_ ?_ | refine MRL.nil | refine jG ?_ ?_ | refine jH | refine jI | refine jJ ?_ (by (simp only [↓reduceIte,zlk,Nat.reduceEqDiff,reduceCtorEq]); exact rfl) ?_ ?_ | refine MB.row ?_ | refine jK ?_ ?_ | refine MR.map ?_ ?_ | refine jL rfl (by first | rfl | assumption | (simp only [znl,jR,jS,jT,jU,jV,jW,jX]; (first | done | fail))) | rfl) | (simp only [znl,jR,jS,jT,jU,jV,jW,jX]; (first | done | fail)) | (refine jM rfl ?_) | exact jN rfl | exact jO rfl | ((with_reducible refine jP ?_) <;> rfl) | (simp only [↓reduceIte,zlk,Nat.reduceEqDiff,reduceCtorEq]) | (with_reducible first | refine jL ?_ ?_ | refine jF ?_ ?_ ?_ | refine jw ?_ | refine jx ?_ | refine jy ?_ | refine jz ?_ (by first | rfl | assumption | (simp only [znl,jR,jS,jT,jU,jV,jW,jX]; (first | done | fail))) | refine jE ?_ ?_))))
  refine ok_cut (fun _ : Unit => ⟨slots [(1, .ptr 0 [])], rows [(0, .row machSh (exV f d (encPrs []) 0 0 1))], 1⟩) (fun _ => True) ?_ fun _ _ => ?_
  · repeat' (first | (with_reducible first | refine ju ?_ | refine xs1 ?_ | refine xs2 ?_ | refine xs3 ?_ | refine xb1 ?_ | refine xb2 ?_ | refine xb3 (by decide) ?_ | refine xb4 ?_ | refine xl2 ?_ | refine xl3 ?_ | refine xc2 ?_ | refine xc3 ?_ | refine jn ?_ | refine jo ?_ | refine jp ?_ | refine jq ?_ | refine jr ?_ | refine jt ?_ | refine jk (fun M hM => ?_) | refine vif_t ?_ | refine vif_f ?_ | refine jl ?_ | refine jm ?_ | (refine hM _ ?_; clear hM M) | refine ja (jc (by assumption) ?_ rfl ?_) | refine jb (jd (by assumption) rfl ?_) ?_) | ((with_reducible refine je ?_) <;> (first | rfl | assumption | (simp only [znl,jR,jS,jT,jU,jV,jW,jX]; (first | done | fail)))) | (with_reducible refine jf (by (simp only [↓reduceIte,zlk,Nat.reduceEqDiff,reduceCtorEq]); exact rfl) ?_) | ((with_reducible first | refine jg (fun hc => ?_) (fun hc => ?_) | refine jh (fun hc => ?_) (fun hc => ?_)) <;> (try simp (disch := omega) only [zhb] at hc) <;> (try (exfalso; omega)) <;> (try subst hc)) | (with_reducible refine ji (by omega) ?_) | (simp (config := { maxSteps := 400000 }) only [↓jv,↓reduceIte,zvs,reduceCtorEq,Nat.reduceEqDiff,Nat.reduceAdd,Nat.reduceLeDiff,Nat.reduceMul,Int.reduceBNe,Int.reduceBEq,Int.reduceEq,Int.reduceNe,Int.reduceLT,Int.reduceLE,Int.reduceGT,Int.reduceGE,Int.reduceNeg,Int.reduceToNat,Nat.reduceLT,Nat.reduceSub,tab,hz1,hz2,hz3,Try.results16,List.toList_toArray]) | (simp (disch := omega) only [ziw]))
    refine xc1 () ?_ trivial
    (refine Ren.mk [(0, 0)] false (by first | (intro h; cases h; done) | exact fun _ => rfl) (by first | decide | rfl | (simp [jQ]; done)) (by decide) ?_ ?_ <;> (repeat' (first | (with_reducible first | refine jw (by first | rfl | omega) | refine jx rfl | refine jy rfl | refine jz rfl (by first | rfl | assumption | (simp only [znl,jR,jS,jT,jU,jV,jW,jX]; (first | done | fail))) | refine jF ?_ ?_ (by first | rfl | omega) | refine MR.ptr ?_ ?_ | refine jA | refine jB | refine jC ?_ | refine jD rfl (by (simp only [↓reduceIte,zlk,Nat.reduceEqDiff,reduceCtorEq]); exact rfl) ?_ ?_ ?_ (by decide) | refine jE rfl (by first | rfl | assumption | (simp only [znl,jR,jS,jT,jU,jV,jW,jX]; (first | done | fail))) | refine MR.agg (MRL.cons ?_ ?_) | refine jE ?_ (by first | rfl | assumption | (simp only [znl,jR,jS,jT,jU,jV,jW,jX]; (first | done | fail))) | refine MR.fn ?_ | refine MRL.cons ?_ ?_ | refine MRL.nil | refine jG ?_ ?_ | refine jH | refine jI | refine jJ ?_ (by (simp only [↓reduceIte,zlk,Nat.reduceEqDiff,reduceCtorEq]); exact rfl) ?_ ?_ | refine MB.row ?_ | refine jK ?_ ?_ | refine MR.map ?_ ?_ | refine jL rfl (by first | rfl | assumption | (simp only [znl,jR,jS,jT,jU,jV,jW,jX]; (first | done | fail))) | rfl) | (simp only [znl,jR,jS,jT,jU,jV,jW,jX]; (first | done | fail)) | (refine jM rfl ?_) | exact jN rfl | exact jO rfl | ((with_reducible refine jP ?_) <;> rfl) | (simp only [↓reduceIte,zlk,Nat.reduceEqDiff,reduceCtorEq]) | (with_reducible first | refine jL ?_ ?_ | refine jF ?_ ?_ ?_ | refine jw ?_ | refine jx ?_ | refine jy ?_ | refine jz ?_ (by first | rfl | assumption | (simp only [znl,jR,jS,jT,jU,jV,jW,jX]; (first | done | fail))) | refine jE ?_ ?_))))
  refine ok_cut (fun _ : Unit => ⟨slots [(1, .ptr 0 [])], rows [(0, .row machSh (exV f d (encPrs []) 1 0 3))], 1⟩) (fun _ => True) ?_ fun _ _ => ?_
  · repeat' (first | (with_reducible first | refine ju ?_ | refine xs1 ?_ | refine xs2 ?_ | refine xs3 ?_ | refine xb1 ?_ | refine xb2 ?_ | refine xb3 (by decide) ?_ | refine xb4 ?_ | refine xl2 ?_ | refine xl3 ?_ | refine xc2 ?_ | refine xc3 ?_ | refine jn ?_ | refine jo ?_ | refine jp ?_ | refine jq ?_ | refine jr ?_ | refine jt ?_ | refine jk (fun M hM => ?_) | refine vif_t ?_ | refine vif_f ?_ | refine jl ?_ | refine jm ?_ | (refine hM _ ?_; clear hM M) | refine ja (jc (by assumption) ?_ rfl ?_) | refine jb (jd (by assumption) rfl ?_) ?_) | ((with_reducible refine je ?_) <;> (first | rfl | assumption | (simp only [znl,jR,jS,jT,jU,jV,jW,jX]; (first | done | fail)))) | (with_reducible refine jf (by (simp only [↓reduceIte,zlk,Nat.reduceEqDiff,reduceCtorEq]); exact rfl) ?_) | ((with_reducible first | refine jg (fun hc => ?_) (fun hc => ?_) | refine jh (fun hc => ?_) (fun hc => ?_)) <;> (try simp (disch := omega) only [zhb] at hc) <;> (try (exfalso; omega)) <;> (try subst hc)) | (with_reducible refine ji (by omega) ?_) | (simp (config := { maxSteps := 400000 }) only [↓jv,↓reduceIte,zvs,reduceCtorEq,Nat.reduceEqDiff,Nat.reduceAdd,Nat.reduceLeDiff,Nat.reduceMul,Int.reduceBNe,Int.reduceBEq,Int.reduceEq,Int.reduceNe,Int.reduceLT,Int.reduceLE,Int.reduceGT,Int.reduceGE,Int.reduceNeg,Int.reduceToNat,Nat.reduceLT,Nat.reduceSub,tab,hz1,hz2,hz3,Try.results16,List.toList_toArray]) | (simp (disch := omega) only [ziw]))
    refine xc1 () ?_ trivial
    (refine Ren.mk [(0, 0)] false (by first | (intro h; cases h; done) | exact fun _ => rfl) (by first | decide | rfl | (simp [jQ]; done)) (by decide) ?_ ?_ <;> (repeat' (first | (with_reducible first | refine jw (by first | rfl | omega) | refine jx rfl | refine jy rfl | refine jz rfl (by first | rfl | assumption | (simp only [znl,jR,jS,jT,jU,jV,jW,jX]; (first | done | fail))) | refine jF ?_ ?_ (by first | rfl | omega) | refine MR.ptr ?_ ?_ | refine jA | refine jB | refine jC ?_ | refine jD rfl (by (simp only [↓reduceIte,zlk,Nat.reduceEqDiff,reduceCtorEq]); exact rfl) ?_ ?_ ?_ (by decide) | refine jE rfl (by first | rfl | assumption | (simp only [znl,jR,jS,jT,jU,jV,jW,jX]; (first | done | fail))) | refine MR.agg (MRL.cons ?_ ?_) | refine jE ?_ (by first | rfl | assumption | (simp only [znl,jR,jS,jT,jU,jV,jW,jX]; (first | done | fail))) | refine MR.fn ?_ | refine MRL.cons ?_ ?_ | refine MRL.nil | refine jG ?_ ?_ | refine jH | refine jI | refine jJ ?_ (by (simp only [↓reduceIte,zlk,Nat.reduceEqDiff,reduceCtorEq]); exact rfl) ?_ ?_ | refine MB.row ?_ | refine jK ?_ ?_ | refine MR.map ?_ ?_ | refine jL rfl (by first | rfl | assumption | (simp only [znl,jR,jS,jT,jU,jV,jW,jX]; (first | done | fail))) | rfl) | (simp only [znl,jR,jS,jT,jU,jV,jW,jX]; (first | done | fail)) | (refine jM rfl ?_) | exact jN rfl | exact jO rfl | ((with_reducible refine jP ?_) <;> rfl) | (simp only [↓reduceIte,zlk,Nat.reduceEqDiff,reduceCtorEq]) | (with_reducible first | refine jL ?_ ?_ | refine jF ?_ ?_ ?_ | refine jw ?_ | refine jx ?_ | refine jy ?_ | refine jz ?_ (by first | rfl | assumption | (simp only [znl,jR,jS,jT,jU,jV,jW,jX]; (first | done | fail))) | refine jE ?_ ?_))))
  refine ok_cut (fun _ : Unit => ⟨slots [(1, .ptr 0 [])], rows [(0, .row machSh (exV f d (.dat prSh [zP 1, zP 2]) 1 0 3))], 1⟩) (fun _ => True) ?_ fun _ _ => ?_
  · repeat' (first | (with_reducible first | refine ju ?_ | refine xs1 ?_ | refine xs2 ?_ | refine xs3 ?_ | refine xb1 ?_ | refine xb2 ?_ | refine xb3 (by decide) ?_ | refine xb4 ?_ | refine xl2 ?_ | refine xl3 ?_ | refine xc2 ?_ | refine xc3 ?_ | refine jn ?_ | refine jo ?_ | refine jp ?_ | refine jq ?_ | refine jr ?_ | refine jt ?_ | refine jk (fun M hM => ?_) | refine vif_t ?_ | refine vif_f ?_ | refine jl ?_ | refine jm ?_ | (refine hM _ ?_; clear hM M) | refine ja (jc (by assumption) ?_ rfl ?_) | refine jb (jd (by assumption) rfl ?_) ?_) | ((with_reducible refine je ?_) <;> (first | rfl | assumption | (simp only [znl,jR,jS,jT,jU,jV,jW,jX]; (first | done | fail)))) | (with_reducible refine jf (by (simp only [↓reduceIte,zlk,Nat.reduceEqDiff,reduceCtorEq]); exact rfl) ?_) | ((with_reducible first | refine jg (fun hc => ?_) (fun hc => ?_) | refine jh (fun hc => ?_) (fun hc => ?_)) <;> (try simp (disch := omega) only [zhb] at hc) <;> (try (exfalso; omega)) <;> (try subst hc)) | (with_reducible refine ji (by omega) ?_) | (simp (config := { maxSteps := 400000 }) only [↓jv,↓reduceIte,zvs,reduceCtorEq,Nat.reduceEqDiff,Nat.reduceAdd,Nat.reduceLeDiff,Nat.reduceMul,Int.reduceBNe,Int.reduceBEq,Int.reduceEq,Int.reduceNe,Int.reduceLT,Int.reduceLE,Int.reduceGT,Int.reduceGE,Int.reduceNeg,Int.reduceToNat,Nat.reduceLT,Nat.reduceSub,tab,hz1,hz2,hz3,Try.results16,List.toList_toArray]) | (simp (disch := omega) only [ziw]))
    refine xc1 () ?_ trivial
    (refine Ren.mk [(0, 0)] true (by first | (intro h; cases h; done) | exact fun _ => rfl) (by first | decide | rfl | (simp [jQ]; done)) (by decide) ?_ ?_ <;> (repeat' (first | (with_reducible first | refine jw (by first | rfl | omega) | refine jx rfl | refine jy rfl | refine jz rfl (by first | rfl | assumption | (simp only [znl,jR,jS,jT,jU,jV,jW,jX]; (first | done | fail))) | refine jF ?_ ?_ (by first | rfl | omega) | refine MR.ptr ?_ ?_ | refine jA | refine jB | refine jC ?_ | refine jD rfl (by (simp only [↓reduceIte,zlk,Nat.reduceEqDiff,reduceCtorEq]); exact rfl) ?_ ?_ ?_ (by decide) | refine jE rfl (by first | rfl | assumption | (simp only [znl,jR,jS,jT,jU,jV,jW,jX]; (first | done | fail))) | refine MR.agg (MRL.cons ?_ ?_) | refine jE ?_ (by first | rfl | assumption | (simp only [znl,jR,jS,jT,jU,jV,jW,jX]; (first | done | fail))) | refine MR.fn ?_ | refine MRL.cons ?_ ?_ | refine MRL.nil | refine jG ?_ ?_ | refine jH | refine jI | refine jJ ?_ (by (simp only [↓reduceIte,zlk,Nat.reduceEqDiff,reduceCtorEq]); exact rfl) ?_ ?_ | refine MB.row ?_ | refine jK ?_ ?_ | refine MR.map ?_ ?_ | refine jL rfl (by first | rfl | assumption | (simp only [znl,jR,jS,jT,jU,jV,jW,jX]; (first | done | fail))) | rfl) | (simp only [znl,jR,jS,jT,jU,jV,jW,jX]; (first | done | fail)) | (refine jM rfl ?_) | exact jN rfl | exact jO rfl | ((with_reducible refine jP ?_) <;> rfl) | (simp only [↓reduceIte,zlk,Nat.reduceEqDiff,reduceCtorEq]) | (with_reducible first | refine jL ?_ ?_ | refine jF ?_ ?_ ?_ | refine jw ?_ | refine jx ?_ | refine jy ?_ | refine jz ?_ (by first | rfl | assumption | (simp only [znl,jR,jS,jT,jU,jV,jW,jX]; (first | done | fail))) | refine jE ?_ ?_))))
    all_goals (first | exact hn0 | rfl)
  repeat' (first | (with_reducible first | refine ju ?_ | refine xs1 ?_ | refine xs2 ?_ | refine xs3 ?_ | refine xb1 ?_ | refine xb2 ?_ | refine xb3 (by decide) ?_ | refine xb4 ?_ | refine xl2 ?_ | refine xl3 ?_ | refine xc2 ?_ | refine xc3 ?_ | refine jn ?_ | refine jo ?_ | refine jp ?_ | refine jq ?_ | refine jr ?_ | refine jt ?_ | refine jk (fun M hM => ?_) | refine vif_t ?_ | refine vif_f ?_ | refine jl ?_ | refine jm ?_ | (refine hM _ ?_; clear hM M) | refine ja (jc (by assumption) ?_ rfl ?_) | refine jb (jd (by assumption) rfl ?_) ?_) | ((with_reducible refine je ?_) <;> (first | rfl | assumption | (simp only [znl,jR,jS,jT,jU,jV,jW,jX]; (first | done | fail)))) | (with_reducible refine jf (by (simp only [↓reduceIte,zlk,Nat.reduceEqDiff,reduceCtorEq]); exact rfl) ?_) | ((with_reducible first | refine jg (fun hc => ?_) (fun hc => ?_) | refine jh (fun hc => ?_) (fun hc => ?_)) <;> (try simp (disch := omega) only [zhb] at hc) <;> (try (exfalso; omega)) <;> (try subst hc)) | (with_reducible refine ji (by omega) ?_) | (simp (config := { maxSteps := 400000 }) only [↓jv,↓reduceIte,zvs,reduceCtorEq,Nat.reduceEqDiff,Nat.reduceAdd,Nat.reduceLeDiff,Nat.reduceMul,Int.reduceBNe,Int.reduceBEq,Int.reduceEq,Int.reduceNe,Int.reduceLT,Int.reduceLE,Int.reduceGT,Int.reduceGE,Int.reduceNeg,Int.reduceToNat,Nat.reduceLT,Nat.reduceSub,tab,hz1,hz2,hz3,Try.results16,List.toList_toArray]) | (simp (disch := omega) only [ziw]))
  all_goals first
    | (exfalso; omega)
    | (simp only [zrds]; done)
    | trace_state
end Go.Proofs.Ytlgldkjjbbbapaa.V
end
section
/-
  MACHINES, plain: whose turn it is.
-/
set_option linter.unusedVariables false
set_option linter.unusedSimpArgs false
namespace Go.Proofs.Ytlgldkjjbbbapaa.V
open Go
set_option maxRecDepth 100000
set_option maxHeartbeats 1000000
def readyL (l : List Pr) : List Int := (l.filter fun p => decide (p.st = 1)).map (·.pid)
theorem foldl_stay (a : Int) : ∀ (l : List Pr) (s : Int), s ≠ 0 → (∀ p ∈ l, s < p.pid) → l.foldl (fun s p => if p.st = 1 ∧ a < p.pid ∧ (s = 0 ∨ p.pid < s) then p.pid else s) s = s
  | [], _, _, _ => rfl
  | p :: l, s, hs, h => by
    have h1 := h p (by simp)
    rw [List.foldl_cons, if_neg (by omega)]
    exact foldl_stay a l s hs fun q hq => h q (by simp [hq])
theorem nextF_find (a : Int) (ha : 0 ≤ a) : ∀ (l : List Pr), l.Pairwise (fun p q => p.pid < q.pid) → nextF l a = ((readyL l).find? fun x => decide (a < x)).getD 0
  | [], _ => rfl
  | p :: l, h => by
    rw [List.pairwise_cons] at h
    have ih := nextF_find a ha l h.2
    unfold nextF at ih ⊢
    rw [List.foldl_cons]
    by_cases h1 : p.st = 1
    · have e : readyL (p :: l) = p.pid :: readyL l := by simp [readyL, h1]
      rw [e]
      by_cases h2 : a < p.pid
      · rw [if_pos ⟨h1, h2, .inl rfl⟩, List.find?_cons_of_pos (by simpa using h2)]
        exact foldl_stay a l _ (by omega) h.1
      · rw [if_neg (fun x => h2 x.2.1), List.find?_cons_of_neg (by simpa using h2)]
        exact ih
    · have e : readyL (p :: l) = readyL l := by simp [readyL, h1]
      rw [if_neg (fun x => h1 x.1), e]
      exact ih
theorem ready_sorted {l : List Pr} (h : l.Pairwise (fun p q => p.pid < q.pid)) : (readyL l).Pairwise (· < ·) := by
  unfold readyL
  rw [List.pairwise_map]
  exact h.filter _
theorem ready_pos {l : List Pr} (h : ∀ p ∈ l, 1 ≤ p.pid) : ∀ x ∈ readyL l, 1 ≤ x := by
  intro x hx
  obtain ⟨p, hp, rfl⟩ := List.mem_map.1 hx
  exact h p (List.mem_filter.1 hp).1
theorem find_at : ∀ (R : List Int), R.Pairwise (· < ·) → ∀ c, ∃ a, a ≤ R.length ∧ (R.find? fun x => decide (c < x)) = R[a]? ∧ (∀ j, j < a → R.getD j 0 ≤ c) ∧ ∀ j, a ≤ j → j < R.length → c < R.getD j 0
  | [], _, c => ⟨0, Nat.le_refl _, rfl, fun j hj => by omega, fun j _ hj => by simp at hj⟩
  | x :: R, h, c => by
    rw [List.pairwise_cons] at h
    by_cases hx : c < x
    · refine ⟨0, Nat.zero_le _, by rw [List.find?_cons_of_pos (by simpa using hx)]; rfl, fun j hj => by omega, fun j _ hj => ?_⟩
      cases j with
      | zero => exact hx
      | succ j =>
        rw [List.getD_cons_succ]
        have hj : j < R.length := by simpa using hj
        have := h.1 (R.getD j 0) (by rw [List.getD_eq_getElem?_getD, List.getElem?_eq_getElem hj]; exact List.getElem_mem _)
        omega
    · obtain ⟨a, h1, h2, h3, h4⟩ := find_at R h.2 c
      refine ⟨a + 1, by simpa using h1, by rw [List.find?_cons_of_neg (by simpa using hx), h2]; rfl, fun j hj => ?_, fun j hj hj2 => ?_⟩
      · cases j with
        | zero => rw [List.getD_cons_zero]; omega
        | succ j => rw [List.getD_cons_succ]; exact h3 j (by omega)
      · cases j with
        | zero => omega
        | succ j => rw [List.getD_cons_succ]; exact h4 j (by omega) (by simpa using hj2)
def turnN (R : List Int) (c : Int) : Int := ((R.find? fun x => decide (c < x)).or R.head?).getD 0
theorem nextM_turn (m : Mach) (hs : m.pr.Pairwise (fun p q => p.pid < q.pid)) (hp : ∀ p ∈ m.pr, 1 ≤ p.pid) (hc : 0 ≤ m.cur) : nextM m = turnN (readyL m.pr) m.cur := by
  unfold nextM turnN
  rw [nextF_find _ hc _ hs, nextF_find 0 (by omega) _ hs]
  have hpos := ready_pos hp
  generalize readyL m.pr = R at hpos
  cases hf : R.find? fun x => decide (m.cur < x) with
  | some y =>
    have h1 := hpos y (List.mem_of_find?_eq_some hf)
    rw [if_neg (by simp only [Option.getD_some]; omega)]
    rfl
  | none =>
    rw [if_pos (by rfl)]
    cases R with
    | nil => rfl
    | cons x R => rw [List.find?_cons_of_pos (by have := hpos x (by simp); simp; omega)]; rfl
theorem turnN_first {R : List Int} {c : Int} {a : Nat} (hn : 0 < R.length) (ha : a ≤ R.length) (h : (R.find? fun x => decide (c < x)) = R[a]?) : turnN R c = R.getD (a % R.length) 0 := by
  unfold turnN
  rw [h]
  by_cases h1 : a < R.length
  · rw [List.getElem?_eq_getElem h1, Nat.mod_eq_of_lt h1, List.getD_eq_getElem?_getD, List.getElem?_eq_getElem h1]; rfl
  · obtain rfl : a = R.length := by omega
    rw [List.getElem?_eq_none (Nat.le_refl _), Nat.mod_self]
    cases R with
    | nil => simp at hn
    | cons x R => rfl
def turnK (R : List Int) (a k : Nat) : Int := R.getD ((a + k) % R.length) 0
theorem turnK_mem {R : List Int} (a k : Nat) (hn : 0 < R.length) : turnK R a k ∈ R := by
  unfold turnK
  have := Nat.mod_lt (a + k) hn
  rw [List.getD_eq_getElem?_getD, List.getElem?_eq_getElem this]
  exact List.getElem_mem _
end Go.Proofs.Ytlgldkjjbbbapaa.V
end
section
/-
  MACHINES, part 23: the law SchedTurns.
-/
set_option linter.unusedVariables false
set_option linter.unusedSimpArgs false
namespace Go.Proofs.Ytlgldkjjbbbapaa.V
open Go
set_option maxRecDepth 100000
-- nlx: jR, jS, jT, jU, jV, jW, jX, jZ
set_option maxHeartbeats 4000000
abbrev encX (m : Mach) (c l : Int) : VV := .agg [.int .u64 m.clock, .int .i64 m.quantum, .int .i64 c, .int .i64 l, encStrs m.fr, encPrs m.pr, .int .i64 m.next, .str m.init, encPis m.pipes, .int .i64 m.newp, .str m.inp, .bool m.fin, .int .u64 m.told, encDr m.dr, encWrs m.dirty]
def withM (m : Mach) (c l : Int) : Mach := { m with cur := c, left := l }
theorem withM_fit {N : Nat} {m : Mach} (h : MFit N m) {c l : Int} (hc : i64R c) (hl : i64R l) : MFit N (withM m c l) :=
  ⟨h.clock, h.quantum, hc, hl, h.fr, h.frS, h.pr, h.prR, h.next, h.init, h.pipes, h.pipesR, h.newp, h.inp, h.told, h.bl, h.blS, h.pe, h.peS, h.dleft, h.dirty, h.dirtyS⟩
theorem ready_len (l : List Pr) (k : Nat) (hk : k < l.length) : (readyL (l.take (k + 1))).length = (readyL (l.take k)).length + if (l.getD k default).st = 1 then 1 else 0 := by
  rw [take_snoc l k hk]
  unfold readyL
  rw [List.filter_append, List.map_append, List.length_append]
  congr 1
  by_cases h : (l.getD k default).st = 1
  · rw [List.filter_cons_of_pos (by simpa using h), if_pos h]; rfl
  · rw [List.filter_cons_of_neg (by simpa using h), if_neg h]; rfl
end Go.Proofs.Ytlgldkjjbbbapaa.V
end
