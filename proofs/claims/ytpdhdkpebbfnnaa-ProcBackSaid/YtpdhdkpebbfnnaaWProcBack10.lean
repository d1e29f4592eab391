/-
  Parts of the proof of ProcBack: TN, TO, TP, TQ, TR, TS, TU, TV, TJ, TK, TW, NU, P5, P4, NV, NW, P6, P7, TX, TY, TZ.
  Conditions: none.
-/
import Derived.Test.YtpdhdkpebbfnnaaWProcBack09
import Derived.Test.YtpdhdkpebbfnnaaWProcBack07
import Derived.Test.YtpdhdkpebbfnnaaWProcBack08
import Derived.Test.YtpdhdkpebbfnnaaWProcBack06
import Derived.Test.YtpdhdkpebbfnnaaWProcBack05
set_option linter.unusedVariables false
set_option linter.unusedSimpArgs false
set_option linter.unusedSectionVars false
set_option linter.defProp false
section
namespace Go.Proofs.Ytpdhdkpebbfnnaa.V
open Go
set_option maxRecDepth 100000
def znTN := And.intro @jO <| And.intro @jP <| And.intro @jQ <| And.intro @jR <| And.intro @jS <| And.intro @jT <| And.intro @jU <| And.intro @nls_lay <| And.intro @nl_lay <| And.intro @nls_nats <| True.intro
set_option maxHeartbeats 8000000
theorem sreap_spec (m : Mach) (hm : MFit 20000 m) (par : Int) (hp : i64R par) (pid : Int) (hq : i64R pid) : Spec Try.prog 25 [encM m, .int .i64 par, .int .i64 pid] (reapVV m par pid) := by
  have hl := hm.pr
  have hnM := nl_encM m
  obtain ⟨hp1, hp2⟩ := hp
  obtain ⟨hq1, hq2⟩ := hq
  obtain ⟨R, hR⟩ : ∃ R, R = reapVV m par pid := ⟨_, rfl⟩
  rw [← hR]
  unfold reapVV at hR
  refine spec_ok Try.func25 rfl rfl (by kernel_rfl) (k := 3) rfl (by decide) ?_
  repeat' (first|(with_reducible first|refine yrl (by constructor) ?_|refine jk (fun M hM=>?_)|(refine hM _ ?_;clear hM M)|refine xb3 (by decide) ?_|refine yqa (by assumption) ?_ ?_|refine yqb (by assumption) ?_ ?_)|((with_reducible refine je ?_)<;>(first|rfl|assumption|(simp only [znl,znTN];(first|done|fail))))|(with_reducible refine jf (by (simp only [↓reduceIte,zlk,Nat.reduceEqDiff,reduceCtorEq]);exact rfl) ?_)|((with_reducible first|refine jg (fun hc=>?_) (fun hc=>?_)|refine jh (fun hc=>?_) (fun hc=>?_))<;>(try simp (disch:=omega) only [zhb] at hc)<;>(try (exfalso;omega))<;>(try subst hc))|(with_reducible refine ji (by omega) ?_)|(simp (config := { maxSteps := 400000 }) only [↓jt,↓reduceIte,zvs,reduceCtorEq,seval,-List.reduceReplicate,tab,Try.results25,jTA])|(simp (disch:=omega) only [ziw]))
  refine ok_loop (fun k : Nat => ⟨slots [(1, .int .i64 par), (2, .int .i64 pid), (3, .ptr 0 []), (6, .ptr 1 []), (10, .int .i64 (chI (kidK m.pr par pid k))), (11, .bool (metK m.pr par pid k)), (17, encPrs m.pr), (18, .int .i64 m.pr.length), (19, .int .i64 k)], rows [(0, .row machSh (encM m)), (1, .row machSh nilMD)], 2⟩) (fun k => k ≤ m.pr.length) (fun k => m.pr.length - k) 0 ?_ (Nat.zero_le _) (fun k hk => ?_)
  · (refine yrn [(0, 0), (1, 1)] false ?_ ?_<;>(repeat' (first|(with_reducible first|exact ya1|exact ya2|exact ya3|refine jx rfl (by first|rfl|assumption|(simp only [znl,znTN];(first|done|fail)))|exact ya5|exact ya7|exact jy|exact jz|refine jA ?_|refine ya9 ?_ ?_ ?_|refine jC rfl (by first|rfl|assumption|(simp only [znl,znTN];(first|done|fail)))|refine MR.agg (MRL.cons ?_ ?_)|refine MR.fn ?_|refine MRL.cons ?_ ?_|exact MRL.nil|refine jE ?_ ?_|exact jF|exact jG|refine yb1 ?_ ?_|refine MB.row ?_|refine jI ?_ ?_|exact ya8|refine jJ rfl (by first|rfl|assumption|(simp only [znl,znTN];(first|done|fail)))|refine yb2 ?_|rfl)|(simp only [znl,znTN];(first|done|fail))|(simp only [↓reduceIte,zlk,Nat.reduceEqDiff,reduceCtorEq])|(with_reducible first|refine jJ ?_ ?_|refine ya5 ?_|refine ju ?_|refine jv ?_|refine jw ?_|refine jx ?_ (by first|rfl|assumption|(simp only [znl,znTN];(first|done|fail)))|refine jC ?_ (by first|rfl|assumption|(simp only [znl,znTN];(first|done|fail)))))))
    all_goals (first | rfl)
  obtain ⟨ch, hch⟩ : ∃ ch, ch = chI (kidK m.pr par pid k) := ⟨_, rfl⟩
  rw [← hch]
  by_cases hlt : k < m.pr.length
  · have hb := hm.prR _ (getD_mem' hlt)
    obtain ⟨hS1, hS2, hS3⟩ := pr3 hb
    by_cases hkid : kidP par pid (m.pr.getD k default)
    · have e1 := kid_yes hkid
      have hkp : (m.pr.getD k default).par = par ∧ (pid = 0 ∨ (m.pr.getD k default).pid = pid) := hkid
      by_cases h3 : (m.pr.getD k default).st = 3
      · cases hkk : kidK m.pr par pid k with
        | none =>
          have e2 : chI (kidK m.pr par pid (k + 1)) = (k : Int) := by rw [kid_take hkid h3 (by rw [hkk]; trivial)]; rfl
          have h0 : ch = -1 := by rw [hch, hkk]; rfl
          rw [h0]
          clear hch
          repeat' (first|(with_reducible first|refine yrl (by constructor) ?_|refine jk (fun M hM=>?_)|(refine hM _ ?_;clear hM M)|refine xb3 (by decide) ?_|refine yqa (by assumption) ?_ ?_|refine yqb (by assumption) ?_ ?_)|((with_reducible refine je ?_)<;>(first|rfl|assumption|(simp only [znl,znTN];(first|done|fail))))|(with_reducible refine jf (by (simp only [↓reduceIte,zlk,Nat.reduceEqDiff,reduceCtorEq]);exact rfl) ?_)|((with_reducible first|refine jg (fun hc=>?_) (fun hc=>?_)|refine jh (fun hc=>?_) (fun hc=>?_))<;>(try simp (disch:=omega) only [zhb] at hc)<;>(try (exfalso;omega))<;>(try subst hc))|(with_reducible refine ji (by omega) ?_)|(simp (config := { maxSteps := 400000 }) only [↓jt,↓reduceIte,zvs,reduceCtorEq,seval,-List.reduceReplicate,tab,hS1,hS2,hS3,encPr,Try.results25,jTA])|(simp (disch:=omega) only [ziw]))
          all_goals (try (exfalso; omega))
          all_goals (refine ok_drawC 15 (by kernel_rfl) (by decide +kernel) (by intro m hm; simp only [upd_ap,rows_cons,rows_nil]; (repeat (first | rfl | rw [if_neg (by omega)]))) (fun M hM => ?_); simp only [List.take_succ_cons,List.take_zero,List.drop_succ_cons,List.drop_zero])
          all_goals (repeat' (first|(with_reducible first|refine yrl (by constructor) ?_|refine jk (fun M hM=>?_)|(refine hM _ ?_;clear hM M)|refine xb3 (by decide) ?_|refine yqa (by assumption) ?_ ?_|refine yqb (by assumption) ?_ ?_)|((with_reducible refine je ?_)<;>(first|rfl|assumption|(simp only [znl,znTN];(first|done|fail))))|(with_reducible refine jf (by (simp only [↓reduceIte,zlk,Nat.reduceEqDiff,reduceCtorEq]);exact rfl) ?_)|((with_reducible first|refine jg (fun hc=>?_) (fun hc=>?_)|refine jh (fun hc=>?_) (fun hc=>?_))<;>(try simp (disch:=omega) only [zhb] at hc)<;>(try (exfalso;omega))<;>(try subst hc))|(with_reducible refine ji (by omega) ?_)|(simp (config := { maxSteps := 400000 }) only [↓jt,↓reduceIte,zvs,reduceCtorEq,seval,-List.reduceReplicate,tab,hS1,hS2,hS3,encPr,Try.results25,jTA])|(simp (disch:=omega) only [ziw])))
          all_goals first
            | (exfalso; omega)
            | (refine xl1 (k + 1) ?_ (by show k + 1 ≤ m.pr.length; omega) (by show m.pr.length - (k + 1) < m.pr.length - k; omega); (refine yrn [(0, 0), (1, 1)] false ?_ ?_<;>(repeat' (first|(with_reducible first|exact ya1|exact ya2|exact ya3|refine jx rfl (by first|rfl|assumption|(simp only [znl,znTN];(first|done|fail)))|exact ya5|exact ya7|exact jy|exact jz|refine jA ?_|refine ya9 ?_ ?_ ?_|refine jC rfl (by first|rfl|assumption|(simp only [znl,znTN];(first|done|fail)))|refine MR.agg (MRL.cons ?_ ?_)|refine MR.fn ?_|refine MRL.cons ?_ ?_|exact MRL.nil|refine jE ?_ ?_|exact jF|exact jG|refine yb1 ?_ ?_|refine MB.row ?_|refine jI ?_ ?_|exact ya8|refine jJ rfl (by first|rfl|assumption|(simp only [znl,znTN];(first|done|fail)))|refine yb2 ?_|rfl)|(simp only [znl,znTN];(first|done|fail))|(simp only [↓reduceIte,zlk,Nat.reduceEqDiff,reduceCtorEq])|(with_reducible first|refine jJ ?_ ?_|refine ya5 ?_|refine ju ?_|refine jv ?_|refine jw ?_|refine jx ?_ (by first|rfl|assumption|(simp only [znl,znTN];(first|done|fail)))|refine jC ?_ (by first|rfl|assumption|(simp only [znl,znTN];(first|done|fail))))))); all_goals (first | rfl | (rw [e1]; done) | (rw [e2]; done)); done)
        | some c =>
          have hc0 := kidK_lt hkk
          have h0 : ch = (c : Int) := by rw [hch, hkk]; rfl
          rw [h0]
          by_cases hbt : (m.pr.getD k default).pid < (m.pr.getD c default).pid
          · have e2 : chI (kidK m.pr par pid (k + 1)) = (k : Int) := by rw [kid_take hkid h3 (by rw [hkk]; exact hbt)]; rfl
            clear hch
            repeat' (first|(with_reducible first|refine yrl (by constructor) ?_|refine jk (fun M hM=>?_)|(refine hM _ ?_;clear hM M)|refine xb3 (by decide) ?_|refine yqa (by assumption) ?_ ?_|refine yqb (by assumption) ?_ ?_)|((with_reducible refine je ?_)<;>(first|rfl|assumption|(simp only [znl,znTN];(first|done|fail))))|(with_reducible refine jf (by (simp only [↓reduceIte,zlk,Nat.reduceEqDiff,reduceCtorEq]);exact rfl) ?_)|((with_reducible first|refine jg (fun hc=>?_) (fun hc=>?_)|refine jh (fun hc=>?_) (fun hc=>?_))<;>(try simp (disch:=omega) only [zhb] at hc)<;>(try (exfalso;omega))<;>(try subst hc))|(with_reducible refine ji (by omega) ?_)|(simp (config := { maxSteps := 400000 }) only [↓jt,↓reduceIte,zvs,reduceCtorEq,seval,-List.reduceReplicate,tab,hS1,hS2,hS3,encPr,Try.results25,jTA])|(simp (disch:=omega) only [ziw]))
            all_goals (try (exfalso; omega))
            all_goals (refine ok_drawC 15 (by kernel_rfl) (by decide +kernel) (by intro m hm; simp only [upd_ap,rows_cons,rows_nil]; (repeat (first | rfl | rw [if_neg (by omega)]))) (fun M hM => ?_); simp only [List.take_succ_cons,List.take_zero,List.drop_succ_cons,List.drop_zero])
            all_goals (repeat' (first|(with_reducible first|refine yrl (by constructor) ?_|refine jk (fun M hM=>?_)|(refine hM _ ?_;clear hM M)|refine xb3 (by decide) ?_|refine yqa (by assumption) ?_ ?_|refine yqb (by assumption) ?_ ?_)|((with_reducible refine je ?_)<;>(first|rfl|assumption|(simp only [znl,znTN];(first|done|fail))))|(with_reducible refine jf (by (simp only [↓reduceIte,zlk,Nat.reduceEqDiff,reduceCtorEq]);exact rfl) ?_)|((with_reducible first|refine jg (fun hc=>?_) (fun hc=>?_)|refine jh (fun hc=>?_) (fun hc=>?_))<;>(try simp (disch:=omega) only [zhb] at hc)<;>(try (exfalso;omega))<;>(try subst hc))|(with_reducible refine ji (by omega) ?_)|(simp (config := { maxSteps := 400000 }) only [↓jt,↓reduceIte,zvs,reduceCtorEq,seval,-List.reduceReplicate,tab,hS1,hS2,hS3,encPr,Try.results25,jTA])|(simp (disch:=omega) only [ziw])))
            all_goals first
              | (exfalso; omega)
              | (refine xl1 (k + 1) ?_ (by show k + 1 ≤ m.pr.length; omega) (by show m.pr.length - (k + 1) < m.pr.length - k; omega); (refine yrn [(0, 0), (1, 1)] false ?_ ?_<;>(repeat' (first|(with_reducible first|exact ya1|exact ya2|exact ya3|refine jx rfl (by first|rfl|assumption|(simp only [znl,znTN];(first|done|fail)))|exact ya5|exact ya7|exact jy|exact jz|refine jA ?_|refine ya9 ?_ ?_ ?_|refine jC rfl (by first|rfl|assumption|(simp only [znl,znTN];(first|done|fail)))|refine MR.agg (MRL.cons ?_ ?_)|refine MR.fn ?_|refine MRL.cons ?_ ?_|exact MRL.nil|refine jE ?_ ?_|exact jF|exact jG|refine yb1 ?_ ?_|refine MB.row ?_|refine jI ?_ ?_|exact ya8|refine jJ rfl (by first|rfl|assumption|(simp only [znl,znTN];(first|done|fail)))|refine yb2 ?_|rfl)|(simp only [znl,znTN];(first|done|fail))|(simp only [↓reduceIte,zlk,Nat.reduceEqDiff,reduceCtorEq])|(with_reducible first|refine jJ ?_ ?_|refine ya5 ?_|refine ju ?_|refine jv ?_|refine jw ?_|refine jx ?_ (by first|rfl|assumption|(simp only [znl,znTN];(first|done|fail)))|refine jC ?_ (by first|rfl|assumption|(simp only [znl,znTN];(first|done|fail))))))); all_goals (first | rfl | (rw [e1]; done) | (rw [e2]; done)); done)
          · have e2 : chI (kidK m.pr par pid (k + 1)) = (c : Int) := by rw [kid_keep (by rw [hkk]; exact fun h => hbt h.2), hkk]; rfl
            clear hch
            repeat' (first|(with_reducible first|refine yrl (by constructor) ?_|refine jk (fun M hM=>?_)|(refine hM _ ?_;clear hM M)|refine xb3 (by decide) ?_|refine yqa (by assumption) ?_ ?_|refine yqb (by assumption) ?_ ?_)|((with_reducible refine je ?_)<;>(first|rfl|assumption|(simp only [znl,znTN];(first|done|fail))))|(with_reducible refine jf (by (simp only [↓reduceIte,zlk,Nat.reduceEqDiff,reduceCtorEq]);exact rfl) ?_)|((with_reducible first|refine jg (fun hc=>?_) (fun hc=>?_)|refine jh (fun hc=>?_) (fun hc=>?_))<;>(try simp (disch:=omega) only [zhb] at hc)<;>(try (exfalso;omega))<;>(try subst hc))|(with_reducible refine ji (by omega) ?_)|(simp (config := { maxSteps := 400000 }) only [↓jt,↓reduceIte,zvs,reduceCtorEq,seval,-List.reduceReplicate,tab,hS1,hS2,hS3,encPr,Try.results25,jTA])|(simp (disch:=omega) only [ziw]))
            all_goals (try (exfalso; omega))
            all_goals (refine ok_drawC 15 (by kernel_rfl) (by decide +kernel) (by intro m hm; simp only [upd_ap,rows_cons,rows_nil]; (repeat (first | rfl | rw [if_neg (by omega)]))) (fun M hM => ?_); simp only [List.take_succ_cons,List.take_zero,List.drop_succ_cons,List.drop_zero])
            all_goals (repeat' (first|(with_reducible first|refine yrl (by constructor) ?_|refine jk (fun M hM=>?_)|(refine hM _ ?_;clear hM M)|refine xb3 (by decide) ?_|refine yqa (by assumption) ?_ ?_|refine yqb (by assumption) ?_ ?_)|((with_reducible refine je ?_)<;>(first|rfl|assumption|(simp only [znl,znTN];(first|done|fail))))|(with_reducible refine jf (by (simp only [↓reduceIte,zlk,Nat.reduceEqDiff,reduceCtorEq]);exact rfl) ?_)|((with_reducible first|refine jg (fun hc=>?_) (fun hc=>?_)|refine jh (fun hc=>?_) (fun hc=>?_))<;>(try simp (disch:=omega) only [zhb] at hc)<;>(try (exfalso;omega))<;>(try subst hc))|(with_reducible refine ji (by omega) ?_)|(simp (config := { maxSteps := 400000 }) only [↓jt,↓reduceIte,zvs,reduceCtorEq,seval,-List.reduceReplicate,tab,hS1,hS2,hS3,encPr,Try.results25,jTA])|(simp (disch:=omega) only [ziw])))
            all_goals first
              | (exfalso; omega)
              | (refine xl1 (k + 1) ?_ (by show k + 1 ≤ m.pr.length; omega) (by show m.pr.length - (k + 1) < m.pr.length - k; omega); (refine yrn [(0, 0), (1, 1)] false ?_ ?_<;>(repeat' (first|(with_reducible first|exact ya1|exact ya2|exact ya3|refine jx rfl (by first|rfl|assumption|(simp only [znl,znTN];(first|done|fail)))|exact ya5|exact ya7|exact jy|exact jz|refine jA ?_|refine ya9 ?_ ?_ ?_|refine jC rfl (by first|rfl|assumption|(simp only [znl,znTN];(first|done|fail)))|refine MR.agg (MRL.cons ?_ ?_)|refine MR.fn ?_|refine MRL.cons ?_ ?_|exact MRL.nil|refine jE ?_ ?_|exact jF|exact jG|refine yb1 ?_ ?_|refine MB.row ?_|refine jI ?_ ?_|exact ya8|refine jJ rfl (by first|rfl|assumption|(simp only [znl,znTN];(first|done|fail)))|refine yb2 ?_|rfl)|(simp only [znl,znTN];(first|done|fail))|(simp only [↓reduceIte,zlk,Nat.reduceEqDiff,reduceCtorEq])|(with_reducible first|refine jJ ?_ ?_|refine ya5 ?_|refine ju ?_|refine jv ?_|refine jw ?_|refine jx ?_ (by first|rfl|assumption|(simp only [znl,znTN];(first|done|fail)))|refine jC ?_ (by first|rfl|assumption|(simp only [znl,znTN];(first|done|fail))))))); all_goals (first | rfl | (rw [e1]; done) | (rw [e2]; done)); done)
      · have e2 : chI (kidK m.pr par pid (k + 1)) = ch := by rw [kid_keep (fun h => h3 h.1), hch]
        clear hch
        repeat' (first|(with_reducible first|refine yrl (by constructor) ?_|refine jk (fun M hM=>?_)|(refine hM _ ?_;clear hM M)|refine xb3 (by decide) ?_|refine yqa (by assumption) ?_ ?_|refine yqb (by assumption) ?_ ?_)|((with_reducible refine je ?_)<;>(first|rfl|assumption|(simp only [znl,znTN];(first|done|fail))))|(with_reducible refine jf (by (simp only [↓reduceIte,zlk,Nat.reduceEqDiff,reduceCtorEq]);exact rfl) ?_)|((with_reducible first|refine jg (fun hc=>?_) (fun hc=>?_)|refine jh (fun hc=>?_) (fun hc=>?_))<;>(try simp (disch:=omega) only [zhb] at hc)<;>(try (exfalso;omega))<;>(try subst hc))|(with_reducible refine ji (by omega) ?_)|(simp (config := { maxSteps := 400000 }) only [↓jt,↓reduceIte,zvs,reduceCtorEq,seval,-List.reduceReplicate,tab,hS1,hS2,hS3,encPr,Try.results25,jTA])|(simp (disch:=omega) only [ziw]))
        all_goals (try (exfalso; omega))
        all_goals (refine ok_drawC 15 (by kernel_rfl) (by decide +kernel) (by intro m hm; simp only [upd_ap,rows_cons,rows_nil]; (repeat (first | rfl | rw [if_neg (by omega)]))) (fun M hM => ?_); simp only [List.take_succ_cons,List.take_zero,List.drop_succ_cons,List.drop_zero])
        all_goals (repeat' (first|(with_reducible first|refine yrl (by constructor) ?_|refine jk (fun M hM=>?_)|(refine hM _ ?_;clear hM M)|refine xb3 (by decide) ?_|refine yqa (by assumption) ?_ ?_|refine yqb (by assumption) ?_ ?_)|((with_reducible refine je ?_)<;>(first|rfl|assumption|(simp only [znl,znTN];(first|done|fail))))|(with_reducible refine jf (by (simp only [↓reduceIte,zlk,Nat.reduceEqDiff,reduceCtorEq]);exact rfl) ?_)|((with_reducible first|refine jg (fun hc=>?_) (fun hc=>?_)|refine jh (fun hc=>?_) (fun hc=>?_))<;>(try simp (disch:=omega) only [zhb] at hc)<;>(try (exfalso;omega))<;>(try subst hc))|(with_reducible refine ji (by omega) ?_)|(simp (config := { maxSteps := 400000 }) only [↓jt,↓reduceIte,zvs,reduceCtorEq,seval,-List.reduceReplicate,tab,hS1,hS2,hS3,encPr,Try.results25,jTA])|(simp (disch:=omega) only [ziw])))
        all_goals first
          | (exfalso; omega)
          | (refine xl1 (k + 1) ?_ (by show k + 1 ≤ m.pr.length; omega) (by show m.pr.length - (k + 1) < m.pr.length - k; omega); (refine yrn [(0, 0), (1, 1)] false ?_ ?_<;>(repeat' (first|(with_reducible first|exact ya1|exact ya2|exact ya3|refine jx rfl (by first|rfl|assumption|(simp only [znl,znTN];(first|done|fail)))|exact ya5|exact ya7|exact jy|exact jz|refine jA ?_|refine ya9 ?_ ?_ ?_|refine jC rfl (by first|rfl|assumption|(simp only [znl,znTN];(first|done|fail)))|refine MR.agg (MRL.cons ?_ ?_)|refine MR.fn ?_|refine MRL.cons ?_ ?_|exact MRL.nil|refine jE ?_ ?_|exact jF|exact jG|refine yb1 ?_ ?_|refine MB.row ?_|refine jI ?_ ?_|exact ya8|refine jJ rfl (by first|rfl|assumption|(simp only [znl,znTN];(first|done|fail)))|refine yb2 ?_|rfl)|(simp only [znl,znTN];(first|done|fail))|(simp only [↓reduceIte,zlk,Nat.reduceEqDiff,reduceCtorEq])|(with_reducible first|refine jJ ?_ ?_|refine ya5 ?_|refine ju ?_|refine jv ?_|refine jw ?_|refine jx ?_ (by first|rfl|assumption|(simp only [znl,znTN];(first|done|fail)))|refine jC ?_ (by first|rfl|assumption|(simp only [znl,znTN];(first|done|fail))))))); all_goals (first | rfl | (rw [e1]; done) | (rw [e2]; done)); done)
    · obtain ⟨e2, e1⟩ := kid_no hkid
      have e2 : chI (kidK m.pr par pid (k + 1)) = ch := by rw [e2, hch]
      clear hch
      have hkp : ¬((m.pr.getD k default).par = par ∧ (pid = 0 ∨ (m.pr.getD k default).pid = pid)) := hkid
      repeat' (first|(with_reducible first|refine yrl (by constructor) ?_|refine jk (fun M hM=>?_)|(refine hM _ ?_;clear hM M)|refine xb3 (by decide) ?_|refine yqa (by assumption) ?_ ?_|refine yqb (by assumption) ?_ ?_)|((with_reducible refine je ?_)<;>(first|rfl|assumption|(simp only [znl,znTN];(first|done|fail))))|(with_reducible refine jf (by (simp only [↓reduceIte,zlk,Nat.reduceEqDiff,reduceCtorEq]);exact rfl) ?_)|((with_reducible first|refine jg (fun hc=>?_) (fun hc=>?_)|refine jh (fun hc=>?_) (fun hc=>?_))<;>(try simp (disch:=omega) only [zhb] at hc)<;>(try (exfalso;omega))<;>(try subst hc))|(with_reducible refine ji (by omega) ?_)|(simp (config := { maxSteps := 400000 }) only [↓jt,↓reduceIte,zvs,reduceCtorEq,seval,-List.reduceReplicate,tab,hS1,hS2,hS3,encPr,Try.results25,jTA])|(simp (disch:=omega) only [ziw]))
      all_goals first
        | (exfalso; omega)
        | (refine xl1 (k + 1) ?_ (by show k + 1 ≤ m.pr.length; omega) (by show m.pr.length - (k + 1) < m.pr.length - k; omega); (refine yrn [(0, 0), (1, 1)] false ?_ ?_<;>(repeat' (first|(with_reducible first|exact ya1|exact ya2|exact ya3|refine jx rfl (by first|rfl|assumption|(simp only [znl,znTN];(first|done|fail)))|exact ya5|exact ya7|exact jy|exact jz|refine jA ?_|refine ya9 ?_ ?_ ?_|refine jC rfl (by first|rfl|assumption|(simp only [znl,znTN];(first|done|fail)))|refine MR.agg (MRL.cons ?_ ?_)|refine MR.fn ?_|refine MRL.cons ?_ ?_|exact MRL.nil|refine jE ?_ ?_|exact jF|exact jG|refine yb1 ?_ ?_|refine MB.row ?_|refine jI ?_ ?_|exact ya8|refine jJ rfl (by first|rfl|assumption|(simp only [znl,znTN];(first|done|fail)))|refine yb2 ?_|rfl)|(simp only [znl,znTN];(first|done|fail))|(simp only [↓reduceIte,zlk,Nat.reduceEqDiff,reduceCtorEq])|(with_reducible first|refine jJ ?_ ?_|refine ya5 ?_|refine ju ?_|refine jv ?_|refine jw ?_|refine jx ?_ (by first|rfl|assumption|(simp only [znl,znTN];(first|done|fail)))|refine jC ?_ (by first|rfl|assumption|(simp only [znl,znTN];(first|done|fail))))))); all_goals (first | rfl | (rw [e1]; done) | (rw [e2]; done)); done)
  obtain rfl : k = m.pr.length := by omega
  cases hmt : metK m.pr par pid m.pr.length with
  | false =>
    rw [hmt, if_pos rfl] at hR
    repeat' (first|(with_reducible first|refine yrl (by constructor) ?_|refine jk (fun M hM=>?_)|(refine hM _ ?_;clear hM M)|refine xb3 (by decide) ?_|refine yqa (by assumption) ?_ ?_|refine yqb (by assumption) ?_ ?_)|((with_reducible refine je ?_)<;>(first|rfl|assumption|(simp only [znl,znTN];(first|done|fail))))|(with_reducible refine jf (by (simp only [↓reduceIte,zlk,Nat.reduceEqDiff,reduceCtorEq]);exact rfl) ?_)|((with_reducible first|refine jg (fun hc=>?_) (fun hc=>?_)|refine jh (fun hc=>?_) (fun hc=>?_))<;>(try simp (disch:=omega) only [zhb] at hc)<;>(try (exfalso;omega))<;>(try subst hc))|(with_reducible refine ji (by omega) ?_)|(simp (config := { maxSteps := 400000 }) only [↓jt,↓reduceIte,zvs,reduceCtorEq,seval,-List.reduceReplicate,tab,Try.results25,jTA])|(simp (disch:=omega) only [ziw]))
    all_goals first
      | (exfalso; omega)
      | (rw [hR]; ((try simp only [nilM,List.map_nil]); simp only [zrds]; (repeat' (first | exact rd_nil | exact Rd.refl _ _ (by first|rfl|assumption|(simp only [znl,znTN];(first|done|fail))) | (refine And.intro ?_ ?_) | (refine rd_own (by (simp only [↓reduceIte,zlk,Nat.reduceEqDiff,reduceCtorEq]); exact rfl) ?_ ?_ ?_) | rfl | assumption | (simp only [znl,znTN];(first|done|fail)) | (simp; done) | (simp; omega)))); done)
  | true =>
    rw [hmt, if_neg (by decide)] at hR
    cases hkk : kidK m.pr par pid m.pr.length with
    | none =>
      rw [hkk] at hR
      dsimp only at hR
      rw [hkk] at hch
      have h0 : ch = -1 := hch
      rw [h0]
      clear hch h0
      repeat' (first|(with_reducible first|refine yrl (by constructor) ?_|refine jk (fun M hM=>?_)|(refine hM _ ?_;clear hM M)|refine xb3 (by decide) ?_|refine yqa (by assumption) ?_ ?_|refine yqb (by assumption) ?_ ?_)|((with_reducible refine je ?_)<;>(first|rfl|assumption|(simp only [znl,znTN];(first|done|fail))))|(with_reducible refine jf (by (simp only [↓reduceIte,zlk,Nat.reduceEqDiff,reduceCtorEq]);exact rfl) ?_)|((with_reducible first|refine jg (fun hc=>?_) (fun hc=>?_)|refine jh (fun hc=>?_) (fun hc=>?_))<;>(try simp (disch:=omega) only [zhb] at hc)<;>(try (exfalso;omega))<;>(try subst hc))|(with_reducible refine ji (by omega) ?_)|(simp (config := { maxSteps := 400000 }) only [↓jt,↓reduceIte,zvs,reduceCtorEq,seval,-List.reduceReplicate,tab,Try.results25,jTA])|(simp (disch:=omega) only [ziw]))
      all_goals first
        | (exfalso; omega)
        | (rw [hR]; ((try simp only [nilM,List.map_nil]); simp only [zrds]; (repeat' (first | exact rd_nil | exact Rd.refl _ _ (by first|rfl|assumption|(simp only [znl,znTN];(first|done|fail))) | (refine And.intro ?_ ?_) | (refine rd_own (by (simp only [↓reduceIte,zlk,Nat.reduceEqDiff,reduceCtorEq]); exact rfl) ?_ ?_ ?_) | rfl | assumption | (simp only [znl,znTN];(first|done|fail)) | (simp; done) | (simp; omega)))); done)
    | some c =>
      rw [hkk] at hR
      dsimp only at hR
      rw [hkk] at hch
      have h0 : ch = (c : Int) := hch
      rw [h0]
      clear hch h0
      have hc0 := kidK_lt hkk
      have hb := hm.prR _ (getD_mem' hc0)
      obtain ⟨hS1, hS2, hS3⟩ := pr3 hb
      obtain ⟨L, hL⟩ : ∃ L, L = m.pr.take c ++ m.pr.drop (c + 1) := ⟨_, rfl⟩
      have eR : reapM m c = prM m L := by rw [hL]; rfl
      rw [eR] at hR
      have hnL := jP L
      have hLl : L.length = m.pr.length - 1 := by rw [hL, List.length_append, List.length_take, List.length_drop]; omega
      have f2 : List.take c (m.pr.map encPr) ++ List.drop (c + 1) (m.pr.map encPr) = L.map encPr := by rw [hL, List.map_append, List.map_take, List.map_drop]
      have f3 : List.take (m.pr.length - 1) (L.map encPr ++ [zPr]) = L.map encPr := List.take_left' (by rw [List.length_map, hLl])
      have hA := list_str m.fr hm.fr
      have hB := list_pi m.pipes hm.pipes
      have hE := own_drive m.dr hm.bl hm.pe
      have hG := list_wr m.dirty hm.dirty
      have hat0 : (m.pr.map encPr)[c]? = some (encPr (m.pr.getD c default)) := map_getD encPr m.pr c hc0
      simp only [encPr] at hat0
      repeat' (first|(with_reducible first|refine yrl (by constructor) ?_|refine jk (fun M hM=>?_)|(refine hM _ ?_;clear hM M)|refine xb3 (by decide) ?_|refine yqa (by assumption) ?_ ?_|refine yqb (by assumption) ?_ ?_)|((with_reducible refine je ?_)<;>(first|rfl|assumption|(simp only [znl,znTN];(first|done|fail))))|(with_reducible refine jf (by (simp only [↓reduceIte,zlk,Nat.reduceEqDiff,reduceCtorEq]);exact rfl) ?_)|((with_reducible first|refine jg (fun hc=>?_) (fun hc=>?_)|refine jh (fun hc=>?_) (fun hc=>?_))<;>(try simp (disch:=omega) only [zhb] at hc)<;>(try (exfalso;omega))<;>(try subst hc))|(with_reducible refine ji (by omega) ?_)|(simp (config := { maxSteps := 400000 }) only [↓jt,↓reduceIte,zvs,reduceCtorEq,seval,-List.reduceReplicate,tab,hS1,hS2,hS3,encPr,Try.results90, Try.results41, Try.results25, List.toList_toArray])|(simp (disch:=omega) only [ziw]))
      all_goals (try (exfalso; omega))
      refine ja (ok_body Try.func41 rfl rfl (by kernel_rfl) (k := 1) (by rfl) (by decide) ?_)
      repeat' (first|(with_reducible first|refine yrl (by constructor) ?_|refine jk (fun M hM=>?_)|(refine hM _ ?_;clear hM M)|refine xb3 (by decide) ?_|refine yqa (by assumption) ?_ ?_|refine yqb (by assumption) ?_ ?_)|((with_reducible refine je ?_)<;>(first|rfl|assumption|(simp only [znl,znTN];(first|done|fail))))|(with_reducible refine jf (by (simp only [↓reduceIte,zlk,Nat.reduceEqDiff,reduceCtorEq]);exact rfl) ?_)|((with_reducible first|refine jg (fun hc=>?_) (fun hc=>?_)|refine jh (fun hc=>?_) (fun hc=>?_))<;>(try simp (disch:=omega) only [zhb] at hc)<;>(try (exfalso;omega))<;>(try subst hc))|(with_reducible refine ji (by omega) ?_)|(simp (config := { maxSteps := 400000 }) only [↓jt,↓reduceIte,zvs,reduceCtorEq,seval,-List.reduceReplicate,tab,Try.results90, Try.results41, Try.results25, List.toList_toArray])|(simp (disch:=omega) only [ziw]))
      refine ja (ok_body Try.func90 rfl rfl (by kernel_rfl) (k := 1) (by rfl) (by decide) ?_)
      repeat' (first|(with_reducible first|refine yrl (by constructor) ?_|refine jk (fun M hM=>?_)|(refine hM _ ?_;clear hM M)|refine xb3 (by decide) ?_|refine yqa (by assumption) ?_ ?_|refine yqb (by assumption) ?_ ?_)|((with_reducible refine je ?_)<;>(first|rfl|assumption|(simp only [znl,znTN];(first|done|fail))))|(with_reducible refine jf (by (simp only [↓reduceIte,zlk,Nat.reduceEqDiff,reduceCtorEq]);exact rfl) ?_)|((with_reducible first|refine jg (fun hc=>?_) (fun hc=>?_)|refine jh (fun hc=>?_) (fun hc=>?_))<;>(try simp (disch:=omega) only [zhb] at hc)<;>(try (exfalso;omega))<;>(try subst hc))|(with_reducible refine ji (by omega) ?_)|(simp (config := { maxSteps := 400000 }) only [↓jt,↓reduceIte,zvs,reduceCtorEq,seval,-List.reduceReplicate,tab,hS1,hS2,hS3,hat0,Try.results90, Try.results41, Try.results25, List.toList_toArray])|(simp (disch:=omega) only [ziw]))
      all_goals (try (exfalso; omega))
      refine ja (call_del (els := m.pr.map encPr) (by simp only [↓reduceIte,zlk,Nat.reduceEqDiff,reduceCtorEq]; exact rfl) (by rw [List.length_map]) hc0 (by omega) ?_)
      rw [f2]
      repeat' (first|(with_reducible first|refine yrl (by constructor) ?_|refine jk (fun M hM=>?_)|(refine hM _ ?_;clear hM M)|refine xb3 (by decide) ?_|refine yqa (by assumption) ?_ ?_|refine yqb (by assumption) ?_ ?_)|((with_reducible refine je ?_)<;>(first|rfl|assumption|(simp only [znl,znTN];(first|done|fail))))|(with_reducible refine jf (by (simp only [↓reduceIte,zlk,Nat.reduceEqDiff,reduceCtorEq]);exact rfl) ?_)|((with_reducible first|refine jg (fun hc=>?_) (fun hc=>?_)|refine jh (fun hc=>?_) (fun hc=>?_))<;>(try simp (disch:=omega) only [zhb] at hc)<;>(try (exfalso;omega))<;>(try subst hc))|(with_reducible refine ji (by omega) ?_)|(simp (config := { maxSteps := 400000 }) only [↓jt,↓reduceIte,zvs,reduceCtorEq,seval,-List.reduceReplicate,tab,hS1,hS2,hS3,hat0,Try.results90, Try.results41, Try.results25, List.toList_toArray])|(simp (disch:=omega) only [ziw]))
      all_goals (try (exfalso; omega))
      refine ok_drawE 7 [0, 1, 2, 3, 4, 6] 5 1 (by kernel_rfl) (by decide +kernel) (by decide) (by decide) (by (simp only [↓reduceIte,zlk,Nat.reduceEqDiff,reduceCtorEq]); exact rfl) (by intro m hm; simp only [upd_ap,rows_cons,rows_nil]; (repeat (first | rfl | rw [if_neg (by omega)]))) (fun M hM => ?_); simp only [picks,List.getElem?_cons_succ,List.getElem?_cons_zero,List.drop_succ_cons,List.drop_zero]
      repeat' (first|(with_reducible first|refine yrl (by constructor) ?_|refine jk (fun M hM=>?_)|(refine hM _ ?_;clear hM M)|refine xb3 (by decide) ?_|refine yqa (by assumption) ?_ ?_|refine yqb (by assumption) ?_ ?_)|((with_reducible refine je ?_)<;>(first|rfl|assumption|(simp only [znl,znTN];(first|done|fail))))|(with_reducible refine jf (by (simp only [↓reduceIte,zlk,Nat.reduceEqDiff,reduceCtorEq]);exact rfl) ?_)|((with_reducible first|refine jg (fun hc=>?_) (fun hc=>?_)|refine jh (fun hc=>?_) (fun hc=>?_))<;>(try simp (disch:=omega) only [zhb] at hc)<;>(try (exfalso;omega))<;>(try subst hc))|(with_reducible refine ji (by omega) ?_)|(simp (config := { maxSteps := 400000 }) only [↓jt,↓reduceIte,zvs,reduceCtorEq,seval,-List.reduceReplicate,tab,storeAt_go,isP_ptr,hS1,hS2,hS3,Try.results90, Try.results41, Try.results25, List.toList_toArray])|(simp (disch:=omega) only [ziw]))
      all_goals first
        | (exfalso; omega)
        | (rw [hR]; ((try simp only [prM,f3,List.map_nil]); simp only [zrds]; (repeat' (first | exact rd_nil | exact Rd.refl _ _ (by first|rfl|assumption|(simp only [znl,znTN];(first|done|fail))) | (refine And.intro ?_ ?_) | (refine rd_pre (by (simp only [↓reduceIte,zlk,Nat.reduceEqDiff,reduceCtorEq]); exact rfl) ?_ ?_ ?_) | rfl | assumption | (simp only [znl,znTN];(first|done|fail)) | (simp; done) | (simp; omega)))); done)
end Go.Proofs.Ytpdhdkpebbfnnaa.V
end
section
namespace Go.Proofs.Ytpdhdkpebbfnnaa.V
open Go
set_option maxRecDepth 100000
set_option maxHeartbeats 8000000
theorem sweepM_fit {m : Mach} (h : MFit 20000 m) : MFit 20000 (sweepM m) :=
  ⟨h.clock, h.quantum, h.cur, h.left, h.fr, h.frS, h.pr, h.prR, h.next, h.init, Nat.le_trans (List.length_filter_le _ _) h.pipes, fun p hp => h.pipesR p (List.mem_filter.1 hp).1, h.newp, h.inp, h.told, h.bl, h.blS, h.pe, h.peS, h.dleft, h.dirty, h.dirtyS⟩
theorem dieM_fit {m : Mach} (hm : MFit 20000 m) (pid : Int) {code : Int} (hc : u32R code) : MFit 20000 (dieM m pid code) := by
  unfold dieM
  cases hf : findI m.pr pid with
  | none => exact hm
  | some i =>
    obtain ⟨hi, _⟩ := findI_some hf
    obtain ⟨h1, h2⟩ := dieL_fit hm hi pid hc
    dsimp only
    split
    · exact hm
    · refine sweepM_fit (prM_fit hm ?_ fun p hp => h2 p (List.mem_filter.1 hp).1)
      have := List.length_filter_le (stayB (dieL m i pid code)) (dieL m i pid code)
      have := hm.pr
      omega
end Go.Proofs.Ytpdhdkpebbfnnaa.V
end
section
namespace Go.Proofs.Ytpdhdkpebbfnnaa.V
open Go
set_option maxRecDepth 100000
theorem procs_each {m : Mach} (h : chkM m = 0) : ∀ p ∈ m.pr, procB m p = true := fun p hp => by
  obtain ⟨_, _, _, _, h5, _⟩ := chk_parts h
  obtain ⟨i, hi, rfl⟩ := List.mem_iff_getElem.1 hp
  have hq := (List.all_eq_true.1 h5) i (List.mem_range.2 hi)
  rw [Bool.and_eq_true] at hq
  have := hq.2
  rwa [List.getD_eq_getElem?_getD, List.getElem?_eq_getElem hi] at this
end Go.Proofs.Ytpdhdkpebbfnnaa.V
end
section
namespace Go.Proofs.Ytpdhdkpebbfnnaa.V
open Go
set_option maxRecDepth 100000
theorem livesB_mem {l : List Pr} {pid : Int} : livesB l pid = true ↔ ∃ p ∈ l, p.pid = pid ∧ livesP p = true := by
  unfold livesB
  rw [List.any_eq_true]
  constructor
  · rintro ⟨p, hp, h⟩
    rw [Bool.and_eq_true] at h
    exact ⟨p, hp, of_decide_eq_true h.1, h.2⟩
  · rintro ⟨p, hp, h1, h2⟩
    exact ⟨p, hp, by rw [decide_eq_true h1, h2]; rfl⟩
end Go.Proofs.Ytpdhdkpebbfnnaa.V
end
section
namespace Go.Proofs.Ytpdhdkpebbfnnaa.V
open Go
set_option maxRecDepth 100000
theorem find_none {l : List Pr} {pid : Int} : findI l pid = none ↔ ∀ p ∈ l, p.pid ≠ pid := by
  unfold findI
  rw [List.findIdx?_eq_none_iff]
  constructor
  · intro h p hp; simpa using h p hp
  · intro h p hp; simpa using h p hp
end Go.Proofs.Ytpdhdkpebbfnnaa.V
end
section
namespace Go.Proofs.Ytpdhdkpebbfnnaa.V
open Go
set_option maxRecDepth 100000
structure LaidOk (s : List Pte) (l : List Lay) : Prop where
  at0 : ∀ j, j < l.length → (l.getD j default).at_.toNat < s.length ∧ (s.getD (l.getD j default).at_.toNat default).is = false
  dis : ∀ i j, i < j → j < l.length → (l.getD i default).at_.toNat ≠ (l.getD j default).at_.toNat
end Go.Proofs.Ytpdhdkpebbfnnaa.V
end
section
namespace Go.Proofs.Ytpdhdkpebbfnnaa.V
open Go
set_option maxRecDepth 100000
end Go.Proofs.Ytpdhdkpebbfnnaa.V
end
section
namespace Go.Proofs.Ytpdhdkpebbfnnaa.V
open Go
set_option maxRecDepth 100000
def fdZ : Fdd := ⟨0, 0, 0⟩
end Go.Proofs.Ytpdhdkpebbfnnaa.V
end
section
namespace Go.Proofs.Ytpdhdkpebbfnnaa.V
open Go
set_option maxRecDepth 100000
set_option maxHeartbeats 8000000
end Go.Proofs.Ytpdhdkpebbfnnaa.V
end
section
namespace Go.Proofs.Ytpdhdkpebbfnnaa.V
open Go
set_option maxRecDepth 100000
set_option maxHeartbeats 8000000
end Go.Proofs.Ytpdhdkpebbfnnaa.V
end
section
namespace Go.Proofs.Ytpdhdkpebbfnnaa.V
open Go
set_option maxRecDepth 100000
end Go.Proofs.Ytpdhdkpebbfnnaa.V
end
section
namespace Go.Proofs.Ytpdhdkpebbfnnaa.V
open Go
set_option maxRecDepth 100000
set_option maxHeartbeats 4000000
end Go.Proofs.Ytpdhdkpebbfnnaa.V
end
section
namespace Go.Proofs.Ytpdhdkpebbfnnaa.V
open Go
set_option maxRecDepth 100000
set_option maxHeartbeats 4000000
end Go.Proofs.Ytpdhdkpebbfnnaa.V
end
section
namespace Go.Proofs.Ytpdhdkpebbfnnaa.V
open Go
set_option maxRecDepth 100000
set_option maxHeartbeats 8000000
end Go.Proofs.Ytpdhdkpebbfnnaa.V
end
section
namespace Go.Proofs.Ytpdhdkpebbfnnaa.V
open Go
set_option maxRecDepth 100000
set_option maxHeartbeats 4000000
end Go.Proofs.Ytpdhdkpebbfnnaa.V
end
section
namespace Go.Proofs.Ytpdhdkpebbfnnaa.V
open Go
set_option maxRecDepth 100000
set_option maxHeartbeats 4000000
end Go.Proofs.Ytpdhdkpebbfnnaa.V
end
section
namespace Go.Proofs.Ytpdhdkpebbfnnaa.V
open Go
set_option maxRecDepth 100000
set_option maxHeartbeats 4000000
end Go.Proofs.Ytpdhdkpebbfnnaa.V
end
section
namespace Go.Proofs.Ytpdhdkpebbfnnaa.V
open Go
set_option maxRecDepth 100000
set_option maxHeartbeats 4000000
end Go.Proofs.Ytpdhdkpebbfnnaa.V
end
section
namespace Go.Proofs.Ytpdhdkpebbfnnaa.V
open Go
set_option maxRecDepth 100000
set_option maxHeartbeats 8000000
def mayP (m : Mach) (a : Int) : Int := match findI m.pr a with
  | none => 0
  | some i => if (m.pr.getD i default).st = 3 then 0 else a
theorem mayP_R (m : Mach) {a : Int} (h : i64R a) : i64R (mayP m a) := by
  have z : i64R 0 := by unfold i64R; omega
  unfold mayP
  split
  · exact z
  · split
    · exact z
    · exact h
theorem fdZ_R : fdR fdZ := by
  have z : i64R 0 := by unfold i64R; omega
  exact ⟨z, z, z⟩
end Go.Proofs.Ytpdhdkpebbfnnaa.V
end
section
namespace Go.Proofs.Ytpdhdkpebbfnnaa.V
open Go
set_option maxRecDepth 100000
theorem getD_appL {α : Type} {l r : List α} {k : Nat} {d : α} (h : k < l.length) : (l ++ r).getD k d = l.getD k d := by
  rw [List.getD_eq_getElem?_getD, List.getD_eq_getElem?_getD, List.getElem?_append_left h]
theorem getD_mid {α : Type} {l r : List α} {x d : α} : (l ++ x :: r).getD l.length d = x := by
  rw [List.getD_eq_getElem?_getD, List.getElem?_append_right (Nat.le_refl _), Nat.sub_self]; rfl
theorem kid_none {l : List Pr} {par pid : Int} (h0 : pid ≠ 0) (h : ∀ p ∈ l, p.pid ≠ pid) (r : List Pr) : ∀ k, k ≤ l.length → kidK (l ++ r) par pid k = none ∧ metK (l ++ r) par pid k = false
  | 0, _ => ⟨rfl, rfl⟩
  | k + 1, hk => by
    have hn : ¬kidP par pid ((l ++ r).getD k default) := by
      rw [getD_appL (by omega)]
      exact fun hc => hc.2.elim h0 (h _ (getD_mem' (by omega)))
    rw [(kid_no hn).1, (kid_no hn).2]
    exact kid_none h0 h r k (by omega)
theorem reap_busy {m : Mach} {l : List Pr} {q : Pr} {par pid : Int} (hm : m.pr = l ++ [q]) (h0 : pid ≠ 0) (hl : ∀ p ∈ l, p.pid ≠ pid) (h1 : q.par = par) (h2 : q.pid = pid) (h3 : q.st ≠ 3) : reapVV m par pid = .tup [encM nilM, .int .i64 0, .int .u32 0, .int .i64 12] := by
  obtain ⟨e1, e2⟩ := kid_none (par := par) h0 hl [q] l.length (Nat.le_refl _)
  have hg : (l ++ [q]).getD l.length default = q := getD_mid
  have hk : kidP par pid ((l ++ [q]).getD l.length default) := by rw [hg]; exact ⟨h1, .inr h2⟩
  have e3 : metK m.pr par pid m.pr.length = true := by rw [hm, List.length_append, List.length_singleton]; exact kid_yes hk
  have e4 : kidK m.pr par pid m.pr.length = none := by
    rw [hm, List.length_append, List.length_singleton, kid_keep (fun h => h3 (by rw [hg] at h; exact h.1)), e1]
  unfold reapVV
  rw [e3, if_neg (by decide), e4]
theorem reap_child {m : Mach} {l : List Pr} {q : Pr} {par pid : Int} (hm : m.pr = l ++ [q]) (h0 : pid ≠ 0) (hl : ∀ p ∈ l, p.pid ≠ pid) (h1 : q.par = par) (h2 : q.pid = pid) (h3 : q.st = 3) : reapVV m par pid = .tup [encM (prM m l), .int .i64 pid, .int .u32 q.code, .int .i64 0] := by
  obtain ⟨e1, e2⟩ := kid_none (par := par) h0 hl [q] l.length (Nat.le_refl _)
  have hg : (l ++ [q]).getD l.length default = q := getD_mid
  have hk : kidP par pid ((l ++ [q]).getD l.length default) := by rw [hg]; exact ⟨h1, .inr h2⟩
  have e3 : metK m.pr par pid m.pr.length = true := by rw [hm, List.length_append, List.length_singleton]; exact kid_yes hk
  have e4 : kidK m.pr par pid m.pr.length = some l.length := by
    rw [hm, List.length_append, List.length_singleton]
    exact kid_take hk (by rw [hg]; exact h3) (by rw [e1]; trivial)
  have e5 : reapM m l.length = prM m l := by
    unfold reapM
    rw [hm, List.take_left' rfl, List.drop_eq_nil_of_le (by rw [List.length_append, List.length_singleton]; omega), List.append_nil]
  unfold reapVV
  rw [e3, if_neg (by decide), e4]
  dsimp only
  rw [e5, hm, hg, h2]
theorem reap_gone {m : Mach} {par pid : Int} (h0 : pid ≠ 0) (hl : ∀ p ∈ m.pr, p.pid ≠ pid) : reapVV m par pid = .tup [encM nilM, .int .i64 0, .int .u32 0, .int .i64 9] := by
  obtain ⟨_, e2⟩ := kid_none (par := par) h0 hl [] m.pr.length (Nat.le_refl _)
  rw [List.append_nil] at e2
  unfold reapVV
  rw [e2, if_pos rfl]
theorem findI_mid {l r : List Pr} {q : Pr} {pid : Int} (hl : ∀ p ∈ l, p.pid ≠ pid) (hq : q.pid = pid) : findI (l ++ q :: r) pid = some l.length :=
  find_hit (by rw [List.length_append, List.length_cons]; omega) (fun j hj => by rw [getD_appL hj]; exact hl _ (getD_mem' hj)) (by rw [getD_mid]; exact hq)
theorem freeP_no {pid : Int} {p : Pr} (h : p.par ≠ pid) : freeP pid p = p := by unfold freeP; rw [if_neg h]
theorem freeP_all {pid : Int} {l : List Pr} (h : ∀ p ∈ l, p.par ≠ pid) : l.map (freeP pid) = l := by
  conv => rhs; rw [← List.map_id l]
  exact List.map_congr_left fun p hp => freeP_no (h p hp)
theorem die_mid {m : Mach} {l r : List Pr} {q : Pr} {pid : Int} (code : Int) (hm : m.pr = l ++ q :: r) (hq : q.pid = pid) (hl : ∀ p ∈ l, p.pid ≠ pid) (h3 : q.st ≠ 3) (hpar : ∀ p ∈ l ++ q :: r, p.par ≠ pid)
    (hst : ∀ p ∈ l ++ r, p.st = 3 → p.par ≠ 0 ∧ ∃ x ∈ l ++ q :: r, x.pid = p.par) :
    dieM m pid code = sweepM (prM m (l ++ ((if q.par ≠ 0 ∧ ∃ x ∈ l ++ q :: r, x.pid = q.par then [deadP q code] else []) ++ r))) := by
  have e0 : dieL m l.length pid code = l ++ deadP q code :: r := by
    unfold dieL
    rw [hm, getD_mid, List.set_append_right _ _ (Nat.le_refl _), Nat.sub_self, List.set_cons_zero]
    refine freeP_all fun p hp => ?_
    rcases List.mem_append.1 hp with h | h
    · exact hpar p (List.mem_append_left _ h)
    · rcases List.mem_cons.1 h with rfl | h
      · exact hpar q (List.mem_append_right _ (List.mem_cons_self ..))
      · exact hpar p (List.mem_append_right _ (List.mem_cons_of_mem _ h))
  have hfind : ∀ a : Int, (∃ x ∈ l ++ q :: r, x.pid = a) ↔ findI (l ++ deadP q code :: r) a ≠ none := fun a => by
    rw [Ne, find_none]
    constructor
    · rintro ⟨x, hx, hxa⟩ hn
      rcases List.mem_append.1 hx with h | h
      · exact hn x (List.mem_append_left _ h) hxa
      · rcases List.mem_cons.1 h with rfl | h
        · exact hn (deadP x code) (List.mem_append_right _ (List.mem_cons_self ..)) hxa
        · exact hn x (List.mem_append_right _ (List.mem_cons_of_mem _ h)) hxa
    · intro hn
      by_cases h : ∃ x ∈ l ++ deadP q code :: r, x.pid = a
      · obtain ⟨x, hx, hxa⟩ := h
        rcases List.mem_append.1 hx with h | h
        · exact ⟨x, List.mem_append_left _ h, hxa⟩
        · rcases List.mem_cons.1 h with rfl | h
          · exact ⟨q, List.mem_append_right _ (List.mem_cons_self ..), hxa⟩
          · exact ⟨x, List.mem_append_right _ (List.mem_cons_of_mem _ h), hxa⟩
      · exact absurd (fun p hp e => h ⟨p, hp, e⟩) hn
  have hstay : ∀ p ∈ l ++ r, stayB (l ++ deadP q code :: r) p = true := fun p hp => by
    by_cases hp3 : p.st = 3
    · obtain ⟨h0, hx⟩ := hst p hp hp3
      have := (hfind _).1 hx
      cases hf : findI (l ++ deadP q code :: r) p.par with
      | none => exact absurd hf this
      | some x => exact stay3 hp3 h0 hf
    · exact stay0 hp3
  have hfl : ∀ k : List Pr, (∀ p ∈ k, p ∈ l ++ r) → k.filter (stayB (l ++ deadP q code :: r)) = k := fun k hk => List.filter_eq_self.2 fun p hp => hstay p (hk p hp)
  unfold dieM
  rw [show findI m.pr pid = some l.length by rw [hm]; exact findI_mid hl hq]
  dsimp only
  rw [show m.pr.getD l.length default = q by rw [hm]; exact getD_mid, if_neg h3, e0, List.filter_append, List.filter_cons, hfl l (fun p hp => List.mem_append_left _ hp), hfl r (fun p hp => List.mem_append_right _ hp)]
  congr 2
  by_cases hc : q.par ≠ 0 ∧ ∃ x ∈ l ++ q :: r, x.pid = q.par
  · rw [if_pos hc]
    have := (hfind _).1 hc.2
    cases hf : findI (l ++ deadP q code :: r) q.par with
    | none => exact absurd hf this
    | some x => rw [if_pos (stay3 (p := deadP q code) rfl hc.1 hf)]; rfl
  · rw [if_neg hc]
    have : stayB (l ++ deadP q code :: r) (deadP q code) = false := by
      by_cases h0 : q.par = 0
      · exact stay1 rfl h0
      · refine stay2 rfl ?_
        cases hf : findI (l ++ deadP q code :: r) q.par with
        | none => exact hf
        | some x => exact absurd ⟨h0, (hfind q.par).2 (by rw [hf]; exact fun h => by cases h)⟩ hc
    rw [if_neg (by rw [this]; decide)]; rfl
structure Kin (m : Mach) : Prop where
  pid : ∀ p ∈ m.pr, 1 ≤ p.pid ∧ p.pid < m.next
  par : ∀ p ∈ m.pr, p.par < m.next
  dead : ∀ p ∈ m.pr, p.st = 3 → p.par ≠ 0 ∧ ∃ x ∈ m.pr, x.pid = p.par
  next : 1 ≤ m.next
theorem chk_kin {m : Mach} (h : chkM m = 0) : Kin m := by
  have hall := procs_each h
  obtain ⟨h1, _⟩ := chk_parts h
  have hn1 : 1 ≤ m.next ∧ m.next ≤ 1000000000 := by
    unfold numB at h1
    have := of_decide_eq_false h1
    omega
  have hpid : ∀ p ∈ m.pr, 1 ≤ p.pid ∧ p.pid < m.next := fun p hp => by
    have := hall p hp
    unfold procB at this
    rw [Bool.and_eq_true, Bool.and_eq_true] at this
    have := this.1.1
    unfold procH at this
    split at this
    · cases this
    · omega
  have hpar : ∀ p ∈ m.pr, (p.st = 3 ∨ p.par ≠ 0) → ∃ x ∈ m.pr, x.pid = p.par := fun p hp h0 => by
    have := hall p hp
    unfold procB at this
    rw [Bool.and_eq_true, Bool.and_eq_true] at this
    have := this.1.1
    unfold procH at this
    split at this
    · cases this
    split at this
    · cases this
    · rename_i a2
      cases hb : livesB m.pr p.par with
      | false => exact absurd ⟨hb, h0⟩ a2
      | true =>
        obtain ⟨x, hx, hx1, _⟩ := livesB_mem.1 hb
        exact ⟨x, hx, hx1⟩
  refine ⟨hpid, fun p hp => ?_, fun p hp h3 => ?_, hn1.1⟩
  · by_cases h0 : p.par = 0
    · omega
    · obtain ⟨x, hx, hx1⟩ := hpar p hp (.inr h0)
      have := hpid x hx
      omega
  · obtain ⟨x, hx, hx1⟩ := hpar p hp (.inl h3)
    have := hpid x hx
    exact ⟨by omega, x, hx, hx1⟩
end Go.Proofs.Ytpdhdkpebbfnnaa.V
end
section
namespace Go.Proofs.Ytpdhdkpebbfnnaa.V
open Go
set_option maxRecDepth 100000
def znTZ := And.intro @jO <| And.intro @jP <| And.intro @jQ <| And.intro @jR <| And.intro @jS <| And.intro @jT <| And.intro @jU <| True.intro
set_option maxHeartbeats 8000000
def bornP (m : Mach) (e : Exe) (par : Int) (i o : Fdd) : Pr := tookP m (newPr m e par i o) (layE e)
theorem spawn_frl (m : Mach) (e : Exe) (par : Int) (i o : Fdd) : (spawnM m e par i o).fr.length = m.fr.length := frK_len ..
theorem back_m {m : Mach} (hm : MFit 20000 m) (hs : seenM m) {e : Exe} (he : ExeR e) {par code : Int} (hc : u32R code) {i : Nat} (hf : findI m.pr par = some i) (h0 : par ≠ 0) (hp : i64R par) (hE : spawnE m e = 0) :
    ∃ a b c : Mach, spawnVV m e par fdZ fdZ = .tup [encM a, .int .i64 m.next, .int .i64 0] ∧ MFit 20000 a ∧ MFit 20000 b ∧ MFit 20000 c ∧ reapVV a par m.next = .tup [encM nilM, .int .i64 0, .int .u32 0, .int .i64 12] ∧ dieM a m.next code = b ∧
      reapVV b par m.next = .tup [encM c, .int .i64 m.next, .int .u32 code, .int .i64 0] ∧ reapVV c par m.next = .tup [encM nilM, .int .i64 0, .int .u32 0, .int .i64 9] ∧ c.pr = m.pr ∧ c.fr.length = m.fr.length := by
  obtain ⟨hs0, hs1, hs2, hs3⟩ := hs
  have hk := chk_kin hs1
  obtain ⟨k1, k2, k3⟩ := spawnE_ok hE
  obtain ⟨hi, hpid⟩ := findI_some hf
  have hpar : par < m.next := by have := hk.pid _ (getD_mem' hi); omega
  obtain ⟨q, hq⟩ : ∃ q, q = bornP m e par fdZ fdZ := ⟨_, rfl⟩
  have q1 : q.pid = m.next := by rw [hq]; rfl
  have q2 : q.par = par := by rw [hq]; rfl
  have q3 : q.st = 1 := by rw [hq]; rfl
  obtain ⟨a, ha⟩ : ∃ a, a = spawnM m e par fdZ fdZ := ⟨_, rfl⟩
  have a1 : a.pr = m.pr ++ [q] := by rw [ha, hq]; rfl
  have a2 : a.fr.length = m.fr.length := by rw [ha]; exact spawn_frl ..
  have fa : MFit 20000 a := by rw [ha]; exact spawnM_fit hm (by omega) (by omega) he k1 hp fdZ_R fdZ_R
  have hne : ∀ p ∈ m.pr, p.pid ≠ m.next := fun p hp => by have := hk.pid p hp; omega
  have hn0 : m.next ≠ 0 := by have := hk.next; omega
  have hD : dieM a m.next code = sweepM (prM a (m.pr ++ ((if q.par ≠ 0 ∧ ∃ x ∈ m.pr ++ q :: [], x.pid = q.par then [deadP q code] else []) ++ []))) :=
    die_mid code a1 q1 hne (by omega) (fun p hp => by
      rcases List.mem_append.1 hp with hp | hp
      · have := hk.par p hp; omega
      · rw [List.mem_singleton.1 hp]; omega) (fun p hp h3 => by
      rw [List.append_nil] at hp
      obtain ⟨d1, x, hx, hx1⟩ := hk.dead p hp h3
      exact ⟨d1, x, List.mem_append_left _ hx, hx1⟩)
  rw [if_pos ⟨by omega, _, List.mem_append_left _ (getD_mem' hi), by omega⟩, List.append_nil] at hD
  have fb : MFit 20000 (dieM a m.next code) := dieM_fit fa _ hc
  have b1 : (sweepM (prM a (m.pr ++ [deadP q code]))).pr = m.pr ++ [deadP q code] := rfl
  have hR2 := reap_child (par := par) b1 hn0 hne q2 q1 rfl
  refine ⟨a, dieM a m.next code, prM (dieM a m.next code) m.pr, ?_, fa, fb, prM_fit fb hm.pr hm.prR, ?_, rfl, ?_, ?_, rfl, ?_⟩
  · unfold spawnVV
    rw [if_pos hE, ha]
  · exact reap_busy a1 hn0 hne q2 q1 (by omega)
  · rw [hD]; exact hR2
  · exact reap_gone hn0 hne
  · rw [hD]; exact a2
theorem back_law26 (x0 : MachD) (x1 : ExeD) (x2 x3 : Int) (g0 : good machT x0) (g1 : good exeT x1) (g2 : good (.int .i64) x2) (g3 : good (.int .u32) x3) (l0 : Ty.lite machT x0) (l1 : Ty.lite exeT x1) (l2 : Ty.lite (.int .i64) x2) (l3 : Ty.lite (.int .u32) x3) :
    Spec Try.prog 6 [toV machT x0, toV exeT x1, toV (.int .i64) x2, toV (.int .u32) x3] (.bool true) := by
  have hm := mach_good x0 g0 l0
  have he := exe_good x1 g1 l1
  have hp : i64R x2 := bounds_i64 g2
  have hc : u32R x3 := bounds_u32 g3
  rw [toV_mach, toV_exe]
  simp only [toV]
  generalize mMach x0 = m at hm
  generalize mExe x1 = e at he
  clear g0 g1 g2 g3 l0 l1 l2 l3 x0 x1
  have hA := palive_spec
  have hW := pwide_spec m hm
  have hG := pgreat_spec e he.ws he.data
  have hnl := nl_encM m
  have hnlE := nl_encExe e
  by_cases hs : seenM m ∧ seenE e
  · obtain ⟨hs1, hs2⟩ := hs
    rw [if_pos hs1] at hW
    rw [decide_eq_true hs2] at hG
    have hf := near_fit hm hs1.1
    have hR := exe_R he hs2
    have hnx : m.next < 4611686018427387904 := by have := hs1.2.2.1; omega
    have hF := rfind_spec m hf x2 hp
    cases hpl : findI m.pr x2 with
    | none =>
      rw [hpl] at hF
      simp only [placeV] at hF
      refine spec_ok Try.func6 rfl rfl (by kernel_rfl) (k := 4) rfl (by decide) ?_
      repeat' (first|(with_reducible first|refine yrl (by constructor) ?_|refine jk (fun M hM=>?_)|(refine hM _ ?_;clear hM M)|refine xb3 (by decide) ?_|refine yqa (by assumption) ?_ ?_|refine yqb (by assumption) ?_ ?_)|((with_reducible refine je ?_)<;>(first|rfl|assumption|(simp only [znl,znTZ];(first|done|fail))))|(with_reducible refine jf (by (simp only [↓reduceIte,zlk,Nat.reduceEqDiff,reduceCtorEq]);exact rfl) ?_)|((with_reducible first|refine jg (fun hc=>?_) (fun hc=>?_)|refine jh (fun hc=>?_) (fun hc=>?_))<;>(try simp (disch:=omega) only [zhb] at hc)<;>(try (exfalso;omega))<;>(try subst hc))|(with_reducible refine ji (by omega) ?_)|(simp (config := { maxSteps := 400000 }) only [↓jt,↓reduceIte,zvs,reduceCtorEq,seval,-List.reduceReplicate,tab,hasFd1,Try.results6,jTA])|(simp (disch:=omega) only [ziw]))
      all_goals first
        | (exfalso; omega)
        | (simp only [zrds]; done)
    | some i =>
      obtain ⟨hi, hpid⟩ := findI_some hpl
      rw [hpl] at hF
      simp only [placeV] at hF
      have hbp := hf.prR _ (getD_mem' hi)
      obtain ⟨hS1, hS2, hS3⟩ := pr3 hbp
      by_cases h0 : (m.pr.getD i default).st = 3 ∨ x2 = 0
      · refine spec_ok Try.func6 rfl rfl (by kernel_rfl) (k := 4) rfl (by decide) ?_
        repeat' (first|(with_reducible first|refine yrl (by constructor) ?_|refine jk (fun M hM=>?_)|(refine hM _ ?_;clear hM M)|refine xb3 (by decide) ?_|refine yqa (by assumption) ?_ ?_|refine yqb (by assumption) ?_ ?_)|((with_reducible refine je ?_)<;>(first|rfl|assumption|(simp only [znl,znTZ];(first|done|fail))))|(with_reducible refine jf (by (simp only [↓reduceIte,zlk,Nat.reduceEqDiff,reduceCtorEq]);exact rfl) ?_)|((with_reducible first|refine jg (fun hc=>?_) (fun hc=>?_)|refine jh (fun hc=>?_) (fun hc=>?_))<;>(try simp (disch:=omega) only [zhb] at hc)<;>(try (exfalso;omega))<;>(try subst hc))|(with_reducible refine ji (by omega) ?_)|(simp (config := { maxSteps := 400000 }) only [↓jt,↓reduceIte,zvs,reduceCtorEq,seval,-List.reduceReplicate,tab,hasFd1,hS1,hS2,hS3,encPr,Try.results6,jTA])|(simp (disch:=omega) only [ziw]))
        all_goals first
          | (exfalso; omega)
          | (simp only [zrds]; done)
      obtain ⟨h3, h0⟩ : (m.pr.getD i default).st ≠ 3 ∧ x2 ≠ 0 := ⟨fun h => h0 (.inl h), fun h => h0 (.inr h)⟩
      have hS := sspawn_spec m hf hnx e hR x2 hp fdZ fdZ fdZ_R fdZ_R
      have hnlA : nls [encM m, encExe e, VV.int .i64 x2, encFd fdZ, encFd fdZ] = true := by
        show (nl (encM m) && (nl (encExe e) && (true && (nl (encFd fdZ) && (nl (encFd fdZ) && true))))) = true
        rw [hnl, hnlE]; rfl
      by_cases hE : spawnE m e = 0
      · obtain ⟨a, b, c, k1, fa, fb, fc, k2, k3, k4, k5, k6, k7⟩ := back_m hf hs1 hR hc hpl h0 hp hE
        rw [k1] at hS
        have hnR : i64R m.next := hf.next
        have hR1 := sreap_spec a fa x2 hp m.next hnR
        have hD := sdie_spec a fa m.next hnR x3 hc
        have hR2 := sreap_spec b fb x2 hp m.next hnR
        have hR3 := sreap_spec c fc x2 hp m.next hnR
        rw [k2] at hR1
        rw [k3] at hD
        rw [k4] at hR2
        rw [k5] at hR3
        have hF1 := sfree_spec c fc
        have hF2 := sfree_spec m hf
        have hSP := procs_same m.pr hf.pr hf.prR
        unfold freeV at hF1 hF2
        rw [k6, k7] at hF1
        have hFl := freeK_le m.pr m.fr.length
        have hfl := hf.fr
        generalize freeK m.pr m.fr.length = F at hF1 hF2 hFl
        have hSP : Spec Try.prog 21 [encPrs c.pr, encPrs m.pr] (.bool true) := by rw [k6]; exact hSP
        simp only [fdZ,encFd] at hS hnlA
        clear k1 k2 k3 k4 k5 k6 k7 fa fb fc hs1 hs2
        have hna := nl_encM a
        have hnb := nl_encM b
        have hnc := nl_encM c
        refine spec_ok Try.func6 rfl rfl (by kernel_rfl) (k := 4) rfl (by decide) ?_
        repeat' (first|(with_reducible first|refine yrl (by constructor) ?_|refine jk (fun M hM=>?_)|(refine hM _ ?_;clear hM M)|refine xb3 (by decide) ?_|refine yqa (by assumption) ?_ ?_|refine yqb (by assumption) ?_ ?_)|((with_reducible refine je ?_)<;>(first|rfl|assumption|(simp only [znl,znTZ];(first|done|fail))))|(with_reducible refine jf (by (simp only [↓reduceIte,zlk,Nat.reduceEqDiff,reduceCtorEq]);exact rfl) ?_)|((with_reducible first|refine jg (fun hc=>?_) (fun hc=>?_)|refine jh (fun hc=>?_) (fun hc=>?_))<;>(try simp (disch:=omega) only [zhb] at hc)<;>(try (exfalso;omega))<;>(try subst hc))|(with_reducible refine ji (by omega) ?_)|(simp (config := { maxSteps := 400000 }) only [↓jt,↓reduceIte,zvs,reduceCtorEq,seval,-List.reduceReplicate,tab,hasFd1,hS1,hS2,hS3,encPr,encNats,Try.results6,jTA])|(simp (disch:=omega) only [ziw]))
        all_goals (try (exfalso; omega))
        refine ok_drawC 25 (by kernel_rfl) (by decide +kernel) (by intro m hm; simp only [upd_ap,rows_cons,rows_nil]; (repeat (first | rfl | rw [if_neg (by omega)]))) (fun M hM => ?_); simp only [List.take_succ_cons,List.take_zero,List.drop_succ_cons,List.drop_zero]
        repeat' (first|(with_reducible first|refine yrl (by constructor) ?_|refine jk (fun M hM=>?_)|(refine hM _ ?_;clear hM M)|refine xb3 (by decide) ?_|refine yqa (by assumption) ?_ ?_|refine yqb (by assumption) ?_ ?_)|((with_reducible refine je ?_)<;>(first|rfl|assumption|(simp only [znl,znTZ];(first|done|fail))))|(with_reducible refine jf (by (simp only [↓reduceIte,zlk,Nat.reduceEqDiff,reduceCtorEq]);exact rfl) ?_)|((with_reducible first|refine jg (fun hc=>?_) (fun hc=>?_)|refine jh (fun hc=>?_) (fun hc=>?_))<;>(try simp (disch:=omega) only [zhb] at hc)<;>(try (exfalso;omega))<;>(try subst hc))|(with_reducible refine ji (by omega) ?_)|(simp (config := { maxSteps := 400000 }) only [↓jt,↓reduceIte,zvs,reduceCtorEq,seval,-List.reduceReplicate,tab,hasFd1,hS1,hS2,hS3,encPr,encNats,Try.results6,jTA])|(simp (disch:=omega) only [ziw]))
        all_goals first
          | (exfalso; omega)
          | (simp only [zrds]; done)
      · unfold spawnVV at hS
        rw [if_neg hE] at hS
        generalize spawnE m e = v at hS hE
        simp only [fdZ,encFd] at hS hnlA
        refine spec_ok Try.func6 rfl rfl (by kernel_rfl) (k := 4) rfl (by decide) ?_
        repeat' (first|(with_reducible first|refine yrl (by constructor) ?_|refine jk (fun M hM=>?_)|(refine hM _ ?_;clear hM M)|refine xb3 (by decide) ?_|refine yqa (by assumption) ?_ ?_|refine yqb (by assumption) ?_ ?_)|((with_reducible refine je ?_)<;>(first|rfl|assumption|(simp only [znl,znTZ];(first|done|fail))))|(with_reducible refine jf (by (simp only [↓reduceIte,zlk,Nat.reduceEqDiff,reduceCtorEq]);exact rfl) ?_)|((with_reducible first|refine jg (fun hc=>?_) (fun hc=>?_)|refine jh (fun hc=>?_) (fun hc=>?_))<;>(try simp (disch:=omega) only [zhb] at hc)<;>(try (exfalso;omega))<;>(try subst hc))|(with_reducible refine ji (by omega) ?_)|(simp (config := { maxSteps := 400000 }) only [↓jt,↓reduceIte,zvs,reduceCtorEq,seval,-List.reduceReplicate,tab,hasFd1,hS1,hS2,hS3,encPr,Try.results6,jTA])|(simp (disch:=omega) only [ziw]))
        all_goals first
          | (exfalso; omega)
          | (simp only [zrds]; done)
  · obtain ⟨w, hw⟩ : ∃ w : Int, w = if seenM m then 0 else 1 := ⟨_, rfl⟩
    obtain ⟨b, hb⟩ : ∃ b : Bool, b = !decide (seenE e) := ⟨_, rfl⟩
    have hor : w = 1 ∨ (w = 0 ∧ b = true) := by
      by_cases h1 : seenM m
      · have h2 : ¬seenE e := fun h => hs ⟨h1, h⟩
        exact .inr ⟨by rw [hw, if_pos h1], by rw [hb, decide_eq_false h2]; rfl⟩
      · exact .inl (by rw [hw, if_neg h1])
    rw [← hw] at hW
    rw [← hb] at hG
    clear hw hb
    rcases hor with rfl | ⟨rfl, rfl⟩ <;> (
      refine spec_ok Try.func6 rfl rfl (by kernel_rfl) (k := 4) rfl (by decide) ?_
      repeat' (first|(with_reducible first|refine yrl (by constructor) ?_|refine jk (fun M hM=>?_)|(refine hM _ ?_;clear hM M)|refine xb3 (by decide) ?_|refine yqa (by assumption) ?_ ?_|refine yqb (by assumption) ?_ ?_)|((with_reducible refine je ?_)<;>(first|rfl|assumption|(simp only [znl,znTZ];(first|done|fail))))|(with_reducible refine jf (by (simp only [↓reduceIte,zlk,Nat.reduceEqDiff,reduceCtorEq]);exact rfl) ?_)|((with_reducible first|refine jg (fun hc=>?_) (fun hc=>?_)|refine jh (fun hc=>?_) (fun hc=>?_))<;>(try simp (disch:=omega) only [zhb] at hc)<;>(try (exfalso;omega))<;>(try subst hc))|(with_reducible refine ji (by omega) ?_)|(simp (config := { maxSteps := 400000 }) only [↓jt,↓reduceIte,zvs,reduceCtorEq,seval,-List.reduceReplicate,tab,hasFd1,Try.results6,jTA])|(simp (disch:=omega) only [ziw]))
      all_goals first
        | (exfalso; omega)
        | (simp only [zrds]; done)
       )
end Go.Proofs.Ytpdhdkpebbfnnaa.V
end
