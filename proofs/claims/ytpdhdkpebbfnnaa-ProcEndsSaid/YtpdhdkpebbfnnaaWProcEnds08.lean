/-
  Parts of the proof of ProcEnds: R2, Q5, T3, M14, NS, P1, P2, P3, D4, D5, D6, Q1, VregT, TB, TC, Vnew, TE, TD.
  Conditions: none.
-/
import Derived.Test.YtpdhdkpebbfnnaaWProcEnds07
import Derived.Test.YtpdhdkpebbfnnaaWProcEnds06
import Derived.Test.YtpdhdkpebbfnnaaWProcEnds05
import Derived.Test.YtpdhdkpebbfnnaaWProcEnds04
set_option linter.unusedVariables false
set_option linter.unusedSimpArgs false
set_option linter.unusedSectionVars false
set_option linter.defProp false
section
namespace Go.Proofs.Ytpdhdkpebbfnnaa.V
open Go
set_option maxRecDepth 100000
def znR2 := And.intro @jO <| And.intro @jP <| And.intro @jQ <| And.intro @jR <| And.intro @jS <| And.intro @jT <| And.intro @jU <| True.intro
set_option maxHeartbeats 4000000
theorem sends_spec (m : Mach) (hm : MFit 20000 m) (id : Int) (hf : i64R id) : Spec Try.prog 102 [encM m, .int .i64 id] (.tup [.int .i64 (endsN m.pr 4 id), .int .i64 (endsN m.pr 5 id)]) := by
  obtain ⟨R, hR⟩ : ∃ R, R = endsN m.pr 4 id := ⟨_, rfl⟩
  obtain ⟨T, hT⟩ : ∃ T, T = endsN m.pr 5 id := ⟨_, rfl⟩
  rw [← hR, ← hT]
  have hl := hm.pr
  have hpR := hm.prR
  have hU : ∀ q k, k ≤ m.pr.length → endsN (m.pr.take k) q id ≤ 8 * k := fun q k hk => by
    have := endsN_le q id (m.pr.take k) fun p hp => (hpR p (List.mem_of_mem_take hp)).fds
    rw [List.length_take] at this
    omega
  obtain ⟨hp1, hp2⟩ := hf
  refine spec_ok Try.func102 rfl rfl (by kernel_rfl) (k := 2) rfl (by decide) ?_
  repeat' (first|(with_reducible first|refine yrl (by constructor) ?_|refine jk (fun M hM=>?_)|(refine hM _ ?_;clear hM M)|refine xb3 (by decide) ?_|refine yqa (by assumption) ?_ ?_|refine yqb (by assumption) ?_ ?_)|((with_reducible refine je ?_)<;>(first|rfl|assumption|(simp only [znl,znR2];(first|done|fail))))|(with_reducible refine jf (by (simp only [↓reduceIte,zlk,Nat.reduceEqDiff,reduceCtorEq]);exact rfl) ?_)|((with_reducible first|refine jg (fun hc=>?_) (fun hc=>?_)|refine jh (fun hc=>?_) (fun hc=>?_))<;>(try simp (disch:=omega) only [zhb] at hc)<;>(try (exfalso;omega))<;>(try subst hc))|(with_reducible refine ji (by omega) ?_)|(simp (config := { maxSteps := 400000 }) only [↓jt,↓reduceIte,zvs,reduceCtorEq,seval,-List.reduceReplicate,tab,Try.results102,jTA])|(simp (disch:=omega) only [ziw]))
  refine ok_loop (fun k : Nat => ⟨slots [(1, .int .i64 id), (2, .ptr 0 []), (4, .int .i64 0), (5, .int .i64 0), (6, .int .i64 (endsN (m.pr.take k) 4 id)), (7, .int .i64 (endsN (m.pr.take k) 5 id)), (13, encPrs m.pr), (14, .int .i64 m.pr.length), (15, .int .i64 k)], rows [(0, .row machSh (encM m))], 1⟩) (fun k => k ≤ m.pr.length) (fun k => m.pr.length - k) 0 ?_ (Nat.zero_le _) (fun k hk => ?_)
  · (refine yrn [(0, 0)] false ?_ ?_<;>(repeat' (first|(with_reducible first|exact ya1|exact ya2|exact ya3|refine jx rfl (by first|rfl|assumption|(simp only [znl,znR2];(first|done|fail)))|exact ya5|exact ya7|exact jy|exact jz|refine jA ?_|refine ya9 ?_ ?_ ?_|refine jC rfl (by first|rfl|assumption|(simp only [znl,znR2];(first|done|fail)))|refine MR.agg (MRL.cons ?_ ?_)|refine MR.fn ?_|refine MRL.cons ?_ ?_|exact MRL.nil|refine jE ?_ ?_|exact jF|exact jG|refine yb1 ?_ ?_|refine MB.row ?_|refine jI ?_ ?_|exact ya8|refine jJ rfl (by first|rfl|assumption|(simp only [znl,znR2];(first|done|fail)))|refine yb2 ?_|rfl)|(simp only [znl,znR2];(first|done|fail))|(simp only [↓reduceIte,zlk,Nat.reduceEqDiff,reduceCtorEq])|(with_reducible first|refine jJ ?_ ?_|refine ya5 ?_|refine ju ?_|refine jv ?_|refine jw ?_|refine jx ?_ (by first|rfl|assumption|(simp only [znl,znR2];(first|done|fail)))|refine jC ?_ (by first|rfl|assumption|(simp only [znl,znR2];(first|done|fail)))))))
    all_goals (first | rfl | (simp [endsN]; done))
  have hUk := hU 4 k hk
  have hVk := hU 5 k hk
  by_cases hlt : k < m.pr.length
  · have hb := hpR _ (getD_mem' hlt)
    obtain ⟨hS1, hS2, hS3⟩ := pr3 hb
    have e1 := take_snoc m.pr k hlt
    have e2 := endsN_snoc (m.pr.take k) (m.pr.getD k default) 4 id
    have e2' := endsN_snoc (m.pr.take k) (m.pr.getD k default) 5 id
    rw [← e1] at e2 e2'
    have hsl := hb.fds
    have hsR := hb.fdsR
    repeat' (first|(with_reducible first|refine yrl (by constructor) ?_|refine jk (fun M hM=>?_)|(refine hM _ ?_;clear hM M)|refine xb3 (by decide) ?_|refine yqa (by assumption) ?_ ?_|refine yqb (by assumption) ?_ ?_)|((with_reducible refine je ?_)<;>(first|rfl|assumption|(simp only [znl,znR2];(first|done|fail))))|(with_reducible refine jf (by (simp only [↓reduceIte,zlk,Nat.reduceEqDiff,reduceCtorEq]);exact rfl) ?_)|((with_reducible first|refine jg (fun hc=>?_) (fun hc=>?_)|refine jh (fun hc=>?_) (fun hc=>?_))<;>(try simp (disch:=omega) only [zhb] at hc)<;>(try (exfalso;omega))<;>(try subst hc))|(with_reducible refine ji (by omega) ?_)|(simp (config := { maxSteps := 400000 }) only [↓jt,↓reduceIte,zvs,reduceCtorEq,seval,-List.reduceReplicate,tab,hS1,hS2,hS3,encPr,Try.results102,jTA])|(simp (disch:=omega) only [ziw]))
    refine ok_loop (fun j : Nat => ⟨slots [(1, .int .i64 id), (2, .ptr 0 []), (4, .int .i64 0), (5, .int .i64 0), (6, .int .i64 ((endsN (m.pr.take k) 4 id : Int) + endsS 4 id ((m.pr.getD k default).fds.take j))), (7, .int .i64 ((endsN (m.pr.take k) 5 id : Int) + endsS 5 id ((m.pr.getD k default).fds.take j))), (13, encPrs m.pr), (14, .int .i64 m.pr.length), (15, .int .i64 k), (20, .agg ((m.pr.getD k default).fds.map encFd)), (21, .int .i64 j)], rows [(0, .row machSh (encM m))], 1⟩) (fun j => j ≤ 8) (fun j => 8 - j) 0 ?_ (Nat.zero_le _) (fun j hj => ?_)
    · (refine yrn [(0, 0)] false ?_ ?_<;>(repeat' (first|(with_reducible first|exact ya1|exact ya2|exact ya3|refine jx rfl (by first|rfl|assumption|(simp only [znl,znR2];(first|done|fail)))|exact ya5|exact ya7|exact jy|exact jz|refine jA ?_|refine ya9 ?_ ?_ ?_|refine jC rfl (by first|rfl|assumption|(simp only [znl,znR2];(first|done|fail)))|refine MR.agg (MRL.cons ?_ ?_)|refine MR.fn ?_|refine MRL.cons ?_ ?_|exact MRL.nil|refine jE ?_ ?_|exact jF|exact jG|refine yb1 ?_ ?_|refine MB.row ?_|refine jI ?_ ?_|exact ya8|refine jJ rfl (by first|rfl|assumption|(simp only [znl,znR2];(first|done|fail)))|refine yb2 ?_|rfl)|(simp only [znl,znR2];(first|done|fail))|(simp only [↓reduceIte,zlk,Nat.reduceEqDiff,reduceCtorEq])|(with_reducible first|refine jJ ?_ ?_|refine ya5 ?_|refine ju ?_|refine jv ?_|refine jw ?_|refine jx ?_ (by first|rfl|assumption|(simp only [znl,znR2];(first|done|fail)))|refine jC ?_ (by first|rfl|assumption|(simp only [znl,znR2];(first|done|fail)))))))
      all_goals (first | rfl | (simp [endsS]; done))
    have hUj := endsS_le 4 id ((m.pr.getD k default).fds.take j)
    have hVj := endsS_le 5 id ((m.pr.getD k default).fds.take j)
    rw [List.length_take] at hUj hVj
    by_cases hjlt : j < 8
    · obtain ⟨⟨b1, b2⟩, ⟨b3, b4⟩, b5⟩ := hsR _ (getD_mem' (show j < (m.pr.getD k default).fds.length by omega))
      have e3 := take_snoc (m.pr.getD k default).fds j (by omega)
      have e4 := endsS_snoc 4 id ((m.pr.getD k default).fds.take j) ((m.pr.getD k default).fds.getD j default)
      have e5 := endsS_snoc 5 id ((m.pr.getD k default).fds.take j) ((m.pr.getD k default).fds.getD j default)
      rw [← e3] at e4 e5
      by_cases hq : ((m.pr.getD k default).fds.getD j default).n = id
      · by_cases h4 : ((m.pr.getD k default).fds.getD j default).kind = 4
        · rw [if_pos ⟨h4, hq⟩] at e4
          rw [if_neg (by omega)] at e5
          repeat' (first|(with_reducible first|refine yrl (by constructor) ?_|refine jk (fun M hM=>?_)|(refine hM _ ?_;clear hM M)|refine xb3 (by decide) ?_|refine yqa (by assumption) ?_ ?_|refine yqb (by assumption) ?_ ?_)|((with_reducible refine je ?_)<;>(first|rfl|assumption|(simp only [znl,znR2];(first|done|fail))))|(with_reducible refine jf (by (simp only [↓reduceIte,zlk,Nat.reduceEqDiff,reduceCtorEq]);exact rfl) ?_)|((with_reducible first|refine jg (fun hc=>?_) (fun hc=>?_)|refine jh (fun hc=>?_) (fun hc=>?_))<;>(try simp (disch:=omega) only [zhb] at hc)<;>(try (exfalso;omega))<;>(try subst hc))|(with_reducible refine ji (by omega) ?_)|(simp (config := { maxSteps := 400000 }) only [↓jt,↓reduceIte,zvs,reduceCtorEq,seval,-List.reduceReplicate,tab,hS1,hS2,hS3,encFd,Try.results102,jTA])|(simp (disch:=omega) only [ziw]))
          all_goals first
            | (exfalso; omega)
            | (refine xl1 (j + 1) ?_ (by show j + 1 ≤ 8; omega) (by show 8 - (j + 1) < 8 - j; omega); (refine yrn [(0, 0)] false ?_ ?_<;>(repeat' (first|(with_reducible first|exact ya1|exact ya2|exact ya3|refine jx rfl (by first|rfl|assumption|(simp only [znl,znR2];(first|done|fail)))|exact ya5|exact ya7|exact jy|exact jz|refine jA ?_|refine ya9 ?_ ?_ ?_|refine jC rfl (by first|rfl|assumption|(simp only [znl,znR2];(first|done|fail)))|refine MR.agg (MRL.cons ?_ ?_)|refine MR.fn ?_|refine MRL.cons ?_ ?_|exact MRL.nil|refine jE ?_ ?_|exact jF|exact jG|refine yb1 ?_ ?_|refine MB.row ?_|refine jI ?_ ?_|exact ya8|refine jJ rfl (by first|rfl|assumption|(simp only [znl,znR2];(first|done|fail)))|refine yb2 ?_|rfl)|(simp only [znl,znR2];(first|done|fail))|(simp only [↓reduceIte,zlk,Nat.reduceEqDiff,reduceCtorEq])|(with_reducible first|refine jJ ?_ ?_|refine ya5 ?_|refine ju ?_|refine jv ?_|refine jw ?_|refine jx ?_ (by first|rfl|assumption|(simp only [znl,znR2];(first|done|fail)))|refine jC ?_ (by first|rfl|assumption|(simp only [znl,znR2];(first|done|fail))))))); all_goals first | (rw [e4]; omega) | (rw [e5]; omega))
        · rw [if_neg (fun h => h4 h.1)] at e4
          by_cases h5 : ((m.pr.getD k default).fds.getD j default).kind = 5
          · rw [if_pos ⟨h5, hq⟩] at e5
            repeat' (first|(with_reducible first|refine yrl (by constructor) ?_|refine jk (fun M hM=>?_)|(refine hM _ ?_;clear hM M)|refine xb3 (by decide) ?_|refine yqa (by assumption) ?_ ?_|refine yqb (by assumption) ?_ ?_)|((with_reducible refine je ?_)<;>(first|rfl|assumption|(simp only [znl,znR2];(first|done|fail))))|(with_reducible refine jf (by (simp only [↓reduceIte,zlk,Nat.reduceEqDiff,reduceCtorEq]);exact rfl) ?_)|((with_reducible first|refine jg (fun hc=>?_) (fun hc=>?_)|refine jh (fun hc=>?_) (fun hc=>?_))<;>(try simp (disch:=omega) only [zhb] at hc)<;>(try (exfalso;omega))<;>(try subst hc))|(with_reducible refine ji (by omega) ?_)|(simp (config := { maxSteps := 400000 }) only [↓jt,↓reduceIte,zvs,reduceCtorEq,seval,-List.reduceReplicate,tab,hS1,hS2,hS3,encFd,Try.results102,jTA])|(simp (disch:=omega) only [ziw]))
            all_goals first
              | (exfalso; omega)
              | (refine xl1 (j + 1) ?_ (by show j + 1 ≤ 8; omega) (by show 8 - (j + 1) < 8 - j; omega); (refine yrn [(0, 0)] false ?_ ?_<;>(repeat' (first|(with_reducible first|exact ya1|exact ya2|exact ya3|refine jx rfl (by first|rfl|assumption|(simp only [znl,znR2];(first|done|fail)))|exact ya5|exact ya7|exact jy|exact jz|refine jA ?_|refine ya9 ?_ ?_ ?_|refine jC rfl (by first|rfl|assumption|(simp only [znl,znR2];(first|done|fail)))|refine MR.agg (MRL.cons ?_ ?_)|refine MR.fn ?_|refine MRL.cons ?_ ?_|exact MRL.nil|refine jE ?_ ?_|exact jF|exact jG|refine yb1 ?_ ?_|refine MB.row ?_|refine jI ?_ ?_|exact ya8|refine jJ rfl (by first|rfl|assumption|(simp only [znl,znR2];(first|done|fail)))|refine yb2 ?_|rfl)|(simp only [znl,znR2];(first|done|fail))|(simp only [↓reduceIte,zlk,Nat.reduceEqDiff,reduceCtorEq])|(with_reducible first|refine jJ ?_ ?_|refine ya5 ?_|refine ju ?_|refine jv ?_|refine jw ?_|refine jx ?_ (by first|rfl|assumption|(simp only [znl,znR2];(first|done|fail)))|refine jC ?_ (by first|rfl|assumption|(simp only [znl,znR2];(first|done|fail))))))); all_goals first | (rw [e4]; omega) | (rw [e5]; omega))
          · rw [if_neg (fun h => h5 h.1)] at e5
            repeat' (first|(with_reducible first|refine yrl (by constructor) ?_|refine jk (fun M hM=>?_)|(refine hM _ ?_;clear hM M)|refine xb3 (by decide) ?_|refine yqa (by assumption) ?_ ?_|refine yqb (by assumption) ?_ ?_)|((with_reducible refine je ?_)<;>(first|rfl|assumption|(simp only [znl,znR2];(first|done|fail))))|(with_reducible refine jf (by (simp only [↓reduceIte,zlk,Nat.reduceEqDiff,reduceCtorEq]);exact rfl) ?_)|((with_reducible first|refine jg (fun hc=>?_) (fun hc=>?_)|refine jh (fun hc=>?_) (fun hc=>?_))<;>(try simp (disch:=omega) only [zhb] at hc)<;>(try (exfalso;omega))<;>(try subst hc))|(with_reducible refine ji (by omega) ?_)|(simp (config := { maxSteps := 400000 }) only [↓jt,↓reduceIte,zvs,reduceCtorEq,seval,-List.reduceReplicate,tab,hS1,hS2,hS3,encFd,Try.results102,jTA])|(simp (disch:=omega) only [ziw]))
            all_goals first
              | (exfalso; omega)
              | (refine xl1 (j + 1) ?_ (by show j + 1 ≤ 8; omega) (by show 8 - (j + 1) < 8 - j; omega); (refine yrn [(0, 0)] false ?_ ?_<;>(repeat' (first|(with_reducible first|exact ya1|exact ya2|exact ya3|refine jx rfl (by first|rfl|assumption|(simp only [znl,znR2];(first|done|fail)))|exact ya5|exact ya7|exact jy|exact jz|refine jA ?_|refine ya9 ?_ ?_ ?_|refine jC rfl (by first|rfl|assumption|(simp only [znl,znR2];(first|done|fail)))|refine MR.agg (MRL.cons ?_ ?_)|refine MR.fn ?_|refine MRL.cons ?_ ?_|exact MRL.nil|refine jE ?_ ?_|exact jF|exact jG|refine yb1 ?_ ?_|refine MB.row ?_|refine jI ?_ ?_|exact ya8|refine jJ rfl (by first|rfl|assumption|(simp only [znl,znR2];(first|done|fail)))|refine yb2 ?_|rfl)|(simp only [znl,znR2];(first|done|fail))|(simp only [↓reduceIte,zlk,Nat.reduceEqDiff,reduceCtorEq])|(with_reducible first|refine jJ ?_ ?_|refine ya5 ?_|refine ju ?_|refine jv ?_|refine jw ?_|refine jx ?_ (by first|rfl|assumption|(simp only [znl,znR2];(first|done|fail)))|refine jC ?_ (by first|rfl|assumption|(simp only [znl,znR2];(first|done|fail))))))); all_goals first | (rw [e4]; omega) | (rw [e5]; omega))
      · rw [if_neg (fun h => hq h.2)] at e4 e5
        repeat' (first|(with_reducible first|refine yrl (by constructor) ?_|refine jk (fun M hM=>?_)|(refine hM _ ?_;clear hM M)|refine xb3 (by decide) ?_|refine yqa (by assumption) ?_ ?_|refine yqb (by assumption) ?_ ?_)|((with_reducible refine je ?_)<;>(first|rfl|assumption|(simp only [znl,znR2];(first|done|fail))))|(with_reducible refine jf (by (simp only [↓reduceIte,zlk,Nat.reduceEqDiff,reduceCtorEq]);exact rfl) ?_)|((with_reducible first|refine jg (fun hc=>?_) (fun hc=>?_)|refine jh (fun hc=>?_) (fun hc=>?_))<;>(try simp (disch:=omega) only [zhb] at hc)<;>(try (exfalso;omega))<;>(try subst hc))|(with_reducible refine ji (by omega) ?_)|(simp (config := { maxSteps := 400000 }) only [↓jt,↓reduceIte,zvs,reduceCtorEq,seval,-List.reduceReplicate,tab,hS1,hS2,hS3,encFd,Try.results102,jTA])|(simp (disch:=omega) only [ziw]))
        all_goals first
          | (exfalso; omega)
          | (refine xl1 (j + 1) ?_ (by show j + 1 ≤ 8; omega) (by show 8 - (j + 1) < 8 - j; omega); (refine yrn [(0, 0)] false ?_ ?_<;>(repeat' (first|(with_reducible first|exact ya1|exact ya2|exact ya3|refine jx rfl (by first|rfl|assumption|(simp only [znl,znR2];(first|done|fail)))|exact ya5|exact ya7|exact jy|exact jz|refine jA ?_|refine ya9 ?_ ?_ ?_|refine jC rfl (by first|rfl|assumption|(simp only [znl,znR2];(first|done|fail)))|refine MR.agg (MRL.cons ?_ ?_)|refine MR.fn ?_|refine MRL.cons ?_ ?_|exact MRL.nil|refine jE ?_ ?_|exact jF|exact jG|refine yb1 ?_ ?_|refine MB.row ?_|refine jI ?_ ?_|exact ya8|refine jJ rfl (by first|rfl|assumption|(simp only [znl,znR2];(first|done|fail)))|refine yb2 ?_|rfl)|(simp only [znl,znR2];(first|done|fail))|(simp only [↓reduceIte,zlk,Nat.reduceEqDiff,reduceCtorEq])|(with_reducible first|refine jJ ?_ ?_|refine ya5 ?_|refine ju ?_|refine jv ?_|refine jw ?_|refine jx ?_ (by first|rfl|assumption|(simp only [znl,znR2];(first|done|fail)))|refine jC ?_ (by first|rfl|assumption|(simp only [znl,znR2];(first|done|fail))))))); all_goals first | (rw [e4]; omega) | (rw [e5]; omega))
    · obtain rfl : j = 8 := by omega
      have e5 : (m.pr.getD k default).fds.take 8 = (m.pr.getD k default).fds := List.take_of_length_le (by omega)
      rw [e5] at *
      repeat' (first|(with_reducible first|refine yrl (by constructor) ?_|refine jk (fun M hM=>?_)|(refine hM _ ?_;clear hM M)|refine xb3 (by decide) ?_|refine yqa (by assumption) ?_ ?_|refine yqb (by assumption) ?_ ?_)|((with_reducible refine je ?_)<;>(first|rfl|assumption|(simp only [znl,znR2];(first|done|fail))))|(with_reducible refine jf (by (simp only [↓reduceIte,zlk,Nat.reduceEqDiff,reduceCtorEq]);exact rfl) ?_)|((with_reducible first|refine jg (fun hc=>?_) (fun hc=>?_)|refine jh (fun hc=>?_) (fun hc=>?_))<;>(try simp (disch:=omega) only [zhb] at hc)<;>(try (exfalso;omega))<;>(try subst hc))|(with_reducible refine ji (by omega) ?_)|(simp (config := { maxSteps := 400000 }) only [↓jt,↓reduceIte,zvs,reduceCtorEq,seval,-List.reduceReplicate,tab,hS1,hS2,hS3,Try.results102,jTA])|(simp (disch:=omega) only [ziw]))
      all_goals first
        | (refine xl1 (k + 1) ?_ (by show k + 1 ≤ m.pr.length; omega) (by show m.pr.length - (k + 1) < m.pr.length - k; omega); (refine yrn [(0, 0)] false ?_ ?_<;>(repeat' (first|(with_reducible first|exact ya1|exact ya2|exact ya3|refine jx rfl (by first|rfl|assumption|(simp only [znl,znR2];(first|done|fail)))|exact ya5|exact ya7|exact jy|exact jz|refine jA ?_|refine ya9 ?_ ?_ ?_|refine jC rfl (by first|rfl|assumption|(simp only [znl,znR2];(first|done|fail)))|refine MR.agg (MRL.cons ?_ ?_)|refine MR.fn ?_|refine MRL.cons ?_ ?_|exact MRL.nil|refine jE ?_ ?_|exact jF|exact jG|refine yb1 ?_ ?_|refine MB.row ?_|refine jI ?_ ?_|exact ya8|refine jJ rfl (by first|rfl|assumption|(simp only [znl,znR2];(first|done|fail)))|refine yb2 ?_|rfl)|(simp only [znl,znR2];(first|done|fail))|(simp only [↓reduceIte,zlk,Nat.reduceEqDiff,reduceCtorEq])|(with_reducible first|refine jJ ?_ ?_|refine ya5 ?_|refine ju ?_|refine jv ?_|refine jw ?_|refine jx ?_ (by first|rfl|assumption|(simp only [znl,znR2];(first|done|fail)))|refine jC ?_ (by first|rfl|assumption|(simp only [znl,znR2];(first|done|fail))))))); all_goals first | (rw [e2]; omega) | (rw [e2']; omega))
  · obtain rfl : k = m.pr.length := by omega
    rw [List.take_length] at *
    repeat' (first|(with_reducible first|refine yrl (by constructor) ?_|refine jk (fun M hM=>?_)|(refine hM _ ?_;clear hM M)|refine xb3 (by decide) ?_|refine yqa (by assumption) ?_ ?_|refine yqb (by assumption) ?_ ?_)|((with_reducible refine je ?_)<;>(first|rfl|assumption|(simp only [znl,znR2];(first|done|fail))))|(with_reducible refine jf (by (simp only [↓reduceIte,zlk,Nat.reduceEqDiff,reduceCtorEq]);exact rfl) ?_)|((with_reducible first|refine jg (fun hc=>?_) (fun hc=>?_)|refine jh (fun hc=>?_) (fun hc=>?_))<;>(try simp (disch:=omega) only [zhb] at hc)<;>(try (exfalso;omega))<;>(try subst hc))|(with_reducible refine ji (by omega) ?_)|(simp (config := { maxSteps := 400000 }) only [↓jt,↓reduceIte,zvs,reduceCtorEq,seval,-List.reduceReplicate,tab,List.take_length,Try.results102,jTA])|(simp (disch:=omega) only [ziw]))
    all_goals first
      | (simp only [zrds]; rw [hR, hT]; done)
      | (simp only [zrds]; omega)
theorem rends_spec (m : Mach) (hm : MFit 20000 m) (id : Int) (hf : i64R id) : Spec Try.prog 103 [encM m, .int .i64 id] (.tup [.int .i64 (endsN m.pr 4 id), .int .i64 (endsN m.pr 5 id)]) := by
  obtain ⟨R, hR⟩ : ∃ R, R = endsN m.pr 4 id := ⟨_, rfl⟩
  obtain ⟨T, hT⟩ : ∃ T, T = endsN m.pr 5 id := ⟨_, rfl⟩
  rw [← hR, ← hT]
  have hl := hm.pr
  have hpR := hm.prR
  have hU : ∀ q k, k ≤ m.pr.length → endsN (m.pr.take k) q id ≤ 8 * k := fun q k hk => by
    have := endsN_le q id (m.pr.take k) fun p hp => (hpR p (List.mem_of_mem_take hp)).fds
    rw [List.length_take] at this
    omega
  obtain ⟨hp1, hp2⟩ := hf
  refine spec_ok Try.func103 rfl rfl (by kernel_rfl) (k := 2) rfl (by decide) ?_
  repeat' (first|(with_reducible first|refine yrl (by constructor) ?_|refine jk (fun M hM=>?_)|(refine hM _ ?_;clear hM M)|refine xb3 (by decide) ?_|refine yqa (by assumption) ?_ ?_|refine yqb (by assumption) ?_ ?_)|((with_reducible refine je ?_)<;>(first|rfl|assumption|(simp only [znl,znR2];(first|done|fail))))|(with_reducible refine jf (by (simp only [↓reduceIte,zlk,Nat.reduceEqDiff,reduceCtorEq]);exact rfl) ?_)|((with_reducible first|refine jg (fun hc=>?_) (fun hc=>?_)|refine jh (fun hc=>?_) (fun hc=>?_))<;>(try simp (disch:=omega) only [zhb] at hc)<;>(try (exfalso;omega))<;>(try subst hc))|(with_reducible refine ji (by omega) ?_)|(simp (config := { maxSteps := 400000 }) only [↓jt,↓reduceIte,zvs,reduceCtorEq,seval,-List.reduceReplicate,tab,Try.results103,jTA])|(simp (disch:=omega) only [ziw]))
  refine ok_loop (fun k : Nat => ⟨slots [(1, .int .i64 id), (2, .ptr 0 []), (4, .int .i64 0), (5, .int .i64 0), (6, .int .i64 (endsN (m.pr.take k) 4 id)), (7, .int .i64 (endsN (m.pr.take k) 5 id)), (13, encPrs m.pr), (14, .int .i64 m.pr.length), (15, .int .i64 k)], rows [(0, .row machSh (encM m))], 1⟩) (fun k => k ≤ m.pr.length) (fun k => m.pr.length - k) 0 ?_ (Nat.zero_le _) (fun k hk => ?_)
  · (refine yrn [(0, 0)] false ?_ ?_<;>(repeat' (first|(with_reducible first|exact ya1|exact ya2|exact ya3|refine jx rfl (by first|rfl|assumption|(simp only [znl,znR2];(first|done|fail)))|exact ya5|exact ya7|exact jy|exact jz|refine jA ?_|refine ya9 ?_ ?_ ?_|refine jC rfl (by first|rfl|assumption|(simp only [znl,znR2];(first|done|fail)))|refine MR.agg (MRL.cons ?_ ?_)|refine MR.fn ?_|refine MRL.cons ?_ ?_|exact MRL.nil|refine jE ?_ ?_|exact jF|exact jG|refine yb1 ?_ ?_|refine MB.row ?_|refine jI ?_ ?_|exact ya8|refine jJ rfl (by first|rfl|assumption|(simp only [znl,znR2];(first|done|fail)))|refine yb2 ?_|rfl)|(simp only [znl,znR2];(first|done|fail))|(simp only [↓reduceIte,zlk,Nat.reduceEqDiff,reduceCtorEq])|(with_reducible first|refine jJ ?_ ?_|refine ya5 ?_|refine ju ?_|refine jv ?_|refine jw ?_|refine jx ?_ (by first|rfl|assumption|(simp only [znl,znR2];(first|done|fail)))|refine jC ?_ (by first|rfl|assumption|(simp only [znl,znR2];(first|done|fail)))))))
    all_goals (first | rfl | (simp [endsN]; done))
  have hUk := hU 4 k hk
  have hVk := hU 5 k hk
  by_cases hlt : k < m.pr.length
  · have hb := hpR _ (getD_mem' hlt)
    obtain ⟨hS1, hS2, hS3⟩ := pr3 hb
    have e1 := take_snoc m.pr k hlt
    have e2 := endsN_snoc (m.pr.take k) (m.pr.getD k default) 4 id
    have e2' := endsN_snoc (m.pr.take k) (m.pr.getD k default) 5 id
    rw [← e1] at e2 e2'
    have hsl := hb.fds
    have hsR := hb.fdsR
    repeat' (first|(with_reducible first|refine yrl (by constructor) ?_|refine jk (fun M hM=>?_)|(refine hM _ ?_;clear hM M)|refine xb3 (by decide) ?_|refine yqa (by assumption) ?_ ?_|refine yqb (by assumption) ?_ ?_)|((with_reducible refine je ?_)<;>(first|rfl|assumption|(simp only [znl,znR2];(first|done|fail))))|(with_reducible refine jf (by (simp only [↓reduceIte,zlk,Nat.reduceEqDiff,reduceCtorEq]);exact rfl) ?_)|((with_reducible first|refine jg (fun hc=>?_) (fun hc=>?_)|refine jh (fun hc=>?_) (fun hc=>?_))<;>(try simp (disch:=omega) only [zhb] at hc)<;>(try (exfalso;omega))<;>(try subst hc))|(with_reducible refine ji (by omega) ?_)|(simp (config := { maxSteps := 400000 }) only [↓jt,↓reduceIte,zvs,reduceCtorEq,seval,-List.reduceReplicate,tab,hS1,hS2,hS3,encPr,Try.results103,jTA])|(simp (disch:=omega) only [ziw]))
    refine ok_loop (fun j : Nat => ⟨slots [(1, .int .i64 id), (2, .ptr 0 []), (4, .int .i64 0), (5, .int .i64 0), (6, .int .i64 ((endsN (m.pr.take k) 4 id : Int) + endsS 4 id ((m.pr.getD k default).fds.take j))), (7, .int .i64 ((endsN (m.pr.take k) 5 id : Int) + endsS 5 id ((m.pr.getD k default).fds.take j))), (13, encPrs m.pr), (14, .int .i64 m.pr.length), (15, .int .i64 k), (20, .agg ((m.pr.getD k default).fds.map encFd)), (21, .int .i64 j)], rows [(0, .row machSh (encM m))], 1⟩) (fun j => j ≤ 8) (fun j => 8 - j) 0 ?_ (Nat.zero_le _) (fun j hj => ?_)
    · (refine yrn [(0, 0)] false ?_ ?_<;>(repeat' (first|(with_reducible first|exact ya1|exact ya2|exact ya3|refine jx rfl (by first|rfl|assumption|(simp only [znl,znR2];(first|done|fail)))|exact ya5|exact ya7|exact jy|exact jz|refine jA ?_|refine ya9 ?_ ?_ ?_|refine jC rfl (by first|rfl|assumption|(simp only [znl,znR2];(first|done|fail)))|refine MR.agg (MRL.cons ?_ ?_)|refine MR.fn ?_|refine MRL.cons ?_ ?_|exact MRL.nil|refine jE ?_ ?_|exact jF|exact jG|refine yb1 ?_ ?_|refine MB.row ?_|refine jI ?_ ?_|exact ya8|refine jJ rfl (by first|rfl|assumption|(simp only [znl,znR2];(first|done|fail)))|refine yb2 ?_|rfl)|(simp only [znl,znR2];(first|done|fail))|(simp only [↓reduceIte,zlk,Nat.reduceEqDiff,reduceCtorEq])|(with_reducible first|refine jJ ?_ ?_|refine ya5 ?_|refine ju ?_|refine jv ?_|refine jw ?_|refine jx ?_ (by first|rfl|assumption|(simp only [znl,znR2];(first|done|fail)))|refine jC ?_ (by first|rfl|assumption|(simp only [znl,znR2];(first|done|fail)))))))
      all_goals (first | rfl | (simp [endsS]; done))
    have hUj := endsS_le 4 id ((m.pr.getD k default).fds.take j)
    have hVj := endsS_le 5 id ((m.pr.getD k default).fds.take j)
    rw [List.length_take] at hUj hVj
    by_cases hjlt : j < 8
    · obtain ⟨⟨b1, b2⟩, ⟨b3, b4⟩, b5⟩ := hsR _ (getD_mem' (show j < (m.pr.getD k default).fds.length by omega))
      have e3 := take_snoc (m.pr.getD k default).fds j (by omega)
      have e4 := endsS_snoc 4 id ((m.pr.getD k default).fds.take j) ((m.pr.getD k default).fds.getD j default)
      have e5 := endsS_snoc 5 id ((m.pr.getD k default).fds.take j) ((m.pr.getD k default).fds.getD j default)
      rw [← e3] at e4 e5
      by_cases hq : ((m.pr.getD k default).fds.getD j default).n = id
      · by_cases h4 : ((m.pr.getD k default).fds.getD j default).kind = 4
        · rw [if_pos ⟨h4, hq⟩] at e4
          rw [if_neg (by omega)] at e5
          repeat' (first|(with_reducible first|refine yrl (by constructor) ?_|refine jk (fun M hM=>?_)|(refine hM _ ?_;clear hM M)|refine xb3 (by decide) ?_|refine yqa (by assumption) ?_ ?_|refine yqb (by assumption) ?_ ?_)|((with_reducible refine je ?_)<;>(first|rfl|assumption|(simp only [znl,znR2];(first|done|fail))))|(with_reducible refine jf (by (simp only [↓reduceIte,zlk,Nat.reduceEqDiff,reduceCtorEq]);exact rfl) ?_)|((with_reducible first|refine jg (fun hc=>?_) (fun hc=>?_)|refine jh (fun hc=>?_) (fun hc=>?_))<;>(try simp (disch:=omega) only [zhb] at hc)<;>(try (exfalso;omega))<;>(try subst hc))|(with_reducible refine ji (by omega) ?_)|(simp (config := { maxSteps := 400000 }) only [↓jt,↓reduceIte,zvs,reduceCtorEq,seval,-List.reduceReplicate,tab,hS1,hS2,hS3,encFd,Try.results103,jTA])|(simp (disch:=omega) only [ziw]))
          all_goals first
            | (exfalso; omega)
            | (refine xl1 (j + 1) ?_ (by show j + 1 ≤ 8; omega) (by show 8 - (j + 1) < 8 - j; omega); (refine yrn [(0, 0)] false ?_ ?_<;>(repeat' (first|(with_reducible first|exact ya1|exact ya2|exact ya3|refine jx rfl (by first|rfl|assumption|(simp only [znl,znR2];(first|done|fail)))|exact ya5|exact ya7|exact jy|exact jz|refine jA ?_|refine ya9 ?_ ?_ ?_|refine jC rfl (by first|rfl|assumption|(simp only [znl,znR2];(first|done|fail)))|refine MR.agg (MRL.cons ?_ ?_)|refine MR.fn ?_|refine MRL.cons ?_ ?_|exact MRL.nil|refine jE ?_ ?_|exact jF|exact jG|refine yb1 ?_ ?_|refine MB.row ?_|refine jI ?_ ?_|exact ya8|refine jJ rfl (by first|rfl|assumption|(simp only [znl,znR2];(first|done|fail)))|refine yb2 ?_|rfl)|(simp only [znl,znR2];(first|done|fail))|(simp only [↓reduceIte,zlk,Nat.reduceEqDiff,reduceCtorEq])|(with_reducible first|refine jJ ?_ ?_|refine ya5 ?_|refine ju ?_|refine jv ?_|refine jw ?_|refine jx ?_ (by first|rfl|assumption|(simp only [znl,znR2];(first|done|fail)))|refine jC ?_ (by first|rfl|assumption|(simp only [znl,znR2];(first|done|fail))))))); all_goals first | (rw [e4]; omega) | (rw [e5]; omega))
        · rw [if_neg (fun h => h4 h.1)] at e4
          by_cases h5 : ((m.pr.getD k default).fds.getD j default).kind = 5
          · rw [if_pos ⟨h5, hq⟩] at e5
            repeat' (first|(with_reducible first|refine yrl (by constructor) ?_|refine jk (fun M hM=>?_)|(refine hM _ ?_;clear hM M)|refine xb3 (by decide) ?_|refine yqa (by assumption) ?_ ?_|refine yqb (by assumption) ?_ ?_)|((with_reducible refine je ?_)<;>(first|rfl|assumption|(simp only [znl,znR2];(first|done|fail))))|(with_reducible refine jf (by (simp only [↓reduceIte,zlk,Nat.reduceEqDiff,reduceCtorEq]);exact rfl) ?_)|((with_reducible first|refine jg (fun hc=>?_) (fun hc=>?_)|refine jh (fun hc=>?_) (fun hc=>?_))<;>(try simp (disch:=omega) only [zhb] at hc)<;>(try (exfalso;omega))<;>(try subst hc))|(with_reducible refine ji (by omega) ?_)|(simp (config := { maxSteps := 400000 }) only [↓jt,↓reduceIte,zvs,reduceCtorEq,seval,-List.reduceReplicate,tab,hS1,hS2,hS3,encFd,Try.results103,jTA])|(simp (disch:=omega) only [ziw]))
            all_goals first
              | (exfalso; omega)
              | (refine xl1 (j + 1) ?_ (by show j + 1 ≤ 8; omega) (by show 8 - (j + 1) < 8 - j; omega); (refine yrn [(0, 0)] false ?_ ?_<;>(repeat' (first|(with_reducible first|exact ya1|exact ya2|exact ya3|refine jx rfl (by first|rfl|assumption|(simp only [znl,znR2];(first|done|fail)))|exact ya5|exact ya7|exact jy|exact jz|refine jA ?_|refine ya9 ?_ ?_ ?_|refine jC rfl (by first|rfl|assumption|(simp only [znl,znR2];(first|done|fail)))|refine MR.agg (MRL.cons ?_ ?_)|refine MR.fn ?_|refine MRL.cons ?_ ?_|exact MRL.nil|refine jE ?_ ?_|exact jF|exact jG|refine yb1 ?_ ?_|refine MB.row ?_|refine jI ?_ ?_|exact ya8|refine jJ rfl (by first|rfl|assumption|(simp only [znl,znR2];(first|done|fail)))|refine yb2 ?_|rfl)|(simp only [znl,znR2];(first|done|fail))|(simp only [↓reduceIte,zlk,Nat.reduceEqDiff,reduceCtorEq])|(with_reducible first|refine jJ ?_ ?_|refine ya5 ?_|refine ju ?_|refine jv ?_|refine jw ?_|refine jx ?_ (by first|rfl|assumption|(simp only [znl,znR2];(first|done|fail)))|refine jC ?_ (by first|rfl|assumption|(simp only [znl,znR2];(first|done|fail))))))); all_goals first | (rw [e4]; omega) | (rw [e5]; omega))
          · rw [if_neg (fun h => h5 h.1)] at e5
            repeat' (first|(with_reducible first|refine yrl (by constructor) ?_|refine jk (fun M hM=>?_)|(refine hM _ ?_;clear hM M)|refine xb3 (by decide) ?_|refine yqa (by assumption) ?_ ?_|refine yqb (by assumption) ?_ ?_)|((with_reducible refine je ?_)<;>(first|rfl|assumption|(simp only [znl,znR2];(first|done|fail))))|(with_reducible refine jf (by (simp only [↓reduceIte,zlk,Nat.reduceEqDiff,reduceCtorEq]);exact rfl) ?_)|((with_reducible first|refine jg (fun hc=>?_) (fun hc=>?_)|refine jh (fun hc=>?_) (fun hc=>?_))<;>(try simp (disch:=omega) only [zhb] at hc)<;>(try (exfalso;omega))<;>(try subst hc))|(with_reducible refine ji (by omega) ?_)|(simp (config := { maxSteps := 400000 }) only [↓jt,↓reduceIte,zvs,reduceCtorEq,seval,-List.reduceReplicate,tab,hS1,hS2,hS3,encFd,Try.results103,jTA])|(simp (disch:=omega) only [ziw]))
            all_goals first
              | (exfalso; omega)
              | (refine xl1 (j + 1) ?_ (by show j + 1 ≤ 8; omega) (by show 8 - (j + 1) < 8 - j; omega); (refine yrn [(0, 0)] false ?_ ?_<;>(repeat' (first|(with_reducible first|exact ya1|exact ya2|exact ya3|refine jx rfl (by first|rfl|assumption|(simp only [znl,znR2];(first|done|fail)))|exact ya5|exact ya7|exact jy|exact jz|refine jA ?_|refine ya9 ?_ ?_ ?_|refine jC rfl (by first|rfl|assumption|(simp only [znl,znR2];(first|done|fail)))|refine MR.agg (MRL.cons ?_ ?_)|refine MR.fn ?_|refine MRL.cons ?_ ?_|exact MRL.nil|refine jE ?_ ?_|exact jF|exact jG|refine yb1 ?_ ?_|refine MB.row ?_|refine jI ?_ ?_|exact ya8|refine jJ rfl (by first|rfl|assumption|(simp only [znl,znR2];(first|done|fail)))|refine yb2 ?_|rfl)|(simp only [znl,znR2];(first|done|fail))|(simp only [↓reduceIte,zlk,Nat.reduceEqDiff,reduceCtorEq])|(with_reducible first|refine jJ ?_ ?_|refine ya5 ?_|refine ju ?_|refine jv ?_|refine jw ?_|refine jx ?_ (by first|rfl|assumption|(simp only [znl,znR2];(first|done|fail)))|refine jC ?_ (by first|rfl|assumption|(simp only [znl,znR2];(first|done|fail))))))); all_goals first | (rw [e4]; omega) | (rw [e5]; omega))
      · rw [if_neg (fun h => hq h.2)] at e4 e5
        repeat' (first|(with_reducible first|refine yrl (by constructor) ?_|refine jk (fun M hM=>?_)|(refine hM _ ?_;clear hM M)|refine xb3 (by decide) ?_|refine yqa (by assumption) ?_ ?_|refine yqb (by assumption) ?_ ?_)|((with_reducible refine je ?_)<;>(first|rfl|assumption|(simp only [znl,znR2];(first|done|fail))))|(with_reducible refine jf (by (simp only [↓reduceIte,zlk,Nat.reduceEqDiff,reduceCtorEq]);exact rfl) ?_)|((with_reducible first|refine jg (fun hc=>?_) (fun hc=>?_)|refine jh (fun hc=>?_) (fun hc=>?_))<;>(try simp (disch:=omega) only [zhb] at hc)<;>(try (exfalso;omega))<;>(try subst hc))|(with_reducible refine ji (by omega) ?_)|(simp (config := { maxSteps := 400000 }) only [↓jt,↓reduceIte,zvs,reduceCtorEq,seval,-List.reduceReplicate,tab,hS1,hS2,hS3,encFd,Try.results103,jTA])|(simp (disch:=omega) only [ziw]))
        all_goals first
          | (exfalso; omega)
          | (refine xl1 (j + 1) ?_ (by show j + 1 ≤ 8; omega) (by show 8 - (j + 1) < 8 - j; omega); (refine yrn [(0, 0)] false ?_ ?_<;>(repeat' (first|(with_reducible first|exact ya1|exact ya2|exact ya3|refine jx rfl (by first|rfl|assumption|(simp only [znl,znR2];(first|done|fail)))|exact ya5|exact ya7|exact jy|exact jz|refine jA ?_|refine ya9 ?_ ?_ ?_|refine jC rfl (by first|rfl|assumption|(simp only [znl,znR2];(first|done|fail)))|refine MR.agg (MRL.cons ?_ ?_)|refine MR.fn ?_|refine MRL.cons ?_ ?_|exact MRL.nil|refine jE ?_ ?_|exact jF|exact jG|refine yb1 ?_ ?_|refine MB.row ?_|refine jI ?_ ?_|exact ya8|refine jJ rfl (by first|rfl|assumption|(simp only [znl,znR2];(first|done|fail)))|refine yb2 ?_|rfl)|(simp only [znl,znR2];(first|done|fail))|(simp only [↓reduceIte,zlk,Nat.reduceEqDiff,reduceCtorEq])|(with_reducible first|refine jJ ?_ ?_|refine ya5 ?_|refine ju ?_|refine jv ?_|refine jw ?_|refine jx ?_ (by first|rfl|assumption|(simp only [znl,znR2];(first|done|fail)))|refine jC ?_ (by first|rfl|assumption|(simp only [znl,znR2];(first|done|fail))))))); all_goals first | (rw [e4]; omega) | (rw [e5]; omega))
    · obtain rfl : j = 8 := by omega
      have e5 : (m.pr.getD k default).fds.take 8 = (m.pr.getD k default).fds := List.take_of_length_le (by omega)
      rw [e5] at *
      repeat' (first|(with_reducible first|refine yrl (by constructor) ?_|refine jk (fun M hM=>?_)|(refine hM _ ?_;clear hM M)|refine xb3 (by decide) ?_|refine yqa (by assumption) ?_ ?_|refine yqb (by assumption) ?_ ?_)|((with_reducible refine je ?_)<;>(first|rfl|assumption|(simp only [znl,znR2];(first|done|fail))))|(with_reducible refine jf (by (simp only [↓reduceIte,zlk,Nat.reduceEqDiff,reduceCtorEq]);exact rfl) ?_)|((with_reducible first|refine jg (fun hc=>?_) (fun hc=>?_)|refine jh (fun hc=>?_) (fun hc=>?_))<;>(try simp (disch:=omega) only [zhb] at hc)<;>(try (exfalso;omega))<;>(try subst hc))|(with_reducible refine ji (by omega) ?_)|(simp (config := { maxSteps := 400000 }) only [↓jt,↓reduceIte,zvs,reduceCtorEq,seval,-List.reduceReplicate,tab,hS1,hS2,hS3,Try.results103,jTA])|(simp (disch:=omega) only [ziw]))
      all_goals first
        | (refine xl1 (k + 1) ?_ (by show k + 1 ≤ m.pr.length; omega) (by show m.pr.length - (k + 1) < m.pr.length - k; omega); (refine yrn [(0, 0)] false ?_ ?_<;>(repeat' (first|(with_reducible first|exact ya1|exact ya2|exact ya3|refine jx rfl (by first|rfl|assumption|(simp only [znl,znR2];(first|done|fail)))|exact ya5|exact ya7|exact jy|exact jz|refine jA ?_|refine ya9 ?_ ?_ ?_|refine jC rfl (by first|rfl|assumption|(simp only [znl,znR2];(first|done|fail)))|refine MR.agg (MRL.cons ?_ ?_)|refine MR.fn ?_|refine MRL.cons ?_ ?_|exact MRL.nil|refine jE ?_ ?_|exact jF|exact jG|refine yb1 ?_ ?_|refine MB.row ?_|refine jI ?_ ?_|exact ya8|refine jJ rfl (by first|rfl|assumption|(simp only [znl,znR2];(first|done|fail)))|refine yb2 ?_|rfl)|(simp only [znl,znR2];(first|done|fail))|(simp only [↓reduceIte,zlk,Nat.reduceEqDiff,reduceCtorEq])|(with_reducible first|refine jJ ?_ ?_|refine ya5 ?_|refine ju ?_|refine jv ?_|refine jw ?_|refine jx ?_ (by first|rfl|assumption|(simp only [znl,znR2];(first|done|fail)))|refine jC ?_ (by first|rfl|assumption|(simp only [znl,znR2];(first|done|fail))))))); all_goals first | (rw [e2]; omega) | (rw [e2']; omega))
  · obtain rfl : k = m.pr.length := by omega
    rw [List.take_length] at *
    repeat' (first|(with_reducible first|refine yrl (by constructor) ?_|refine jk (fun M hM=>?_)|(refine hM _ ?_;clear hM M)|refine xb3 (by decide) ?_|refine yqa (by assumption) ?_ ?_|refine yqb (by assumption) ?_ ?_)|((with_reducible refine je ?_)<;>(first|rfl|assumption|(simp only [znl,znR2];(first|done|fail))))|(with_reducible refine jf (by (simp only [↓reduceIte,zlk,Nat.reduceEqDiff,reduceCtorEq]);exact rfl) ?_)|((with_reducible first|refine jg (fun hc=>?_) (fun hc=>?_)|refine jh (fun hc=>?_) (fun hc=>?_))<;>(try simp (disch:=omega) only [zhb] at hc)<;>(try (exfalso;omega))<;>(try subst hc))|(with_reducible refine ji (by omega) ?_)|(simp (config := { maxSteps := 400000 }) only [↓jt,↓reduceIte,zvs,reduceCtorEq,seval,-List.reduceReplicate,tab,List.take_length,Try.results103,jTA])|(simp (disch:=omega) only [ziw]))
    all_goals first
      | (simp only [zrds]; rw [hR, hT]; done)
      | (simp only [zrds]; omega)
end Go.Proofs.Ytpdhdkpebbfnnaa.V
end
section
namespace Go.Proofs.Ytpdhdkpebbfnnaa.V
open Go
set_option maxRecDepth 100000
def znQ5 := And.intro @jO <| And.intro @jP <| And.intro @jQ <| And.intro @jR <| And.intro @jS <| And.intro @jT <| And.intro @jU <| True.intro
set_option maxHeartbeats 4000000
abbrev nilPV : VV := .agg [.int .u64 0, .int .i64 0, .int .i64 0, .int .i64 0, .sl none 0, .sl none 0, .int .i64 0, .str [], .sl none 0, .int .i64 0, .str [], .bool false, .int .u64 0, .agg [.sl none 0, .sl none 0, .int .i64 0], .sl none 0]
theorem filter_snoc {l : List Pip} {q : Pip → Bool} {k : Nat} (hk : k < l.length) : (l.take (k + 1)).filter q = (l.take k).filter q ++ if q (l.getD k default) = true then [l.getD k default] else [] := by
  rw [take_snoc l k hk, List.filter_append]
  congr 1
  by_cases h : q (l.getD k default) = true
  · rw [if_pos h, List.filter_cons_of_pos h]; rfl
  · rw [if_neg h, List.filter_cons_of_neg h]; rfl
theorem rsweep_spec (m : Mach) (hm : MFit 20000 m) : Spec Try.prog 55 [encM m] (encM (sweepM m)) := by
  have hl := hm.pipes
  have hpR := hm.pipesR
  refine spec_ok Try.func55 rfl rfl (by kernel_rfl) (k := 1) rfl (by decide) ?_
  repeat' (first|(with_reducible first|refine yrl (by constructor) ?_|refine jk (fun M hM=>?_)|(refine hM _ ?_;clear hM M)|refine xb3 (by decide) ?_|refine yqa (by assumption) ?_ ?_|refine yqb (by assumption) ?_ ?_)|((with_reducible refine je ?_)<;>(first|rfl|assumption|(simp only [znl,znQ5];(first|done|fail))))|(with_reducible refine jf (by (simp only [↓reduceIte,zlk,Nat.reduceEqDiff,reduceCtorEq]);exact rfl) ?_)|((with_reducible first|refine jg (fun hc=>?_) (fun hc=>?_)|refine jh (fun hc=>?_) (fun hc=>?_))<;>(try simp (disch:=omega) only [zhb] at hc)<;>(try (exfalso;omega))<;>(try subst hc))|(with_reducible refine ji (by omega) ?_)|(simp (config := { maxSteps := 400000 }) only [↓jt,↓reduceIte,zvs,reduceCtorEq,seval,-List.reduceReplicate,tab,Try.results55,jTA])|(simp (disch:=omega) only [ziw]))
  refine ok_loop (fun k : Nat => ⟨slots [(1, .ptr 0 []), (2, .ptr 1 []), (3, .sl (some (2, [], 0)) ((m.pipes.take k).filter (endB m)).length), (10, encPis m.pipes), (11, .int .i64 m.pipes.length), (12, .int .i64 k)], rows [(0, .row machSh (encM m)), (1, .row machSh nilPV), (2, .row (.arr ((m.pipes.take k).filter (endB m)).length piSh) (.agg (((m.pipes.take k).filter (endB m)).map encPi)))], 3⟩) (fun k => k ≤ m.pipes.length) (fun k => m.pipes.length - k) 0 ?_ (Nat.zero_le _) (fun k hk => ?_)
  · (refine yrn [(0, 0), (1, 1), (2, 2)] false ?_ ?_<;>(repeat' (first|(with_reducible first|exact ya1|exact ya2|exact ya3|refine jx rfl (by first|rfl|assumption|(simp only [znl,znQ5];(first|done|fail)))|exact ya5|exact ya7|exact jy|exact jz|refine jA ?_|refine ya9 ?_ ?_ ?_|refine jC rfl (by first|rfl|assumption|(simp only [znl,znQ5];(first|done|fail)))|refine MR.agg (MRL.cons ?_ ?_)|refine MR.fn ?_|refine MRL.cons ?_ ?_|exact MRL.nil|refine jE ?_ ?_|exact jF|exact jG|refine yb1 ?_ ?_|refine MB.row ?_|refine jI ?_ ?_|exact ya8|refine jJ rfl (by first|rfl|assumption|(simp only [znl,znQ5];(first|done|fail)))|refine yb2 ?_|rfl)|(simp only [znl,znQ5];(first|done|fail))|(simp only [↓reduceIte,zlk,Nat.reduceEqDiff,reduceCtorEq])|(with_reducible first|refine jJ ?_ ?_|refine ya5 ?_|refine ju ?_|refine jv ?_|refine jw ?_|refine jx ?_ (by first|rfl|assumption|(simp only [znl,znQ5];(first|done|fail)))|refine jC ?_ (by first|rfl|assumption|(simp only [znl,znQ5];(first|done|fail)))))))
    all_goals (first | rfl)
  have hfl : ((m.pipes.take k).filter (endB m)).length ≤ k := by
    have := List.length_filter_le (endB m) (m.pipes.take k)
    rw [List.length_take] at this
    omega
  by_cases hlt : k < m.pipes.length
  · obtain ⟨⟨p1, p2⟩, p3⟩ := hpR _ (getD_mem' hlt)
    have e := filter_snoc (q := endB m) hlt
    have hE := rends_spec m hm (m.pipes.getD k default).id ⟨p1, p2⟩
    have hU : ∀ q, endsN m.pr q (m.pipes.getD k default).id ≤ 160000 := fun q => by
      have := endsN_le q (m.pipes.getD k default).id m.pr fun p hp => (hm.prR p hp).fds
      have := hm.pr
      omega
    have hU4 := hU 4
    have hU5 := hU 5
    have hB : endB m (m.pipes.getD k default) = decide (0 < endsN m.pr 4 (m.pipes.getD k default).id + endsN m.pr 5 (m.pipes.getD k default).id) := rfl
    generalize endsN m.pr 4 (m.pipes.getD k default).id = f4 at hE hU4 hB
    generalize endsN m.pr 5 (m.pipes.getD k default).id = f5 at hE hU5 hB
    rw [hB] at e
    generalize (m.pipes.take k).filter (endB m) = w at hfl e
    by_cases hq : 0 < f4 + f5
    · rw [decide_eq_true hq, if_pos rfl] at e
      repeat' (first|(with_reducible first|refine yrl (by constructor) ?_|refine jk (fun M hM=>?_)|(refine hM _ ?_;clear hM M)|refine xb3 (by decide) ?_|refine yqa (by assumption) ?_ ?_|refine yqb (by assumption) ?_ ?_)|((with_reducible refine je ?_)<;>(first|rfl|assumption|(simp only [znl,znQ5];(first|done|fail))))|(with_reducible refine jf (by (simp only [↓reduceIte,zlk,Nat.reduceEqDiff,reduceCtorEq]);exact rfl) ?_)|((with_reducible first|refine jg (fun hc=>?_) (fun hc=>?_)|refine jh (fun hc=>?_) (fun hc=>?_))<;>(try simp (disch:=omega) only [zhb] at hc)<;>(try (exfalso;omega))<;>(try subst hc))|(with_reducible refine ji (by omega) ?_)|(simp (config := { maxSteps := 400000 }) only [↓jt,↓reduceIte,zvs,reduceCtorEq,seval,-List.reduceReplicate,tab,encPi,Try.results55,jTA])|(simp (disch:=omega) only [ziw]))
      all_goals first
        | (exfalso; omega)
        | (refine xl1 (k + 1) ?_ (by show k + 1 ≤ m.pipes.length; omega) (by show m.pipes.length - (k + 1) < m.pipes.length - k; omega); (refine yrn [(0, 0), (1, 1), (2, 5)] false ?_ ?_<;>(repeat' (first|(with_reducible first|exact ya1|exact ya2|exact ya3|refine jx rfl (by first|rfl|assumption|(simp only [znl,znQ5];(first|done|fail)))|exact ya5|exact ya7|exact jy|exact jz|refine jA ?_|refine ya9 ?_ ?_ ?_|refine jC rfl (by first|rfl|assumption|(simp only [znl,znQ5];(first|done|fail)))|refine MR.agg (MRL.cons ?_ ?_)|refine MR.fn ?_|refine MRL.cons ?_ ?_|exact MRL.nil|refine jE ?_ ?_|exact jF|exact jG|refine yb1 ?_ ?_|refine MB.row ?_|refine jI ?_ ?_|exact ya8|refine jJ rfl (by first|rfl|assumption|(simp only [znl,znQ5];(first|done|fail)))|refine yb2 ?_|rfl)|(simp only [znl,znQ5];(first|done|fail))|(simp only [↓reduceIte,zlk,Nat.reduceEqDiff,reduceCtorEq])|(with_reducible first|refine jJ ?_ ?_|refine ya5 ?_|refine ju ?_|refine jv ?_|refine jw ?_|refine jx ?_ (by first|rfl|assumption|(simp only [znl,znQ5];(first|done|fail)))|refine jC ?_ (by first|rfl|assumption|(simp only [znl,znQ5];(first|done|fail))))))); all_goals (first | rfl | (rw [e, List.map_append]; rfl) | (rw [e]; simp; done)))
    · rw [decide_eq_false hq, if_neg (by simp), List.append_nil] at e
      repeat' (first|(with_reducible first|refine yrl (by constructor) ?_|refine jk (fun M hM=>?_)|(refine hM _ ?_;clear hM M)|refine xb3 (by decide) ?_|refine yqa (by assumption) ?_ ?_|refine yqb (by assumption) ?_ ?_)|((with_reducible refine je ?_)<;>(first|rfl|assumption|(simp only [znl,znQ5];(first|done|fail))))|(with_reducible refine jf (by (simp only [↓reduceIte,zlk,Nat.reduceEqDiff,reduceCtorEq]);exact rfl) ?_)|((with_reducible first|refine jg (fun hc=>?_) (fun hc=>?_)|refine jh (fun hc=>?_) (fun hc=>?_))<;>(try simp (disch:=omega) only [zhb] at hc)<;>(try (exfalso;omega))<;>(try subst hc))|(with_reducible refine ji (by omega) ?_)|(simp (config := { maxSteps := 400000 }) only [↓jt,↓reduceIte,zvs,reduceCtorEq,seval,-List.reduceReplicate,tab,encPi,Try.results55,jTA])|(simp (disch:=omega) only [ziw]))
      all_goals first
        | (exfalso; omega)
        | (refine xl1 (k + 1) ?_ (by show k + 1 ≤ m.pipes.length; omega) (by show m.pipes.length - (k + 1) < m.pipes.length - k; omega); (refine yrn [(0, 0), (1, 1), (2, 2)] false ?_ ?_<;>(repeat' (first|(with_reducible first|exact ya1|exact ya2|exact ya3|refine jx rfl (by first|rfl|assumption|(simp only [znl,znQ5];(first|done|fail)))|exact ya5|exact ya7|exact jy|exact jz|refine jA ?_|refine ya9 ?_ ?_ ?_|refine jC rfl (by first|rfl|assumption|(simp only [znl,znQ5];(first|done|fail)))|refine MR.agg (MRL.cons ?_ ?_)|refine MR.fn ?_|refine MRL.cons ?_ ?_|exact MRL.nil|refine jE ?_ ?_|exact jF|exact jG|refine yb1 ?_ ?_|refine MB.row ?_|refine jI ?_ ?_|exact ya8|refine jJ rfl (by first|rfl|assumption|(simp only [znl,znQ5];(first|done|fail)))|refine yb2 ?_|rfl)|(simp only [znl,znQ5];(first|done|fail))|(simp only [↓reduceIte,zlk,Nat.reduceEqDiff,reduceCtorEq])|(with_reducible first|refine jJ ?_ ?_|refine ya5 ?_|refine ju ?_|refine jv ?_|refine jw ?_|refine jx ?_ (by first|rfl|assumption|(simp only [znl,znQ5];(first|done|fail)))|refine jC ?_ (by first|rfl|assumption|(simp only [znl,znQ5];(first|done|fail))))))); all_goals (first | rfl | (rw [e]; done)))
  · obtain rfl : k = m.pipes.length := by omega
    rw [List.take_length] at hfl ⊢
    repeat' (first|(with_reducible first|refine yrl (by constructor) ?_|refine jk (fun M hM=>?_)|(refine hM _ ?_;clear hM M)|refine xb3 (by decide) ?_|refine yqa (by assumption) ?_ ?_|refine yqb (by assumption) ?_ ?_)|((with_reducible refine je ?_)<;>(first|rfl|assumption|(simp only [znl,znQ5];(first|done|fail))))|(with_reducible refine jf (by (simp only [↓reduceIte,zlk,Nat.reduceEqDiff,reduceCtorEq]);exact rfl) ?_)|((with_reducible first|refine jg (fun hc=>?_) (fun hc=>?_)|refine jh (fun hc=>?_) (fun hc=>?_))<;>(try simp (disch:=omega) only [zhb] at hc)<;>(try (exfalso;omega))<;>(try subst hc))|(with_reducible refine ji (by omega) ?_)|(simp (config := { maxSteps := 400000 }) only [↓jt,↓reduceIte,zvs,reduceCtorEq,seval,-List.reduceReplicate,tab,Try.results55,jTA])|(simp (disch:=omega) only [ziw]))
    all_goals (try (exfalso; omega))
    ((try simp only [sweepM,pipM,List.map_nil]); simp only [zrds]; (repeat' (first | exact rd_nil | exact Rd.refl _ _ (by first|rfl|assumption|(simp only [znl,znQ5];(first|done|fail))) | (refine And.intro ?_ ?_) | (refine rd_own (by (simp only [↓reduceIte,zlk,Nat.reduceEqDiff,reduceCtorEq]); exact rfl) ?_ ?_ ?_) | rfl | assumption | (simp only [znl,znQ5];(first|done|fail)) | (simp; done) | (simp; omega))))
end Go.Proofs.Ytpdhdkpebbfnnaa.V
end
section
namespace Go.Proofs.Ytpdhdkpebbfnnaa.V
open Go
set_option maxRecDepth 100000
def znT3 := And.intro @jO <| And.intro @jP <| And.intro @jQ <| And.intro @jR <| And.intro @jS <| And.intro @jT <| And.intro @jU <| True.intro
set_option maxHeartbeats 8000000
def mapK (f : Pr → Pr) (l : List Pr) (k : Nat) : List Pr := (l.take k).map f ++ l.drop k
theorem mapK_len (f : Pr → Pr) (l : List Pr) (k : Nat) : (mapK f l k).length = l.length := by
  unfold mapK
  rw [List.length_append, List.length_map, List.length_take, List.length_drop]; omega
theorem mapK_all (f : Pr → Pr) (l : List Pr) : mapK f l l.length = l.map f := by
  unfold mapK
  rw [List.take_length, List.drop_length, List.append_nil]
theorem mapK_at {f : Pr → Pr} {l : List Pr} {k : Nat} (hk : k < l.length) : (mapK f l k).getD k default = l.getD k default := by
  unfold mapK
  rw [List.getD_eq_getElem?_getD, List.getElem?_append_right (by rw [List.length_map, List.length_take]; omega), List.length_map, List.length_take, Nat.min_eq_left (by omega), Nat.sub_self, List.getElem?_drop, Nat.add_zero, ← List.getD_eq_getElem?_getD]
theorem mapK_next {f : Pr → Pr} {l : List Pr} {k : Nat} (hk : k < l.length) : mapK f l (k + 1) = (mapK f l k).set k (f (l.getD k default)) := by
  unfold mapK
  rw [take_snoc l k hk, List.map_append]
  have hd : l.drop k = l.getD k default :: l.drop (k + 1) := by
    rw [List.drop_eq_getElem_cons hk]
    congr 1
    rw [List.getD_eq_getElem?_getD, List.getElem?_eq_getElem hk]; rfl
  rw [hd, List.set_append_right _ _ (by rw [List.length_map, List.length_take]; omega), List.length_map, List.length_take, Nat.min_eq_left (by omega), Nat.sub_self]
  simp
theorem mapK_same {f : Pr → Pr} {l : List Pr} {k : Nat} (hk : k < l.length) (h : f (l.getD k default) = l.getD k default) : mapK f l (k + 1) = mapK f l k := by
  rw [mapK_next hk, h]
  have := mapK_at (f := f) hk
  have hl := mapK_len f l k
  rw [← this, List.getD_eq_getElem?_getD, List.getElem?_eq_getElem (by omega)]
  exact List.set_getElem_self (by omega)
def deadP (p : Pr) (code : Int) : Pr := ⟨p.pid, p.par, 3, p.rs, p.pc, List.replicate 16 ⟨false, false, 0⟩, List.replicate 8 ⟨0, 0, 0⟩, false, code, 0, 0⟩
def freeP (pid : Int) (p : Pr) : Pr := if p.par = pid then { p with par := 0 } else p
def stayB (l : List Pr) (p : Pr) : Bool := !(decide (p.st = 3) && (decide (p.par = 0) || (findI l p.par).isNone))
def prM (m : Mach) (l : List Pr) : Mach := { m with pr := l }
def dieL (m : Mach) (i : Nat) (pid code : Int) : List Pr := (m.pr.set i (deadP (m.pr.getD i default) code)).map (freeP pid)
def dieM (m : Mach) (pid code : Int) : Mach := match findI m.pr pid with
  | none => m
  | some i => if (m.pr.getD i default).st = 3 then m else sweepM (prM m ((dieL m i pid code).filter (stayB (dieL m i pid code))))
theorem deadP_fit {p : Pr} (h : PrR p) {code : Int} (hc : u32R code) : PrR (deadP p code) := by
  have z : i64R 0 := by unfold i64R; omega
  exact ⟨h.pid, h.par, by show i64R 3; unfold i64R; omega, h.rs, h.rsR, h.pc, by simp [deadP], fun x hx => by rw [List.eq_of_mem_replicate hx]; exact z, by simp [deadP], fun x hx => by rw [List.eq_of_mem_replicate hx]; exact ⟨z, z, z⟩, hc, z, by show u64R 0; unfold u64R; omega⟩
theorem freeP_fit {p : Pr} (h : PrR p) (pid : Int) : PrR (freeP pid p) := by
  unfold freeP
  split
  · exact ⟨h.pid, by show i64R 0; unfold i64R; omega, h.st, h.rs, h.rsR, h.pc, h.sp, h.spR, h.fds, h.fdsR, h.code, h.why, h.n⟩
  · exact h
theorem prM_fit {N : Nat} {m : Mach} (h : MFit N m) {l : List Pr} (hl : l.length ≤ N) (hp : ∀ p ∈ l, PrR p) : MFit N (prM m l) :=
  ⟨h.clock, h.quantum, h.cur, h.left, h.fr, h.frS, hl, hp, h.next, h.init, h.pipes, h.pipesR, h.newp, h.inp, h.told, h.bl, h.blS, h.pe, h.peS, h.dleft, h.dirty, h.dirtyS⟩
theorem dieL_fit {m : Mach} (hm : MFit 20000 m) {i : Nat} (hi : i < m.pr.length) (pid : Int) {code : Int} (hc : u32R code) : (dieL m i pid code).length = m.pr.length ∧ ∀ p ∈ dieL m i pid code, PrR p := by
  refine ⟨by unfold dieL; rw [List.length_map, List.length_set], fun p hp => ?_⟩
  obtain ⟨q, hq, rfl⟩ := List.mem_map.1 hp
  refine freeP_fit ?_ _
  rcases List.mem_or_eq_of_mem_set hq with hq | rfl
  · exact hm.prR q hq
  · exact deadP_fit (hm.prR _ (getD_mem' hi)) hc
abbrev encMD (m : Mach) (prs : VV) : VV := .agg [.int .u64 m.clock, .int .i64 m.quantum, .int .i64 m.cur, .int .i64 m.left, encStrs m.fr, prs, .int .i64 m.next, .str m.init, encPis m.pipes, .int .i64 m.newp, .str m.inp, .bool m.fin, .int .u64 m.told, encDr m.dr, encWrs m.dirty]
theorem ok_stop {P : Program} {n0 : Nat} {S : VS} {K : VX → VS → Prop} {l : Array Oper} {d : Bool} (i : Nat) (h : Ok P n0 (.region i l d) S K) : Ok P n0 (.region i l d) S K := h
abbrev nilMD : VV := .agg [.int .u64 0, .int .i64 0, .int .i64 0, .int .i64 0, .sl none 0, .sl none 0, .int .i64 0, .str [], .sl none 0, .int .i64 0, .str [], .bool false, .int .u64 0, .agg [.sl none 0, .sl none 0, .int .i64 0], .sl none 0]
theorem filt_snoc {l : List Pr} {q : Pr → Bool} {k : Nat} (hk : k < l.length) : (l.take (k + 1)).filter q = (l.take k).filter q ++ if q (l.getD k default) = true then [l.getD k default] else [] := by
  rw [take_snoc l k hk, List.filter_append]
  by_cases h : q (l.getD k default) = true
  · rw [if_pos h, List.filter_cons_of_pos h, List.filter_nil]
  · rw [if_neg h, List.filter_cons_of_neg h, List.filter_nil]
theorem stay_no {l : List Pr} {p : Pr} {b : Bool} (h : (findI l p.par).isNone = !b) (hs : stayB l p = false) : p.st = 3 ∧ (b = true → p.par = 0) := by
  unfold stayB at hs
  rw [h] at hs
  cases b <;> simpa using hs
theorem stay_yes {l : List Pr} {p : Pr} {b : Bool} (h : (findI l p.par).isNone = !b) (hs : stayB l p = true) : p.st = 3 → b = true ∧ ¬p.par = 0 := fun h3 => by
  unfold stayB at hs
  rw [h] at hs
  cases b
  · simp [h3] at hs
  · simp [h3] at hs
    exact ⟨rfl, hs⟩
theorem zSp : Has (.arr 16 (.st [.cell, .cell, .cell])) (.agg (List.replicate 16 (.agg [.bool false, .bool false, .int .i64 0]))) := hasSpace (List.replicate 16 ⟨false, false, 0⟩) rfl
theorem zFd : Has (.arr 8 (.st [.cell, .cell, .cell])) (.agg (List.replicate 8 (.agg [.int .i64 0, .int .i64 0, .int .i64 0]))) := hasFds (List.replicate 8 ⟨0, 0, 0⟩) rfl
theorem rdie_spec (m : Mach) (hm : MFit 20000 m) (pid : Int) (hp : i64R pid) (code : Int) (hc : u32R code) : Spec Try.prog 28 [encM m, .int .i64 pid, .int .u32 code] (encM (dieM m pid code)) := by
  have hl := hm.pr
  have hF := rfind_spec m hm pid hp
  obtain ⟨c1, c2⟩ := hc
  unfold dieM
  cases hf : findI m.pr pid with
  | none =>
    rw [hf] at hF
    simp only [placeV] at hF
    refine spec_ok Try.func28 rfl rfl (by kernel_rfl) (k := 3) rfl (by decide) ?_
    repeat' (first|(with_reducible first|refine yrl (by constructor) ?_|refine jk (fun M hM=>?_)|(refine hM _ ?_;clear hM M)|refine xb3 (by decide) ?_|refine yqa (by assumption) ?_ ?_|refine yqb (by assumption) ?_ ?_)|((with_reducible refine je ?_)<;>(first|rfl|assumption|(simp only [znl,znT3];(first|done|fail))))|(with_reducible refine jf (by (simp only [↓reduceIte,zlk,Nat.reduceEqDiff,reduceCtorEq]);exact rfl) ?_)|((with_reducible first|refine jg (fun hc=>?_) (fun hc=>?_)|refine jh (fun hc=>?_) (fun hc=>?_))<;>(try simp (disch:=omega) only [zhb] at hc)<;>(try (exfalso;omega))<;>(try subst hc))|(with_reducible refine ji (by omega) ?_)|(simp (config := { maxSteps := 400000 }) only [↓jt,↓reduceIte,zvs,reduceCtorEq,seval,-List.reduceReplicate,tab,Try.results51,Try.results28,jTA])|(simp (disch:=omega) only [ziw]))
    all_goals first
      | (exfalso; omega)
      | (((try simp only [List.map_nil]); simp only [zrds]; (repeat' (first | exact rd_nil | exact Rd.refl _ _ (by first|rfl|assumption|(simp only [znl,znT3];(first|done|fail))) | (refine And.intro ?_ ?_) | (refine rd_own (by (simp only [↓reduceIte,zlk,Nat.reduceEqDiff,reduceCtorEq]); exact rfl) ?_ ?_ ?_) | rfl | assumption | (simp only [znl,znT3];(first|done|fail)) | (simp; done) | (simp; omega)))); done)
  | some i =>
    rw [hf] at hF
    simp only [placeV] at hF
    obtain ⟨hi, hpid⟩ := findI_some hf
    have hb := hm.prR _ (getD_mem' hi)
    obtain ⟨hS1, hS2, hS3⟩ := pr3 hb
    dsimp only
    by_cases h3 : (m.pr.getD i default).st = 3
    · rw [if_pos h3]
      refine spec_ok Try.func28 rfl rfl (by kernel_rfl) (k := 3) rfl (by decide) ?_
      repeat' (first|(with_reducible first|refine yrl (by constructor) ?_|refine jk (fun M hM=>?_)|(refine hM _ ?_;clear hM M)|refine xb3 (by decide) ?_|refine yqa (by assumption) ?_ ?_|refine yqb (by assumption) ?_ ?_)|((with_reducible refine je ?_)<;>(first|rfl|assumption|(simp only [znl,znT3];(first|done|fail))))|(with_reducible refine jf (by (simp only [↓reduceIte,zlk,Nat.reduceEqDiff,reduceCtorEq]);exact rfl) ?_)|((with_reducible first|refine jg (fun hc=>?_) (fun hc=>?_)|refine jh (fun hc=>?_) (fun hc=>?_))<;>(try simp (disch:=omega) only [zhb] at hc)<;>(try (exfalso;omega))<;>(try subst hc))|(with_reducible refine ji (by omega) ?_)|(simp (config := { maxSteps := 400000 }) only [↓jt,↓reduceIte,zvs,reduceCtorEq,seval,-List.reduceReplicate,tab,hS1,hS2,hS3,encPr,Try.results51,Try.results28,jTA])|(simp (disch:=omega) only [ziw]))
      all_goals first
        | (exfalso; omega)
        | (((try simp only [List.map_nil]); simp only [zrds]; (repeat' (first | exact rd_nil | exact Rd.refl _ _ (by first|rfl|assumption|(simp only [znl,znT3];(first|done|fail))) | (refine And.intro ?_ ?_) | (refine rd_own (by (simp only [↓reduceIte,zlk,Nat.reduceEqDiff,reduceCtorEq]); exact rfl) ?_ ?_ ?_) | rfl | assumption | (simp only [znl,znT3];(first|done|fail)) | (simp; done) | (simp; omega)))); done)
    · rw [if_neg h3]
      refine spec_ok Try.func28 rfl rfl (by kernel_rfl) (k := 3) rfl (by decide) ?_
      have hD := deadP_fit hb ⟨c1, c2⟩
      obtain ⟨hD1, hD2, hD3⟩ := pr3 hD
      have hset : (m.pr.map encPr).set i (encPr (deadP (m.pr.getD i default) code)) = (m.pr.set i (deadP (m.pr.getD i default) code)).map encPr := (List.map_set ..).symm
      simp only [encPr,deadP] at hset
      repeat' (first|(with_reducible first|refine yrl (by constructor) ?_|refine jk (fun M hM=>?_)|(refine hM _ ?_;clear hM M)|refine xb3 (by decide) ?_|refine yqa (by assumption) ?_ ?_|refine yqb (by assumption) ?_ ?_)|((with_reducible refine je ?_)<;>(first|rfl|assumption|(simp only [znl,znT3];(first|done|fail))))|(with_reducible refine jf (by (simp only [↓reduceIte,zlk,Nat.reduceEqDiff,reduceCtorEq]);exact rfl) ?_)|((with_reducible first|refine jg (fun hc=>?_) (fun hc=>?_)|refine jh (fun hc=>?_) (fun hc=>?_))<;>(try simp (disch:=omega) only [zhb] at hc)<;>(try (exfalso;omega))<;>(try subst hc))|(with_reducible refine ji (by omega) ?_)|(simp (config := { maxSteps := 400000 }) only [↓jt,↓reduceIte,zvs,reduceCtorEq,seval,-List.reduceReplicate,tab,hS1,hS2,hS3,zSp,zFd,encPr,Try.results51,Try.results28,jTA])|(simp (disch:=omega) only [ziw]))
      all_goals (try (exfalso; omega))
      refine ja (ok_body Try.func51 rfl rfl (by kernel_rfl) (k := 3) (by rfl) (by decide) ?_)
      repeat' (first|(with_reducible first|refine yrl (by constructor) ?_|refine jk (fun M hM=>?_)|(refine hM _ ?_;clear hM M)|refine xb3 (by decide) ?_|refine yqa (by assumption) ?_ ?_|refine yqb (by assumption) ?_ ?_)|((with_reducible refine je ?_)<;>(first|rfl|assumption|(simp only [znl,znT3];(first|done|fail))))|(with_reducible refine jf (by (simp only [↓reduceIte,zlk,Nat.reduceEqDiff,reduceCtorEq]);exact rfl) ?_)|((with_reducible first|refine jg (fun hc=>?_) (fun hc=>?_)|refine jh (fun hc=>?_) (fun hc=>?_))<;>(try simp (disch:=omega) only [zhb] at hc)<;>(try (exfalso;omega))<;>(try subst hc))|(with_reducible refine ji (by omega) ?_)|(simp (config := { maxSteps := 400000 }) only [↓jt,↓reduceIte,zvs,reduceCtorEq,seval,-List.reduceReplicate,tab,hS1,hS2,hS3,zSp,zFd,encPr,Try.results51,Try.results28,jTA])|(simp (disch:=omega) only [ziw]))
      obtain ⟨n, hn⟩ : ∃ n, n = m.pr.length := ⟨_, rfl⟩
      obtain ⟨l1, hl1⟩ : ∃ l1, l1 = m.pr.set i (deadP (m.pr.getD i default) code) := ⟨_, rfl⟩
      have hset : (m.pr.map encPr).set i (encPr (deadP (m.pr.getD i default) code)) = l1.map encPr := by rw [hl1]; exact (List.map_set ..).symm
      simp only [encPr,deadP] at hset
      obtain ⟨hdl, hdp⟩ := dieL_fit hm hi pid ⟨c1, c2⟩
      have hl2 : dieL m i pid code = l1.map (freeP pid) := by rw [hl1]; rfl
      rw [hl2] at hdl hdp ⊢
      have h1n : l1.length = n := by rw [hl1, List.length_set, hn]
      have h1p : ∀ p ∈ l1, PrR p := fun p hp => by
        rw [hl1] at hp
        rcases List.mem_or_eq_of_mem_set hp with hq | rfl
        · exact hm.prR p hq
        · exact hD
      refine ok_loop (fun k : Nat => ⟨slots [(1, .int .i64 pid), (3, .ptr 0 []), (6, .ptr 1 []), (10, .int .i64 k)], rows [(0, .row machSh (encMD m (.sl (some (2, [], 0)) n))), (1, .row machSh nilMD), (2, .row (.arr n prSh) (.agg ((mapK (freeP pid) l1 k).map encPr)))], 3⟩) (fun k => k ≤ n) (fun k => n - k) 0 ?_ (Nat.zero_le _) (fun k hk => ?_)
      · (refine yrn [(0, 0), (1, 1), (2, 7)] false ?_ ?_<;>(repeat' (first|(with_reducible first|exact ya1|exact ya2|exact ya3|refine jx rfl (by first|rfl|assumption|(simp only [znl,znT3];(first|done|fail)))|exact ya5|exact ya7|exact jy|exact jz|refine jA ?_|refine ya9 ?_ ?_ ?_|refine jC rfl (by first|rfl|assumption|(simp only [znl,znT3];(first|done|fail)))|refine MR.agg (MRL.cons ?_ ?_)|refine MR.fn ?_|refine MRL.cons ?_ ?_|exact MRL.nil|refine jE ?_ ?_|exact jF|exact jG|refine yb1 ?_ ?_|refine MB.row ?_|refine jI ?_ ?_|exact ya8|refine jJ rfl (by first|rfl|assumption|(simp only [znl,znT3];(first|done|fail)))|refine yb2 ?_|rfl)|(simp only [znl,znT3];(first|done|fail))|(simp only [↓reduceIte,zlk,Nat.reduceEqDiff,reduceCtorEq])|(with_reducible first|refine jJ ?_ ?_|refine ya5 ?_|refine ju ?_|refine jv ?_|refine jw ?_|refine jx ?_ (by first|rfl|assumption|(simp only [znl,znT3];(first|done|fail)))|refine jC ?_ (by first|rfl|assumption|(simp only [znl,znT3];(first|done|fail)))))))
        all_goals (first | rfl | omega | exact hset | (simp [hn]; done))
      clear hset hS1 hS2 hS3 hD1 hD2 hD3 hb hF
      have hwl := mapK_len (freeP pid) l1 k
      rw [h1n] at hwl
      by_cases hlt : k < n
      · have hk1 : k < l1.length := by omega
        have hb := h1p _ (getD_mem' hk1)
        obtain ⟨hS1, hS2, hS3⟩ := pr3 hb
        have hat := mapK_at (f := freeP pid) hk1
        by_cases hq : (l1.getD k default).par = pid
        · have e1 := mapK_next (f := freeP pid) hk1
          unfold freeP at e1
          rw [if_pos hq] at e1
          have hw : ((mapK (freeP pid) l1 k).map encPr).set k (encPr { (l1.getD k default) with par := 0 }) = (mapK (freeP pid) l1 (k + 1)).map encPr := by rw [← List.map_set]; unfold freeP; rw [e1]
          simp only [encPr] at hw
          generalize mapK (freeP pid) l1 k = l at hwl hat hw ⊢
          repeat' (first|(with_reducible first|refine yrl (by constructor) ?_|refine jk (fun M hM=>?_)|(refine hM _ ?_;clear hM M)|refine xb3 (by decide) ?_|refine yqa (by assumption) ?_ ?_|refine yqb (by assumption) ?_ ?_)|((with_reducible refine je ?_)<;>(first|rfl|assumption|(simp only [znl,znT3];(first|done|fail))))|(with_reducible refine jf (by (simp only [↓reduceIte,zlk,Nat.reduceEqDiff,reduceCtorEq]);exact rfl) ?_)|((with_reducible first|refine jg (fun hc=>?_) (fun hc=>?_)|refine jh (fun hc=>?_) (fun hc=>?_))<;>(try simp (disch:=omega) only [zhb] at hc)<;>(try (exfalso;omega))<;>(try subst hc))|(with_reducible refine ji (by omega) ?_)|(simp (config := { maxSteps := 400000 }) only [↓jt,↓reduceIte,zvs,reduceCtorEq,seval,-List.reduceReplicate,tab,hS1,hS2,hS3,hwl,hat,hq,encPr,Try.results51,Try.results28,jTA])|(simp (disch:=omega) only [ziw]))
          all_goals first
            | (exfalso; omega)
            | (refine xl1 (k + 1) ?_ (by show k + 1 ≤ n; omega) (by show n - (k + 1) < n - k; omega); (refine yrn [(0, 0), (1, 1), (2, 2)] false ?_ ?_<;>(repeat' (first|(with_reducible first|exact ya1|exact ya2|exact ya3|refine jx rfl (by first|rfl|assumption|(simp only [znl,znT3];(first|done|fail)))|exact ya5|exact ya7|exact jy|exact jz|refine jA ?_|refine ya9 ?_ ?_ ?_|refine jC rfl (by first|rfl|assumption|(simp only [znl,znT3];(first|done|fail)))|refine MR.agg (MRL.cons ?_ ?_)|refine MR.fn ?_|refine MRL.cons ?_ ?_|exact MRL.nil|refine jE ?_ ?_|exact jF|exact jG|refine yb1 ?_ ?_|refine MB.row ?_|refine jI ?_ ?_|exact ya8|refine jJ rfl (by first|rfl|assumption|(simp only [znl,znT3];(first|done|fail)))|refine yb2 ?_|rfl)|(simp only [znl,znT3];(first|done|fail))|(simp only [↓reduceIte,zlk,Nat.reduceEqDiff,reduceCtorEq])|(with_reducible first|refine jJ ?_ ?_|refine ya5 ?_|refine ju ?_|refine jv ?_|refine jw ?_|refine jx ?_ (by first|rfl|assumption|(simp only [znl,znT3];(first|done|fail)))|refine jC ?_ (by first|rfl|assumption|(simp only [znl,znT3];(first|done|fail))))))); all_goals (first | rfl | exact hw); done)
        · have e1 := mapK_same (f := freeP pid) hk1 (by unfold freeP; rw [if_neg hq])
          generalize mapK (freeP pid) l1 k = l at hwl hat e1 ⊢
          repeat' (first|(with_reducible first|refine yrl (by constructor) ?_|refine jk (fun M hM=>?_)|(refine hM _ ?_;clear hM M)|refine xb3 (by decide) ?_|refine yqa (by assumption) ?_ ?_|refine yqb (by assumption) ?_ ?_)|((with_reducible refine je ?_)<;>(first|rfl|assumption|(simp only [znl,znT3];(first|done|fail))))|(with_reducible refine jf (by (simp only [↓reduceIte,zlk,Nat.reduceEqDiff,reduceCtorEq]);exact rfl) ?_)|((with_reducible first|refine jg (fun hc=>?_) (fun hc=>?_)|refine jh (fun hc=>?_) (fun hc=>?_))<;>(try simp (disch:=omega) only [zhb] at hc)<;>(try (exfalso;omega))<;>(try subst hc))|(with_reducible refine ji (by omega) ?_)|(simp (config := { maxSteps := 400000 }) only [↓jt,↓reduceIte,zvs,reduceCtorEq,seval,-List.reduceReplicate,tab,hS1,hS2,hS3,hwl,hat,encPr,Try.results51,Try.results28,jTA])|(simp (disch:=omega) only [ziw]))
          all_goals first
            | (exfalso; omega)
            | (refine xl1 (k + 1) ?_ (by show k + 1 ≤ n; omega) (by show n - (k + 1) < n - k; omega); (refine yrn [(0, 0), (1, 1), (2, 2)] false ?_ ?_<;>(repeat' (first|(with_reducible first|exact ya1|exact ya2|exact ya3|refine jx rfl (by first|rfl|assumption|(simp only [znl,znT3];(first|done|fail)))|exact ya5|exact ya7|exact jy|exact jz|refine jA ?_|refine ya9 ?_ ?_ ?_|refine jC rfl (by first|rfl|assumption|(simp only [znl,znT3];(first|done|fail)))|refine MR.agg (MRL.cons ?_ ?_)|refine MR.fn ?_|refine MRL.cons ?_ ?_|exact MRL.nil|refine jE ?_ ?_|exact jF|exact jG|refine yb1 ?_ ?_|refine MB.row ?_|refine jI ?_ ?_|exact ya8|refine jJ rfl (by first|rfl|assumption|(simp only [znl,znT3];(first|done|fail)))|refine yb2 ?_|rfl)|(simp only [znl,znT3];(first|done|fail))|(simp only [↓reduceIte,zlk,Nat.reduceEqDiff,reduceCtorEq])|(with_reducible first|refine jJ ?_ ?_|refine ya5 ?_|refine ju ?_|refine jv ?_|refine jw ?_|refine jx ?_ (by first|rfl|assumption|(simp only [znl,znT3];(first|done|fail)))|refine jC ?_ (by first|rfl|assumption|(simp only [znl,znT3];(first|done|fail))))))); all_goals (first | rfl | (rw [e1]; done)); done)
      · obtain rfl : k = n := by omega
        have hall := mapK_all (freeP pid) l1
        rw [h1n] at hall
        rw [hall]
        clear hwl hall
        generalize l1.map (freeP pid) = l2 at hdl hdp ⊢
        repeat' (first|(with_reducible first|refine yrl (by constructor) ?_|refine jk (fun M hM=>?_)|(refine hM _ ?_;clear hM M)|refine xb3 (by decide) ?_|refine yqa (by assumption) ?_ ?_|refine yqb (by assumption) ?_ ?_)|((with_reducible refine je ?_)<;>(first|rfl|assumption|(simp only [znl,znT3];(first|done|fail))))|(with_reducible refine jf (by (simp only [↓reduceIte,zlk,Nat.reduceEqDiff,reduceCtorEq]);exact rfl) ?_)|((with_reducible first|refine jg (fun hc=>?_) (fun hc=>?_)|refine jh (fun hc=>?_) (fun hc=>?_))<;>(try simp (disch:=omega) only [zhb] at hc)<;>(try (exfalso;omega))<;>(try subst hc))|(with_reducible refine ji (by omega) ?_)|(simp (config := { maxSteps := 400000 }) only [↓jt,↓reduceIte,zvs,reduceCtorEq,seval,-List.reduceReplicate,tab,hdl,Try.results51,Try.results28,jTA])|(simp (disch:=omega) only [ziw]))
        all_goals (try (exfalso; omega))
        have hfit2 : MFit 20000 (prM m l2) := prM_fit hm (by omega) hdp
        obtain ⟨out, hout⟩ : ∃ out : Nat → List Pr, ∀ j, out j = (l2.take j).filter (stayB l2) := ⟨_, fun _ => rfl⟩
        have hol : ∀ j, (out j).length ≤ j := fun j => by
          rw [hout]; refine Nat.le_trans (List.length_filter_le _ _) ?_
          rw [List.length_take]; omega
        refine ok_loop (fun j : Nat => ⟨slots [(3, .ptr 0 []), (6, .ptr 1 []), (11, .sl (some (3, [], 0)) (out j).length), (12, .int .i64 j)], rows [(0, .row machSh (encMD m (.sl (some (2, [], 0)) k))), (1, .row machSh nilMD), (2, .row (.arr k prSh) (.agg (l2.map encPr))), (3, .row (.arr (out j).length prSh) (.agg ((out j).map encPr)))], 4⟩) (fun j => j ≤ k) (fun j => k - j) 0 ?_ (Nat.zero_le _) (fun j hj => ?_)
        · (refine yrn [(0, 0), (1, 1), (2, 2)] false ?_ ?_<;>(repeat' (first|(with_reducible first|exact ya1|exact ya2|exact ya3|refine jx rfl (by first|rfl|assumption|(simp only [znl,znT3];(first|done|fail)))|exact ya5|exact ya7|exact jy|exact jz|refine jA ?_|refine ya9 ?_ ?_ ?_|refine jC rfl (by first|rfl|assumption|(simp only [znl,znT3];(first|done|fail)))|refine MR.agg (MRL.cons ?_ ?_)|refine MR.fn ?_|refine MRL.cons ?_ ?_|exact MRL.nil|refine jE ?_ ?_|exact jF|exact jG|refine yb1 ?_ ?_|refine MB.row ?_|refine jI ?_ ?_|exact ya8|refine jJ rfl (by first|rfl|assumption|(simp only [znl,znT3];(first|done|fail)))|refine yb2 ?_|rfl)|(simp only [znl,znT3];(first|done|fail))|(simp only [↓reduceIte,zlk,Nat.reduceEqDiff,reduceCtorEq])|(with_reducible first|refine jJ ?_ ?_|refine ya5 ?_|refine ju ?_|refine jv ?_|refine jw ?_|refine jx ?_ (by first|rfl|assumption|(simp only [znl,znT3];(first|done|fail)))|refine jC ?_ (by first|rfl|assumption|(simp only [znl,znT3];(first|done|fail)))))))
          all_goals (first | rfl | (rw [hout]; rfl) | (simp [hout]; done))
        have hoj := hol j
        by_cases hjl : j < k
        · have hj2 : j < l2.length := by omega
          have hb := hdp _ (getD_mem' hj2)
          obtain ⟨hS1, hS2, hS3⟩ := pr3 hb
          have hF2 : Spec Try.prog 24 [encMD m (encPrs l2), .int .i64 (l2.getD j default).par] (placeV (findI l2 (l2.getD j default).par)) := rfind_spec (prM m l2) hfit2 (l2.getD j default).par hb.par
          have hsn := filt_snoc (q := stayB l2) hj2
          rw [← hout, ← hout] at hsn
          have hwa : (out j).map encPr ++ [encPr (l2.getD j default)] = (out j ++ [l2.getD j default]).map encPr := by rw [List.map_append]; rfl
          simp only [encPr] at hwa
          obtain ⟨v, b, hV, hbs⟩ : ∃ (v : Int) (b : Bool), placeV (findI l2 (l2.getD j default).par) = .tup [.int .i64 v, .bool b] ∧ (findI l2 (l2.getD j default).par).isNone = !b := by
            cases findI l2 (l2.getD j default).par with
            | none => exact ⟨0, false, rfl, rfl⟩
            | some x => exact ⟨x, true, rfl, rfl⟩
          rw [hV] at hF2
          cases b <;> cases hsb : stayB l2 (l2.getD j default) <;> (
            first | have hst := stay_yes hbs hsb | have hst := stay_no hbs hsb
            simp only [Bool.false_eq_true,false_and,true_and,false_implies,true_implies,and_true,imp_false,forall_const] at hst
            rw [hsb] at hsn
            simp only [Bool.false_eq_true,if_true,if_false,List.append_nil] at hsn
            repeat' (first|(with_reducible first|refine yrl (by constructor) ?_|refine jk (fun M hM=>?_)|(refine hM _ ?_;clear hM M)|refine xb3 (by decide) ?_|refine yqa (by assumption) ?_ ?_|refine yqb (by assumption) ?_ ?_)|((with_reducible refine je ?_)<;>(first|rfl|assumption|(simp only [znl,znT3];(first|done|fail))))|(with_reducible refine jf (by (simp only [↓reduceIte,zlk,Nat.reduceEqDiff,reduceCtorEq]);exact rfl) ?_)|((with_reducible first|refine jg (fun hc=>?_) (fun hc=>?_)|refine jh (fun hc=>?_) (fun hc=>?_))<;>(try simp (disch:=omega) only [zhb] at hc)<;>(try (exfalso;omega))<;>(try subst hc))|(with_reducible refine ji (by omega) ?_)|(simp (config := { maxSteps := 400000 }) only [↓jt,↓reduceIte,zvs,reduceCtorEq,seval,-List.reduceReplicate,tab,hS1,hS2,hS3,hdl,encPr,Try.results51,Try.results28,jTA])|(simp (disch:=omega) only [ziw]))
            all_goals (try (exfalso; omega))
            refine ja (call_plain (hF2) (by repeat (first | exact rdl_nil | refine rdl_cons ?_ ?_ | exact Rd.refl _ _ (by first|rfl|assumption|(simp only [znl,znT3];(first|done|fail))) | (refine rd_own (by (simp only [↓reduceIte,zlk,Nat.reduceEqDiff,reduceCtorEq]); exact rfl) (by first | rfl | (simp; done) | (simp; omega)) rfl (by first|rfl|assumption|(simp only [znl,znT3];(first|done|fail)))) | exact rd_nil | refine (rd_a _ _ _).mpr ?_)) rfl rfl ?_)
            repeat' (first|(with_reducible first|refine yrl (by constructor) ?_|refine jk (fun M hM=>?_)|(refine hM _ ?_;clear hM M)|refine xb3 (by decide) ?_|refine yqa (by assumption) ?_ ?_|refine yqb (by assumption) ?_ ?_)|((with_reducible refine je ?_)<;>(first|rfl|assumption|(simp only [znl,znT3];(first|done|fail))))|(with_reducible refine jf (by (simp only [↓reduceIte,zlk,Nat.reduceEqDiff,reduceCtorEq]);exact rfl) ?_)|((with_reducible first|refine jg (fun hc=>?_) (fun hc=>?_)|refine jh (fun hc=>?_) (fun hc=>?_))<;>(try simp (disch:=omega) only [zhb] at hc)<;>(try (exfalso;omega))<;>(try subst hc))|(with_reducible refine ji (by omega) ?_)|(simp (config := { maxSteps := 400000 }) only [↓jt,↓reduceIte,zvs,reduceCtorEq,seval,-List.reduceReplicate,tab,hS1,hS2,hS3,hwa,hdl,encPr,Try.results51,Try.results28,jTA])|(simp (disch:=omega) only [ziw]))
            all_goals first
              | (exfalso; omega)
              | (refine xl1 (j + 1) ?_ (by show j + 1 ≤ k; omega) (by show k - (j + 1) < k - j; omega); (refine yrn [(0, 0), (1, 1), (2, 2), (3, 3)] false ?_ ?_<;>(repeat' (first|(with_reducible first|exact ya1|exact ya2|exact ya3|refine jx rfl (by first|rfl|assumption|(simp only [znl,znT3];(first|done|fail)))|exact ya5|exact ya7|exact jy|exact jz|refine jA ?_|refine ya9 ?_ ?_ ?_|refine jC rfl (by first|rfl|assumption|(simp only [znl,znT3];(first|done|fail)))|refine MR.agg (MRL.cons ?_ ?_)|refine MR.fn ?_|refine MRL.cons ?_ ?_|exact MRL.nil|refine jE ?_ ?_|exact jF|exact jG|refine yb1 ?_ ?_|refine MB.row ?_|refine jI ?_ ?_|exact ya8|refine jJ rfl (by first|rfl|assumption|(simp only [znl,znT3];(first|done|fail)))|refine yb2 ?_|rfl)|(simp only [znl,znT3];(first|done|fail))|(simp only [↓reduceIte,zlk,Nat.reduceEqDiff,reduceCtorEq])|(with_reducible first|refine jJ ?_ ?_|refine ya5 ?_|refine ju ?_|refine jv ?_|refine jw ?_|refine jx ?_ (by first|rfl|assumption|(simp only [znl,znT3];(first|done|fail)))|refine jC ?_ (by first|rfl|assumption|(simp only [znl,znT3];(first|done|fail))))))); all_goals (first | rfl | (rw [hsn]; done) | fail); done)
              | (refine xl1 (j + 1) ?_ (by show j + 1 ≤ k; omega) (by show k - (j + 1) < k - j; omega); (refine yrn [(0, 0), (1, 1), (2, 2), (3, 6)] false ?_ ?_<;>(repeat' (first|(with_reducible first|exact ya1|exact ya2|exact ya3|refine jx rfl (by first|rfl|assumption|(simp only [znl,znT3];(first|done|fail)))|exact ya5|exact ya7|exact jy|exact jz|refine jA ?_|refine ya9 ?_ ?_ ?_|refine jC rfl (by first|rfl|assumption|(simp only [znl,znT3];(first|done|fail)))|refine MR.agg (MRL.cons ?_ ?_)|refine MR.fn ?_|refine MRL.cons ?_ ?_|exact MRL.nil|refine jE ?_ ?_|exact jF|exact jG|refine yb1 ?_ ?_|refine MB.row ?_|refine jI ?_ ?_|exact ya8|refine jJ rfl (by first|rfl|assumption|(simp only [znl,znT3];(first|done|fail)))|refine yb2 ?_|rfl)|(simp only [znl,znT3];(first|done|fail))|(simp only [↓reduceIte,zlk,Nat.reduceEqDiff,reduceCtorEq])|(with_reducible first|refine jJ ?_ ?_|refine ya5 ?_|refine ju ?_|refine jv ?_|refine jw ?_|refine jx ?_ (by first|rfl|assumption|(simp only [znl,znT3];(first|done|fail)))|refine jC ?_ (by first|rfl|assumption|(simp only [znl,znT3];(first|done|fail))))))); all_goals (first | rfl | (rw [hsn, List.length_append]; rfl) | (rw [hsn]; done) | (simp [hsn]; done) | fail); done)
             )
        · obtain rfl : j = k := by omega
          have hoa : out j = l2.filter (stayB l2) := by rw [hout, List.take_of_length_le (by omega)]
          rw [hoa] at hoj ⊢
          have hfp : ∀ p ∈ l2.filter (stayB l2), PrR p := fun p hp => hdp p (List.mem_filter.1 hp).1
          generalize l2.filter (stayB l2) = l3 at hoj hfp ⊢
          have hfit3 : MFit 20000 (prM m l3) := prM_fit hm (by omega) hfp
          have hSw := rsweep_spec (prM m l3) hfit3
          repeat' ((fail_if_success (with_reducible refine ok_stop 20 ?_));first|(with_reducible first|refine yrl (by constructor) ?_|refine jk (fun M hM=>?_)|(refine hM _ ?_;clear hM M)|refine xb3 (by decide) ?_|refine yqa (by assumption) ?_ ?_|refine yqb (by assumption) ?_ ?_)|((with_reducible refine je ?_)<;>(first|rfl|assumption|(simp only [znl,znT3];(first|done|fail))))|(with_reducible refine jf (by (simp only [↓reduceIte,zlk,Nat.reduceEqDiff,reduceCtorEq]);exact rfl) ?_)|((with_reducible first|refine jg (fun hc=>?_) (fun hc=>?_)|refine jh (fun hc=>?_) (fun hc=>?_))<;>(try simp (disch:=omega) only [zhb] at hc)<;>(try (exfalso;omega))<;>(try subst hc))|(with_reducible refine ji (by omega) ?_)|(simp (config := { maxSteps := 400000 }) only [↓jt,↓reduceIte,zvs,reduceCtorEq,seval,-List.reduceReplicate,tab,Try.results51,Try.results28,jTA])|(simp (disch:=omega) only [ziw]))
          all_goals (try (exfalso; omega))
          refine ok_ren (T := ⟨slots [(3, .ptr 0 []), (6, .ptr 1 [])], rows [(0, .row machSh (encM (prM m l3))), (1, .row machSh nilMD)], 2⟩) ?_ ?_
          · (refine yrn [(0, 0), (1, 1)] true ?_ ?_<;>(repeat' (first|(with_reducible first|exact ya1|exact ya2|exact ya3|refine jx rfl (by first|rfl|assumption|(simp only [znl,znT3];(first|done|fail)))|exact ya5|exact ya7|exact jy|exact jz|refine jA ?_|refine ya9 ?_ ?_ ?_|refine jC rfl (by first|rfl|assumption|(simp only [znl,znT3];(first|done|fail)))|refine MR.agg (MRL.cons ?_ ?_)|refine MR.fn ?_|refine MRL.cons ?_ ?_|exact MRL.nil|refine jE ?_ ?_|exact jF|exact jG|refine yb1 ?_ ?_|refine MB.row ?_|refine jI ?_ ?_|exact ya8|refine jJ rfl (by first|rfl|assumption|(simp only [znl,znT3];(first|done|fail)))|refine yb2 ?_|rfl)|(simp only [znl,znT3];(first|done|fail))|(simp only [↓reduceIte,zlk,Nat.reduceEqDiff,reduceCtorEq])|(with_reducible first|refine jJ ?_ ?_|refine ya5 ?_|refine ju ?_|refine jv ?_|refine jw ?_|refine jx ?_ (by first|rfl|assumption|(simp only [znl,znT3];(first|done|fail)))|refine jC ?_ (by first|rfl|assumption|(simp only [znl,znT3];(first|done|fail)))))))
            all_goals (first | rfl | (simp; done))
          generalize sweepM (prM m l3) = v at hSw ⊢
          repeat' (first|(with_reducible first|refine yrl (by constructor) ?_|refine jk (fun M hM=>?_)|(refine hM _ ?_;clear hM M)|refine xb3 (by decide) ?_|refine yqa (by assumption) ?_ ?_|refine yqb (by assumption) ?_ ?_)|((with_reducible refine je ?_)<;>(first|rfl|assumption|(simp only [znl,znT3];(first|done|fail))))|(with_reducible refine jf (by (simp only [↓reduceIte,zlk,Nat.reduceEqDiff,reduceCtorEq]);exact rfl) ?_)|((with_reducible first|refine jg (fun hc=>?_) (fun hc=>?_)|refine jh (fun hc=>?_) (fun hc=>?_))<;>(try simp (disch:=omega) only [zhb] at hc)<;>(try (exfalso;omega))<;>(try subst hc))|(with_reducible refine ji (by omega) ?_)|(simp (config := { maxSteps := 400000 }) only [↓jt,↓reduceIte,zvs,reduceCtorEq,seval,-List.reduceReplicate,tab,Try.results51,Try.results28,jTA])|(simp (disch:=omega) only [ziw]))
          all_goals first
            | (exfalso; omega)
            | (((try simp only [List.map_nil]); simp only [zrds]; (repeat' (first | exact rd_nil | exact Rd.refl _ _ (by first|rfl|assumption|(simp only [znl,znT3];(first|done|fail))) | (refine And.intro ?_ ?_) | (refine rd_own (by (simp only [↓reduceIte,zlk,Nat.reduceEqDiff,reduceCtorEq]); exact rfl) ?_ ?_ ?_) | rfl | assumption | (simp only [znl,znT3];(first|done|fail)) | (simp; done) | (simp; omega)))); done)
end Go.Proofs.Ytpdhdkpebbfnnaa.V
end
section
namespace Go.Proofs.Ytpdhdkpebbfnnaa.V
open Go
set_option maxRecDepth 100000
set_option maxHeartbeats 1000000
def setM (L : List Int) : List (VV × VV) := L.foldl (fun es f => mput es (.int .i64 f) (.bool true)) []
theorem mget_mput : ∀ (es : List (VV × VV)) (f g : Int), mget (mput es (.int .i64 f) (.bool true)) (.int .i64 g) = if g = f then some (.bool true) else mget es (.int .i64 g)
  | [], f, g => by
    simp only [mput,mget,keq,beq_iff_eq]
  | (k, v) :: es, f, g => by
    simp only [mput]
    by_cases h : keq (.int .i64 f) k = true
    · rw [if_pos h]
      simp only [mget]
      cases k <;> simp [keq] at h
      subst h
      simp only [keq,beq_iff_eq]
      split <;> rfl
    · rw [if_neg h]
      simp only [mget,mget_mput es f g]
      by_cases h2 : keq (.int .i64 g) k = true
      · rw [if_pos h2, if_pos h2]
        by_cases e : g = f
        · subst e; exact absurd h2 h
        · rw [if_neg e]
      · rw [if_neg h2, if_neg h2]
theorem setM_snoc (L : List Int) (f : Int) : mput (setM L) (.int .i64 f) (.bool true) = setM (L ++ [f]) := by
  simp [setM, List.foldl_append]
theorem mget_setM (f : Int) : ∀ (L : List Int) (es : List (VV × VV)), mget (L.foldl (fun es f => mput es (.int .i64 f) (.bool true)) es) (.int .i64 f) = if f ∈ L then some (.bool true) else mget es (.int .i64 f)
  | [], es => by simp
  | g :: L, es => by
    simp only [List.foldl_cons,mget_setM f L,mget_mput,List.mem_cons]
    by_cases h : f ∈ L
    · simp [h]
    · simp [h]
theorem look_setM (L : List Int) (f : Int) : (mget (setM L) (.int .i64 f)).getD (.bool false) = .bool (decide (f ∈ L)) := by
  rw [setM, mget_setM]
  by_cases h : f ∈ L <;> simp [h, mget]
theorem mput_keys : ∀ (es : List (VV × VV)) (f : Int), (es.all fun q => keyV (.int .i64) q.1) = true → ((mput es (.int .i64 f) (.bool true)).all fun q => keyV (.int .i64) q.1) = true
  | [], f, _ => by simp [mput, keyV]
  | (k, v) :: es, f, h => by
    simp only [List.all_cons,Bool.and_eq_true] at h
    simp only [mput]
    split
    · simp only [List.all_cons,Bool.and_eq_true]; exact h
    · simp only [List.all_cons,Bool.and_eq_true]; exact ⟨h.1, mput_keys es f h.2⟩
theorem keys_setM (L : List Int) : ((setM L).all fun q => keyV (.int .i64) q.1) = true := by
  have key : ∀ (L : List Int) (es : List (VV × VV)), (es.all fun q => keyV (.int .i64) q.1) = true → ((L.foldl (fun es f => mput es (.int .i64 f) (.bool true)) es).all fun q => keyV (.int .i64) q.1) = true := by
    intro L
    induction L with
    | nil => intro es h; exact h
    | cons g L ih => intro es h; exact ih _ (mput_keys es g h)
  exact key L [] rfl
theorem jV (L : List Int) : ((setM L).all fun q => nl q.1 && nl q.2) = true := by
  have hp : ∀ (es : List (VV × VV)) (f : Int), (es.all fun q => nl q.1 && nl q.2) = true → ((mput es (.int .i64 f) (.bool true)).all fun q => nl q.1 && nl q.2) = true := by
    intro es f
    induction es with
    | nil => intro _; simp [mput, nl]
    | cons x es ih =>
      obtain ⟨k, v⟩ := x
      intro h
      simp only [List.all_cons,Bool.and_eq_true] at h
      simp only [mput]
      split
      · simp only [List.all_cons,Bool.and_eq_true]; exact ⟨⟨h.1.1, by simp [nl]⟩, h.2⟩
      · simp only [List.all_cons,Bool.and_eq_true]; exact ⟨h.1, ih h.2⟩
  have key : ∀ (L : List Int) (es : List (VV × VV)), (es.all fun q => nl q.1 && nl q.2) = true → ((L.foldl (fun es f => mput es (.int .i64 f) (.bool true)) es).all fun q => nl q.1 && nl q.2) = true := by
    intro L
    induction L with
    | nil => intro es h; exact h
    | cons g L ih => intro es h; exact ih _ (hp es g h)
  exact key L [] rfl
def own (s : List Pte) (k : Nat) : List Int := ((s.take k).filter (·.is)).map (·.fr)
theorem own_succ (s : List Pte) (k : Nat) (h : k < s.length) : own s (k + 1) = own s k ++ if (s.getD k default).is = true then [(s.getD k default).fr] else [] := by
  have e : s.take (k + 1) = s.take k ++ [s.getD k default] := by
    rw [List.take_add_one, List.getElem?_eq_getElem h, List.getD_eq_getElem?_getD, List.getElem?_eq_getElem h]; rfl
  unfold own
  rw [e, List.filter_append, List.map_append]
  congr 1
  by_cases h2 : (s.getD k default).is = true
  · rw [if_pos h2, List.filter_cons_of_pos h2]; rfl
  · rw [if_neg h2, List.filter_cons_of_neg h2]; rfl
end Go.Proofs.Ytpdhdkpebbfnnaa.V
end
section
namespace Go.Proofs.Ytpdhdkpebbfnnaa.V
open Go
set_option maxRecDepth 100000
set_option maxHeartbeats 8000000
def metF (m : Mach) (k j : Nat) : List Int := ((m.pr.take k).flatMap fun p => own p.sp 16) ++ own (m.pr.getD k default).sp j
theorem metF_zero (m : Mach) : metF m 0 0 = [] := by simp [metF, own]
theorem metF_next {m : Mach} {k : Nat} (h : k < m.pr.length) : metF m (k + 1) 0 = metF m k 16 := by
  unfold metF
  rw [take_snoc m.pr k h, List.flatMap_append]
  simp [own]
theorem metF_in {m : Mach} {k j : Nat} (h : k < m.pr.length) (hj : j < (m.pr.getD k default).sp.length) (hi : ((m.pr.getD k default).sp.getD j default).is = true) : metF m k (j + 1) = metF m k j ++ [((m.pr.getD k default).sp.getD j default).fr] := by
  unfold metF
  rw [own_succ _ _ hj, if_pos hi, List.append_assoc]
theorem metF_out {m : Mach} {k j : Nat} (h : k < m.pr.length) (hj : j < (m.pr.getD k default).sp.length) (hi : ((m.pr.getD k default).sp.getD j default).is = false) : metF m k (j + 1) = metF m k j := by
  unfold metF
  rw [own_succ _ _ hj, if_neg (by rw [hi]; simp), List.append_nil]
def lastQ (l : List Pr) : Nat → Int
  | 0 => 0
  | k + 1 => (l.getD k default).pid
end Go.Proofs.Ytpdhdkpebbfnnaa.V
end
section
namespace Go.Proofs.Ytpdhdkpebbfnnaa.V
open Go
set_option maxRecDepth 100000
set_option maxHeartbeats 4000000
end Go.Proofs.Ytpdhdkpebbfnnaa.V
end
section
namespace Go.Proofs.Ytpdhdkpebbfnnaa.V
open Go
set_option maxRecDepth 100000
set_option maxHeartbeats 4000000
def fieldQ (st r0 why n code : Int) : Prop := (st = 1 ∨ st = 2 ∨ st = 3) ∧ r0 = 0 ∧ (st = 2 → 1 ≤ why ∧ why ≤ 5) ∧ (st ≠ 2 → why = 0 ∧ n = 0) ∧ (st = 3 ∨ code = 0)
def fileQ (l : List Pip) (f : Fdd) : Prop := ((f.kind = 1 ∨ f.kind = 2) ∧ f.n = 0 ∧ f.pos = 0) ∨ (f.kind = 3 ∧ 1 ≤ f.n ∧ f.n ≤ 64 ∧ 0 ≤ f.pos ∧ f.pos ≤ 8960) ∨ ((f.kind = 4 ∨ f.kind = 5) ∧ f.pos = 0 ∧ 0 ≤ placeI l f.n)
end Go.Proofs.Ytpdhdkpebbfnnaa.V
end
section
namespace Go.Proofs.Ytpdhdkpebbfnnaa.V
open Go
set_option maxRecDepth 100000
set_option maxHeartbeats 8000000
def pageS (m : Mach) (k j : Nat) : Prop :=
  if ((m.pr.getD k default).sp.getD j default).is = true then (m.pr.getD k default).st ≠ 3 ∧ 0 ≤ ((m.pr.getD k default).sp.getD j default).fr ∧ ((m.pr.getD k default).sp.getD j default).fr < m.fr.length ∧ ((m.pr.getD k default).sp.getD j default).fr ∉ metF m k j
  else ((m.pr.getD k default).sp.getD j default).wr = false ∧ ((m.pr.getD k default).sp.getD j default).fr = 0
def fdS (m : Mach) (k j : Nat) : Prop :=
  (((m.pr.getD k default).fds.getD j default).kind = 0 ∧ ((m.pr.getD k default).fds.getD j default).n = 0 ∧ ((m.pr.getD k default).fds.getD j default).pos = 0) ∨ ((m.pr.getD k default).st ≠ 3 ∧ fileQ m.pipes ((m.pr.getD k default).fds.getD j default))
def parS (m : Mach) (p : Pr) : Prop := livesB m.pr p.par = true ∨ (p.par = 0 ∧ livesP p = true)
structure okS (m : Mach) (k : Nat) : Prop where
  inc : lastQ m.pr k < (m.pr.getD k default).pid
  next : (m.pr.getD k default).pid < m.next
  fl : fieldQ (m.pr.getD k default).st ((m.pr.getD k default).rs.getD 0 default) (m.pr.getD k default).why (m.pr.getD k default).n (m.pr.getD k default).code
  par : parS m (m.pr.getD k default)
  pg : ∀ j, j < 16 → pageS m k j
  fd : ∀ j, j < 8 → fdS m k j
theorem metF_count {m : Mach} {k j : Nat} (hR : ∀ p ∈ m.pr, PrR p) (h : k < m.pr.length) (hj : j ≤ 16) (hp : ∀ i, i < j → pageS m k i) (h0 : ∀ f, (metF m k 0).count f ≤ 1) : ∀ f, (metF m k j).count f ≤ 1 := by
  induction j with
  | zero => exact h0
  | succ j ih =>
    intro f
    have ih := ih (by omega) (fun i hi => hp i (by omega)) f
    have hl := (hR _ (getD_mem' h)).sp
    have hpj := hp j (by omega)
    unfold pageS at hpj
    cases hi : ((m.pr.getD k default).sp.getD j default).is with
    | true =>
      rw [if_pos hi] at hpj
      rw [metF_in h (by omega) hi, List.count_append, List.count_singleton]
      split
      · rename_i e
        have e : ((m.pr.getD k default).sp.getD j default).fr = f := by simpa using e
        rw [← e, List.count_eq_zero.2 hpj.2.2.2]
        omega
      · omega
    | false => rw [metF_out h (by omega) hi]; exact ih
theorem metF_all {m : Mach} (hR : ∀ p ∈ m.pr, PrR p) (hq : ∀ k, k < m.pr.length → ∀ j, j < 16 → pageS m k j) : ∀ k, k ≤ m.pr.length → ∀ f, (metF m k 0).count f ≤ 1 := by
  intro k
  induction k with
  | zero => intro _ f; rw [metF_zero]; simp
  | succ k ih =>
    intro hk f
    rw [metF_next (by omega)]
    exact metF_count hR (by omega) (by omega) (fun i hi => hq k (by omega) i hi) (ih (by omega)) f
theorem usersS_own (f : Int) (s : List Pte) : ∀ k, k ≤ s.length → usersS f (s.take k) = (own s k).count f := by
  intro k
  induction k with
  | zero => intro _; simp [usersS, own]
  | succ k ih =>
    intro hk
    rw [take_snoc s k (by omega), usersS_snoc, ih (by omega), own_succ s k (by omega), List.count_append]
    congr 1
    cases hi : (s.getD k default).is with
    | true =>
      rw [if_pos rfl, List.count_singleton]
      by_cases e : (s.getD k default).fr = f
      · rw [if_pos ⟨rfl, e⟩, if_pos (by simpa using e)]
      · rw [if_neg (fun h => e h.2), if_neg (by simpa using e)]
    | false => rw [if_neg (by simp), if_neg (by simp)]; rfl
theorem usersN_metF {m : Mach} (hR : ∀ p ∈ m.pr, PrR p) (f : Int) : ∀ k, k ≤ m.pr.length → usersN (m.pr.take k) f = (metF m k 0).count f := by
  intro k
  induction k with
  | zero => intro _; rw [metF_zero]; simp [usersN]
  | succ k ih =>
    intro hk
    have hl := (hR _ (getD_mem' (show k < m.pr.length by omega))).sp
    have e := usersS_own f (m.pr.getD k default).sp 16 (by omega)
    rw [List.take_of_length_le (by omega)] at e
    rw [take_snoc m.pr k (by omega), usersN_snoc, ih (by omega), e, metF_next (by omega)]
    show _ = (List.flatMap _ _ ++ own _ 16).count f
    rw [List.count_append]
    congr 1
    unfold metF
    rw [show own (m.pr.getD k default).sp 0 = [] from rfl, List.append_nil]
end Go.Proofs.Ytpdhdkpebbfnnaa.V
end
section
namespace Go.Proofs.Ytpdhdkpebbfnnaa.V
open Go
set_option maxRecDepth 100000
set_option maxHeartbeats 1000000
end Go.Proofs.Ytpdhdkpebbfnnaa.V
end
section
namespace Go.Proofs.Ytpdhdkpebbfnnaa.V
open Go
set_option maxRecDepth 100000
set_option maxHeartbeats 1000000
end Go.Proofs.Ytpdhdkpebbfnnaa.V
end
section
namespace Go.Proofs.Ytpdhdkpebbfnnaa.V
open Go
set_option maxRecDepth 100000
set_option maxHeartbeats 1000000
end Go.Proofs.Ytpdhdkpebbfnnaa.V
end
section
namespace Go.Proofs.Ytpdhdkpebbfnnaa.V
open Go
set_option maxRecDepth 100000
set_option maxHeartbeats 4000000
def freeK (l : List Pr) (k : Nat) : List Nat := (List.range k).filter fun i => decide (usersN l (i : Nat) = 0)
theorem freeK_succ (l : List Pr) (k : Nat) : freeK l (k + 1) = freeK l k ++ if usersN l (k : Nat) = 0 then [k] else [] := by
  unfold freeK
  rw [List.range_succ, List.filter_append]
  congr 1
  by_cases h : usersN l (k : Nat) = 0
  · rw [if_pos h, List.filter_cons_of_pos (by simpa using h)]; rfl
  · rw [if_neg h, List.filter_cons_of_neg (by simpa using h)]; rfl
theorem freeK_le (l : List Pr) (k : Nat) : (freeK l k).length ≤ k := by
  have := List.length_filter_le (fun i : Nat => decide (usersN l (i : Nat) = 0)) (List.range k)
  rw [List.length_range] at this
  exact this
abbrev encNats (l : List Nat) : List VV := l.map fun i => VV.int .i64 ((i : Nat) : Int)
theorem nls_nats (l : List Nat) : nls (encNats l) = true := nls_map _ (fun _ => rfl) l
abbrev freeV (m : Mach) : VV := .dat .cell (encNats (freeK m.pr m.fr.length))
theorem usersN_met {m : Mach} (hR : ∀ p ∈ m.pr, PrR p) (f : Int) : f ∈ metF m m.pr.length 0 ↔ ¬usersN m.pr f = 0 := by
  have := usersN_metF hR f m.pr.length (Nat.le_refl _)
  rw [List.take_length] at this
  rw [this, List.count_eq_zero]
  simp
end Go.Proofs.Ytpdhdkpebbfnnaa.V
end
section
namespace Go.Proofs.Ytpdhdkpebbfnnaa.V
open Go Go.RowKit

section
variable {P : Program} {N : NN} {B : Nat} {ρ0 : Names} {w0 : World} {ops : Array Oper} {k nx : Nat} {js : List Nat} {hp : (Nat → Bool) → Heap} {perm : List Nat} {tm0 tmF : Nat → VV} {env : Nat → Nat → VV} {K : VS → Prop} {Q : Exit → Act → World → Prop}
end
section
variable {P : Program} {ops : Array Oper} {k : Nat} {perm js : List Nat} {K : VS → Prop}
end
section
variable {P : Program} {n0 : Nat} {K : VX → VS → Prop}
end
end Go.Proofs.Ytpdhdkpebbfnnaa.V
end
section
namespace Go.Proofs.Ytpdhdkpebbfnnaa.V
open Go
set_option maxRecDepth 100000
set_option maxHeartbeats 8000000
def frK (fr : Frames) (F : List Nat) (l : List Lay) : Nat → Frames
  | 0 => fr
  | k + 1 => (frK fr F l k).set (F.getD k default) (l.getD k default).d
def spK (s : List Pte) (F : List Nat) (l : List Lay) : Nat → List Pte
  | 0 => s
  | k + 1 => (spK s F l k).set (l.getD k default).at_.toNat ⟨true, (l.getD k default).w, ((F.getD k default : Nat) : Int)⟩
theorem frK_len (fr : Frames) (F : List Nat) (l : List Lay) : ∀ k, (frK fr F l k).length = fr.length
  | 0 => rfl
  | k + 1 => by rw [frK, List.length_set, frK_len fr F l k]
theorem spK_len (s : List Pte) (F : List Nat) (l : List Lay) : ∀ k, (spK s F l k).length = s.length
  | 0 => rfl
  | k + 1 => by rw [spK, List.length_set, spK_len s F l k]
def frM (m : Mach) (f : Frames) : Mach := { m with fr := f }
def spP (p : Pr) (s : List Pte) : Pr := { p with sp := s }
abbrev zPr : VV := .agg [.int .i64 0, .int .i64 0, .int .i64 0, .agg [.agg (List.replicate 16 (.int .u32 0)), .int .u32 0], .agg (List.replicate 16 (.agg [.bool false, .bool false, .int .i64 0])), .agg (List.replicate 8 (.agg [.int .i64 0, .int .i64 0, .int .i64 0])), .bool false, .int .u32 0, .int .i64 0, .int .u64 0]
def LayR (l : List Lay) : Prop := l.length ≤ 16 ∧ ∀ x ∈ l, 0 ≤ x.at_ ∧ x.at_ ≤ 15
def tookM (m : Mach) (l : List Lay) : Mach := frM m (frK m.fr (freeK m.pr m.fr.length) l l.length)
def tookP (m : Mach) (p : Pr) (l : List Lay) : Pr := spP p (spK p.sp (freeK m.pr m.fr.length) l l.length)
theorem nl_encM (m : Mach) : nl (encM m) = true := by
  simp only [encM,nl,nls,nls_mapStr,jP,jQ,jO,Bool.and_self]
theorem pteS (s : List Pte) (hs : s.length = 16) (k : Nat) (hk : k < 16) : ∃ x, (s.map encPte)[k]? = some x := ⟨_, by rw [List.getElem?_map, List.getElem?_eq_getElem (by omega)]; rfl⟩
end Go.Proofs.Ytpdhdkpebbfnnaa.V
end
section
namespace Go.Proofs.Ytpdhdkpebbfnnaa.V
open Go
set_option maxRecDepth 100000
set_option maxHeartbeats 8000000
def nilM : Mach := ⟨0, 0, 0, 0, [], [], 0, [], [], 0, [], false, 0, ⟨[], [], 0⟩, []⟩
def zSpace : List Pte := List.replicate 16 ⟨false, false, 0⟩
def newPr (m : Mach) (e : Exe) (par : Int) (i o : Fdd) : Pr := ⟨m.next, par, 1, (List.replicate 16 0).set 15 2048, e.en, zSpace, i :: o :: List.replicate 6 ⟨0, 0, 0⟩, false, 0, 0, 0⟩
def spawnM (m : Mach) (e : Exe) (par : Int) (i o : Fdd) : Mach := { tookM m (layE e) with pr := m.pr ++ [tookP m (newPr m e par i o) (layE e)], next := m.next + 1 }
def spawnE (m : Mach) (e : Exe) : Int := if okE e then (if 8 ≤ m.pr.length then 6 else if (freeK m.pr m.fr.length).length < (layE e).length then 10 else 0) else 1
def spawnVV (m : Mach) (e : Exe) (par : Int) (i o : Fdd) : VV :=
  if spawnE m e = 0 then .tup [encM (spawnM m e par i o), .int .i64 m.next, .int .i64 0] else .tup [encM nilM, .int .i64 0, .int .i64 (spawnE m e)]
theorem layR_E (e : Exe) (h : okE e) : LayR (layE e) := by
  have h1 := layTo_len e h
  refine ⟨by rw [layE, List.length_append, List.length_singleton]; omega, fun x hx => ?_⟩
  rw [layE, List.mem_append, List.mem_singleton] at hx
  rcases hx with hx | rfl
  · obtain ⟨k, hk, rfl⟩ := List.mem_iff_getElem.1 hx
    rw [layTo_at e k hk]
    omega
  · exact ⟨by decide, by decide⟩
theorem newPr_R (m : Mach) (hm : MFit 20000 m) (e : Exe) (he : ExeR e) (par : Int) (hp : i64R par) (i o : Fdd) (hi : fdR i) (ho : fdR o) : PrR (newPr m e par i o) := by
  have z : i64R 0 := by unfold i64R; omega
  have zu : u32R 0 := by unfold u32R; omega
  refine ⟨hm.next, hp, by show i64R 1; unfold i64R; omega, by simp [newPr], fun x hx => ?_, he.en, by simp [newPr, zSpace], fun x hx => ?_, by simp [newPr], fun x hx => ?_, zu, z, by show u64R 0; unfold u64R; omega⟩
  · rcases List.mem_or_eq_of_mem_set hx with hx | rfl
    · rw [List.eq_of_mem_replicate hx]; exact zu
    · unfold u32R; omega
  · rw [List.eq_of_mem_replicate hx]; exact z
  · simp only [newPr,List.mem_cons] at hx
    rcases hx with rfl | rfl | hx
    · exact hi
    · exact ho
    · rw [List.eq_of_mem_replicate hx]; exact ⟨z, z, z⟩
theorem zRs : Has (.arr 16 .cell) (.agg (List.replicate 16 (.int .u32 0))) := hasRs (List.replicate 16 0) rfl
theorem hasFd1 (f : Fdd) : Has (.st [.cell, .cell, .cell]) (encFd f) := by simp [encFd, Has, HasL, VV.leaf]
theorem took_fr {m : Mach} {F : List Nat} (hF : F = freeK m.pr m.fr.length) : ∀ i ∈ F, i < m.fr.length := fun i hi => by
  rw [hF] at hi
  unfold freeK at hi
  exact List.mem_range.1 (List.mem_filter.1 hi).1
theorem spK_fr {s : List Pte} {F : List Nat} {l : List Lay} (hs : ∀ x ∈ s, i64R x.fr) (hF : ∀ i ∈ F, i ≤ 20000) : ∀ k, ∀ x ∈ spK s F l k, i64R x.fr
  | 0 => hs
  | k + 1 => fun x hx => by
    rw [spK] at hx
    rcases List.mem_or_eq_of_mem_set hx with hx | rfl
    · exact spK_fr hs hF k x hx
    · have : F.getD k default ≤ 20000 := by
        by_cases h : k < F.length
        · exact hF _ (getD_mem' h)
        · rw [List.getD_eq_getElem?_getD, List.getElem?_eq_none (by omega)]; exact Nat.zero_le _
      show i64R ((F.getD k default : Nat) : Int)
      unfold i64R; omega
theorem tookP_R (m : Mach) (hm : MFit 20000 m) {p : Pr} (hp : PrR p) {l : List Lay} (hl : LayR l) : PrR (tookP m p l) := by
  refine ⟨hp.pid, hp.par, hp.st, hp.rs, hp.rsR, hp.pc, ?_, ?_, hp.fds, hp.fdsR, hp.code, hp.why, hp.n⟩
  · show (spK p.sp _ l _).length = 16
    rw [spK_len]; exact hp.sp
  · exact spK_fr hp.spR (fun i hi => by have := took_fr rfl i hi; have := hm.fr; omega) _
end Go.Proofs.Ytpdhdkpebbfnnaa.V
end
section
namespace Go.Proofs.Ytpdhdkpebbfnnaa.V
open Go Go.RowKit
def SpecN (P : Program) (f : FuncId) (ds : List VV) (r : VV) : Prop :=
  ∀ (U : Nat → Prop) (w : World) (xs : List Value), VRA (.bare U) w ds xs → Calls P f xs.toArray w (fun e w' => ∃ x, e = .returned x ∧ Below w.heap.size w w' ∧ VR (.bare fun b => w.heap.size ≤ b) w' r x)
def NewA (H : Heap) (v r : VV) : Prop := (v = .sl none 0 ∧ ∃ e, r = .dat e []) ∨ ∃ m k e els n, v = .sl (some (m, [], 0)) n ∧ H m = some (.row (.arr k e) (.agg els)) ∧ n ≤ els.length ∧ pls (els.take n) = true ∧ r = .dat e (els.take n)
theorem newA_own {H : Heap} {m k : Nat} {e : Sh} {els els' : List VV} {n : Nat} (h : H m = some (.row (.arr k e) (.agg els))) (hn : n = els.length) (he : els = els') (hp : pls els' = true) : NewA H (.sl (some (m, [], 0)) n) (.dat e els') := by
  subst he hn
  exact .inr ⟨m, k, e, els, els.length, rfl, h, Nat.le_refl _, by rw [List.take_length]; exact hp, by rw [List.take_length]⟩
theorem NewA.value {Z : Nat → Nat → Prop} [Zone Z] {B n0 : Nat} {ρ : Names} {w : World} {H : Heap} (hh : HR Z B ρ H n0 w) {v r : VV} {x : Value} (h : NewA H v r) (hx : VR ρ w v x) : VR (.bare fun b => B ≤ b) w r x := by
  rcases h with ⟨rfl, e, rfl⟩ | ⟨m, k, e, els, n, rfl, hm, hn, hp, rfl⟩
  · have hc : C1 ρ w (.sl none 0) [x] := hx
    simp only [C1] at hc
    show C1 _ w (.dat e []) [x]
    simp only [C1]
    exact ⟨none, 0, hc.2, Nat.le_refl _, fun h => absurd rfl h⟩
  · have hc : C1 ρ w (.sl (some (m, [], 0)) n) [x] := hx
    show C1 _ w (.dat e (els.take n)) [x]
    simp only [C1] at hc ⊢
    have hlen : (els.take n).length = n := by rw [List.length_take]; omega
    rw [hlen]
    rcases hc with ⟨rfl, A, hc⟩ | ⟨l, cap, e', j', hl, hc, hcap, hat, _⟩
    · exact ⟨A, 0, hc, Nat.le_refl _, fun h => absurd (by simp) h⟩
    · refine ⟨_, cap, hc, hcap, fun _ => ?_⟩
      have hrow := hh.row m _ _ l hm hl
      obtain ⟨ds, q1, q2, q3⟩ := hrow.cells
      have hhas := hrow.has
      simp only [Has] at hhas
      simp only [C1] at q1
      obtain ⟨pr, md, ps, rfl, r1, r2, r3⟩ := CR.part q1 hhas.2 0 n (by omega) hn
      simp only [List.drop_zero,Nat.sub_zero] at r3
      refine ⟨l.block, _, md, rfl, CR.plain _ _ hp r3, fun v hv => hhas.2 v (List.mem_of_mem_take hv), ?_, ⟨(hh.lt m l hl).1, fun n l hl => by cases hl⟩, (hh.lt m l hl).2⟩
      rw [hrow.sh]
      simp only [List.nil_append,Sh.off,Nat.add_zero]
      rw [← r1]
      exact range_part q3
section
variable {P : Program}
theorem specN_ok {fn : Func} {f : FuncId} (hf : P.funcs[f]? = some fn) {c : Code} {rs : List ResultVar} (hb : fn.body = some c) (hr : fn.results.toList = rs) (hok : codeOk fn.ntmps c = true) {ds : List VV} {r : VV} {k : Nat} (hl : ds.length = k) (hlen : k ≤ fn.ntmps)
    (h : Ok P 0 c ⟨argsF 0 ds (fun _ => .any), fun _ => none, 0⟩ (fin P rs fun v H _ => NewA H v r)) : SpecN P f ds r := by
  intro U w xs ha
  have hh : HR ZT w.heap.size (.bare U) (fun _ => none) 0 w := ⟨Nat.le_refl _, fun _ _ => rfl, fun m l h => (by cases h), fun m m' l l' h => (by cases h), fun m s v l h => (by cases h), fun m es l h => (by cases h)⟩
  refine (ok_body hf hb hr hok hl hlen h w.heap.size (.bare U) w xs hh ha).mono fun e w' ⟨x, he, v, H', n', ρ', hk, hv, hh', hext, hb⟩ => ⟨x, he, hb, ?_⟩
  exact hk.value hh' hv
theorem call_new {f : FuncId} {args ds : List VV} {r : VV} (h : SpecN P f ds r) {H : Heap} {n : Nat} {K : VV → Heap → Nat → Prop} (hd : RdL H args ds) (ht : args.all notTup = true) (hk : K r H n) : vcall P f args H n K := by
  intro B ρ w xs hh ha
  refine (h _ w xs (VRA.data hh args ds xs hd ht ha)).mono fun e w' ⟨x, he, hb, hv⟩ => ⟨x, he, ?_⟩
  obtain ⟨h1, h2⟩ := hh.wide hb.size hb.block
  refine ⟨r, H, n, _, hk, VR.mono (fun m l hm => by cases hm) (fun b hlt hu => ?_) hv, h1, h2, hb.mono hh.base⟩
  obtain ⟨h3, _⟩ := hu
  have h3 : w.heap.size ≤ b := h3
  exact ⟨.inr h3, fun m l hm e => by have := (hh.lt m l hm).2; omega⟩
end
end Go.Proofs.Ytpdhdkpebbfnnaa.V
end
section
namespace Go.Proofs.Ytpdhdkpebbfnnaa.V
open Go
set_option maxRecDepth 100000
def znTE := And.intro @jO <| And.intro @jP <| And.intro @jQ <| And.intro @jR <| And.intro @jS <| And.intro @jT <| And.intro @jU <| And.intro @jV <| And.intro @nls_nats <| True.intro
set_option maxHeartbeats 4000000
theorem pls_nats (l : List Nat) : pls (encNats l) = true := by
  induction l with
  | nil => rfl
  | cons x l ih => simp only [encNats,List.map_cons,pls,pl,Bool.true_and]; exact ih
theorem sfreeN_spec (m : Mach) (hm : MFit 20000 m) : SpecN Try.prog 20 [encM m] (freeV m) := by
  have hl := hm.fr
  have hpl := hm.pr
  have hpR := hm.prR
  refine specN_ok Try.func20 rfl rfl (by kernel_rfl) (k := 1) rfl (by decide) ?_
  repeat' (first|(with_reducible first|refine yrl (by constructor) ?_|refine jk (fun M hM=>?_)|(refine hM _ ?_;clear hM M)|refine xb3 (by decide) ?_|refine yqa (by assumption) ?_ ?_|refine yqb (by assumption) ?_ ?_)|((with_reducible refine je ?_)<;>(first|rfl|assumption|(simp only [znl,znTE];(first|done|fail))))|(with_reducible refine jf (by (simp only [↓reduceIte,zlk,Nat.reduceEqDiff,reduceCtorEq]);exact rfl) ?_)|((with_reducible first|refine jg (fun hc=>?_) (fun hc=>?_)|refine jh (fun hc=>?_) (fun hc=>?_))<;>(try simp (disch:=omega) only [zhb] at hc)<;>(try (exfalso;omega))<;>(try subst hc))|(with_reducible refine ji (by omega) ?_)|(simp (config := { maxSteps := 400000 }) only [↓jt,↓reduceIte,zvs,reduceCtorEq,seval,-List.reduceReplicate,tab,Try.results20,jTA])|(simp (disch:=omega) only [ziw]))
  refine ok_loop (fun k : Nat => ⟨slots [(1, .ptr 0 []), (2, .sl none 0), (3, .map 1), (12, encPrs m.pr), (13, .int .i64 m.pr.length), (14, .int .i64 k)], rows [(0, .row machSh (encM m)), (1, .map (setM (metF m k 0)))], 2⟩) (fun k => k ≤ m.pr.length) (fun k => m.pr.length - k) 0 ?_ (Nat.zero_le _) (fun k hk => ?_)
  · (refine yrn [(0, 0), (1, 1)] false ?_ ?_<;>(repeat' (first|(with_reducible first|exact ya1|exact ya2|exact ya3|refine jx rfl (by first|rfl|assumption|(simp only [znl,znTE];(first|done|fail)))|exact ya5|exact ya7|exact jy|exact jz|refine jA ?_|refine ya9 ?_ ?_ ?_|refine jC rfl (by first|rfl|assumption|(simp only [znl,znTE];(first|done|fail)))|refine MR.agg (MRL.cons ?_ ?_)|refine MR.fn ?_|refine MRL.cons ?_ ?_|exact MRL.nil|refine jE ?_ ?_|exact jF|exact jG|refine yb1 ?_ ?_|refine MB.row ?_|refine jI ?_ ?_|exact ya8|refine jJ rfl (by first|rfl|assumption|(simp only [znl,znTE];(first|done|fail)))|refine yb2 ?_|rfl)|(simp only [znl,znTE];(first|done|fail))|(simp only [↓reduceIte,zlk,Nat.reduceEqDiff,reduceCtorEq])|(with_reducible first|refine jJ ?_ ?_|refine ya5 ?_|refine ju ?_|refine jv ?_|refine jw ?_|refine jx ?_ (by first|rfl|assumption|(simp only [znl,znTE];(first|done|fail)))|refine jC ?_ (by first|rfl|assumption|(simp only [znl,znTE];(first|done|fail)))))))
    all_goals (first | rfl | (rw [metF_zero]; rfl))
  by_cases hlt : k < m.pr.length
  · have hb := hpR _ (getD_mem' hlt)
    obtain ⟨hS1, hS2, hS3⟩ := pr3 hb
    have hsl := hb.sp
    have hsR := hb.spR
    repeat' (first|(with_reducible first|refine yrl (by constructor) ?_|refine jk (fun M hM=>?_)|(refine hM _ ?_;clear hM M)|refine xb3 (by decide) ?_|refine yqa (by assumption) ?_ ?_|refine yqb (by assumption) ?_ ?_)|((with_reducible refine je ?_)<;>(first|rfl|assumption|(simp only [znl,znTE];(first|done|fail))))|(with_reducible refine jf (by (simp only [↓reduceIte,zlk,Nat.reduceEqDiff,reduceCtorEq]);exact rfl) ?_)|((with_reducible first|refine jg (fun hc=>?_) (fun hc=>?_)|refine jh (fun hc=>?_) (fun hc=>?_))<;>(try simp (disch:=omega) only [zhb] at hc)<;>(try (exfalso;omega))<;>(try subst hc))|(with_reducible refine ji (by omega) ?_)|(simp (config := { maxSteps := 400000 }) only [↓jt,↓reduceIte,zvs,reduceCtorEq,seval,-List.reduceReplicate,tab,hS1,hS2,hS3,encPr,Try.results20,jTA])|(simp (disch:=omega) only [ziw]))
    refine ok_loop (fun j : Nat => ⟨slots [(1, .ptr 0 []), (2, .sl none 0), (3, .map 1), (12, encPrs m.pr), (13, .int .i64 m.pr.length), (14, .int .i64 k), (19, .agg ((m.pr.getD k default).sp.map encPte)), (20, .int .i64 j)], rows [(0, .row machSh (encM m)), (1, .map (setM (metF m k j)))], 2⟩) (fun j => j ≤ 16) (fun j => 16 - j) 0 ?_ (Nat.zero_le _) (fun j hj => ?_)
    · (refine yrn [(0, 0), (1, 1)] false ?_ ?_<;>(repeat' (first|(with_reducible first|exact ya1|exact ya2|exact ya3|refine jx rfl (by first|rfl|assumption|(simp only [znl,znTE];(first|done|fail)))|exact ya5|exact ya7|exact jy|exact jz|refine jA ?_|refine ya9 ?_ ?_ ?_|refine jC rfl (by first|rfl|assumption|(simp only [znl,znTE];(first|done|fail)))|refine MR.agg (MRL.cons ?_ ?_)|refine MR.fn ?_|refine MRL.cons ?_ ?_|exact MRL.nil|refine jE ?_ ?_|exact jF|exact jG|refine yb1 ?_ ?_|refine MB.row ?_|refine jI ?_ ?_|exact ya8|refine jJ rfl (by first|rfl|assumption|(simp only [znl,znTE];(first|done|fail)))|refine yb2 ?_|rfl)|(simp only [znl,znTE];(first|done|fail))|(simp only [↓reduceIte,zlk,Nat.reduceEqDiff,reduceCtorEq])|(with_reducible first|refine jJ ?_ ?_|refine ya5 ?_|refine ju ?_|refine jv ?_|refine jw ?_|refine jx ?_ (by first|rfl|assumption|(simp only [znl,znTE];(first|done|fail)))|refine jC ?_ (by first|rfl|assumption|(simp only [znl,znTE];(first|done|fail)))))))
      all_goals (first | rfl)
    by_cases hjlt : j < 16
    · have hpb := hsR _ (getD_mem' (show j < (m.pr.getD k default).sp.length by omega))
      cases hi : ((m.pr.getD k default).sp.getD j default).is with
      | true =>
        have e := metF_in hlt (show j < (m.pr.getD k default).sp.length by omega) hi
        repeat' (first|(with_reducible first|refine yrl (by constructor) ?_|refine jk (fun M hM=>?_)|(refine hM _ ?_;clear hM M)|refine xb3 (by decide) ?_|refine yqa (by assumption) ?_ ?_|refine yqb (by assumption) ?_ ?_)|((with_reducible refine je ?_)<;>(first|rfl|assumption|(simp only [znl,znTE];(first|done|fail))))|(with_reducible refine jf (by (simp only [↓reduceIte,zlk,Nat.reduceEqDiff,reduceCtorEq]);exact rfl) ?_)|((with_reducible first|refine jg (fun hc=>?_) (fun hc=>?_)|refine jh (fun hc=>?_) (fun hc=>?_))<;>(try simp (disch:=omega) only [zhb] at hc)<;>(try (exfalso;omega))<;>(try subst hc))|(with_reducible refine ji (by omega) ?_)|(simp (config := { maxSteps := 400000 }) only [↓jt,↓reduceIte,zvs,reduceCtorEq,seval,-List.reduceReplicate,tab,hS1,hS2,hS3,encPte,hi,keys_setM,setM_snoc,Try.results20,jTA])|(simp (disch:=omega) only [ziw]))
        all_goals first
          | (exfalso; omega)
          | (refine xl1 (j + 1) ?_ (by show j + 1 ≤ 16; omega) (by show 16 - (j + 1) < 16 - j; omega); (refine yrn [(0, 0), (1, 1)] false ?_ ?_<;>(repeat' (first|(with_reducible first|exact ya1|exact ya2|exact ya3|refine jx rfl (by first|rfl|assumption|(simp only [znl,znTE];(first|done|fail)))|exact ya5|exact ya7|exact jy|exact jz|refine jA ?_|refine ya9 ?_ ?_ ?_|refine jC rfl (by first|rfl|assumption|(simp only [znl,znTE];(first|done|fail)))|refine MR.agg (MRL.cons ?_ ?_)|refine MR.fn ?_|refine MRL.cons ?_ ?_|exact MRL.nil|refine jE ?_ ?_|exact jF|exact jG|refine yb1 ?_ ?_|refine MB.row ?_|refine jI ?_ ?_|exact ya8|refine jJ rfl (by first|rfl|assumption|(simp only [znl,znTE];(first|done|fail)))|refine yb2 ?_|rfl)|(simp only [znl,znTE];(first|done|fail))|(simp only [↓reduceIte,zlk,Nat.reduceEqDiff,reduceCtorEq])|(with_reducible first|refine jJ ?_ ?_|refine ya5 ?_|refine ju ?_|refine jv ?_|refine jw ?_|refine jx ?_ (by first|rfl|assumption|(simp only [znl,znTE];(first|done|fail)))|refine jC ?_ (by first|rfl|assumption|(simp only [znl,znTE];(first|done|fail))))))); all_goals (first | rfl | (rw [e]; done)))
      | false =>
        have e := metF_out hlt (show j < (m.pr.getD k default).sp.length by omega) hi
        repeat' (first|(with_reducible first|refine yrl (by constructor) ?_|refine jk (fun M hM=>?_)|(refine hM _ ?_;clear hM M)|refine xb3 (by decide) ?_|refine yqa (by assumption) ?_ ?_|refine yqb (by assumption) ?_ ?_)|((with_reducible refine je ?_)<;>(first|rfl|assumption|(simp only [znl,znTE];(first|done|fail))))|(with_reducible refine jf (by (simp only [↓reduceIte,zlk,Nat.reduceEqDiff,reduceCtorEq]);exact rfl) ?_)|((with_reducible first|refine jg (fun hc=>?_) (fun hc=>?_)|refine jh (fun hc=>?_) (fun hc=>?_))<;>(try simp (disch:=omega) only [zhb] at hc)<;>(try (exfalso;omega))<;>(try subst hc))|(with_reducible refine ji (by omega) ?_)|(simp (config := { maxSteps := 400000 }) only [↓jt,↓reduceIte,zvs,reduceCtorEq,seval,-List.reduceReplicate,tab,hS1,hS2,hS3,encPte,hi,keys_setM,setM_snoc,Try.results20,jTA])|(simp (disch:=omega) only [ziw]))
        all_goals first
          | (exfalso; omega)
          | (refine xl1 (j + 1) ?_ (by show j + 1 ≤ 16; omega) (by show 16 - (j + 1) < 16 - j; omega); (refine yrn [(0, 0), (1, 1)] false ?_ ?_<;>(repeat' (first|(with_reducible first|exact ya1|exact ya2|exact ya3|refine jx rfl (by first|rfl|assumption|(simp only [znl,znTE];(first|done|fail)))|exact ya5|exact ya7|exact jy|exact jz|refine jA ?_|refine ya9 ?_ ?_ ?_|refine jC rfl (by first|rfl|assumption|(simp only [znl,znTE];(first|done|fail)))|refine MR.agg (MRL.cons ?_ ?_)|refine MR.fn ?_|refine MRL.cons ?_ ?_|exact MRL.nil|refine jE ?_ ?_|exact jF|exact jG|refine yb1 ?_ ?_|refine MB.row ?_|refine jI ?_ ?_|exact ya8|refine jJ rfl (by first|rfl|assumption|(simp only [znl,znTE];(first|done|fail)))|refine yb2 ?_|rfl)|(simp only [znl,znTE];(first|done|fail))|(simp only [↓reduceIte,zlk,Nat.reduceEqDiff,reduceCtorEq])|(with_reducible first|refine jJ ?_ ?_|refine ya5 ?_|refine ju ?_|refine jv ?_|refine jw ?_|refine jx ?_ (by first|rfl|assumption|(simp only [znl,znTE];(first|done|fail)))|refine jC ?_ (by first|rfl|assumption|(simp only [znl,znTE];(first|done|fail))))))); all_goals (first | rfl | (rw [e]; done)))
    · obtain rfl : j = 16 := by omega
      have e := metF_next hlt
      repeat' (first|(with_reducible first|refine yrl (by constructor) ?_|refine jk (fun M hM=>?_)|(refine hM _ ?_;clear hM M)|refine xb3 (by decide) ?_|refine yqa (by assumption) ?_ ?_|refine yqb (by assumption) ?_ ?_)|((with_reducible refine je ?_)<;>(first|rfl|assumption|(simp only [znl,znTE];(first|done|fail))))|(with_reducible refine jf (by (simp only [↓reduceIte,zlk,Nat.reduceEqDiff,reduceCtorEq]);exact rfl) ?_)|((with_reducible first|refine jg (fun hc=>?_) (fun hc=>?_)|refine jh (fun hc=>?_) (fun hc=>?_))<;>(try simp (disch:=omega) only [zhb] at hc)<;>(try (exfalso;omega))<;>(try subst hc))|(with_reducible refine ji (by omega) ?_)|(simp (config := { maxSteps := 400000 }) only [↓jt,↓reduceIte,zvs,reduceCtorEq,seval,-List.reduceReplicate,tab,hS1,hS2,hS3,Try.results20,jTA])|(simp (disch:=omega) only [ziw]))
      all_goals first
        | (exfalso; omega)
        | (refine xl1 (k + 1) ?_ (by show k + 1 ≤ m.pr.length; omega) (by show m.pr.length - (k + 1) < m.pr.length - k; omega); (refine yrn [(0, 0), (1, 1)] false ?_ ?_<;>(repeat' (first|(with_reducible first|exact ya1|exact ya2|exact ya3|refine jx rfl (by first|rfl|assumption|(simp only [znl,znTE];(first|done|fail)))|exact ya5|exact ya7|exact jy|exact jz|refine jA ?_|refine ya9 ?_ ?_ ?_|refine jC rfl (by first|rfl|assumption|(simp only [znl,znTE];(first|done|fail)))|refine MR.agg (MRL.cons ?_ ?_)|refine MR.fn ?_|refine MRL.cons ?_ ?_|exact MRL.nil|refine jE ?_ ?_|exact jF|exact jG|refine yb1 ?_ ?_|refine MB.row ?_|refine jI ?_ ?_|exact ya8|refine jJ rfl (by first|rfl|assumption|(simp only [znl,znTE];(first|done|fail)))|refine yb2 ?_|rfl)|(simp only [znl,znTE];(first|done|fail))|(simp only [↓reduceIte,zlk,Nat.reduceEqDiff,reduceCtorEq])|(with_reducible first|refine jJ ?_ ?_|refine ya5 ?_|refine ju ?_|refine jv ?_|refine jw ?_|refine jx ?_ (by first|rfl|assumption|(simp only [znl,znTE];(first|done|fail)))|refine jC ?_ (by first|rfl|assumption|(simp only [znl,znTE];(first|done|fail))))))); all_goals (first | rfl | (rw [e]; done)))
  obtain rfl : k = m.pr.length := by omega
  have hmet := fun f => usersN_met hpR (m := m) f
  generalize metF m m.pr.length 0 = L at hmet
  repeat' (first|(with_reducible first|refine yrl (by constructor) ?_|refine jk (fun M hM=>?_)|(refine hM _ ?_;clear hM M)|refine xb3 (by decide) ?_|refine yqa (by assumption) ?_ ?_|refine yqb (by assumption) ?_ ?_)|((with_reducible refine je ?_)<;>(first|rfl|assumption|(simp only [znl,znTE];(first|done|fail))))|(with_reducible refine jf (by (simp only [↓reduceIte,zlk,Nat.reduceEqDiff,reduceCtorEq]);exact rfl) ?_)|((with_reducible first|refine jg (fun hc=>?_) (fun hc=>?_)|refine jh (fun hc=>?_) (fun hc=>?_))<;>(try simp (disch:=omega) only [zhb] at hc)<;>(try (exfalso;omega))<;>(try subst hc))|(with_reducible refine ji (by omega) ?_)|(simp (config := { maxSteps := 400000 }) only [↓jt,↓reduceIte,zvs,reduceCtorEq,seval,-List.reduceReplicate,tab,Try.results20,jTA])|(simp (disch:=omega) only [ziw]))
  refine ok_loop (fun k : Nat => ⟨slots [(1, .ptr 0 []), (2, .sl none 0), (3, .map 1), (8, .sl (some (2, [], 0)) (freeK m.pr k).length), (31, encStrs m.fr), (32, .int .i64 m.fr.length), (33, .int .i64 k)], rows [(0, .row machSh (encM m)), (1, .map (setM L)), (2, .row (.arr (freeK m.pr k).length .cell) (.agg (encNats (freeK m.pr k))))], 3⟩) (fun k => k ≤ m.fr.length) (fun k => m.fr.length - k) 0 ?_ (Nat.zero_le _) (fun k hk => ?_)
  · (refine yrn [(0, 0), (1, 1)] false ?_ ?_<;>(repeat' (first|(with_reducible first|exact ya1|exact ya2|exact ya3|refine jx rfl (by first|rfl|assumption|(simp only [znl,znTE];(first|done|fail)))|exact ya5|exact ya7|exact jy|exact jz|refine jA ?_|refine ya9 ?_ ?_ ?_|refine jC rfl (by first|rfl|assumption|(simp only [znl,znTE];(first|done|fail)))|refine MR.agg (MRL.cons ?_ ?_)|refine MR.fn ?_|refine MRL.cons ?_ ?_|exact MRL.nil|refine jE ?_ ?_|exact jF|exact jG|refine yb1 ?_ ?_|refine MB.row ?_|refine jI ?_ ?_|exact ya8|refine jJ rfl (by first|rfl|assumption|(simp only [znl,znTE];(first|done|fail)))|refine yb2 ?_|rfl)|(simp only [znl,znTE];(first|done|fail))|(simp only [↓reduceIte,zlk,Nat.reduceEqDiff,reduceCtorEq])|(with_reducible first|refine jJ ?_ ?_|refine ya5 ?_|refine ju ?_|refine jv ?_|refine jw ?_|refine jx ?_ (by first|rfl|assumption|(simp only [znl,znTE];(first|done|fail)))|refine jC ?_ (by first|rfl|assumption|(simp only [znl,znTE];(first|done|fail)))))))
    all_goals (first | rfl)
  by_cases hlt : k < m.fr.length
  · have e := freeK_succ m.pr k
    have hfl := freeK_le m.pr k
    have hk2 := hmet (k : Nat)
    by_cases h0 : usersN m.pr (k : Nat) = 0
    · rw [if_pos h0] at e
      have hno : ((k : Nat) : Int) ∉ L := fun h => hk2.1 h h0
      have hd : decide (((k : Nat) : Int) ∈ L) = false := decide_eq_false hno
      repeat' (first|(with_reducible first|refine yrl (by constructor) ?_|refine jk (fun M hM=>?_)|(refine hM _ ?_;clear hM M)|refine xb3 (by decide) ?_|refine yqa (by assumption) ?_ ?_|refine yqb (by assumption) ?_ ?_)|((with_reducible refine je ?_)<;>(first|rfl|assumption|(simp only [znl,znTE];(first|done|fail))))|(with_reducible refine jf (by (simp only [↓reduceIte,zlk,Nat.reduceEqDiff,reduceCtorEq]);exact rfl) ?_)|((with_reducible first|refine jg (fun hc=>?_) (fun hc=>?_)|refine jh (fun hc=>?_) (fun hc=>?_))<;>(try simp (disch:=omega) only [zhb] at hc)<;>(try (exfalso;omega))<;>(try subst hc))|(with_reducible refine ji (by omega) ?_)|(simp (config := { maxSteps := 400000 }) only [↓jt,↓reduceIte,zvs,reduceCtorEq,seval,-List.reduceReplicate,tab,encNats,look_setM,keys_setM,hd,Try.results20,jTA])|(simp (disch:=omega) only [ziw]))
      all_goals first
        | (exfalso; omega)
        | (refine xl1 (k + 1) ?_ (by show k + 1 ≤ m.fr.length; omega) (by show m.fr.length - (k + 1) < m.fr.length - k; omega); (refine yrn [(0, 0), (1, 1), (2, 4)] false ?_ ?_<;>(repeat' (first|(with_reducible first|exact ya1|exact ya2|exact ya3|refine jx rfl (by first|rfl|assumption|(simp only [znl,znTE];(first|done|fail)))|exact ya5|exact ya7|exact jy|exact jz|refine jA ?_|refine ya9 ?_ ?_ ?_|refine jC rfl (by first|rfl|assumption|(simp only [znl,znTE];(first|done|fail)))|refine MR.agg (MRL.cons ?_ ?_)|refine MR.fn ?_|refine MRL.cons ?_ ?_|exact MRL.nil|refine jE ?_ ?_|exact jF|exact jG|refine yb1 ?_ ?_|refine MB.row ?_|refine jI ?_ ?_|exact ya8|refine jJ rfl (by first|rfl|assumption|(simp only [znl,znTE];(first|done|fail)))|refine yb2 ?_|rfl)|(simp only [znl,znTE];(first|done|fail))|(simp only [↓reduceIte,zlk,Nat.reduceEqDiff,reduceCtorEq])|(with_reducible first|refine jJ ?_ ?_|refine ya5 ?_|refine ju ?_|refine jv ?_|refine jw ?_|refine jx ?_ (by first|rfl|assumption|(simp only [znl,znTE];(first|done|fail)))|refine jC ?_ (by first|rfl|assumption|(simp only [znl,znTE];(first|done|fail))))))); all_goals (first | rfl | (rw [e]; simp; done)))
    · rw [if_neg h0, List.append_nil] at e
      have hd : decide (((k : Nat) : Int) ∈ L) = true := decide_eq_true (hk2.2 h0)
      repeat' (first|(with_reducible first|refine yrl (by constructor) ?_|refine jk (fun M hM=>?_)|(refine hM _ ?_;clear hM M)|refine xb3 (by decide) ?_|refine yqa (by assumption) ?_ ?_|refine yqb (by assumption) ?_ ?_)|((with_reducible refine je ?_)<;>(first|rfl|assumption|(simp only [znl,znTE];(first|done|fail))))|(with_reducible refine jf (by (simp only [↓reduceIte,zlk,Nat.reduceEqDiff,reduceCtorEq]);exact rfl) ?_)|((with_reducible first|refine jg (fun hc=>?_) (fun hc=>?_)|refine jh (fun hc=>?_) (fun hc=>?_))<;>(try simp (disch:=omega) only [zhb] at hc)<;>(try (exfalso;omega))<;>(try subst hc))|(with_reducible refine ji (by omega) ?_)|(simp (config := { maxSteps := 400000 }) only [↓jt,↓reduceIte,zvs,reduceCtorEq,seval,-List.reduceReplicate,tab,encNats,look_setM,keys_setM,hd,Try.results20,jTA])|(simp (disch:=omega) only [ziw]))
      all_goals first
        | (exfalso; omega)
        | (refine xl1 (k + 1) ?_ (by show k + 1 ≤ m.fr.length; omega) (by show m.fr.length - (k + 1) < m.fr.length - k; omega); (refine yrn [(0, 0), (1, 1), (2, 2)] false ?_ ?_<;>(repeat' (first|(with_reducible first|exact ya1|exact ya2|exact ya3|refine jx rfl (by first|rfl|assumption|(simp only [znl,znTE];(first|done|fail)))|exact ya5|exact ya7|exact jy|exact jz|refine jA ?_|refine ya9 ?_ ?_ ?_|refine jC rfl (by first|rfl|assumption|(simp only [znl,znTE];(first|done|fail)))|refine MR.agg (MRL.cons ?_ ?_)|refine MR.fn ?_|refine MRL.cons ?_ ?_|exact MRL.nil|refine jE ?_ ?_|exact jF|exact jG|refine yb1 ?_ ?_|refine MB.row ?_|refine jI ?_ ?_|exact ya8|refine jJ rfl (by first|rfl|assumption|(simp only [znl,znTE];(first|done|fail)))|refine yb2 ?_|rfl)|(simp only [znl,znTE];(first|done|fail))|(simp only [↓reduceIte,zlk,Nat.reduceEqDiff,reduceCtorEq])|(with_reducible first|refine jJ ?_ ?_|refine ya5 ?_|refine ju ?_|refine jv ?_|refine jw ?_|refine jx ?_ (by first|rfl|assumption|(simp only [znl,znTE];(first|done|fail)))|refine jC ?_ (by first|rfl|assumption|(simp only [znl,znTE];(first|done|fail))))))); all_goals (first | rfl | (rw [e]; done)))
  · obtain rfl : k = m.fr.length := by omega
    repeat' (first|(with_reducible first|refine yrl (by constructor) ?_|refine jk (fun M hM=>?_)|(refine hM _ ?_;clear hM M)|refine xb3 (by decide) ?_|refine yqa (by assumption) ?_ ?_|refine yqb (by assumption) ?_ ?_)|((with_reducible refine je ?_)<;>(first|rfl|assumption|(simp only [znl,znTE];(first|done|fail))))|(with_reducible refine jf (by (simp only [↓reduceIte,zlk,Nat.reduceEqDiff,reduceCtorEq]);exact rfl) ?_)|((with_reducible first|refine jg (fun hc=>?_) (fun hc=>?_)|refine jh (fun hc=>?_) (fun hc=>?_))<;>(try simp (disch:=omega) only [zhb] at hc)<;>(try (exfalso;omega))<;>(try subst hc))|(with_reducible refine ji (by omega) ?_)|(simp (config := { maxSteps := 400000 }) only [↓jt,↓reduceIte,zvs,reduceCtorEq,seval,-List.reduceReplicate,tab,Try.results20,jTA])|(simp (disch:=omega) only [ziw]))
    all_goals first
      | exact newA_own (by simp only [↓reduceIte,zlk,Nat.reduceEqDiff,reduceCtorEq]; exact rfl) (by simp) rfl (pls_nats _)
end Go.Proofs.Ytpdhdkpebbfnnaa.V
end
section
namespace Go.Proofs.Ytpdhdkpebbfnnaa.V
open Go
set_option maxRecDepth 100000
def znTD := And.intro @jO <| And.intro @jP <| And.intro @jQ <| And.intro @jR <| And.intro @jS <| And.intro @jT <| And.intro @jU <| And.intro @nls_lay <| And.intro @nl_lay <| And.intro @nls_nats <| True.intro
set_option maxHeartbeats 8000000
abbrev encMFP (m : Mach) (f p : VV) : VV := .agg [.int .u64 m.clock, .int .i64 m.quantum, .int .i64 m.cur, .int .i64 m.left, f, p, .int .i64 m.next, .str m.init, encPis m.pipes, .int .i64 m.newp, .str m.inp, .bool m.fin, .int .u64 m.told, encDr m.dr, encWrs m.dirty]
theorem sspawn_spec (m : Mach) (hm : MFit 20000 m) (hn : m.next < 4611686018427387904) (e : Exe) (he : ExeR e) (par : Int) (hp : i64R par) (i o : Fdd) (hi : fdR i) (ho : fdR o) :
    Spec Try.prog 16 [encM m, encExe e, .int .i64 par, encFd i, encFd o] (spawnVV m e par i o) := by
  have hL := slay_spec e he
  have hfl := hm.fr
  have hpl := hm.pr
  obtain ⟨hn1, _⟩ := hm.next
  have hnM := nl_encM m
  unfold spawnVV spawnE
  unfold layVV at hL
  by_cases hok : okE e
  · rw [if_pos hok] at hL
    simp only [hok,if_true]
    by_cases h8 : 8 ≤ m.pr.length
    · simp only [h8,if_true]
      refine spec_ok Try.func16 rfl rfl (by kernel_rfl) (k := 5) rfl (by decide) ?_
      repeat' (first|(with_reducible first|refine yrl (by constructor) ?_|refine jk (fun M hM=>?_)|(refine hM _ ?_;clear hM M)|refine xb3 (by decide) ?_|refine yqa (by assumption) ?_ ?_|refine yqb (by assumption) ?_ ?_)|((with_reducible refine je ?_)<;>(first|rfl|assumption|(simp only [znl,znTD];(first|done|fail))))|(with_reducible refine jf (by (simp only [↓reduceIte,zlk,Nat.reduceEqDiff,reduceCtorEq]);exact rfl) ?_)|((with_reducible first|refine jg (fun hc=>?_) (fun hc=>?_)|refine jh (fun hc=>?_) (fun hc=>?_))<;>(try simp (disch:=omega) only [zhb] at hc)<;>(try (exfalso;omega))<;>(try subst hc))|(with_reducible refine ji (by omega) ?_)|(simp (config := { maxSteps := 400000 }) only [↓jt,↓reduceIte,zvs,reduceCtorEq,seval,-List.reduceReplicate,tab,hasFd1,zRs,zSp,zFd,Try.results16,jTA])|(simp (disch:=omega) only [ziw]))
      all_goals (try (exfalso; omega))
      all_goals first
        | (((try simp only [nilM,List.map_nil]); simp only [zrds]; (repeat' (first | exact rd_nil | exact Rd.refl _ _ (by first|rfl|assumption|(simp only [znl,znTD];(first|done|fail))) | (refine And.intro ?_ ?_) | (refine rd_own (by (simp only [↓reduceIte,zlk,Nat.reduceEqDiff,reduceCtorEq]); exact rfl) ?_ ?_ ?_) | rfl | assumption | (simp only [znl,znTD];(first|done|fail)) | (simp; done) | (simp; omega)))); done)
    · simp only [h8,if_false]
      have hB := list_pi m.pipes hm.pipes
      have hE := own_drive m.dr hm.bl hm.pe
      have hG := list_wr m.dirty hm.dirty
      have hF := sfreeN_spec m hm
      have hFm := took_fr (m := m) rfl
      have hFl := freeK_le m.pr m.fr.length
      have hlR := layR_E e hok
      refine spec_ok Try.func16 rfl rfl (by kernel_rfl) (k := 5) rfl (by decide) ?_
      repeat' (first|(with_reducible first|refine yrl (by constructor) ?_|refine jk (fun M hM=>?_)|(refine hM _ ?_;clear hM M)|refine xb3 (by decide) ?_|refine yqa (by assumption) ?_ ?_|refine yqb (by assumption) ?_ ?_)|((with_reducible refine je ?_)<;>(first|rfl|assumption|(simp only [znl,znTD];(first|done|fail))))|(with_reducible refine jf (by (simp only [↓reduceIte,zlk,Nat.reduceEqDiff,reduceCtorEq]);exact rfl) ?_)|((with_reducible first|refine jg (fun hc=>?_) (fun hc=>?_)|refine jh (fun hc=>?_) (fun hc=>?_))<;>(try simp (disch:=omega) only [zhb] at hc)<;>(try (exfalso;omega))<;>(try subst hc))|(with_reducible refine ji (by omega) ?_)|(simp (config := { maxSteps := 400000 }) only [↓jt,↓reduceIte,zvs,reduceCtorEq,seval,-List.reduceReplicate,tab,hasFd1,zRs,zSp,zFd,Try.results16,jTA])|(simp (disch:=omega) only [ziw]))
      all_goals (try (exfalso; omega))
      refine ja (ok_body Try.func41 rfl rfl (by kernel_rfl) (k := 1) (by rfl) (by decide) ?_)
      repeat' (first|(with_reducible first|refine yrl (by constructor) ?_|refine jk (fun M hM=>?_)|(refine hM _ ?_;clear hM M)|refine xb3 (by decide) ?_|refine yqa (by assumption) ?_ ?_|refine yqb (by assumption) ?_ ?_)|((with_reducible refine je ?_)<;>(first|rfl|assumption|(simp only [znl,znTD];(first|done|fail))))|(with_reducible refine jf (by (simp only [↓reduceIte,zlk,Nat.reduceEqDiff,reduceCtorEq]);exact rfl) ?_)|((with_reducible first|refine jg (fun hc=>?_) (fun hc=>?_)|refine jh (fun hc=>?_) (fun hc=>?_))<;>(try simp (disch:=omega) only [zhb] at hc)<;>(try (exfalso;omega))<;>(try subst hc))|(with_reducible refine ji (by omega) ?_)|(simp (config := { maxSteps := 400000 }) only [↓jt,↓reduceIte,zvs,reduceCtorEq,seval,-List.reduceReplicate,tab,Try.results89, Try.results90, Try.results41, Try.results16, List.toList_toArray])|(simp (disch:=omega) only [ziw]))
      refine ja (ok_body Try.func89 rfl rfl (by kernel_rfl) (k := 1) (by rfl) (by decide) ?_)
      repeat' (first|(with_reducible first|refine yrl (by constructor) ?_|refine jk (fun M hM=>?_)|(refine hM _ ?_;clear hM M)|refine xb3 (by decide) ?_|refine yqa (by assumption) ?_ ?_|refine yqb (by assumption) ?_ ?_)|((with_reducible refine je ?_)<;>(first|rfl|assumption|(simp only [znl,znTD];(first|done|fail))))|(with_reducible refine jf (by (simp only [↓reduceIte,zlk,Nat.reduceEqDiff,reduceCtorEq]);exact rfl) ?_)|((with_reducible first|refine jg (fun hc=>?_) (fun hc=>?_)|refine jh (fun hc=>?_) (fun hc=>?_))<;>(try simp (disch:=omega) only [zhb] at hc)<;>(try (exfalso;omega))<;>(try subst hc))|(with_reducible refine ji (by omega) ?_)|(simp (config := { maxSteps := 400000 }) only [↓jt,↓reduceIte,zvs,reduceCtorEq,seval,-List.reduceReplicate,tab,Try.results89, Try.results90, Try.results41, Try.results16, List.toList_toArray])|(simp (disch:=omega) only [ziw]))
      refine ja (ok_body Try.func90 rfl rfl (by kernel_rfl) (k := 1) (by rfl) (by decide) ?_)
      repeat' (first|(with_reducible first|refine yrl (by constructor) ?_|refine jk (fun M hM=>?_)|(refine hM _ ?_;clear hM M)|refine xb3 (by decide) ?_|refine yqa (by assumption) ?_ ?_|refine yqb (by assumption) ?_ ?_)|((with_reducible refine je ?_)<;>(first|rfl|assumption|(simp only [znl,znTD];(first|done|fail))))|(with_reducible refine jf (by (simp only [↓reduceIte,zlk,Nat.reduceEqDiff,reduceCtorEq]);exact rfl) ?_)|((with_reducible first|refine jg (fun hc=>?_) (fun hc=>?_)|refine jh (fun hc=>?_) (fun hc=>?_))<;>(try simp (disch:=omega) only [zhb] at hc)<;>(try (exfalso;omega))<;>(try subst hc))|(with_reducible refine ji (by omega) ?_)|(simp (config := { maxSteps := 400000 }) only [↓jt,↓reduceIte,zvs,reduceCtorEq,seval,-List.reduceReplicate,tab,Try.results89, Try.results90, Try.results41, Try.results16, List.toList_toArray])|(simp (disch:=omega) only [ziw]))
      all_goals (try (exfalso; omega))
      refine ja (ok_body Try.func42 rfl rfl (by kernel_rfl) (k := 1) (by rfl) (by decide) ?_)
      repeat' (first|(with_reducible first|refine yrl (by constructor) ?_|refine jk (fun M hM=>?_)|(refine hM _ ?_;clear hM M)|refine xb3 (by decide) ?_|refine yqa (by assumption) ?_ ?_|refine yqb (by assumption) ?_ ?_)|((with_reducible refine je ?_)<;>(first|rfl|assumption|(simp only [znl,znTD];(first|done|fail))))|(with_reducible refine jf (by (simp only [↓reduceIte,zlk,Nat.reduceEqDiff,reduceCtorEq]);exact rfl) ?_)|((with_reducible first|refine jg (fun hc=>?_) (fun hc=>?_)|refine jh (fun hc=>?_) (fun hc=>?_))<;>(try simp (disch:=omega) only [zhb] at hc)<;>(try (exfalso;omega))<;>(try subst hc))|(with_reducible refine ji (by omega) ?_)|(simp (config := { maxSteps := 400000 }) only [↓jt,↓reduceIte,zvs,reduceCtorEq,seval,-List.reduceReplicate,tab,Try.results42,Try.results16,jTA])|(simp (disch:=omega) only [ziw]))
      all_goals (try (exfalso; omega))
      refine ja (call_new (hF) (by repeat (first | exact rdl_nil | refine rdl_cons ?_ ?_ | exact Rd.refl _ _ (by first|rfl|assumption|(simp only [znl,znTD];(first|done|fail))) | (refine rd_own (by (simp only [↓reduceIte,zlk,Nat.reduceEqDiff,reduceCtorEq]); exact rfl) (by first | rfl | (simp; done) | (simp; omega)) rfl (by first|rfl|assumption|(simp only [znl,znTD];(first|done|fail)))) | exact rd_nil | refine (rd_a _ _ _).mpr ?_)) rfl ?_)
      repeat' (first|(with_reducible first|refine yrl (by constructor) ?_|refine jk (fun M hM=>?_)|(refine hM _ ?_;clear hM M)|refine xb3 (by decide) ?_|refine yqa (by assumption) ?_ ?_|refine yqb (by assumption) ?_ ?_)|((with_reducible refine je ?_)<;>(first|rfl|assumption|(simp only [znl,znTD];(first|done|fail))))|(with_reducible refine jf (by (simp only [↓reduceIte,zlk,Nat.reduceEqDiff,reduceCtorEq]);exact rfl) ?_)|((with_reducible first|refine jg (fun hc=>?_) (fun hc=>?_)|refine jh (fun hc=>?_) (fun hc=>?_))<;>(try simp (disch:=omega) only [zhb] at hc)<;>(try (exfalso;omega))<;>(try subst hc))|(with_reducible refine ji (by omega) ?_)|(simp (config := { maxSteps := 400000 }) only [↓jt,↓reduceIte,zvs,reduceCtorEq,seval,-List.reduceReplicate,tab,zSp,Try.results42,Try.results16,jTA])|(simp (disch:=omega) only [ziw]))
      all_goals (try (exfalso; omega))
      obtain ⟨R, hR⟩ : ∃ R, R = (if (if (freeK m.pr m.fr.length).length < (layE e).length then (10 : Int) else 0) = 0 then VV.tup [encM (spawnM m e par i o), .int .i64 m.next, .int .i64 0] else VV.tup [encM nilM, .int .i64 0, .int .i64 (if (freeK m.pr m.fr.length).length < (layE e).length then (10 : Int) else 0)]) := ⟨_, rfl⟩
      rw [← hR]
      have hR1 : (freeK m.pr m.fr.length).length < (layE e).length → R = .tup [encM nilM, .int .i64 0, .int .i64 10] := fun h => by
        rw [hR, if_pos h, if_neg (by decide)]
      have hR0 : ¬(freeK m.pr m.fr.length).length < (layE e).length → R = VV.tup [encM (spawnM m e par i o), .int .i64 m.next, .int .i64 0] := fun h => by
        rw [hR, if_neg h, if_pos rfl]
      clear hR
      have eS : spawnM m e par i o = { frM m (frK m.fr (freeK m.pr m.fr.length) (layE e) (layE e).length) with pr := m.pr ++ [spP (newPr m e par i o) (spK zSpace (freeK m.pr m.fr.length) (layE e) (layE e).length)], next := m.next + 1 } := rfl
      rw [eS] at hR0
      clear eS hL hF
      obtain ⟨hl1, hl2⟩ := hlR
      obtain ⟨nf, hnf⟩ : ∃ nf, nf = m.fr.length := ⟨_, rfl⟩
      obtain ⟨np, hnp⟩ : ∃ np, np = m.pr.length := ⟨_, rfl⟩
      simp only [freeV]
      generalize freeK m.pr m.fr.length = F at hFm hFl hR1 hR0 ⊢
      generalize layE e = l at hl1 hl2 hR1 hR0 ⊢
      refine ok_loop (fun k : Nat => ⟨slots [(2, .int .i64 par), (6, .ptr 1 []), (8, .ptr 2 []), (9, .ptr 3 []), (10, .ptr 4 []), (11, .int .i64 0), (12, .int .i64 0), (15, .ptr 9 []), (16, .fn 94 [.ptr 11 [], .ptr 10 []]), (17, .ptr 12 []), (40, encLays l), (41, .int .i64 l.length), (42, .int .i64 k)], rows [(1, .row (.st [.cell, .cell, .cell, .cell]) (encExe e)), (2, .row (.st [.cell, .cell, .cell]) (encFd i)), (3, .row (.st [.cell, .cell, .cell]) (encFd o)), (4, .row machSh nilMD), (7, .row (.arr nf .cell) (.agg ((frK m.fr F l k).map VV.str))), (8, .row (.arr np prSh) (.agg (m.pr.map encPr))), (9, .row machSh (encMFP m (.sl (some (7, [], 0)) nf) (.sl (some (8, [], 0)) np))), (10, .row .cell (.ptr 9 [])), (11, .row .cell (.dat .cell (encNats (F.drop k)))), (12, .row (.arr 16 pteSh) (.agg ((spK zSpace F l k).map encPte)))], 13⟩) (fun k => k ≤ l.length ∧ k ≤ F.length) (fun k => l.length - k) 0 ?_ ⟨Nat.zero_le _, Nat.zero_le _⟩ (fun k hk => ?_)
      · (refine yrn [(1, 1), (2, 2), (3, 3), (4, 4), (7, 7), (8, 8), (9, 9), (10, 10), (11, 11), (12, 12)] false ?_ ?_<;>(repeat' (first|(with_reducible first|exact ya1|exact ya2|exact ya3|refine jx rfl (by first|rfl|assumption|(simp only [znl,znTD];(first|done|fail)))|exact ya5|exact ya7|exact jy|exact jz|refine jA ?_|refine ya9 ?_ ?_ ?_|refine jC rfl (by first|rfl|assumption|(simp only [znl,znTD];(first|done|fail)))|refine MR.agg (MRL.cons ?_ ?_)|refine MR.fn ?_|refine MRL.cons ?_ ?_|exact MRL.nil|refine jE ?_ ?_|exact jF|exact jG|refine yb1 ?_ ?_|refine MB.row ?_|refine jI ?_ ?_|exact ya8|refine jJ rfl (by first|rfl|assumption|(simp only [znl,znTD];(first|done|fail)))|refine yb2 ?_|rfl)|(simp only [znl,znTD];(first|done|fail))|(simp only [↓reduceIte,zlk,Nat.reduceEqDiff,reduceCtorEq])|(with_reducible first|refine jJ ?_ ?_|refine ya5 ?_|refine ju ?_|refine jv ?_|refine jw ?_|refine jx ?_ (by first|rfl|assumption|(simp only [znl,znTD];(first|done|fail)))|refine jC ?_ (by first|rfl|assumption|(simp only [znl,znTD];(first|done|fail)))))))
        all_goals (first | rfl | exact MR.data _ rfl | exact hnf.symm | exact hnp.symm)
      obtain ⟨hk, hkF⟩ := hk
      have hfk := frK_len m.fr F l k
      have hsk := spK_len zSpace F l k
      rw [← hnf] at hfk
      rw [show zSpace.length = 16 from rfl] at hsk
      have hdl : (F.drop k).length = F.length - k := List.length_drop
      by_cases hlt : k < l.length
      · have hx := hl2 _ (getD_mem' hlt)
        have hL := hasLay (l.getD k default)
        simp only [encLay] at hL
        by_cases hkf : k < F.length
        · have hFi := hFm _ (getD_mem' hkf)
          have hd0 : (encNats (F.drop k))[0]? = some (.int .i64 ((F.getD k default : Nat) : Int)) := by
            rw [List.getElem?_map, List.getElem?_drop, Nat.add_zero, List.getD_eq_getElem?_getD, List.getElem?_eq_getElem hkf]; rfl
          have hd1 : (encNats (F.drop k)).drop 1 = encNats (F.drop (k + 1)) := by
            rw [← List.map_drop, List.drop_drop]
          have hd2 : (encNats (F.drop (k + 1))).take (F.length - k - 1) = encNats (F.drop (k + 1)) := List.take_of_length_le (by rw [List.length_map, List.length_drop]; omega)
          have hf1 : (frK m.fr F l k).set (F.getD k default) (l.getD k default).d = frK m.fr F l (k + 1) := rfl
          have hs1 : (spK zSpace F l k).set (l.getD k default).at_.toNat ⟨true, (l.getD k default).w, ((F.getD k default : Nat) : Int)⟩ = spK zSpace F l (k + 1) := rfl
          obtain ⟨f2, hf2⟩ : ∃ f, f = frK m.fr F l (k + 1) := ⟨_, rfl⟩
          rw [← hf2] at hf1
          obtain ⟨s2, hs2⟩ : ∃ f, f = spK zSpace F l (k + 1) := ⟨_, rfl⟩
          rw [← hs2] at hs1
          generalize frK m.fr F l k = f1 at hfk hf1 ⊢
          generalize spK zSpace F l k = s1 at hsk hs1 ⊢
          have hw1 : (f1.map VV.str).set (F.getD k default) (.str (l.getD k default).d) = f2.map VV.str := by rw [← List.map_set, hf1]
          have hw2 : (s1.map encPte).set (l.getD k default).at_.toNat (.agg [.bool true, .bool (l.getD k default).w, .int .i64 ((F.getD k default : Nat) : Int)]) = s2.map encPte := by rw [← hs1, List.map_set]; rfl
          have hS2 := hasSpace s1 hsk
          obtain ⟨u, hu⟩ := pteS s1 hsk (l.getD k default).at_.toNat (by omega)
          have hv := map_getD VV.str f1 (F.getD k default) (by omega)
          repeat' (first|(with_reducible first|refine yrl (by constructor) ?_|refine jk (fun M hM=>?_)|(refine hM _ ?_;clear hM M)|refine xb3 (by decide) ?_|refine yqa (by assumption) ?_ ?_|refine yqb (by assumption) ?_ ?_)|((with_reducible refine je ?_)<;>(first|rfl|assumption|(simp only [znl,znTD];(first|done|fail))))|(with_reducible refine jf (by (simp only [↓reduceIte,zlk,Nat.reduceEqDiff,reduceCtorEq]);exact rfl) ?_)|((with_reducible first|refine jg (fun hc=>?_) (fun hc=>?_)|refine jh (fun hc=>?_) (fun hc=>?_))<;>(try simp (disch:=omega) only [zhb] at hc)<;>(try (exfalso;omega))<;>(try subst hc))|(with_reducible refine ji (by omega) ?_)|(simp (config := { maxSteps := 400000 }) only [↓jt,↓reduceIte,zvs,reduceCtorEq,seval,-List.reduceReplicate,tab,hL,hS2,encLay,hdl,Try.results94,Try.results42,Try.results16,jTA])|(simp (disch:=omega) only [ziw]))
          all_goals (try (exfalso; omega))
          refine ja (ok_body Try.func94 rfl rfl (by kernel_rfl) (k := 3) (by rfl) (by decide) ?_)
          repeat' (first|(with_reducible first|refine yrl (by constructor) ?_|refine jk (fun M hM=>?_)|(refine hM _ ?_;clear hM M)|refine xb3 (by decide) ?_|refine yqa (by assumption) ?_ ?_|refine yqb (by assumption) ?_ ?_)|((with_reducible refine je ?_)<;>(first|rfl|assumption|(simp only [znl,znTD];(first|done|fail))))|(with_reducible refine jf (by (simp only [↓reduceIte,zlk,Nat.reduceEqDiff,reduceCtorEq]);exact rfl) ?_)|((with_reducible first|refine jg (fun hc=>?_) (fun hc=>?_)|refine jh (fun hc=>?_) (fun hc=>?_))<;>(try simp (disch:=omega) only [zhb] at hc)<;>(try (exfalso;omega))<;>(try subst hc))|(with_reducible refine ji (by omega) ?_)|(simp (config := { maxSteps := 400000 }) only [↓jt,↓reduceIte,zvs,reduceCtorEq,seval,-List.reduceReplicate,tab,hL,hS2,encLay,hdl,hd0,hd1,hd2,hw1,hw2,hu,hv,hfk,Int.toNat_natCast,Try.results94,Try.results42,Try.results16,jTA])|(simp (disch:=omega) only [ziw]))
          all_goals (try (exfalso; omega))
          all_goals first
            | (refine xl1 (k + 1) ?_ ⟨by omega, by omega⟩ (by show l.length - (k + 1) < l.length - k; omega); (refine yrn [(1, 1), (2, 2), (3, 3), (4, 4), (7, 7), (8, 8), (9, 9), (10, 10), (11, 11), (12, 12)] false ?_ ?_<;>(repeat' (first|(with_reducible first|exact ya1|exact ya2|exact ya3|refine jx rfl (by first|rfl|assumption|(simp only [znl,znTD];(first|done|fail)))|exact ya5|exact ya7|exact jy|exact jz|refine jA ?_|refine ya9 ?_ ?_ ?_|refine jC rfl (by first|rfl|assumption|(simp only [znl,znTD];(first|done|fail)))|refine MR.agg (MRL.cons ?_ ?_)|refine MR.fn ?_|refine MRL.cons ?_ ?_|exact MRL.nil|refine jE ?_ ?_|exact jF|exact jG|refine yb1 ?_ ?_|refine MB.row ?_|refine jI ?_ ?_|exact ya8|refine jJ rfl (by first|rfl|assumption|(simp only [znl,znTD];(first|done|fail)))|refine yb2 ?_|rfl)|(simp only [znl,znTD];(first|done|fail))|(simp only [↓reduceIte,zlk,Nat.reduceEqDiff,reduceCtorEq])|(with_reducible first|refine jJ ?_ ?_|refine ya5 ?_|refine ju ?_|refine jv ?_|refine jw ?_|refine jx ?_ (by first|rfl|assumption|(simp only [znl,znTD];(first|done|fail)))|refine jC ?_ (by first|rfl|assumption|(simp only [znl,znTD];(first|done|fail))))))); all_goals (first | rfl | exact MR.data _ rfl | (rw [← hs2]; done) | (rw [← hf2]; done) | (rw [← hf2]; exact hw1) | (rw [← hs2]; exact hw2)))
        · have hkF2 : k = F.length := by omega
          have hR2 := hR1 (by omega)
          repeat' (first|(with_reducible first|refine yrl (by constructor) ?_|refine jk (fun M hM=>?_)|(refine hM _ ?_;clear hM M)|refine xb3 (by decide) ?_|refine yqa (by assumption) ?_ ?_|refine yqb (by assumption) ?_ ?_)|((with_reducible refine je ?_)<;>(first|rfl|assumption|(simp only [znl,znTD];(first|done|fail))))|(with_reducible refine jf (by (simp only [↓reduceIte,zlk,Nat.reduceEqDiff,reduceCtorEq]);exact rfl) ?_)|((with_reducible first|refine jg (fun hc=>?_) (fun hc=>?_)|refine jh (fun hc=>?_) (fun hc=>?_))<;>(try simp (disch:=omega) only [zhb] at hc)<;>(try (exfalso;omega))<;>(try subst hc))|(with_reducible refine ji (by omega) ?_)|(simp (config := { maxSteps := 400000 }) only [↓jt,↓reduceIte,zvs,reduceCtorEq,seval,-List.reduceReplicate,tab,hL,encLay,hdl,Try.results94,Try.results42,Try.results16,jTA])|(simp (disch:=omega) only [ziw]))
          all_goals (try (exfalso; omega))
          refine ja (ok_body Try.func94 rfl rfl (by kernel_rfl) (k := 3) (by rfl) (by decide) ?_)
          repeat' (first|(with_reducible first|refine yrl (by constructor) ?_|refine jk (fun M hM=>?_)|(refine hM _ ?_;clear hM M)|refine xb3 (by decide) ?_|refine yqa (by assumption) ?_ ?_|refine yqb (by assumption) ?_ ?_)|((with_reducible refine je ?_)<;>(first|rfl|assumption|(simp only [znl,znTD];(first|done|fail))))|(with_reducible refine jf (by (simp only [↓reduceIte,zlk,Nat.reduceEqDiff,reduceCtorEq]);exact rfl) ?_)|((with_reducible first|refine jg (fun hc=>?_) (fun hc=>?_)|refine jh (fun hc=>?_) (fun hc=>?_))<;>(try simp (disch:=omega) only [zhb] at hc)<;>(try (exfalso;omega))<;>(try subst hc))|(with_reducible refine ji (by omega) ?_)|(simp (config := { maxSteps := 400000 }) only [↓jt,↓reduceIte,zvs,reduceCtorEq,seval,-List.reduceReplicate,tab,hL,encLay,hdl,Try.results94,Try.results42,Try.results16,jTA])|(simp (disch:=omega) only [ziw]))
          all_goals first
            | (exfalso; omega)
            | (rw [hR2]; ((try simp only [nilM,List.map_nil]); simp only [zrds]; (repeat' (first | exact rd_nil | exact Rd.refl _ _ (by first|rfl|assumption|(simp only [znl,znTD];(first|done|fail))) | (refine And.intro ?_ ?_) | (refine rd_own (by (simp only [↓reduceIte,zlk,Nat.reduceEqDiff,reduceCtorEq]); exact rfl) ?_ ?_ ?_) | rfl | assumption | (simp only [znl,znTD];(first|done|fail)) | (simp; done) | (simp; omega)))); done)
      · obtain rfl : k = l.length := by omega
        have hR2 := hR0 (by omega)
        have hr1 : Has (.arr 16 .cell) (.agg ((List.replicate 16 (.int .u32 0)).set 15 (.int .u32 2048))) := hasRs ((List.replicate 16 0).set 15 2048) rfl
        have hf1 : Has (.arr 8 (.st [.cell, .cell, .cell])) (.agg (((List.replicate 8 (VV.agg [.int .i64 0, .int .i64 0, .int .i64 0])).set 0 (encFd i)).set 1 (encFd o))) := hasFds (i :: o :: List.replicate 6 ⟨0, 0, 0⟩) rfl
        have hsp := hasSpace _ hsk
        have hw : m.pr.map encPr ++ [VV.agg [.int .i64 m.next, .int .i64 par, .int .i64 1, .agg [.agg ((List.replicate 16 (.int .u32 0)).set 15 (.int .u32 2048)), .int .u32 e.en], .agg ((spK zSpace F l l.length).map encPte), .agg (((List.replicate 8 (.agg [.int .i64 0, .int .i64 0, .int .i64 0])).set 0 (encFd i)).set 1 (encFd o)), .bool false, .int .u32 0, .int .i64 0, .int .u64 0]] = (m.pr ++ [spP (newPr m e par i o) (spK zSpace F l l.length)]).map encPr := by
          rw [List.map_append]; rfl
        have hnlB := jP (m.pr ++ [spP (newPr m e par i o) (spK zSpace F l l.length)])
        repeat' (first|(with_reducible first|refine yrl (by constructor) ?_|refine jk (fun M hM=>?_)|(refine hM _ ?_;clear hM M)|refine xb3 (by decide) ?_|refine yqa (by assumption) ?_ ?_|refine yqb (by assumption) ?_ ?_)|((with_reducible refine je ?_)<;>(first|rfl|assumption|(simp only [znl,znTD];(first|done|fail))))|(with_reducible refine jf (by (simp only [↓reduceIte,zlk,Nat.reduceEqDiff,reduceCtorEq]);exact rfl) ?_)|((with_reducible first|refine jg (fun hc=>?_) (fun hc=>?_)|refine jh (fun hc=>?_) (fun hc=>?_))<;>(try simp (disch:=omega) only [zhb] at hc)<;>(try (exfalso;omega))<;>(try subst hc))|(with_reducible refine ji (by omega) ?_)|(simp (config := { maxSteps := 400000 }) only [↓jt,↓reduceIte,zvs,reduceCtorEq,seval,-List.reduceReplicate,tab,hsp,hr1,hf1,hw,hasFd1,zRs,zFd,Try.results94,Try.results42,Try.results16,jTA])|(simp (disch:=omega) only [ziw]))
        all_goals (try (exfalso; omega))
        all_goals first
          | (rw [hR2]; ((try simp only [frM,List.map_nil]); simp only [zrds]; (repeat' (first | exact rd_nil | exact Rd.refl _ _ (by first|rfl|assumption|(simp only [znl,znTD];(first|done|fail))) | (refine And.intro ?_ ?_) | (refine rd_own (by (simp only [↓reduceIte,zlk,Nat.reduceEqDiff,reduceCtorEq]); exact rfl) ?_ ?_ ?_) | rfl | assumption | (simp only [znl,znTD];(first|done|fail)) | (simp; done) | (simp; omega)))); done)
  · rw [if_neg hok] at hL
    simp only [hok,if_false]
    refine spec_ok Try.func16 rfl rfl (by kernel_rfl) (k := 5) rfl (by decide) ?_
    repeat' (first|(with_reducible first|refine yrl (by constructor) ?_|refine jk (fun M hM=>?_)|(refine hM _ ?_;clear hM M)|refine xb3 (by decide) ?_|refine yqa (by assumption) ?_ ?_|refine yqb (by assumption) ?_ ?_)|((with_reducible refine je ?_)<;>(first|rfl|assumption|(simp only [znl,znTD];(first|done|fail))))|(with_reducible refine jf (by (simp only [↓reduceIte,zlk,Nat.reduceEqDiff,reduceCtorEq]);exact rfl) ?_)|((with_reducible first|refine jg (fun hc=>?_) (fun hc=>?_)|refine jh (fun hc=>?_) (fun hc=>?_))<;>(try simp (disch:=omega) only [zhb] at hc)<;>(try (exfalso;omega))<;>(try subst hc))|(with_reducible refine ji (by omega) ?_)|(simp (config := { maxSteps := 400000 }) only [↓jt,↓reduceIte,zvs,reduceCtorEq,seval,-List.reduceReplicate,tab,hasFd1,zRs,zSp,zFd,Try.results16,jTA])|(simp (disch:=omega) only [ziw]))
    all_goals first
      | (exfalso; omega)
      | (((try simp only [nilM,List.map_nil]); simp only [zrds]; (repeat' (first | exact rd_nil | exact Rd.refl _ _ (by first|rfl|assumption|(simp only [znl,znTD];(first|done|fail))) | (refine And.intro ?_ ?_) | (refine rd_own (by (simp only [↓reduceIte,zlk,Nat.reduceEqDiff,reduceCtorEq]); exact rfl) ?_ ?_ ?_) | rfl | assumption | (simp only [znl,znTD];(first|done|fail)) | (simp; done) | (simp; omega)))); done)
end Go.Proofs.Ytpdhdkpebbfnnaa.V
end
