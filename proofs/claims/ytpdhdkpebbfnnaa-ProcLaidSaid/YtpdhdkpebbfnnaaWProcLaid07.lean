/-
  Parts of the proof of ProcLaid: N5, N6, N7, NE, NH, NG, VregZ, NI, NK, NQ, NR, R1, Q3, R2, Q5, T3, M14, NS, P1, P2, P3, D4, D5, D6.
  Conditions: none.
-/
import Derived.Test.YtpdhdkpebbfnnaaWProcLaid05
import Derived.Test.YtpdhdkpebbfnnaaWProcLaid06
import Derived.Test.YtpdhdkpebbfnnaaWProcLaid04
set_option linter.unusedVariables false
set_option linter.unusedSimpArgs false
set_option linter.unusedSectionVars false
set_option linter.defProp false
section
namespace Go.Proofs.Ytpdhdkpebbfnnaa.V
open Go
set_option maxRecDepth 100000
def znN5 := And.intro @jO <| And.intro @jP <| And.intro @jQ <| And.intro @jR <| And.intro @jS <| And.intro @jT <| And.intro @jU <| True.intro
set_option maxHeartbeats 1000000
theorem pipe_hit {l : List Pip} {id : Int} {k : Nat} (h : k < l.length) (hn : ∀ j, j < k → (l.getD j default).id ≠ id) (hk : (l.getD k default).id = id) : pipeO l id = some (l.getD k default) := by
  unfold pipeO
  rw [List.find?_eq_some_iff_getElem]
  have e : l.getD k default = l[k] := by rw [List.getD_eq_getElem?_getD, List.getElem?_eq_getElem h]; rfl
  refine ⟨by simpa using hk, k, h, e.symm, fun j hj => ?_⟩
  have := hn j hj
  rw [List.getD_eq_getElem?_getD, List.getElem?_eq_getElem (by omega)] at this
  simpa using this
theorem pipe_miss {l : List Pip} {id : Int} (hn : ∀ j, j < l.length → (l.getD j default).id ≠ id) : pipeO l id = none := by
  unfold pipeO
  rw [List.find?_eq_none]
  intro x hx
  obtain ⟨j, hj, rfl⟩ := List.mem_iff_getElem.1 hx
  have := hn j hj
  rw [List.getD_eq_getElem?_getD, List.getElem?_eq_getElem hj] at this
  simpa using this
theorem rpipe_spec (m : Mach) (hm : MFit 20000 m) (id : Int) (hp : i64R id) : Spec Try.prog 146 [encM m, .int .i64 id] (pipeV (pipeO m.pipes id)) := by
  obtain ⟨R, hR⟩ : ∃ R, R = pipeV (pipeO m.pipes id) := ⟨_, rfl⟩
  rw [← hR]
  have hl := hm.pipes
  have hpR := hm.pipesR
  obtain ⟨hp1, hp2⟩ := hp
  refine spec_ok Try.func146 rfl rfl (by kernel_rfl) (k := 2) rfl (by decide) ?_
  repeat' (first|(with_reducible first|refine yrl (by constructor) ?_|refine jk (fun M hM=>?_)|(refine hM _ ?_;clear hM M)|refine xb3 (by decide) ?_|refine yqa (by assumption) ?_ ?_|refine yqb (by assumption) ?_ ?_)|((with_reducible refine je ?_)<;>(first|rfl|assumption|(simp only [znl,znN5];(first|done|fail))))|(with_reducible refine jf (by (simp only [↓reduceIte,zlk,Nat.reduceEqDiff,reduceCtorEq]);exact rfl) ?_)|((with_reducible first|refine jg (fun hc=>?_) (fun hc=>?_)|refine jh (fun hc=>?_) (fun hc=>?_))<;>(try simp (disch:=omega) only [zhb] at hc)<;>(try (exfalso;omega))<;>(try subst hc))|(with_reducible refine ji (by omega) ?_)|(simp (config := { maxSteps := 400000 }) only [↓jt,↓reduceIte,zvs,reduceCtorEq,seval,-List.reduceReplicate,tab,Try.results146,jTA])|(simp (disch:=omega) only [ziw]))
  refine ok_loop (fun k : Nat => ⟨slots [(1, .int .i64 id), (2, .ptr 0 []), (4, .ptr 1 []), (5, .bool false), (9, encPis m.pipes), (10, .int .i64 m.pipes.length), (11, .int .i64 k)], rows [(0, .row machSh (encM m)), (1, .row piSh (.agg [.int .i64 0, .str []]))], 2⟩) (fun k => k ≤ m.pipes.length ∧ ∀ j, j < k → (m.pipes.getD j default).id ≠ id) (fun k => m.pipes.length - k) 0 ?_ ⟨Nat.zero_le _, fun j hj => by omega⟩ (fun k hk => ?_)
  · (refine yrn [(0, 0), (1, 1)] false ?_ ?_<;>(repeat' (first|(with_reducible first|exact ya1|exact ya2|exact ya3|refine jx rfl (by first|rfl|assumption|(simp only [znl,znN5];(first|done|fail)))|exact ya5|exact ya7|exact jy|exact jz|refine jA ?_|refine ya9 ?_ ?_ ?_|refine jC rfl (by first|rfl|assumption|(simp only [znl,znN5];(first|done|fail)))|refine MR.agg (MRL.cons ?_ ?_)|refine MR.fn ?_|refine MRL.cons ?_ ?_|exact MRL.nil|refine jE ?_ ?_|exact jF|exact jG|refine yb1 ?_ ?_|refine MB.row ?_|refine jI ?_ ?_|exact ya8|refine jJ rfl (by first|rfl|assumption|(simp only [znl,znN5];(first|done|fail)))|refine yb2 ?_|rfl)|(simp only [znl,znN5];(first|done|fail))|(simp only [↓reduceIte,zlk,Nat.reduceEqDiff,reduceCtorEq])|(with_reducible first|refine jJ ?_ ?_|refine ya5 ?_|refine ju ?_|refine jv ?_|refine jw ?_|refine jx ?_ (by first|rfl|assumption|(simp only [znl,znN5];(first|done|fail)))|refine jC ?_ (by first|rfl|assumption|(simp only [znl,znN5];(first|done|fail)))))))
  obtain ⟨hk, hn⟩ := hk
  by_cases hlt : k < m.pipes.length
  · obtain ⟨⟨hb1, hb2⟩, hb3⟩ := hpR _ (getD_mem' hlt)
    by_cases hq : (m.pipes.getD k default).id = id
    · rw [pipe_hit hlt hn hq] at hR
      repeat' (first|(with_reducible first|refine yrl (by constructor) ?_|refine jk (fun M hM=>?_)|(refine hM _ ?_;clear hM M)|refine xb3 (by decide) ?_|refine yqa (by assumption) ?_ ?_|refine yqb (by assumption) ?_ ?_)|((with_reducible refine je ?_)<;>(first|rfl|assumption|(simp only [znl,znN5];(first|done|fail))))|(with_reducible refine jf (by (simp only [↓reduceIte,zlk,Nat.reduceEqDiff,reduceCtorEq]);exact rfl) ?_)|((with_reducible first|refine jg (fun hc=>?_) (fun hc=>?_)|refine jh (fun hc=>?_) (fun hc=>?_))<;>(try simp (disch:=omega) only [zhb] at hc)<;>(try (exfalso;omega))<;>(try subst hc))|(with_reducible refine ji (by omega) ?_)|(simp (config := { maxSteps := 400000 }) only [↓jt,↓reduceIte,zvs,reduceCtorEq,seval,-List.reduceReplicate,tab,encPi,Try.results146,jTA])|(simp (disch:=omega) only [ziw]))
      all_goals first
        | (exfalso; omega)
        | (rw [hR]; simp only [pipeV,encPi]; simp only [zrds]; done)
        | (rw [hR]; simp only [pipeV,encPi]; simp only [zrds]; rw [hq])
    · repeat' (first|(with_reducible first|refine yrl (by constructor) ?_|refine jk (fun M hM=>?_)|(refine hM _ ?_;clear hM M)|refine xb3 (by decide) ?_|refine yqa (by assumption) ?_ ?_|refine yqb (by assumption) ?_ ?_)|((with_reducible refine je ?_)<;>(first|rfl|assumption|(simp only [znl,znN5];(first|done|fail))))|(with_reducible refine jf (by (simp only [↓reduceIte,zlk,Nat.reduceEqDiff,reduceCtorEq]);exact rfl) ?_)|((with_reducible first|refine jg (fun hc=>?_) (fun hc=>?_)|refine jh (fun hc=>?_) (fun hc=>?_))<;>(try simp (disch:=omega) only [zhb] at hc)<;>(try (exfalso;omega))<;>(try subst hc))|(with_reducible refine ji (by omega) ?_)|(simp (config := { maxSteps := 400000 }) only [↓jt,↓reduceIte,zvs,reduceCtorEq,seval,-List.reduceReplicate,tab,encPi,Try.results146,jTA])|(simp (disch:=omega) only [ziw]))
      all_goals first
        | (exfalso; omega)
        | (refine xl1 (k + 1) ?_ ⟨by omega, fun j hj => ?_⟩ (by show m.pipes.length - (k + 1) < m.pipes.length - k; omega) <;> first | (by_cases e : j = k; (rw [e]; exact hq); exact hn j (by omega)) | ((refine yrn [(0, 0), (1, 1)] false ?_ ?_<;>(repeat' (first|(with_reducible first|exact ya1|exact ya2|exact ya3|refine jx rfl (by first|rfl|assumption|(simp only [znl,znN5];(first|done|fail)))|exact ya5|exact ya7|exact jy|exact jz|refine jA ?_|refine ya9 ?_ ?_ ?_|refine jC rfl (by first|rfl|assumption|(simp only [znl,znN5];(first|done|fail)))|refine MR.agg (MRL.cons ?_ ?_)|refine MR.fn ?_|refine MRL.cons ?_ ?_|exact MRL.nil|refine jE ?_ ?_|exact jF|exact jG|refine yb1 ?_ ?_|refine MB.row ?_|refine jI ?_ ?_|exact ya8|refine jJ rfl (by first|rfl|assumption|(simp only [znl,znN5];(first|done|fail)))|refine yb2 ?_|rfl)|(simp only [znl,znN5];(first|done|fail))|(simp only [↓reduceIte,zlk,Nat.reduceEqDiff,reduceCtorEq])|(with_reducible first|refine jJ ?_ ?_|refine ya5 ?_|refine ju ?_|refine jv ?_|refine jw ?_|refine jx ?_ (by first|rfl|assumption|(simp only [znl,znN5];(first|done|fail)))|refine jC ?_ (by first|rfl|assumption|(simp only [znl,znN5];(first|done|fail))))))); done))
  · obtain rfl : k = m.pipes.length := by omega
    rw [pipe_miss hn] at hR
    repeat' (first|(with_reducible first|refine yrl (by constructor) ?_|refine jk (fun M hM=>?_)|(refine hM _ ?_;clear hM M)|refine xb3 (by decide) ?_|refine yqa (by assumption) ?_ ?_|refine yqb (by assumption) ?_ ?_)|((with_reducible refine je ?_)<;>(first|rfl|assumption|(simp only [znl,znN5];(first|done|fail))))|(with_reducible refine jf (by (simp only [↓reduceIte,zlk,Nat.reduceEqDiff,reduceCtorEq]);exact rfl) ?_)|((with_reducible first|refine jg (fun hc=>?_) (fun hc=>?_)|refine jh (fun hc=>?_) (fun hc=>?_))<;>(try simp (disch:=omega) only [zhb] at hc)<;>(try (exfalso;omega))<;>(try subst hc))|(with_reducible refine ji (by omega) ?_)|(simp (config := { maxSteps := 400000 }) only [↓jt,↓reduceIte,zvs,reduceCtorEq,seval,-List.reduceReplicate,tab,encPi,Try.results146,jTA])|(simp (disch:=omega) only [ziw]))
    all_goals first
      | (exfalso; omega)
      | (rw [hR]; simp only [pipeV]; simp only [zrds]; done)
theorem users_spec (m : Mach) (hm : MFit 20000 m) (f : Int) (hf : i64R f) : Spec Try.prog 126 [encM m, .int .i64 f] (.int .i64 (usersN m.pr f)) := by
  obtain ⟨R, hR⟩ : ∃ R, R = usersN m.pr f := ⟨_, rfl⟩
  rw [← hR]
  have hl := hm.pr
  have hpR := hm.prR
  have hU : ∀ k, k ≤ m.pr.length → usersN (m.pr.take k) f ≤ 16 * k := fun k hk => by
    have := usersN_le f (m.pr.take k) fun p hp => (hpR p (List.mem_of_mem_take hp)).sp
    rw [List.length_take] at this
    omega
  obtain ⟨hp1, hp2⟩ := hf
  refine spec_ok Try.func126 rfl rfl (by kernel_rfl) (k := 2) rfl (by decide) ?_
  repeat' (first|(with_reducible first|refine yrl (by constructor) ?_|refine jk (fun M hM=>?_)|(refine hM _ ?_;clear hM M)|refine xb3 (by decide) ?_|refine yqa (by assumption) ?_ ?_|refine yqb (by assumption) ?_ ?_)|((with_reducible refine je ?_)<;>(first|rfl|assumption|(simp only [znl,znN5];(first|done|fail))))|(with_reducible refine jf (by (simp only [↓reduceIte,zlk,Nat.reduceEqDiff,reduceCtorEq]);exact rfl) ?_)|((with_reducible first|refine jg (fun hc=>?_) (fun hc=>?_)|refine jh (fun hc=>?_) (fun hc=>?_))<;>(try simp (disch:=omega) only [zhb] at hc)<;>(try (exfalso;omega))<;>(try subst hc))|(with_reducible refine ji (by omega) ?_)|(simp (config := { maxSteps := 400000 }) only [↓jt,↓reduceIte,zvs,reduceCtorEq,seval,-List.reduceReplicate,tab,Try.results126,jTA])|(simp (disch:=omega) only [ziw]))
  refine ok_loop (fun k : Nat => ⟨slots [(1, .int .i64 f), (2, .ptr 0 []), (4, .int .i64 0), (5, .int .i64 (usersN (m.pr.take k) f)), (11, encPrs m.pr), (12, .int .i64 m.pr.length), (13, .int .i64 k)], rows [(0, .row machSh (encM m))], 1⟩) (fun k => k ≤ m.pr.length) (fun k => m.pr.length - k) 0 ?_ (Nat.zero_le _) (fun k hk => ?_)
  · (refine yrn [(0, 0)] false ?_ ?_<;>(repeat' (first|(with_reducible first|exact ya1|exact ya2|exact ya3|refine jx rfl (by first|rfl|assumption|(simp only [znl,znN5];(first|done|fail)))|exact ya5|exact ya7|exact jy|exact jz|refine jA ?_|refine ya9 ?_ ?_ ?_|refine jC rfl (by first|rfl|assumption|(simp only [znl,znN5];(first|done|fail)))|refine MR.agg (MRL.cons ?_ ?_)|refine MR.fn ?_|refine MRL.cons ?_ ?_|exact MRL.nil|refine jE ?_ ?_|exact jF|exact jG|refine yb1 ?_ ?_|refine MB.row ?_|refine jI ?_ ?_|exact ya8|refine jJ rfl (by first|rfl|assumption|(simp only [znl,znN5];(first|done|fail)))|refine yb2 ?_|rfl)|(simp only [znl,znN5];(first|done|fail))|(simp only [↓reduceIte,zlk,Nat.reduceEqDiff,reduceCtorEq])|(with_reducible first|refine jJ ?_ ?_|refine ya5 ?_|refine ju ?_|refine jv ?_|refine jw ?_|refine jx ?_ (by first|rfl|assumption|(simp only [znl,znN5];(first|done|fail)))|refine jC ?_ (by first|rfl|assumption|(simp only [znl,znN5];(first|done|fail)))))))
    all_goals (first | rfl | (simp; done))
  have hUk := hU k hk
  by_cases hlt : k < m.pr.length
  · have hb := hpR _ (getD_mem' hlt)
    obtain ⟨hS1, hS2, hS3⟩ := pr3 hb
    have e1 := take_snoc m.pr k hlt
    have e2 := usersN_snoc (m.pr.take k) (m.pr.getD k default) f
    rw [← e1] at e2
    have hsl := hb.sp
    have hsR := hb.spR
    repeat' (first|(with_reducible first|refine yrl (by constructor) ?_|refine jk (fun M hM=>?_)|(refine hM _ ?_;clear hM M)|refine xb3 (by decide) ?_|refine yqa (by assumption) ?_ ?_|refine yqb (by assumption) ?_ ?_)|((with_reducible refine je ?_)<;>(first|rfl|assumption|(simp only [znl,znN5];(first|done|fail))))|(with_reducible refine jf (by (simp only [↓reduceIte,zlk,Nat.reduceEqDiff,reduceCtorEq]);exact rfl) ?_)|((with_reducible first|refine jg (fun hc=>?_) (fun hc=>?_)|refine jh (fun hc=>?_) (fun hc=>?_))<;>(try simp (disch:=omega) only [zhb] at hc)<;>(try (exfalso;omega))<;>(try subst hc))|(with_reducible refine ji (by omega) ?_)|(simp (config := { maxSteps := 400000 }) only [↓jt,↓reduceIte,zvs,reduceCtorEq,seval,-List.reduceReplicate,tab,hS1,hS2,hS3,encPr,Try.results126,jTA])|(simp (disch:=omega) only [ziw]))
    refine ok_loop (fun j : Nat => ⟨slots [(1, .int .i64 f), (2, .ptr 0 []), (4, .int .i64 0), (5, .int .i64 ((usersN (m.pr.take k) f : Int) + usersS f ((m.pr.getD k default).sp.take j))), (11, encPrs m.pr), (12, .int .i64 m.pr.length), (13, .int .i64 k), (18, .agg ((m.pr.getD k default).sp.map encPte)), (19, .int .i64 j)], rows [(0, .row machSh (encM m))], 1⟩) (fun j => j ≤ 16) (fun j => 16 - j) 0 ?_ (Nat.zero_le _) (fun j hj => ?_)
    · (refine yrn [(0, 0)] false ?_ ?_<;>(repeat' (first|(with_reducible first|exact ya1|exact ya2|exact ya3|refine jx rfl (by first|rfl|assumption|(simp only [znl,znN5];(first|done|fail)))|exact ya5|exact ya7|exact jy|exact jz|refine jA ?_|refine ya9 ?_ ?_ ?_|refine jC rfl (by first|rfl|assumption|(simp only [znl,znN5];(first|done|fail)))|refine MR.agg (MRL.cons ?_ ?_)|refine MR.fn ?_|refine MRL.cons ?_ ?_|exact MRL.nil|refine jE ?_ ?_|exact jF|exact jG|refine yb1 ?_ ?_|refine MB.row ?_|refine jI ?_ ?_|exact ya8|refine jJ rfl (by first|rfl|assumption|(simp only [znl,znN5];(first|done|fail)))|refine yb2 ?_|rfl)|(simp only [znl,znN5];(first|done|fail))|(simp only [↓reduceIte,zlk,Nat.reduceEqDiff,reduceCtorEq])|(with_reducible first|refine jJ ?_ ?_|refine ya5 ?_|refine ju ?_|refine jv ?_|refine jw ?_|refine jx ?_ (by first|rfl|assumption|(simp only [znl,znN5];(first|done|fail)))|refine jC ?_ (by first|rfl|assumption|(simp only [znl,znN5];(first|done|fail)))))))
      all_goals (first | rfl | (simp [usersS]; done))
    have hUj := usersS_le f ((m.pr.getD k default).sp.take j)
    rw [List.length_take] at hUj
    by_cases hjlt : j < 16
    · have hpb := hsR _ (getD_mem' (show j < (m.pr.getD k default).sp.length by omega))
      have e3 := take_snoc (m.pr.getD k default).sp j (by omega)
      have e4 := usersS_snoc f ((m.pr.getD k default).sp.take j) ((m.pr.getD k default).sp.getD j default)
      rw [← e3] at e4
      by_cases hq : ((m.pr.getD k default).sp.getD j default).is = true ∧ ((m.pr.getD k default).sp.getD j default).fr = f
      · rw [if_pos hq] at e4
        obtain ⟨q1, q2⟩ := hq
        repeat' (first|(with_reducible first|refine yrl (by constructor) ?_|refine jk (fun M hM=>?_)|(refine hM _ ?_;clear hM M)|refine xb3 (by decide) ?_|refine yqa (by assumption) ?_ ?_|refine yqb (by assumption) ?_ ?_)|((with_reducible refine je ?_)<;>(first|rfl|assumption|(simp only [znl,znN5];(first|done|fail))))|(with_reducible refine jf (by (simp only [↓reduceIte,zlk,Nat.reduceEqDiff,reduceCtorEq]);exact rfl) ?_)|((with_reducible first|refine jg (fun hc=>?_) (fun hc=>?_)|refine jh (fun hc=>?_) (fun hc=>?_))<;>(try simp (disch:=omega) only [zhb] at hc)<;>(try (exfalso;omega))<;>(try subst hc))|(with_reducible refine ji (by omega) ?_)|(simp (config := { maxSteps := 400000 }) only [↓jt,↓reduceIte,zvs,reduceCtorEq,seval,-List.reduceReplicate,tab,hS1,hS2,hS3,encPte,q1,Try.results126,jTA])|(simp (disch:=omega) only [ziw]))
        all_goals first
          | (exfalso; omega)
          | (refine xl1 (j + 1) ?_ (by show j + 1 ≤ 16; omega) (by show 16 - (j + 1) < 16 - j; omega); (refine yrn [(0, 0)] false ?_ ?_<;>(repeat' (first|(with_reducible first|exact ya1|exact ya2|exact ya3|refine jx rfl (by first|rfl|assumption|(simp only [znl,znN5];(first|done|fail)))|exact ya5|exact ya7|exact jy|exact jz|refine jA ?_|refine ya9 ?_ ?_ ?_|refine jC rfl (by first|rfl|assumption|(simp only [znl,znN5];(first|done|fail)))|refine MR.agg (MRL.cons ?_ ?_)|refine MR.fn ?_|refine MRL.cons ?_ ?_|exact MRL.nil|refine jE ?_ ?_|exact jF|exact jG|refine yb1 ?_ ?_|refine MB.row ?_|refine jI ?_ ?_|exact ya8|refine jJ rfl (by first|rfl|assumption|(simp only [znl,znN5];(first|done|fail)))|refine yb2 ?_|rfl)|(simp only [znl,znN5];(first|done|fail))|(simp only [↓reduceIte,zlk,Nat.reduceEqDiff,reduceCtorEq])|(with_reducible first|refine jJ ?_ ?_|refine ya5 ?_|refine ju ?_|refine jv ?_|refine jw ?_|refine jx ?_ (by first|rfl|assumption|(simp only [znl,znN5];(first|done|fail)))|refine jC ?_ (by first|rfl|assumption|(simp only [znl,znN5];(first|done|fail))))))); all_goals (rw [e4]; omega))
      · rw [if_neg hq] at e4
        cases hi : ((m.pr.getD k default).sp.getD j default).is with
        | true =>
          have hq2 : ((m.pr.getD k default).sp.getD j default).fr ≠ f := fun h => hq ⟨hi, h⟩
          repeat' (first|(with_reducible first|refine yrl (by constructor) ?_|refine jk (fun M hM=>?_)|(refine hM _ ?_;clear hM M)|refine xb3 (by decide) ?_|refine yqa (by assumption) ?_ ?_|refine yqb (by assumption) ?_ ?_)|((with_reducible refine je ?_)<;>(first|rfl|assumption|(simp only [znl,znN5];(first|done|fail))))|(with_reducible refine jf (by (simp only [↓reduceIte,zlk,Nat.reduceEqDiff,reduceCtorEq]);exact rfl) ?_)|((with_reducible first|refine jg (fun hc=>?_) (fun hc=>?_)|refine jh (fun hc=>?_) (fun hc=>?_))<;>(try simp (disch:=omega) only [zhb] at hc)<;>(try (exfalso;omega))<;>(try subst hc))|(with_reducible refine ji (by omega) ?_)|(simp (config := { maxSteps := 400000 }) only [↓jt,↓reduceIte,zvs,reduceCtorEq,seval,-List.reduceReplicate,tab,hS1,hS2,hS3,encPte,hi,Try.results126,jTA])|(simp (disch:=omega) only [ziw]))
          all_goals first
            | (exfalso; omega)
            | (refine xl1 (j + 1) ?_ (by show j + 1 ≤ 16; omega) (by show 16 - (j + 1) < 16 - j; omega); (refine yrn [(0, 0)] false ?_ ?_<;>(repeat' (first|(with_reducible first|exact ya1|exact ya2|exact ya3|refine jx rfl (by first|rfl|assumption|(simp only [znl,znN5];(first|done|fail)))|exact ya5|exact ya7|exact jy|exact jz|refine jA ?_|refine ya9 ?_ ?_ ?_|refine jC rfl (by first|rfl|assumption|(simp only [znl,znN5];(first|done|fail)))|refine MR.agg (MRL.cons ?_ ?_)|refine MR.fn ?_|refine MRL.cons ?_ ?_|exact MRL.nil|refine jE ?_ ?_|exact jF|exact jG|refine yb1 ?_ ?_|refine MB.row ?_|refine jI ?_ ?_|exact ya8|refine jJ rfl (by first|rfl|assumption|(simp only [znl,znN5];(first|done|fail)))|refine yb2 ?_|rfl)|(simp only [znl,znN5];(first|done|fail))|(simp only [↓reduceIte,zlk,Nat.reduceEqDiff,reduceCtorEq])|(with_reducible first|refine jJ ?_ ?_|refine ya5 ?_|refine ju ?_|refine jv ?_|refine jw ?_|refine jx ?_ (by first|rfl|assumption|(simp only [znl,znN5];(first|done|fail)))|refine jC ?_ (by first|rfl|assumption|(simp only [znl,znN5];(first|done|fail))))))); all_goals (rw [e4]; omega))
            | (exfalso; exact absurd hc hq2)
        | false =>
          repeat' (first|(with_reducible first|refine yrl (by constructor) ?_|refine jk (fun M hM=>?_)|(refine hM _ ?_;clear hM M)|refine xb3 (by decide) ?_|refine yqa (by assumption) ?_ ?_|refine yqb (by assumption) ?_ ?_)|((with_reducible refine je ?_)<;>(first|rfl|assumption|(simp only [znl,znN5];(first|done|fail))))|(with_reducible refine jf (by (simp only [↓reduceIte,zlk,Nat.reduceEqDiff,reduceCtorEq]);exact rfl) ?_)|((with_reducible first|refine jg (fun hc=>?_) (fun hc=>?_)|refine jh (fun hc=>?_) (fun hc=>?_))<;>(try simp (disch:=omega) only [zhb] at hc)<;>(try (exfalso;omega))<;>(try subst hc))|(with_reducible refine ji (by omega) ?_)|(simp (config := { maxSteps := 400000 }) only [↓jt,↓reduceIte,zvs,reduceCtorEq,seval,-List.reduceReplicate,tab,hS1,hS2,hS3,encPte,hi,Try.results126,jTA])|(simp (disch:=omega) only [ziw]))
          all_goals first
            | (exfalso; omega)
            | (refine xl1 (j + 1) ?_ (by show j + 1 ≤ 16; omega) (by show 16 - (j + 1) < 16 - j; omega); (refine yrn [(0, 0)] false ?_ ?_<;>(repeat' (first|(with_reducible first|exact ya1|exact ya2|exact ya3|refine jx rfl (by first|rfl|assumption|(simp only [znl,znN5];(first|done|fail)))|exact ya5|exact ya7|exact jy|exact jz|refine jA ?_|refine ya9 ?_ ?_ ?_|refine jC rfl (by first|rfl|assumption|(simp only [znl,znN5];(first|done|fail)))|refine MR.agg (MRL.cons ?_ ?_)|refine MR.fn ?_|refine MRL.cons ?_ ?_|exact MRL.nil|refine jE ?_ ?_|exact jF|exact jG|refine yb1 ?_ ?_|refine MB.row ?_|refine jI ?_ ?_|exact ya8|refine jJ rfl (by first|rfl|assumption|(simp only [znl,znN5];(first|done|fail)))|refine yb2 ?_|rfl)|(simp only [znl,znN5];(first|done|fail))|(simp only [↓reduceIte,zlk,Nat.reduceEqDiff,reduceCtorEq])|(with_reducible first|refine jJ ?_ ?_|refine ya5 ?_|refine ju ?_|refine jv ?_|refine jw ?_|refine jx ?_ (by first|rfl|assumption|(simp only [znl,znN5];(first|done|fail)))|refine jC ?_ (by first|rfl|assumption|(simp only [znl,znN5];(first|done|fail))))))); all_goals (rw [e4]; omega))
    · obtain rfl : j = 16 := by omega
      have e5 : (m.pr.getD k default).sp.take 16 = (m.pr.getD k default).sp := List.take_of_length_le (by omega)
      rw [e5] at *
      repeat' (first|(with_reducible first|refine yrl (by constructor) ?_|refine jk (fun M hM=>?_)|(refine hM _ ?_;clear hM M)|refine xb3 (by decide) ?_|refine yqa (by assumption) ?_ ?_|refine yqb (by assumption) ?_ ?_)|((with_reducible refine je ?_)<;>(first|rfl|assumption|(simp only [znl,znN5];(first|done|fail))))|(with_reducible refine jf (by (simp only [↓reduceIte,zlk,Nat.reduceEqDiff,reduceCtorEq]);exact rfl) ?_)|((with_reducible first|refine jg (fun hc=>?_) (fun hc=>?_)|refine jh (fun hc=>?_) (fun hc=>?_))<;>(try simp (disch:=omega) only [zhb] at hc)<;>(try (exfalso;omega))<;>(try subst hc))|(with_reducible refine ji (by omega) ?_)|(simp (config := { maxSteps := 400000 }) only [↓jt,↓reduceIte,zvs,reduceCtorEq,seval,-List.reduceReplicate,tab,hS1,hS2,hS3,Try.results126,jTA])|(simp (disch:=omega) only [ziw]))
      all_goals first
        | (refine xl1 (k + 1) ?_ (by show k + 1 ≤ m.pr.length; omega) (by show m.pr.length - (k + 1) < m.pr.length - k; omega); (refine yrn [(0, 0)] false ?_ ?_<;>(repeat' (first|(with_reducible first|exact ya1|exact ya2|exact ya3|refine jx rfl (by first|rfl|assumption|(simp only [znl,znN5];(first|done|fail)))|exact ya5|exact ya7|exact jy|exact jz|refine jA ?_|refine ya9 ?_ ?_ ?_|refine jC rfl (by first|rfl|assumption|(simp only [znl,znN5];(first|done|fail)))|refine MR.agg (MRL.cons ?_ ?_)|refine MR.fn ?_|refine MRL.cons ?_ ?_|exact MRL.nil|refine jE ?_ ?_|exact jF|exact jG|refine yb1 ?_ ?_|refine MB.row ?_|refine jI ?_ ?_|exact ya8|refine jJ rfl (by first|rfl|assumption|(simp only [znl,znN5];(first|done|fail)))|refine yb2 ?_|rfl)|(simp only [znl,znN5];(first|done|fail))|(simp only [↓reduceIte,zlk,Nat.reduceEqDiff,reduceCtorEq])|(with_reducible first|refine jJ ?_ ?_|refine ya5 ?_|refine ju ?_|refine jv ?_|refine jw ?_|refine jx ?_ (by first|rfl|assumption|(simp only [znl,znN5];(first|done|fail)))|refine jC ?_ (by first|rfl|assumption|(simp only [znl,znN5];(first|done|fail))))))); all_goals (rw [e2]; omega))
  · obtain rfl : k = m.pr.length := by omega
    rw [List.take_length] at *
    repeat' (first|(with_reducible first|refine yrl (by constructor) ?_|refine jk (fun M hM=>?_)|(refine hM _ ?_;clear hM M)|refine xb3 (by decide) ?_|refine yqa (by assumption) ?_ ?_|refine yqb (by assumption) ?_ ?_)|((with_reducible refine je ?_)<;>(first|rfl|assumption|(simp only [znl,znN5];(first|done|fail))))|(with_reducible refine jf (by (simp only [↓reduceIte,zlk,Nat.reduceEqDiff,reduceCtorEq]);exact rfl) ?_)|((with_reducible first|refine jg (fun hc=>?_) (fun hc=>?_)|refine jh (fun hc=>?_) (fun hc=>?_))<;>(try simp (disch:=omega) only [zhb] at hc)<;>(try (exfalso;omega))<;>(try subst hc))|(with_reducible refine ji (by omega) ?_)|(simp (config := { maxSteps := 400000 }) only [↓jt,↓reduceIte,zvs,reduceCtorEq,seval,-List.reduceReplicate,tab,List.take_length,Try.results126,jTA])|(simp (disch:=omega) only [ziw]))
    all_goals first
      | (simp only [zrds]; rw [hR]; done)
      | (simp only [zrds]; omega)
end Go.Proofs.Ytpdhdkpebbfnnaa.V
end
section
namespace Go.Proofs.Ytpdhdkpebbfnnaa.V
open Go
set_option maxRecDepth 100000
def znN6 := And.intro @jO <| And.intro @jP <| And.intro @jQ <| And.intro @jR <| And.intro @jS <| And.intro @jT <| And.intro @jU <| True.intro
set_option maxHeartbeats 1000000
theorem fd_spec (m : Mach) (hm : MFit 20000 m) (f : Fdd) (hf : fdR f) : Spec Try.prog 127 [encM m, encFd f] (.bool (fdB m.pipes f)) := by
  obtain ⟨R, hR⟩ : ∃ R, R = fdB m.pipes f := ⟨_, rfl⟩
  rw [← hR]
  have hP := rpipe_spec m hm f.n hf.2.1
  unfold fdB at hR
  obtain ⟨⟨f1, f2⟩, ⟨f3, f4⟩, f5, f6⟩ := hf
  cases hp : pipeO m.pipes f.n with
  | some p =>
    rw [hp] at hP hR
    simp only [pipeV,encPi] at hP
    simp only [Option.isSome_some,Bool.and_true] at hR
    refine spec_ok Try.func127 rfl rfl (by kernel_rfl) (k := 2) rfl (by decide) ?_
    repeat' (first|(with_reducible first|refine yrl (by constructor) ?_|refine jk (fun M hM=>?_)|(refine hM _ ?_;clear hM M)|refine xb3 (by decide) ?_|refine yqa (by assumption) ?_ ?_|refine yqb (by assumption) ?_ ?_)|((with_reducible refine je ?_)<;>(first|rfl|assumption|(simp only [znl,znN6];(first|done|fail))))|(with_reducible refine jf (by (simp only [↓reduceIte,zlk,Nat.reduceEqDiff,reduceCtorEq]);exact rfl) ?_)|((with_reducible first|refine jg (fun hc=>?_) (fun hc=>?_)|refine jh (fun hc=>?_) (fun hc=>?_))<;>(try simp (disch:=omega) only [zhb] at hc)<;>(try (exfalso;omega))<;>(try subst hc))|(with_reducible refine ji (by omega) ?_)|(simp (config := { maxSteps := 400000 }) only [↓jt,↓reduceIte,zvs,reduceCtorEq,seval,-List.reduceReplicate,tab,encFd,Try.results127,jTA])|(simp (disch:=omega) only [ziw]))
    all_goals first
      | (exfalso; omega)
      | (simp only [zrds]; rw [hR]; (repeat' split) <;> first | rfl | (exfalso; omega) | (rw [Bool.eq_iff_iff]; simp only [beq_iff_eq,decide_eq_true_eq,Bool.and_eq_true,Bool.false_eq_true,true_iff,iff_true,false_iff,iff_false]; omega))
  | none =>
    rw [hp] at hP hR
    simp only [pipeV,encPi] at hP
    simp only [Option.isSome_none,Bool.and_false] at hR
    refine spec_ok Try.func127 rfl rfl (by kernel_rfl) (k := 2) rfl (by decide) ?_
    repeat' (first|(with_reducible first|refine yrl (by constructor) ?_|refine jk (fun M hM=>?_)|(refine hM _ ?_;clear hM M)|refine xb3 (by decide) ?_|refine yqa (by assumption) ?_ ?_|refine yqb (by assumption) ?_ ?_)|((with_reducible refine je ?_)<;>(first|rfl|assumption|(simp only [znl,znN6];(first|done|fail))))|(with_reducible refine jf (by (simp only [↓reduceIte,zlk,Nat.reduceEqDiff,reduceCtorEq]);exact rfl) ?_)|((with_reducible first|refine jg (fun hc=>?_) (fun hc=>?_)|refine jh (fun hc=>?_) (fun hc=>?_))<;>(try simp (disch:=omega) only [zhb] at hc)<;>(try (exfalso;omega))<;>(try subst hc))|(with_reducible refine ji (by omega) ?_)|(simp (config := { maxSteps := 400000 }) only [↓jt,↓reduceIte,zvs,reduceCtorEq,seval,-List.reduceReplicate,tab,encFd,Try.results127,jTA])|(simp (disch:=omega) only [ziw]))
    all_goals first
      | (exfalso; omega)
      | (simp only [zrds]; rw [hR]; (repeat' split) <;> first | rfl | (exfalso; omega) | (rw [Bool.eq_iff_iff]; simp only [beq_iff_eq,decide_eq_true_eq,Bool.and_eq_true,Bool.false_eq_true,true_iff,iff_true,false_iff,iff_false]; omega))
end Go.Proofs.Ytpdhdkpebbfnnaa.V
end
section
namespace Go.Proofs.Ytpdhdkpebbfnnaa.V
open Go
set_option maxRecDepth 100000
def znN7 := And.intro @jO <| And.intro @jP <| And.intro @jQ <| And.intro @jR <| And.intro @jS <| And.intro @jT <| And.intro @jU <| True.intro
set_option maxHeartbeats 8000000
def headP (next pid st r0 par why n code : Int) (lb : Prop) : Prop :=
  1 ≤ pid ∧ pid < next ∧ (st = 1 ∨ st = 2 ∨ st = 3) ∧ r0 = 0 ∧ (lb ∨ (st ≠ 3 ∧ par = 0)) ∧ (st = 2 ↔ why ≠ 0) ∧ 0 ≤ why ∧ why ≤ 5 ∧ (st = 2 ∨ n = 0) ∧ (st = 3 ∨ code = 0)
theorem procH_iff (m : Mach) (p : Pr) : procH m p = true ↔ headP m.next p.pid p.st (p.rs.getD 0 default) p.par p.why p.n p.code (livesB m.pr p.par = true) := by
  unfold procH headP
  rw [show p.rs.getD 0 default = p.rs.getD 0 0 from rfl]
  cases livesB m.pr p.par
  · simp only [true_and,Bool.false_eq_true,false_or]
    (repeat' split)
    all_goals (simp only [Bool.false_eq_true,false_iff,true_iff]; omega)
  · simp only [Bool.true_eq_false,false_and,if_false,true_or,true_and]
    (repeat' split)
    all_goals (simp only [Bool.false_eq_true,false_iff,true_iff]; omega)
theorem all_take {α : Type} [Inhabited α] (l : List α) (q : α → Bool) (h : ∀ j, j < l.length → q (l.getD j default) = true) : l.all q = true := by
  rw [List.all_eq_true]
  intro x hx
  obtain ⟨j, hj, e⟩ := List.mem_iff_getElem.1 hx
  have := h j hj
  rw [List.getD_eq_getElem?_getD, List.getElem?_eq_getElem hj] at this
  rw [← e]
  exact this
theorem all_not {α : Type} [Inhabited α] (l : List α) (q : α → Bool) (k : Nat) (h : k < l.length) (hq : q (l.getD k default) = false) : l.all q = false := by
  rw [List.all_eq_false]
  exact ⟨_, getD_mem' h, by rw [hq]; simp⟩
theorem st_why (a b : Int) : ((a == 2) = (b != 0)) ↔ (a = 2 ↔ b ≠ 0) := by
  rw [Bool.eq_iff_iff]; simp
theorem fit_pt (a b : Bool) (c : Int) : Fit (EQ.st [EQ.bool, EQ.bool, EQ.int .i64]) (.agg [.bool a, .bool b, .int .i64 c]) := by simp [Fit, FitL]
theorem veq_pt (a b a' b' : Bool) (c c' : Int) : veq (.agg [.bool a, .bool b, .int .i64 c]) (.agg [.bool a', .bool b', .int .i64 c']) = ((a == a') && ((b == b') && (c == c'))) := by
  simp only [veq,veqs,Bool.and_true]
abbrev encPrA (p : Pr) : VV := .agg [.int .i64 p.pid, .int .i64 p.par, .int .i64 p.st, .agg [.agg (p.rs.map (.int .u32)), .int .u32 p.pc], .agg (p.sp.map encPte), .agg (p.fds.map encFd), .bool p.mask, .int .u32 p.code, .int .i64 p.why, .int .u64 p.n]
theorem pteB_is {m : Mach} {p : Pr} {x : Pte} (h : x.is = true) : pteB m p x = true ↔ (p.st ≠ 3 ∧ 0 ≤ x.fr ∧ x.fr < m.fr.length ∧ usersN m.pr x.fr = 1) := by
  unfold pteB; rw [if_pos h, decide_eq_true_eq]
theorem pteB_no {m : Mach} {p : Pr} {x : Pte} (h : x.is = false) : pteB m p x = true ↔ (x.wr = false ∧ x.fr = 0) := by
  unfold pteB; rw [if_neg (by rw [h]; simp), decide_eq_true_eq]
theorem process_spec (m : Mach) (hm : MFit 20000 m) (p : Pr) (hp : PrR p) : Spec Try.prog 87 [encM m, encPr p] (.bool (procB m p)) := by
  obtain ⟨R, hR⟩ : ∃ R, R = procB m p := ⟨_, rfl⟩
  rw [← hR]
  have hL := lives_spec m hm p.par hp.par
  have hI := procH_iff m p
  obtain ⟨hS1, hS2, hS3⟩ := pr3 hp
  have hrl := hp.rs
  have hsl := hp.sp
  have hfl := hp.fds
  have hsR := hp.spR
  have hfR := hp.fdsR
  have hfr := hm.fr
  have hfa : ∀ b : Bool, (false && b) = false := fun _ => rfl
  unfold headP at hI
  obtain ⟨lb, hlb⟩ : ∃ lb, livesB m.pr p.par = lb := ⟨_, rfl⟩
  rw [hlb] at hL hI
  cases hH : procH m p with
  | false =>
    have hF : R = false := by rw [hR, procB, hH]; rfl
    have hI := mt hI.2 (by rw [hH]; simp)
    rw [hF]
    cases lb
    all_goals
      simp only [true_or,true_and,Bool.false_eq_true,false_or] at hI
      refine spec_ok Try.func87 rfl rfl (by kernel_rfl) (k := 2) rfl (by decide) ?_
      repeat' (first|(with_reducible first|refine yrl (by constructor) ?_|refine jk (fun M hM=>?_)|(refine hM _ ?_;clear hM M)|refine xb3 (by decide) ?_|refine yqa (by assumption) ?_ ?_|refine yqb (by assumption) ?_ ?_)|((with_reducible refine je ?_)<;>(first|rfl|assumption|(simp only [znl,znN7];(first|done|fail))))|(with_reducible refine jf (by (simp only [↓reduceIte,zlk,Nat.reduceEqDiff,reduceCtorEq]);exact rfl) ?_)|((with_reducible first|refine jg (fun hc=>?_) (fun hc=>?_)|refine jh (fun hc=>?_) (fun hc=>?_))<;>(try simp (disch:=omega) only [zhb] at hc)<;>(try (exfalso;omega))<;>(try subst hc))|(with_reducible refine ji (by omega) ?_)|(simp (config := { maxSteps := 400000 }) only [↓jt,↓reduceIte,zvs,reduceCtorEq,seval,-List.reduceReplicate,tab,hS1,hS2,hS3,encPr,Try.results87,jTA])|(simp (disch:=omega) only [ziw]))
      all_goals (try simp only [st_why] at *)
      all_goals first
        | (exfalso; omega)
        | (simp only [zrds]; done)
  | true =>
    have hI := hI.1 hH
    cases lb
    all_goals
      simp only [true_or,true_and,Bool.false_eq_true,false_or] at hI
      refine spec_ok Try.func87 rfl rfl (by kernel_rfl) (k := 2) rfl (by decide) ?_
      repeat' (first|(with_reducible first|refine yrl (by constructor) ?_|refine jk (fun M hM=>?_)|(refine hM _ ?_;clear hM M)|refine xb3 (by decide) ?_|refine yqa (by assumption) ?_ ?_|refine yqb (by assumption) ?_ ?_)|((with_reducible refine je ?_)<;>(first|rfl|assumption|(simp only [znl,znN7];(first|done|fail))))|(with_reducible refine jf (by (simp only [↓reduceIte,zlk,Nat.reduceEqDiff,reduceCtorEq]);exact rfl) ?_)|((with_reducible first|refine jg (fun hc=>?_) (fun hc=>?_)|refine jh (fun hc=>?_) (fun hc=>?_))<;>(try simp (disch:=omega) only [zhb] at hc)<;>(try (exfalso;omega))<;>(try subst hc))|(with_reducible refine ji (by omega) ?_)|(simp (config := { maxSteps := 400000 }) only [↓jt,↓reduceIte,zvs,reduceCtorEq,seval,-List.reduceReplicate,tab,hS1,hS2,hS3,encPr,Try.results87,jTA])|(simp (disch:=omega) only [ziw]))
      all_goals (try simp only [st_why] at *)
      all_goals (try (exfalso; omega))
      all_goals refine ok_loop (fun j : Nat => ⟨slots [(2, .ptr 0 []), (3, .ptr 1 []), (4, .bool false), (5, .bool (p.st == 3)), (95, .agg (p.sp.map encPte)), (96, .int .i64 j)], rows [(0, .row machSh (encM m)), (1, .row prSh (encPrA p))], 2⟩) (fun j => j ≤ 16 ∧ ∀ i, i < j → pteB m p (p.sp.getD i default) = true) (fun j => 16 - j) 0 ?_ ⟨Nat.zero_le _, fun i hi => by omega⟩ (fun j hj => ?_)
      all_goals first
        | ((refine yrn [(0, 0), (1, 1)] false ?_ ?_<;>(repeat' (first|(with_reducible first|exact ya1|exact ya2|exact ya3|refine jx rfl (by first|rfl|assumption|(simp only [znl,znN7];(first|done|fail)))|exact ya5|exact ya7|exact jy|exact jz|refine jA ?_|refine ya9 ?_ ?_ ?_|refine jC rfl (by first|rfl|assumption|(simp only [znl,znN7];(first|done|fail)))|refine MR.agg (MRL.cons ?_ ?_)|refine MR.fn ?_|refine MRL.cons ?_ ?_|exact MRL.nil|refine jE ?_ ?_|exact jF|exact jG|refine yb1 ?_ ?_|refine MB.row ?_|refine jI ?_ ?_|exact ya8|refine jJ rfl (by first|rfl|assumption|(simp only [znl,znN7];(first|done|fail)))|refine yb2 ?_|rfl)|(simp only [znl,znN7];(first|done|fail))|(simp only [↓reduceIte,zlk,Nat.reduceEqDiff,reduceCtorEq])|(with_reducible first|refine jJ ?_ ?_|refine ya5 ?_|refine ju ?_|refine jv ?_|refine jw ?_|refine jx ?_ (by first|rfl|assumption|(simp only [znl,znN7];(first|done|fail)))|refine jC ?_ (by first|rfl|assumption|(simp only [znl,znN7];(first|done|fail))))))); done)
        | skip
      all_goals
        obtain ⟨hj, hn⟩ := hj
        by_cases hjlt : j < 16
        · have hpb := hsR _ (getD_mem' (show j < p.sp.length by omega))
          have hUx := users_spec m hm _ hpb
          have hst : pteB m p (p.sp.getD j default) = true → ∀ i, i < j + 1 → pteB m p (p.sp.getD i default) = true := fun hb i hi => by
            by_cases e : i = j
            · rw [e]; exact hb
            · exact hn i (by omega)
          have hF : pteB m p (p.sp.getD j default) ≠ true → R = false := fun h => by
            rw [hR, procB, all_not p.sp (pteB m p) j (by omega) (Bool.not_eq_true _ ▸ h)]; simp
          cases hi : (p.sp.getD j default).is with
          | true =>
            have hB := pteB_is (m := m) (p := p) hi
            repeat' (first|(with_reducible first|refine yrl (by constructor) ?_|refine jk (fun M hM=>?_)|(refine hM _ ?_;clear hM M)|refine xb3 (by decide) ?_|refine yqa (by assumption) ?_ ?_|refine yqb (by assumption) ?_ ?_)|((with_reducible refine je ?_)<;>(first|rfl|assumption|(simp only [znl,znN7];(first|done|fail))))|(with_reducible refine jf (by (simp only [↓reduceIte,zlk,Nat.reduceEqDiff,reduceCtorEq]);exact rfl) ?_)|((with_reducible first|refine jg (fun hc=>?_) (fun hc=>?_)|refine jh (fun hc=>?_) (fun hc=>?_))<;>(try simp (disch:=omega) only [zhb] at hc)<;>(try (exfalso;omega))<;>(try subst hc))|(with_reducible refine ji (by omega) ?_)|(simp (config := { maxSteps := 400000 }) only [↓jt,↓reduceIte,zvs,reduceCtorEq,seval,-List.reduceReplicate,tab,hS1,hS2,hS3,encPr,encPte,hi,fit_pt,veq_pt,Try.results87,jTA])|(simp (disch:=omega) only [ziw]))
            all_goals first
              | (exfalso; omega)
              | (rw [hF (fun h => by have := hB.1 h; omega)]; simp only [zrds]; done)
              | (refine xl1 (j + 1) ?_ ⟨by omega, hst (hB.2 (by omega))⟩ (by show 16 - (j + 1) < 16 - j; omega); (refine yrn [(0, 0), (1, 1)] false ?_ ?_<;>(repeat' (first|(with_reducible first|exact ya1|exact ya2|exact ya3|refine jx rfl (by first|rfl|assumption|(simp only [znl,znN7];(first|done|fail)))|exact ya5|exact ya7|exact jy|exact jz|refine jA ?_|refine ya9 ?_ ?_ ?_|refine jC rfl (by first|rfl|assumption|(simp only [znl,znN7];(first|done|fail)))|refine MR.agg (MRL.cons ?_ ?_)|refine MR.fn ?_|refine MRL.cons ?_ ?_|exact MRL.nil|refine jE ?_ ?_|exact jF|exact jG|refine yb1 ?_ ?_|refine MB.row ?_|refine jI ?_ ?_|exact ya8|refine jJ rfl (by first|rfl|assumption|(simp only [znl,znN7];(first|done|fail)))|refine yb2 ?_|rfl)|(simp only [znl,znN7];(first|done|fail))|(simp only [↓reduceIte,zlk,Nat.reduceEqDiff,reduceCtorEq])|(with_reducible first|refine jJ ?_ ?_|refine ya5 ?_|refine ju ?_|refine jv ?_|refine jw ?_|refine jx ?_ (by first|rfl|assumption|(simp only [znl,znN7];(first|done|fail)))|refine jC ?_ (by first|rfl|assumption|(simp only [znl,znN7];(first|done|fail))))))); done)
          | false =>
            have hB := pteB_no (m := m) (p := p) hi
            cases hw : (p.sp.getD j default).wr with
            | true =>
              rw [hF (fun h => by have := (hB.1 h).1; rw [hw] at this; cases this)]
              repeat' (first|(with_reducible first|refine yrl (by constructor) ?_|refine jk (fun M hM=>?_)|(refine hM _ ?_;clear hM M)|refine xb3 (by decide) ?_|refine yqa (by assumption) ?_ ?_|refine yqb (by assumption) ?_ ?_)|((with_reducible refine je ?_)<;>(first|rfl|assumption|(simp only [znl,znN7];(first|done|fail))))|(with_reducible refine jf (by (simp only [↓reduceIte,zlk,Nat.reduceEqDiff,reduceCtorEq]);exact rfl) ?_)|((with_reducible first|refine jg (fun hc=>?_) (fun hc=>?_)|refine jh (fun hc=>?_) (fun hc=>?_))<;>(try simp (disch:=omega) only [zhb] at hc)<;>(try (exfalso;omega))<;>(try subst hc))|(with_reducible refine ji (by omega) ?_)|(simp (config := { maxSteps := 400000 }) only [↓jt,↓reduceIte,zvs,reduceCtorEq,seval,-List.reduceReplicate,tab,hS1,hS2,hS3,encPr,encPte,hi,hw,hfa,fit_pt,veq_pt,Try.results87,jTA])|(simp (disch:=omega) only [ziw]))
              all_goals first
                | (exfalso; omega)
                | (simp only [zrds]; done)
            | false =>
              repeat' (first|(with_reducible first|refine yrl (by constructor) ?_|refine jk (fun M hM=>?_)|(refine hM _ ?_;clear hM M)|refine xb3 (by decide) ?_|refine yqa (by assumption) ?_ ?_|refine yqb (by assumption) ?_ ?_)|((with_reducible refine je ?_)<;>(first|rfl|assumption|(simp only [znl,znN7];(first|done|fail))))|(with_reducible refine jf (by (simp only [↓reduceIte,zlk,Nat.reduceEqDiff,reduceCtorEq]);exact rfl) ?_)|((with_reducible first|refine jg (fun hc=>?_) (fun hc=>?_)|refine jh (fun hc=>?_) (fun hc=>?_))<;>(try simp (disch:=omega) only [zhb] at hc)<;>(try (exfalso;omega))<;>(try subst hc))|(with_reducible refine ji (by omega) ?_)|(simp (config := { maxSteps := 400000 }) only [↓jt,↓reduceIte,zvs,reduceCtorEq,seval,-List.reduceReplicate,tab,hS1,hS2,hS3,encPr,encPte,hi,hw,hfa,fit_pt,veq_pt,Try.results87,jTA])|(simp (disch:=omega) only [ziw]))
              all_goals first
                | (exfalso; omega)
                | (rw [hF (fun h => by have := (hB.1 h).2; omega)]; simp only [zrds]; done)
                | (refine xl1 (j + 1) ?_ ⟨by omega, hst (hB.2 ⟨hw, by omega⟩)⟩ (by show 16 - (j + 1) < 16 - j; omega); (refine yrn [(0, 0), (1, 1)] false ?_ ?_<;>(repeat' (first|(with_reducible first|exact ya1|exact ya2|exact ya3|refine jx rfl (by first|rfl|assumption|(simp only [znl,znN7];(first|done|fail)))|exact ya5|exact ya7|exact jy|exact jz|refine jA ?_|refine ya9 ?_ ?_ ?_|refine jC rfl (by first|rfl|assumption|(simp only [znl,znN7];(first|done|fail)))|refine MR.agg (MRL.cons ?_ ?_)|refine MR.fn ?_|refine MRL.cons ?_ ?_|exact MRL.nil|refine jE ?_ ?_|exact jF|exact jG|refine yb1 ?_ ?_|refine MB.row ?_|refine jI ?_ ?_|exact ya8|refine jJ rfl (by first|rfl|assumption|(simp only [znl,znN7];(first|done|fail)))|refine yb2 ?_|rfl)|(simp only [znl,znN7];(first|done|fail))|(simp only [↓reduceIte,zlk,Nat.reduceEqDiff,reduceCtorEq])|(with_reducible first|refine jJ ?_ ?_|refine ya5 ?_|refine ju ?_|refine jv ?_|refine jw ?_|refine jx ?_ (by first|rfl|assumption|(simp only [znl,znN7];(first|done|fail)))|refine jC ?_ (by first|rfl|assumption|(simp only [znl,znN7];(first|done|fail))))))); done)
        · obtain rfl : j = 16 := by omega
          have hA := all_take p.sp (pteB m p) (by rw [hsl]; exact hn)
          repeat' (first|(with_reducible first|refine yrl (by constructor) ?_|refine jk (fun M hM=>?_)|(refine hM _ ?_;clear hM M)|refine xb3 (by decide) ?_|refine yqa (by assumption) ?_ ?_|refine yqb (by assumption) ?_ ?_)|((with_reducible refine je ?_)<;>(first|rfl|assumption|(simp only [znl,znN7];(first|done|fail))))|(with_reducible refine jf (by (simp only [↓reduceIte,zlk,Nat.reduceEqDiff,reduceCtorEq]);exact rfl) ?_)|((with_reducible first|refine jg (fun hc=>?_) (fun hc=>?_)|refine jh (fun hc=>?_) (fun hc=>?_))<;>(try simp (disch:=omega) only [zhb] at hc)<;>(try (exfalso;omega))<;>(try subst hc))|(with_reducible refine ji (by omega) ?_)|(simp (config := { maxSteps := 400000 }) only [↓jt,↓reduceIte,zvs,reduceCtorEq,seval,-List.reduceReplicate,tab,hS1,hS2,hS3,Try.results87,jTA])|(simp (disch:=omega) only [ziw]))
          refine ok_loop (fun j : Nat => ⟨slots [(2, .ptr 0 []), (3, .ptr 1 []), (4, .bool false), (5, .bool (p.st == 3)), (138, .agg (p.fds.map encFd)), (139, .int .i64 j)], rows [(0, .row machSh (encM m)), (1, .row prSh (encPrA p))], 2⟩) (fun j => j ≤ 8 ∧ ∀ i, i < j → fdsB m p (p.fds.getD i default) = true) (fun j => 8 - j) 0 ?_ ⟨Nat.zero_le _, fun i hi => by omega⟩ (fun j hj => ?_)
          · (refine yrn [(0, 0), (1, 1)] false ?_ ?_<;>(repeat' (first|(with_reducible first|exact ya1|exact ya2|exact ya3|refine jx rfl (by first|rfl|assumption|(simp only [znl,znN7];(first|done|fail)))|exact ya5|exact ya7|exact jy|exact jz|refine jA ?_|refine ya9 ?_ ?_ ?_|refine jC rfl (by first|rfl|assumption|(simp only [znl,znN7];(first|done|fail)))|refine MR.agg (MRL.cons ?_ ?_)|refine MR.fn ?_|refine MRL.cons ?_ ?_|exact MRL.nil|refine jE ?_ ?_|exact jF|exact jG|refine yb1 ?_ ?_|refine MB.row ?_|refine jI ?_ ?_|exact ya8|refine jJ rfl (by first|rfl|assumption|(simp only [znl,znN7];(first|done|fail)))|refine yb2 ?_|rfl)|(simp only [znl,znN7];(first|done|fail))|(simp only [↓reduceIte,zlk,Nat.reduceEqDiff,reduceCtorEq])|(with_reducible first|refine jJ ?_ ?_|refine ya5 ?_|refine ju ?_|refine jv ?_|refine jw ?_|refine jx ?_ (by first|rfl|assumption|(simp only [znl,znN7];(first|done|fail)))|refine jC ?_ (by first|rfl|assumption|(simp only [znl,znN7];(first|done|fail)))))))
          obtain ⟨hj, hn⟩ := hj
          by_cases hjlt : j < 8
          · have hfb := hfR _ (getD_mem' (show j < p.fds.length by omega))
            have hFd := fd_spec m hm _ hfb
            obtain ⟨⟨g1, g2⟩, g3, g4⟩ := hfb
            have hst : fdsB m p (p.fds.getD j default) = true → ∀ i, i < j + 1 → fdsB m p (p.fds.getD i default) = true := fun hb i hi => by
              by_cases e : i = j
              · rw [e]; exact hb
              · exact hn i (by omega)
            have hF : fdsB m p (p.fds.getD j default) = false → R = false := fun h => by
              rw [hR, procB, all_not p.fds (fdsB m p) j (by omega) h]; simp
            unfold fdsB at hst hF
            obtain ⟨b, hb⟩ : ∃ b, fdB m.pipes (p.fds.getD j default) = b := ⟨_, rfl⟩
            rw [hb] at hFd hst hF
            simp only [encFd] at hFd
            cases b
            all_goals
              repeat' (first|(with_reducible first|refine yrl (by constructor) ?_|refine jk (fun M hM=>?_)|(refine hM _ ?_;clear hM M)|refine xb3 (by decide) ?_|refine yqa (by assumption) ?_ ?_|refine yqb (by assumption) ?_ ?_)|((with_reducible refine je ?_)<;>(first|rfl|assumption|(simp only [znl,znN7];(first|done|fail))))|(with_reducible refine jf (by (simp only [↓reduceIte,zlk,Nat.reduceEqDiff,reduceCtorEq]);exact rfl) ?_)|((with_reducible first|refine jg (fun hc=>?_) (fun hc=>?_)|refine jh (fun hc=>?_) (fun hc=>?_))<;>(try simp (disch:=omega) only [zhb] at hc)<;>(try (exfalso;omega))<;>(try subst hc))|(with_reducible refine ji (by omega) ?_)|(simp (config := { maxSteps := 400000 }) only [↓jt,↓reduceIte,zvs,reduceCtorEq,seval,-List.reduceReplicate,tab,hS1,hS2,hS3,encPr,encFd,Try.results87,jTA])|(simp (disch:=omega) only [ziw]))
              all_goals first
                | (exfalso; omega)
                | (rw [hF rfl]; simp only [zrds]; done)
                | (rw [hF (by rw [decide_eq_true (by omega), decide_eq_true (by omega)]; rfl)]; simp only [zrds]; done)
                | (refine xl1 (j + 1) ?_ ⟨by omega, hst (by first | (rw [decide_eq_false (by omega)]; rfl) | (rw [decide_eq_false (show ¬(p.fds.getD j default).kind ≠ 0 by omega), Bool.and_false]; rfl))⟩ (by show 8 - (j + 1) < 8 - j; omega); (refine yrn [(0, 0), (1, 1)] false ?_ ?_<;>(repeat' (first|(with_reducible first|exact ya1|exact ya2|exact ya3|refine jx rfl (by first|rfl|assumption|(simp only [znl,znN7];(first|done|fail)))|exact ya5|exact ya7|exact jy|exact jz|refine jA ?_|refine ya9 ?_ ?_ ?_|refine jC rfl (by first|rfl|assumption|(simp only [znl,znN7];(first|done|fail)))|refine MR.agg (MRL.cons ?_ ?_)|refine MR.fn ?_|refine MRL.cons ?_ ?_|exact MRL.nil|refine jE ?_ ?_|exact jF|exact jG|refine yb1 ?_ ?_|refine MB.row ?_|refine jI ?_ ?_|exact ya8|refine jJ rfl (by first|rfl|assumption|(simp only [znl,znN7];(first|done|fail)))|refine yb2 ?_|rfl)|(simp only [znl,znN7];(first|done|fail))|(simp only [↓reduceIte,zlk,Nat.reduceEqDiff,reduceCtorEq])|(with_reducible first|refine jJ ?_ ?_|refine ya5 ?_|refine ju ?_|refine jv ?_|refine jw ?_|refine jx ?_ (by first|rfl|assumption|(simp only [znl,znN7];(first|done|fail)))|refine jC ?_ (by first|rfl|assumption|(simp only [znl,znN7];(first|done|fail))))))); done)
          · obtain rfl : j = 8 := by omega
            have hA2 := all_take p.fds (fdsB m p) (by rw [hfl]; exact hn)
            have hT : R = true := by rw [hR, procB, hH, hA, hA2]; rfl
            rw [hT]
            repeat' (first|(with_reducible first|refine yrl (by constructor) ?_|refine jk (fun M hM=>?_)|(refine hM _ ?_;clear hM M)|refine xb3 (by decide) ?_|refine yqa (by assumption) ?_ ?_|refine yqb (by assumption) ?_ ?_)|((with_reducible refine je ?_)<;>(first|rfl|assumption|(simp only [znl,znN7];(first|done|fail))))|(with_reducible refine jf (by (simp only [↓reduceIte,zlk,Nat.reduceEqDiff,reduceCtorEq]);exact rfl) ?_)|((with_reducible first|refine jg (fun hc=>?_) (fun hc=>?_)|refine jh (fun hc=>?_) (fun hc=>?_))<;>(try simp (disch:=omega) only [zhb] at hc)<;>(try (exfalso;omega))<;>(try subst hc))|(with_reducible refine ji (by omega) ?_)|(simp (config := { maxSteps := 400000 }) only [↓jt,↓reduceIte,zvs,reduceCtorEq,seval,-List.reduceReplicate,tab,hS1,hS2,hS3,Try.results87,jTA])|(simp (disch:=omega) only [ziw]))
            simp only [zrds]
end Go.Proofs.Ytpdhdkpebbfnnaa.V
end
section
namespace Go.Proofs.Ytpdhdkpebbfnnaa.V
open Go
set_option maxRecDepth 100000
def znNE := And.intro @jO <| And.intro @jP <| And.intro @jQ <| And.intro @jR <| And.intro @jS <| And.intro @jT <| And.intro @jU <| True.intro
set_option maxHeartbeats 4000000
def dirtyQ (v : Frames) (l : List Wr) (i : Nat) : Bool := !(decide ((l.getD i default).b < 0) || decide ((v.length : Int) ≤ (l.getD i default).b) || decide ((l.getD i default).d.length ≠ 128) || (decide (0 < i) && decide ((l.getD i default).b ≤ (l.getD (i - 1) default).b)))
theorem volM_fit {m : Mach} (hm : MFit 20000 m) : (volM m).length ≤ 20000 ∧ ∀ s ∈ volM m, s.length ≤ 2 ^ 47 := by
  refine ⟨?_, ?_⟩
  · unfold volM
    rw [foldl_wrV_len]
    exact Nat.le_trans (homeD_len _) hm.bl
  · exact foldl_wrV_fit _ _ (homeD_fit hm.blS fun w hw => (hm.peS w hw).2) fun w hw => (hm.dirtyS w hw).2
theorem disk_spec (m : Mach) (hm : MFit 20000 m) : Spec Try.prog 88 [encM m] (.int .i64 (diskE m)) := by
  have hC := rcheck_spec m.dr (dfit_of hm)
  have hH := rhome_spec m.dr (dfit_of hm)
  have hV := volume_spec m hm
  obtain ⟨g, hO⟩ := of_spec (volM m) (volM_fit hm).1 (volM_fit hm).2
  have hlen := homeD_len m.dr
  have hb := hm.bl
  have hd := hm.dirty
  have hdS := hm.dirtyS
  obtain ⟨R, hR⟩ : ∃ R, R = diskE m := ⟨_, rfl⟩
  rw [← hR]
  unfold diskE at hR
  generalize volE (volM m) = e at hO hR
  by_cases h0 : checkD m.dr = 0
  · rw [if_neg (by omega)] at hR
    rw [h0] at hC
    generalize homeD m.dr = v at hH hlen hR
    by_cases h1 : v.length = 0
    · rw [if_pos (List.eq_nil_of_length_eq_zero h1)] at hR
      rw [hR]
      refine spec_ok Try.func88 rfl rfl (by kernel_rfl) (k := 1) rfl (by decide) ?_
      repeat' (first|(with_reducible first|refine yrl (by constructor) ?_|refine jk (fun M hM=>?_)|(refine hM _ ?_;clear hM M)|refine xb3 (by decide) ?_|refine yqa (by assumption) ?_ ?_|refine yqb (by assumption) ?_ ?_)|((with_reducible refine je ?_)<;>(first|rfl|assumption|(simp only [znl,znNE];(first|done|fail))))|(with_reducible refine jf (by (simp only [↓reduceIte,zlk,Nat.reduceEqDiff,reduceCtorEq]);exact rfl) ?_)|((with_reducible first|refine jg (fun hc=>?_) (fun hc=>?_)|refine jh (fun hc=>?_) (fun hc=>?_))<;>(try simp (disch:=omega) only [zhb] at hc)<;>(try (exfalso;omega))<;>(try subst hc))|(with_reducible refine ji (by omega) ?_)|(simp (config := { maxSteps := 400000 }) only [↓jt,↓reduceIte,zvs,reduceCtorEq,seval,-List.reduceReplicate,tab,h1,Try.results88,jTA])|(simp (disch:=omega) only [ziw]))
      all_goals first
        | (exfalso; omega)
        | (simp only [zrds]; done)
    · rw [if_neg (fun h => h1 (by rw [h]; rfl))] at hR
      by_cases h2 : 32 < m.dirty.length
      · rw [if_pos h2] at hR
        rw [hR]
        refine spec_ok Try.func88 rfl rfl (by kernel_rfl) (k := 1) rfl (by decide) ?_
        repeat' (first|(with_reducible first|refine yrl (by constructor) ?_|refine jk (fun M hM=>?_)|(refine hM _ ?_;clear hM M)|refine xb3 (by decide) ?_|refine yqa (by assumption) ?_ ?_|refine yqb (by assumption) ?_ ?_)|((with_reducible refine je ?_)<;>(first|rfl|assumption|(simp only [znl,znNE];(first|done|fail))))|(with_reducible refine jf (by (simp only [↓reduceIte,zlk,Nat.reduceEqDiff,reduceCtorEq]);exact rfl) ?_)|((with_reducible first|refine jg (fun hc=>?_) (fun hc=>?_)|refine jh (fun hc=>?_) (fun hc=>?_))<;>(try simp (disch:=omega) only [zhb] at hc)<;>(try (exfalso;omega))<;>(try subst hc))|(with_reducible refine ji (by omega) ?_)|(simp (config := { maxSteps := 400000 }) only [↓jt,↓reduceIte,zvs,reduceCtorEq,seval,-List.reduceReplicate,tab,Try.results88,jTA])|(simp (disch:=omega) only [ziw]))
        all_goals first
          | (exfalso; omega)
          | (simp only [zrds]; done)
      · rw [if_neg h2] at hR
        obtain ⟨n, hn⟩ : ∃ n, n = v.length := ⟨_, rfl⟩
        refine spec_ok Try.func88 rfl rfl (by kernel_rfl) (k := 1) rfl (by decide) ?_
        repeat' (first|(with_reducible first|refine yrl (by constructor) ?_|refine jk (fun M hM=>?_)|(refine hM _ ?_;clear hM M)|refine xb3 (by decide) ?_|refine yqa (by assumption) ?_ ?_|refine yqb (by assumption) ?_ ?_)|((with_reducible refine je ?_)<;>(first|rfl|assumption|(simp only [znl,znNE];(first|done|fail))))|(with_reducible refine jf (by (simp only [↓reduceIte,zlk,Nat.reduceEqDiff,reduceCtorEq]);exact rfl) ?_)|((with_reducible first|refine jg (fun hc=>?_) (fun hc=>?_)|refine jh (fun hc=>?_) (fun hc=>?_))<;>(try simp (disch:=omega) only [zhb] at hc)<;>(try (exfalso;omega))<;>(try subst hc))|(with_reducible refine ji (by omega) ?_)|(simp (config := { maxSteps := 400000 }) only [↓jt,↓reduceIte,zvs,reduceCtorEq,seval,-List.reduceReplicate,tab,Try.results88,jTA])|(simp (disch:=omega) only [ziw]))
        all_goals (try (exfalso; omega))
        refine ok_loop (fun k : Nat => ⟨slots [(1, .ptr 0 []), (4, .int .i64 v.length), (24, encWrs m.dirty), (25, .int .i64 m.dirty.length), (26, .int .i64 k)], rows [(0, .row machSh (encM m))], 1⟩) (fun k => k ≤ m.dirty.length ∧ ∀ j, j < k → dirtyQ v m.dirty j = true) (fun k => m.dirty.length - k) 0 ?_ ⟨Nat.zero_le _, fun j hj => by omega⟩ (fun k hk => ?_)
        · (refine yrn [(0, 0)] false ?_ ?_<;>(repeat' (first|(with_reducible first|exact ya1|exact ya2|exact ya3|refine jx rfl (by first|rfl|assumption|(simp only [znl,znNE];(first|done|fail)))|exact ya5|exact ya7|exact jy|exact jz|refine jA ?_|refine ya9 ?_ ?_ ?_|refine jC rfl (by first|rfl|assumption|(simp only [znl,znNE];(first|done|fail)))|refine MR.agg (MRL.cons ?_ ?_)|refine MR.fn ?_|refine MRL.cons ?_ ?_|exact MRL.nil|refine jE ?_ ?_|exact jF|exact jG|refine yb1 ?_ ?_|refine MB.row ?_|refine jI ?_ ?_|exact ya8|refine jJ rfl (by first|rfl|assumption|(simp only [znl,znNE];(first|done|fail)))|refine yb2 ?_|rfl)|(simp only [znl,znNE];(first|done|fail))|(simp only [↓reduceIte,zlk,Nat.reduceEqDiff,reduceCtorEq])|(with_reducible first|refine jJ ?_ ?_|refine ya5 ?_|refine ju ?_|refine jv ?_|refine jw ?_|refine jx ?_ (by first|rfl|assumption|(simp only [znl,znNE];(first|done|fail)))|refine jC ?_ (by first|rfl|assumption|(simp only [znl,znNE];(first|done|fail)))))))
          all_goals (first | rfl)
        obtain ⟨hk, hq⟩ := hk
        by_cases hlt : k < m.dirty.length
        · obtain ⟨⟨w1, w2⟩, w3⟩ := hdS _ (getD_mem' hlt)
          have w4 : ∀ j, j < m.dirty.length → i64R (m.dirty.getD j default).b := fun j hj => (hdS _ (getD_mem' hj)).1
          have w5 := w4 (k - 1) (by omega)
          have hF : dirtyQ v m.dirty k = false → R = 3 := fun h => by
            rw [hR, if_pos]
            unfold dirtyE
            rw [List.all_eq_false]
            exact ⟨k, List.mem_range.2 hlt, by show ¬(dirtyQ v m.dirty k = true); rw [h]; simp⟩
          have hst : dirtyQ v m.dirty k = true → ∀ j, j < k + 1 → dirtyQ v m.dirty j = true := fun h j hj => by
            by_cases e : j = k
            · rw [e]; exact h
            · exact hq j (by omega)
          by_cases hk0 : k = 0
          · subst hk0
            have z0 : ((0 : Nat) : Int) = 0 := rfl
            have hQ : dirtyQ v m.dirty 0 = true ↔ (0 ≤ (m.dirty.getD 0 default).b ∧ (m.dirty.getD 0 default).b < v.length ∧ (m.dirty.getD 0 default).d.length = 128) := by
              unfold dirtyQ
              simp only [Nat.lt_irrefl,decide_false,Bool.false_and,Bool.or_false,Bool.not_eq_true',Bool.or_eq_false_iff,decide_eq_false_iff_not,ne_eq,Decidable.not_not]
              omega
            repeat' (first|(with_reducible first|refine yrl (by constructor) ?_|refine jk (fun M hM=>?_)|(refine hM _ ?_;clear hM M)|refine xb3 (by decide) ?_|refine yqa (by assumption) ?_ ?_|refine yqb (by assumption) ?_ ?_)|((with_reducible refine je ?_)<;>(first|rfl|assumption|(simp only [znl,znNE];(first|done|fail))))|(with_reducible refine jf (by (simp only [↓reduceIte,zlk,Nat.reduceEqDiff,reduceCtorEq]);exact rfl) ?_)|((with_reducible first|refine jg (fun hc=>?_) (fun hc=>?_)|refine jh (fun hc=>?_) (fun hc=>?_))<;>(try simp (disch:=omega) only [zhb] at hc)<;>(try (exfalso;omega))<;>(try subst hc))|(with_reducible refine ji (by omega) ?_)|(simp (config := { maxSteps := 400000 }) only [↓jt,↓reduceIte,zvs,reduceCtorEq,seval,-List.reduceReplicate,tab,encWr,z0,Try.results88,jTA])|(simp (disch:=omega) only [ziw]))
            refine ok_drawC 31 (by kernel_rfl) (by decide +kernel) (by intro m hm; simp only [upd_ap,rows_cons,rows_nil]; (repeat (first | rfl | rw [if_neg (by omega)]))) (fun M hM => ?_); simp only [List.take_succ_cons,List.take_zero,List.drop_succ_cons,List.drop_zero]
            repeat' (first|(with_reducible first|refine yrl (by constructor) ?_|refine jk (fun M hM=>?_)|(refine hM _ ?_;clear hM M)|refine xb3 (by decide) ?_|refine yqa (by assumption) ?_ ?_|refine yqb (by assumption) ?_ ?_)|((with_reducible refine je ?_)<;>(first|rfl|assumption|(simp only [znl,znNE];(first|done|fail))))|(with_reducible refine jf (by (simp only [↓reduceIte,zlk,Nat.reduceEqDiff,reduceCtorEq]);exact rfl) ?_)|((with_reducible first|refine jg (fun hc=>?_) (fun hc=>?_)|refine jh (fun hc=>?_) (fun hc=>?_))<;>(try simp (disch:=omega) only [zhb] at hc)<;>(try (exfalso;omega))<;>(try subst hc))|(with_reducible refine ji (by omega) ?_)|(simp (config := { maxSteps := 400000 }) only [↓jt,↓reduceIte,zvs,reduceCtorEq,seval,-List.reduceReplicate,tab,encWr,z0,Try.results88,jTA])|(simp (disch:=omega) only [ziw]))
            all_goals first
              | (exfalso; omega)
              | (rw [hF (by rw [Bool.eq_false_iff]; intro h; have := hQ.1 h; omega)]; simp only [zrds]; done)
              | (refine xl1 1 ?_ ⟨by omega, hst (hQ.2 (by omega))⟩ (by show m.dirty.length - 1 < m.dirty.length - 0; omega); (refine yrn [(0, 0)] false ?_ ?_<;>(repeat' (first|(with_reducible first|exact ya1|exact ya2|exact ya3|refine jx rfl (by first|rfl|assumption|(simp only [znl,znNE];(first|done|fail)))|exact ya5|exact ya7|exact jy|exact jz|refine jA ?_|refine ya9 ?_ ?_ ?_|refine jC rfl (by first|rfl|assumption|(simp only [znl,znNE];(first|done|fail)))|refine MR.agg (MRL.cons ?_ ?_)|refine MR.fn ?_|refine MRL.cons ?_ ?_|exact MRL.nil|refine jE ?_ ?_|exact jF|exact jG|refine yb1 ?_ ?_|refine MB.row ?_|refine jI ?_ ?_|exact ya8|refine jJ rfl (by first|rfl|assumption|(simp only [znl,znNE];(first|done|fail)))|refine yb2 ?_|rfl)|(simp only [znl,znNE];(first|done|fail))|(simp only [↓reduceIte,zlk,Nat.reduceEqDiff,reduceCtorEq])|(with_reducible first|refine jJ ?_ ?_|refine ya5 ?_|refine ju ?_|refine jv ?_|refine jw ?_|refine jx ?_ (by first|rfl|assumption|(simp only [znl,znNE];(first|done|fail)))|refine jC ?_ (by first|rfl|assumption|(simp only [znl,znNE];(first|done|fail))))))); done)
          · obtain ⟨i, rfl⟩ : ∃ i, k = i + 1 := ⟨k - 1, by omega⟩
            have z1 : ((i + 1 : Nat) : Int) - 1 = i := by omega
            have hQ : dirtyQ v m.dirty (i + 1) = true ↔ (0 ≤ (m.dirty.getD (i + 1) default).b ∧ (m.dirty.getD (i + 1) default).b < v.length ∧ (m.dirty.getD (i + 1) default).d.length = 128 ∧ (m.dirty.getD i default).b < (m.dirty.getD (i + 1) default).b) := by
              unfold dirtyQ
              rw [Nat.add_sub_cancel, decide_eq_true (Nat.succ_pos i)]
              simp only [Bool.true_and,Bool.not_eq_true',Bool.or_eq_false_iff,decide_eq_false_iff_not,ne_eq,Decidable.not_not]
              omega
            repeat' (first|(with_reducible first|refine yrl (by constructor) ?_|refine jk (fun M hM=>?_)|(refine hM _ ?_;clear hM M)|refine xb3 (by decide) ?_|refine yqa (by assumption) ?_ ?_|refine yqb (by assumption) ?_ ?_)|((with_reducible refine je ?_)<;>(first|rfl|assumption|(simp only [znl,znNE];(first|done|fail))))|(with_reducible refine jf (by (simp only [↓reduceIte,zlk,Nat.reduceEqDiff,reduceCtorEq]);exact rfl) ?_)|((with_reducible first|refine jg (fun hc=>?_) (fun hc=>?_)|refine jh (fun hc=>?_) (fun hc=>?_))<;>(try simp (disch:=omega) only [zhb] at hc)<;>(try (exfalso;omega))<;>(try subst hc))|(with_reducible refine ji (by omega) ?_)|(simp (config := { maxSteps := 400000 }) only [↓jt,↓reduceIte,zvs,reduceCtorEq,seval,-List.reduceReplicate,tab,encWr,z1,Try.results88,jTA])|(simp (disch:=omega) only [ziw]))
            refine ok_drawC 31 (by kernel_rfl) (by decide +kernel) (by intro m hm; simp only [upd_ap,rows_cons,rows_nil]; (repeat (first | rfl | rw [if_neg (by omega)]))) (fun M hM => ?_); simp only [List.take_succ_cons,List.take_zero,List.drop_succ_cons,List.drop_zero]
            repeat' (first|(with_reducible first|refine yrl (by constructor) ?_|refine jk (fun M hM=>?_)|(refine hM _ ?_;clear hM M)|refine xb3 (by decide) ?_|refine yqa (by assumption) ?_ ?_|refine yqb (by assumption) ?_ ?_)|((with_reducible refine je ?_)<;>(first|rfl|assumption|(simp only [znl,znNE];(first|done|fail))))|(with_reducible refine jf (by (simp only [↓reduceIte,zlk,Nat.reduceEqDiff,reduceCtorEq]);exact rfl) ?_)|((with_reducible first|refine jg (fun hc=>?_) (fun hc=>?_)|refine jh (fun hc=>?_) (fun hc=>?_))<;>(try simp (disch:=omega) only [zhb] at hc)<;>(try (exfalso;omega))<;>(try subst hc))|(with_reducible refine ji (by omega) ?_)|(simp (config := { maxSteps := 400000 }) only [↓jt,↓reduceIte,zvs,reduceCtorEq,seval,-List.reduceReplicate,tab,encWr,z1,Try.results88,jTA])|(simp (disch:=omega) only [ziw]))
            all_goals first
              | (exfalso; omega)
              | (rw [hF (by rw [Bool.eq_false_iff]; intro h; have := hQ.1 h; omega)]; simp only [zrds]; done)
              | (refine xl1 (i + 1 + 1) ?_ ⟨by omega, hst (hQ.2 (by omega))⟩ (by show m.dirty.length - (i + 1 + 1) < m.dirty.length - (i + 1); omega); (refine yrn [(0, 0)] false ?_ ?_<;>(repeat' (first|(with_reducible first|exact ya1|exact ya2|exact ya3|refine jx rfl (by first|rfl|assumption|(simp only [znl,znNE];(first|done|fail)))|exact ya5|exact ya7|exact jy|exact jz|refine jA ?_|refine ya9 ?_ ?_ ?_|refine jC rfl (by first|rfl|assumption|(simp only [znl,znNE];(first|done|fail)))|refine MR.agg (MRL.cons ?_ ?_)|refine MR.fn ?_|refine MRL.cons ?_ ?_|exact MRL.nil|refine jE ?_ ?_|exact jF|exact jG|refine yb1 ?_ ?_|refine MB.row ?_|refine jI ?_ ?_|exact ya8|refine jJ rfl (by first|rfl|assumption|(simp only [znl,znNE];(first|done|fail)))|refine yb2 ?_|rfl)|(simp only [znl,znNE];(first|done|fail))|(simp only [↓reduceIte,zlk,Nat.reduceEqDiff,reduceCtorEq])|(with_reducible first|refine jJ ?_ ?_|refine ya5 ?_|refine ju ?_|refine jv ?_|refine jw ?_|refine jx ?_ (by first|rfl|assumption|(simp only [znl,znNE];(first|done|fail)))|refine jC ?_ (by first|rfl|assumption|(simp only [znl,znNE];(first|done|fail))))))); done)
        · obtain rfl : k = m.dirty.length := by omega
          have hE : dirtyE v m.dirty = true := by
            unfold dirtyE
            rw [List.all_eq_true]
            intro i hi
            exact hq i (List.mem_range.1 hi)
          rw [hE, if_neg (by simp)] at hR
          rw [← hR] at hO
          repeat' (first|(with_reducible first|refine yrl (by constructor) ?_|refine jk (fun M hM=>?_)|(refine hM _ ?_;clear hM M)|refine xb3 (by decide) ?_|refine yqa (by assumption) ?_ ?_|refine yqb (by assumption) ?_ ?_)|((with_reducible refine je ?_)<;>(first|rfl|assumption|(simp only [znl,znNE];(first|done|fail))))|(with_reducible refine jf (by (simp only [↓reduceIte,zlk,Nat.reduceEqDiff,reduceCtorEq]);exact rfl) ?_)|((with_reducible first|refine jg (fun hc=>?_) (fun hc=>?_)|refine jh (fun hc=>?_) (fun hc=>?_))<;>(try simp (disch:=omega) only [zhb] at hc)<;>(try (exfalso;omega))<;>(try subst hc))|(with_reducible refine ji (by omega) ?_)|(simp (config := { maxSteps := 400000 }) only [↓jt,↓reduceIte,zvs,reduceCtorEq,seval,-List.reduceReplicate,tab,Try.results88,jTA])|(simp (disch:=omega) only [ziw]))
          all_goals first
            | (exfalso; omega)
            | (simp only [zrds]; done)
  · rw [if_pos h0] at hR
    rw [hR]
    refine spec_ok Try.func88 rfl rfl (by kernel_rfl) (k := 1) rfl (by decide) ?_
    repeat' (first|(with_reducible first|refine yrl (by constructor) ?_|refine jk (fun M hM=>?_)|(refine hM _ ?_;clear hM M)|refine xb3 (by decide) ?_|refine yqa (by assumption) ?_ ?_|refine yqb (by assumption) ?_ ?_)|((with_reducible refine je ?_)<;>(first|rfl|assumption|(simp only [znl,znNE];(first|done|fail))))|(with_reducible refine jf (by (simp only [↓reduceIte,zlk,Nat.reduceEqDiff,reduceCtorEq]);exact rfl) ?_)|((with_reducible first|refine jg (fun hc=>?_) (fun hc=>?_)|refine jh (fun hc=>?_) (fun hc=>?_))<;>(try simp (disch:=omega) only [zhb] at hc)<;>(try (exfalso;omega))<;>(try subst hc))|(with_reducible refine ji (by omega) ?_)|(simp (config := { maxSteps := 400000 }) only [↓jt,↓reduceIte,zvs,reduceCtorEq,seval,-List.reduceReplicate,tab,Try.results88,jTA])|(simp (disch:=omega) only [ziw]))
    all_goals first
      | (exfalso; omega)
      | (simp only [zrds]; done)
end Go.Proofs.Ytpdhdkpebbfnnaa.V
end
section
namespace Go.Proofs.Ytpdhdkpebbfnnaa.V
open Go
set_option maxRecDepth 100000
def znNH := And.intro @jO <| And.intro @jP <| And.intro @jQ <| And.intro @jR <| And.intro @jS <| And.intro @jT <| And.intro @jU <| True.intro
set_option maxHeartbeats 8000000
def procQ (m : Mach) (i : Nat) : Bool := !(decide (0 < i) && decide ((m.pr.getD i default).pid ≤ (m.pr.getD (i - 1) default).pid)) && procB m (m.pr.getD i default)
theorem range_all {n : Nat} {q : Nat → Bool} (h : ∀ j, j < n → q j = true) : (List.range n).all q = true := by
  rw [List.all_eq_true]
  intro i hi
  exact h i (List.mem_range.1 hi)
theorem range_not {n k : Nat} {q : Nat → Bool} (hk : k < n) (h : q k = false) : (List.range n).all q = false := by
  rw [List.all_eq_false]
  exact ⟨k, List.mem_range.2 hk, by rw [h]; simp⟩
theorem step_all {q : Nat → Bool} {k : Nat} (hq : ∀ j, j < k → q j = true) (h : q k = true) : ∀ j, j < k + 1 → q j = true := fun j hj => by
  by_cases e : j = k
  · rw [e]; exact h
  · exact hq j (by omega)
theorem rcheckM_spec (m : Mach) (hm : MFit 20000 m) : Spec Try.prog 40 [encM m] (.int .i64 (chkM m)) := by
  obtain ⟨R, hR⟩ : ∃ R, R = chkM m := ⟨_, rfl⟩
  rw [← hR]
  have hD := disk_spec m hm
  obtain ⟨⟨a1, a2⟩, ⟨a3, a4⟩, ⟨a5, a6⟩, ⟨a7, a8⟩, hfr, hfrS, hpr, hprR, ⟨a9, a10⟩, hini, hpi, hpiR, ⟨a11, a12⟩, hinp, ⟨a13, a14⟩, _, _, _, _, _, _, _⟩ := id hm
  unfold chkM at hR
  have hnb : numB m = true ↔ (m.quantum < 1 ∨ 1000 < m.quantum ∨ m.left < 0 ∨ m.quantum < m.left ∨ m.cur < 0 ∨ m.next < 1 ∨ 1000000000 < m.next ∨ m.newp < 1 ∨ 1000000000 < m.newp) := by
    unfold numB; rw [decide_eq_true_eq]
  by_cases hn : numB m = true
  · rw [if_pos hn] at hR
    have hn := hnb.1 hn
    rw [hR]
    refine spec_ok Try.func40 rfl rfl (by kernel_rfl) (k := 1) rfl (by decide) ?_
    repeat' (first|(with_reducible first|refine yrl (by constructor) ?_|refine jk (fun M hM=>?_)|(refine hM _ ?_;clear hM M)|refine xb3 (by decide) ?_|refine yqa (by assumption) ?_ ?_|refine yqb (by assumption) ?_ ?_)|((with_reducible refine je ?_)<;>(first|rfl|assumption|(simp only [znl,znNH];(first|done|fail))))|(with_reducible refine jf (by (simp only [↓reduceIte,zlk,Nat.reduceEqDiff,reduceCtorEq]);exact rfl) ?_)|((with_reducible first|refine jg (fun hc=>?_) (fun hc=>?_)|refine jh (fun hc=>?_) (fun hc=>?_))<;>(try simp (disch:=omega) only [zhb] at hc)<;>(try (exfalso;omega))<;>(try subst hc))|(with_reducible refine ji (by omega) ?_)|(simp (config := { maxSteps := 400000 }) only [↓jt,↓reduceIte,zvs,reduceCtorEq,seval,-List.reduceReplicate,tab,Try.results40,jTA])|(simp (disch:=omega) only [ziw]))
    all_goals first
      | (exfalso; omega)
      | (simp only [zrds]; done)
  rw [if_neg hn] at hR
  have hn := mt hnb.2 hn
  refine spec_ok Try.func40 rfl rfl (by kernel_rfl) (k := 1) rfl (by decide) ?_
  repeat' (first|(with_reducible first|refine yrl (by constructor) ?_|refine jk (fun M hM=>?_)|(refine hM _ ?_;clear hM M)|refine xb3 (by decide) ?_|refine yqa (by assumption) ?_ ?_|refine yqb (by assumption) ?_ ?_)|((with_reducible refine je ?_)<;>(first|rfl|assumption|(simp only [znl,znNH];(first|done|fail))))|(with_reducible refine jf (by (simp only [↓reduceIte,zlk,Nat.reduceEqDiff,reduceCtorEq]);exact rfl) ?_)|((with_reducible first|refine jg (fun hc=>?_) (fun hc=>?_)|refine jh (fun hc=>?_) (fun hc=>?_))<;>(try simp (disch:=omega) only [zhb] at hc)<;>(try (exfalso;omega))<;>(try subst hc))|(with_reducible refine ji (by omega) ?_)|(simp (config := { maxSteps := 400000 }) only [↓jt,↓reduceIte,zvs,reduceCtorEq,seval,-List.reduceReplicate,tab,Try.results40,jTA])|(simp (disch:=omega) only [ziw]))
  all_goals first
    | (exfalso; omega)
    | (rw [hR, if_pos (by omega)]; simp only [zrds]; done)
    | skip
  rw [if_neg (by omega)] at hR
  refine ok_loop (fun k : Nat => ⟨slots [(1, .ptr 0 []), (68, encStrs m.fr), (69, .int .i64 m.fr.length), (70, .int .i64 k)], rows [(0, .row machSh (encM m))], 1⟩) (fun k => k ≤ m.fr.length ∧ ∀ j, j < k → decide ((m.fr.getD j default).length ≠ 128) = false) (fun k => m.fr.length - k) 0 ?_ ⟨Nat.zero_le _, fun j hj => by omega⟩ (fun k hk => ?_)
  · (refine yrn [(0, 0)] false ?_ ?_<;>(repeat' (first|(with_reducible first|exact ya1|exact ya2|exact ya3|refine jx rfl (by first|rfl|assumption|(simp only [znl,znNH];(first|done|fail)))|exact ya5|exact ya7|exact jy|exact jz|refine jA ?_|refine ya9 ?_ ?_ ?_|refine jC rfl (by first|rfl|assumption|(simp only [znl,znNH];(first|done|fail)))|refine MR.agg (MRL.cons ?_ ?_)|refine MR.fn ?_|refine MRL.cons ?_ ?_|exact MRL.nil|refine jE ?_ ?_|exact jF|exact jG|refine yb1 ?_ ?_|refine MB.row ?_|refine jI ?_ ?_|exact ya8|refine jJ rfl (by first|rfl|assumption|(simp only [znl,znNH];(first|done|fail)))|refine yb2 ?_|rfl)|(simp only [znl,znNH];(first|done|fail))|(simp only [↓reduceIte,zlk,Nat.reduceEqDiff,reduceCtorEq])|(with_reducible first|refine jJ ?_ ?_|refine ya5 ?_|refine ju ?_|refine jv ?_|refine jw ?_|refine jx ?_ (by first|rfl|assumption|(simp only [znl,znNH];(first|done|fail)))|refine jC ?_ (by first|rfl|assumption|(simp only [znl,znNH];(first|done|fail)))))))
    all_goals (first | rfl)
  obtain ⟨hk, hq⟩ := hk
  by_cases hlt : k < m.fr.length
  · have hs := hfrS _ (getD_mem' hlt)
    rw [default_str] at hs
    repeat' (first|(with_reducible first|refine yrl (by constructor) ?_|refine jk (fun M hM=>?_)|(refine hM _ ?_;clear hM M)|refine xb3 (by decide) ?_|refine yqa (by assumption) ?_ ?_|refine yqb (by assumption) ?_ ?_)|((with_reducible refine je ?_)<;>(first|rfl|assumption|(simp only [znl,znNH];(first|done|fail))))|(with_reducible refine jf (by (simp only [↓reduceIte,zlk,Nat.reduceEqDiff,reduceCtorEq]);exact rfl) ?_)|((with_reducible first|refine jg (fun hc=>?_) (fun hc=>?_)|refine jh (fun hc=>?_) (fun hc=>?_))<;>(try simp (disch:=omega) only [zhb] at hc)<;>(try (exfalso;omega))<;>(try subst hc))|(with_reducible refine ji (by omega) ?_)|(simp (config := { maxSteps := 400000 }) only [↓jt,↓reduceIte,zvs,reduceCtorEq,seval,-List.reduceReplicate,tab,Try.results40,jTA])|(simp (disch:=omega) only [ziw]))
    all_goals first
      | (exfalso; omega)
      | (rw [hR, if_pos (any_of m.fr _ k hlt (by rw [default_str]; exact decide_eq_true (by omega)))]; simp only [zrds]; done)
      | (refine xl1 (k + 1) ?_ ⟨by omega, fun j hj => ?_⟩ (by show m.fr.length - (k + 1) < m.fr.length - k; omega) <;> first | (by_cases e : j = k; (rw [e]; (try rw [default_str]); exact decide_eq_false (by omega)); exact hq j (by omega)) | ((refine yrn [(0, 0)] false ?_ ?_<;>(repeat' (first|(with_reducible first|exact ya1|exact ya2|exact ya3|refine jx rfl (by first|rfl|assumption|(simp only [znl,znNH];(first|done|fail)))|exact ya5|exact ya7|exact jy|exact jz|refine jA ?_|refine ya9 ?_ ?_ ?_|refine jC rfl (by first|rfl|assumption|(simp only [znl,znNH];(first|done|fail)))|refine MR.agg (MRL.cons ?_ ?_)|refine MR.fn ?_|refine MRL.cons ?_ ?_|exact MRL.nil|refine jE ?_ ?_|exact jF|exact jG|refine yb1 ?_ ?_|refine MB.row ?_|refine jI ?_ ?_|exact ya8|refine jJ rfl (by first|rfl|assumption|(simp only [znl,znNH];(first|done|fail)))|refine yb2 ?_|rfl)|(simp only [znl,znNH];(first|done|fail))|(simp only [↓reduceIte,zlk,Nat.reduceEqDiff,reduceCtorEq])|(with_reducible first|refine jJ ?_ ?_|refine ya5 ?_|refine ju ?_|refine jv ?_|refine jw ?_|refine jx ?_ (by first|rfl|assumption|(simp only [znl,znNH];(first|done|fail)))|refine jC ?_ (by first|rfl|assumption|(simp only [znl,znNH];(first|done|fail))))))); done))
      | (refine xl1 (k + 1) ?_ ⟨by omega, fun j hj => ?_⟩ (by show m.fr.length - (k + 1) < m.fr.length - k; omega); (refine yrn [(0, 0)] false ?_ ?_<;>(repeat' (first|(with_reducible first|exact ya1|exact ya2|exact ya3|refine jx rfl (by first|rfl|assumption|(simp only [znl,znNH];(first|done|fail)))|exact ya5|exact ya7|exact jy|exact jz|refine jA ?_|refine ya9 ?_ ?_ ?_|refine jC rfl (by first|rfl|assumption|(simp only [znl,znNH];(first|done|fail)))|refine MR.agg (MRL.cons ?_ ?_)|refine MR.fn ?_|refine MRL.cons ?_ ?_|exact MRL.nil|refine jE ?_ ?_|exact jF|exact jG|refine yb1 ?_ ?_|refine MB.row ?_|refine jI ?_ ?_|exact ya8|refine jJ rfl (by first|rfl|assumption|(simp only [znl,znNH];(first|done|fail)))|refine yb2 ?_|rfl)|(simp only [znl,znNH];(first|done|fail))|(simp only [↓reduceIte,zlk,Nat.reduceEqDiff,reduceCtorEq])|(with_reducible first|refine jJ ?_ ?_|refine ya5 ?_|refine ju ?_|refine jv ?_|refine jw ?_|refine jx ?_ (by first|rfl|assumption|(simp only [znl,znNH];(first|done|fail)))|refine jC ?_ (by first|rfl|assumption|(simp only [znl,znNH];(first|done|fail))))))); trace_state)
  obtain rfl : k = m.fr.length := by omega
  have hA := any_none m.fr (fun s => decide (s.length ≠ 128)) hq
  rw [hA, if_neg (by simp)] at hR
  repeat' (first|(with_reducible first|refine yrl (by constructor) ?_|refine jk (fun M hM=>?_)|(refine hM _ ?_;clear hM M)|refine xb3 (by decide) ?_|refine yqa (by assumption) ?_ ?_|refine yqb (by assumption) ?_ ?_)|((with_reducible refine je ?_)<;>(first|rfl|assumption|(simp only [znl,znNH];(first|done|fail))))|(with_reducible refine jf (by (simp only [↓reduceIte,zlk,Nat.reduceEqDiff,reduceCtorEq]);exact rfl) ?_)|((with_reducible first|refine jg (fun hc=>?_) (fun hc=>?_)|refine jh (fun hc=>?_) (fun hc=>?_))<;>(try simp (disch:=omega) only [zhb] at hc)<;>(try (exfalso;omega))<;>(try subst hc))|(with_reducible refine ji (by omega) ?_)|(simp (config := { maxSteps := 400000 }) only [↓jt,↓reduceIte,zvs,reduceCtorEq,seval,-List.reduceReplicate,tab,Try.results40,jTA])|(simp (disch:=omega) only [ziw]))
  all_goals first
    | (exfalso; omega)
    | (rw [hR, if_pos (by omega)]; simp only [zrds]; done)
    | skip
  rw [if_neg (by omega)] at hR
  refine ok_loop (fun k : Nat => ⟨slots [(1, .ptr 0 []), (83, encPrs m.pr), (84, .int .i64 m.pr.length), (85, .int .i64 k)], rows [(0, .row machSh (encM m))], 1⟩) (fun k => k ≤ m.pr.length ∧ ∀ j, j < k → procQ m j = true) (fun k => m.pr.length - k) 0 ?_ ⟨Nat.zero_le _, fun j hj => by omega⟩ (fun k hk => ?_)
  · (refine yrn [(0, 0)] false ?_ ?_<;>(repeat' (first|(with_reducible first|exact ya1|exact ya2|exact ya3|refine jx rfl (by first|rfl|assumption|(simp only [znl,znNH];(first|done|fail)))|exact ya5|exact ya7|exact jy|exact jz|refine jA ?_|refine ya9 ?_ ?_ ?_|refine jC rfl (by first|rfl|assumption|(simp only [znl,znNH];(first|done|fail)))|refine MR.agg (MRL.cons ?_ ?_)|refine MR.fn ?_|refine MRL.cons ?_ ?_|exact MRL.nil|refine jE ?_ ?_|exact jF|exact jG|refine yb1 ?_ ?_|refine MB.row ?_|refine jI ?_ ?_|exact ya8|refine jJ rfl (by first|rfl|assumption|(simp only [znl,znNH];(first|done|fail)))|refine yb2 ?_|rfl)|(simp only [znl,znNH];(first|done|fail))|(simp only [↓reduceIte,zlk,Nat.reduceEqDiff,reduceCtorEq])|(with_reducible first|refine jJ ?_ ?_|refine ya5 ?_|refine ju ?_|refine jv ?_|refine jw ?_|refine jx ?_ (by first|rfl|assumption|(simp only [znl,znNH];(first|done|fail)))|refine jC ?_ (by first|rfl|assumption|(simp only [znl,znNH];(first|done|fail)))))))
    all_goals (first | rfl)
  clear hq
  obtain ⟨hk, hq⟩ := hk
  by_cases hlt : k < m.pr.length
  · have hb := hprR _ (getD_mem' hlt)
    obtain ⟨hS1, hS2, hS3⟩ := pr3 hb
    obtain ⟨p1, p2⟩ := hb.pid
    have hP := process_spec m hm _ hb
    have hF : procQ m k = false → R = 3 := fun h => by
      rw [hR, if_pos]
      exact range_not hlt h
    have hst := step_all (k := k) hq
    by_cases hk0 : k = 0
    · subst hk0
      have z0 : ((0 : Nat) : Int) = 0 := rfl
      have hQ : procQ m 0 = procB m (m.pr.getD 0 default) := by simp [procQ]
      rw [← hQ] at hP
      simp only [encPr] at hP
      generalize procQ m 0 = b at hP hF hst
      cases b
      all_goals
        repeat' (first|(with_reducible first|refine yrl (by constructor) ?_|refine jk (fun M hM=>?_)|(refine hM _ ?_;clear hM M)|refine xb3 (by decide) ?_|refine yqa (by assumption) ?_ ?_|refine yqb (by assumption) ?_ ?_)|((with_reducible refine je ?_)<;>(first|rfl|assumption|(simp only [znl,znNH];(first|done|fail))))|(with_reducible refine jf (by (simp only [↓reduceIte,zlk,Nat.reduceEqDiff,reduceCtorEq]);exact rfl) ?_)|((with_reducible first|refine jg (fun hc=>?_) (fun hc=>?_)|refine jh (fun hc=>?_) (fun hc=>?_))<;>(try simp (disch:=omega) only [zhb] at hc)<;>(try (exfalso;omega))<;>(try subst hc))|(with_reducible refine ji (by omega) ?_)|(simp (config := { maxSteps := 400000 }) only [↓jt,↓reduceIte,zvs,reduceCtorEq,seval,-List.reduceReplicate,tab,hS1,hS2,hS3,encPr,z0,Try.results40,jTA])|(simp (disch:=omega) only [ziw]))
        refine ok_drawC 20 (by kernel_rfl) (by decide +kernel) (by intro m hm; simp only [upd_ap,rows_cons,rows_nil]; (repeat (first | rfl | rw [if_neg (by omega)]))) (fun M hM => ?_); simp only [List.take_succ_cons,List.take_zero,List.drop_succ_cons,List.drop_zero]
        repeat' (first|(with_reducible first|refine yrl (by constructor) ?_|refine jk (fun M hM=>?_)|(refine hM _ ?_;clear hM M)|refine xb3 (by decide) ?_|refine yqa (by assumption) ?_ ?_|refine yqb (by assumption) ?_ ?_)|((with_reducible refine je ?_)<;>(first|rfl|assumption|(simp only [znl,znNH];(first|done|fail))))|(with_reducible refine jf (by (simp only [↓reduceIte,zlk,Nat.reduceEqDiff,reduceCtorEq]);exact rfl) ?_)|((with_reducible first|refine jg (fun hc=>?_) (fun hc=>?_)|refine jh (fun hc=>?_) (fun hc=>?_))<;>(try simp (disch:=omega) only [zhb] at hc)<;>(try (exfalso;omega))<;>(try subst hc))|(with_reducible refine ji (by omega) ?_)|(simp (config := { maxSteps := 400000 }) only [↓jt,↓reduceIte,zvs,reduceCtorEq,seval,-List.reduceReplicate,tab,hS1,hS2,hS3,encPr,z0,Try.results40,jTA])|(simp (disch:=omega) only [ziw]))
        all_goals first
          | (exfalso; omega)
          | (rw [hF rfl]; simp only [zrds]; done)
          | (refine xl1 1 ?_ ⟨by omega, hst rfl⟩ (by show m.pr.length - 1 < m.pr.length - 0; omega); (refine yrn [(0, 0)] false ?_ ?_<;>(repeat' (first|(with_reducible first|exact ya1|exact ya2|exact ya3|refine jx rfl (by first|rfl|assumption|(simp only [znl,znNH];(first|done|fail)))|exact ya5|exact ya7|exact jy|exact jz|refine jA ?_|refine ya9 ?_ ?_ ?_|refine jC rfl (by first|rfl|assumption|(simp only [znl,znNH];(first|done|fail)))|refine MR.agg (MRL.cons ?_ ?_)|refine MR.fn ?_|refine MRL.cons ?_ ?_|exact MRL.nil|refine jE ?_ ?_|exact jF|exact jG|refine yb1 ?_ ?_|refine MB.row ?_|refine jI ?_ ?_|exact ya8|refine jJ rfl (by first|rfl|assumption|(simp only [znl,znNH];(first|done|fail)))|refine yb2 ?_|rfl)|(simp only [znl,znNH];(first|done|fail))|(simp only [↓reduceIte,zlk,Nat.reduceEqDiff,reduceCtorEq])|(with_reducible first|refine jJ ?_ ?_|refine ya5 ?_|refine ju ?_|refine jv ?_|refine jw ?_|refine jx ?_ (by first|rfl|assumption|(simp only [znl,znNH];(first|done|fail)))|refine jC ?_ (by first|rfl|assumption|(simp only [znl,znNH];(first|done|fail))))))); done)
    · obtain ⟨i, rfl⟩ : ∃ i, k = i + 1 := ⟨k - 1, by omega⟩
      have z1 : ((i + 1 : Nat) : Int) - 1 = i := by omega
      have hbi := hprR _ (getD_mem' (show i < m.pr.length by omega))
      obtain ⟨hT1, hT2, hT3⟩ := pr3 hbi
      by_cases hle : (m.pr.getD (i + 1) default).pid ≤ (m.pr.getD i default).pid
      · have hQ : procQ m (i + 1) = false := by
          unfold procQ
          rw [Nat.add_sub_cancel, decide_eq_true (Nat.succ_pos i), decide_eq_true hle]
          rfl
        rw [hF hQ]
        simp only [encPr] at hP
        repeat' (first|(with_reducible first|refine yrl (by constructor) ?_|refine jk (fun M hM=>?_)|(refine hM _ ?_;clear hM M)|refine xb3 (by decide) ?_|refine yqa (by assumption) ?_ ?_|refine yqb (by assumption) ?_ ?_)|((with_reducible refine je ?_)<;>(first|rfl|assumption|(simp only [znl,znNH];(first|done|fail))))|(with_reducible refine jf (by (simp only [↓reduceIte,zlk,Nat.reduceEqDiff,reduceCtorEq]);exact rfl) ?_)|((with_reducible first|refine jg (fun hc=>?_) (fun hc=>?_)|refine jh (fun hc=>?_) (fun hc=>?_))<;>(try simp (disch:=omega) only [zhb] at hc)<;>(try (exfalso;omega))<;>(try subst hc))|(with_reducible refine ji (by omega) ?_)|(simp (config := { maxSteps := 400000 }) only [↓jt,↓reduceIte,zvs,reduceCtorEq,seval,-List.reduceReplicate,tab,hS1,hS2,hS3,hT1,hT2,hT3,encPr,z1,Try.results40,jTA])|(simp (disch:=omega) only [ziw]))
        refine ok_drawC 20 (by kernel_rfl) (by decide +kernel) (by intro m hm; simp only [upd_ap,rows_cons,rows_nil]; (repeat (first | rfl | rw [if_neg (by omega)]))) (fun M hM => ?_); simp only [List.take_succ_cons,List.take_zero,List.drop_succ_cons,List.drop_zero]
        repeat' (first|(with_reducible first|refine yrl (by constructor) ?_|refine jk (fun M hM=>?_)|(refine hM _ ?_;clear hM M)|refine xb3 (by decide) ?_|refine yqa (by assumption) ?_ ?_|refine yqb (by assumption) ?_ ?_)|((with_reducible refine je ?_)<;>(first|rfl|assumption|(simp only [znl,znNH];(first|done|fail))))|(with_reducible refine jf (by (simp only [↓reduceIte,zlk,Nat.reduceEqDiff,reduceCtorEq]);exact rfl) ?_)|((with_reducible first|refine jg (fun hc=>?_) (fun hc=>?_)|refine jh (fun hc=>?_) (fun hc=>?_))<;>(try simp (disch:=omega) only [zhb] at hc)<;>(try (exfalso;omega))<;>(try subst hc))|(with_reducible refine ji (by omega) ?_)|(simp (config := { maxSteps := 400000 }) only [↓jt,↓reduceIte,zvs,reduceCtorEq,seval,-List.reduceReplicate,tab,hS1,hS2,hS3,hT1,hT2,hT3,encPr,z1,Try.results40,jTA])|(simp (disch:=omega) only [ziw]))
        all_goals first
          | (exfalso; omega)
          | (simp only [zrds]; done)
      · have hQ : procQ m (i + 1) = procB m (m.pr.getD (i + 1) default) := by
          unfold procQ
          rw [Nat.add_sub_cancel, decide_eq_true (Nat.succ_pos i), decide_eq_false hle]
          rfl
        rw [← hQ] at hP
        simp only [encPr] at hP
        generalize procQ m (i + 1) = b at hP hF hst
        cases b
        all_goals
          repeat' (first|(with_reducible first|refine yrl (by constructor) ?_|refine jk (fun M hM=>?_)|(refine hM _ ?_;clear hM M)|refine xb3 (by decide) ?_|refine yqa (by assumption) ?_ ?_|refine yqb (by assumption) ?_ ?_)|((with_reducible refine je ?_)<;>(first|rfl|assumption|(simp only [znl,znNH];(first|done|fail))))|(with_reducible refine jf (by (simp only [↓reduceIte,zlk,Nat.reduceEqDiff,reduceCtorEq]);exact rfl) ?_)|((with_reducible first|refine jg (fun hc=>?_) (fun hc=>?_)|refine jh (fun hc=>?_) (fun hc=>?_))<;>(try simp (disch:=omega) only [zhb] at hc)<;>(try (exfalso;omega))<;>(try subst hc))|(with_reducible refine ji (by omega) ?_)|(simp (config := { maxSteps := 400000 }) only [↓jt,↓reduceIte,zvs,reduceCtorEq,seval,-List.reduceReplicate,tab,hS1,hS2,hS3,hT1,hT2,hT3,encPr,z1,Try.results40,jTA])|(simp (disch:=omega) only [ziw]))
          refine ok_drawC 20 (by kernel_rfl) (by decide +kernel) (by intro m hm; simp only [upd_ap,rows_cons,rows_nil]; (repeat (first | rfl | rw [if_neg (by omega)]))) (fun M hM => ?_); simp only [List.take_succ_cons,List.take_zero,List.drop_succ_cons,List.drop_zero]
          repeat' (first|(with_reducible first|refine yrl (by constructor) ?_|refine jk (fun M hM=>?_)|(refine hM _ ?_;clear hM M)|refine xb3 (by decide) ?_|refine yqa (by assumption) ?_ ?_|refine yqb (by assumption) ?_ ?_)|((with_reducible refine je ?_)<;>(first|rfl|assumption|(simp only [znl,znNH];(first|done|fail))))|(with_reducible refine jf (by (simp only [↓reduceIte,zlk,Nat.reduceEqDiff,reduceCtorEq]);exact rfl) ?_)|((with_reducible first|refine jg (fun hc=>?_) (fun hc=>?_)|refine jh (fun hc=>?_) (fun hc=>?_))<;>(try simp (disch:=omega) only [zhb] at hc)<;>(try (exfalso;omega))<;>(try subst hc))|(with_reducible refine ji (by omega) ?_)|(simp (config := { maxSteps := 400000 }) only [↓jt,↓reduceIte,zvs,reduceCtorEq,seval,-List.reduceReplicate,tab,hS1,hS2,hS3,hT1,hT2,hT3,encPr,z1,Try.results40,jTA])|(simp (disch:=omega) only [ziw]))
          all_goals first
            | (exfalso; omega)
            | (rw [hF rfl]; simp only [zrds]; done)
            | (refine xl1 (i + 1 + 1) ?_ ⟨by omega, hst rfl⟩ (by show m.pr.length - (i + 1 + 1) < m.pr.length - (i + 1); omega); (refine yrn [(0, 0)] false ?_ ?_<;>(repeat' (first|(with_reducible first|exact ya1|exact ya2|exact ya3|refine jx rfl (by first|rfl|assumption|(simp only [znl,znNH];(first|done|fail)))|exact ya5|exact ya7|exact jy|exact jz|refine jA ?_|refine ya9 ?_ ?_ ?_|refine jC rfl (by first|rfl|assumption|(simp only [znl,znNH];(first|done|fail)))|refine MR.agg (MRL.cons ?_ ?_)|refine MR.fn ?_|refine MRL.cons ?_ ?_|exact MRL.nil|refine jE ?_ ?_|exact jF|exact jG|refine yb1 ?_ ?_|refine MB.row ?_|refine jI ?_ ?_|exact ya8|refine jJ rfl (by first|rfl|assumption|(simp only [znl,znNH];(first|done|fail)))|refine yb2 ?_|rfl)|(simp only [znl,znNH];(first|done|fail))|(simp only [↓reduceIte,zlk,Nat.reduceEqDiff,reduceCtorEq])|(with_reducible first|refine jJ ?_ ?_|refine ya5 ?_|refine ju ?_|refine jv ?_|refine jw ?_|refine jx ?_ (by first|rfl|assumption|(simp only [znl,znNH];(first|done|fail)))|refine jC ?_ (by first|rfl|assumption|(simp only [znl,znNH];(first|done|fail))))))); done)
  obtain rfl : k = m.pr.length := by omega
  have hB : procsB m = true := range_all hq
  rw [hB, if_neg (by simp)] at hR
  repeat' (first|(with_reducible first|refine yrl (by constructor) ?_|refine jk (fun M hM=>?_)|(refine hM _ ?_;clear hM M)|refine xb3 (by decide) ?_|refine yqa (by assumption) ?_ ?_|refine yqb (by assumption) ?_ ?_)|((with_reducible refine je ?_)<;>(first|rfl|assumption|(simp only [znl,znNH];(first|done|fail))))|(with_reducible refine jf (by (simp only [↓reduceIte,zlk,Nat.reduceEqDiff,reduceCtorEq]);exact rfl) ?_)|((with_reducible first|refine jg (fun hc=>?_) (fun hc=>?_)|refine jh (fun hc=>?_) (fun hc=>?_))<;>(try simp (disch:=omega) only [zhb] at hc)<;>(try (exfalso;omega))<;>(try subst hc))|(with_reducible refine ji (by omega) ?_)|(simp (config := { maxSteps := 400000 }) only [↓jt,↓reduceIte,zvs,reduceCtorEq,seval,-List.reduceReplicate,tab,Try.results40,jTA])|(simp (disch:=omega) only [ziw]))
  all_goals first
    | (exfalso; omega)
    | (rw [hR, if_pos (by omega)]; simp only [zrds]; done)
    | skip
  rw [if_neg (by omega)] at hR
  refine ok_loop (fun k : Nat => ⟨slots [(1, .ptr 0 []), (116, encPis m.pipes), (117, .int .i64 m.pipes.length), (118, .int .i64 k)], rows [(0, .row machSh (encM m))], 1⟩) (fun k => k ≤ m.pipes.length ∧ ∀ j, j < k → pipeB m j = true) (fun k => m.pipes.length - k) 0 ?_ ⟨Nat.zero_le _, fun j hj => by omega⟩ (fun k hk => ?_)
  · (refine yrn [(0, 0)] false ?_ ?_<;>(repeat' (first|(with_reducible first|exact ya1|exact ya2|exact ya3|refine jx rfl (by first|rfl|assumption|(simp only [znl,znNH];(first|done|fail)))|exact ya5|exact ya7|exact jy|exact jz|refine jA ?_|refine ya9 ?_ ?_ ?_|refine jC rfl (by first|rfl|assumption|(simp only [znl,znNH];(first|done|fail)))|refine MR.agg (MRL.cons ?_ ?_)|refine MR.fn ?_|refine MRL.cons ?_ ?_|exact MRL.nil|refine jE ?_ ?_|exact jF|exact jG|refine yb1 ?_ ?_|refine MB.row ?_|refine jI ?_ ?_|exact ya8|refine jJ rfl (by first|rfl|assumption|(simp only [znl,znNH];(first|done|fail)))|refine yb2 ?_|rfl)|(simp only [znl,znNH];(first|done|fail))|(simp only [↓reduceIte,zlk,Nat.reduceEqDiff,reduceCtorEq])|(with_reducible first|refine jJ ?_ ?_|refine ya5 ?_|refine ju ?_|refine jv ?_|refine jw ?_|refine jx ?_ (by first|rfl|assumption|(simp only [znl,znNH];(first|done|fail)))|refine jC ?_ (by first|rfl|assumption|(simp only [znl,znNH];(first|done|fail)))))))
    all_goals (first | rfl)
  clear hq
  obtain ⟨hk, hq⟩ := hk
  by_cases hlt : k < m.pipes.length
  · obtain ⟨⟨p1, p2⟩, p3⟩ := hpiR _ (getD_mem' hlt)
    have hF : pipeB m k = false → R = 3 := fun h => by
      rw [hR, if_pos]
      exact range_not hlt h
    have hst := step_all (k := k) hq
    by_cases hk0 : k = 0
    · subst hk0
      have z0 : ((0 : Nat) : Int) = 0 := rfl
      have hQ : pipeB m 0 = true ↔ (1 ≤ (m.pipes.getD 0 default).id ∧ (m.pipes.getD 0 default).id < m.newp ∧ (m.pipes.getD 0 default).d.length ≤ 64) := by
        unfold pipeB longB
        simp only [Nat.lt_irrefl,decide_false,Bool.false_and,Bool.or_false,Bool.not_eq_true',Bool.or_eq_false_iff,decide_eq_false_iff_not]
        omega
      repeat' (first|(with_reducible first|refine yrl (by constructor) ?_|refine jk (fun M hM=>?_)|(refine hM _ ?_;clear hM M)|refine xb3 (by decide) ?_|refine yqa (by assumption) ?_ ?_|refine yqb (by assumption) ?_ ?_)|((with_reducible refine je ?_)<;>(first|rfl|assumption|(simp only [znl,znNH];(first|done|fail))))|(with_reducible refine jf (by (simp only [↓reduceIte,zlk,Nat.reduceEqDiff,reduceCtorEq]);exact rfl) ?_)|((with_reducible first|refine jg (fun hc=>?_) (fun hc=>?_)|refine jh (fun hc=>?_) (fun hc=>?_))<;>(try simp (disch:=omega) only [zhb] at hc)<;>(try (exfalso;omega))<;>(try subst hc))|(with_reducible refine ji (by omega) ?_)|(simp (config := { maxSteps := 400000 }) only [↓jt,↓reduceIte,zvs,reduceCtorEq,seval,-List.reduceReplicate,tab,encPi,z0,Try.results40,jTA])|(simp (disch:=omega) only [ziw]))
      refine ok_drawC 32 (by kernel_rfl) (by decide +kernel) (by intro m hm; simp only [upd_ap,rows_cons,rows_nil]; (repeat (first | rfl | rw [if_neg (by omega)]))) (fun M hM => ?_); simp only [List.take_succ_cons,List.take_zero,List.drop_succ_cons,List.drop_zero]
      repeat' (first|(with_reducible first|refine yrl (by constructor) ?_|refine jk (fun M hM=>?_)|(refine hM _ ?_;clear hM M)|refine xb3 (by decide) ?_|refine yqa (by assumption) ?_ ?_|refine yqb (by assumption) ?_ ?_)|((with_reducible refine je ?_)<;>(first|rfl|assumption|(simp only [znl,znNH];(first|done|fail))))|(with_reducible refine jf (by (simp only [↓reduceIte,zlk,Nat.reduceEqDiff,reduceCtorEq]);exact rfl) ?_)|((with_reducible first|refine jg (fun hc=>?_) (fun hc=>?_)|refine jh (fun hc=>?_) (fun hc=>?_))<;>(try simp (disch:=omega) only [zhb] at hc)<;>(try (exfalso;omega))<;>(try subst hc))|(with_reducible refine ji (by omega) ?_)|(simp (config := { maxSteps := 400000 }) only [↓jt,↓reduceIte,zvs,reduceCtorEq,seval,-List.reduceReplicate,tab,encPi,z0,Try.results40,jTA])|(simp (disch:=omega) only [ziw]))
      all_goals first
        | (exfalso; omega)
        | (rw [hF (by rw [Bool.eq_false_iff]; intro h; have := hQ.1 h; omega)]; simp only [zrds]; done)
        | (refine xl1 1 ?_ ⟨by omega, hst (hQ.2 (by omega))⟩ (by show m.pipes.length - 1 < m.pipes.length - 0; omega); (refine yrn [(0, 0)] false ?_ ?_<;>(repeat' (first|(with_reducible first|exact ya1|exact ya2|exact ya3|refine jx rfl (by first|rfl|assumption|(simp only [znl,znNH];(first|done|fail)))|exact ya5|exact ya7|exact jy|exact jz|refine jA ?_|refine ya9 ?_ ?_ ?_|refine jC rfl (by first|rfl|assumption|(simp only [znl,znNH];(first|done|fail)))|refine MR.agg (MRL.cons ?_ ?_)|refine MR.fn ?_|refine MRL.cons ?_ ?_|exact MRL.nil|refine jE ?_ ?_|exact jF|exact jG|refine yb1 ?_ ?_|refine MB.row ?_|refine jI ?_ ?_|exact ya8|refine jJ rfl (by first|rfl|assumption|(simp only [znl,znNH];(first|done|fail)))|refine yb2 ?_|rfl)|(simp only [znl,znNH];(first|done|fail))|(simp only [↓reduceIte,zlk,Nat.reduceEqDiff,reduceCtorEq])|(with_reducible first|refine jJ ?_ ?_|refine ya5 ?_|refine ju ?_|refine jv ?_|refine jw ?_|refine jx ?_ (by first|rfl|assumption|(simp only [znl,znNH];(first|done|fail)))|refine jC ?_ (by first|rfl|assumption|(simp only [znl,znNH];(first|done|fail))))))); done)
    · obtain ⟨i, rfl⟩ : ∃ i, k = i + 1 := ⟨k - 1, by omega⟩
      have z1 : ((i + 1 : Nat) : Int) - 1 = i := by omega
      have hQ : pipeB m (i + 1) = true ↔ (1 ≤ (m.pipes.getD (i + 1) default).id ∧ (m.pipes.getD (i + 1) default).id < m.newp ∧ (m.pipes.getD i default).id < (m.pipes.getD (i + 1) default).id ∧ (m.pipes.getD (i + 1) default).d.length ≤ 64) := by
        unfold pipeB longB
        rw [Nat.add_sub_cancel, decide_eq_true (Nat.succ_pos i)]
        simp only [Bool.true_and,Bool.not_eq_true',Bool.or_eq_false_iff,decide_eq_false_iff_not]
        omega
      repeat' (first|(with_reducible first|refine yrl (by constructor) ?_|refine jk (fun M hM=>?_)|(refine hM _ ?_;clear hM M)|refine xb3 (by decide) ?_|refine yqa (by assumption) ?_ ?_|refine yqb (by assumption) ?_ ?_)|((with_reducible refine je ?_)<;>(first|rfl|assumption|(simp only [znl,znNH];(first|done|fail))))|(with_reducible refine jf (by (simp only [↓reduceIte,zlk,Nat.reduceEqDiff,reduceCtorEq]);exact rfl) ?_)|((with_reducible first|refine jg (fun hc=>?_) (fun hc=>?_)|refine jh (fun hc=>?_) (fun hc=>?_))<;>(try simp (disch:=omega) only [zhb] at hc)<;>(try (exfalso;omega))<;>(try subst hc))|(with_reducible refine ji (by omega) ?_)|(simp (config := { maxSteps := 400000 }) only [↓jt,↓reduceIte,zvs,reduceCtorEq,seval,-List.reduceReplicate,tab,encPi,z1,Try.results40,jTA])|(simp (disch:=omega) only [ziw]))
      refine ok_drawC 32 (by kernel_rfl) (by decide +kernel) (by intro m hm; simp only [upd_ap,rows_cons,rows_nil]; (repeat (first | rfl | rw [if_neg (by omega)]))) (fun M hM => ?_); simp only [List.take_succ_cons,List.take_zero,List.drop_succ_cons,List.drop_zero]
      repeat' (first|(with_reducible first|refine yrl (by constructor) ?_|refine jk (fun M hM=>?_)|(refine hM _ ?_;clear hM M)|refine xb3 (by decide) ?_|refine yqa (by assumption) ?_ ?_|refine yqb (by assumption) ?_ ?_)|((with_reducible refine je ?_)<;>(first|rfl|assumption|(simp only [znl,znNH];(first|done|fail))))|(with_reducible refine jf (by (simp only [↓reduceIte,zlk,Nat.reduceEqDiff,reduceCtorEq]);exact rfl) ?_)|((with_reducible first|refine jg (fun hc=>?_) (fun hc=>?_)|refine jh (fun hc=>?_) (fun hc=>?_))<;>(try simp (disch:=omega) only [zhb] at hc)<;>(try (exfalso;omega))<;>(try subst hc))|(with_reducible refine ji (by omega) ?_)|(simp (config := { maxSteps := 400000 }) only [↓jt,↓reduceIte,zvs,reduceCtorEq,seval,-List.reduceReplicate,tab,encPi,z1,Try.results40,jTA])|(simp (disch:=omega) only [ziw]))
      all_goals first
        | (exfalso; omega)
        | (rw [hF (by rw [Bool.eq_false_iff]; intro h; have := hQ.1 h; omega)]; simp only [zrds]; done)
        | (refine xl1 (i + 1 + 1) ?_ ⟨by omega, hst (hQ.2 (by omega))⟩ (by show m.pipes.length - (i + 1 + 1) < m.pipes.length - (i + 1); omega); (refine yrn [(0, 0)] false ?_ ?_<;>(repeat' (first|(with_reducible first|exact ya1|exact ya2|exact ya3|refine jx rfl (by first|rfl|assumption|(simp only [znl,znNH];(first|done|fail)))|exact ya5|exact ya7|exact jy|exact jz|refine jA ?_|refine ya9 ?_ ?_ ?_|refine jC rfl (by first|rfl|assumption|(simp only [znl,znNH];(first|done|fail)))|refine MR.agg (MRL.cons ?_ ?_)|refine MR.fn ?_|refine MRL.cons ?_ ?_|exact MRL.nil|refine jE ?_ ?_|exact jF|exact jG|refine yb1 ?_ ?_|refine MB.row ?_|refine jI ?_ ?_|exact ya8|refine jJ rfl (by first|rfl|assumption|(simp only [znl,znNH];(first|done|fail)))|refine yb2 ?_|rfl)|(simp only [znl,znNH];(first|done|fail))|(simp only [↓reduceIte,zlk,Nat.reduceEqDiff,reduceCtorEq])|(with_reducible first|refine jJ ?_ ?_|refine ya5 ?_|refine ju ?_|refine jv ?_|refine jw ?_|refine jx ?_ (by first|rfl|assumption|(simp only [znl,znNH];(first|done|fail)))|refine jC ?_ (by first|rfl|assumption|(simp only [znl,znNH];(first|done|fail))))))); done)
  obtain rfl : k = m.pipes.length := by omega
  have hC : pipesB m = true := range_all hq
  rw [hC, if_neg (by simp)] at hR
  by_cases hx : 65536 < m.inp.length ∨ 128 < m.init.length
  · rw [if_pos hx] at hR
    rw [hR]
    repeat' (first|(with_reducible first|refine yrl (by constructor) ?_|refine jk (fun M hM=>?_)|(refine hM _ ?_;clear hM M)|refine xb3 (by decide) ?_|refine yqa (by assumption) ?_ ?_|refine yqb (by assumption) ?_ ?_)|((with_reducible refine je ?_)<;>(first|rfl|assumption|(simp only [znl,znNH];(first|done|fail))))|(with_reducible refine jf (by (simp only [↓reduceIte,zlk,Nat.reduceEqDiff,reduceCtorEq]);exact rfl) ?_)|((with_reducible first|refine jg (fun hc=>?_) (fun hc=>?_)|refine jh (fun hc=>?_) (fun hc=>?_))<;>(try simp (disch:=omega) only [zhb] at hc)<;>(try (exfalso;omega))<;>(try subst hc))|(with_reducible refine ji (by omega) ?_)|(simp (config := { maxSteps := 400000 }) only [↓jt,↓reduceIte,zvs,reduceCtorEq,seval,-List.reduceReplicate,tab,Try.results40,jTA])|(simp (disch:=omega) only [ziw]))
    all_goals first
      | (exfalso; omega)
      | (simp only [zrds]; done)
  · rw [if_neg hx] at hR
    rw [← hR] at hD
    repeat' (first|(with_reducible first|refine yrl (by constructor) ?_|refine jk (fun M hM=>?_)|(refine hM _ ?_;clear hM M)|refine xb3 (by decide) ?_|refine yqa (by assumption) ?_ ?_|refine yqb (by assumption) ?_ ?_)|((with_reducible refine je ?_)<;>(first|rfl|assumption|(simp only [znl,znNH];(first|done|fail))))|(with_reducible refine jf (by (simp only [↓reduceIte,zlk,Nat.reduceEqDiff,reduceCtorEq]);exact rfl) ?_)|((with_reducible first|refine jg (fun hc=>?_) (fun hc=>?_)|refine jh (fun hc=>?_) (fun hc=>?_))<;>(try simp (disch:=omega) only [zhb] at hc)<;>(try (exfalso;omega))<;>(try subst hc))|(with_reducible refine ji (by omega) ?_)|(simp (config := { maxSteps := 400000 }) only [↓jt,↓reduceIte,zvs,reduceCtorEq,seval,-List.reduceReplicate,tab,Try.results40,jTA])|(simp (disch:=omega) only [ziw]))
    all_goals first
      | (exfalso; omega)
      | (simp only [zrds]; done)
end Go.Proofs.Ytpdhdkpebbfnnaa.V
end
section
namespace Go.Proofs.Ytpdhdkpebbfnnaa.V
open Go
set_option maxRecDepth 100000
set_option maxHeartbeats 4000000
structure PidOk (m : Mach) : Prop where
  pos : ∀ p ∈ m.pr, 1 ≤ p.pid
  inc : m.pr.Pairwise (fun p q => p.pid < q.pid)
  cur : 0 ≤ m.cur
end Go.Proofs.Ytpdhdkpebbfnnaa.V
end
section
namespace Go.Proofs.Ytpdhdkpebbfnnaa.V
open Go Go.RowKit
section
variable {P : Program} {ops : Array Oper} {k js : Nat} {perm : List Nat} {K : VS → Prop}
end
section
variable {P : Program} {n0 : Nat} {K : VX → VS → Prop}
end
end Go.Proofs.Ytpdhdkpebbfnnaa.V
end
section
namespace Go.Proofs.Ytpdhdkpebbfnnaa.V
open Go
set_option maxRecDepth 100000
set_option maxHeartbeats 4000000
theorem findI_some {l : List Pr} {pid : Int} {i : Nat} (h : findI l pid = some i) : i < l.length ∧ (l.getD i default).pid = pid := by
  unfold findI at h
  rw [List.findIdx?_eq_some_iff_getElem] at h
  obtain ⟨h1, h2, _⟩ := h
  refine ⟨h1, ?_⟩
  rw [List.getD_eq_getElem?_getD, List.getElem?_eq_getElem h1]
  simpa using h2
end Go.Proofs.Ytpdhdkpebbfnnaa.V
end
section
namespace Go.Proofs.Ytpdhdkpebbfnnaa.V
open Go
set_option maxRecDepth 100000
set_option maxHeartbeats 4000000
theorem procQ_pos {m : Mach} {i : Nat} (h : procQ m i = true) : 1 ≤ (m.pr.getD i default).pid ∧ procB m (m.pr.getD i default) = true := by
  unfold procQ at h
  rw [Bool.and_eq_true] at h
  refine ⟨?_, h.2⟩
  have h2 := h.2
  unfold procB at h2
  simp only [Bool.and_eq_true] at h2
  have := (procH_iff m _).1 h2.1.1
  unfold headP at this
  exact this.1
theorem procQ_inc {m : Mach} {i : Nat} (h : procQ m (i + 1) = true) : (m.pr.getD i default).pid < (m.pr.getD (i + 1) default).pid := by
  unfold procQ at h
  rw [Bool.and_eq_true, Nat.add_sub_cancel, decide_eq_true (Nat.succ_pos i)] at h
  have h1 := h.1
  simp only [Bool.true_and,Bool.not_eq_true',decide_eq_false_iff_not] at h1
  omega
theorem chk_parts {m : Mach} (h : chkM m = 0) : numB m = false ∧ (1 ≤ m.fr.length ∧ m.fr.length ≤ 64) ∧ (∀ s ∈ m.fr, s.length = 128) ∧ m.pr.length ≤ 8 ∧ procsB m = true ∧ m.pipes.length ≤ 64 ∧ pipesB m = true ∧ m.inp.length ≤ 65536 ∧ m.init.length ≤ 128 ∧ diskE m = 0 := by
  unfold chkM at h
  split at h
  · omega
  split at h
  · omega
  split at h
  · omega
  split at h
  · omega
  split at h
  · omega
  split at h
  · omega
  split at h
  · omega
  split at h
  · omega
  rename_i h1 h2 h3 h4 h5 h6 h7 h8
  refine ⟨by simpa using h1, by omega, fun s hs => ?_, by omega, by simpa using h5, by omega, by simpa using h7, by omega, by omega, h⟩
  refine Decidable.byContradiction fun hc => h3 ?_
  rw [List.any_eq_true]
  exact ⟨s, hs, decide_eq_true hc⟩
theorem chk_pids {m : Mach} (h : chkM m = 0) : PidOk m := by
  obtain ⟨h1, _, _, _, h5, _⟩ := chk_parts h
  have hq : ∀ i, i < m.pr.length → procQ m i = true := fun i hi => (List.all_eq_true.1 h5) i (List.mem_range.2 hi)
  refine ⟨fun p hp => ?_, ?_, ?_⟩
  · obtain ⟨i, hi, rfl⟩ := List.mem_iff_getElem.1 hp
    have := (procQ_pos (hq i hi)).1
    rw [List.getD_eq_getElem?_getD, List.getElem?_eq_getElem hi] at this
    exact this
  · rw [List.pairwise_iff_getElem]
    have key : ∀ d i, i + d + 1 < m.pr.length → (m.pr.getD i default).pid < (m.pr.getD (i + d + 1) default).pid := by
      intro d
      induction d with
      | zero => intro i hi; exact procQ_inc (hq (i + 1) hi)
      | succ d ih =>
        intro i hi
        have h1 := ih i (by omega)
        have h2 := procQ_inc (i := i + d + 1) (hq _ (by omega))
        rw [show i + (d + 1) + 1 = i + d + 1 + 1 by omega]
        omega
    intro i j hi hj hij
    have := key (j - i - 1) i (by omega)
    rw [show i + (j - i - 1) + 1 = j by omega, List.getD_eq_getElem?_getD, List.getElem?_eq_getElem hi, List.getD_eq_getElem?_getD, List.getElem?_eq_getElem hj] at this
    exact this
  · unfold numB at h1
    have := of_decide_eq_false h1
    omega
structure MOk (m : Mach) : Prop where
  fit : MFit 20000 m
  chk : chkM m = 0
end Go.Proofs.Ytpdhdkpebbfnnaa.V
end
section
namespace Go.Proofs.Ytpdhdkpebbfnnaa.V
open Go
set_option maxRecDepth 100000
set_option maxHeartbeats 4000000
end Go.Proofs.Ytpdhdkpebbfnnaa.V
end
section
namespace Go.Proofs.Ytpdhdkpebbfnnaa.V
open Go
set_option maxRecDepth 100000
set_option maxHeartbeats 4000000
def placeI (l : List Pip) (id : Int) : Int := match l.findIdx? (fun p => decide (p.id = id)) with
  | some i => i
  | none => -1
end Go.Proofs.Ytpdhdkpebbfnnaa.V
end
section
namespace Go.Proofs.Ytpdhdkpebbfnnaa.V
open Go
set_option maxRecDepth 100000
set_option maxHeartbeats 4000000
def endsS (k id : Int) (l : List Fdd) : Nat := l.countP fun f => decide (f.kind = k) && decide (f.n = id)
def endsN (l : List Pr) (k id : Int) : Nat := (l.map fun p => endsS k id p.fds).sum
theorem endsS_snoc (k id : Int) (s : List Fdd) (x : Fdd) : endsS k id (s ++ [x]) = endsS k id s + if x.kind = k ∧ x.n = id then 1 else 0 := by
  simp only [endsS,List.countP_append,List.countP_cons,List.countP_nil,Nat.zero_add]
  congr 1
  by_cases h1 : x.kind = k <;> by_cases h2 : x.n = id <;> simp [h1, h2]
theorem endsS_le (k id : Int) (s : List Fdd) : endsS k id s ≤ s.length := List.countP_le_length
theorem endsN_snoc (l : List Pr) (p : Pr) (k id : Int) : endsN (l ++ [p]) k id = endsN l k id + endsS k id p.fds := by
  simp [endsN]
theorem endsN_le (k id : Int) : ∀ (l : List Pr), (∀ p ∈ l, p.fds.length = 8) → endsN l k id ≤ 8 * l.length
  | [], _ => Nat.le_refl _
  | p :: l, h => by
    have h1 := endsN_le k id l fun q hq => h q (by simp [hq])
    have h2 := endsS_le k id p.fds
    have h3 := h p (by simp)
    have e : endsN (p :: l) k id = endsS k id p.fds + endsN l k id := by simp [endsN]
    rw [e, List.length_cons]
    omega
end Go.Proofs.Ytpdhdkpebbfnnaa.V
end
section
namespace Go.Proofs.Ytpdhdkpebbfnnaa.V
open Go
set_option maxRecDepth 100000
set_option maxHeartbeats 4000000
def pipM (m : Mach) (ps : List Pip) (np : Int) : Mach := { m with pipes := ps, newp := np }
def endB (m : Mach) (p : Pip) : Bool := decide (0 < endsN m.pr 4 p.id + endsN m.pr 5 p.id)
def sweepM (m : Mach) : Mach := pipM m (m.pipes.filter (endB m)) m.newp
structure PipesOk (ps : List Pip) (np : Int) : Prop where
  pos : ∀ p ∈ ps, 1 ≤ p.id
  lt : ∀ p ∈ ps, p.id < np
  inc : ps.Pairwise fun a b => a.id < b.id
  few : ∀ p ∈ ps, p.d.length ≤ 64
end Go.Proofs.Ytpdhdkpebbfnnaa.V
end
section
namespace Go.Proofs.Ytpdhdkpebbfnnaa.V
open Go
set_option maxRecDepth 100000
def znR2 := And.intro @jO <| And.intro @jP <| And.intro @jQ <| And.intro @jR <| And.intro @jS <| And.intro @jT <| And.intro @jU <| True.intro
set_option maxHeartbeats 4000000
theorem sends_spec (m : Mach) (hm : MFit 20000 m) (id : Int) (hf : i64R id) : Spec Try.prog 102 [encM m, .int .i64 id] (.tup [.int .i64 (endsN m.pr 4 id), .int .i64 (endsN m.pr 5 id)]) := by
  obtain ⟨R, hR⟩ : ∃ R, R = endsN m.pr 4 id := ⟨_, rfl⟩
  obtain ⟨T, hT⟩ : ∃ T, T = endsN m.pr 5 id := ⟨_, rfl⟩
  rw [← hR, ← hT]
  have hl := hm.pr
  have hpR := hm.prR
  have hU : ∀ q k, k ≤ m.pr.length → endsN (m.pr.take k) q id ≤ 8 * k := fun q k hk => by
    have := endsN_le q id (m.pr.take k) fun p hp => (hpR p (List.mem_of_mem_take hp)).fds
    rw [List.length_take] at this
    omega
  obtain ⟨hp1, hp2⟩ := hf
  refine spec_ok Try.func102 rfl rfl (by kernel_rfl) (k := 2) rfl (by decide) ?_
  repeat' (first|(with_reducible first|refine yrl (by constructor) ?_|refine jk (fun M hM=>?_)|(refine hM _ ?_;clear hM M)|refine xb3 (by decide) ?_|refine yqa (by assumption) ?_ ?_|refine yqb (by assumption) ?_ ?_)|((with_reducible refine je ?_)<;>(first|rfl|assumption|(simp only [znl,znR2];(first|done|fail))))|(with_reducible refine jf (by (simp only [↓reduceIte,zlk,Nat.reduceEqDiff,reduceCtorEq]);exact rfl) ?_)|((with_reducible first|refine jg (fun hc=>?_) (fun hc=>?_)|refine jh (fun hc=>?_) (fun hc=>?_))<;>(try simp (disch:=omega) only [zhb] at hc)<;>(try (exfalso;omega))<;>(try subst hc))|(with_reducible refine ji (by omega) ?_)|(simp (config := { maxSteps := 400000 }) only [↓jt,↓reduceIte,zvs,reduceCtorEq,seval,-List.reduceReplicate,tab,Try.results102,jTA])|(simp (disch:=omega) only [ziw]))
  refine ok_loop (fun k : Nat => ⟨slots [(1, .int .i64 id), (2, .ptr 0 []), (4, .int .i64 0), (5, .int .i64 0), (6, .int .i64 (endsN (m.pr.take k) 4 id)), (7, .int .i64 (endsN (m.pr.take k) 5 id)), (13, encPrs m.pr), (14, .int .i64 m.pr.length), (15, .int .i64 k)], rows [(0, .row machSh (encM m))], 1⟩) (fun k => k ≤ m.pr.length) (fun k => m.pr.length - k) 0 ?_ (Nat.zero_le _) (fun k hk => ?_)
  · (refine yrn [(0, 0)] false ?_ ?_<;>(repeat' (first|(with_reducible first|exact ya1|exact ya2|exact ya3|refine jx rfl (by first|rfl|assumption|(simp only [znl,znR2];(first|done|fail)))|exact ya5|exact ya7|exact jy|exact jz|refine jA ?_|refine ya9 ?_ ?_ ?_|refine jC rfl (by first|rfl|assumption|(simp only [znl,znR2];(first|done|fail)))|refine MR.agg (MRL.cons ?_ ?_)|refine MR.fn ?_|refine MRL.cons ?_ ?_|exact MRL.nil|refine jE ?_ ?_|exact jF|exact jG|refine yb1 ?_ ?_|refine MB.row ?_|refine jI ?_ ?_|exact ya8|refine jJ rfl (by first|rfl|assumption|(simp only [znl,znR2];(first|done|fail)))|refine yb2 ?_|rfl)|(simp only [znl,znR2];(first|done|fail))|(simp only [↓reduceIte,zlk,Nat.reduceEqDiff,reduceCtorEq])|(with_reducible first|refine jJ ?_ ?_|refine ya5 ?_|refine ju ?_|refine jv ?_|refine jw ?_|refine jx ?_ (by first|rfl|assumption|(simp only [znl,znR2];(first|done|fail)))|refine jC ?_ (by first|rfl|assumption|(simp only [znl,znR2];(first|done|fail)))))))
    all_goals (first | rfl | (simp [endsN]; done))
  have hUk := hU 4 k hk
  have hVk := hU 5 k hk
  by_cases hlt : k < m.pr.length
  · have hb := hpR _ (getD_mem' hlt)
    obtain ⟨hS1, hS2, hS3⟩ := pr3 hb
    have e1 := take_snoc m.pr k hlt
    have e2 := endsN_snoc (m.pr.take k) (m.pr.getD k default) 4 id
    have e2' := endsN_snoc (m.pr.take k) (m.pr.getD k default) 5 id
    rw [← e1] at e2 e2'
    have hsl := hb.fds
    have hsR := hb.fdsR
    repeat' (first|(with_reducible first|refine yrl (by constructor) ?_|refine jk (fun M hM=>?_)|(refine hM _ ?_;clear hM M)|refine xb3 (by decide) ?_|refine yqa (by assumption) ?_ ?_|refine yqb (by assumption) ?_ ?_)|((with_reducible refine je ?_)<;>(first|rfl|assumption|(simp only [znl,znR2];(first|done|fail))))|(with_reducible refine jf (by (simp only [↓reduceIte,zlk,Nat.reduceEqDiff,reduceCtorEq]);exact rfl) ?_)|((with_reducible first|refine jg (fun hc=>?_) (fun hc=>?_)|refine jh (fun hc=>?_) (fun hc=>?_))<;>(try simp (disch:=omega) only [zhb] at hc)<;>(try (exfalso;omega))<;>(try subst hc))|(with_reducible refine ji (by omega) ?_)|(simp (config := { maxSteps := 400000 }) only [↓jt,↓reduceIte,zvs,reduceCtorEq,seval,-List.reduceReplicate,tab,hS1,hS2,hS3,encPr,Try.results102,jTA])|(simp (disch:=omega) only [ziw]))
    refine ok_loop (fun j : Nat => ⟨slots [(1, .int .i64 id), (2, .ptr 0 []), (4, .int .i64 0), (5, .int .i64 0), (6, .int .i64 ((endsN (m.pr.take k) 4 id : Int) + endsS 4 id ((m.pr.getD k default).fds.take j))), (7, .int .i64 ((endsN (m.pr.take k) 5 id : Int) + endsS 5 id ((m.pr.getD k default).fds.take j))), (13, encPrs m.pr), (14, .int .i64 m.pr.length), (15, .int .i64 k), (20, .agg ((m.pr.getD k default).fds.map encFd)), (21, .int .i64 j)], rows [(0, .row machSh (encM m))], 1⟩) (fun j => j ≤ 8) (fun j => 8 - j) 0 ?_ (Nat.zero_le _) (fun j hj => ?_)
    · (refine yrn [(0, 0)] false ?_ ?_<;>(repeat' (first|(with_reducible first|exact ya1|exact ya2|exact ya3|refine jx rfl (by first|rfl|assumption|(simp only [znl,znR2];(first|done|fail)))|exact ya5|exact ya7|exact jy|exact jz|refine jA ?_|refine ya9 ?_ ?_ ?_|refine jC rfl (by first|rfl|assumption|(simp only [znl,znR2];(first|done|fail)))|refine MR.agg (MRL.cons ?_ ?_)|refine MR.fn ?_|refine MRL.cons ?_ ?_|exact MRL.nil|refine jE ?_ ?_|exact jF|exact jG|refine yb1 ?_ ?_|refine MB.row ?_|refine jI ?_ ?_|exact ya8|refine jJ rfl (by first|rfl|assumption|(simp only [znl,znR2];(first|done|fail)))|refine yb2 ?_|rfl)|(simp only [znl,znR2];(first|done|fail))|(simp only [↓reduceIte,zlk,Nat.reduceEqDiff,reduceCtorEq])|(with_reducible first|refine jJ ?_ ?_|refine ya5 ?_|refine ju ?_|refine jv ?_|refine jw ?_|refine jx ?_ (by first|rfl|assumption|(simp only [znl,znR2];(first|done|fail)))|refine jC ?_ (by first|rfl|assumption|(simp only [znl,znR2];(first|done|fail)))))))
      all_goals (first | rfl | (simp [endsS]; done))
    have hUj := endsS_le 4 id ((m.pr.getD k default).fds.take j)
    have hVj := endsS_le 5 id ((m.pr.getD k default).fds.take j)
    rw [List.length_take] at hUj hVj
    by_cases hjlt : j < 8
    · obtain ⟨⟨b1, b2⟩, ⟨b3, b4⟩, b5⟩ := hsR _ (getD_mem' (show j < (m.pr.getD k default).fds.length by omega))
      have e3 := take_snoc (m.pr.getD k default).fds j (by omega)
      have e4 := endsS_snoc 4 id ((m.pr.getD k default).fds.take j) ((m.pr.getD k default).fds.getD j default)
      have e5 := endsS_snoc 5 id ((m.pr.getD k default).fds.take j) ((m.pr.getD k default).fds.getD j default)
      rw [← e3] at e4 e5
      by_cases hq : ((m.pr.getD k default).fds.getD j default).n = id
      · by_cases h4 : ((m.pr.getD k default).fds.getD j default).kind = 4
        · rw [if_pos ⟨h4, hq⟩] at e4
          rw [if_neg (by omega)] at e5
          repeat' (first|(with_reducible first|refine yrl (by constructor) ?_|refine jk (fun M hM=>?_)|(refine hM _ ?_;clear hM M)|refine xb3 (by decide) ?_|refine yqa (by assumption) ?_ ?_|refine yqb (by assumption) ?_ ?_)|((with_reducible refine je ?_)<;>(first|rfl|assumption|(simp only [znl,znR2];(first|done|fail))))|(with_reducible refine jf (by (simp only [↓reduceIte,zlk,Nat.reduceEqDiff,reduceCtorEq]);exact rfl) ?_)|((with_reducible first|refine jg (fun hc=>?_) (fun hc=>?_)|refine jh (fun hc=>?_) (fun hc=>?_))<;>(try simp (disch:=omega) only [zhb] at hc)<;>(try (exfalso;omega))<;>(try subst hc))|(with_reducible refine ji (by omega) ?_)|(simp (config := { maxSteps := 400000 }) only [↓jt,↓reduceIte,zvs,reduceCtorEq,seval,-List.reduceReplicate,tab,hS1,hS2,hS3,encFd,Try.results102,jTA])|(simp (disch:=omega) only [ziw]))
          all_goals first
            | (exfalso; omega)
            | (refine xl1 (j + 1) ?_ (by show j + 1 ≤ 8; omega) (by show 8 - (j + 1) < 8 - j; omega); (refine yrn [(0, 0)] false ?_ ?_<;>(repeat' (first|(with_reducible first|exact ya1|exact ya2|exact ya3|refine jx rfl (by first|rfl|assumption|(simp only [znl,znR2];(first|done|fail)))|exact ya5|exact ya7|exact jy|exact jz|refine jA ?_|refine ya9 ?_ ?_ ?_|refine jC rfl (by first|rfl|assumption|(simp only [znl,znR2];(first|done|fail)))|refine MR.agg (MRL.cons ?_ ?_)|refine MR.fn ?_|refine MRL.cons ?_ ?_|exact MRL.nil|refine jE ?_ ?_|exact jF|exact jG|refine yb1 ?_ ?_|refine MB.row ?_|refine jI ?_ ?_|exact ya8|refine jJ rfl (by first|rfl|assumption|(simp only [znl,znR2];(first|done|fail)))|refine yb2 ?_|rfl)|(simp only [znl,znR2];(first|done|fail))|(simp only [↓reduceIte,zlk,Nat.reduceEqDiff,reduceCtorEq])|(with_reducible first|refine jJ ?_ ?_|refine ya5 ?_|refine ju ?_|refine jv ?_|refine jw ?_|refine jx ?_ (by first|rfl|assumption|(simp only [znl,znR2];(first|done|fail)))|refine jC ?_ (by first|rfl|assumption|(simp only [znl,znR2];(first|done|fail))))))); all_goals first | (rw [e4]; omega) | (rw [e5]; omega))
        · rw [if_neg (fun h => h4 h.1)] at e4
          by_cases h5 : ((m.pr.getD k default).fds.getD j default).kind = 5
          · rw [if_pos ⟨h5, hq⟩] at e5
            repeat' (first|(with_reducible first|refine yrl (by constructor) ?_|refine jk (fun M hM=>?_)|(refine hM _ ?_;clear hM M)|refine xb3 (by decide) ?_|refine yqa (by assumption) ?_ ?_|refine yqb (by assumption) ?_ ?_)|((with_reducible refine je ?_)<;>(first|rfl|assumption|(simp only [znl,znR2];(first|done|fail))))|(with_reducible refine jf (by (simp only [↓reduceIte,zlk,Nat.reduceEqDiff,reduceCtorEq]);exact rfl) ?_)|((with_reducible first|refine jg (fun hc=>?_) (fun hc=>?_)|refine jh (fun hc=>?_) (fun hc=>?_))<;>(try simp (disch:=omega) only [zhb] at hc)<;>(try (exfalso;omega))<;>(try subst hc))|(with_reducible refine ji (by omega) ?_)|(simp (config := { maxSteps := 400000 }) only [↓jt,↓reduceIte,zvs,reduceCtorEq,seval,-List.reduceReplicate,tab,hS1,hS2,hS3,encFd,Try.results102,jTA])|(simp (disch:=omega) only [ziw]))
            all_goals first
              | (exfalso; omega)
              | (refine xl1 (j + 1) ?_ (by show j + 1 ≤ 8; omega) (by show 8 - (j + 1) < 8 - j; omega); (refine yrn [(0, 0)] false ?_ ?_<;>(repeat' (first|(with_reducible first|exact ya1|exact ya2|exact ya3|refine jx rfl (by first|rfl|assumption|(simp only [znl,znR2];(first|done|fail)))|exact ya5|exact ya7|exact jy|exact jz|refine jA ?_|refine ya9 ?_ ?_ ?_|refine jC rfl (by first|rfl|assumption|(simp only [znl,znR2];(first|done|fail)))|refine MR.agg (MRL.cons ?_ ?_)|refine MR.fn ?_|refine MRL.cons ?_ ?_|exact MRL.nil|refine jE ?_ ?_|exact jF|exact jG|refine yb1 ?_ ?_|refine MB.row ?_|refine jI ?_ ?_|exact ya8|refine jJ rfl (by first|rfl|assumption|(simp only [znl,znR2];(first|done|fail)))|refine yb2 ?_|rfl)|(simp only [znl,znR2];(first|done|fail))|(simp only [↓reduceIte,zlk,Nat.reduceEqDiff,reduceCtorEq])|(with_reducible first|refine jJ ?_ ?_|refine ya5 ?_|refine ju ?_|refine jv ?_|refine jw ?_|refine jx ?_ (by first|rfl|assumption|(simp only [znl,znR2];(first|done|fail)))|refine jC ?_ (by first|rfl|assumption|(simp only [znl,znR2];(first|done|fail))))))); all_goals first | (rw [e4]; omega) | (rw [e5]; omega))
          · rw [if_neg (fun h => h5 h.1)] at e5
            repeat' (first|(with_reducible first|refine yrl (by constructor) ?_|refine jk (fun M hM=>?_)|(refine hM _ ?_;clear hM M)|refine xb3 (by decide) ?_|refine yqa (by assumption) ?_ ?_|refine yqb (by assumption) ?_ ?_)|((with_reducible refine je ?_)<;>(first|rfl|assumption|(simp only [znl,znR2];(first|done|fail))))|(with_reducible refine jf (by (simp only [↓reduceIte,zlk,Nat.reduceEqDiff,reduceCtorEq]);exact rfl) ?_)|((with_reducible first|refine jg (fun hc=>?_) (fun hc=>?_)|refine jh (fun hc=>?_) (fun hc=>?_))<;>(try simp (disch:=omega) only [zhb] at hc)<;>(try (exfalso;omega))<;>(try subst hc))|(with_reducible refine ji (by omega) ?_)|(simp (config := { maxSteps := 400000 }) only [↓jt,↓reduceIte,zvs,reduceCtorEq,seval,-List.reduceReplicate,tab,hS1,hS2,hS3,encFd,Try.results102,jTA])|(simp (disch:=omega) only [ziw]))
            all_goals first
              | (exfalso; omega)
              | (refine xl1 (j + 1) ?_ (by show j + 1 ≤ 8; omega) (by show 8 - (j + 1) < 8 - j; omega); (refine yrn [(0, 0)] false ?_ ?_<;>(repeat' (first|(with_reducible first|exact ya1|exact ya2|exact ya3|refine jx rfl (by first|rfl|assumption|(simp only [znl,znR2];(first|done|fail)))|exact ya5|exact ya7|exact jy|exact jz|refine jA ?_|refine ya9 ?_ ?_ ?_|refine jC rfl (by first|rfl|assumption|(simp only [znl,znR2];(first|done|fail)))|refine MR.agg (MRL.cons ?_ ?_)|refine MR.fn ?_|refine MRL.cons ?_ ?_|exact MRL.nil|refine jE ?_ ?_|exact jF|exact jG|refine yb1 ?_ ?_|refine MB.row ?_|refine jI ?_ ?_|exact ya8|refine jJ rfl (by first|rfl|assumption|(simp only [znl,znR2];(first|done|fail)))|refine yb2 ?_|rfl)|(simp only [znl,znR2];(first|done|fail))|(simp only [↓reduceIte,zlk,Nat.reduceEqDiff,reduceCtorEq])|(with_reducible first|refine jJ ?_ ?_|refine ya5 ?_|refine ju ?_|refine jv ?_|refine jw ?_|refine jx ?_ (by first|rfl|assumption|(simp only [znl,znR2];(first|done|fail)))|refine jC ?_ (by first|rfl|assumption|(simp only [znl,znR2];(first|done|fail))))))); all_goals first | (rw [e4]; omega) | (rw [e5]; omega))
      · rw [if_neg (fun h => hq h.2)] at e4 e5
        repeat' (first|(with_reducible first|refine yrl (by constructor) ?_|refine jk (fun M hM=>?_)|(refine hM _ ?_;clear hM M)|refine xb3 (by decide) ?_|refine yqa (by assumption) ?_ ?_|refine yqb (by assumption) ?_ ?_)|((with_reducible refine je ?_)<;>(first|rfl|assumption|(simp only [znl,znR2];(first|done|fail))))|(with_reducible refine jf (by (simp only [↓reduceIte,zlk,Nat.reduceEqDiff,reduceCtorEq]);exact rfl) ?_)|((with_reducible first|refine jg (fun hc=>?_) (fun hc=>?_)|refine jh (fun hc=>?_) (fun hc=>?_))<;>(try simp (disch:=omega) only [zhb] at hc)<;>(try (exfalso;omega))<;>(try subst hc))|(with_reducible refine ji (by omega) ?_)|(simp (config := { maxSteps := 400000 }) only [↓jt,↓reduceIte,zvs,reduceCtorEq,seval,-List.reduceReplicate,tab,hS1,hS2,hS3,encFd,Try.results102,jTA])|(simp (disch:=omega) only [ziw]))
        all_goals first
          | (exfalso; omega)
          | (refine xl1 (j + 1) ?_ (by show j + 1 ≤ 8; omega) (by show 8 - (j + 1) < 8 - j; omega); (refine yrn [(0, 0)] false ?_ ?_<;>(repeat' (first|(with_reducible first|exact ya1|exact ya2|exact ya3|refine jx rfl (by first|rfl|assumption|(simp only [znl,znR2];(first|done|fail)))|exact ya5|exact ya7|exact jy|exact jz|refine jA ?_|refine ya9 ?_ ?_ ?_|refine jC rfl (by first|rfl|assumption|(simp only [znl,znR2];(first|done|fail)))|refine MR.agg (MRL.cons ?_ ?_)|refine MR.fn ?_|refine MRL.cons ?_ ?_|exact MRL.nil|refine jE ?_ ?_|exact jF|exact jG|refine yb1 ?_ ?_|refine MB.row ?_|refine jI ?_ ?_|exact ya8|refine jJ rfl (by first|rfl|assumption|(simp only [znl,znR2];(first|done|fail)))|refine yb2 ?_|rfl)|(simp only [znl,znR2];(first|done|fail))|(simp only [↓reduceIte,zlk,Nat.reduceEqDiff,reduceCtorEq])|(with_reducible first|refine jJ ?_ ?_|refine ya5 ?_|refine ju ?_|refine jv ?_|refine jw ?_|refine jx ?_ (by first|rfl|assumption|(simp only [znl,znR2];(first|done|fail)))|refine jC ?_ (by first|rfl|assumption|(simp only [znl,znR2];(first|done|fail))))))); all_goals first | (rw [e4]; omega) | (rw [e5]; omega))
    · obtain rfl : j = 8 := by omega
      have e5 : (m.pr.getD k default).fds.take 8 = (m.pr.getD k default).fds := List.take_of_length_le (by omega)
      rw [e5] at *
      repeat' (first|(with_reducible first|refine yrl (by constructor) ?_|refine jk (fun M hM=>?_)|(refine hM _ ?_;clear hM M)|refine xb3 (by decide) ?_|refine yqa (by assumption) ?_ ?_|refine yqb (by assumption) ?_ ?_)|((with_reducible refine je ?_)<;>(first|rfl|assumption|(simp only [znl,znR2];(first|done|fail))))|(with_reducible refine jf (by (simp only [↓reduceIte,zlk,Nat.reduceEqDiff,reduceCtorEq]);exact rfl) ?_)|((with_reducible first|refine jg (fun hc=>?_) (fun hc=>?_)|refine jh (fun hc=>?_) (fun hc=>?_))<;>(try simp (disch:=omega) only [zhb] at hc)<;>(try (exfalso;omega))<;>(try subst hc))|(with_reducible refine ji (by omega) ?_)|(simp (config := { maxSteps := 400000 }) only [↓jt,↓reduceIte,zvs,reduceCtorEq,seval,-List.reduceReplicate,tab,hS1,hS2,hS3,Try.results102,jTA])|(simp (disch:=omega) only [ziw]))
      all_goals first
        | (refine xl1 (k + 1) ?_ (by show k + 1 ≤ m.pr.length; omega) (by show m.pr.length - (k + 1) < m.pr.length - k; omega); (refine yrn [(0, 0)] false ?_ ?_<;>(repeat' (first|(with_reducible first|exact ya1|exact ya2|exact ya3|refine jx rfl (by first|rfl|assumption|(simp only [znl,znR2];(first|done|fail)))|exact ya5|exact ya7|exact jy|exact jz|refine jA ?_|refine ya9 ?_ ?_ ?_|refine jC rfl (by first|rfl|assumption|(simp only [znl,znR2];(first|done|fail)))|refine MR.agg (MRL.cons ?_ ?_)|refine MR.fn ?_|refine MRL.cons ?_ ?_|exact MRL.nil|refine jE ?_ ?_|exact jF|exact jG|refine yb1 ?_ ?_|refine MB.row ?_|refine jI ?_ ?_|exact ya8|refine jJ rfl (by first|rfl|assumption|(simp only [znl,znR2];(first|done|fail)))|refine yb2 ?_|rfl)|(simp only [znl,znR2];(first|done|fail))|(simp only [↓reduceIte,zlk,Nat.reduceEqDiff,reduceCtorEq])|(with_reducible first|refine jJ ?_ ?_|refine ya5 ?_|refine ju ?_|refine jv ?_|refine jw ?_|refine jx ?_ (by first|rfl|assumption|(simp only [znl,znR2];(first|done|fail)))|refine jC ?_ (by first|rfl|assumption|(simp only [znl,znR2];(first|done|fail))))))); all_goals first | (rw [e2]; omega) | (rw [e2']; omega))
  · obtain rfl : k = m.pr.length := by omega
    rw [List.take_length] at *
    repeat' (first|(with_reducible first|refine yrl (by constructor) ?_|refine jk (fun M hM=>?_)|(refine hM _ ?_;clear hM M)|refine xb3 (by decide) ?_|refine yqa (by assumption) ?_ ?_|refine yqb (by assumption) ?_ ?_)|((with_reducible refine je ?_)<;>(first|rfl|assumption|(simp only [znl,znR2];(first|done|fail))))|(with_reducible refine jf (by (simp only [↓reduceIte,zlk,Nat.reduceEqDiff,reduceCtorEq]);exact rfl) ?_)|((with_reducible first|refine jg (fun hc=>?_) (fun hc=>?_)|refine jh (fun hc=>?_) (fun hc=>?_))<;>(try simp (disch:=omega) only [zhb] at hc)<;>(try (exfalso;omega))<;>(try subst hc))|(with_reducible refine ji (by omega) ?_)|(simp (config := { maxSteps := 400000 }) only [↓jt,↓reduceIte,zvs,reduceCtorEq,seval,-List.reduceReplicate,tab,List.take_length,Try.results102,jTA])|(simp (disch:=omega) only [ziw]))
    all_goals first
      | (simp only [zrds]; rw [hR, hT]; done)
      | (simp only [zrds]; omega)
end Go.Proofs.Ytpdhdkpebbfnnaa.V
end
section
namespace Go.Proofs.Ytpdhdkpebbfnnaa.V
open Go
set_option maxRecDepth 100000
set_option maxHeartbeats 4000000
end Go.Proofs.Ytpdhdkpebbfnnaa.V
end
section
namespace Go.Proofs.Ytpdhdkpebbfnnaa.V
open Go
set_option maxRecDepth 100000
set_option maxHeartbeats 8000000
def mapK (f : Pr → Pr) (l : List Pr) (k : Nat) : List Pr := (l.take k).map f ++ l.drop k
theorem mapK_len (f : Pr → Pr) (l : List Pr) (k : Nat) : (mapK f l k).length = l.length := by
  unfold mapK
  rw [List.length_append, List.length_map, List.length_take, List.length_drop]; omega
theorem mapK_all (f : Pr → Pr) (l : List Pr) : mapK f l l.length = l.map f := by
  unfold mapK
  rw [List.take_length, List.drop_length, List.append_nil]
theorem mapK_at {f : Pr → Pr} {l : List Pr} {k : Nat} (hk : k < l.length) : (mapK f l k).getD k default = l.getD k default := by
  unfold mapK
  rw [List.getD_eq_getElem?_getD, List.getElem?_append_right (by rw [List.length_map, List.length_take]; omega), List.length_map, List.length_take, Nat.min_eq_left (by omega), Nat.sub_self, List.getElem?_drop, Nat.add_zero, ← List.getD_eq_getElem?_getD]
theorem mapK_next {f : Pr → Pr} {l : List Pr} {k : Nat} (hk : k < l.length) : mapK f l (k + 1) = (mapK f l k).set k (f (l.getD k default)) := by
  unfold mapK
  rw [take_snoc l k hk, List.map_append]
  have hd : l.drop k = l.getD k default :: l.drop (k + 1) := by
    rw [List.drop_eq_getElem_cons hk]
    congr 1
    rw [List.getD_eq_getElem?_getD, List.getElem?_eq_getElem hk]; rfl
  rw [hd, List.set_append_right _ _ (by rw [List.length_map, List.length_take]; omega), List.length_map, List.length_take, Nat.min_eq_left (by omega), Nat.sub_self]
  simp
theorem mapK_same {f : Pr → Pr} {l : List Pr} {k : Nat} (hk : k < l.length) (h : f (l.getD k default) = l.getD k default) : mapK f l (k + 1) = mapK f l k := by
  rw [mapK_next hk, h]
  have := mapK_at (f := f) hk
  have hl := mapK_len f l k
  rw [← this, List.getD_eq_getElem?_getD, List.getElem?_eq_getElem (by omega)]
  exact List.set_getElem_self (by omega)
def deadP (p : Pr) (code : Int) : Pr := ⟨p.pid, p.par, 3, p.rs, p.pc, List.replicate 16 ⟨false, false, 0⟩, List.replicate 8 ⟨0, 0, 0⟩, false, code, 0, 0⟩
def freeP (pid : Int) (p : Pr) : Pr := if p.par = pid then { p with par := 0 } else p
def stayB (l : List Pr) (p : Pr) : Bool := !(decide (p.st = 3) && (decide (p.par = 0) || (findI l p.par).isNone))
def prM (m : Mach) (l : List Pr) : Mach := { m with pr := l }
def dieL (m : Mach) (i : Nat) (pid code : Int) : List Pr := (m.pr.set i (deadP (m.pr.getD i default) code)).map (freeP pid)
def dieM (m : Mach) (pid code : Int) : Mach := match findI m.pr pid with
  | none => m
  | some i => if (m.pr.getD i default).st = 3 then m else sweepM (prM m ((dieL m i pid code).filter (stayB (dieL m i pid code))))
theorem deadP_fit {p : Pr} (h : PrR p) {code : Int} (hc : u32R code) : PrR (deadP p code) := by
  have z : i64R 0 := by unfold i64R; omega
  exact ⟨h.pid, h.par, by show i64R 3; unfold i64R; omega, h.rs, h.rsR, h.pc, by simp [deadP], fun x hx => by rw [List.eq_of_mem_replicate hx]; exact z, by simp [deadP], fun x hx => by rw [List.eq_of_mem_replicate hx]; exact ⟨z, z, z⟩, hc, z, by show u64R 0; unfold u64R; omega⟩
theorem freeP_fit {p : Pr} (h : PrR p) (pid : Int) : PrR (freeP pid p) := by
  unfold freeP
  split
  · exact ⟨h.pid, by show i64R 0; unfold i64R; omega, h.st, h.rs, h.rsR, h.pc, h.sp, h.spR, h.fds, h.fdsR, h.code, h.why, h.n⟩
  · exact h
theorem prM_fit {N : Nat} {m : Mach} (h : MFit N m) {l : List Pr} (hl : l.length ≤ N) (hp : ∀ p ∈ l, PrR p) : MFit N (prM m l) :=
  ⟨h.clock, h.quantum, h.cur, h.left, h.fr, h.frS, hl, hp, h.next, h.init, h.pipes, h.pipesR, h.newp, h.inp, h.told, h.bl, h.blS, h.pe, h.peS, h.dleft, h.dirty, h.dirtyS⟩
theorem dieL_fit {m : Mach} (hm : MFit 20000 m) {i : Nat} (hi : i < m.pr.length) (pid : Int) {code : Int} (hc : u32R code) : (dieL m i pid code).length = m.pr.length ∧ ∀ p ∈ dieL m i pid code, PrR p := by
  refine ⟨by unfold dieL; rw [List.length_map, List.length_set], fun p hp => ?_⟩
  obtain ⟨q, hq, rfl⟩ := List.mem_map.1 hp
  refine freeP_fit ?_ _
  rcases List.mem_or_eq_of_mem_set hq with hq | rfl
  · exact hm.prR q hq
  · exact deadP_fit (hm.prR _ (getD_mem' hi)) hc
abbrev encMD (m : Mach) (prs : VV) : VV := .agg [.int .u64 m.clock, .int .i64 m.quantum, .int .i64 m.cur, .int .i64 m.left, encStrs m.fr, prs, .int .i64 m.next, .str m.init, encPis m.pipes, .int .i64 m.newp, .str m.inp, .bool m.fin, .int .u64 m.told, encDr m.dr, encWrs m.dirty]
theorem ok_stop {P : Program} {n0 : Nat} {S : VS} {K : VX → VS → Prop} {l : Array Oper} {d : Bool} (i : Nat) (h : Ok P n0 (.region i l d) S K) : Ok P n0 (.region i l d) S K := h
abbrev nilMD : VV := .agg [.int .u64 0, .int .i64 0, .int .i64 0, .int .i64 0, .sl none 0, .sl none 0, .int .i64 0, .str [], .sl none 0, .int .i64 0, .str [], .bool false, .int .u64 0, .agg [.sl none 0, .sl none 0, .int .i64 0], .sl none 0]
theorem filt_snoc {l : List Pr} {q : Pr → Bool} {k : Nat} (hk : k < l.length) : (l.take (k + 1)).filter q = (l.take k).filter q ++ if q (l.getD k default) = true then [l.getD k default] else [] := by
  rw [take_snoc l k hk, List.filter_append]
  by_cases h : q (l.getD k default) = true
  · rw [if_pos h, List.filter_cons_of_pos h, List.filter_nil]
  · rw [if_neg h, List.filter_cons_of_neg h, List.filter_nil]
theorem zSp : Has (.arr 16 (.st [.cell, .cell, .cell])) (.agg (List.replicate 16 (.agg [.bool false, .bool false, .int .i64 0]))) := hasSpace (List.replicate 16 ⟨false, false, 0⟩) rfl
theorem zFd : Has (.arr 8 (.st [.cell, .cell, .cell])) (.agg (List.replicate 8 (.agg [.int .i64 0, .int .i64 0, .int .i64 0]))) := hasFds (List.replicate 8 ⟨0, 0, 0⟩) rfl
end Go.Proofs.Ytpdhdkpebbfnnaa.V
end
section
namespace Go.Proofs.Ytpdhdkpebbfnnaa.V
open Go
set_option maxRecDepth 100000
set_option maxHeartbeats 1000000
def setM (L : List Int) : List (VV × VV) := L.foldl (fun es f => mput es (.int .i64 f) (.bool true)) []
theorem mget_mput : ∀ (es : List (VV × VV)) (f g : Int), mget (mput es (.int .i64 f) (.bool true)) (.int .i64 g) = if g = f then some (.bool true) else mget es (.int .i64 g)
  | [], f, g => by
    simp only [mput,mget,keq,beq_iff_eq]
  | (k, v) :: es, f, g => by
    simp only [mput]
    by_cases h : keq (.int .i64 f) k = true
    · rw [if_pos h]
      simp only [mget]
      cases k <;> simp [keq] at h
      subst h
      simp only [keq,beq_iff_eq]
      split <;> rfl
    · rw [if_neg h]
      simp only [mget,mget_mput es f g]
      by_cases h2 : keq (.int .i64 g) k = true
      · rw [if_pos h2, if_pos h2]
        by_cases e : g = f
        · subst e; exact absurd h2 h
        · rw [if_neg e]
      · rw [if_neg h2, if_neg h2]
theorem setM_snoc (L : List Int) (f : Int) : mput (setM L) (.int .i64 f) (.bool true) = setM (L ++ [f]) := by
  simp [setM, List.foldl_append]
theorem mget_setM (f : Int) : ∀ (L : List Int) (es : List (VV × VV)), mget (L.foldl (fun es f => mput es (.int .i64 f) (.bool true)) es) (.int .i64 f) = if f ∈ L then some (.bool true) else mget es (.int .i64 f)
  | [], es => by simp
  | g :: L, es => by
    simp only [List.foldl_cons,mget_setM f L,mget_mput,List.mem_cons]
    by_cases h : f ∈ L
    · simp [h]
    · simp [h]
theorem look_setM (L : List Int) (f : Int) : (mget (setM L) (.int .i64 f)).getD (.bool false) = .bool (decide (f ∈ L)) := by
  rw [setM, mget_setM]
  by_cases h : f ∈ L <;> simp [h, mget]
theorem mput_keys : ∀ (es : List (VV × VV)) (f : Int), (es.all fun q => keyV (.int .i64) q.1) = true → ((mput es (.int .i64 f) (.bool true)).all fun q => keyV (.int .i64) q.1) = true
  | [], f, _ => by simp [mput, keyV]
  | (k, v) :: es, f, h => by
    simp only [List.all_cons,Bool.and_eq_true] at h
    simp only [mput]
    split
    · simp only [List.all_cons,Bool.and_eq_true]; exact h
    · simp only [List.all_cons,Bool.and_eq_true]; exact ⟨h.1, mput_keys es f h.2⟩
theorem keys_setM (L : List Int) : ((setM L).all fun q => keyV (.int .i64) q.1) = true := by
  have key : ∀ (L : List Int) (es : List (VV × VV)), (es.all fun q => keyV (.int .i64) q.1) = true → ((L.foldl (fun es f => mput es (.int .i64 f) (.bool true)) es).all fun q => keyV (.int .i64) q.1) = true := by
    intro L
    induction L with
    | nil => intro es h; exact h
    | cons g L ih => intro es h; exact ih _ (mput_keys es g h)
  exact key L [] rfl
theorem jV (L : List Int) : ((setM L).all fun q => nl q.1 && nl q.2) = true := by
  have hp : ∀ (es : List (VV × VV)) (f : Int), (es.all fun q => nl q.1 && nl q.2) = true → ((mput es (.int .i64 f) (.bool true)).all fun q => nl q.1 && nl q.2) = true := by
    intro es f
    induction es with
    | nil => intro _; simp [mput, nl]
    | cons x es ih =>
      obtain ⟨k, v⟩ := x
      intro h
      simp only [List.all_cons,Bool.and_eq_true] at h
      simp only [mput]
      split
      · simp only [List.all_cons,Bool.and_eq_true]; exact ⟨⟨h.1.1, by simp [nl]⟩, h.2⟩
      · simp only [List.all_cons,Bool.and_eq_true]; exact ⟨h.1, ih h.2⟩
  have key : ∀ (L : List Int) (es : List (VV × VV)), (es.all fun q => nl q.1 && nl q.2) = true → ((L.foldl (fun es f => mput es (.int .i64 f) (.bool true)) es).all fun q => nl q.1 && nl q.2) = true := by
    intro L
    induction L with
    | nil => intro es h; exact h
    | cons g L ih => intro es h; exact ih _ (hp es g h)
  exact key L [] rfl
def own (s : List Pte) (k : Nat) : List Int := ((s.take k).filter (·.is)).map (·.fr)
theorem own_succ (s : List Pte) (k : Nat) (h : k < s.length) : own s (k + 1) = own s k ++ if (s.getD k default).is = true then [(s.getD k default).fr] else [] := by
  have e : s.take (k + 1) = s.take k ++ [s.getD k default] := by
    rw [List.take_add_one, List.getElem?_eq_getElem h, List.getD_eq_getElem?_getD, List.getElem?_eq_getElem h]; rfl
  unfold own
  rw [e, List.filter_append, List.map_append]
  congr 1
  by_cases h2 : (s.getD k default).is = true
  · rw [if_pos h2, List.filter_cons_of_pos h2]; rfl
  · rw [if_neg h2, List.filter_cons_of_neg h2]; rfl
end Go.Proofs.Ytpdhdkpebbfnnaa.V
end
section
namespace Go.Proofs.Ytpdhdkpebbfnnaa.V
open Go
set_option maxRecDepth 100000
set_option maxHeartbeats 8000000
def metF (m : Mach) (k j : Nat) : List Int := ((m.pr.take k).flatMap fun p => own p.sp 16) ++ own (m.pr.getD k default).sp j
theorem metF_zero (m : Mach) : metF m 0 0 = [] := by simp [metF, own]
theorem metF_next {m : Mach} {k : Nat} (h : k < m.pr.length) : metF m (k + 1) 0 = metF m k 16 := by
  unfold metF
  rw [take_snoc m.pr k h, List.flatMap_append]
  simp [own]
theorem metF_in {m : Mach} {k j : Nat} (h : k < m.pr.length) (hj : j < (m.pr.getD k default).sp.length) (hi : ((m.pr.getD k default).sp.getD j default).is = true) : metF m k (j + 1) = metF m k j ++ [((m.pr.getD k default).sp.getD j default).fr] := by
  unfold metF
  rw [own_succ _ _ hj, if_pos hi, List.append_assoc]
theorem metF_out {m : Mach} {k j : Nat} (h : k < m.pr.length) (hj : j < (m.pr.getD k default).sp.length) (hi : ((m.pr.getD k default).sp.getD j default).is = false) : metF m k (j + 1) = metF m k j := by
  unfold metF
  rw [own_succ _ _ hj, if_neg (by rw [hi]; simp), List.append_nil]
def lastQ (l : List Pr) : Nat → Int
  | 0 => 0
  | k + 1 => (l.getD k default).pid
end Go.Proofs.Ytpdhdkpebbfnnaa.V
end
section
namespace Go.Proofs.Ytpdhdkpebbfnnaa.V
open Go
set_option maxRecDepth 100000
set_option maxHeartbeats 4000000
end Go.Proofs.Ytpdhdkpebbfnnaa.V
end
section
namespace Go.Proofs.Ytpdhdkpebbfnnaa.V
open Go
set_option maxRecDepth 100000
set_option maxHeartbeats 4000000
def fieldQ (st r0 why n code : Int) : Prop := (st = 1 ∨ st = 2 ∨ st = 3) ∧ r0 = 0 ∧ (st = 2 → 1 ≤ why ∧ why ≤ 5) ∧ (st ≠ 2 → why = 0 ∧ n = 0) ∧ (st = 3 ∨ code = 0)
def fileQ (l : List Pip) (f : Fdd) : Prop := ((f.kind = 1 ∨ f.kind = 2) ∧ f.n = 0 ∧ f.pos = 0) ∨ (f.kind = 3 ∧ 1 ≤ f.n ∧ f.n ≤ 64 ∧ 0 ≤ f.pos ∧ f.pos ≤ 8960) ∨ ((f.kind = 4 ∨ f.kind = 5) ∧ f.pos = 0 ∧ 0 ≤ placeI l f.n)
end Go.Proofs.Ytpdhdkpebbfnnaa.V
end
section
namespace Go.Proofs.Ytpdhdkpebbfnnaa.V
open Go
set_option maxRecDepth 100000
set_option maxHeartbeats 8000000
def pageS (m : Mach) (k j : Nat) : Prop :=
  if ((m.pr.getD k default).sp.getD j default).is = true then (m.pr.getD k default).st ≠ 3 ∧ 0 ≤ ((m.pr.getD k default).sp.getD j default).fr ∧ ((m.pr.getD k default).sp.getD j default).fr < m.fr.length ∧ ((m.pr.getD k default).sp.getD j default).fr ∉ metF m k j
  else ((m.pr.getD k default).sp.getD j default).wr = false ∧ ((m.pr.getD k default).sp.getD j default).fr = 0
def fdS (m : Mach) (k j : Nat) : Prop :=
  (((m.pr.getD k default).fds.getD j default).kind = 0 ∧ ((m.pr.getD k default).fds.getD j default).n = 0 ∧ ((m.pr.getD k default).fds.getD j default).pos = 0) ∨ ((m.pr.getD k default).st ≠ 3 ∧ fileQ m.pipes ((m.pr.getD k default).fds.getD j default))
def parS (m : Mach) (p : Pr) : Prop := livesB m.pr p.par = true ∨ (p.par = 0 ∧ livesP p = true)
structure okS (m : Mach) (k : Nat) : Prop where
  inc : lastQ m.pr k < (m.pr.getD k default).pid
  next : (m.pr.getD k default).pid < m.next
  fl : fieldQ (m.pr.getD k default).st ((m.pr.getD k default).rs.getD 0 default) (m.pr.getD k default).why (m.pr.getD k default).n (m.pr.getD k default).code
  par : parS m (m.pr.getD k default)
  pg : ∀ j, j < 16 → pageS m k j
  fd : ∀ j, j < 8 → fdS m k j
theorem metF_count {m : Mach} {k j : Nat} (hR : ∀ p ∈ m.pr, PrR p) (h : k < m.pr.length) (hj : j ≤ 16) (hp : ∀ i, i < j → pageS m k i) (h0 : ∀ f, (metF m k 0).count f ≤ 1) : ∀ f, (metF m k j).count f ≤ 1 := by
  induction j with
  | zero => exact h0
  | succ j ih =>
    intro f
    have ih := ih (by omega) (fun i hi => hp i (by omega)) f
    have hl := (hR _ (getD_mem' h)).sp
    have hpj := hp j (by omega)
    unfold pageS at hpj
    cases hi : ((m.pr.getD k default).sp.getD j default).is with
    | true =>
      rw [if_pos hi] at hpj
      rw [metF_in h (by omega) hi, List.count_append, List.count_singleton]
      split
      · rename_i e
        have e : ((m.pr.getD k default).sp.getD j default).fr = f := by simpa using e
        rw [← e, List.count_eq_zero.2 hpj.2.2.2]
        omega
      · omega
    | false => rw [metF_out h (by omega) hi]; exact ih
theorem metF_all {m : Mach} (hR : ∀ p ∈ m.pr, PrR p) (hq : ∀ k, k < m.pr.length → ∀ j, j < 16 → pageS m k j) : ∀ k, k ≤ m.pr.length → ∀ f, (metF m k 0).count f ≤ 1 := by
  intro k
  induction k with
  | zero => intro _ f; rw [metF_zero]; simp
  | succ k ih =>
    intro hk f
    rw [metF_next (by omega)]
    exact metF_count hR (by omega) (by omega) (fun i hi => hq k (by omega) i hi) (ih (by omega)) f
theorem usersS_own (f : Int) (s : List Pte) : ∀ k, k ≤ s.length → usersS f (s.take k) = (own s k).count f := by
  intro k
  induction k with
  | zero => intro _; simp [usersS, own]
  | succ k ih =>
    intro hk
    rw [take_snoc s k (by omega), usersS_snoc, ih (by omega), own_succ s k (by omega), List.count_append]
    congr 1
    cases hi : (s.getD k default).is with
    | true =>
      rw [if_pos rfl, List.count_singleton]
      by_cases e : (s.getD k default).fr = f
      · rw [if_pos ⟨rfl, e⟩, if_pos (by simpa using e)]
      · rw [if_neg (fun h => e h.2), if_neg (by simpa using e)]
    | false => rw [if_neg (by simp), if_neg (by simp)]; rfl
theorem usersN_metF {m : Mach} (hR : ∀ p ∈ m.pr, PrR p) (f : Int) : ∀ k, k ≤ m.pr.length → usersN (m.pr.take k) f = (metF m k 0).count f := by
  intro k
  induction k with
  | zero => intro _; rw [metF_zero]; simp [usersN]
  | succ k ih =>
    intro hk
    have hl := (hR _ (getD_mem' (show k < m.pr.length by omega))).sp
    have e := usersS_own f (m.pr.getD k default).sp 16 (by omega)
    rw [List.take_of_length_le (by omega)] at e
    rw [take_snoc m.pr k (by omega), usersN_snoc, ih (by omega), e, metF_next (by omega)]
    show _ = (List.flatMap _ _ ++ own _ 16).count f
    rw [List.count_append]
    congr 1
    unfold metF
    rw [show own (m.pr.getD k default).sp 0 = [] from rfl, List.append_nil]
end Go.Proofs.Ytpdhdkpebbfnnaa.V
end
section
namespace Go.Proofs.Ytpdhdkpebbfnnaa.V
open Go
set_option maxRecDepth 100000
set_option maxHeartbeats 1000000
end Go.Proofs.Ytpdhdkpebbfnnaa.V
end
section
namespace Go.Proofs.Ytpdhdkpebbfnnaa.V
open Go
set_option maxRecDepth 100000
set_option maxHeartbeats 1000000
end Go.Proofs.Ytpdhdkpebbfnnaa.V
end
section
namespace Go.Proofs.Ytpdhdkpebbfnnaa.V
open Go
set_option maxRecDepth 100000
set_option maxHeartbeats 1000000
end Go.Proofs.Ytpdhdkpebbfnnaa.V
end
