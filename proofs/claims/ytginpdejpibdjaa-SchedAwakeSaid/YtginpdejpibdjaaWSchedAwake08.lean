/-
  Parts of the proof of SchedAwake: NK, NQ, NR, R1, R2.
  Conditions: none.
-/
import Derived.Test.YtginpdejpibdjaaWSchedAwake05
import Derived.Test.YtginpdejpibdjaaWSchedAwake07
set_option linter.unusedVariables false
set_option linter.unusedSimpArgs false
set_option linter.unusedSectionVars false
set_option linter.defProp false
section
namespace Go.Proofs.Ytginpdejpibdjaa.V
open Go
set_option maxRecDepth 100000
def znNK := And.intro @jO <| And.intro @jP <| And.intro @jQ <| And.intro @jR <| And.intro @jS <| And.intro @jT <| And.intro @jU <| True.intro
set_option maxHeartbeats 4000000
theorem procQ_pos {m : Mach} {i : Nat} (h : procQ m i = true) : 1 ≤ (m.pr.getD i default).pid ∧ procB m (m.pr.getD i default) = true := by
  unfold procQ at h
  rw [Bool.and_eq_true] at h
  refine ⟨?_, h.2⟩
  have h2 := h.2
  unfold procB at h2
  simp only [Bool.and_eq_true] at h2
  have := (procH_iff m _).1 h2.1.1
  unfold headP at this
  exact this.1
theorem procQ_inc {m : Mach} {i : Nat} (h : procQ m (i + 1) = true) : (m.pr.getD i default).pid < (m.pr.getD (i + 1) default).pid := by
  unfold procQ at h
  rw [Bool.and_eq_true, Nat.add_sub_cancel, decide_eq_true (Nat.succ_pos i)] at h
  have h1 := h.1
  simp only [Bool.true_and,Bool.not_eq_true',decide_eq_false_iff_not] at h1
  omega
theorem chk_parts {m : Mach} (h : chkM m = 0) : numB m = false ∧ (1 ≤ m.fr.length ∧ m.fr.length ≤ 64) ∧ (∀ s ∈ m.fr, s.length = 128) ∧ m.pr.length ≤ 8 ∧ procsB m = true ∧ m.pipes.length ≤ 64 ∧ pipesB m = true ∧ m.inp.length ≤ 65536 ∧ m.init.length ≤ 128 ∧ diskE m = 0 := by
  unfold chkM at h
  split at h
  · omega
  split at h
  · omega
  split at h
  · omega
  split at h
  · omega
  split at h
  · omega
  split at h
  · omega
  split at h
  · omega
  split at h
  · omega
  rename_i h1 h2 h3 h4 h5 h6 h7 h8
  refine ⟨by simpa using h1, by omega, fun s hs => ?_, by omega, by simpa using h5, by omega, by simpa using h7, by omega, by omega, h⟩
  refine Decidable.byContradiction fun hc => h3 ?_
  rw [List.any_eq_true]
  exact ⟨s, hs, decide_eq_true hc⟩
theorem chk_pids {m : Mach} (h : chkM m = 0) : PidOk m := by
  obtain ⟨h1, _, _, _, h5, _⟩ := chk_parts h
  have hq : ∀ i, i < m.pr.length → procQ m i = true := fun i hi => (List.all_eq_true.1 h5) i (List.mem_range.2 hi)
  refine ⟨fun p hp => ?_, ?_, ?_⟩
  · obtain ⟨i, hi, rfl⟩ := List.mem_iff_getElem.1 hp
    have := (procQ_pos (hq i hi)).1
    rw [List.getD_eq_getElem?_getD, List.getElem?_eq_getElem hi] at this
    exact this
  · rw [List.pairwise_iff_getElem]
    have key : ∀ d i, i + d + 1 < m.pr.length → (m.pr.getD i default).pid < (m.pr.getD (i + d + 1) default).pid := by
      intro d
      induction d with
      | zero => intro i hi; exact procQ_inc (hq (i + 1) hi)
      | succ d ih =>
        intro i hi
        have h1 := ih i (by omega)
        have h2 := procQ_inc (i := i + d + 1) (hq _ (by omega))
        rw [show i + (d + 1) + 1 = i + d + 1 + 1 by omega]
        omega
    intro i j hi hj hij
    have := key (j - i - 1) i (by omega)
    rw [show i + (j - i - 1) + 1 = j by omega, List.getD_eq_getElem?_getD, List.getElem?_eq_getElem hi, List.getD_eq_getElem?_getD, List.getElem?_eq_getElem hj] at this
    exact this
  · unfold numB at h1
    have := of_decide_eq_false h1
    omega
structure MOk (m : Mach) : Prop where
  fit : MFit 20000 m
  chk : chkM m = 0
def sadB (m : Mach) : Bool := greatM m || decide (chkM m ≠ 0)
theorem great27_spec (m : Mach) (hm : MFit (2 ^ 47) m) : Spec Try.prog 15 [encM m] (.bool (sadB m)) := by
  have hG := great_spec m hm
  unfold sadB
  cases hg : greatM m with
  | true =>
    rw [hg, if_pos rfl] at hG
    refine spec_ok Try.func15 rfl rfl (by kernel_rfl) (k := 1) rfl (by decide) ?_
    repeat' (first|(with_reducible first|refine yrl (by constructor) ?_|refine jk (fun M hM=>?_)|(refine hM _ ?_;clear hM M)|refine xb3 (by decide) ?_|refine yqa (by assumption) ?_ ?_|refine yqb (by assumption) ?_ ?_)|((with_reducible refine je ?_)<;>(first|rfl|assumption|(simp only [znl,znNK];(first|done|fail))))|(with_reducible refine jf (by (simp only [↓reduceIte,zlk,Nat.reduceEqDiff,reduceCtorEq]);exact rfl) ?_)|((with_reducible first|refine jg (fun hc=>?_) (fun hc=>?_)|refine jh (fun hc=>?_) (fun hc=>?_))<;>(try simp (disch:=omega) only [zhb] at hc)<;>(try (exfalso;omega))<;>(try subst hc))|(with_reducible refine ji (by omega) ?_)|(simp (config := { maxSteps := 400000 }) only [↓jt,↓reduceIte,zvs,reduceCtorEq,Nat.reduceEqDiff,Nat.reduceAdd,Nat.reduceLeDiff,Nat.reduceMul,Int.reduceBNe,Int.reduceBEq,Int.reduceEq,Int.reduceNe,Int.reduceLT,Int.reduceLE,Int.reduceGT,Int.reduceGE,Int.reduceNeg,Int.reduceToNat,Nat.reduceLT,Nat.reduceSub,tab,Try.results15,jTA])|(simp (disch:=omega) only [ziw]))
    all_goals first
      | (exfalso; omega)
      | (simp only [zrds]; done)
      | (simp only [zrds]; rfl)
  | false =>
    rw [hg, if_neg (by simp)] at hG
    have hC := rcheckM_spec m (hm.small hg).1
    by_cases hc0 : chkM m = 0
    · rw [hc0] at hC
      rw [decide_eq_false (by omega)]
      refine spec_ok Try.func15 rfl rfl (by kernel_rfl) (k := 1) rfl (by decide) ?_
      repeat' (first|(with_reducible first|refine yrl (by constructor) ?_|refine jk (fun M hM=>?_)|(refine hM _ ?_;clear hM M)|refine xb3 (by decide) ?_|refine yqa (by assumption) ?_ ?_|refine yqb (by assumption) ?_ ?_)|((with_reducible refine je ?_)<;>(first|rfl|assumption|(simp only [znl,znNK];(first|done|fail))))|(with_reducible refine jf (by (simp only [↓reduceIte,zlk,Nat.reduceEqDiff,reduceCtorEq]);exact rfl) ?_)|((with_reducible first|refine jg (fun hc=>?_) (fun hc=>?_)|refine jh (fun hc=>?_) (fun hc=>?_))<;>(try simp (disch:=omega) only [zhb] at hc)<;>(try (exfalso;omega))<;>(try subst hc))|(with_reducible refine ji (by omega) ?_)|(simp (config := { maxSteps := 400000 }) only [↓jt,↓reduceIte,zvs,reduceCtorEq,Nat.reduceEqDiff,Nat.reduceAdd,Nat.reduceLeDiff,Nat.reduceMul,Int.reduceBNe,Int.reduceBEq,Int.reduceEq,Int.reduceNe,Int.reduceLT,Int.reduceLE,Int.reduceGT,Int.reduceGE,Int.reduceNeg,Int.reduceToNat,Nat.reduceLT,Nat.reduceSub,tab,Try.results15,jTA])|(simp (disch:=omega) only [ziw]))
      all_goals first
        | (exfalso; omega)
        | (simp only [zrds]; done)
        | (simp only [zrds]; rfl)
    · rw [decide_eq_true hc0]
      generalize chkM m = c at hC hc0
      have hcb : (c != 0) = true := bne_iff_ne.2 hc0
      refine spec_ok Try.func15 rfl rfl (by kernel_rfl) (k := 1) rfl (by decide) ?_
      repeat' (first|(with_reducible first|refine yrl (by constructor) ?_|refine jk (fun M hM=>?_)|(refine hM _ ?_;clear hM M)|refine xb3 (by decide) ?_|refine yqa (by assumption) ?_ ?_|refine yqb (by assumption) ?_ ?_)|((with_reducible refine je ?_)<;>(first|rfl|assumption|(simp only [znl,znNK];(first|done|fail))))|(with_reducible refine jf (by (simp only [↓reduceIte,zlk,Nat.reduceEqDiff,reduceCtorEq]);exact rfl) ?_)|((with_reducible first|refine jg (fun hc=>?_) (fun hc=>?_)|refine jh (fun hc=>?_) (fun hc=>?_))<;>(try simp (disch:=omega) only [zhb] at hc)<;>(try (exfalso;omega))<;>(try subst hc))|(with_reducible refine ji (by omega) ?_)|(simp (config := { maxSteps := 400000 }) only [↓jt,↓reduceIte,zvs,reduceCtorEq,Nat.reduceEqDiff,Nat.reduceAdd,Nat.reduceLeDiff,Nat.reduceMul,Int.reduceBNe,Int.reduceBEq,Int.reduceEq,Int.reduceNe,Int.reduceLT,Int.reduceLE,Int.reduceGT,Int.reduceGE,Int.reduceNeg,Int.reduceToNat,Nat.reduceLT,Nat.reduceSub,tab,hcb,Try.results15,jTA])|(simp (disch:=omega) only [ziw]))
      all_goals first
        | (exfalso; omega)
        | (simp only [zrds]; done)
        | (simp only [zrds]; rfl)
def rp (pid : Int) : Pr := ⟨pid, 0, 1, List.replicate 16 0, 0, List.replicate 16 ⟨false, false, 0⟩, List.replicate 8 ⟨0, 0, 0⟩, false, 0, 0, 0⟩
def exM (f : List UInt8) (d : Dr) (c l : Int) : Mach := ⟨0, 3, c, l, [f, f, f, f], [rp 1, rp 2], 3, [], [], 1, [], false, 0, d, []⟩
end Go.Proofs.Ytginpdejpibdjaa.V
end
section
namespace Go.Proofs.Ytginpdejpibdjaa.V
open Go
set_option maxRecDepth 100000
def znNQ := And.intro @jO <| And.intro @jP <| And.intro @jQ <| And.intro @jR <| And.intro @jS <| And.intro @jT <| And.intro @jU <| True.intro
set_option maxHeartbeats 4000000
theorem numbers_ok (m : Mach) (h : numB m = false) : Spec Try.prog 50 [encM m] (.int .i64 0) := by
  unfold numB at h
  have h := of_decide_eq_false h
  refine spec_ok Try.func50 rfl rfl (by kernel_rfl) (k := 1) rfl (by decide) ?_
  repeat' (first|(with_reducible first|refine yrl (by constructor) ?_|refine jk (fun M hM=>?_)|(refine hM _ ?_;clear hM M)|refine xb3 (by decide) ?_|refine yqa (by assumption) ?_ ?_|refine yqb (by assumption) ?_ ?_)|((with_reducible refine je ?_)<;>(first|rfl|assumption|(simp only [znl,znNQ];(first|done|fail))))|(with_reducible refine jf (by (simp only [↓reduceIte,zlk,Nat.reduceEqDiff,reduceCtorEq]);exact rfl) ?_)|((with_reducible first|refine jg (fun hc=>?_) (fun hc=>?_)|refine jh (fun hc=>?_) (fun hc=>?_))<;>(try simp (disch:=omega) only [zhb] at hc)<;>(try (exfalso;omega))<;>(try subst hc))|(with_reducible refine ji (by omega) ?_)|(simp (config := { maxSteps := 400000 }) only [↓jt,↓reduceIte,zvs,reduceCtorEq,Nat.reduceEqDiff,Nat.reduceAdd,Nat.reduceLeDiff,Nat.reduceMul,Int.reduceBNe,Int.reduceBEq,Int.reduceEq,Int.reduceNe,Int.reduceLT,Int.reduceLE,Int.reduceGT,Int.reduceGE,Int.reduceNeg,Int.reduceToNat,Nat.reduceLT,Nat.reduceSub,tab,Try.results50,jTA])|(simp (disch:=omega) only [ziw]))
  all_goals first
    | (exfalso; omega)
    | (simp only [zrds]; done)
theorem frames_ok (m : Mach) (h : 1 ≤ m.fr.length ∧ m.fr.length ≤ 64) (hs : ∀ s ∈ m.fr, s.length = 128) : Spec Try.prog 51 [encM m] (.int .i64 0) := by
  refine spec_ok Try.func51 rfl rfl (by kernel_rfl) (k := 1) rfl (by decide) ?_
  repeat' (first|(with_reducible first|refine yrl (by constructor) ?_|refine jk (fun M hM=>?_)|(refine hM _ ?_;clear hM M)|refine xb3 (by decide) ?_|refine yqa (by assumption) ?_ ?_|refine yqb (by assumption) ?_ ?_)|((with_reducible refine je ?_)<;>(first|rfl|assumption|(simp only [znl,znNQ];(first|done|fail))))|(with_reducible refine jf (by (simp only [↓reduceIte,zlk,Nat.reduceEqDiff,reduceCtorEq]);exact rfl) ?_)|((with_reducible first|refine jg (fun hc=>?_) (fun hc=>?_)|refine jh (fun hc=>?_) (fun hc=>?_))<;>(try simp (disch:=omega) only [zhb] at hc)<;>(try (exfalso;omega))<;>(try subst hc))|(with_reducible refine ji (by omega) ?_)|(simp (config := { maxSteps := 400000 }) only [↓jt,↓reduceIte,zvs,reduceCtorEq,Nat.reduceEqDiff,Nat.reduceAdd,Nat.reduceLeDiff,Nat.reduceMul,Int.reduceBNe,Int.reduceBEq,Int.reduceEq,Int.reduceNe,Int.reduceLT,Int.reduceLE,Int.reduceGT,Int.reduceGE,Int.reduceNeg,Int.reduceToNat,Nat.reduceLT,Nat.reduceSub,tab,Try.results51,jTA])|(simp (disch:=omega) only [ziw]))
  all_goals (try (exfalso; omega))
  refine ok_loop (fun k : Nat => ⟨slots [(1, .ptr 0 []), (16, encStrs m.fr), (17, .int .i64 m.fr.length), (18, .int .i64 k)], rows [(0, .row machSh (encM m))], 1⟩) (fun k => k ≤ m.fr.length) (fun k => m.fr.length - k) 0 ?_ (Nat.zero_le _) (fun k hk => ?_)
  · (refine yrn [(0, 0)] false ?_ ?_<;>(repeat' (first|(with_reducible first|exact ya1|exact ya2|exact ya3|refine jx rfl (by first|rfl|assumption|(simp only [znl,znNQ];(first|done|fail)))|exact ya5|exact ya7|exact jy|exact jz|refine jA ?_|refine ya9 ?_ ?_ ?_|refine jC rfl (by first|rfl|assumption|(simp only [znl,znNQ];(first|done|fail)))|refine MR.agg (MRL.cons ?_ ?_)|refine MR.fn ?_|refine MRL.cons ?_ ?_|exact MRL.nil|refine jE ?_ ?_|exact jF|exact jG|refine yb1 ?_ ?_|refine MB.row ?_|refine jI ?_ ?_|exact ya8|refine jJ rfl (by first|rfl|assumption|(simp only [znl,znNQ];(first|done|fail)))|refine yb2 ?_|rfl)|(simp only [znl,znNQ];(first|done|fail))|(simp only [↓reduceIte,zlk,Nat.reduceEqDiff,reduceCtorEq])|(with_reducible first|refine jJ ?_ ?_|refine ya5 ?_|refine ju ?_|refine jv ?_|refine jw ?_|refine jx ?_ (by first|rfl|assumption|(simp only [znl,znNQ];(first|done|fail)))|refine jC ?_ (by first|rfl|assumption|(simp only [znl,znNQ];(first|done|fail)))))))
    all_goals (first | rfl)
  by_cases hlt : k < m.fr.length
  · have hsk := hs _ (getD_mem' hlt)
    rw [default_str] at hsk
    repeat' (first|(with_reducible first|refine yrl (by constructor) ?_|refine jk (fun M hM=>?_)|(refine hM _ ?_;clear hM M)|refine xb3 (by decide) ?_|refine yqa (by assumption) ?_ ?_|refine yqb (by assumption) ?_ ?_)|((with_reducible refine je ?_)<;>(first|rfl|assumption|(simp only [znl,znNQ];(first|done|fail))))|(with_reducible refine jf (by (simp only [↓reduceIte,zlk,Nat.reduceEqDiff,reduceCtorEq]);exact rfl) ?_)|((with_reducible first|refine jg (fun hc=>?_) (fun hc=>?_)|refine jh (fun hc=>?_) (fun hc=>?_))<;>(try simp (disch:=omega) only [zhb] at hc)<;>(try (exfalso;omega))<;>(try subst hc))|(with_reducible refine ji (by omega) ?_)|(simp (config := { maxSteps := 400000 }) only [↓jt,↓reduceIte,zvs,reduceCtorEq,Nat.reduceEqDiff,Nat.reduceAdd,Nat.reduceLeDiff,Nat.reduceMul,Int.reduceBNe,Int.reduceBEq,Int.reduceEq,Int.reduceNe,Int.reduceLT,Int.reduceLE,Int.reduceGT,Int.reduceGE,Int.reduceNeg,Int.reduceToNat,Nat.reduceLT,Nat.reduceSub,tab,hsk,Try.results51,jTA])|(simp (disch:=omega) only [ziw]))
    all_goals first
      | (exfalso; omega)
      | (refine xl1 (k + 1) ?_ (by show k + 1 ≤ m.fr.length; omega) (by show m.fr.length - (k + 1) < m.fr.length - k; omega); (refine yrn [(0, 0)] false ?_ ?_<;>(repeat' (first|(with_reducible first|exact ya1|exact ya2|exact ya3|refine jx rfl (by first|rfl|assumption|(simp only [znl,znNQ];(first|done|fail)))|exact ya5|exact ya7|exact jy|exact jz|refine jA ?_|refine ya9 ?_ ?_ ?_|refine jC rfl (by first|rfl|assumption|(simp only [znl,znNQ];(first|done|fail)))|refine MR.agg (MRL.cons ?_ ?_)|refine MR.fn ?_|refine MRL.cons ?_ ?_|exact MRL.nil|refine jE ?_ ?_|exact jF|exact jG|refine yb1 ?_ ?_|refine MB.row ?_|refine jI ?_ ?_|exact ya8|refine jJ rfl (by first|rfl|assumption|(simp only [znl,znNQ];(first|done|fail)))|refine yb2 ?_|rfl)|(simp only [znl,znNQ];(first|done|fail))|(simp only [↓reduceIte,zlk,Nat.reduceEqDiff,reduceCtorEq])|(with_reducible first|refine jJ ?_ ?_|refine ya5 ?_|refine ju ?_|refine jv ?_|refine jw ?_|refine jx ?_ (by first|rfl|assumption|(simp only [znl,znNQ];(first|done|fail)))|refine jC ?_ (by first|rfl|assumption|(simp only [znl,znNQ];(first|done|fail))))))); done)
  · obtain rfl : k = m.fr.length := by omega
    repeat' (first|(with_reducible first|refine yrl (by constructor) ?_|refine jk (fun M hM=>?_)|(refine hM _ ?_;clear hM M)|refine xb3 (by decide) ?_|refine yqa (by assumption) ?_ ?_|refine yqb (by assumption) ?_ ?_)|((with_reducible refine je ?_)<;>(first|rfl|assumption|(simp only [znl,znNQ];(first|done|fail))))|(with_reducible refine jf (by (simp only [↓reduceIte,zlk,Nat.reduceEqDiff,reduceCtorEq]);exact rfl) ?_)|((with_reducible first|refine jg (fun hc=>?_) (fun hc=>?_)|refine jh (fun hc=>?_) (fun hc=>?_))<;>(try simp (disch:=omega) only [zhb] at hc)<;>(try (exfalso;omega))<;>(try subst hc))|(with_reducible refine ji (by omega) ?_)|(simp (config := { maxSteps := 400000 }) only [↓jt,↓reduceIte,zvs,reduceCtorEq,Nat.reduceEqDiff,Nat.reduceAdd,Nat.reduceLeDiff,Nat.reduceMul,Int.reduceBNe,Int.reduceBEq,Int.reduceEq,Int.reduceNe,Int.reduceLT,Int.reduceLE,Int.reduceGT,Int.reduceGE,Int.reduceNeg,Int.reduceToNat,Nat.reduceLT,Nat.reduceSub,tab,Try.results51,jTA])|(simp (disch:=omega) only [ziw]))
    all_goals first
      | (exfalso; omega)
      | (simp only [zrds]; done)
theorem texts_ok (m : Mach) (h : m.inp.length ≤ 65536 ∧ m.init.length ≤ 128) : Spec Try.prog 54 [encM m] (.int .i64 0) := by
  refine spec_ok Try.func54 rfl rfl (by kernel_rfl) (k := 1) rfl (by decide) ?_
  repeat' (first|(with_reducible first|refine yrl (by constructor) ?_|refine jk (fun M hM=>?_)|(refine hM _ ?_;clear hM M)|refine xb3 (by decide) ?_|refine yqa (by assumption) ?_ ?_|refine yqb (by assumption) ?_ ?_)|((with_reducible refine je ?_)<;>(first|rfl|assumption|(simp only [znl,znNQ];(first|done|fail))))|(with_reducible refine jf (by (simp only [↓reduceIte,zlk,Nat.reduceEqDiff,reduceCtorEq]);exact rfl) ?_)|((with_reducible first|refine jg (fun hc=>?_) (fun hc=>?_)|refine jh (fun hc=>?_) (fun hc=>?_))<;>(try simp (disch:=omega) only [zhb] at hc)<;>(try (exfalso;omega))<;>(try subst hc))|(with_reducible refine ji (by omega) ?_)|(simp (config := { maxSteps := 400000 }) only [↓jt,↓reduceIte,zvs,reduceCtorEq,Nat.reduceEqDiff,Nat.reduceAdd,Nat.reduceLeDiff,Nat.reduceMul,Int.reduceBNe,Int.reduceBEq,Int.reduceEq,Int.reduceNe,Int.reduceLT,Int.reduceLE,Int.reduceGT,Int.reduceGE,Int.reduceNeg,Int.reduceToNat,Nat.reduceLT,Nat.reduceSub,tab,Try.results54,jTA])|(simp (disch:=omega) only [ziw]))
  all_goals first
    | (exfalso; omega)
    | (simp only [zrds]; done)
def lastP (l : List Pip) : Nat → Int
  | 0 => 0
  | k + 1 => (l.getD k default).id
theorem pipeB_facts {m : Mach} {k : Nat} (h : pipeB m k = true) : 1 ≤ (m.pipes.getD k default).id ∧ (m.pipes.getD k default).id < m.newp ∧ (m.pipes.getD k default).d.length ≤ 64 ∧ (0 < k → (m.pipes.getD (k - 1) default).id < (m.pipes.getD k default).id) := by
  unfold pipeB longB at h
  simp only [Bool.not_eq_true',Bool.or_eq_false_iff,decide_eq_false_iff_not,Bool.and_eq_false_iff] at h
  omega
theorem lastP_lt {m : Mach} {k : Nat} (h : pipeB m k = true) : lastP m.pipes k < (m.pipes.getD k default).id := by
  have := pipeB_facts h
  cases k with
  | zero => show (0 : Int) < _; omega
  | succ k => have h2 := this.2.2.2 (by omega); rw [Nat.add_sub_cancel] at h2; exact h2
theorem spipes_ok (m : Mach) (hm : MFit 20000 m) (h : m.pipes.length ≤ 64) (hs : pipesB m = true) : Spec Try.prog 53 [encM m] (.int .i64 0) := by
  have hpiR := hm.pipesR
  have hq : ∀ i, i < m.pipes.length → pipeB m i = true := fun i hi => (List.all_eq_true.1 hs) i (List.mem_range.2 hi)
  refine spec_ok Try.func53 rfl rfl (by kernel_rfl) (k := 1) rfl (by decide) ?_
  repeat' (first|(with_reducible first|refine yrl (by constructor) ?_|refine jk (fun M hM=>?_)|(refine hM _ ?_;clear hM M)|refine xb3 (by decide) ?_|refine yqa (by assumption) ?_ ?_|refine yqb (by assumption) ?_ ?_)|((with_reducible refine je ?_)<;>(first|rfl|assumption|(simp only [znl,znNQ];(first|done|fail))))|(with_reducible refine jf (by (simp only [↓reduceIte,zlk,Nat.reduceEqDiff,reduceCtorEq]);exact rfl) ?_)|((with_reducible first|refine jg (fun hc=>?_) (fun hc=>?_)|refine jh (fun hc=>?_) (fun hc=>?_))<;>(try simp (disch:=omega) only [zhb] at hc)<;>(try (exfalso;omega))<;>(try subst hc))|(with_reducible refine ji (by omega) ?_)|(simp (config := { maxSteps := 400000 }) only [↓jt,↓reduceIte,zvs,reduceCtorEq,Nat.reduceEqDiff,Nat.reduceAdd,Nat.reduceLeDiff,Nat.reduceMul,Int.reduceBNe,Int.reduceBEq,Int.reduceEq,Int.reduceNe,Int.reduceLT,Int.reduceLE,Int.reduceGT,Int.reduceGE,Int.reduceNeg,Int.reduceToNat,Nat.reduceLT,Nat.reduceSub,tab,Try.results53,jTA])|(simp (disch:=omega) only [ziw]))
  all_goals (try (exfalso; omega))
  refine ok_loop (fun k : Nat => ⟨slots [(1, .ptr 0 []), (3, .int .i64 (lastP m.pipes k)), (11, encPis m.pipes), (12, .int .i64 m.pipes.length), (13, .int .i64 k)], rows [(0, .row machSh (encM m))], 1⟩) (fun k => k ≤ m.pipes.length) (fun k => m.pipes.length - k) 0 ?_ (Nat.zero_le _) (fun k hk => ?_)
  · (refine yrn [(0, 0)] false ?_ ?_<;>(repeat' (first|(with_reducible first|exact ya1|exact ya2|exact ya3|refine jx rfl (by first|rfl|assumption|(simp only [znl,znNQ];(first|done|fail)))|exact ya5|exact ya7|exact jy|exact jz|refine jA ?_|refine ya9 ?_ ?_ ?_|refine jC rfl (by first|rfl|assumption|(simp only [znl,znNQ];(first|done|fail)))|refine MR.agg (MRL.cons ?_ ?_)|refine MR.fn ?_|refine MRL.cons ?_ ?_|exact MRL.nil|refine jE ?_ ?_|exact jF|exact jG|refine yb1 ?_ ?_|refine MB.row ?_|refine jI ?_ ?_|exact ya8|refine jJ rfl (by first|rfl|assumption|(simp only [znl,znNQ];(first|done|fail)))|refine yb2 ?_|rfl)|(simp only [znl,znNQ];(first|done|fail))|(simp only [↓reduceIte,zlk,Nat.reduceEqDiff,reduceCtorEq])|(with_reducible first|refine jJ ?_ ?_|refine ya5 ?_|refine ju ?_|refine jv ?_|refine jw ?_|refine jx ?_ (by first|rfl|assumption|(simp only [znl,znNQ];(first|done|fail)))|refine jC ?_ (by first|rfl|assumption|(simp only [znl,znNQ];(first|done|fail)))))))
    all_goals (first | rfl)
  by_cases hlt : k < m.pipes.length
  · obtain ⟨⟨p1, p2⟩, p3⟩ := hpiR _ (getD_mem' hlt)
    have hf := pipeB_facts (hq k hlt)
    have hl := lastP_lt (hq k hlt)
    have hn : lastP m.pipes (k + 1) = (m.pipes.getD k default).id := rfl
    repeat' (first|(with_reducible first|refine yrl (by constructor) ?_|refine jk (fun M hM=>?_)|(refine hM _ ?_;clear hM M)|refine xb3 (by decide) ?_|refine yqa (by assumption) ?_ ?_|refine yqb (by assumption) ?_ ?_)|((with_reducible refine je ?_)<;>(first|rfl|assumption|(simp only [znl,znNQ];(first|done|fail))))|(with_reducible refine jf (by (simp only [↓reduceIte,zlk,Nat.reduceEqDiff,reduceCtorEq]);exact rfl) ?_)|((with_reducible first|refine jg (fun hc=>?_) (fun hc=>?_)|refine jh (fun hc=>?_) (fun hc=>?_))<;>(try simp (disch:=omega) only [zhb] at hc)<;>(try (exfalso;omega))<;>(try subst hc))|(with_reducible refine ji (by omega) ?_)|(simp (config := { maxSteps := 400000 }) only [↓jt,↓reduceIte,zvs,reduceCtorEq,Nat.reduceEqDiff,Nat.reduceAdd,Nat.reduceLeDiff,Nat.reduceMul,Int.reduceBNe,Int.reduceBEq,Int.reduceEq,Int.reduceNe,Int.reduceLT,Int.reduceLE,Int.reduceGT,Int.reduceGE,Int.reduceNeg,Int.reduceToNat,Nat.reduceLT,Nat.reduceSub,tab,encPi,Try.results53,jTA])|(simp (disch:=omega) only [ziw]))
    all_goals first
      | (exfalso; omega)
      | (refine xl1 (k + 1) ?_ (by show k + 1 ≤ m.pipes.length; omega) (by show m.pipes.length - (k + 1) < m.pipes.length - k; omega); (refine yrn [(0, 0)] false ?_ ?_<;>(repeat' (first|(with_reducible first|exact ya1|exact ya2|exact ya3|refine jx rfl (by first|rfl|assumption|(simp only [znl,znNQ];(first|done|fail)))|exact ya5|exact ya7|exact jy|exact jz|refine jA ?_|refine ya9 ?_ ?_ ?_|refine jC rfl (by first|rfl|assumption|(simp only [znl,znNQ];(first|done|fail)))|refine MR.agg (MRL.cons ?_ ?_)|refine MR.fn ?_|refine MRL.cons ?_ ?_|exact MRL.nil|refine jE ?_ ?_|exact jF|exact jG|refine yb1 ?_ ?_|refine MB.row ?_|refine jI ?_ ?_|exact ya8|refine jJ rfl (by first|rfl|assumption|(simp only [znl,znNQ];(first|done|fail)))|refine yb2 ?_|rfl)|(simp only [znl,znNQ];(first|done|fail))|(simp only [↓reduceIte,zlk,Nat.reduceEqDiff,reduceCtorEq])|(with_reducible first|refine jJ ?_ ?_|refine ya5 ?_|refine ju ?_|refine jv ?_|refine jw ?_|refine jx ?_ (by first|rfl|assumption|(simp only [znl,znNQ];(first|done|fail)))|refine jC ?_ (by first|rfl|assumption|(simp only [znl,znNQ];(first|done|fail))))))); all_goals (first | rfl | omega))
  · obtain rfl : k = m.pipes.length := by omega
    repeat' (first|(with_reducible first|refine yrl (by constructor) ?_|refine jk (fun M hM=>?_)|(refine hM _ ?_;clear hM M)|refine xb3 (by decide) ?_|refine yqa (by assumption) ?_ ?_|refine yqb (by assumption) ?_ ?_)|((with_reducible refine je ?_)<;>(first|rfl|assumption|(simp only [znl,znNQ];(first|done|fail))))|(with_reducible refine jf (by (simp only [↓reduceIte,zlk,Nat.reduceEqDiff,reduceCtorEq]);exact rfl) ?_)|((with_reducible first|refine jg (fun hc=>?_) (fun hc=>?_)|refine jh (fun hc=>?_) (fun hc=>?_))<;>(try simp (disch:=omega) only [zhb] at hc)<;>(try (exfalso;omega))<;>(try subst hc))|(with_reducible refine ji (by omega) ?_)|(simp (config := { maxSteps := 400000 }) only [↓jt,↓reduceIte,zvs,reduceCtorEq,Nat.reduceEqDiff,Nat.reduceAdd,Nat.reduceLeDiff,Nat.reduceMul,Int.reduceBNe,Int.reduceBEq,Int.reduceEq,Int.reduceNe,Int.reduceLT,Int.reduceLE,Int.reduceGT,Int.reduceGE,Int.reduceNeg,Int.reduceToNat,Nat.reduceLT,Nat.reduceSub,tab,Try.results53,jTA])|(simp (disch:=omega) only [ziw]))
    all_goals first
      | (exfalso; omega)
      | (simp only [zrds]; done)
theorem slives_spec (p : Pr) (hp : PrR p) : Spec Try.prog 114 [encPr p] (.bool (livesP p)) := by
  obtain ⟨hS1, hS2, hS3⟩ := pr3 hp
  unfold livesP
  refine spec_ok Try.func114 rfl rfl (by kernel_rfl) (k := 1) rfl (by decide) ?_
  repeat' (first|(with_reducible first|refine yrl (by constructor) ?_|refine jk (fun M hM=>?_)|(refine hM _ ?_;clear hM M)|refine xb3 (by decide) ?_|refine yqa (by assumption) ?_ ?_|refine yqb (by assumption) ?_ ?_)|((with_reducible refine je ?_)<;>(first|rfl|assumption|(simp only [znl,znNQ];(first|done|fail))))|(with_reducible refine jf (by (simp only [↓reduceIte,zlk,Nat.reduceEqDiff,reduceCtorEq]);exact rfl) ?_)|((with_reducible first|refine jg (fun hc=>?_) (fun hc=>?_)|refine jh (fun hc=>?_) (fun hc=>?_))<;>(try simp (disch:=omega) only [zhb] at hc)<;>(try (exfalso;omega))<;>(try subst hc))|(with_reducible refine ji (by omega) ?_)|(simp (config := { maxSteps := 400000 }) only [↓jt,↓reduceIte,zvs,reduceCtorEq,Nat.reduceEqDiff,Nat.reduceAdd,Nat.reduceLeDiff,Nat.reduceMul,Int.reduceBNe,Int.reduceBEq,Int.reduceEq,Int.reduceNe,Int.reduceLT,Int.reduceLE,Int.reduceGT,Int.reduceGE,Int.reduceNeg,Int.reduceToNat,Nat.reduceLT,Nat.reduceSub,tab,hS1,hS2,hS3,encPr,Try.results114,jTA])|(simp (disch:=omega) only [ziw]))
  all_goals first
    | (exfalso; omega)
    | (simp only [zrds]; rw [decide_eq_true (by assumption)]; rfl)
    | (simp only [zrds]; rw [decide_eq_false (by assumption), Bool.false_or]; first | rfl | (rw [Bool.eq_iff_iff]; simp))
theorem fields_ok (m : Mach) (p : Pr) (hp : PrR p) (h : headP m.next p.pid p.st (p.rs.getD 0 default) p.par p.why p.n p.code (livesB m.pr p.par = true)) : Spec Try.prog 83 [encPr p] (.bool true) := by
  obtain ⟨hS1, hS2, hS3⟩ := pr3 hp
  have hL := slives_spec p hp
  have hrl := hp.rs
  unfold headP at h
  have hlv : livesP p = true ↔ (p.st = 1 ∨ p.st = 2) := by simp [livesP]
  simp only [encPr] at hL
  obtain ⟨b, hb⟩ : ∃ b, livesP p = b := ⟨_, rfl⟩
  rw [hb] at hL hlv
  cases b
  all_goals
    simp only [true_iff,Bool.false_eq_true,false_iff] at hlv
    refine spec_ok Try.func83 rfl rfl (by kernel_rfl) (k := 1) rfl (by decide) ?_
    repeat' (first|(with_reducible first|refine yrl (by constructor) ?_|refine jk (fun M hM=>?_)|(refine hM _ ?_;clear hM M)|refine xb3 (by decide) ?_|refine yqa (by assumption) ?_ ?_|refine yqb (by assumption) ?_ ?_)|((with_reducible refine je ?_)<;>(first|rfl|assumption|(simp only [znl,znNQ];(first|done|fail))))|(with_reducible refine jf (by (simp only [↓reduceIte,zlk,Nat.reduceEqDiff,reduceCtorEq]);exact rfl) ?_)|((with_reducible first|refine jg (fun hc=>?_) (fun hc=>?_)|refine jh (fun hc=>?_) (fun hc=>?_))<;>(try simp (disch:=omega) only [zhb] at hc)<;>(try (exfalso;omega))<;>(try subst hc))|(with_reducible refine ji (by omega) ?_)|(simp (config := { maxSteps := 400000 }) only [↓jt,↓reduceIte,zvs,reduceCtorEq,Nat.reduceEqDiff,Nat.reduceAdd,Nat.reduceLeDiff,Nat.reduceMul,Int.reduceBNe,Int.reduceBEq,Int.reduceEq,Int.reduceNe,Int.reduceLT,Int.reduceLE,Int.reduceGT,Int.reduceGE,Int.reduceNeg,Int.reduceToNat,Nat.reduceLT,Nat.reduceSub,tab,hS1,hS2,hS3,encPr,Try.results83,jTA])|(simp (disch:=omega) only [ziw]))
    all_goals first
      | (exfalso; omega)
      | (simp only [zrds]; done)
      | (simp only [zrds]; rfl)
      | (simp only [zrds]; rw [Bool.eq_iff_iff]; simp only [beq_iff_eq,true_iff,iff_true]; omega)
end Go.Proofs.Ytginpdejpibdjaa.V
end
section
namespace Go.Proofs.Ytginpdejpibdjaa.V
open Go
set_option maxRecDepth 100000
def znNR := And.intro @jO <| And.intro @jP <| And.intro @jQ <| And.intro @jR <| And.intro @jS <| And.intro @jT <| And.intro @jU <| True.intro
set_option maxHeartbeats 4000000
def placeI (l : List Pip) (id : Int) : Int := match l.findIdx? (fun p => decide (p.id = id)) with
  | some i => i
  | none => -1
theorem placeI_hit {l : List Pip} {id : Int} {k : Nat} (h : k < l.length) (hn : ∀ j, j < k → (l.getD j default).id ≠ id) (hk : (l.getD k default).id = id) : placeI l id = k := by
  unfold placeI
  rw [show l.findIdx? (fun p => decide (p.id = id)) = some k from ?_]
  rw [List.findIdx?_eq_some_iff_getElem]
  refine ⟨h, ?_, fun j hj => ?_⟩
  · rw [List.getD_eq_getElem?_getD, List.getElem?_eq_getElem h] at hk
    simpa using hk
  · have := hn j hj
    rw [List.getD_eq_getElem?_getD, List.getElem?_eq_getElem (by omega)] at this
    simpa using this
theorem placeI_miss {l : List Pip} {id : Int} (hn : ∀ j, j < l.length → (l.getD j default).id ≠ id) : placeI l id = -1 := by
  unfold placeI
  rw [show l.findIdx? (fun p => decide (p.id = id)) = none from ?_]
  rw [List.findIdx?_eq_none_iff]
  intro x hx
  obtain ⟨j, hj, rfl⟩ := List.mem_iff_getElem.1 hx
  have := hn j hj
  rw [List.getD_eq_getElem?_getD, List.getElem?_eq_getElem hj] at this
  simpa using this
theorem placeI_pipe {l : List Pip} {id : Int} (h : (pipeO l id).isSome = true) : 0 ≤ placeI l id := by
  unfold placeI
  cases hf : l.findIdx? (fun p => decide (p.id = id)) with
  | some i => exact Int.natCast_nonneg i
  | none =>
    rw [List.findIdx?_eq_none_iff] at hf
    unfold pipeO at h
    rw [List.find?_isSome] at h
    obtain ⟨x, hx, h2⟩ := h
    rw [hf x hx] at h2
    cases h2
theorem place_spec (m : Mach) (hm : MFit 20000 m) (id : Int) (hp : i64R id) : Spec Try.prog 64 [encM m, .int .i64 id] (.int .i64 (placeI m.pipes id)) := by
  obtain ⟨R, hR⟩ : ∃ R, R = placeI m.pipes id := ⟨_, rfl⟩
  rw [← hR]
  have hl := hm.pipes
  have hpR := hm.pipesR
  obtain ⟨hp1, hp2⟩ := hp
  refine spec_ok Try.func64 rfl rfl (by kernel_rfl) (k := 2) rfl (by decide) ?_
  repeat' (first|(with_reducible first|refine yrl (by constructor) ?_|refine jk (fun M hM=>?_)|(refine hM _ ?_;clear hM M)|refine xb3 (by decide) ?_|refine yqa (by assumption) ?_ ?_|refine yqb (by assumption) ?_ ?_)|((with_reducible refine je ?_)<;>(first|rfl|assumption|(simp only [znl,znNR];(first|done|fail))))|(with_reducible refine jf (by (simp only [↓reduceIte,zlk,Nat.reduceEqDiff,reduceCtorEq]);exact rfl) ?_)|((with_reducible first|refine jg (fun hc=>?_) (fun hc=>?_)|refine jh (fun hc=>?_) (fun hc=>?_))<;>(try simp (disch:=omega) only [zhb] at hc)<;>(try (exfalso;omega))<;>(try subst hc))|(with_reducible refine ji (by omega) ?_)|(simp (config := { maxSteps := 400000 }) only [↓jt,↓reduceIte,zvs,reduceCtorEq,Nat.reduceEqDiff,Nat.reduceAdd,Nat.reduceLeDiff,Nat.reduceMul,Int.reduceBNe,Int.reduceBEq,Int.reduceEq,Int.reduceNe,Int.reduceLT,Int.reduceLE,Int.reduceGT,Int.reduceGE,Int.reduceNeg,Int.reduceToNat,Nat.reduceLT,Nat.reduceSub,tab,Try.results64,jTA])|(simp (disch:=omega) only [ziw]))
  refine ja (ok_body Try.func99 rfl rfl (by kernel_rfl) (k := 2) (by rfl) (by decide) ?_)
  repeat' (first|(with_reducible first|refine yrl (by constructor) ?_|refine jk (fun M hM=>?_)|(refine hM _ ?_;clear hM M)|refine xb3 (by decide) ?_|refine yqa (by assumption) ?_ ?_|refine yqb (by assumption) ?_ ?_)|((with_reducible refine je ?_)<;>(first|rfl|assumption|(simp only [znl,znNR];(first|done|fail))))|(with_reducible refine jf (by (simp only [↓reduceIte,zlk,Nat.reduceEqDiff,reduceCtorEq]);exact rfl) ?_)|((with_reducible first|refine jg (fun hc=>?_) (fun hc=>?_)|refine jh (fun hc=>?_) (fun hc=>?_))<;>(try simp (disch:=omega) only [zhb] at hc)<;>(try (exfalso;omega))<;>(try subst hc))|(with_reducible refine ji (by omega) ?_)|(simp (config := { maxSteps := 400000 }) only [↓jt,↓reduceIte,zvs,reduceCtorEq,Nat.reduceEqDiff,Nat.reduceAdd,Nat.reduceLeDiff,Nat.reduceMul,Int.reduceBNe,Int.reduceBEq,Int.reduceEq,Int.reduceNe,Int.reduceLT,Int.reduceLE,Int.reduceGT,Int.reduceGE,Int.reduceNeg,Int.reduceToNat,Nat.reduceLT,Nat.reduceSub,tab,Try.results99, List.toList_toArray])|(simp (disch:=omega) only [ziw]))
  refine ok_loop (fun k : Nat => ⟨slots [(0, encPis m.pipes), (1, .fn 100 [.ptr 1 []]), (6, encPis m.pipes), (7, .int .i64 m.pipes.length), (8, .int .i64 k)], rows [(0, .row machSh (encM m)), (1, .row .cell (.int .i64 id))], 2⟩) (fun k => k ≤ m.pipes.length ∧ ∀ j, j < k → (m.pipes.getD j default).id ≠ id) (fun k => m.pipes.length - k) 0 ?_ ⟨Nat.zero_le _, fun j hj => by omega⟩ (fun k hk => ?_)
  · (refine yrn [] false ?_ ?_<;>(repeat' (first|(with_reducible first|exact ya1|exact ya2|exact ya3|refine jx rfl (by first|rfl|assumption|(simp only [znl,znNR];(first|done|fail)))|exact ya5|exact ya7|exact jy|exact jz|refine jA ?_|refine ya9 ?_ ?_ ?_|refine jC rfl (by first|rfl|assumption|(simp only [znl,znNR];(first|done|fail)))|refine MR.agg (MRL.cons ?_ ?_)|refine MR.fn ?_|refine MRL.cons ?_ ?_|exact MRL.nil|refine jE ?_ ?_|exact jF|exact jG|refine yb1 ?_ ?_|refine MB.row ?_|refine jI ?_ ?_|exact ya8|refine jJ rfl (by first|rfl|assumption|(simp only [znl,znNR];(first|done|fail)))|refine yb2 ?_|rfl)|(simp only [znl,znNR];(first|done|fail))|(simp only [↓reduceIte,zlk,Nat.reduceEqDiff,reduceCtorEq])|(with_reducible first|refine jJ ?_ ?_|refine ya5 ?_|refine ju ?_|refine jv ?_|refine jw ?_|refine jx ?_ (by first|rfl|assumption|(simp only [znl,znNR];(first|done|fail)))|refine jC ?_ (by first|rfl|assumption|(simp only [znl,znNR];(first|done|fail)))))))
    all_goals (first | rfl)
  obtain ⟨hk, hn⟩ := hk
  by_cases hlt : k < m.pipes.length
  · obtain ⟨⟨p1, p2⟩, p3⟩ := hpR _ (getD_mem' hlt)
    by_cases hq : (m.pipes.getD k default).id = id
    · have eR : R = k := by rw [hR, placeI_hit hlt hn hq]
      clear hR
      repeat' (first|(with_reducible first|refine yrl (by constructor) ?_|refine jk (fun M hM=>?_)|(refine hM _ ?_;clear hM M)|refine xb3 (by decide) ?_|refine yqa (by assumption) ?_ ?_|refine yqb (by assumption) ?_ ?_)|((with_reducible refine je ?_)<;>(first|rfl|assumption|(simp only [znl,znNR];(first|done|fail))))|(with_reducible refine jf (by (simp only [↓reduceIte,zlk,Nat.reduceEqDiff,reduceCtorEq]);exact rfl) ?_)|((with_reducible first|refine jg (fun hc=>?_) (fun hc=>?_)|refine jh (fun hc=>?_) (fun hc=>?_))<;>(try simp (disch:=omega) only [zhb] at hc)<;>(try (exfalso;omega))<;>(try subst hc))|(with_reducible refine ji (by omega) ?_)|(simp (config := { maxSteps := 400000 }) only [↓jt,↓reduceIte,zvs,reduceCtorEq,Nat.reduceEqDiff,Nat.reduceAdd,Nat.reduceLeDiff,Nat.reduceMul,Int.reduceBNe,Int.reduceBEq,Int.reduceEq,Int.reduceNe,Int.reduceLT,Int.reduceLE,Int.reduceGT,Int.reduceGE,Int.reduceNeg,Int.reduceToNat,Nat.reduceLT,Nat.reduceSub,tab,encPi,Try.results99, List.toList_toArray])|(simp (disch:=omega) only [ziw]))
      refine ja (ok_body Try.func100 rfl rfl (by kernel_rfl) (k := 2) (by rfl) (by decide) ?_)
      repeat' (first|(with_reducible first|refine yrl (by constructor) ?_|refine jk (fun M hM=>?_)|(refine hM _ ?_;clear hM M)|refine xb3 (by decide) ?_|refine yqa (by assumption) ?_ ?_|refine yqb (by assumption) ?_ ?_)|((with_reducible refine je ?_)<;>(first|rfl|assumption|(simp only [znl,znNR];(first|done|fail))))|(with_reducible refine jf (by (simp only [↓reduceIte,zlk,Nat.reduceEqDiff,reduceCtorEq]);exact rfl) ?_)|((with_reducible first|refine jg (fun hc=>?_) (fun hc=>?_)|refine jh (fun hc=>?_) (fun hc=>?_))<;>(try simp (disch:=omega) only [zhb] at hc)<;>(try (exfalso;omega))<;>(try subst hc))|(with_reducible refine ji (by omega) ?_)|(simp (config := { maxSteps := 400000 }) only [↓jt,↓reduceIte,zvs,reduceCtorEq,Nat.reduceEqDiff,Nat.reduceAdd,Nat.reduceLeDiff,Nat.reduceMul,Int.reduceBNe,Int.reduceBEq,Int.reduceEq,Int.reduceNe,Int.reduceLT,Int.reduceLE,Int.reduceGT,Int.reduceGE,Int.reduceNeg,Int.reduceToNat,Nat.reduceLT,Nat.reduceSub,tab,encPi,Try.results100,Try.results99, Try.results64, List.toList_toArray])|(simp (disch:=omega) only [ziw]))
      all_goals first
        | (exfalso; omega)
        | (rw [eR]; simp only [zrds]; done)
    · have hst : ∀ j, j < k + 1 → (m.pipes.getD j default).id ≠ id := fun j hj => by
        by_cases e : j = k
        · rw [e]; exact hq
        · exact hn j (by omega)
      repeat' (first|(with_reducible first|refine yrl (by constructor) ?_|refine jk (fun M hM=>?_)|(refine hM _ ?_;clear hM M)|refine xb3 (by decide) ?_|refine yqa (by assumption) ?_ ?_|refine yqb (by assumption) ?_ ?_)|((with_reducible refine je ?_)<;>(first|rfl|assumption|(simp only [znl,znNR];(first|done|fail))))|(with_reducible refine jf (by (simp only [↓reduceIte,zlk,Nat.reduceEqDiff,reduceCtorEq]);exact rfl) ?_)|((with_reducible first|refine jg (fun hc=>?_) (fun hc=>?_)|refine jh (fun hc=>?_) (fun hc=>?_))<;>(try simp (disch:=omega) only [zhb] at hc)<;>(try (exfalso;omega))<;>(try subst hc))|(with_reducible refine ji (by omega) ?_)|(simp (config := { maxSteps := 400000 }) only [↓jt,↓reduceIte,zvs,reduceCtorEq,Nat.reduceEqDiff,Nat.reduceAdd,Nat.reduceLeDiff,Nat.reduceMul,Int.reduceBNe,Int.reduceBEq,Int.reduceEq,Int.reduceNe,Int.reduceLT,Int.reduceLE,Int.reduceGT,Int.reduceGE,Int.reduceNeg,Int.reduceToNat,Nat.reduceLT,Nat.reduceSub,tab,encPi,Try.results99, List.toList_toArray])|(simp (disch:=omega) only [ziw]))
      refine ja (ok_body Try.func100 rfl rfl (by kernel_rfl) (k := 2) (by rfl) (by decide) ?_)
      repeat' (first|(with_reducible first|refine yrl (by constructor) ?_|refine jk (fun M hM=>?_)|(refine hM _ ?_;clear hM M)|refine xb3 (by decide) ?_|refine yqa (by assumption) ?_ ?_|refine yqb (by assumption) ?_ ?_)|((with_reducible refine je ?_)<;>(first|rfl|assumption|(simp only [znl,znNR];(first|done|fail))))|(with_reducible refine jf (by (simp only [↓reduceIte,zlk,Nat.reduceEqDiff,reduceCtorEq]);exact rfl) ?_)|((with_reducible first|refine jg (fun hc=>?_) (fun hc=>?_)|refine jh (fun hc=>?_) (fun hc=>?_))<;>(try simp (disch:=omega) only [zhb] at hc)<;>(try (exfalso;omega))<;>(try subst hc))|(with_reducible refine ji (by omega) ?_)|(simp (config := { maxSteps := 400000 }) only [↓jt,↓reduceIte,zvs,reduceCtorEq,Nat.reduceEqDiff,Nat.reduceAdd,Nat.reduceLeDiff,Nat.reduceMul,Int.reduceBNe,Int.reduceBEq,Int.reduceEq,Int.reduceNe,Int.reduceLT,Int.reduceLE,Int.reduceGT,Int.reduceGE,Int.reduceNeg,Int.reduceToNat,Nat.reduceLT,Nat.reduceSub,tab,encPi,Try.results100,Try.results99, Try.results64, List.toList_toArray])|(simp (disch:=omega) only [ziw]))
      all_goals first
        | (exfalso; omega)
        | (exfalso; exact hq rfl)
        | (refine xl1 (k + 1) ?_ ⟨by omega, hst⟩ (by show m.pipes.length - (k + 1) < m.pipes.length - k; omega); (refine yrn [] false ?_ ?_<;>(repeat' (first|(with_reducible first|exact ya1|exact ya2|exact ya3|refine jx rfl (by first|rfl|assumption|(simp only [znl,znNR];(first|done|fail)))|exact ya5|exact ya7|exact jy|exact jz|refine jA ?_|refine ya9 ?_ ?_ ?_|refine jC rfl (by first|rfl|assumption|(simp only [znl,znNR];(first|done|fail)))|refine MR.agg (MRL.cons ?_ ?_)|refine MR.fn ?_|refine MRL.cons ?_ ?_|exact MRL.nil|refine jE ?_ ?_|exact jF|exact jG|refine yb1 ?_ ?_|refine MB.row ?_|refine jI ?_ ?_|exact ya8|refine jJ rfl (by first|rfl|assumption|(simp only [znl,znNR];(first|done|fail)))|refine yb2 ?_|rfl)|(simp only [znl,znNR];(first|done|fail))|(simp only [↓reduceIte,zlk,Nat.reduceEqDiff,reduceCtorEq])|(with_reducible first|refine jJ ?_ ?_|refine ya5 ?_|refine ju ?_|refine jv ?_|refine jw ?_|refine jx ?_ (by first|rfl|assumption|(simp only [znl,znNR];(first|done|fail)))|refine jC ?_ (by first|rfl|assumption|(simp only [znl,znNR];(first|done|fail))))))); done)
  · obtain rfl : k = m.pipes.length := by omega
    have eR : R = -1 := by rw [hR, placeI_miss hn]
    clear hR
    repeat' (first|(with_reducible first|refine yrl (by constructor) ?_|refine jk (fun M hM=>?_)|(refine hM _ ?_;clear hM M)|refine xb3 (by decide) ?_|refine yqa (by assumption) ?_ ?_|refine yqb (by assumption) ?_ ?_)|((with_reducible refine je ?_)<;>(first|rfl|assumption|(simp only [znl,znNR];(first|done|fail))))|(with_reducible refine jf (by (simp only [↓reduceIte,zlk,Nat.reduceEqDiff,reduceCtorEq]);exact rfl) ?_)|((with_reducible first|refine jg (fun hc=>?_) (fun hc=>?_)|refine jh (fun hc=>?_) (fun hc=>?_))<;>(try simp (disch:=omega) only [zhb] at hc)<;>(try (exfalso;omega))<;>(try subst hc))|(with_reducible refine ji (by omega) ?_)|(simp (config := { maxSteps := 400000 }) only [↓jt,↓reduceIte,zvs,reduceCtorEq,Nat.reduceEqDiff,Nat.reduceAdd,Nat.reduceLeDiff,Nat.reduceMul,Int.reduceBNe,Int.reduceBEq,Int.reduceEq,Int.reduceNe,Int.reduceLT,Int.reduceLE,Int.reduceGT,Int.reduceGE,Int.reduceNeg,Int.reduceToNat,Nat.reduceLT,Nat.reduceSub,tab,Try.results99, Try.results64, List.toList_toArray])|(simp (disch:=omega) only [ziw]))
    all_goals first
      | (exfalso; omega)
      | (rw [eR]; simp only [zrds]; done)
theorem file_ok (m : Mach) (hm : MFit 20000 m) (f : Fdd) (hf : fdR f) (h : fdB m.pipes f = true) (h0 : ¬(f.kind = 0)) : Spec Try.prog 85 [encM m, encFd f] (.bool true) := by
  have hP := place_spec m hm f.n hf.2.1
  obtain ⟨⟨f1, f2⟩, ⟨f3, f4⟩, f5, f6⟩ := hf
  have hk : ((f.kind = 1 ∨ f.kind = 2) ∧ f.n = 0 ∧ f.pos = 0) ∨ (f.kind = 3 ∧ 1 ≤ f.n ∧ f.n ≤ 64 ∧ 0 ≤ f.pos ∧ f.pos ≤ 8960) ∨ ((f.kind = 4 ∨ f.kind = 5) ∧ f.pos = 0 ∧ 0 ≤ placeI m.pipes f.n) := by
    unfold fdB at h
    split at h
    · have := of_decide_eq_true h; omega
    · split at h
      · have := of_decide_eq_true h; omega
      · split at h
        · rw [Bool.and_eq_true] at h
          have h1 := of_decide_eq_true h.1
          have h2 := placeI_pipe h.2
          omega
        · cases h
  generalize placeI m.pipes f.n = pl at hP hk
  refine spec_ok Try.func85 rfl rfl (by kernel_rfl) (k := 2) rfl (by decide) ?_
  repeat' (first|(with_reducible first|refine yrl (by constructor) ?_|refine jk (fun M hM=>?_)|(refine hM _ ?_;clear hM M)|refine xb3 (by decide) ?_|refine yqa (by assumption) ?_ ?_|refine yqb (by assumption) ?_ ?_)|((with_reducible refine je ?_)<;>(first|rfl|assumption|(simp only [znl,znNR];(first|done|fail))))|(with_reducible refine jf (by (simp only [↓reduceIte,zlk,Nat.reduceEqDiff,reduceCtorEq]);exact rfl) ?_)|((with_reducible first|refine jg (fun hc=>?_) (fun hc=>?_)|refine jh (fun hc=>?_) (fun hc=>?_))<;>(try simp (disch:=omega) only [zhb] at hc)<;>(try (exfalso;omega))<;>(try subst hc))|(with_reducible refine ji (by omega) ?_)|(simp (config := { maxSteps := 400000 }) only [↓jt,↓reduceIte,zvs,reduceCtorEq,Nat.reduceEqDiff,Nat.reduceAdd,Nat.reduceLeDiff,Nat.reduceMul,Int.reduceBNe,Int.reduceBEq,Int.reduceEq,Int.reduceNe,Int.reduceLT,Int.reduceLE,Int.reduceGT,Int.reduceGE,Int.reduceNeg,Int.reduceToNat,Nat.reduceLT,Nat.reduceSub,tab,encFd,Try.results85,jTA])|(simp (disch:=omega) only [ziw]))
  all_goals first
    | (exfalso; omega)
    | (simp only [zrds]; done)
    | (simp only [zrds]; rw [Bool.eq_iff_iff]; simp only [beq_iff_eq,decide_eq_true_eq,true_iff,iff_true]; omega)
theorem parent_ok (m : Mach) (hm : MFit 20000 m) (p : Pr) (hp : PrR p) (h : livesB m.pr p.par = true ∨ (p.par = 0 ∧ livesP p = true)) : Spec Try.prog 84 [encM m, encPr p] (.bool true) := by
  have hl := hm.pr
  have hpR := hm.prR
  obtain ⟨hS1, hS2, hS3⟩ := pr3 hp
  have hL := slives_spec p hp
  simp only [encPr] at hL
  by_cases h1 : p.par = 0 ∧ livesP p = true
  · rw [h1.2] at hL
    have h1 := h1.1
    refine spec_ok Try.func84 rfl rfl (by kernel_rfl) (k := 2) rfl (by decide) ?_
    repeat' (first|(with_reducible first|refine yrl (by constructor) ?_|refine jk (fun M hM=>?_)|(refine hM _ ?_;clear hM M)|refine xb3 (by decide) ?_|refine yqa (by assumption) ?_ ?_|refine yqb (by assumption) ?_ ?_)|((with_reducible refine je ?_)<;>(first|rfl|assumption|(simp only [znl,znNR];(first|done|fail))))|(with_reducible refine jf (by (simp only [↓reduceIte,zlk,Nat.reduceEqDiff,reduceCtorEq]);exact rfl) ?_)|((with_reducible first|refine jg (fun hc=>?_) (fun hc=>?_)|refine jh (fun hc=>?_) (fun hc=>?_))<;>(try simp (disch:=omega) only [zhb] at hc)<;>(try (exfalso;omega))<;>(try subst hc))|(with_reducible refine ji (by omega) ?_)|(simp (config := { maxSteps := 400000 }) only [↓jt,↓reduceIte,zvs,reduceCtorEq,Nat.reduceEqDiff,Nat.reduceAdd,Nat.reduceLeDiff,Nat.reduceMul,Int.reduceBNe,Int.reduceBEq,Int.reduceEq,Int.reduceNe,Int.reduceLT,Int.reduceLE,Int.reduceGT,Int.reduceGE,Int.reduceNeg,Int.reduceToNat,Nat.reduceLT,Nat.reduceSub,tab,hS1,hS2,hS3,encPr,Try.results84,jTA])|(simp (disch:=omega) only [ziw]))
    all_goals first
      | (exfalso; omega)
      | (simp only [zrds]; done)
  · have h2 : livesB m.pr p.par = true := by
      rcases h with h | h
      · exact h
      · exact absurd h h1
    obtain ⟨b, hb⟩ : ∃ b, livesP p = b := ⟨_, rfl⟩
    rw [hb] at hL h1
    have h1 : b = true → p.par ≠ 0 := fun e h => h1 ⟨h, e⟩
    have hex : ∃ k, k < m.pr.length ∧ livesQ p.par (m.pr.getD k default) = true := by
      unfold livesB at h2
      rw [List.any_eq_true] at h2
      obtain ⟨x, hx, h3⟩ := h2
      obtain ⟨j, hj, rfl⟩ := List.mem_iff_getElem.1 hx
      refine ⟨j, hj, ?_⟩
      rw [List.getD_eq_getElem?_getD, List.getElem?_eq_getElem hj]
      exact h3
    cases b
    all_goals
      first | have h1 := h1 rfl | skip
      refine spec_ok Try.func84 rfl rfl (by kernel_rfl) (k := 2) rfl (by decide) ?_
      repeat' (first|(with_reducible first|refine yrl (by constructor) ?_|refine jk (fun M hM=>?_)|(refine hM _ ?_;clear hM M)|refine xb3 (by decide) ?_|refine yqa (by assumption) ?_ ?_|refine yqb (by assumption) ?_ ?_)|((with_reducible refine je ?_)<;>(first|rfl|assumption|(simp only [znl,znNR];(first|done|fail))))|(with_reducible refine jf (by (simp only [↓reduceIte,zlk,Nat.reduceEqDiff,reduceCtorEq]);exact rfl) ?_)|((with_reducible first|refine jg (fun hc=>?_) (fun hc=>?_)|refine jh (fun hc=>?_) (fun hc=>?_))<;>(try simp (disch:=omega) only [zhb] at hc)<;>(try (exfalso;omega))<;>(try subst hc))|(with_reducible refine ji (by omega) ?_)|(simp (config := { maxSteps := 400000 }) only [↓jt,↓reduceIte,zvs,reduceCtorEq,Nat.reduceEqDiff,Nat.reduceAdd,Nat.reduceLeDiff,Nat.reduceMul,Int.reduceBNe,Int.reduceBEq,Int.reduceEq,Int.reduceNe,Int.reduceLT,Int.reduceLE,Int.reduceGT,Int.reduceGE,Int.reduceNeg,Int.reduceToNat,Nat.reduceLT,Nat.reduceSub,tab,hS1,hS2,hS3,encPr,Try.results84,jTA])|(simp (disch:=omega) only [ziw]))
      all_goals (try (exfalso; omega))
      all_goals
        refine ja (ok_body Try.func115 rfl rfl (by kernel_rfl) (k := 2) (by rfl) (by decide) ?_)
        repeat' (first|(with_reducible first|refine yrl (by constructor) ?_|refine jk (fun M hM=>?_)|(refine hM _ ?_;clear hM M)|refine xb3 (by decide) ?_|refine yqa (by assumption) ?_ ?_|refine yqb (by assumption) ?_ ?_)|((with_reducible refine je ?_)<;>(first|rfl|assumption|(simp only [znl,znNR];(first|done|fail))))|(with_reducible refine jf (by (simp only [↓reduceIte,zlk,Nat.reduceEqDiff,reduceCtorEq]);exact rfl) ?_)|((with_reducible first|refine jg (fun hc=>?_) (fun hc=>?_)|refine jh (fun hc=>?_) (fun hc=>?_))<;>(try simp (disch:=omega) only [zhb] at hc)<;>(try (exfalso;omega))<;>(try subst hc))|(with_reducible refine ji (by omega) ?_)|(simp (config := { maxSteps := 400000 }) only [↓jt,↓reduceIte,zvs,reduceCtorEq,Nat.reduceEqDiff,Nat.reduceAdd,Nat.reduceLeDiff,Nat.reduceMul,Int.reduceBNe,Int.reduceBEq,Int.reduceEq,Int.reduceNe,Int.reduceLT,Int.reduceLE,Int.reduceGT,Int.reduceGE,Int.reduceNeg,Int.reduceToNat,Nat.reduceLT,Nat.reduceSub,tab,Try.results115, List.toList_toArray])|(simp (disch:=omega) only [ziw]))
        refine ja (ok_body Try.func78 rfl rfl (by kernel_rfl) (k := 2) (by rfl) (by decide) ?_)
        repeat' (first|(with_reducible first|refine yrl (by constructor) ?_|refine jk (fun M hM=>?_)|(refine hM _ ?_;clear hM M)|refine xb3 (by decide) ?_|refine yqa (by assumption) ?_ ?_|refine yqb (by assumption) ?_ ?_)|((with_reducible refine je ?_)<;>(first|rfl|assumption|(simp only [znl,znNR];(first|done|fail))))|(with_reducible refine jf (by (simp only [↓reduceIte,zlk,Nat.reduceEqDiff,reduceCtorEq]);exact rfl) ?_)|((with_reducible first|refine jg (fun hc=>?_) (fun hc=>?_)|refine jh (fun hc=>?_) (fun hc=>?_))<;>(try simp (disch:=omega) only [zhb] at hc)<;>(try (exfalso;omega))<;>(try subst hc))|(with_reducible refine ji (by omega) ?_)|(simp (config := { maxSteps := 400000 }) only [↓jt,↓reduceIte,zvs,reduceCtorEq,Nat.reduceEqDiff,Nat.reduceAdd,Nat.reduceLeDiff,Nat.reduceMul,Int.reduceBNe,Int.reduceBEq,Int.reduceEq,Int.reduceNe,Int.reduceLT,Int.reduceLE,Int.reduceGT,Int.reduceGE,Int.reduceNeg,Int.reduceToNat,Nat.reduceLT,Nat.reduceSub,tab,Try.results78, List.toList_toArray])|(simp (disch:=omega) only [ziw]))
        refine ok_loop (fun k : Nat => ⟨slots [(0, encPrs m.pr), (1, .fn 116 [.ptr 1 []]), (6, encPrs m.pr), (7, .int .i64 m.pr.length), (8, .int .i64 k)], rows [(0, .row machSh (encM m)), (1, .row prSh (encPrA p))], 2⟩) (fun k => k ≤ m.pr.length ∧ ∀ j, j < k → livesQ p.par (m.pr.getD j default) = false) (fun k => m.pr.length - k) 0 ?_ ⟨Nat.zero_le _, fun j hj => by omega⟩ (fun k hk => ?_)
        · (refine yrn [] false ?_ ?_<;>(repeat' (first|(with_reducible first|exact ya1|exact ya2|exact ya3|refine jx rfl (by first|rfl|assumption|(simp only [znl,znNR];(first|done|fail)))|exact ya5|exact ya7|exact jy|exact jz|refine jA ?_|refine ya9 ?_ ?_ ?_|refine jC rfl (by first|rfl|assumption|(simp only [znl,znNR];(first|done|fail)))|refine MR.agg (MRL.cons ?_ ?_)|refine MR.fn ?_|refine MRL.cons ?_ ?_|exact MRL.nil|refine jE ?_ ?_|exact jF|exact jG|refine yb1 ?_ ?_|refine MB.row ?_|refine jI ?_ ?_|exact ya8|refine jJ rfl (by first|rfl|assumption|(simp only [znl,znNR];(first|done|fail)))|refine yb2 ?_|rfl)|(simp only [znl,znNR];(first|done|fail))|(simp only [↓reduceIte,zlk,Nat.reduceEqDiff,reduceCtorEq])|(with_reducible first|refine jJ ?_ ?_|refine ya5 ?_|refine ju ?_|refine jv ?_|refine jw ?_|refine jx ?_ (by first|rfl|assumption|(simp only [znl,znNR];(first|done|fail)))|refine jC ?_ (by first|rfl|assumption|(simp only [znl,znNR];(first|done|fail)))))))
          all_goals (first | rfl)
        obtain ⟨hk, hn⟩ := hk
        obtain ⟨k0, hk0, hk1⟩ := hex
        have hlt : k < m.pr.length := by
          refine Decidable.byContradiction fun hc => ?_
          have := hn k0 (by omega)
          rw [hk1] at this; cases this
        have hb := hpR _ (getD_mem' hlt)
        obtain ⟨hT1, hT2, hT3⟩ := pr3 hb
        have hLq := slives_spec _ hb
        simp only [encPr] at hLq
        have hQd : livesQ p.par (m.pr.getD k default) = (decide ((m.pr.getD k default).pid = p.par) && livesP (m.pr.getD k default)) := rfl
        obtain ⟨c, hcc⟩ : ∃ c, livesP (m.pr.getD k default) = c := ⟨_, rfl⟩
        rw [hcc] at hLq hQd
        have hst : livesQ p.par (m.pr.getD k default) = false → ∀ j, j < k + 1 → livesQ p.par (m.pr.getD j default) = false := fun h j hj => by
          by_cases e : j = k
          · rw [e]; exact h
          · exact hn j (by omega)
        rw [hQd] at hst
        cases c
        all_goals
          repeat' (first|(with_reducible first|refine yrl (by constructor) ?_|refine jk (fun M hM=>?_)|(refine hM _ ?_;clear hM M)|refine xb3 (by decide) ?_|refine yqa (by assumption) ?_ ?_|refine yqb (by assumption) ?_ ?_)|((with_reducible refine je ?_)<;>(first|rfl|assumption|(simp only [znl,znNR];(first|done|fail))))|(with_reducible refine jf (by (simp only [↓reduceIte,zlk,Nat.reduceEqDiff,reduceCtorEq]);exact rfl) ?_)|((with_reducible first|refine jg (fun hc=>?_) (fun hc=>?_)|refine jh (fun hc=>?_) (fun hc=>?_))<;>(try simp (disch:=omega) only [zhb] at hc)<;>(try (exfalso;omega))<;>(try subst hc))|(with_reducible refine ji (by omega) ?_)|(simp (config := { maxSteps := 400000 }) only [↓jt,↓reduceIte,zvs,reduceCtorEq,Nat.reduceEqDiff,Nat.reduceAdd,Nat.reduceLeDiff,Nat.reduceMul,Int.reduceBNe,Int.reduceBEq,Int.reduceEq,Int.reduceNe,Int.reduceLT,Int.reduceLE,Int.reduceGT,Int.reduceGE,Int.reduceNeg,Int.reduceToNat,Nat.reduceLT,Nat.reduceSub,tab,hT1,hT2,hT3,encPr,Try.results78, List.toList_toArray])|(simp (disch:=omega) only [ziw]))
          refine ja (ok_body Try.func116 rfl rfl (by kernel_rfl) (k := 2) (by rfl) (by decide) ?_)
          repeat' (first|(with_reducible first|refine yrl (by constructor) ?_|refine jk (fun M hM=>?_)|(refine hM _ ?_;clear hM M)|refine xb3 (by decide) ?_|refine yqa (by assumption) ?_ ?_|refine yqb (by assumption) ?_ ?_)|((with_reducible refine je ?_)<;>(first|rfl|assumption|(simp only [znl,znNR];(first|done|fail))))|(with_reducible refine jf (by (simp only [↓reduceIte,zlk,Nat.reduceEqDiff,reduceCtorEq]);exact rfl) ?_)|((with_reducible first|refine jg (fun hc=>?_) (fun hc=>?_)|refine jh (fun hc=>?_) (fun hc=>?_))<;>(try simp (disch:=omega) only [zhb] at hc)<;>(try (exfalso;omega))<;>(try subst hc))|(with_reducible refine ji (by omega) ?_)|(simp (config := { maxSteps := 400000 }) only [↓jt,↓reduceIte,zvs,reduceCtorEq,Nat.reduceEqDiff,Nat.reduceAdd,Nat.reduceLeDiff,Nat.reduceMul,Int.reduceBNe,Int.reduceBEq,Int.reduceEq,Int.reduceNe,Int.reduceLT,Int.reduceLE,Int.reduceGT,Int.reduceGE,Int.reduceNeg,Int.reduceToNat,Nat.reduceLT,Nat.reduceSub,tab,hT1,hT2,hT3,encPr,Try.results116,Try.results78, Try.results115, Try.results84, List.toList_toArray])|(simp (disch:=omega) only [ziw]))
          all_goals first
            | (exfalso; omega)
            | (simp only [zrds]; done)
            | (simp only [zrds]; first | exact decide_eq_true (by omega) | exact (decide_eq_true (by omega)).symm)
            | (refine xl1 (k + 1) ?_ ⟨by omega, hst (by first | rfl | (rw [Bool.and_false]) | (rw [decide_eq_false (by omega)]; rfl))⟩ (by show m.pr.length - (k + 1) < m.pr.length - k; omega); (refine yrn [] false ?_ ?_<;>(repeat' (first|(with_reducible first|exact ya1|exact ya2|exact ya3|refine jx rfl (by first|rfl|assumption|(simp only [znl,znNR];(first|done|fail)))|exact ya5|exact ya7|exact jy|exact jz|refine jA ?_|refine ya9 ?_ ?_ ?_|refine jC rfl (by first|rfl|assumption|(simp only [znl,znNR];(first|done|fail)))|refine MR.agg (MRL.cons ?_ ?_)|refine MR.fn ?_|refine MRL.cons ?_ ?_|exact MRL.nil|refine jE ?_ ?_|exact jF|exact jG|refine yb1 ?_ ?_|refine MB.row ?_|refine jI ?_ ?_|exact ya8|refine jJ rfl (by first|rfl|assumption|(simp only [znl,znNR];(first|done|fail)))|refine yb2 ?_|rfl)|(simp only [znl,znNR];(first|done|fail))|(simp only [↓reduceIte,zlk,Nat.reduceEqDiff,reduceCtorEq])|(with_reducible first|refine jJ ?_ ?_|refine ya5 ?_|refine ju ?_|refine jv ?_|refine jw ?_|refine jx ?_ (by first|rfl|assumption|(simp only [znl,znNR];(first|done|fail)))|refine jC ?_ (by first|rfl|assumption|(simp only [znl,znNR];(first|done|fail))))))); done)
end Go.Proofs.Ytginpdejpibdjaa.V
end
section
namespace Go.Proofs.Ytginpdejpibdjaa.V
open Go
set_option maxRecDepth 100000
set_option maxHeartbeats 4000000
def endsS (k id : Int) (l : List Fdd) : Nat := l.countP fun f => decide (f.kind = k) && decide (f.n = id)
def endsN (l : List Pr) (k id : Int) : Nat := (l.map fun p => endsS k id p.fds).sum
theorem endsS_snoc (k id : Int) (s : List Fdd) (x : Fdd) : endsS k id (s ++ [x]) = endsS k id s + if x.kind = k ∧ x.n = id then 1 else 0 := by
  simp only [endsS,List.countP_append,List.countP_cons,List.countP_nil,Nat.zero_add]
  congr 1
  by_cases h1 : x.kind = k <;> by_cases h2 : x.n = id <;> simp [h1, h2]
theorem endsS_le (k id : Int) (s : List Fdd) : endsS k id s ≤ s.length := List.countP_le_length
theorem endsN_snoc (l : List Pr) (p : Pr) (k id : Int) : endsN (l ++ [p]) k id = endsN l k id + endsS k id p.fds := by
  simp [endsN]
theorem endsN_le (k id : Int) : ∀ (l : List Pr), (∀ p ∈ l, p.fds.length = 8) → endsN l k id ≤ 8 * l.length
  | [], _ => Nat.le_refl _
  | p :: l, h => by
    have h1 := endsN_le k id l fun q hq => h q (by simp [hq])
    have h2 := endsS_le k id p.fds
    have h3 := h p (by simp)
    have e : endsN (p :: l) k id = endsS k id p.fds + endsN l k id := by simp [endsN]
    rw [e, List.length_cons]
    omega
theorem pipe_cases (l : List Pip) (id : Int) : (placeI l id = -1 ∧ pipeO l id = none) ∨ ∃ k, k < l.length ∧ placeI l id = (k : Nat) ∧ pipeO l id = some (l.getD k default) ∧ (l.getD k default).id = id := by
  unfold placeI
  cases hf : l.findIdx? (fun p => decide (p.id = id)) with
  | none =>
    refine .inl ⟨rfl, ?_⟩
    rw [List.findIdx?_eq_none_iff] at hf
    unfold pipeO
    rw [List.find?_eq_none]
    intro x hx
    rw [hf x hx]
    simp
  | some k =>
    rw [List.findIdx?_eq_some_iff_getElem] at hf
    obtain ⟨h1, h2, h3⟩ := hf
    refine .inr ⟨k, h1, rfl, ?_, ?_⟩
    · unfold pipeO
      rw [List.find?_eq_some_iff_getElem]
      rw [List.getD_eq_getElem?_getD, List.getElem?_eq_getElem h1]
      refine ⟨h2, k, h1, rfl, fun j hj => ?_⟩
      have := h3 j hj
      simpa using this
    · rw [List.getD_eq_getElem?_getD, List.getElem?_eq_getElem h1]
      simpa using h2
theorem pipeO_far {l : List Pip} {n : Int} (hl : ∀ p ∈ l, i64R p.id) (h : 9223372036854775807 < n) : pipeO l n = none := by
  unfold pipeO
  rw [List.find?_eq_none]
  intro x hx
  have := (hl x hx).2
  rw [decide_eq_false (by omega)]
  simp
theorem pipeO_mem {l : List Pip} {id : Int} {x : Pip} (h : pipeO l id = some x) : x ∈ l ∧ x.id = id := by
  unfold pipeO at h
  exact ⟨List.mem_of_find?_eq_some h, by simpa using List.find?_some h⟩
def kidB (par n : Int) (p : Pr) : Bool := decide (p.par = par) && (decide (n = 0) || decide (p.pid = n))
def childB (l : List Pr) (par n : Int) : Bool := (l.any fun p => kidB par n p && decide (p.st = 3)) || !(l.any fun p => kidB par n p)
def couldM (m : Mach) (p : Pr) : Bool :=
  if p.st ≠ 2 then false
  else if p.why = 1 then decide (m.inp ≠ []) || m.fin
  else if p.why = 2 then (match pipeO m.pipes p.n with
    | none => true
    | some x => decide (x.d ≠ []) || decide (endsN m.pr 5 x.id = 0))
  else if p.why = 3 then (match pipeO m.pipes p.n with
    | none => true
    | some x => decide (x.d.length < 64) || decide (endsN m.pr 4 x.id = 0))
  else if p.why = 4 then childB m.pr p.pid p.n
  else if p.why = 5 then decide (p.n ≤ m.clock)
  else false
def CouldM (m : Mach) (pid : Int) : Bool := match findI m.pr pid with
  | none => false
  | some i => couldM m (m.pr.getD i default)
def wokeP (p : Pr) : Pr := { p with st := 1, why := 0, n := 0 }
def wakeP (m : Mach) (p : Pr) : Pr := if couldM m p = true then wokeP p else p
def wakeM (m : Mach) : Mach := { m with pr := m.pr.map (wakeP m) }
theorem could_st {m : Mach} {p : Pr} (h : couldM m p = true) : p.st = 2 := by
  unfold couldM at h
  split at h
  · cases h
  · omega
theorem wakeP_or (m : Mach) (p : Pr) : wakeP m p = p ∨ (p.st = 2 ∧ couldM m p = true ∧ wakeP m p = wokeP p) := by
  unfold wakeP
  split
  · rename_i h; exact .inr ⟨could_st h, h, rfl⟩
  · exact .inl rfl
theorem wakeP_same (m : Mach) (p : Pr) : (wakeP m p).pid = p.pid ∧ (wakeP m p).par = p.par ∧ (wakeP m p).sp = p.sp ∧ (wakeP m p).fds = p.fds ∧ (wakeP m p).rs = p.rs ∧ (wakeP m p).pc = p.pc ∧ (wakeP m p).code = p.code ∧ (wakeP m p).mask = p.mask ∧ ((wakeP m p).st = 3 ↔ p.st = 3) ∧ livesP (wakeP m p) = livesP p := by
  rcases wakeP_or m p with h | ⟨h1, _, h⟩
  · rw [h]; simp
  · rw [h]
    refine ⟨rfl, rfl, rfl, rfl, rfl, rfl, rfl, rfl, ?_, ?_⟩
    · show (1 : Int) = 3 ↔ p.st = 3
      omega
    · unfold livesP
      rw [h1]; rfl
theorem wakeP_fit (m : Mach) {p : Pr} (h : PrR p) : PrR (wakeP m p) := by
  rcases wakeP_or m p with e | ⟨_, _, e⟩
  · rw [e]; exact h
  · rw [e]
    exact ⟨h.pid, h.par, ⟨by show (-9223372036854775808 : Int) ≤ 1; omega, by show (1 : Int) ≤ 9223372036854775807; omega⟩, h.rs, h.rsR, h.pc, h.sp, h.spR, h.fds, h.fdsR, h.code, ⟨by show (-9223372036854775808 : Int) ≤ 0; omega, by show (0 : Int) ≤ 9223372036854775807; omega⟩, ⟨by show (0 : Int) ≤ 0; omega, by show (0 : Int) ≤ 18446744073709551615; omega⟩⟩
theorem wakeM_fit {N : Nat} {m : Mach} (h : MFit N m) : MFit N (wakeM m) := by
  refine ⟨h.clock, h.quantum, h.cur, h.left, h.fr, h.frS, ?_, ?_, h.next, h.init, h.pipes, h.pipesR, h.newp, h.inp, h.told, h.bl, h.blS, h.pe, h.peS, h.dleft, h.dirty, h.dirtyS⟩
  · show (m.pr.map (wakeP m)).length ≤ N
    rw [List.length_map]; exact h.pr
  · intro p hp
    obtain ⟨q, hq, rfl⟩ := List.mem_map.1 hp
    exact wakeP_fit m (h.prR q hq)
theorem endsN_map (f : Pr → Pr) (hf : ∀ p, (f p).fds = p.fds) (k id : Int) (l : List Pr) : endsN (l.map f) k id = endsN l k id := by
  unfold endsN
  rw [List.map_map]
  congr 2
  funext p
  show endsS k id (f p).fds = _
  rw [hf]
theorem usersN_map (f : Pr → Pr) (hf : ∀ p, (f p).sp = p.sp) (x : Int) (l : List Pr) : usersN (l.map f) x = usersN l x := by
  unfold usersN
  rw [List.map_map]
  congr 2
  funext p
  show usersS x (f p).sp = _
  rw [hf]
theorem any_map' {α : Type} (f : α → α) (q : α → Bool) (hq : ∀ x, q (f x) = q x) (l : List α) : (l.map f).any q = l.any q := by
  rw [List.any_map]
  congr 1
  funext x
  exact hq x
theorem childB_map (f : Pr → Pr) (h1 : ∀ p, (f p).par = p.par) (h2 : ∀ p, (f p).pid = p.pid) (h3 : ∀ p, (f p).st = 3 ↔ p.st = 3) (l : List Pr) (par n : Int) : childB (l.map f) par n = childB l par n := by
  have hk : ∀ p, kidB par n (f p) = kidB par n p := fun p => by unfold kidB; rw [h1, h2]
  unfold childB
  rw [any_map' f _ (fun p => by rw [hk]; congr 1; exact decide_eq_decide.2 (h3 p)), any_map' f _ (fun p => hk p)]
theorem could_wake (m : Mach) (p : Pr) : couldM (wakeM m) p = couldM m p := by
  have hs := wakeP_same m
  unfold couldM
  show (if p.st ≠ 2 then false else if p.why = 1 then decide (m.inp ≠ []) || m.fin else if p.why = 2 then (match pipeO m.pipes p.n with
    | none => true
    | some x => decide (x.d ≠ []) || decide (endsN (m.pr.map (wakeP m)) 5 x.id = 0)) else if p.why = 3 then (match pipeO m.pipes p.n with
    | none => true
    | some x => decide (x.d.length < 64) || decide (endsN (m.pr.map (wakeP m)) 4 x.id = 0)) else if p.why = 4 then childB (m.pr.map (wakeP m)) p.pid p.n else if p.why = 5 then decide (p.n ≤ m.clock) else false) = _
  simp only [endsN_map (wakeP m) (fun p => (hs p).2.2.2.1),childB_map (wakeP m) (fun p => (hs p).2.1) (fun p => (hs p).1) (fun p => (hs p).2.2.2.2.2.2.2.2.1)]
theorem could_awake (m : Mach) (p : Pr) : couldM (wakeM m) (wakeP m p) = false := by
  rw [could_wake]
  unfold wakeP
  split
  · unfold couldM
    rw [if_pos]
    show (1 : Int) ≠ 2
    omega
  · rename_i h
    simpa using h
theorem wake_wake (m : Mach) : wakeM (wakeM m) = wakeM m := by
  have : (m.pr.map (wakeP m)).map (wakeP (wakeM m)) = m.pr.map (wakeP m) := by
    rw [List.map_map]
    refine List.map_congr_left fun p _ => ?_
    show wakeP (wakeM m) (wakeP m p) = wakeP m p
    have h := could_awake m p
    generalize wakeP m p = q at h
    unfold wakeP
    rw [if_neg (by rw [h]; simp)]
  show ({ wakeM m with pr := (m.pr.map (wakeP m)).map (wakeP (wakeM m)) } : Mach) = wakeM m
  rw [this]; rfl
theorem wake_at {m : Mach} {k : Nat} (hk : k < m.pr.length) : (wakeM m).pr.getD k default = wakeP m (m.pr.getD k default) := by
  show (m.pr.map (wakeP m)).getD k default = _
  rw [List.getD_eq_getElem?_getD, List.getElem?_map, List.getD_eq_getElem?_getD, List.getElem?_eq_getElem hk]; rfl
theorem procB_wake (m : Mach) (hlv : ∀ pid, livesB (wakeM m).pr pid = livesB m.pr pid) (p : Pr) (h : procB m p = true) : procB (wakeM m) (wakeP m p) = true := by
  have hs := wakeP_same m
  unfold procB at h ⊢
  rw [Bool.and_eq_true, Bool.and_eq_true] at h ⊢
  obtain ⟨⟨h1, h2⟩, h3⟩ := h
  have hH : procH (wakeM m) (wakeP m p) = true := by
    rw [procH_iff] at h1 ⊢
    unfold headP at h1 ⊢
    rw [hlv]
    show 1 ≤ (wakeP m p).pid ∧ (wakeP m p).pid < m.next ∧ _
    rw [(hs p).1, (hs p).2.1, (hs p).2.2.2.2.1, (hs p).2.2.2.2.2.2.1]
    rcases wakeP_or m p with e | ⟨e1, _, e⟩
    · rw [e]; exact h1
    · rw [e]
      obtain ⟨a1, a2, a3, a4, a5, a6, a7, a8, a9, a10⟩ := h1
      refine ⟨a1, a2, .inl rfl, a4, ?_, ?_, Int.le_refl _, by show (0 : Int) ≤ 5; omega, .inr rfl, ?_⟩
      · rcases a5 with a5 | a5
        · exact .inl a5
        · exact .inr ⟨by show (1 : Int) ≠ 3; omega, a5.2⟩
      · show (1 : Int) = 2 ↔ (0 : Int) ≠ 0
        omega
      · rcases a10 with a10 | a10
        · omega
        · exact .inr a10
  refine ⟨⟨hH, ?_⟩, ?_⟩
  · rw [(hs p).2.2.1]
    rw [List.all_eq_true] at h2 ⊢
    intro x hx
    have h2 := h2 x hx
    unfold pteB at h2 ⊢
    show (if x.is = true then decide ((wakeP m p).st ≠ 3 ∧ 0 ≤ x.fr ∧ x.fr < m.fr.length ∧ usersN (m.pr.map (wakeP m)) x.fr = 1) else _) = true
    rw [usersN_map (wakeP m) (fun p => (hs p).2.2.1)]
    simp only [ne_eq,(hs p).2.2.2.2.2.2.2.2.1]
    exact h2
  · rw [(hs p).2.2.2.1]
    rw [List.all_eq_true] at h3 ⊢
    intro x hx
    have h3 := h3 x hx
    unfold fdsB at h3 ⊢
    show (fdB m.pipes x && !(decide ((wakeP m p).st = 3) && decide (x.kind ≠ 0))) = true
    rw [decide_eq_decide.2 (hs p).2.2.2.2.2.2.2.2.1]
    exact h3
theorem wake_chk {m : Mach} (h : chkM m = 0) : chkM (wakeM m) = 0 := by
  have hs := wakeP_same m
  obtain ⟨h1, h2, h3, h4, h5, h6, h7, h8, h9, h10⟩ := chk_parts h
  have hl : (wakeM m).pr.length = m.pr.length := List.length_map _
  have hlv : ∀ pid, livesB (wakeM m).pr pid = livesB m.pr pid := fun pid => by
    unfold livesB
    exact any_map' (wakeP m) _ (fun p => by rw [(hs p).1, (hs p).2.2.2.2.2.2.2.2.2]) m.pr
  have hP : procsB (wakeM m) = true := by
    unfold procsB
    rw [List.all_eq_true]
    intro i hi
    have hi : i < m.pr.length := by rw [← hl]; exact List.mem_range.1 hi
    have hq := (List.all_eq_true.1 h5) i (List.mem_range.2 hi)
    rw [wake_at hi, (hs _).1]
    by_cases h0 : 0 < i
    · rw [wake_at (show i - 1 < m.pr.length by omega), (hs _).1]
      rw [Bool.and_eq_true] at hq ⊢
      refine ⟨hq.1, ?_⟩
      exact procB_wake m hlv _ hq.2
    · rw [decide_eq_false h0] at hq ⊢
      rw [Bool.and_eq_true] at hq ⊢
      exact ⟨rfl, procB_wake m hlv _ hq.2⟩
  unfold chkM
  rw [if_neg (by show ¬(numB m = true); rw [h1]; simp), if_neg (by show ¬(m.fr.length < 1 ∨ 64 < m.fr.length); omega), if_neg, if_neg (by rw [hl]; omega), if_neg (by rw [hP]; simp), if_neg (by show ¬(64 < m.pipes.length); omega), if_neg (by show ¬(pipesB m = false); rw [h7]; simp), if_neg (by show ¬(65536 < m.inp.length ∨ 128 < m.init.length); omega)]
  · exact h10
  · show ¬((m.fr.any fun s => decide (s.length ≠ 128)) = true)
    intro hx
    rw [List.any_eq_true] at hx
    obtain ⟨s, hs1, hs2⟩ := hx
    exact (of_decide_eq_true hs2) (h3 s hs1)
end Go.Proofs.Ytginpdejpibdjaa.V
end
section
namespace Go.Proofs.Ytginpdejpibdjaa.V
open Go
set_option maxRecDepth 100000
def znR2 := And.intro @jO <| And.intro @jP <| And.intro @jQ <| And.intro @jR <| And.intro @jS <| And.intro @jT <| And.intro @jU <| True.intro
set_option maxHeartbeats 4000000
theorem sends_spec (m : Mach) (hm : MFit 20000 m) (id : Int) (hf : i64R id) : Spec Try.prog 43 [encM m, .int .i64 id] (.tup [.int .i64 (endsN m.pr 4 id), .int .i64 (endsN m.pr 5 id)]) := by
  obtain ⟨R, hR⟩ : ∃ R, R = endsN m.pr 4 id := ⟨_, rfl⟩
  obtain ⟨T, hT⟩ : ∃ T, T = endsN m.pr 5 id := ⟨_, rfl⟩
  rw [← hR, ← hT]
  have hl := hm.pr
  have hpR := hm.prR
  have hU : ∀ q k, k ≤ m.pr.length → endsN (m.pr.take k) q id ≤ 8 * k := fun q k hk => by
    have := endsN_le q id (m.pr.take k) fun p hp => (hpR p (List.mem_of_mem_take hp)).fds
    rw [List.length_take] at this
    omega
  obtain ⟨hp1, hp2⟩ := hf
  refine spec_ok Try.func43 rfl rfl (by kernel_rfl) (k := 2) rfl (by decide) ?_
  repeat' (first|(with_reducible first|refine yrl (by constructor) ?_|refine jk (fun M hM=>?_)|(refine hM _ ?_;clear hM M)|refine xb3 (by decide) ?_|refine yqa (by assumption) ?_ ?_|refine yqb (by assumption) ?_ ?_)|((with_reducible refine je ?_)<;>(first|rfl|assumption|(simp only [znl,znR2];(first|done|fail))))|(with_reducible refine jf (by (simp only [↓reduceIte,zlk,Nat.reduceEqDiff,reduceCtorEq]);exact rfl) ?_)|((with_reducible first|refine jg (fun hc=>?_) (fun hc=>?_)|refine jh (fun hc=>?_) (fun hc=>?_))<;>(try simp (disch:=omega) only [zhb] at hc)<;>(try (exfalso;omega))<;>(try subst hc))|(with_reducible refine ji (by omega) ?_)|(simp (config := { maxSteps := 400000 }) only [↓jt,↓reduceIte,zvs,reduceCtorEq,Nat.reduceEqDiff,Nat.reduceAdd,Nat.reduceLeDiff,Nat.reduceMul,Int.reduceBNe,Int.reduceBEq,Int.reduceEq,Int.reduceNe,Int.reduceLT,Int.reduceLE,Int.reduceGT,Int.reduceGE,Int.reduceNeg,Int.reduceToNat,Nat.reduceLT,Nat.reduceSub,tab,Try.results43,jTA])|(simp (disch:=omega) only [ziw]))
  refine ok_loop (fun k : Nat => ⟨slots [(1, .int .i64 id), (2, .ptr 0 []), (4, .int .i64 0), (5, .int .i64 0), (6, .int .i64 (endsN (m.pr.take k) 4 id)), (7, .int .i64 (endsN (m.pr.take k) 5 id)), (13, encPrs m.pr), (14, .int .i64 m.pr.length), (15, .int .i64 k)], rows [(0, .row machSh (encM m))], 1⟩) (fun k => k ≤ m.pr.length) (fun k => m.pr.length - k) 0 ?_ (Nat.zero_le _) (fun k hk => ?_)
  · (refine yrn [(0, 0)] false ?_ ?_<;>(repeat' (first|(with_reducible first|exact ya1|exact ya2|exact ya3|refine jx rfl (by first|rfl|assumption|(simp only [znl,znR2];(first|done|fail)))|exact ya5|exact ya7|exact jy|exact jz|refine jA ?_|refine ya9 ?_ ?_ ?_|refine jC rfl (by first|rfl|assumption|(simp only [znl,znR2];(first|done|fail)))|refine MR.agg (MRL.cons ?_ ?_)|refine MR.fn ?_|refine MRL.cons ?_ ?_|exact MRL.nil|refine jE ?_ ?_|exact jF|exact jG|refine yb1 ?_ ?_|refine MB.row ?_|refine jI ?_ ?_|exact ya8|refine jJ rfl (by first|rfl|assumption|(simp only [znl,znR2];(first|done|fail)))|refine yb2 ?_|rfl)|(simp only [znl,znR2];(first|done|fail))|(simp only [↓reduceIte,zlk,Nat.reduceEqDiff,reduceCtorEq])|(with_reducible first|refine jJ ?_ ?_|refine ya5 ?_|refine ju ?_|refine jv ?_|refine jw ?_|refine jx ?_ (by first|rfl|assumption|(simp only [znl,znR2];(first|done|fail)))|refine jC ?_ (by first|rfl|assumption|(simp only [znl,znR2];(first|done|fail)))))))
    all_goals (first | rfl | (simp [endsN]; done))
  have hUk := hU 4 k hk
  have hVk := hU 5 k hk
  by_cases hlt : k < m.pr.length
  · have hb := hpR _ (getD_mem' hlt)
    obtain ⟨hS1, hS2, hS3⟩ := pr3 hb
    have e1 := take_snoc m.pr k hlt
    have e2 := endsN_snoc (m.pr.take k) (m.pr.getD k default) 4 id
    have e2' := endsN_snoc (m.pr.take k) (m.pr.getD k default) 5 id
    rw [← e1] at e2 e2'
    have hsl := hb.fds
    have hsR := hb.fdsR
    repeat' (first|(with_reducible first|refine yrl (by constructor) ?_|refine jk (fun M hM=>?_)|(refine hM _ ?_;clear hM M)|refine xb3 (by decide) ?_|refine yqa (by assumption) ?_ ?_|refine yqb (by assumption) ?_ ?_)|((with_reducible refine je ?_)<;>(first|rfl|assumption|(simp only [znl,znR2];(first|done|fail))))|(with_reducible refine jf (by (simp only [↓reduceIte,zlk,Nat.reduceEqDiff,reduceCtorEq]);exact rfl) ?_)|((with_reducible first|refine jg (fun hc=>?_) (fun hc=>?_)|refine jh (fun hc=>?_) (fun hc=>?_))<;>(try simp (disch:=omega) only [zhb] at hc)<;>(try (exfalso;omega))<;>(try subst hc))|(with_reducible refine ji (by omega) ?_)|(simp (config := { maxSteps := 400000 }) only [↓jt,↓reduceIte,zvs,reduceCtorEq,Nat.reduceEqDiff,Nat.reduceAdd,Nat.reduceLeDiff,Nat.reduceMul,Int.reduceBNe,Int.reduceBEq,Int.reduceEq,Int.reduceNe,Int.reduceLT,Int.reduceLE,Int.reduceGT,Int.reduceGE,Int.reduceNeg,Int.reduceToNat,Nat.reduceLT,Nat.reduceSub,tab,hS1,hS2,hS3,encPr,Try.results43,jTA])|(simp (disch:=omega) only [ziw]))
    refine ok_loop (fun j : Nat => ⟨slots [(1, .int .i64 id), (2, .ptr 0 []), (4, .int .i64 0), (5, .int .i64 0), (6, .int .i64 ((endsN (m.pr.take k) 4 id : Int) + endsS 4 id ((m.pr.getD k default).fds.take j))), (7, .int .i64 ((endsN (m.pr.take k) 5 id : Int) + endsS 5 id ((m.pr.getD k default).fds.take j))), (13, encPrs m.pr), (14, .int .i64 m.pr.length), (15, .int .i64 k), (20, .agg ((m.pr.getD k default).fds.map encFd)), (21, .int .i64 j)], rows [(0, .row machSh (encM m))], 1⟩) (fun j => j ≤ 8) (fun j => 8 - j) 0 ?_ (Nat.zero_le _) (fun j hj => ?_)
    · (refine yrn [(0, 0)] false ?_ ?_<;>(repeat' (first|(with_reducible first|exact ya1|exact ya2|exact ya3|refine jx rfl (by first|rfl|assumption|(simp only [znl,znR2];(first|done|fail)))|exact ya5|exact ya7|exact jy|exact jz|refine jA ?_|refine ya9 ?_ ?_ ?_|refine jC rfl (by first|rfl|assumption|(simp only [znl,znR2];(first|done|fail)))|refine MR.agg (MRL.cons ?_ ?_)|refine MR.fn ?_|refine MRL.cons ?_ ?_|exact MRL.nil|refine jE ?_ ?_|exact jF|exact jG|refine yb1 ?_ ?_|refine MB.row ?_|refine jI ?_ ?_|exact ya8|refine jJ rfl (by first|rfl|assumption|(simp only [znl,znR2];(first|done|fail)))|refine yb2 ?_|rfl)|(simp only [znl,znR2];(first|done|fail))|(simp only [↓reduceIte,zlk,Nat.reduceEqDiff,reduceCtorEq])|(with_reducible first|refine jJ ?_ ?_|refine ya5 ?_|refine ju ?_|refine jv ?_|refine jw ?_|refine jx ?_ (by first|rfl|assumption|(simp only [znl,znR2];(first|done|fail)))|refine jC ?_ (by first|rfl|assumption|(simp only [znl,znR2];(first|done|fail)))))))
      all_goals (first | rfl | (simp [endsS]; done))
    have hUj := endsS_le 4 id ((m.pr.getD k default).fds.take j)
    have hVj := endsS_le 5 id ((m.pr.getD k default).fds.take j)
    rw [List.length_take] at hUj hVj
    by_cases hjlt : j < 8
    · obtain ⟨⟨b1, b2⟩, ⟨b3, b4⟩, b5⟩ := hsR _ (getD_mem' (show j < (m.pr.getD k default).fds.length by omega))
      have e3 := take_snoc (m.pr.getD k default).fds j (by omega)
      have e4 := endsS_snoc 4 id ((m.pr.getD k default).fds.take j) ((m.pr.getD k default).fds.getD j default)
      have e5 := endsS_snoc 5 id ((m.pr.getD k default).fds.take j) ((m.pr.getD k default).fds.getD j default)
      rw [← e3] at e4 e5
      by_cases hq : ((m.pr.getD k default).fds.getD j default).n = id
      · by_cases h4 : ((m.pr.getD k default).fds.getD j default).kind = 4
        · rw [if_pos ⟨h4, hq⟩] at e4
          rw [if_neg (by omega)] at e5
          repeat' (first|(with_reducible first|refine yrl (by constructor) ?_|refine jk (fun M hM=>?_)|(refine hM _ ?_;clear hM M)|refine xb3 (by decide) ?_|refine yqa (by assumption) ?_ ?_|refine yqb (by assumption) ?_ ?_)|((with_reducible refine je ?_)<;>(first|rfl|assumption|(simp only [znl,znR2];(first|done|fail))))|(with_reducible refine jf (by (simp only [↓reduceIte,zlk,Nat.reduceEqDiff,reduceCtorEq]);exact rfl) ?_)|((with_reducible first|refine jg (fun hc=>?_) (fun hc=>?_)|refine jh (fun hc=>?_) (fun hc=>?_))<;>(try simp (disch:=omega) only [zhb] at hc)<;>(try (exfalso;omega))<;>(try subst hc))|(with_reducible refine ji (by omega) ?_)|(simp (config := { maxSteps := 400000 }) only [↓jt,↓reduceIte,zvs,reduceCtorEq,Nat.reduceEqDiff,Nat.reduceAdd,Nat.reduceLeDiff,Nat.reduceMul,Int.reduceBNe,Int.reduceBEq,Int.reduceEq,Int.reduceNe,Int.reduceLT,Int.reduceLE,Int.reduceGT,Int.reduceGE,Int.reduceNeg,Int.reduceToNat,Nat.reduceLT,Nat.reduceSub,tab,hS1,hS2,hS3,encFd,Try.results43,jTA])|(simp (disch:=omega) only [ziw]))
          all_goals first
            | (exfalso; omega)
            | (refine xl1 (j + 1) ?_ (by show j + 1 ≤ 8; omega) (by show 8 - (j + 1) < 8 - j; omega); (refine yrn [(0, 0)] false ?_ ?_<;>(repeat' (first|(with_reducible first|exact ya1|exact ya2|exact ya3|refine jx rfl (by first|rfl|assumption|(simp only [znl,znR2];(first|done|fail)))|exact ya5|exact ya7|exact jy|exact jz|refine jA ?_|refine ya9 ?_ ?_ ?_|refine jC rfl (by first|rfl|assumption|(simp only [znl,znR2];(first|done|fail)))|refine MR.agg (MRL.cons ?_ ?_)|refine MR.fn ?_|refine MRL.cons ?_ ?_|exact MRL.nil|refine jE ?_ ?_|exact jF|exact jG|refine yb1 ?_ ?_|refine MB.row ?_|refine jI ?_ ?_|exact ya8|refine jJ rfl (by first|rfl|assumption|(simp only [znl,znR2];(first|done|fail)))|refine yb2 ?_|rfl)|(simp only [znl,znR2];(first|done|fail))|(simp only [↓reduceIte,zlk,Nat.reduceEqDiff,reduceCtorEq])|(with_reducible first|refine jJ ?_ ?_|refine ya5 ?_|refine ju ?_|refine jv ?_|refine jw ?_|refine jx ?_ (by first|rfl|assumption|(simp only [znl,znR2];(first|done|fail)))|refine jC ?_ (by first|rfl|assumption|(simp only [znl,znR2];(first|done|fail))))))); all_goals first | (rw [e4]; omega) | (rw [e5]; omega))
        · rw [if_neg (fun h => h4 h.1)] at e4
          by_cases h5 : ((m.pr.getD k default).fds.getD j default).kind = 5
          · rw [if_pos ⟨h5, hq⟩] at e5
            repeat' (first|(with_reducible first|refine yrl (by constructor) ?_|refine jk (fun M hM=>?_)|(refine hM _ ?_;clear hM M)|refine xb3 (by decide) ?_|refine yqa (by assumption) ?_ ?_|refine yqb (by assumption) ?_ ?_)|((with_reducible refine je ?_)<;>(first|rfl|assumption|(simp only [znl,znR2];(first|done|fail))))|(with_reducible refine jf (by (simp only [↓reduceIte,zlk,Nat.reduceEqDiff,reduceCtorEq]);exact rfl) ?_)|((with_reducible first|refine jg (fun hc=>?_) (fun hc=>?_)|refine jh (fun hc=>?_) (fun hc=>?_))<;>(try simp (disch:=omega) only [zhb] at hc)<;>(try (exfalso;omega))<;>(try subst hc))|(with_reducible refine ji (by omega) ?_)|(simp (config := { maxSteps := 400000 }) only [↓jt,↓reduceIte,zvs,reduceCtorEq,Nat.reduceEqDiff,Nat.reduceAdd,Nat.reduceLeDiff,Nat.reduceMul,Int.reduceBNe,Int.reduceBEq,Int.reduceEq,Int.reduceNe,Int.reduceLT,Int.reduceLE,Int.reduceGT,Int.reduceGE,Int.reduceNeg,Int.reduceToNat,Nat.reduceLT,Nat.reduceSub,tab,hS1,hS2,hS3,encFd,Try.results43,jTA])|(simp (disch:=omega) only [ziw]))
            all_goals first
              | (exfalso; omega)
              | (refine xl1 (j + 1) ?_ (by show j + 1 ≤ 8; omega) (by show 8 - (j + 1) < 8 - j; omega); (refine yrn [(0, 0)] false ?_ ?_<;>(repeat' (first|(with_reducible first|exact ya1|exact ya2|exact ya3|refine jx rfl (by first|rfl|assumption|(simp only [znl,znR2];(first|done|fail)))|exact ya5|exact ya7|exact jy|exact jz|refine jA ?_|refine ya9 ?_ ?_ ?_|refine jC rfl (by first|rfl|assumption|(simp only [znl,znR2];(first|done|fail)))|refine MR.agg (MRL.cons ?_ ?_)|refine MR.fn ?_|refine MRL.cons ?_ ?_|exact MRL.nil|refine jE ?_ ?_|exact jF|exact jG|refine yb1 ?_ ?_|refine MB.row ?_|refine jI ?_ ?_|exact ya8|refine jJ rfl (by first|rfl|assumption|(simp only [znl,znR2];(first|done|fail)))|refine yb2 ?_|rfl)|(simp only [znl,znR2];(first|done|fail))|(simp only [↓reduceIte,zlk,Nat.reduceEqDiff,reduceCtorEq])|(with_reducible first|refine jJ ?_ ?_|refine ya5 ?_|refine ju ?_|refine jv ?_|refine jw ?_|refine jx ?_ (by first|rfl|assumption|(simp only [znl,znR2];(first|done|fail)))|refine jC ?_ (by first|rfl|assumption|(simp only [znl,znR2];(first|done|fail))))))); all_goals first | (rw [e4]; omega) | (rw [e5]; omega))
          · rw [if_neg (fun h => h5 h.1)] at e5
            repeat' (first|(with_reducible first|refine yrl (by constructor) ?_|refine jk (fun M hM=>?_)|(refine hM _ ?_;clear hM M)|refine xb3 (by decide) ?_|refine yqa (by assumption) ?_ ?_|refine yqb (by assumption) ?_ ?_)|((with_reducible refine je ?_)<;>(first|rfl|assumption|(simp only [znl,znR2];(first|done|fail))))|(with_reducible refine jf (by (simp only [↓reduceIte,zlk,Nat.reduceEqDiff,reduceCtorEq]);exact rfl) ?_)|((with_reducible first|refine jg (fun hc=>?_) (fun hc=>?_)|refine jh (fun hc=>?_) (fun hc=>?_))<;>(try simp (disch:=omega) only [zhb] at hc)<;>(try (exfalso;omega))<;>(try subst hc))|(with_reducible refine ji (by omega) ?_)|(simp (config := { maxSteps := 400000 }) only [↓jt,↓reduceIte,zvs,reduceCtorEq,Nat.reduceEqDiff,Nat.reduceAdd,Nat.reduceLeDiff,Nat.reduceMul,Int.reduceBNe,Int.reduceBEq,Int.reduceEq,Int.reduceNe,Int.reduceLT,Int.reduceLE,Int.reduceGT,Int.reduceGE,Int.reduceNeg,Int.reduceToNat,Nat.reduceLT,Nat.reduceSub,tab,hS1,hS2,hS3,encFd,Try.results43,jTA])|(simp (disch:=omega) only [ziw]))
            all_goals first
              | (exfalso; omega)
              | (refine xl1 (j + 1) ?_ (by show j + 1 ≤ 8; omega) (by show 8 - (j + 1) < 8 - j; omega); (refine yrn [(0, 0)] false ?_ ?_<;>(repeat' (first|(with_reducible first|exact ya1|exact ya2|exact ya3|refine jx rfl (by first|rfl|assumption|(simp only [znl,znR2];(first|done|fail)))|exact ya5|exact ya7|exact jy|exact jz|refine jA ?_|refine ya9 ?_ ?_ ?_|refine jC rfl (by first|rfl|assumption|(simp only [znl,znR2];(first|done|fail)))|refine MR.agg (MRL.cons ?_ ?_)|refine MR.fn ?_|refine MRL.cons ?_ ?_|exact MRL.nil|refine jE ?_ ?_|exact jF|exact jG|refine yb1 ?_ ?_|refine MB.row ?_|refine jI ?_ ?_|exact ya8|refine jJ rfl (by first|rfl|assumption|(simp only [znl,znR2];(first|done|fail)))|refine yb2 ?_|rfl)|(simp only [znl,znR2];(first|done|fail))|(simp only [↓reduceIte,zlk,Nat.reduceEqDiff,reduceCtorEq])|(with_reducible first|refine jJ ?_ ?_|refine ya5 ?_|refine ju ?_|refine jv ?_|refine jw ?_|refine jx ?_ (by first|rfl|assumption|(simp only [znl,znR2];(first|done|fail)))|refine jC ?_ (by first|rfl|assumption|(simp only [znl,znR2];(first|done|fail))))))); all_goals first | (rw [e4]; omega) | (rw [e5]; omega))
      · rw [if_neg (fun h => hq h.2)] at e4 e5
        repeat' (first|(with_reducible first|refine yrl (by constructor) ?_|refine jk (fun M hM=>?_)|(refine hM _ ?_;clear hM M)|refine xb3 (by decide) ?_|refine yqa (by assumption) ?_ ?_|refine yqb (by assumption) ?_ ?_)|((with_reducible refine je ?_)<;>(first|rfl|assumption|(simp only [znl,znR2];(first|done|fail))))|(with_reducible refine jf (by (simp only [↓reduceIte,zlk,Nat.reduceEqDiff,reduceCtorEq]);exact rfl) ?_)|((with_reducible first|refine jg (fun hc=>?_) (fun hc=>?_)|refine jh (fun hc=>?_) (fun hc=>?_))<;>(try simp (disch:=omega) only [zhb] at hc)<;>(try (exfalso;omega))<;>(try subst hc))|(with_reducible refine ji (by omega) ?_)|(simp (config := { maxSteps := 400000 }) only [↓jt,↓reduceIte,zvs,reduceCtorEq,Nat.reduceEqDiff,Nat.reduceAdd,Nat.reduceLeDiff,Nat.reduceMul,Int.reduceBNe,Int.reduceBEq,Int.reduceEq,Int.reduceNe,Int.reduceLT,Int.reduceLE,Int.reduceGT,Int.reduceGE,Int.reduceNeg,Int.reduceToNat,Nat.reduceLT,Nat.reduceSub,tab,hS1,hS2,hS3,encFd,Try.results43,jTA])|(simp (disch:=omega) only [ziw]))
        all_goals first
          | (exfalso; omega)
          | (refine xl1 (j + 1) ?_ (by show j + 1 ≤ 8; omega) (by show 8 - (j + 1) < 8 - j; omega); (refine yrn [(0, 0)] false ?_ ?_<;>(repeat' (first|(with_reducible first|exact ya1|exact ya2|exact ya3|refine jx rfl (by first|rfl|assumption|(simp only [znl,znR2];(first|done|fail)))|exact ya5|exact ya7|exact jy|exact jz|refine jA ?_|refine ya9 ?_ ?_ ?_|refine jC rfl (by first|rfl|assumption|(simp only [znl,znR2];(first|done|fail)))|refine MR.agg (MRL.cons ?_ ?_)|refine MR.fn ?_|refine MRL.cons ?_ ?_|exact MRL.nil|refine jE ?_ ?_|exact jF|exact jG|refine yb1 ?_ ?_|refine MB.row ?_|refine jI ?_ ?_|exact ya8|refine jJ rfl (by first|rfl|assumption|(simp only [znl,znR2];(first|done|fail)))|refine yb2 ?_|rfl)|(simp only [znl,znR2];(first|done|fail))|(simp only [↓reduceIte,zlk,Nat.reduceEqDiff,reduceCtorEq])|(with_reducible first|refine jJ ?_ ?_|refine ya5 ?_|refine ju ?_|refine jv ?_|refine jw ?_|refine jx ?_ (by first|rfl|assumption|(simp only [znl,znR2];(first|done|fail)))|refine jC ?_ (by first|rfl|assumption|(simp only [znl,znR2];(first|done|fail))))))); all_goals first | (rw [e4]; omega) | (rw [e5]; omega))
    · obtain rfl : j = 8 := by omega
      have e5 : (m.pr.getD k default).fds.take 8 = (m.pr.getD k default).fds := List.take_of_length_le (by omega)
      rw [e5] at *
      repeat' (first|(with_reducible first|refine yrl (by constructor) ?_|refine jk (fun M hM=>?_)|(refine hM _ ?_;clear hM M)|refine xb3 (by decide) ?_|refine yqa (by assumption) ?_ ?_|refine yqb (by assumption) ?_ ?_)|((with_reducible refine je ?_)<;>(first|rfl|assumption|(simp only [znl,znR2];(first|done|fail))))|(with_reducible refine jf (by (simp only [↓reduceIte,zlk,Nat.reduceEqDiff,reduceCtorEq]);exact rfl) ?_)|((with_reducible first|refine jg (fun hc=>?_) (fun hc=>?_)|refine jh (fun hc=>?_) (fun hc=>?_))<;>(try simp (disch:=omega) only [zhb] at hc)<;>(try (exfalso;omega))<;>(try subst hc))|(with_reducible refine ji (by omega) ?_)|(simp (config := { maxSteps := 400000 }) only [↓jt,↓reduceIte,zvs,reduceCtorEq,Nat.reduceEqDiff,Nat.reduceAdd,Nat.reduceLeDiff,Nat.reduceMul,Int.reduceBNe,Int.reduceBEq,Int.reduceEq,Int.reduceNe,Int.reduceLT,Int.reduceLE,Int.reduceGT,Int.reduceGE,Int.reduceNeg,Int.reduceToNat,Nat.reduceLT,Nat.reduceSub,tab,hS1,hS2,hS3,Try.results43,jTA])|(simp (disch:=omega) only [ziw]))
      all_goals first
        | (refine xl1 (k + 1) ?_ (by show k + 1 ≤ m.pr.length; omega) (by show m.pr.length - (k + 1) < m.pr.length - k; omega); (refine yrn [(0, 0)] false ?_ ?_<;>(repeat' (first|(with_reducible first|exact ya1|exact ya2|exact ya3|refine jx rfl (by first|rfl|assumption|(simp only [znl,znR2];(first|done|fail)))|exact ya5|exact ya7|exact jy|exact jz|refine jA ?_|refine ya9 ?_ ?_ ?_|refine jC rfl (by first|rfl|assumption|(simp only [znl,znR2];(first|done|fail)))|refine MR.agg (MRL.cons ?_ ?_)|refine MR.fn ?_|refine MRL.cons ?_ ?_|exact MRL.nil|refine jE ?_ ?_|exact jF|exact jG|refine yb1 ?_ ?_|refine MB.row ?_|refine jI ?_ ?_|exact ya8|refine jJ rfl (by first|rfl|assumption|(simp only [znl,znR2];(first|done|fail)))|refine yb2 ?_|rfl)|(simp only [znl,znR2];(first|done|fail))|(simp only [↓reduceIte,zlk,Nat.reduceEqDiff,reduceCtorEq])|(with_reducible first|refine jJ ?_ ?_|refine ya5 ?_|refine ju ?_|refine jv ?_|refine jw ?_|refine jx ?_ (by first|rfl|assumption|(simp only [znl,znR2];(first|done|fail)))|refine jC ?_ (by first|rfl|assumption|(simp only [znl,znR2];(first|done|fail))))))); all_goals first | (rw [e2]; omega) | (rw [e2']; omega))
  · obtain rfl : k = m.pr.length := by omega
    rw [List.take_length] at *
    repeat' (first|(with_reducible first|refine yrl (by constructor) ?_|refine jk (fun M hM=>?_)|(refine hM _ ?_;clear hM M)|refine xb3 (by decide) ?_|refine yqa (by assumption) ?_ ?_|refine yqb (by assumption) ?_ ?_)|((with_reducible refine je ?_)<;>(first|rfl|assumption|(simp only [znl,znR2];(first|done|fail))))|(with_reducible refine jf (by (simp only [↓reduceIte,zlk,Nat.reduceEqDiff,reduceCtorEq]);exact rfl) ?_)|((with_reducible first|refine jg (fun hc=>?_) (fun hc=>?_)|refine jh (fun hc=>?_) (fun hc=>?_))<;>(try simp (disch:=omega) only [zhb] at hc)<;>(try (exfalso;omega))<;>(try subst hc))|(with_reducible refine ji (by omega) ?_)|(simp (config := { maxSteps := 400000 }) only [↓jt,↓reduceIte,zvs,reduceCtorEq,Nat.reduceEqDiff,Nat.reduceAdd,Nat.reduceLeDiff,Nat.reduceMul,Int.reduceBNe,Int.reduceBEq,Int.reduceEq,Int.reduceNe,Int.reduceLT,Int.reduceLE,Int.reduceGT,Int.reduceGE,Int.reduceNeg,Int.reduceToNat,Nat.reduceLT,Nat.reduceSub,tab,List.take_length,Try.results43,jTA])|(simp (disch:=omega) only [ziw]))
    all_goals first
      | (simp only [zrds]; rw [hR, hT]; done)
      | (simp only [zrds]; omega)
theorem rends_spec (m : Mach) (hm : MFit 20000 m) (id : Int) (hf : i64R id) : Spec Try.prog 44 [encM m, .int .i64 id] (.tup [.int .i64 (endsN m.pr 4 id), .int .i64 (endsN m.pr 5 id)]) := by
  obtain ⟨R, hR⟩ : ∃ R, R = endsN m.pr 4 id := ⟨_, rfl⟩
  obtain ⟨T, hT⟩ : ∃ T, T = endsN m.pr 5 id := ⟨_, rfl⟩
  rw [← hR, ← hT]
  have hl := hm.pr
  have hpR := hm.prR
  have hU : ∀ q k, k ≤ m.pr.length → endsN (m.pr.take k) q id ≤ 8 * k := fun q k hk => by
    have := endsN_le q id (m.pr.take k) fun p hp => (hpR p (List.mem_of_mem_take hp)).fds
    rw [List.length_take] at this
    omega
  obtain ⟨hp1, hp2⟩ := hf
  refine spec_ok Try.func44 rfl rfl (by kernel_rfl) (k := 2) rfl (by decide) ?_
  repeat' (first|(with_reducible first|refine yrl (by constructor) ?_|refine jk (fun M hM=>?_)|(refine hM _ ?_;clear hM M)|refine xb3 (by decide) ?_|refine yqa (by assumption) ?_ ?_|refine yqb (by assumption) ?_ ?_)|((with_reducible refine je ?_)<;>(first|rfl|assumption|(simp only [znl,znR2];(first|done|fail))))|(with_reducible refine jf (by (simp only [↓reduceIte,zlk,Nat.reduceEqDiff,reduceCtorEq]);exact rfl) ?_)|((with_reducible first|refine jg (fun hc=>?_) (fun hc=>?_)|refine jh (fun hc=>?_) (fun hc=>?_))<;>(try simp (disch:=omega) only [zhb] at hc)<;>(try (exfalso;omega))<;>(try subst hc))|(with_reducible refine ji (by omega) ?_)|(simp (config := { maxSteps := 400000 }) only [↓jt,↓reduceIte,zvs,reduceCtorEq,Nat.reduceEqDiff,Nat.reduceAdd,Nat.reduceLeDiff,Nat.reduceMul,Int.reduceBNe,Int.reduceBEq,Int.reduceEq,Int.reduceNe,Int.reduceLT,Int.reduceLE,Int.reduceGT,Int.reduceGE,Int.reduceNeg,Int.reduceToNat,Nat.reduceLT,Nat.reduceSub,tab,Try.results44,jTA])|(simp (disch:=omega) only [ziw]))
  refine ok_loop (fun k : Nat => ⟨slots [(1, .int .i64 id), (2, .ptr 0 []), (4, .int .i64 0), (5, .int .i64 0), (6, .int .i64 (endsN (m.pr.take k) 4 id)), (7, .int .i64 (endsN (m.pr.take k) 5 id)), (13, encPrs m.pr), (14, .int .i64 m.pr.length), (15, .int .i64 k)], rows [(0, .row machSh (encM m))], 1⟩) (fun k => k ≤ m.pr.length) (fun k => m.pr.length - k) 0 ?_ (Nat.zero_le _) (fun k hk => ?_)
  · (refine yrn [(0, 0)] false ?_ ?_<;>(repeat' (first|(with_reducible first|exact ya1|exact ya2|exact ya3|refine jx rfl (by first|rfl|assumption|(simp only [znl,znR2];(first|done|fail)))|exact ya5|exact ya7|exact jy|exact jz|refine jA ?_|refine ya9 ?_ ?_ ?_|refine jC rfl (by first|rfl|assumption|(simp only [znl,znR2];(first|done|fail)))|refine MR.agg (MRL.cons ?_ ?_)|refine MR.fn ?_|refine MRL.cons ?_ ?_|exact MRL.nil|refine jE ?_ ?_|exact jF|exact jG|refine yb1 ?_ ?_|refine MB.row ?_|refine jI ?_ ?_|exact ya8|refine jJ rfl (by first|rfl|assumption|(simp only [znl,znR2];(first|done|fail)))|refine yb2 ?_|rfl)|(simp only [znl,znR2];(first|done|fail))|(simp only [↓reduceIte,zlk,Nat.reduceEqDiff,reduceCtorEq])|(with_reducible first|refine jJ ?_ ?_|refine ya5 ?_|refine ju ?_|refine jv ?_|refine jw ?_|refine jx ?_ (by first|rfl|assumption|(simp only [znl,znR2];(first|done|fail)))|refine jC ?_ (by first|rfl|assumption|(simp only [znl,znR2];(first|done|fail)))))))
    all_goals (first | rfl | (simp [endsN]; done))
  have hUk := hU 4 k hk
  have hVk := hU 5 k hk
  by_cases hlt : k < m.pr.length
  · have hb := hpR _ (getD_mem' hlt)
    obtain ⟨hS1, hS2, hS3⟩ := pr3 hb
    have e1 := take_snoc m.pr k hlt
    have e2 := endsN_snoc (m.pr.take k) (m.pr.getD k default) 4 id
    have e2' := endsN_snoc (m.pr.take k) (m.pr.getD k default) 5 id
    rw [← e1] at e2 e2'
    have hsl := hb.fds
    have hsR := hb.fdsR
    repeat' (first|(with_reducible first|refine yrl (by constructor) ?_|refine jk (fun M hM=>?_)|(refine hM _ ?_;clear hM M)|refine xb3 (by decide) ?_|refine yqa (by assumption) ?_ ?_|refine yqb (by assumption) ?_ ?_)|((with_reducible refine je ?_)<;>(first|rfl|assumption|(simp only [znl,znR2];(first|done|fail))))|(with_reducible refine jf (by (simp only [↓reduceIte,zlk,Nat.reduceEqDiff,reduceCtorEq]);exact rfl) ?_)|((with_reducible first|refine jg (fun hc=>?_) (fun hc=>?_)|refine jh (fun hc=>?_) (fun hc=>?_))<;>(try simp (disch:=omega) only [zhb] at hc)<;>(try (exfalso;omega))<;>(try subst hc))|(with_reducible refine ji (by omega) ?_)|(simp (config := { maxSteps := 400000 }) only [↓jt,↓reduceIte,zvs,reduceCtorEq,Nat.reduceEqDiff,Nat.reduceAdd,Nat.reduceLeDiff,Nat.reduceMul,Int.reduceBNe,Int.reduceBEq,Int.reduceEq,Int.reduceNe,Int.reduceLT,Int.reduceLE,Int.reduceGT,Int.reduceGE,Int.reduceNeg,Int.reduceToNat,Nat.reduceLT,Nat.reduceSub,tab,hS1,hS2,hS3,encPr,Try.results44,jTA])|(simp (disch:=omega) only [ziw]))
    refine ok_loop (fun j : Nat => ⟨slots [(1, .int .i64 id), (2, .ptr 0 []), (4, .int .i64 0), (5, .int .i64 0), (6, .int .i64 ((endsN (m.pr.take k) 4 id : Int) + endsS 4 id ((m.pr.getD k default).fds.take j))), (7, .int .i64 ((endsN (m.pr.take k) 5 id : Int) + endsS 5 id ((m.pr.getD k default).fds.take j))), (13, encPrs m.pr), (14, .int .i64 m.pr.length), (15, .int .i64 k), (20, .agg ((m.pr.getD k default).fds.map encFd)), (21, .int .i64 j)], rows [(0, .row machSh (encM m))], 1⟩) (fun j => j ≤ 8) (fun j => 8 - j) 0 ?_ (Nat.zero_le _) (fun j hj => ?_)
    · (refine yrn [(0, 0)] false ?_ ?_<;>(repeat' (first|(with_reducible first|exact ya1|exact ya2|exact ya3|refine jx rfl (by first|rfl|assumption|(simp only [znl,znR2];(first|done|fail)))|exact ya5|exact ya7|exact jy|exact jz|refine jA ?_|refine ya9 ?_ ?_ ?_|refine jC rfl (by first|rfl|assumption|(simp only [znl,znR2];(first|done|fail)))|refine MR.agg (MRL.cons ?_ ?_)|refine MR.fn ?_|refine MRL.cons ?_ ?_|exact MRL.nil|refine jE ?_ ?_|exact jF|exact jG|refine yb1 ?_ ?_|refine MB.row ?_|refine jI ?_ ?_|exact ya8|refine jJ rfl (by first|rfl|assumption|(simp only [znl,znR2];(first|done|fail)))|refine yb2 ?_|rfl)|(simp only [znl,znR2];(first|done|fail))|(simp only [↓reduceIte,zlk,Nat.reduceEqDiff,reduceCtorEq])|(with_reducible first|refine jJ ?_ ?_|refine ya5 ?_|refine ju ?_|refine jv ?_|refine jw ?_|refine jx ?_ (by first|rfl|assumption|(simp only [znl,znR2];(first|done|fail)))|refine jC ?_ (by first|rfl|assumption|(simp only [znl,znR2];(first|done|fail)))))))
      all_goals (first | rfl | (simp [endsS]; done))
    have hUj := endsS_le 4 id ((m.pr.getD k default).fds.take j)
    have hVj := endsS_le 5 id ((m.pr.getD k default).fds.take j)
    rw [List.length_take] at hUj hVj
    by_cases hjlt : j < 8
    · obtain ⟨⟨b1, b2⟩, ⟨b3, b4⟩, b5⟩ := hsR _ (getD_mem' (show j < (m.pr.getD k default).fds.length by omega))
      have e3 := take_snoc (m.pr.getD k default).fds j (by omega)
      have e4 := endsS_snoc 4 id ((m.pr.getD k default).fds.take j) ((m.pr.getD k default).fds.getD j default)
      have e5 := endsS_snoc 5 id ((m.pr.getD k default).fds.take j) ((m.pr.getD k default).fds.getD j default)
      rw [← e3] at e4 e5
      by_cases hq : ((m.pr.getD k default).fds.getD j default).n = id
      · by_cases h4 : ((m.pr.getD k default).fds.getD j default).kind = 4
        · rw [if_pos ⟨h4, hq⟩] at e4
          rw [if_neg (by omega)] at e5
          repeat' (first|(with_reducible first|refine yrl (by constructor) ?_|refine jk (fun M hM=>?_)|(refine hM _ ?_;clear hM M)|refine xb3 (by decide) ?_|refine yqa (by assumption) ?_ ?_|refine yqb (by assumption) ?_ ?_)|((with_reducible refine je ?_)<;>(first|rfl|assumption|(simp only [znl,znR2];(first|done|fail))))|(with_reducible refine jf (by (simp only [↓reduceIte,zlk,Nat.reduceEqDiff,reduceCtorEq]);exact rfl) ?_)|((with_reducible first|refine jg (fun hc=>?_) (fun hc=>?_)|refine jh (fun hc=>?_) (fun hc=>?_))<;>(try simp (disch:=omega) only [zhb] at hc)<;>(try (exfalso;omega))<;>(try subst hc))|(with_reducible refine ji (by omega) ?_)|(simp (config := { maxSteps := 400000 }) only [↓jt,↓reduceIte,zvs,reduceCtorEq,Nat.reduceEqDiff,Nat.reduceAdd,Nat.reduceLeDiff,Nat.reduceMul,Int.reduceBNe,Int.reduceBEq,Int.reduceEq,Int.reduceNe,Int.reduceLT,Int.reduceLE,Int.reduceGT,Int.reduceGE,Int.reduceNeg,Int.reduceToNat,Nat.reduceLT,Nat.reduceSub,tab,hS1,hS2,hS3,encFd,Try.results44,jTA])|(simp (disch:=omega) only [ziw]))
          all_goals first
            | (exfalso; omega)
            | (refine xl1 (j + 1) ?_ (by show j + 1 ≤ 8; omega) (by show 8 - (j + 1) < 8 - j; omega); (refine yrn [(0, 0)] false ?_ ?_<;>(repeat' (first|(with_reducible first|exact ya1|exact ya2|exact ya3|refine jx rfl (by first|rfl|assumption|(simp only [znl,znR2];(first|done|fail)))|exact ya5|exact ya7|exact jy|exact jz|refine jA ?_|refine ya9 ?_ ?_ ?_|refine jC rfl (by first|rfl|assumption|(simp only [znl,znR2];(first|done|fail)))|refine MR.agg (MRL.cons ?_ ?_)|refine MR.fn ?_|refine MRL.cons ?_ ?_|exact MRL.nil|refine jE ?_ ?_|exact jF|exact jG|refine yb1 ?_ ?_|refine MB.row ?_|refine jI ?_ ?_|exact ya8|refine jJ rfl (by first|rfl|assumption|(simp only [znl,znR2];(first|done|fail)))|refine yb2 ?_|rfl)|(simp only [znl,znR2];(first|done|fail))|(simp only [↓reduceIte,zlk,Nat.reduceEqDiff,reduceCtorEq])|(with_reducible first|refine jJ ?_ ?_|refine ya5 ?_|refine ju ?_|refine jv ?_|refine jw ?_|refine jx ?_ (by first|rfl|assumption|(simp only [znl,znR2];(first|done|fail)))|refine jC ?_ (by first|rfl|assumption|(simp only [znl,znR2];(first|done|fail))))))); all_goals first | (rw [e4]; omega) | (rw [e5]; omega))
        · rw [if_neg (fun h => h4 h.1)] at e4
          by_cases h5 : ((m.pr.getD k default).fds.getD j default).kind = 5
          · rw [if_pos ⟨h5, hq⟩] at e5
            repeat' (first|(with_reducible first|refine yrl (by constructor) ?_|refine jk (fun M hM=>?_)|(refine hM _ ?_;clear hM M)|refine xb3 (by decide) ?_|refine yqa (by assumption) ?_ ?_|refine yqb (by assumption) ?_ ?_)|((with_reducible refine je ?_)<;>(first|rfl|assumption|(simp only [znl,znR2];(first|done|fail))))|(with_reducible refine jf (by (simp only [↓reduceIte,zlk,Nat.reduceEqDiff,reduceCtorEq]);exact rfl) ?_)|((with_reducible first|refine jg (fun hc=>?_) (fun hc=>?_)|refine jh (fun hc=>?_) (fun hc=>?_))<;>(try simp (disch:=omega) only [zhb] at hc)<;>(try (exfalso;omega))<;>(try subst hc))|(with_reducible refine ji (by omega) ?_)|(simp (config := { maxSteps := 400000 }) only [↓jt,↓reduceIte,zvs,reduceCtorEq,Nat.reduceEqDiff,Nat.reduceAdd,Nat.reduceLeDiff,Nat.reduceMul,Int.reduceBNe,Int.reduceBEq,Int.reduceEq,Int.reduceNe,Int.reduceLT,Int.reduceLE,Int.reduceGT,Int.reduceGE,Int.reduceNeg,Int.reduceToNat,Nat.reduceLT,Nat.reduceSub,tab,hS1,hS2,hS3,encFd,Try.results44,jTA])|(simp (disch:=omega) only [ziw]))
            all_goals first
              | (exfalso; omega)
              | (refine xl1 (j + 1) ?_ (by show j + 1 ≤ 8; omega) (by show 8 - (j + 1) < 8 - j; omega); (refine yrn [(0, 0)] false ?_ ?_<;>(repeat' (first|(with_reducible first|exact ya1|exact ya2|exact ya3|refine jx rfl (by first|rfl|assumption|(simp only [znl,znR2];(first|done|fail)))|exact ya5|exact ya7|exact jy|exact jz|refine jA ?_|refine ya9 ?_ ?_ ?_|refine jC rfl (by first|rfl|assumption|(simp only [znl,znR2];(first|done|fail)))|refine MR.agg (MRL.cons ?_ ?_)|refine MR.fn ?_|refine MRL.cons ?_ ?_|exact MRL.nil|refine jE ?_ ?_|exact jF|exact jG|refine yb1 ?_ ?_|refine MB.row ?_|refine jI ?_ ?_|exact ya8|refine jJ rfl (by first|rfl|assumption|(simp only [znl,znR2];(first|done|fail)))|refine yb2 ?_|rfl)|(simp only [znl,znR2];(first|done|fail))|(simp only [↓reduceIte,zlk,Nat.reduceEqDiff,reduceCtorEq])|(with_reducible first|refine jJ ?_ ?_|refine ya5 ?_|refine ju ?_|refine jv ?_|refine jw ?_|refine jx ?_ (by first|rfl|assumption|(simp only [znl,znR2];(first|done|fail)))|refine jC ?_ (by first|rfl|assumption|(simp only [znl,znR2];(first|done|fail))))))); all_goals first | (rw [e4]; omega) | (rw [e5]; omega))
          · rw [if_neg (fun h => h5 h.1)] at e5
            repeat' (first|(with_reducible first|refine yrl (by constructor) ?_|refine jk (fun M hM=>?_)|(refine hM _ ?_;clear hM M)|refine xb3 (by decide) ?_|refine yqa (by assumption) ?_ ?_|refine yqb (by assumption) ?_ ?_)|((with_reducible refine je ?_)<;>(first|rfl|assumption|(simp only [znl,znR2];(first|done|fail))))|(with_reducible refine jf (by (simp only [↓reduceIte,zlk,Nat.reduceEqDiff,reduceCtorEq]);exact rfl) ?_)|((with_reducible first|refine jg (fun hc=>?_) (fun hc=>?_)|refine jh (fun hc=>?_) (fun hc=>?_))<;>(try simp (disch:=omega) only [zhb] at hc)<;>(try (exfalso;omega))<;>(try subst hc))|(with_reducible refine ji (by omega) ?_)|(simp (config := { maxSteps := 400000 }) only [↓jt,↓reduceIte,zvs,reduceCtorEq,Nat.reduceEqDiff,Nat.reduceAdd,Nat.reduceLeDiff,Nat.reduceMul,Int.reduceBNe,Int.reduceBEq,Int.reduceEq,Int.reduceNe,Int.reduceLT,Int.reduceLE,Int.reduceGT,Int.reduceGE,Int.reduceNeg,Int.reduceToNat,Nat.reduceLT,Nat.reduceSub,tab,hS1,hS2,hS3,encFd,Try.results44,jTA])|(simp (disch:=omega) only [ziw]))
            all_goals first
              | (exfalso; omega)
              | (refine xl1 (j + 1) ?_ (by show j + 1 ≤ 8; omega) (by show 8 - (j + 1) < 8 - j; omega); (refine yrn [(0, 0)] false ?_ ?_<;>(repeat' (first|(with_reducible first|exact ya1|exact ya2|exact ya3|refine jx rfl (by first|rfl|assumption|(simp only [znl,znR2];(first|done|fail)))|exact ya5|exact ya7|exact jy|exact jz|refine jA ?_|refine ya9 ?_ ?_ ?_|refine jC rfl (by first|rfl|assumption|(simp only [znl,znR2];(first|done|fail)))|refine MR.agg (MRL.cons ?_ ?_)|refine MR.fn ?_|refine MRL.cons ?_ ?_|exact MRL.nil|refine jE ?_ ?_|exact jF|exact jG|refine yb1 ?_ ?_|refine MB.row ?_|refine jI ?_ ?_|exact ya8|refine jJ rfl (by first|rfl|assumption|(simp only [znl,znR2];(first|done|fail)))|refine yb2 ?_|rfl)|(simp only [znl,znR2];(first|done|fail))|(simp only [↓reduceIte,zlk,Nat.reduceEqDiff,reduceCtorEq])|(with_reducible first|refine jJ ?_ ?_|refine ya5 ?_|refine ju ?_|refine jv ?_|refine jw ?_|refine jx ?_ (by first|rfl|assumption|(simp only [znl,znR2];(first|done|fail)))|refine jC ?_ (by first|rfl|assumption|(simp only [znl,znR2];(first|done|fail))))))); all_goals first | (rw [e4]; omega) | (rw [e5]; omega))
      · rw [if_neg (fun h => hq h.2)] at e4 e5
        repeat' (first|(with_reducible first|refine yrl (by constructor) ?_|refine jk (fun M hM=>?_)|(refine hM _ ?_;clear hM M)|refine xb3 (by decide) ?_|refine yqa (by assumption) ?_ ?_|refine yqb (by assumption) ?_ ?_)|((with_reducible refine je ?_)<;>(first|rfl|assumption|(simp only [znl,znR2];(first|done|fail))))|(with_reducible refine jf (by (simp only [↓reduceIte,zlk,Nat.reduceEqDiff,reduceCtorEq]);exact rfl) ?_)|((with_reducible first|refine jg (fun hc=>?_) (fun hc=>?_)|refine jh (fun hc=>?_) (fun hc=>?_))<;>(try simp (disch:=omega) only [zhb] at hc)<;>(try (exfalso;omega))<;>(try subst hc))|(with_reducible refine ji (by omega) ?_)|(simp (config := { maxSteps := 400000 }) only [↓jt,↓reduceIte,zvs,reduceCtorEq,Nat.reduceEqDiff,Nat.reduceAdd,Nat.reduceLeDiff,Nat.reduceMul,Int.reduceBNe,Int.reduceBEq,Int.reduceEq,Int.reduceNe,Int.reduceLT,Int.reduceLE,Int.reduceGT,Int.reduceGE,Int.reduceNeg,Int.reduceToNat,Nat.reduceLT,Nat.reduceSub,tab,hS1,hS2,hS3,encFd,Try.results44,jTA])|(simp (disch:=omega) only [ziw]))
        all_goals first
          | (exfalso; omega)
          | (refine xl1 (j + 1) ?_ (by show j + 1 ≤ 8; omega) (by show 8 - (j + 1) < 8 - j; omega); (refine yrn [(0, 0)] false ?_ ?_<;>(repeat' (first|(with_reducible first|exact ya1|exact ya2|exact ya3|refine jx rfl (by first|rfl|assumption|(simp only [znl,znR2];(first|done|fail)))|exact ya5|exact ya7|exact jy|exact jz|refine jA ?_|refine ya9 ?_ ?_ ?_|refine jC rfl (by first|rfl|assumption|(simp only [znl,znR2];(first|done|fail)))|refine MR.agg (MRL.cons ?_ ?_)|refine MR.fn ?_|refine MRL.cons ?_ ?_|exact MRL.nil|refine jE ?_ ?_|exact jF|exact jG|refine yb1 ?_ ?_|refine MB.row ?_|refine jI ?_ ?_|exact ya8|refine jJ rfl (by first|rfl|assumption|(simp only [znl,znR2];(first|done|fail)))|refine yb2 ?_|rfl)|(simp only [znl,znR2];(first|done|fail))|(simp only [↓reduceIte,zlk,Nat.reduceEqDiff,reduceCtorEq])|(with_reducible first|refine jJ ?_ ?_|refine ya5 ?_|refine ju ?_|refine jv ?_|refine jw ?_|refine jx ?_ (by first|rfl|assumption|(simp only [znl,znR2];(first|done|fail)))|refine jC ?_ (by first|rfl|assumption|(simp only [znl,znR2];(first|done|fail))))))); all_goals first | (rw [e4]; omega) | (rw [e5]; omega))
    · obtain rfl : j = 8 := by omega
      have e5 : (m.pr.getD k default).fds.take 8 = (m.pr.getD k default).fds := List.take_of_length_le (by omega)
      rw [e5] at *
      repeat' (first|(with_reducible first|refine yrl (by constructor) ?_|refine jk (fun M hM=>?_)|(refine hM _ ?_;clear hM M)|refine xb3 (by decide) ?_|refine yqa (by assumption) ?_ ?_|refine yqb (by assumption) ?_ ?_)|((with_reducible refine je ?_)<;>(first|rfl|assumption|(simp only [znl,znR2];(first|done|fail))))|(with_reducible refine jf (by (simp only [↓reduceIte,zlk,Nat.reduceEqDiff,reduceCtorEq]);exact rfl) ?_)|((with_reducible first|refine jg (fun hc=>?_) (fun hc=>?_)|refine jh (fun hc=>?_) (fun hc=>?_))<;>(try simp (disch:=omega) only [zhb] at hc)<;>(try (exfalso;omega))<;>(try subst hc))|(with_reducible refine ji (by omega) ?_)|(simp (config := { maxSteps := 400000 }) only [↓jt,↓reduceIte,zvs,reduceCtorEq,Nat.reduceEqDiff,Nat.reduceAdd,Nat.reduceLeDiff,Nat.reduceMul,Int.reduceBNe,Int.reduceBEq,Int.reduceEq,Int.reduceNe,Int.reduceLT,Int.reduceLE,Int.reduceGT,Int.reduceGE,Int.reduceNeg,Int.reduceToNat,Nat.reduceLT,Nat.reduceSub,tab,hS1,hS2,hS3,Try.results44,jTA])|(simp (disch:=omega) only [ziw]))
      all_goals first
        | (refine xl1 (k + 1) ?_ (by show k + 1 ≤ m.pr.length; omega) (by show m.pr.length - (k + 1) < m.pr.length - k; omega); (refine yrn [(0, 0)] false ?_ ?_<;>(repeat' (first|(with_reducible first|exact ya1|exact ya2|exact ya3|refine jx rfl (by first|rfl|assumption|(simp only [znl,znR2];(first|done|fail)))|exact ya5|exact ya7|exact jy|exact jz|refine jA ?_|refine ya9 ?_ ?_ ?_|refine jC rfl (by first|rfl|assumption|(simp only [znl,znR2];(first|done|fail)))|refine MR.agg (MRL.cons ?_ ?_)|refine MR.fn ?_|refine MRL.cons ?_ ?_|exact MRL.nil|refine jE ?_ ?_|exact jF|exact jG|refine yb1 ?_ ?_|refine MB.row ?_|refine jI ?_ ?_|exact ya8|refine jJ rfl (by first|rfl|assumption|(simp only [znl,znR2];(first|done|fail)))|refine yb2 ?_|rfl)|(simp only [znl,znR2];(first|done|fail))|(simp only [↓reduceIte,zlk,Nat.reduceEqDiff,reduceCtorEq])|(with_reducible first|refine jJ ?_ ?_|refine ya5 ?_|refine ju ?_|refine jv ?_|refine jw ?_|refine jx ?_ (by first|rfl|assumption|(simp only [znl,znR2];(first|done|fail)))|refine jC ?_ (by first|rfl|assumption|(simp only [znl,znR2];(first|done|fail))))))); all_goals first | (rw [e2]; omega) | (rw [e2']; omega))
  · obtain rfl : k = m.pr.length := by omega
    rw [List.take_length] at *
    repeat' (first|(with_reducible first|refine yrl (by constructor) ?_|refine jk (fun M hM=>?_)|(refine hM _ ?_;clear hM M)|refine xb3 (by decide) ?_|refine yqa (by assumption) ?_ ?_|refine yqb (by assumption) ?_ ?_)|((with_reducible refine je ?_)<;>(first|rfl|assumption|(simp only [znl,znR2];(first|done|fail))))|(with_reducible refine jf (by (simp only [↓reduceIte,zlk,Nat.reduceEqDiff,reduceCtorEq]);exact rfl) ?_)|((with_reducible first|refine jg (fun hc=>?_) (fun hc=>?_)|refine jh (fun hc=>?_) (fun hc=>?_))<;>(try simp (disch:=omega) only [zhb] at hc)<;>(try (exfalso;omega))<;>(try subst hc))|(with_reducible refine ji (by omega) ?_)|(simp (config := { maxSteps := 400000 }) only [↓jt,↓reduceIte,zvs,reduceCtorEq,Nat.reduceEqDiff,Nat.reduceAdd,Nat.reduceLeDiff,Nat.reduceMul,Int.reduceBNe,Int.reduceBEq,Int.reduceEq,Int.reduceNe,Int.reduceLT,Int.reduceLE,Int.reduceGT,Int.reduceGE,Int.reduceNeg,Int.reduceToNat,Nat.reduceLT,Nat.reduceSub,tab,List.take_length,Try.results44,jTA])|(simp (disch:=omega) only [ziw]))
    all_goals first
      | (simp only [zrds]; rw [hR, hT]; done)
      | (simp only [zrds]; omega)
theorem spipe_spec (m : Mach) (hm : MFit 20000 m) (id : Int) (hp : i64R id) : Spec Try.prog 32 [encM m, .int .i64 id] (pipeV (pipeO m.pipes id)) := by
  have hl := hm.pipes
  have hpl := place_spec m hm id hp
  rcases pipe_cases m.pipes id with ⟨h1, h2⟩ | ⟨k, hk, h1, h2, h3⟩
  · rw [h1] at hpl
    rw [h2]
    simp only [pipeV]
    refine spec_ok Try.func32 rfl rfl (by kernel_rfl) (k := 2) rfl (by decide) ?_
    repeat' (first|(with_reducible first|refine yrl (by constructor) ?_|refine jk (fun M hM=>?_)|(refine hM _ ?_;clear hM M)|refine xb3 (by decide) ?_|refine yqa (by assumption) ?_ ?_|refine yqb (by assumption) ?_ ?_)|((with_reducible refine je ?_)<;>(first|rfl|assumption|(simp only [znl,znR2];(first|done|fail))))|(with_reducible refine jf (by (simp only [↓reduceIte,zlk,Nat.reduceEqDiff,reduceCtorEq]);exact rfl) ?_)|((with_reducible first|refine jg (fun hc=>?_) (fun hc=>?_)|refine jh (fun hc=>?_) (fun hc=>?_))<;>(try simp (disch:=omega) only [zhb] at hc)<;>(try (exfalso;omega))<;>(try subst hc))|(with_reducible refine ji (by omega) ?_)|(simp (config := { maxSteps := 400000 }) only [↓jt,↓reduceIte,zvs,reduceCtorEq,Nat.reduceEqDiff,Nat.reduceAdd,Nat.reduceLeDiff,Nat.reduceMul,Int.reduceBNe,Int.reduceBEq,Int.reduceEq,Int.reduceNe,Int.reduceLT,Int.reduceLE,Int.reduceGT,Int.reduceGE,Int.reduceNeg,Int.reduceToNat,Nat.reduceLT,Nat.reduceSub,tab,Try.results32,jTA])|(simp (disch:=omega) only [ziw]))
    all_goals first
      | (exfalso; omega)
      | (simp only [zrds]; done)
  · rw [h1] at hpl
    rw [h2]
    simp only [pipeV]
    refine spec_ok Try.func32 rfl rfl (by kernel_rfl) (k := 2) rfl (by decide) ?_
    repeat' (first|(with_reducible first|refine yrl (by constructor) ?_|refine jk (fun M hM=>?_)|(refine hM _ ?_;clear hM M)|refine xb3 (by decide) ?_|refine yqa (by assumption) ?_ ?_|refine yqb (by assumption) ?_ ?_)|((with_reducible refine je ?_)<;>(first|rfl|assumption|(simp only [znl,znR2];(first|done|fail))))|(with_reducible refine jf (by (simp only [↓reduceIte,zlk,Nat.reduceEqDiff,reduceCtorEq]);exact rfl) ?_)|((with_reducible first|refine jg (fun hc=>?_) (fun hc=>?_)|refine jh (fun hc=>?_) (fun hc=>?_))<;>(try simp (disch:=omega) only [zhb] at hc)<;>(try (exfalso;omega))<;>(try subst hc))|(with_reducible refine ji (by omega) ?_)|(simp (config := { maxSteps := 400000 }) only [↓jt,↓reduceIte,zvs,reduceCtorEq,Nat.reduceEqDiff,Nat.reduceAdd,Nat.reduceLeDiff,Nat.reduceMul,Int.reduceBNe,Int.reduceBEq,Int.reduceEq,Int.reduceNe,Int.reduceLT,Int.reduceLE,Int.reduceGT,Int.reduceGE,Int.reduceNeg,Int.reduceToNat,Nat.reduceLT,Nat.reduceSub,tab,encPi,Try.results32,jTA])|(simp (disch:=omega) only [ziw]))
    all_goals first
      | (exfalso; omega)
      | (simp only [zrds]; done)
end Go.Proofs.Ytginpdejpibdjaa.V
end
