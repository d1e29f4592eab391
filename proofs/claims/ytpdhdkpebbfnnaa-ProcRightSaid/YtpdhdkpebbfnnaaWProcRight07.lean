/-
  Parts of the proof of ProcRight: NH, NG, VregZ, NI, NK, NQ, NR, R1, Q3, R2, Q5, T3, M14, NS, P1.
  Conditions: none.
-/
import Derived.Test.YtpdhdkpebbfnnaaWProcRight06
import Derived.Test.YtpdhdkpebbfnnaaWProcRight05
import Derived.Test.YtpdhdkpebbfnnaaWProcRight04
set_option linter.unusedVariables false
set_option linter.unusedSimpArgs false
set_option linter.unusedSectionVars false
set_option linter.defProp false
section
namespace Go.Proofs.Ytpdhdkpebbfnnaa.V
open Go
theorem ytNH0 {n0 n n' : Nat} {tm : Nat → VV} {H : Heap} {l : List (Nat × VV)} {h : List (Nat × Blk)} (σ : List (Nat × Nat)) (fz : Bool) (h1 : AllS n0 σ H fz tm l := by (repeat' (first|(with_reducible first|exact ya1|exact ya2|exact ya3|refine jx rfl (by first|rfl|assumption|(simp only [znl,znNH];(first|done|fail)))|exact ya5|exact ya7|exact jy|exact jz|refine jA ?_|refine ya9 ?_ ?_ ?_|refine jC rfl (by first|rfl|assumption|(simp only [znl,znNH];(first|done|fail)))|refine MR.agg (MRL.cons ?_ ?_)|refine MR.fn ?_|refine MRL.cons ?_ ?_|exact MRL.nil|refine jE ?_ ?_|exact jF|exact jG|refine yb1 ?_ ?_|refine MB.row ?_|refine jI ?_ ?_|exact ya8|refine jJ rfl (by first|rfl|assumption|(simp only [znl,znNH];(first|done|fail)))|refine yb2 ?_|rfl)|(simp only [znl,znNH];(first|done|fail))|(simp only [↓reduceIte,zlk,Nat.reduceEqDiff,reduceCtorEq])|(with_reducible first|refine jJ ?_ ?_|refine ya5 ?_|refine ju ?_|refine jv ?_|refine jw ?_|refine jx ?_ (by first|rfl|assumption|(simp only [znl,znNH];(first|done|fail)))|refine jC ?_ (by first|rfl|assumption|(simp only [znl,znNH];(first|done|fail))))))<;>rfl) (h3 : AllB n0 σ H fz h := by (repeat' (first|(with_reducible first|exact ya1|exact ya2|exact ya3|refine jx rfl (by first|rfl|assumption|(simp only [znl,znNH];(first|done|fail)))|exact ya5|exact ya7|exact jy|exact jz|refine jA ?_|refine ya9 ?_ ?_ ?_|refine jC rfl (by first|rfl|assumption|(simp only [znl,znNH];(first|done|fail)))|refine MR.agg (MRL.cons ?_ ?_)|refine MR.fn ?_|refine MRL.cons ?_ ?_|exact MRL.nil|refine jE ?_ ?_|exact jF|exact jG|refine yb1 ?_ ?_|refine MB.row ?_|refine jI ?_ ?_|exact ya8|refine jJ rfl (by first|rfl|assumption|(simp only [znl,znNH];(first|done|fail)))|refine yb2 ?_|rfl)|(simp only [znl,znNH];(first|done|fail))|(simp only [↓reduceIte,zlk,Nat.reduceEqDiff,reduceCtorEq])|(with_reducible first|refine jJ ?_ ?_|refine ya5 ?_|refine ju ?_|refine jv ?_|refine jw ?_|refine jx ?_ (by first|rfl|assumption|(simp only [znl,znNH];(first|done|fail)))|refine jC ?_ (by first|rfl|assumption|(simp only [znl,znNH];(first|done|fail))))))<;>rfl) (hfz : fz = true → n0 = 0 := by first | (intro h; cases h; done) | exact fun _ => rfl) (hσ : jN n0 n' (h.map (·.1)) σ = true := by first | decide | rfl | (simp [jN]; done)) (hn : n0 ≤ n' := by decide) : Ren n0 ⟨tm, H, n⟩ ⟨slots l, rows h, n'⟩ := yrn σ fz h1 h3 hfz hσ hn
theorem ytNH1 {n0 n n' : Nat} {tm : Nat → VV} {H : Heap} {l : List (Nat × VV)} {h : List (Nat × Blk)} (σ : List (Nat × Nat)) (fz : Bool) (h1 : AllS n0 σ H fz tm l := by repeat' (first|(with_reducible first|exact ya1|exact ya2|exact ya3|refine jx rfl (by first|rfl|assumption|(simp only [znl,znNH];(first|done|fail)))|exact ya5|exact ya7|exact jy|exact jz|refine jA ?_|refine ya9 ?_ ?_ ?_|refine jC rfl (by first|rfl|assumption|(simp only [znl,znNH];(first|done|fail)))|refine MR.agg (MRL.cons ?_ ?_)|refine MR.fn ?_|refine MRL.cons ?_ ?_|exact MRL.nil|refine jE ?_ ?_|exact jF|exact jG|refine yb1 ?_ ?_|refine MB.row ?_|refine jI ?_ ?_|exact ya8|refine jJ rfl (by first|rfl|assumption|(simp only [znl,znNH];(first|done|fail)))|refine yb2 ?_|rfl)|(simp only [znl,znNH];(first|done|fail))|(simp only [↓reduceIte,zlk,Nat.reduceEqDiff,reduceCtorEq])|(with_reducible first|refine jJ ?_ ?_|refine ya5 ?_|refine ju ?_|refine jv ?_|refine jw ?_|refine jx ?_ (by first|rfl|assumption|(simp only [znl,znNH];(first|done|fail)))|refine jC ?_ (by first|rfl|assumption|(simp only [znl,znNH];(first|done|fail)))))) (h3 : AllB n0 σ H fz h := by repeat' (first|(with_reducible first|exact ya1|exact ya2|exact ya3|refine jx rfl (by first|rfl|assumption|(simp only [znl,znNH];(first|done|fail)))|exact ya5|exact ya7|exact jy|exact jz|refine jA ?_|refine ya9 ?_ ?_ ?_|refine jC rfl (by first|rfl|assumption|(simp only [znl,znNH];(first|done|fail)))|refine MR.agg (MRL.cons ?_ ?_)|refine MR.fn ?_|refine MRL.cons ?_ ?_|exact MRL.nil|refine jE ?_ ?_|exact jF|exact jG|refine yb1 ?_ ?_|refine MB.row ?_|refine jI ?_ ?_|exact ya8|refine jJ rfl (by first|rfl|assumption|(simp only [znl,znNH];(first|done|fail)))|refine yb2 ?_|rfl)|(simp only [znl,znNH];(first|done|fail))|(simp only [↓reduceIte,zlk,Nat.reduceEqDiff,reduceCtorEq])|(with_reducible first|refine jJ ?_ ?_|refine ya5 ?_|refine ju ?_|refine jv ?_|refine jw ?_|refine jx ?_ (by first|rfl|assumption|(simp only [znl,znNH];(first|done|fail)))|refine jC ?_ (by first|rfl|assumption|(simp only [znl,znNH];(first|done|fail)))))) (hfz : fz = true → n0 = 0 := by first | (intro h; cases h; done) | exact fun _ => rfl) (hσ : jN n0 n' (h.map (·.1)) σ = true := by first | decide | rfl | (simp [jN]; done)) (hn : n0 ≤ n' := by decide) : Ren n0 ⟨tm, H, n⟩ ⟨slots l, rows h, n'⟩ := yrn σ fz h1 h3 hfz hσ hn
theorem ynNH {l : List VV} (h : nls l = true := by first|rfl|assumption|(simp only [znl,znNH];(first|done|fail))) : nls l = true := h
set_option maxRecDepth 100000
def znNH := And.intro @jO <| And.intro @jP <| And.intro @jQ <| And.intro @jR <| And.intro @jS <| And.intro @jT <| And.intro @jU <| True.intro
set_option maxHeartbeats 8000000
def procQ (m : Mach) (i : Nat) : Bool := !(decide (0 < i) && decide ((m.pr.getD i default).pid ≤ (m.pr.getD (i - 1) default).pid)) && procB m (m.pr.getD i default)
theorem range_all {n : Nat} {q : Nat → Bool} (h : ∀ j, j < n → q j = true) : (List.range n).all q = true := by
 rw [List.all_eq_true]
 intro i hi
 exact h i (List.mem_range.1 hi)
theorem range_not {n k : Nat} {q : Nat → Bool} (hk : k < n) (h : q k = false) : (List.range n).all q = false := by
 rw [List.all_eq_false]
 exact ⟨k, List.mem_range.2 hk, by rw [h]; simp⟩
theorem step_all {q : Nat → Bool} {k : Nat} (hq : ∀ j, j < k → q j = true) (h : q k = true) : ∀ j, j < k + 1 → q j = true := fun j hj => by
 by_cases e : j = k
 ·rw [e]; exact h
 ·exact hq j (by omega)
theorem rcheckM_spec (m : Mach) (hm : MFit 20000 m) : Spec Try.prog 40 [encM m] (.int .i64 (chkM m)) := by
 obtain ⟨R, hR⟩ : ∃ R, R = chkM m := ⟨_, rfl⟩
 rw [← hR]
 have hD := disk_spec m hm
 obtain ⟨⟨a1, a2⟩, ⟨a3, a4⟩, ⟨a5, a6⟩, ⟨a7, a8⟩, hfr, hfrS, hpr, hprR, ⟨a9, a10⟩, hini, hpi, hpiR, ⟨a11, a12⟩, hinp, ⟨a13, a14⟩, _, _, _, _, _, _, _⟩ := id hm
 unfold chkM at hR
 have hnb : numB m = true ↔ (m.quantum < 1 ∨ 1000 < m.quantum ∨ m.left < 0 ∨ m.quantum < m.left ∨ m.cur < 0 ∨ m.next < 1 ∨ 1000000000 < m.next ∨ m.newp < 1 ∨ 1000000000 < m.newp) := by
  unfold numB; rw [decide_eq_true_eq]
 by_cases hn : numB m = true
 ·rw [if_pos hn] at hR
  have hn := hnb.1 hn
  rw [hR]
  refine spec_ok Try.func40 rfl rfl (by kernel_rfl) (k := 1) rfl (by decide) ?_
  repeat' (first|(with_reducible first|refine yrl (by constructor) ?_|refine jk (fun M hM=>?_)|(refine hM _ ?_;clear hM M)|refine yx3 ?_|refine yxa ?_ ?_|refine yxb ?_ ?_)|((with_reducible refine je ?_)<;>exact ynNH)|(with_reducible refine yxc ?_)|((with_reducible refine yxi (fun hc=>?_) (fun hc=>?_))<;>(try simp (disch:=omega) only [zhb] at hc)<;>(try (exfalso;omega))<;>(try subst hc))|(with_reducible refine yxw ?_)|(simp (config := { maxSteps := 400000 }) only [↓jt,↓reduceIte,zvs,reduceCtorEq,seval,tab,Try.results40,jTA])|(simp (disch:=omega) only [ziw]))
  all_goals first
   | (exfalso; omega)
   | (simp only [zrds]; done)
 rw [if_neg hn] at hR
 have hn := mt hnb.2 hn
 refine spec_ok Try.func40 rfl rfl (by kernel_rfl) (k := 1) rfl (by decide) ?_
 repeat' (first|(with_reducible first|refine yrl (by constructor) ?_|refine jk (fun M hM=>?_)|(refine hM _ ?_;clear hM M)|refine yx3 ?_|refine yxa ?_ ?_|refine yxb ?_ ?_)|((with_reducible refine je ?_)<;>exact ynNH)|(with_reducible refine yxc ?_)|((with_reducible refine yxi (fun hc=>?_) (fun hc=>?_))<;>(try simp (disch:=omega) only [zhb] at hc)<;>(try (exfalso;omega))<;>(try subst hc))|(with_reducible refine yxw ?_)|(simp (config := { maxSteps := 400000 }) only [↓jt,↓reduceIte,zvs,reduceCtorEq,seval,tab,Try.results40,jTA])|(simp (disch:=omega) only [ziw]))
 all_goals first
  | (exfalso; omega)
  | (rw [hR, if_pos (by omega)]; simp only [zrds]; done)
  | skip
 rw [if_neg (by omega)] at hR
 refine ok_loop (fun k : Nat => ⟨slots [(1, .ptr 0 []), (68, encStrs m.fr), (69, .int .i64 m.fr.length), (70, .int .i64 k)], rows [(0, .row machSh (encM m))], 1⟩) (fun k => k ≤ m.fr.length ∧ ∀ j, j < k → decide ((m.fr.getD j default).length ≠ 128) = false) (fun k => m.fr.length - k) 0 ?_ ⟨Nat.zero_le _, fun j hj => by omega⟩ (fun k hk => ?_)
 ·(exact ytNH0 [(0, 0)] false)
  all_goals (first | rfl)
 obtain ⟨hk, hq⟩ := hk
 by_cases hlt : k < m.fr.length
 ·have hs := hfrS _ (getD_mem' hlt)
  rw [default_str] at hs
  repeat' (first|(with_reducible first|refine yrl (by constructor) ?_|refine jk (fun M hM=>?_)|(refine hM _ ?_;clear hM M)|refine yx3 ?_|refine yxa ?_ ?_|refine yxb ?_ ?_)|((with_reducible refine je ?_)<;>exact ynNH)|(with_reducible refine yxc ?_)|((with_reducible refine yxi (fun hc=>?_) (fun hc=>?_))<;>(try simp (disch:=omega) only [zhb] at hc)<;>(try (exfalso;omega))<;>(try subst hc))|(with_reducible refine yxw ?_)|(simp (config := { maxSteps := 400000 }) only [↓jt,↓reduceIte,zvs,reduceCtorEq,seval,tab,Try.results40,jTA])|(simp (disch:=omega) only [ziw]))
  all_goals first
   | (exfalso; omega)
   | (rw [hR, if_pos (any_of m.fr _ k hlt (by rw [default_str]; exact decide_eq_true (by omega)))]; simp only [zrds]; done)
   | (refine xl1 (k + 1) ?_ ⟨by omega, fun j hj => ?_⟩ (by show m.fr.length - (k + 1) < m.fr.length - k; omega) <;> first | (by_cases e : j = k; (rw [e]; (try rw [default_str]); exact decide_eq_false (by omega)); exact hq j (by omega)) | ((exact ytNH1 [(0, 0)] false); done))
   | (refine xl1 (k + 1) ?_ ⟨by omega, fun j hj => ?_⟩ (by show m.fr.length - (k + 1) < m.fr.length - k; omega); (refine yrn [(0, 0)] false ?_ ?_<;>(repeat' (first|(with_reducible first|exact ya1|exact ya2|exact ya3|refine jx rfl (by first|rfl|assumption|(simp only [znl,znNH];(first|done|fail)))|exact ya5|exact ya7|exact jy|exact jz|refine jA ?_|refine ya9 ?_ ?_ ?_|refine jC rfl (by first|rfl|assumption|(simp only [znl,znNH];(first|done|fail)))|refine MR.agg (MRL.cons ?_ ?_)|refine MR.fn ?_|refine MRL.cons ?_ ?_|exact MRL.nil|refine jE ?_ ?_|exact jF|exact jG|refine yb1 ?_ ?_|refine MB.row ?_|refine jI ?_ ?_|exact ya8|refine jJ rfl (by first|rfl|assumption|(simp only [znl,znNH];(first|done|fail)))|refine yb2 ?_|rfl)|(simp only [znl,znNH];(first|done|fail))|(simp only [↓reduceIte,zlk,Nat.reduceEqDiff,reduceCtorEq])|(with_reducible first|refine jJ ?_ ?_|refine ya5 ?_|refine ju ?_|refine jv ?_|refine jw ?_|refine jx ?_ (by first|rfl|assumption|(simp only [znl,znNH];(first|done|fail)))|refine jC ?_ (by first|rfl|assumption|(simp only [znl,znNH];(first|done|fail))))))); trace_state)
 obtain rfl : k = m.fr.length := by omega
 have hA := any_none m.fr (fun s => decide (s.length ≠ 128)) hq
 rw [hA, if_neg (by simp)] at hR
 repeat' (first|(with_reducible first|refine yrl (by constructor) ?_|refine jk (fun M hM=>?_)|(refine hM _ ?_;clear hM M)|refine yx3 ?_|refine yxa ?_ ?_|refine yxb ?_ ?_)|((with_reducible refine je ?_)<;>exact ynNH)|(with_reducible refine yxc ?_)|((with_reducible refine yxi (fun hc=>?_) (fun hc=>?_))<;>(try simp (disch:=omega) only [zhb] at hc)<;>(try (exfalso;omega))<;>(try subst hc))|(with_reducible refine yxw ?_)|(simp (config := { maxSteps := 400000 }) only [↓jt,↓reduceIte,zvs,reduceCtorEq,seval,tab,Try.results40,jTA])|(simp (disch:=omega) only [ziw]))
 all_goals first
  | (exfalso; omega)
  | (rw [hR, if_pos (by omega)]; simp only [zrds]; done)
  | skip
 rw [if_neg (by omega)] at hR
 refine ok_loop (fun k : Nat => ⟨slots [(1, .ptr 0 []), (83, encPrs m.pr), (84, .int .i64 m.pr.length), (85, .int .i64 k)], rows [(0, .row machSh (encM m))], 1⟩) (fun k => k ≤ m.pr.length ∧ ∀ j, j < k → procQ m j = true) (fun k => m.pr.length - k) 0 ?_ ⟨Nat.zero_le _, fun j hj => by omega⟩ (fun k hk => ?_)
 ·(exact ytNH0 [(0, 0)] false)
  all_goals (first | rfl)
 clear hq
 obtain ⟨hk, hq⟩ := hk
 by_cases hlt : k < m.pr.length
 ·have hb := hprR _ (getD_mem' hlt)
  obtain ⟨hS1, hS2, hS3⟩ := pr3 hb
  obtain ⟨p1, p2⟩ := hb.pid
  have hP := process_spec m hm _ hb
  have hF : procQ m k = false → R = 3 := fun h => by
   rw [hR, if_pos]
   exact range_not hlt h
  have hst := step_all (k := k) hq
  by_cases hk0 : k = 0
  ·subst hk0
   have z0 : ((0 : Nat) : Int) = 0 := rfl
   have hQ : procQ m 0 = procB m (m.pr.getD 0 default) := by simp [procQ]
   rw [← hQ] at hP
   simp only [encPr] at hP
   generalize procQ m 0 = b at hP hF hst
   cases b
   all_goals
    repeat' (first|(with_reducible first|refine yrl (by constructor) ?_|refine jk (fun M hM=>?_)|(refine hM _ ?_;clear hM M)|refine yx3 ?_|refine yxa ?_ ?_|refine yxb ?_ ?_)|((with_reducible refine je ?_)<;>exact ynNH)|(with_reducible refine yxc ?_)|((with_reducible refine yxi (fun hc=>?_) (fun hc=>?_))<;>(try simp (disch:=omega) only [zhb] at hc)<;>(try (exfalso;omega))<;>(try subst hc))|(with_reducible refine yxw ?_)|(simp (config := { maxSteps := 400000 }) only [↓jt,↓reduceIte,zvs,reduceCtorEq,seval,tab,hS1,hS2,hS3,encPr,z0,Try.results40,jTA])|(simp (disch:=omega) only [ziw]))
    refine ok_drawC 20 (by kernel_rfl) (by decide +kernel) (by intro m hm; simp only [upd_ap,rows_cons,rows_nil]; (repeat (first | rfl | rw [if_neg (by omega)]))) (fun M hM => ?_); simp only [List.take_succ_cons,List.take_zero,List.drop_succ_cons,List.drop_zero]
    repeat' (first|(with_reducible first|refine yrl (by constructor) ?_|refine jk (fun M hM=>?_)|(refine hM _ ?_;clear hM M)|refine yx3 ?_|refine yxa ?_ ?_|refine yxb ?_ ?_)|((with_reducible refine je ?_)<;>exact ynNH)|(with_reducible refine yxc ?_)|((with_reducible refine yxi (fun hc=>?_) (fun hc=>?_))<;>(try simp (disch:=omega) only [zhb] at hc)<;>(try (exfalso;omega))<;>(try subst hc))|(with_reducible refine yxw ?_)|(simp (config := { maxSteps := 400000 }) only [↓jt,↓reduceIte,zvs,reduceCtorEq,seval,tab,hS1,hS2,hS3,encPr,z0,Try.results40,jTA])|(simp (disch:=omega) only [ziw]))
    all_goals first
     | (exfalso; omega)
     | (rw [hF rfl]; simp only [zrds]; done)
     | (refine xl1 1 ?_ ⟨by omega, hst rfl⟩ (by show m.pr.length - 1 < m.pr.length - 0; omega); (exact ytNH1 [(0, 0)] false); done)
  ·obtain ⟨i, rfl⟩ : ∃ i, k = i + 1 := ⟨k - 1, by omega⟩
   have z1 : ((i + 1 : Nat) : Int) - 1 = i := by omega
   have hbi := hprR _ (getD_mem' (show i < m.pr.length by omega))
   obtain ⟨hT1, hT2, hT3⟩ := pr3 hbi
   by_cases hle : (m.pr.getD (i + 1) default).pid ≤ (m.pr.getD i default).pid
   ·have hQ : procQ m (i + 1) = false := by
     unfold procQ
     rw [Nat.add_sub_cancel, decide_eq_true (Nat.succ_pos i), decide_eq_true hle]
     rfl
    rw [hF hQ]
    simp only [encPr] at hP
    repeat' (first|(with_reducible first|refine yrl (by constructor) ?_|refine jk (fun M hM=>?_)|(refine hM _ ?_;clear hM M)|refine yx3 ?_|refine yxa ?_ ?_|refine yxb ?_ ?_)|((with_reducible refine je ?_)<;>exact ynNH)|(with_reducible refine yxc ?_)|((with_reducible refine yxi (fun hc=>?_) (fun hc=>?_))<;>(try simp (disch:=omega) only [zhb] at hc)<;>(try (exfalso;omega))<;>(try subst hc))|(with_reducible refine yxw ?_)|(simp (config := { maxSteps := 400000 }) only [↓jt,↓reduceIte,zvs,reduceCtorEq,seval,tab,hS1,hS2,hS3,hT1,hT2,hT3,encPr,z1,Try.results40,jTA])|(simp (disch:=omega) only [ziw]))
    refine ok_drawC 20 (by kernel_rfl) (by decide +kernel) (by intro m hm; simp only [upd_ap,rows_cons,rows_nil]; (repeat (first | rfl | rw [if_neg (by omega)]))) (fun M hM => ?_); simp only [List.take_succ_cons,List.take_zero,List.drop_succ_cons,List.drop_zero]
    repeat' (first|(with_reducible first|refine yrl (by constructor) ?_|refine jk (fun M hM=>?_)|(refine hM _ ?_;clear hM M)|refine yx3 ?_|refine yxa ?_ ?_|refine yxb ?_ ?_)|((with_reducible refine je ?_)<;>exact ynNH)|(with_reducible refine yxc ?_)|((with_reducible refine yxi (fun hc=>?_) (fun hc=>?_))<;>(try simp (disch:=omega) only [zhb] at hc)<;>(try (exfalso;omega))<;>(try subst hc))|(with_reducible refine yxw ?_)|(simp (config := { maxSteps := 400000 }) only [↓jt,↓reduceIte,zvs,reduceCtorEq,seval,tab,hS1,hS2,hS3,hT1,hT2,hT3,encPr,z1,Try.results40,jTA])|(simp (disch:=omega) only [ziw]))
    all_goals first
     | (exfalso; omega)
     | (simp only [zrds]; done)
   ·have hQ : procQ m (i + 1) = procB m (m.pr.getD (i + 1) default) := by
     unfold procQ
     rw [Nat.add_sub_cancel, decide_eq_true (Nat.succ_pos i), decide_eq_false hle]
     rfl
    rw [← hQ] at hP
    simp only [encPr] at hP
    generalize procQ m (i + 1) = b at hP hF hst
    cases b
    all_goals
     repeat' (first|(with_reducible first|refine yrl (by constructor) ?_|refine jk (fun M hM=>?_)|(refine hM _ ?_;clear hM M)|refine yx3 ?_|refine yxa ?_ ?_|refine yxb ?_ ?_)|((with_reducible refine je ?_)<;>exact ynNH)|(with_reducible refine yxc ?_)|((with_reducible refine yxi (fun hc=>?_) (fun hc=>?_))<;>(try simp (disch:=omega) only [zhb] at hc)<;>(try (exfalso;omega))<;>(try subst hc))|(with_reducible refine yxw ?_)|(simp (config := { maxSteps := 400000 }) only [↓jt,↓reduceIte,zvs,reduceCtorEq,seval,tab,hS1,hS2,hS3,hT1,hT2,hT3,encPr,z1,Try.results40,jTA])|(simp (disch:=omega) only [ziw]))
     refine ok_drawC 20 (by kernel_rfl) (by decide +kernel) (by intro m hm; simp only [upd_ap,rows_cons,rows_nil]; (repeat (first | rfl | rw [if_neg (by omega)]))) (fun M hM => ?_); simp only [List.take_succ_cons,List.take_zero,List.drop_succ_cons,List.drop_zero]
     repeat' (first|(with_reducible first|refine yrl (by constructor) ?_|refine jk (fun M hM=>?_)|(refine hM _ ?_;clear hM M)|refine yx3 ?_|refine yxa ?_ ?_|refine yxb ?_ ?_)|((with_reducible refine je ?_)<;>exact ynNH)|(with_reducible refine yxc ?_)|((with_reducible refine yxi (fun hc=>?_) (fun hc=>?_))<;>(try simp (disch:=omega) only [zhb] at hc)<;>(try (exfalso;omega))<;>(try subst hc))|(with_reducible refine yxw ?_)|(simp (config := { maxSteps := 400000 }) only [↓jt,↓reduceIte,zvs,reduceCtorEq,seval,tab,hS1,hS2,hS3,hT1,hT2,hT3,encPr,z1,Try.results40,jTA])|(simp (disch:=omega) only [ziw]))
     all_goals first
      | (exfalso; omega)
      | (rw [hF rfl]; simp only [zrds]; done)
      | (refine xl1 (i + 1 + 1) ?_ ⟨by omega, hst rfl⟩ (by show m.pr.length - (i + 1 + 1) < m.pr.length - (i + 1); omega); (exact ytNH1 [(0, 0)] false); done)
 obtain rfl : k = m.pr.length := by omega
 have hB : procsB m = true := range_all hq
 rw [hB, if_neg (by simp)] at hR
 repeat' (first|(with_reducible first|refine yrl (by constructor) ?_|refine jk (fun M hM=>?_)|(refine hM _ ?_;clear hM M)|refine yx3 ?_|refine yxa ?_ ?_|refine yxb ?_ ?_)|((with_reducible refine je ?_)<;>exact ynNH)|(with_reducible refine yxc ?_)|((with_reducible refine yxi (fun hc=>?_) (fun hc=>?_))<;>(try simp (disch:=omega) only [zhb] at hc)<;>(try (exfalso;omega))<;>(try subst hc))|(with_reducible refine yxw ?_)|(simp (config := { maxSteps := 400000 }) only [↓jt,↓reduceIte,zvs,reduceCtorEq,seval,tab,Try.results40,jTA])|(simp (disch:=omega) only [ziw]))
 all_goals first
  | (exfalso; omega)
  | (rw [hR, if_pos (by omega)]; simp only [zrds]; done)
  | skip
 rw [if_neg (by omega)] at hR
 refine ok_loop (fun k : Nat => ⟨slots [(1, .ptr 0 []), (116, encPis m.pipes), (117, .int .i64 m.pipes.length), (118, .int .i64 k)], rows [(0, .row machSh (encM m))], 1⟩) (fun k => k ≤ m.pipes.length ∧ ∀ j, j < k → pipeB m j = true) (fun k => m.pipes.length - k) 0 ?_ ⟨Nat.zero_le _, fun j hj => by omega⟩ (fun k hk => ?_)
 ·(exact ytNH0 [(0, 0)] false)
  all_goals (first | rfl)
 clear hq
 obtain ⟨hk, hq⟩ := hk
 by_cases hlt : k < m.pipes.length
 ·obtain ⟨⟨p1, p2⟩, p3⟩ := hpiR _ (getD_mem' hlt)
  have hF : pipeB m k = false → R = 3 := fun h => by
   rw [hR, if_pos]
   exact range_not hlt h
  have hst := step_all (k := k) hq
  by_cases hk0 : k = 0
  ·subst hk0
   have z0 : ((0 : Nat) : Int) = 0 := rfl
   have hQ : pipeB m 0 = true ↔ (1 ≤ (m.pipes.getD 0 default).id ∧ (m.pipes.getD 0 default).id < m.newp ∧ (m.pipes.getD 0 default).d.length ≤ 64) := by
    unfold pipeB longB
    simp only [Nat.lt_irrefl,decide_false,Bool.false_and,Bool.or_false,Bool.not_eq_true',Bool.or_eq_false_iff,decide_eq_false_iff_not]
    omega
   repeat' (first|(with_reducible first|refine yrl (by constructor) ?_|refine jk (fun M hM=>?_)|(refine hM _ ?_;clear hM M)|refine yx3 ?_|refine yxa ?_ ?_|refine yxb ?_ ?_)|((with_reducible refine je ?_)<;>exact ynNH)|(with_reducible refine yxc ?_)|((with_reducible refine yxi (fun hc=>?_) (fun hc=>?_))<;>(try simp (disch:=omega) only [zhb] at hc)<;>(try (exfalso;omega))<;>(try subst hc))|(with_reducible refine yxw ?_)|(simp (config := { maxSteps := 400000 }) only [↓jt,↓reduceIte,zvs,reduceCtorEq,seval,tab,encPi,z0,Try.results40,jTA])|(simp (disch:=omega) only [ziw]))
   refine ok_drawC 32 (by kernel_rfl) (by decide +kernel) (by intro m hm; simp only [upd_ap,rows_cons,rows_nil]; (repeat (first | rfl | rw [if_neg (by omega)]))) (fun M hM => ?_); simp only [List.take_succ_cons,List.take_zero,List.drop_succ_cons,List.drop_zero]
   repeat' (first|(with_reducible first|refine yrl (by constructor) ?_|refine jk (fun M hM=>?_)|(refine hM _ ?_;clear hM M)|refine yx3 ?_|refine yxa ?_ ?_|refine yxb ?_ ?_)|((with_reducible refine je ?_)<;>exact ynNH)|(with_reducible refine yxc ?_)|((with_reducible refine yxi (fun hc=>?_) (fun hc=>?_))<;>(try simp (disch:=omega) only [zhb] at hc)<;>(try (exfalso;omega))<;>(try subst hc))|(with_reducible refine yxw ?_)|(simp (config := { maxSteps := 400000 }) only [↓jt,↓reduceIte,zvs,reduceCtorEq,seval,tab,encPi,z0,Try.results40,jTA])|(simp (disch:=omega) only [ziw]))
   all_goals first
    | (exfalso; omega)
    | (rw [hF (by rw [Bool.eq_false_iff]; intro h; have := hQ.1 h; omega)]; simp only [zrds]; done)
    | (refine xl1 1 ?_ ⟨by omega, hst (hQ.2 (by omega))⟩ (by show m.pipes.length - 1 < m.pipes.length - 0; omega); (exact ytNH1 [(0, 0)] false); done)
  ·obtain ⟨i, rfl⟩ : ∃ i, k = i + 1 := ⟨k - 1, by omega⟩
   have z1 : ((i + 1 : Nat) : Int) - 1 = i := by omega
   have hQ : pipeB m (i + 1) = true ↔ (1 ≤ (m.pipes.getD (i + 1) default).id ∧ (m.pipes.getD (i + 1) default).id < m.newp ∧ (m.pipes.getD i default).id < (m.pipes.getD (i + 1) default).id ∧ (m.pipes.getD (i + 1) default).d.length ≤ 64) := by
    unfold pipeB longB
    rw [Nat.add_sub_cancel, decide_eq_true (Nat.succ_pos i)]
    simp only [Bool.true_and,Bool.not_eq_true',Bool.or_eq_false_iff,decide_eq_false_iff_not]
    omega
   repeat' (first|(with_reducible first|refine yrl (by constructor) ?_|refine jk (fun M hM=>?_)|(refine hM _ ?_;clear hM M)|refine yx3 ?_|refine yxa ?_ ?_|refine yxb ?_ ?_)|((with_reducible refine je ?_)<;>exact ynNH)|(with_reducible refine yxc ?_)|((with_reducible refine yxi (fun hc=>?_) (fun hc=>?_))<;>(try simp (disch:=omega) only [zhb] at hc)<;>(try (exfalso;omega))<;>(try subst hc))|(with_reducible refine yxw ?_)|(simp (config := { maxSteps := 400000 }) only [↓jt,↓reduceIte,zvs,reduceCtorEq,seval,tab,encPi,z1,Try.results40,jTA])|(simp (disch:=omega) only [ziw]))
   refine ok_drawC 32 (by kernel_rfl) (by decide +kernel) (by intro m hm; simp only [upd_ap,rows_cons,rows_nil]; (repeat (first | rfl | rw [if_neg (by omega)]))) (fun M hM => ?_); simp only [List.take_succ_cons,List.take_zero,List.drop_succ_cons,List.drop_zero]
   repeat' (first|(with_reducible first|refine yrl (by constructor) ?_|refine jk (fun M hM=>?_)|(refine hM _ ?_;clear hM M)|refine yx3 ?_|refine yxa ?_ ?_|refine yxb ?_ ?_)|((with_reducible refine je ?_)<;>exact ynNH)|(with_reducible refine yxc ?_)|((with_reducible refine yxi (fun hc=>?_) (fun hc=>?_))<;>(try simp (disch:=omega) only [zhb] at hc)<;>(try (exfalso;omega))<;>(try subst hc))|(with_reducible refine yxw ?_)|(simp (config := { maxSteps := 400000 }) only [↓jt,↓reduceIte,zvs,reduceCtorEq,seval,tab,encPi,z1,Try.results40,jTA])|(simp (disch:=omega) only [ziw]))
   all_goals first
    | (exfalso; omega)
    | (rw [hF (by rw [Bool.eq_false_iff]; intro h; have := hQ.1 h; omega)]; simp only [zrds]; done)
    | (refine xl1 (i + 1 + 1) ?_ ⟨by omega, hst (hQ.2 (by omega))⟩ (by show m.pipes.length - (i + 1 + 1) < m.pipes.length - (i + 1); omega); (exact ytNH1 [(0, 0)] false); done)
 obtain rfl : k = m.pipes.length := by omega
 have hC : pipesB m = true := range_all hq
 rw [hC, if_neg (by simp)] at hR
 by_cases hx : 65536 < m.inp.length ∨ 128 < m.init.length
 ·rw [if_pos hx] at hR
  rw [hR]
  repeat' (first|(with_reducible first|refine yrl (by constructor) ?_|refine jk (fun M hM=>?_)|(refine hM _ ?_;clear hM M)|refine yx3 ?_|refine yxa ?_ ?_|refine yxb ?_ ?_)|((with_reducible refine je ?_)<;>exact ynNH)|(with_reducible refine yxc ?_)|((with_reducible refine yxi (fun hc=>?_) (fun hc=>?_))<;>(try simp (disch:=omega) only [zhb] at hc)<;>(try (exfalso;omega))<;>(try subst hc))|(with_reducible refine yxw ?_)|(simp (config := { maxSteps := 400000 }) only [↓jt,↓reduceIte,zvs,reduceCtorEq,seval,tab,Try.results40,jTA])|(simp (disch:=omega) only [ziw]))
  all_goals first
   | (exfalso; omega)
   | (simp only [zrds]; done)
 ·rw [if_neg hx] at hR
  rw [← hR] at hD
  repeat' (first|(with_reducible first|refine yrl (by constructor) ?_|refine jk (fun M hM=>?_)|(refine hM _ ?_;clear hM M)|refine yx3 ?_|refine yxa ?_ ?_|refine yxb ?_ ?_)|((with_reducible refine je ?_)<;>exact ynNH)|(with_reducible refine yxc ?_)|((with_reducible refine yxi (fun hc=>?_) (fun hc=>?_))<;>(try simp (disch:=omega) only [zhb] at hc)<;>(try (exfalso;omega))<;>(try subst hc))|(with_reducible refine yxw ?_)|(simp (config := { maxSteps := 400000 }) only [↓jt,↓reduceIte,zvs,reduceCtorEq,seval,tab,Try.results40,jTA])|(simp (disch:=omega) only [ziw]))
  all_goals first
   | (exfalso; omega)
   | (simp only [zrds]; done)
end Go.Proofs.Ytpdhdkpebbfnnaa.V
end
section
namespace Go.Proofs.Ytpdhdkpebbfnnaa.V
open Go
set_option maxRecDepth 100000
set_option maxHeartbeats 4000000
structure PidOk (m : Mach) : Prop where
 pos : ∀ p ∈ m.pr, 1 ≤ p.pid
 inc : m.pr.Pairwise (fun p q => p.pid < q.pid)
 cur : 0 ≤ m.cur
end Go.Proofs.Ytpdhdkpebbfnnaa.V
end
section
namespace Go.Proofs.Ytpdhdkpebbfnnaa.V
open Go Go.RowKit
section
variable {P : Program} {ops : Array Oper} {k js : Nat} {perm : List Nat} {K : VS → Prop}
end
section
variable {P : Program} {n0 : Nat} {K : VX → VS → Prop}
end
end Go.Proofs.Ytpdhdkpebbfnnaa.V
end
section
namespace Go.Proofs.Ytpdhdkpebbfnnaa.V
open Go
set_option maxRecDepth 100000
set_option maxHeartbeats 4000000
theorem findI_some {l : List Pr} {pid : Int} {i : Nat} (h : findI l pid = some i) : i < l.length ∧ (l.getD i default).pid = pid := by
 unfold findI at h
 rw [List.findIdx?_eq_some_iff_getElem] at h
 obtain ⟨h1, h2, _⟩ := h
 refine ⟨h1, ?_⟩
 rw [List.getD_eq_getElem?_getD, List.getElem?_eq_getElem h1]
 simpa using h2
end Go.Proofs.Ytpdhdkpebbfnnaa.V
end
section
namespace Go.Proofs.Ytpdhdkpebbfnnaa.V
open Go
set_option maxRecDepth 100000
set_option maxHeartbeats 4000000
theorem procQ_pos {m : Mach} {i : Nat} (h : procQ m i = true) : 1 ≤ (m.pr.getD i default).pid ∧ procB m (m.pr.getD i default) = true := by
 unfold procQ at h
 rw [Bool.and_eq_true] at h
 refine ⟨?_, h.2⟩
 have h2 := h.2
 unfold procB at h2
 simp only [Bool.and_eq_true] at h2
 have := (procH_iff m _).1 h2.1.1
 unfold headP at this
 exact this.1
theorem procQ_inc {m : Mach} {i : Nat} (h : procQ m (i + 1) = true) : (m.pr.getD i default).pid < (m.pr.getD (i + 1) default).pid := by
 unfold procQ at h
 rw [Bool.and_eq_true, Nat.add_sub_cancel, decide_eq_true (Nat.succ_pos i)] at h
 have h1 := h.1
 simp only [Bool.true_and,Bool.not_eq_true',decide_eq_false_iff_not] at h1
 omega
theorem chk_parts {m : Mach} (h : chkM m = 0) : numB m = false ∧ (1 ≤ m.fr.length ∧ m.fr.length ≤ 64) ∧ (∀ s ∈ m.fr, s.length = 128) ∧ m.pr.length ≤ 8 ∧ procsB m = true ∧ m.pipes.length ≤ 64 ∧ pipesB m = true ∧ m.inp.length ≤ 65536 ∧ m.init.length ≤ 128 ∧ diskE m = 0 := by
 unfold chkM at h
 split at h
 ·omega
 split at h
 ·omega
 split at h
 ·omega
 split at h
 ·omega
 split at h
 ·omega
 split at h
 ·omega
 split at h
 ·omega
 split at h
 ·omega
 rename_i h1 h2 h3 h4 h5 h6 h7 h8
 refine ⟨by simpa using h1, by omega, fun s hs => ?_, by omega, by simpa using h5, by omega, by simpa using h7, by omega, by omega, h⟩
 refine Decidable.byContradiction fun hc => h3 ?_
 rw [List.any_eq_true]
 exact ⟨s, hs, decide_eq_true hc⟩
theorem chk_pids {m : Mach} (h : chkM m = 0) : PidOk m := by
 obtain ⟨h1, _, _, _, h5, _⟩ := chk_parts h
 have hq : ∀ i, i < m.pr.length → procQ m i = true := fun i hi => (List.all_eq_true.1 h5) i (List.mem_range.2 hi)
 refine ⟨fun p hp => ?_, ?_, ?_⟩
 ·obtain ⟨i, hi, rfl⟩ := List.mem_iff_getElem.1 hp
  have := (procQ_pos (hq i hi)).1
  rw [List.getD_eq_getElem?_getD, List.getElem?_eq_getElem hi] at this
  exact this
 ·rw [List.pairwise_iff_getElem]
  have key : ∀ d i, i + d + 1 < m.pr.length → (m.pr.getD i default).pid < (m.pr.getD (i + d + 1) default).pid := by
   intro d
   induction d with
   | zero => intro i hi; exact procQ_inc (hq (i + 1) hi)
   | succ d ih =>
    intro i hi
    have h1 := ih i (by omega)
    have h2 := procQ_inc (i := i + d + 1) (hq _ (by omega))
    rw [show i + (d + 1) + 1 = i + d + 1 + 1 by omega]
    omega
  intro i j hi hj hij
  have := key (j - i - 1) i (by omega)
  rw [show i + (j - i - 1) + 1 = j by omega, List.getD_eq_getElem?_getD, List.getElem?_eq_getElem hi, List.getD_eq_getElem?_getD, List.getElem?_eq_getElem hj] at this
  exact this
 ·unfold numB at h1
  have := of_decide_eq_false h1
  omega
structure MOk (m : Mach) : Prop where
 fit : MFit 20000 m
 chk : chkM m = 0
end Go.Proofs.Ytpdhdkpebbfnnaa.V
end
section
namespace Go.Proofs.Ytpdhdkpebbfnnaa.V
open Go
theorem ynNQ {l : List VV} (h : nls l = true := by first|rfl|assumption|(simp only [znl,znNQ];(first|done|fail))) : nls l = true := h
set_option maxRecDepth 100000
def znNQ := And.intro @jO <| And.intro @jP <| And.intro @jQ <| And.intro @jR <| And.intro @jS <| And.intro @jT <| And.intro @jU <| True.intro
set_option maxHeartbeats 4000000
theorem numbers_ok (m : Mach) (h : numB m = false) : Spec Try.prog 73 [encM m] (.int .i64 0) := by
 unfold numB at h
 have h := of_decide_eq_false h
 refine spec_ok Try.func73 rfl rfl (by kernel_rfl) (k := 1) rfl (by decide) ?_
 repeat' (first|(with_reducible first|refine yrl (by constructor) ?_|refine jk (fun M hM=>?_)|(refine hM _ ?_;clear hM M)|refine yx3 ?_|refine yxa ?_ ?_|refine yxb ?_ ?_)|((with_reducible refine je ?_)<;>exact ynNQ)|(with_reducible refine yxc ?_)|((with_reducible refine yxi (fun hc=>?_) (fun hc=>?_))<;>(try simp (disch:=omega) only [zhb] at hc)<;>(try (exfalso;omega))<;>(try subst hc))|(with_reducible refine yxw ?_)|(simp (config := { maxSteps := 400000 }) only [↓jt,↓reduceIte,zvs,reduceCtorEq,seval,tab,Try.results73,jTA])|(simp (disch:=omega) only [ziw]))
 all_goals first
  | (exfalso; omega)
  | (simp only [zrds]; done)
theorem frames_ok (m : Mach) (h : 1 ≤ m.fr.length ∧ m.fr.length ≤ 64) (hs : ∀ s ∈ m.fr, s.length = 128) : Spec Try.prog 74 [encM m] (.int .i64 0) := by
 refine spec_ok Try.func74 rfl rfl (by kernel_rfl) (k := 1) rfl (by decide) ?_
 repeat' (first|(with_reducible first|refine yrl (by constructor) ?_|refine jk (fun M hM=>?_)|(refine hM _ ?_;clear hM M)|refine yx3 ?_|refine yxa ?_ ?_|refine yxb ?_ ?_)|((with_reducible refine je ?_)<;>exact ynNQ)|(with_reducible refine yxc ?_)|((with_reducible refine yxi (fun hc=>?_) (fun hc=>?_))<;>(try simp (disch:=omega) only [zhb] at hc)<;>(try (exfalso;omega))<;>(try subst hc))|(with_reducible refine yxw ?_)|(simp (config := { maxSteps := 400000 }) only [↓jt,↓reduceIte,zvs,reduceCtorEq,seval,tab,Try.results74,jTA])|(simp (disch:=omega) only [ziw]))
 all_goals (try (exfalso; omega))
 refine ok_loop (fun k : Nat => ⟨slots [(1, .ptr 0 []), (16, encStrs m.fr), (17, .int .i64 m.fr.length), (18, .int .i64 k)], rows [(0, .row machSh (encM m))], 1⟩) (fun k => k ≤ m.fr.length) (fun k => m.fr.length - k) 0 ?_ (Nat.zero_le _) (fun k hk => ?_)
 ·(refine yrn [(0, 0)] false ?_ ?_<;>(repeat' (first|(with_reducible first|exact ya1|exact ya2|exact ya3|refine jx rfl (by first|rfl|assumption|(simp only [znl,znNQ];(first|done|fail)))|exact ya5|exact ya7|exact jy|exact jz|refine jA ?_|refine ya9 ?_ ?_ ?_|refine jC rfl (by first|rfl|assumption|(simp only [znl,znNQ];(first|done|fail)))|refine MR.agg (MRL.cons ?_ ?_)|refine MR.fn ?_|refine MRL.cons ?_ ?_|exact MRL.nil|refine jE ?_ ?_|exact jF|exact jG|refine yb1 ?_ ?_|refine MB.row ?_|refine jI ?_ ?_|exact ya8|refine jJ rfl (by first|rfl|assumption|(simp only [znl,znNQ];(first|done|fail)))|refine yb2 ?_|rfl)|(simp only [znl,znNQ];(first|done|fail))|(simp only [↓reduceIte,zlk,Nat.reduceEqDiff,reduceCtorEq])|(with_reducible first|refine jJ ?_ ?_|refine ya5 ?_|refine ju ?_|refine jv ?_|refine jw ?_|refine jx ?_ (by first|rfl|assumption|(simp only [znl,znNQ];(first|done|fail)))|refine jC ?_ (by first|rfl|assumption|(simp only [znl,znNQ];(first|done|fail)))))))
  all_goals (first | rfl)
 by_cases hlt : k < m.fr.length
 ·have hsk := hs _ (getD_mem' hlt)
  rw [default_str] at hsk
  repeat' (first|(with_reducible first|refine yrl (by constructor) ?_|refine jk (fun M hM=>?_)|(refine hM _ ?_;clear hM M)|refine yx3 ?_|refine yxa ?_ ?_|refine yxb ?_ ?_)|((with_reducible refine je ?_)<;>exact ynNQ)|(with_reducible refine yxc ?_)|((with_reducible refine yxi (fun hc=>?_) (fun hc=>?_))<;>(try simp (disch:=omega) only [zhb] at hc)<;>(try (exfalso;omega))<;>(try subst hc))|(with_reducible refine yxw ?_)|(simp (config := { maxSteps := 400000 }) only [↓jt,↓reduceIte,zvs,reduceCtorEq,seval,tab,hsk,Try.results74,jTA])|(simp (disch:=omega) only [ziw]))
  all_goals first
   | (exfalso; omega)
   | (refine xl1 (k + 1) ?_ (by show k + 1 ≤ m.fr.length; omega) (by show m.fr.length - (k + 1) < m.fr.length - k; omega); (refine yrn [(0, 0)] false ?_ ?_<;>(repeat' (first|(with_reducible first|exact ya1|exact ya2|exact ya3|refine jx rfl (by first|rfl|assumption|(simp only [znl,znNQ];(first|done|fail)))|exact ya5|exact ya7|exact jy|exact jz|refine jA ?_|refine ya9 ?_ ?_ ?_|refine jC rfl (by first|rfl|assumption|(simp only [znl,znNQ];(first|done|fail)))|refine MR.agg (MRL.cons ?_ ?_)|refine MR.fn ?_|refine MRL.cons ?_ ?_|exact MRL.nil|refine jE ?_ ?_|exact jF|exact jG|refine yb1 ?_ ?_|refine MB.row ?_|refine jI ?_ ?_|exact ya8|refine jJ rfl (by first|rfl|assumption|(simp only [znl,znNQ];(first|done|fail)))|refine yb2 ?_|rfl)|(simp only [znl,znNQ];(first|done|fail))|(simp only [↓reduceIte,zlk,Nat.reduceEqDiff,reduceCtorEq])|(with_reducible first|refine jJ ?_ ?_|refine ya5 ?_|refine ju ?_|refine jv ?_|refine jw ?_|refine jx ?_ (by first|rfl|assumption|(simp only [znl,znNQ];(first|done|fail)))|refine jC ?_ (by first|rfl|assumption|(simp only [znl,znNQ];(first|done|fail))))))); done)
 ·obtain rfl : k = m.fr.length := by omega
  repeat' (first|(with_reducible first|refine yrl (by constructor) ?_|refine jk (fun M hM=>?_)|(refine hM _ ?_;clear hM M)|refine yx3 ?_|refine yxa ?_ ?_|refine yxb ?_ ?_)|((with_reducible refine je ?_)<;>exact ynNQ)|(with_reducible refine yxc ?_)|((with_reducible refine yxi (fun hc=>?_) (fun hc=>?_))<;>(try simp (disch:=omega) only [zhb] at hc)<;>(try (exfalso;omega))<;>(try subst hc))|(with_reducible refine yxw ?_)|(simp (config := { maxSteps := 400000 }) only [↓jt,↓reduceIte,zvs,reduceCtorEq,seval,tab,Try.results74,jTA])|(simp (disch:=omega) only [ziw]))
  all_goals first
   | (exfalso; omega)
   | (simp only [zrds]; done)
theorem texts_ok (m : Mach) (h : m.inp.length ≤ 65536 ∧ m.init.length ≤ 128) : Spec Try.prog 77 [encM m] (.int .i64 0) := by
 refine spec_ok Try.func77 rfl rfl (by kernel_rfl) (k := 1) rfl (by decide) ?_
 repeat' (first|(with_reducible first|refine yrl (by constructor) ?_|refine jk (fun M hM=>?_)|(refine hM _ ?_;clear hM M)|refine yx3 ?_|refine yxa ?_ ?_|refine yxb ?_ ?_)|((with_reducible refine je ?_)<;>exact ynNQ)|(with_reducible refine yxc ?_)|((with_reducible refine yxi (fun hc=>?_) (fun hc=>?_))<;>(try simp (disch:=omega) only [zhb] at hc)<;>(try (exfalso;omega))<;>(try subst hc))|(with_reducible refine yxw ?_)|(simp (config := { maxSteps := 400000 }) only [↓jt,↓reduceIte,zvs,reduceCtorEq,seval,tab,Try.results77,jTA])|(simp (disch:=omega) only [ziw]))
 all_goals first
  | (exfalso; omega)
  | (simp only [zrds]; done)
def lastP (l : List Pip) : Nat → Int
 | 0 => 0
 | k + 1 => (l.getD k default).id
theorem pipeB_facts {m : Mach} {k : Nat} (h : pipeB m k = true) : 1 ≤ (m.pipes.getD k default).id ∧ (m.pipes.getD k default).id < m.newp ∧ (m.pipes.getD k default).d.length ≤ 64 ∧ (0 < k → (m.pipes.getD (k - 1) default).id < (m.pipes.getD k default).id) := by
 unfold pipeB longB at h
 simp only [Bool.not_eq_true',Bool.or_eq_false_iff,decide_eq_false_iff_not,Bool.and_eq_false_iff] at h
 omega
theorem lastP_lt {m : Mach} {k : Nat} (h : pipeB m k = true) : lastP m.pipes k < (m.pipes.getD k default).id := by
 have := pipeB_facts h
 cases k with
 | zero => show (0 : Int) < _; omega
 | succ k => have h2 := this.2.2.2 (by omega); rw [Nat.add_sub_cancel] at h2; exact h2
theorem spipes_ok (m : Mach) (hm : MFit 20000 m) (h : m.pipes.length ≤ 64) (hs : pipesB m = true) : Spec Try.prog 76 [encM m] (.int .i64 0) := by
 have hpiR := hm.pipesR
 have hq : ∀ i, i < m.pipes.length → pipeB m i = true := fun i hi => (List.all_eq_true.1 hs) i (List.mem_range.2 hi)
 refine spec_ok Try.func76 rfl rfl (by kernel_rfl) (k := 1) rfl (by decide) ?_
 repeat' (first|(with_reducible first|refine yrl (by constructor) ?_|refine jk (fun M hM=>?_)|(refine hM _ ?_;clear hM M)|refine yx3 ?_|refine yxa ?_ ?_|refine yxb ?_ ?_)|((with_reducible refine je ?_)<;>exact ynNQ)|(with_reducible refine yxc ?_)|((with_reducible refine yxi (fun hc=>?_) (fun hc=>?_))<;>(try simp (disch:=omega) only [zhb] at hc)<;>(try (exfalso;omega))<;>(try subst hc))|(with_reducible refine yxw ?_)|(simp (config := { maxSteps := 400000 }) only [↓jt,↓reduceIte,zvs,reduceCtorEq,seval,tab,Try.results76,jTA])|(simp (disch:=omega) only [ziw]))
 all_goals (try (exfalso; omega))
 refine ok_loop (fun k : Nat => ⟨slots [(1, .ptr 0 []), (3, .int .i64 (lastP m.pipes k)), (11, encPis m.pipes), (12, .int .i64 m.pipes.length), (13, .int .i64 k)], rows [(0, .row machSh (encM m))], 1⟩) (fun k => k ≤ m.pipes.length) (fun k => m.pipes.length - k) 0 ?_ (Nat.zero_le _) (fun k hk => ?_)
 ·(refine yrn [(0, 0)] false ?_ ?_<;>(repeat' (first|(with_reducible first|exact ya1|exact ya2|exact ya3|refine jx rfl (by first|rfl|assumption|(simp only [znl,znNQ];(first|done|fail)))|exact ya5|exact ya7|exact jy|exact jz|refine jA ?_|refine ya9 ?_ ?_ ?_|refine jC rfl (by first|rfl|assumption|(simp only [znl,znNQ];(first|done|fail)))|refine MR.agg (MRL.cons ?_ ?_)|refine MR.fn ?_|refine MRL.cons ?_ ?_|exact MRL.nil|refine jE ?_ ?_|exact jF|exact jG|refine yb1 ?_ ?_|refine MB.row ?_|refine jI ?_ ?_|exact ya8|refine jJ rfl (by first|rfl|assumption|(simp only [znl,znNQ];(first|done|fail)))|refine yb2 ?_|rfl)|(simp only [znl,znNQ];(first|done|fail))|(simp only [↓reduceIte,zlk,Nat.reduceEqDiff,reduceCtorEq])|(with_reducible first|refine jJ ?_ ?_|refine ya5 ?_|refine ju ?_|refine jv ?_|refine jw ?_|refine jx ?_ (by first|rfl|assumption|(simp only [znl,znNQ];(first|done|fail)))|refine jC ?_ (by first|rfl|assumption|(simp only [znl,znNQ];(first|done|fail)))))))
  all_goals (first | rfl)
 by_cases hlt : k < m.pipes.length
 ·obtain ⟨⟨p1, p2⟩, p3⟩ := hpiR _ (getD_mem' hlt)
  have hf := pipeB_facts (hq k hlt)
  have hl := lastP_lt (hq k hlt)
  have hn : lastP m.pipes (k + 1) = (m.pipes.getD k default).id := rfl
  repeat' (first|(with_reducible first|refine yrl (by constructor) ?_|refine jk (fun M hM=>?_)|(refine hM _ ?_;clear hM M)|refine yx3 ?_|refine yxa ?_ ?_|refine yxb ?_ ?_)|((with_reducible refine je ?_)<;>exact ynNQ)|(with_reducible refine yxc ?_)|((with_reducible refine yxi (fun hc=>?_) (fun hc=>?_))<;>(try simp (disch:=omega) only [zhb] at hc)<;>(try (exfalso;omega))<;>(try subst hc))|(with_reducible refine yxw ?_)|(simp (config := { maxSteps := 400000 }) only [↓jt,↓reduceIte,zvs,reduceCtorEq,seval,tab,encPi,Try.results76,jTA])|(simp (disch:=omega) only [ziw]))
  all_goals first
   | (exfalso; omega)
   | (refine xl1 (k + 1) ?_ (by show k + 1 ≤ m.pipes.length; omega) (by show m.pipes.length - (k + 1) < m.pipes.length - k; omega); (refine yrn [(0, 0)] false ?_ ?_<;>(repeat' (first|(with_reducible first|exact ya1|exact ya2|exact ya3|refine jx rfl (by first|rfl|assumption|(simp only [znl,znNQ];(first|done|fail)))|exact ya5|exact ya7|exact jy|exact jz|refine jA ?_|refine ya9 ?_ ?_ ?_|refine jC rfl (by first|rfl|assumption|(simp only [znl,znNQ];(first|done|fail)))|refine MR.agg (MRL.cons ?_ ?_)|refine MR.fn ?_|refine MRL.cons ?_ ?_|exact MRL.nil|refine jE ?_ ?_|exact jF|exact jG|refine yb1 ?_ ?_|refine MB.row ?_|refine jI ?_ ?_|exact ya8|refine jJ rfl (by first|rfl|assumption|(simp only [znl,znNQ];(first|done|fail)))|refine yb2 ?_|rfl)|(simp only [znl,znNQ];(first|done|fail))|(simp only [↓reduceIte,zlk,Nat.reduceEqDiff,reduceCtorEq])|(with_reducible first|refine jJ ?_ ?_|refine ya5 ?_|refine ju ?_|refine jv ?_|refine jw ?_|refine jx ?_ (by first|rfl|assumption|(simp only [znl,znNQ];(first|done|fail)))|refine jC ?_ (by first|rfl|assumption|(simp only [znl,znNQ];(first|done|fail))))))); all_goals (first | rfl | omega))
 ·obtain rfl : k = m.pipes.length := by omega
  repeat' (first|(with_reducible first|refine yrl (by constructor) ?_|refine jk (fun M hM=>?_)|(refine hM _ ?_;clear hM M)|refine yx3 ?_|refine yxa ?_ ?_|refine yxb ?_ ?_)|((with_reducible refine je ?_)<;>exact ynNQ)|(with_reducible refine yxc ?_)|((with_reducible refine yxi (fun hc=>?_) (fun hc=>?_))<;>(try simp (disch:=omega) only [zhb] at hc)<;>(try (exfalso;omega))<;>(try subst hc))|(with_reducible refine yxw ?_)|(simp (config := { maxSteps := 400000 }) only [↓jt,↓reduceIte,zvs,reduceCtorEq,seval,tab,Try.results76,jTA])|(simp (disch:=omega) only [ziw]))
  all_goals first
   | (exfalso; omega)
   | (simp only [zrds]; done)
theorem slives_spec (p : Pr) (hp : PrR p) : Spec Try.prog 136 [encPr p] (.bool (livesP p)) := by
 obtain ⟨hS1, hS2, hS3⟩ := pr3 hp
 unfold livesP
 refine spec_ok Try.func136 rfl rfl (by kernel_rfl) (k := 1) rfl (by decide) ?_
 repeat' (first|(with_reducible first|refine yrl (by constructor) ?_|refine jk (fun M hM=>?_)|(refine hM _ ?_;clear hM M)|refine yx3 ?_|refine yxa ?_ ?_|refine yxb ?_ ?_)|((with_reducible refine je ?_)<;>exact ynNQ)|(with_reducible refine yxc ?_)|((with_reducible refine yxi (fun hc=>?_) (fun hc=>?_))<;>(try simp (disch:=omega) only [zhb] at hc)<;>(try (exfalso;omega))<;>(try subst hc))|(with_reducible refine yxw ?_)|(simp (config := { maxSteps := 400000 }) only [↓jt,↓reduceIte,zvs,reduceCtorEq,seval,tab,hS1,hS2,hS3,encPr,Try.results136,jTA])|(simp (disch:=omega) only [ziw]))
 all_goals first
  | (exfalso; omega)
  | (simp only [zrds]; rw [decide_eq_true (by assumption)]; rfl)
  | (simp only [zrds]; rw [decide_eq_false (by assumption), Bool.false_or]; first | rfl | (rw [Bool.eq_iff_iff]; simp))
theorem fields_ok (m : Mach) (p : Pr) (hp : PrR p) (h : headP m.next p.pid p.st (p.rs.getD 0 default) p.par p.why p.n p.code (livesB m.pr p.par = true)) : Spec Try.prog 109 [encPr p] (.bool true) := by
 obtain ⟨hS1, hS2, hS3⟩ := pr3 hp
 have hL := slives_spec p hp
 have hrl := hp.rs
 unfold headP at h
 have hlv : livesP p = true ↔ (p.st = 1 ∨ p.st = 2) := by simp [livesP]
 simp only [encPr] at hL
 obtain ⟨b, hb⟩ : ∃ b, livesP p = b := ⟨_, rfl⟩
 rw [hb] at hL hlv
 cases b
 all_goals
  simp only [true_iff,Bool.false_eq_true,false_iff] at hlv
  refine spec_ok Try.func109 rfl rfl (by kernel_rfl) (k := 1) rfl (by decide) ?_
  repeat' (first|(with_reducible first|refine yrl (by constructor) ?_|refine jk (fun M hM=>?_)|(refine hM _ ?_;clear hM M)|refine yx3 ?_|refine yxa ?_ ?_|refine yxb ?_ ?_)|((with_reducible refine je ?_)<;>exact ynNQ)|(with_reducible refine yxc ?_)|((with_reducible refine yxi (fun hc=>?_) (fun hc=>?_))<;>(try simp (disch:=omega) only [zhb] at hc)<;>(try (exfalso;omega))<;>(try subst hc))|(with_reducible refine yxw ?_)|(simp (config := { maxSteps := 400000 }) only [↓jt,↓reduceIte,zvs,reduceCtorEq,seval,tab,hS1,hS2,hS3,encPr,Try.results109,jTA])|(simp (disch:=omega) only [ziw]))
  all_goals first
   | (exfalso; omega)
   | (simp only [zrds]; done)
   | (simp only [zrds]; rfl)
   | (simp only [zrds]; rw [Bool.eq_iff_iff]; simp only [beq_iff_eq,true_iff,iff_true]; omega)
end Go.Proofs.Ytpdhdkpebbfnnaa.V
end
section
namespace Go.Proofs.Ytpdhdkpebbfnnaa.V
open Go
theorem ynNR {l : List VV} (h : nls l = true := by first|rfl|assumption|(simp only [znl,znNR];(first|done|fail))) : nls l = true := h
set_option maxRecDepth 100000
def znNR := And.intro @jO <| And.intro @jP <| And.intro @jQ <| And.intro @jR <| And.intro @jS <| And.intro @jT <| And.intro @jU <| True.intro
set_option maxHeartbeats 4000000
def placeI (l : List Pip) (id : Int) : Int := match l.findIdx? (fun p => decide (p.id = id)) with
 | some i => i
 | none => -1
theorem placeI_hit {l : List Pip} {id : Int} {k : Nat} (h : k < l.length) (hn : ∀ j, j < k → (l.getD j default).id ≠ id) (hk : (l.getD k default).id = id) : placeI l id = k := by
 unfold placeI
 rw [show l.findIdx? (fun p => decide (p.id = id)) = some k from ?_]
 rw [List.findIdx?_eq_some_iff_getElem]
 refine ⟨h, ?_, fun j hj => ?_⟩
 ·rw [List.getD_eq_getElem?_getD, List.getElem?_eq_getElem h] at hk
  simpa using hk
 ·have := hn j hj
  rw [List.getD_eq_getElem?_getD, List.getElem?_eq_getElem (by omega)] at this
  simpa using this
theorem placeI_miss {l : List Pip} {id : Int} (hn : ∀ j, j < l.length → (l.getD j default).id ≠ id) : placeI l id = -1 := by
 unfold placeI
 rw [show l.findIdx? (fun p => decide (p.id = id)) = none from ?_]
 rw [List.findIdx?_eq_none_iff]
 intro x hx
 obtain ⟨j, hj, rfl⟩ := List.mem_iff_getElem.1 hx
 have := hn j hj
 rw [List.getD_eq_getElem?_getD, List.getElem?_eq_getElem hj] at this
 simpa using this
theorem placeI_pipe {l : List Pip} {id : Int} (h : (pipeO l id).isSome = true) : 0 ≤ placeI l id := by
 unfold placeI
 cases hf : l.findIdx? (fun p => decide (p.id = id)) with
 | some i => exact Int.natCast_nonneg i
 | none =>
  rw [List.findIdx?_eq_none_iff] at hf
  unfold pipeO at h
  rw [List.find?_isSome] at h
  obtain ⟨x, hx, h2⟩ := h
  rw [hf x hx] at h2
  cases h2
theorem place_spec (m : Mach) (hm : MFit 20000 m) (id : Int) (hp : i64R id) : Spec Try.prog 108 [encM m, .int .i64 id] (.int .i64 (placeI m.pipes id)) := by
 obtain ⟨R, hR⟩ : ∃ R, R = placeI m.pipes id := ⟨_, rfl⟩
 rw [← hR]
 have hl := hm.pipes
 have hpR := hm.pipesR
 obtain ⟨hp1, hp2⟩ := hp
 refine spec_ok Try.func108 rfl rfl (by kernel_rfl) (k := 2) rfl (by decide) ?_
 repeat' (first|(with_reducible first|refine yrl (by constructor) ?_|refine jk (fun M hM=>?_)|(refine hM _ ?_;clear hM M)|refine yx3 ?_|refine yxa ?_ ?_|refine yxb ?_ ?_)|((with_reducible refine je ?_)<;>exact ynNR)|(with_reducible refine yxc ?_)|((with_reducible refine yxi (fun hc=>?_) (fun hc=>?_))<;>(try simp (disch:=omega) only [zhb] at hc)<;>(try (exfalso;omega))<;>(try subst hc))|(with_reducible refine yxw ?_)|(simp (config := { maxSteps := 400000 }) only [↓jt,↓reduceIte,zvs,reduceCtorEq,seval,tab,Try.results108,jTA])|(simp (disch:=omega) only [ziw]))
 refine ja (ok_body Try.func134 rfl rfl (by kernel_rfl) (k := 2) (by rfl) (by decide) ?_)
 repeat' (first|(with_reducible first|refine yrl (by constructor) ?_|refine jk (fun M hM=>?_)|(refine hM _ ?_;clear hM M)|refine yx3 ?_|refine yxa ?_ ?_|refine yxb ?_ ?_)|((with_reducible refine je ?_)<;>exact ynNR)|(with_reducible refine yxc ?_)|((with_reducible refine yxi (fun hc=>?_) (fun hc=>?_))<;>(try simp (disch:=omega) only [zhb] at hc)<;>(try (exfalso;omega))<;>(try subst hc))|(with_reducible refine yxw ?_)|(simp (config := { maxSteps := 400000 }) only [↓jt,↓reduceIte,zvs,reduceCtorEq,seval,tab,Try.results134, List.toList_toArray])|(simp (disch:=omega) only [ziw]))
 refine ok_loop (fun k : Nat => ⟨slots [(0, encPis m.pipes), (1, .fn 135 [.ptr 1 []]), (6, encPis m.pipes), (7, .int .i64 m.pipes.length), (8, .int .i64 k)], rows [(0, .row machSh (encM m)), (1, .row .cell (.int .i64 id))], 2⟩) (fun k => k ≤ m.pipes.length ∧ ∀ j, j < k → (m.pipes.getD j default).id ≠ id) (fun k => m.pipes.length - k) 0 ?_ ⟨Nat.zero_le _, fun j hj => by omega⟩ (fun k hk => ?_)
 ·(refine yrn [] false ?_ ?_<;>(repeat' (first|(with_reducible first|exact ya1|exact ya2|exact ya3|refine jx rfl (by first|rfl|assumption|(simp only [znl,znNR];(first|done|fail)))|exact ya5|exact ya7|exact jy|exact jz|refine jA ?_|refine ya9 ?_ ?_ ?_|refine jC rfl (by first|rfl|assumption|(simp only [znl,znNR];(first|done|fail)))|refine MR.agg (MRL.cons ?_ ?_)|refine MR.fn ?_|refine MRL.cons ?_ ?_|exact MRL.nil|refine jE ?_ ?_|exact jF|exact jG|refine yb1 ?_ ?_|refine MB.row ?_|refine jI ?_ ?_|exact ya8|refine jJ rfl (by first|rfl|assumption|(simp only [znl,znNR];(first|done|fail)))|refine yb2 ?_|rfl)|(simp only [znl,znNR];(first|done|fail))|(simp only [↓reduceIte,zlk,Nat.reduceEqDiff,reduceCtorEq])|(with_reducible first|refine jJ ?_ ?_|refine ya5 ?_|refine ju ?_|refine jv ?_|refine jw ?_|refine jx ?_ (by first|rfl|assumption|(simp only [znl,znNR];(first|done|fail)))|refine jC ?_ (by first|rfl|assumption|(simp only [znl,znNR];(first|done|fail)))))))
  all_goals (first | rfl)
 obtain ⟨hk, hn⟩ := hk
 by_cases hlt : k < m.pipes.length
 ·obtain ⟨⟨p1, p2⟩, p3⟩ := hpR _ (getD_mem' hlt)
  by_cases hq : (m.pipes.getD k default).id = id
  ·have eR : R = k := by rw [hR, placeI_hit hlt hn hq]
   clear hR
   repeat' (first|(with_reducible first|refine yrl (by constructor) ?_|refine jk (fun M hM=>?_)|(refine hM _ ?_;clear hM M)|refine yx3 ?_|refine yxa ?_ ?_|refine yxb ?_ ?_)|((with_reducible refine je ?_)<;>exact ynNR)|(with_reducible refine yxc ?_)|((with_reducible refine yxi (fun hc=>?_) (fun hc=>?_))<;>(try simp (disch:=omega) only [zhb] at hc)<;>(try (exfalso;omega))<;>(try subst hc))|(with_reducible refine yxw ?_)|(simp (config := { maxSteps := 400000 }) only [↓jt,↓reduceIte,zvs,reduceCtorEq,seval,tab,encPi,Try.results134, List.toList_toArray])|(simp (disch:=omega) only [ziw]))
   refine ja (ok_body Try.func135 rfl rfl (by kernel_rfl) (k := 2) (by rfl) (by decide) ?_)
   repeat' (first|(with_reducible first|refine yrl (by constructor) ?_|refine jk (fun M hM=>?_)|(refine hM _ ?_;clear hM M)|refine yx3 ?_|refine yxa ?_ ?_|refine yxb ?_ ?_)|((with_reducible refine je ?_)<;>exact ynNR)|(with_reducible refine yxc ?_)|((with_reducible refine yxi (fun hc=>?_) (fun hc=>?_))<;>(try simp (disch:=omega) only [zhb] at hc)<;>(try (exfalso;omega))<;>(try subst hc))|(with_reducible refine yxw ?_)|(simp (config := { maxSteps := 400000 }) only [↓jt,↓reduceIte,zvs,reduceCtorEq,seval,tab,encPi,Try.results135,Try.results134, Try.results108, List.toList_toArray])|(simp (disch:=omega) only [ziw]))
   all_goals first
    | (exfalso; omega)
    | (rw [eR]; simp only [zrds]; done)
  ·have hst : ∀ j, j < k + 1 → (m.pipes.getD j default).id ≠ id := fun j hj => by
    by_cases e : j = k
    ·rw [e]; exact hq
    ·exact hn j (by omega)
   repeat' (first|(with_reducible first|refine yrl (by constructor) ?_|refine jk (fun M hM=>?_)|(refine hM _ ?_;clear hM M)|refine yx3 ?_|refine yxa ?_ ?_|refine yxb ?_ ?_)|((with_reducible refine je ?_)<;>exact ynNR)|(with_reducible refine yxc ?_)|((with_reducible refine yxi (fun hc=>?_) (fun hc=>?_))<;>(try simp (disch:=omega) only [zhb] at hc)<;>(try (exfalso;omega))<;>(try subst hc))|(with_reducible refine yxw ?_)|(simp (config := { maxSteps := 400000 }) only [↓jt,↓reduceIte,zvs,reduceCtorEq,seval,tab,encPi,Try.results134, List.toList_toArray])|(simp (disch:=omega) only [ziw]))
   refine ja (ok_body Try.func135 rfl rfl (by kernel_rfl) (k := 2) (by rfl) (by decide) ?_)
   repeat' (first|(with_reducible first|refine yrl (by constructor) ?_|refine jk (fun M hM=>?_)|(refine hM _ ?_;clear hM M)|refine yx3 ?_|refine yxa ?_ ?_|refine yxb ?_ ?_)|((with_reducible refine je ?_)<;>exact ynNR)|(with_reducible refine yxc ?_)|((with_reducible refine yxi (fun hc=>?_) (fun hc=>?_))<;>(try simp (disch:=omega) only [zhb] at hc)<;>(try (exfalso;omega))<;>(try subst hc))|(with_reducible refine yxw ?_)|(simp (config := { maxSteps := 400000 }) only [↓jt,↓reduceIte,zvs,reduceCtorEq,seval,tab,encPi,Try.results135,Try.results134, Try.results108, List.toList_toArray])|(simp (disch:=omega) only [ziw]))
   all_goals first
    | (exfalso; omega)
    | (exfalso; exact hq rfl)
    | (refine xl1 (k + 1) ?_ ⟨by omega, hst⟩ (by show m.pipes.length - (k + 1) < m.pipes.length - k; omega); (refine yrn [] false ?_ ?_<;>(repeat' (first|(with_reducible first|exact ya1|exact ya2|exact ya3|refine jx rfl (by first|rfl|assumption|(simp only [znl,znNR];(first|done|fail)))|exact ya5|exact ya7|exact jy|exact jz|refine jA ?_|refine ya9 ?_ ?_ ?_|refine jC rfl (by first|rfl|assumption|(simp only [znl,znNR];(first|done|fail)))|refine MR.agg (MRL.cons ?_ ?_)|refine MR.fn ?_|refine MRL.cons ?_ ?_|exact MRL.nil|refine jE ?_ ?_|exact jF|exact jG|refine yb1 ?_ ?_|refine MB.row ?_|refine jI ?_ ?_|exact ya8|refine jJ rfl (by first|rfl|assumption|(simp only [znl,znNR];(first|done|fail)))|refine yb2 ?_|rfl)|(simp only [znl,znNR];(first|done|fail))|(simp only [↓reduceIte,zlk,Nat.reduceEqDiff,reduceCtorEq])|(with_reducible first|refine jJ ?_ ?_|refine ya5 ?_|refine ju ?_|refine jv ?_|refine jw ?_|refine jx ?_ (by first|rfl|assumption|(simp only [znl,znNR];(first|done|fail)))|refine jC ?_ (by first|rfl|assumption|(simp only [znl,znNR];(first|done|fail))))))); done)
 ·obtain rfl : k = m.pipes.length := by omega
  have eR : R = -1 := by rw [hR, placeI_miss hn]
  clear hR
  repeat' (first|(with_reducible first|refine yrl (by constructor) ?_|refine jk (fun M hM=>?_)|(refine hM _ ?_;clear hM M)|refine yx3 ?_|refine yxa ?_ ?_|refine yxb ?_ ?_)|((with_reducible refine je ?_)<;>exact ynNR)|(with_reducible refine yxc ?_)|((with_reducible refine yxi (fun hc=>?_) (fun hc=>?_))<;>(try simp (disch:=omega) only [zhb] at hc)<;>(try (exfalso;omega))<;>(try subst hc))|(with_reducible refine yxw ?_)|(simp (config := { maxSteps := 400000 }) only [↓jt,↓reduceIte,zvs,reduceCtorEq,seval,tab,Try.results134, Try.results108, List.toList_toArray])|(simp (disch:=omega) only [ziw]))
  all_goals first
   | (exfalso; omega)
   | (rw [eR]; simp only [zrds]; done)
theorem file_ok (m : Mach) (hm : MFit 20000 m) (f : Fdd) (hf : fdR f) (h : fdB m.pipes f = true) (h0 : ¬(f.kind = 0)) : Spec Try.prog 111 [encM m, encFd f] (.bool true) := by
 have hP := place_spec m hm f.n hf.2.1
 obtain ⟨⟨f1, f2⟩, ⟨f3, f4⟩, f5, f6⟩ := hf
 have hk : ((f.kind = 1 ∨ f.kind = 2) ∧ f.n = 0 ∧ f.pos = 0) ∨ (f.kind = 3 ∧ 1 ≤ f.n ∧ f.n ≤ 64 ∧ 0 ≤ f.pos ∧ f.pos ≤ 8960) ∨ ((f.kind = 4 ∨ f.kind = 5) ∧ f.pos = 0 ∧ 0 ≤ placeI m.pipes f.n) := by
  unfold fdB at h
  split at h
  ·have := of_decide_eq_true h; omega
  ·split at h
   ·have := of_decide_eq_true h; omega
   ·split at h
    ·rw [Bool.and_eq_true] at h
     have h1 := of_decide_eq_true h.1
     have h2 := placeI_pipe h.2
     omega
    ·cases h
 generalize placeI m.pipes f.n = pl at hP hk
 refine spec_ok Try.func111 rfl rfl (by kernel_rfl) (k := 2) rfl (by decide) ?_
 repeat' (first|(with_reducible first|refine yrl (by constructor) ?_|refine jk (fun M hM=>?_)|(refine hM _ ?_;clear hM M)|refine yx3 ?_|refine yxa ?_ ?_|refine yxb ?_ ?_)|((with_reducible refine je ?_)<;>exact ynNR)|(with_reducible refine yxc ?_)|((with_reducible refine yxi (fun hc=>?_) (fun hc=>?_))<;>(try simp (disch:=omega) only [zhb] at hc)<;>(try (exfalso;omega))<;>(try subst hc))|(with_reducible refine yxw ?_)|(simp (config := { maxSteps := 400000 }) only [↓jt,↓reduceIte,zvs,reduceCtorEq,seval,tab,encFd,Try.results111,jTA])|(simp (disch:=omega) only [ziw]))
 all_goals first
  | (exfalso; omega)
  | (simp only [zrds]; done)
  | (simp only [zrds]; rw [Bool.eq_iff_iff]; simp only [beq_iff_eq,decide_eq_true_eq,true_iff,iff_true]; omega)
theorem parent_ok (m : Mach) (hm : MFit 20000 m) (p : Pr) (hp : PrR p) (h : livesB m.pr p.par = true ∨ (p.par = 0 ∧ livesP p = true)) : Spec Try.prog 110 [encM m, encPr p] (.bool true) := by
 have hl := hm.pr
 have hpR := hm.prR
 obtain ⟨hS1, hS2, hS3⟩ := pr3 hp
 have hL := slives_spec p hp
 simp only [encPr] at hL
 by_cases h1 : p.par = 0 ∧ livesP p = true
 ·rw [h1.2] at hL
  have h1 := h1.1
  refine spec_ok Try.func110 rfl rfl (by kernel_rfl) (k := 2) rfl (by decide) ?_
  repeat' (first|(with_reducible first|refine yrl (by constructor) ?_|refine jk (fun M hM=>?_)|(refine hM _ ?_;clear hM M)|refine yx3 ?_|refine yxa ?_ ?_|refine yxb ?_ ?_)|((with_reducible refine je ?_)<;>exact ynNR)|(with_reducible refine yxc ?_)|((with_reducible refine yxi (fun hc=>?_) (fun hc=>?_))<;>(try simp (disch:=omega) only [zhb] at hc)<;>(try (exfalso;omega))<;>(try subst hc))|(with_reducible refine yxw ?_)|(simp (config := { maxSteps := 400000 }) only [↓jt,↓reduceIte,zvs,reduceCtorEq,seval,tab,hS1,hS2,hS3,encPr,Try.results110,jTA])|(simp (disch:=omega) only [ziw]))
  all_goals first
   | (exfalso; omega)
   | (simp only [zrds]; done)
 ·have h2 : livesB m.pr p.par = true := by
   rcases h with h | h
   ·exact h
   ·exact absurd h h1
  obtain ⟨b, hb⟩ : ∃ b, livesP p = b := ⟨_, rfl⟩
  rw [hb] at hL h1
  have h1 : b = true → p.par ≠ 0 := fun e h => h1 ⟨h, e⟩
  have hex : ∃ k, k < m.pr.length ∧ livesQ p.par (m.pr.getD k default) = true := by
   unfold livesB at h2
   rw [List.any_eq_true] at h2
   obtain ⟨x, hx, h3⟩ := h2
   obtain ⟨j, hj, rfl⟩ := List.mem_iff_getElem.1 hx
   refine ⟨j, hj, ?_⟩
   rw [List.getD_eq_getElem?_getD, List.getElem?_eq_getElem hj]
   exact h3
  cases b
  all_goals
   first | have h1 := h1 rfl | skip
   refine spec_ok Try.func110 rfl rfl (by kernel_rfl) (k := 2) rfl (by decide) ?_
   repeat' (first|(with_reducible first|refine yrl (by constructor) ?_|refine jk (fun M hM=>?_)|(refine hM _ ?_;clear hM M)|refine yx3 ?_|refine yxa ?_ ?_|refine yxb ?_ ?_)|((with_reducible refine je ?_)<;>exact ynNR)|(with_reducible refine yxc ?_)|((with_reducible refine yxi (fun hc=>?_) (fun hc=>?_))<;>(try simp (disch:=omega) only [zhb] at hc)<;>(try (exfalso;omega))<;>(try subst hc))|(with_reducible refine yxw ?_)|(simp (config := { maxSteps := 400000 }) only [↓jt,↓reduceIte,zvs,reduceCtorEq,seval,tab,hS1,hS2,hS3,encPr,Try.results110,jTA])|(simp (disch:=omega) only [ziw]))
   all_goals (try (exfalso; omega))
   all_goals
    refine ja (ok_body Try.func47 rfl rfl (by kernel_rfl) (k := 2) (by rfl) (by decide) ?_)
    repeat' (first|(with_reducible first|refine yrl (by constructor) ?_|refine jk (fun M hM=>?_)|(refine hM _ ?_;clear hM M)|refine yx3 ?_|refine yxa ?_ ?_|refine yxb ?_ ?_)|((with_reducible refine je ?_)<;>exact ynNR)|(with_reducible refine yxc ?_)|((with_reducible refine yxi (fun hc=>?_) (fun hc=>?_))<;>(try simp (disch:=omega) only [zhb] at hc)<;>(try (exfalso;omega))<;>(try subst hc))|(with_reducible refine yxw ?_)|(simp (config := { maxSteps := 400000 }) only [↓jt,↓reduceIte,zvs,reduceCtorEq,seval,tab,Try.results47, List.toList_toArray])|(simp (disch:=omega) only [ziw]))
    refine ja (ok_body Try.func53 rfl rfl (by kernel_rfl) (k := 2) (by rfl) (by decide) ?_)
    repeat' (first|(with_reducible first|refine yrl (by constructor) ?_|refine jk (fun M hM=>?_)|(refine hM _ ?_;clear hM M)|refine yx3 ?_|refine yxa ?_ ?_|refine yxb ?_ ?_)|((with_reducible refine je ?_)<;>exact ynNR)|(with_reducible refine yxc ?_)|((with_reducible refine yxi (fun hc=>?_) (fun hc=>?_))<;>(try simp (disch:=omega) only [zhb] at hc)<;>(try (exfalso;omega))<;>(try subst hc))|(with_reducible refine yxw ?_)|(simp (config := { maxSteps := 400000 }) only [↓jt,↓reduceIte,zvs,reduceCtorEq,seval,tab,Try.results53, List.toList_toArray])|(simp (disch:=omega) only [ziw]))
    refine ok_loop (fun k : Nat => ⟨slots [(0, encPrs m.pr), (1, .fn 137 [.ptr 1 []]), (6, encPrs m.pr), (7, .int .i64 m.pr.length), (8, .int .i64 k)], rows [(0, .row machSh (encM m)), (1, .row prSh (encPrA p))], 2⟩) (fun k => k ≤ m.pr.length ∧ ∀ j, j < k → livesQ p.par (m.pr.getD j default) = false) (fun k => m.pr.length - k) 0 ?_ ⟨Nat.zero_le _, fun j hj => by omega⟩ (fun k hk => ?_)
    ·(refine yrn [] false ?_ ?_<;>(repeat' (first|(with_reducible first|exact ya1|exact ya2|exact ya3|refine jx rfl (by first|rfl|assumption|(simp only [znl,znNR];(first|done|fail)))|exact ya5|exact ya7|exact jy|exact jz|refine jA ?_|refine ya9 ?_ ?_ ?_|refine jC rfl (by first|rfl|assumption|(simp only [znl,znNR];(first|done|fail)))|refine MR.agg (MRL.cons ?_ ?_)|refine MR.fn ?_|refine MRL.cons ?_ ?_|exact MRL.nil|refine jE ?_ ?_|exact jF|exact jG|refine yb1 ?_ ?_|refine MB.row ?_|refine jI ?_ ?_|exact ya8|refine jJ rfl (by first|rfl|assumption|(simp only [znl,znNR];(first|done|fail)))|refine yb2 ?_|rfl)|(simp only [znl,znNR];(first|done|fail))|(simp only [↓reduceIte,zlk,Nat.reduceEqDiff,reduceCtorEq])|(with_reducible first|refine jJ ?_ ?_|refine ya5 ?_|refine ju ?_|refine jv ?_|refine jw ?_|refine jx ?_ (by first|rfl|assumption|(simp only [znl,znNR];(first|done|fail)))|refine jC ?_ (by first|rfl|assumption|(simp only [znl,znNR];(first|done|fail)))))))
     all_goals (first | rfl)
    obtain ⟨hk, hn⟩ := hk
    obtain ⟨k0, hk0, hk1⟩ := hex
    have hlt : k < m.pr.length := by
     refine Decidable.byContradiction fun hc => ?_
     have := hn k0 (by omega)
     rw [hk1] at this; cases this
    have hb := hpR _ (getD_mem' hlt)
    obtain ⟨hT1, hT2, hT3⟩ := pr3 hb
    have hLq := slives_spec _ hb
    simp only [encPr] at hLq
    have hQd : livesQ p.par (m.pr.getD k default) = (decide ((m.pr.getD k default).pid = p.par) && livesP (m.pr.getD k default)) := rfl
    obtain ⟨c, hcc⟩ : ∃ c, livesP (m.pr.getD k default) = c := ⟨_, rfl⟩
    rw [hcc] at hLq hQd
    have hst : livesQ p.par (m.pr.getD k default) = false → ∀ j, j < k + 1 → livesQ p.par (m.pr.getD j default) = false := fun h j hj => by
     by_cases e : j = k
     ·rw [e]; exact h
     ·exact hn j (by omega)
    rw [hQd] at hst
    cases c
    all_goals
     repeat' (first|(with_reducible first|refine yrl (by constructor) ?_|refine jk (fun M hM=>?_)|(refine hM _ ?_;clear hM M)|refine yx3 ?_|refine yxa ?_ ?_|refine yxb ?_ ?_)|((with_reducible refine je ?_)<;>exact ynNR)|(with_reducible refine yxc ?_)|((with_reducible refine yxi (fun hc=>?_) (fun hc=>?_))<;>(try simp (disch:=omega) only [zhb] at hc)<;>(try (exfalso;omega))<;>(try subst hc))|(with_reducible refine yxw ?_)|(simp (config := { maxSteps := 400000 }) only [↓jt,↓reduceIte,zvs,reduceCtorEq,seval,tab,hT1,hT2,hT3,encPr,Try.results53, List.toList_toArray])|(simp (disch:=omega) only [ziw]))
     refine ja (ok_body Try.func137 rfl rfl (by kernel_rfl) (k := 2) (by rfl) (by decide) ?_)
     repeat' (first|(with_reducible first|refine yrl (by constructor) ?_|refine jk (fun M hM=>?_)|(refine hM _ ?_;clear hM M)|refine yx3 ?_|refine yxa ?_ ?_|refine yxb ?_ ?_)|((with_reducible refine je ?_)<;>exact ynNR)|(with_reducible refine yxc ?_)|((with_reducible refine yxi (fun hc=>?_) (fun hc=>?_))<;>(try simp (disch:=omega) only [zhb] at hc)<;>(try (exfalso;omega))<;>(try subst hc))|(with_reducible refine yxw ?_)|(simp (config := { maxSteps := 400000 }) only [↓jt,↓reduceIte,zvs,reduceCtorEq,seval,tab,hT1,hT2,hT3,encPr,Try.results137,Try.results53, Try.results47, Try.results110, List.toList_toArray])|(simp (disch:=omega) only [ziw]))
     all_goals first
      | (exfalso; omega)
      | (simp only [zrds]; done)
      | (simp only [zrds]; first | exact decide_eq_true (by omega) | exact (decide_eq_true (by omega)).symm)
      | (refine xl1 (k + 1) ?_ ⟨by omega, hst (by first | rfl | (rw [Bool.and_false]) | (rw [decide_eq_false (by omega)]; rfl))⟩ (by show m.pr.length - (k + 1) < m.pr.length - k; omega); (refine yrn [] false ?_ ?_<;>(repeat' (first|(with_reducible first|exact ya1|exact ya2|exact ya3|refine jx rfl (by first|rfl|assumption|(simp only [znl,znNR];(first|done|fail)))|exact ya5|exact ya7|exact jy|exact jz|refine jA ?_|refine ya9 ?_ ?_ ?_|refine jC rfl (by first|rfl|assumption|(simp only [znl,znNR];(first|done|fail)))|refine MR.agg (MRL.cons ?_ ?_)|refine MR.fn ?_|refine MRL.cons ?_ ?_|exact MRL.nil|refine jE ?_ ?_|exact jF|exact jG|refine yb1 ?_ ?_|refine MB.row ?_|refine jI ?_ ?_|exact ya8|refine jJ rfl (by first|rfl|assumption|(simp only [znl,znNR];(first|done|fail)))|refine yb2 ?_|rfl)|(simp only [znl,znNR];(first|done|fail))|(simp only [↓reduceIte,zlk,Nat.reduceEqDiff,reduceCtorEq])|(with_reducible first|refine jJ ?_ ?_|refine ya5 ?_|refine ju ?_|refine jv ?_|refine jw ?_|refine jx ?_ (by first|rfl|assumption|(simp only [znl,znNR];(first|done|fail)))|refine jC ?_ (by first|rfl|assumption|(simp only [znl,znNR];(first|done|fail))))))); done)
end Go.Proofs.Ytpdhdkpebbfnnaa.V
end
section
namespace Go.Proofs.Ytpdhdkpebbfnnaa.V
open Go
set_option maxRecDepth 100000
set_option maxHeartbeats 4000000
def endsS (k id : Int) (l : List Fdd) : Nat := l.countP fun f => decide (f.kind = k) && decide (f.n = id)
def endsN (l : List Pr) (k id : Int) : Nat := (l.map fun p => endsS k id p.fds).sum
theorem endsS_snoc (k id : Int) (s : List Fdd) (x : Fdd) : endsS k id (s ++ [x]) = endsS k id s + if x.kind = k ∧ x.n = id then 1 else 0 := by
 simp only [endsS,List.countP_append,List.countP_cons,List.countP_nil,Nat.zero_add]
 congr 1
 by_cases h1 : x.kind = k <;> by_cases h2 : x.n = id <;> simp [h1, h2]
theorem endsS_le (k id : Int) (s : List Fdd) : endsS k id s ≤ s.length := List.countP_le_length
theorem endsN_snoc (l : List Pr) (p : Pr) (k id : Int) : endsN (l ++ [p]) k id = endsN l k id + endsS k id p.fds := by
 simp [endsN]
theorem endsN_le (k id : Int) : ∀ (l : List Pr), (∀ p ∈ l, p.fds.length = 8) → endsN l k id ≤ 8 * l.length
 | [], _ => Nat.le_refl _
 | p :: l, h => by
  have h1 := endsN_le k id l fun q hq => h q (by simp [hq])
  have h2 := endsS_le k id p.fds
  have h3 := h p (by simp)
  have e : endsN (p :: l) k id = endsS k id p.fds + endsN l k id := by simp [endsN]
  rw [e, List.length_cons]
  omega
end Go.Proofs.Ytpdhdkpebbfnnaa.V
end
section
namespace Go.Proofs.Ytpdhdkpebbfnnaa.V
open Go
set_option maxRecDepth 100000
set_option maxHeartbeats 4000000
def pipM (m : Mach) (ps : List Pip) (np : Int) : Mach := { m with pipes := ps, newp := np }
def endB (m : Mach) (p : Pip) : Bool := decide (0 < endsN m.pr 4 p.id + endsN m.pr 5 p.id)
def sweepM (m : Mach) : Mach := pipM m (m.pipes.filter (endB m)) m.newp
structure PipesOk (ps : List Pip) (np : Int) : Prop where
 pos : ∀ p ∈ ps, 1 ≤ p.id
 lt : ∀ p ∈ ps, p.id < np
 inc : ps.Pairwise fun a b => a.id < b.id
 few : ∀ p ∈ ps, p.d.length ≤ 64
theorem pipesB_iff (m : Mach) : pipesB m = true ↔ PipesOk m.pipes m.newp := by
 have hq : ∀ i, pipeB m i = true ↔ (1 ≤ (m.pipes.getD i default).id ∧ (m.pipes.getD i default).id < m.newp ∧ (0 < i → (m.pipes.getD (i - 1) default).id < (m.pipes.getD i default).id) ∧ (m.pipes.getD i default).d.length ≤ 64) := fun i => by
  unfold pipeB longB
  by_cases h0 : 0 < i
  ·rw [decide_eq_true h0]
   simp only [Bool.true_and,Bool.not_eq_true',Bool.or_eq_false_iff,decide_eq_false_iff_not]
   constructor
   ·rintro ⟨⟨⟨a, b⟩, c⟩, d⟩
    exact ⟨by omega, by omega, fun _ => by omega, by omega⟩
   ·rintro ⟨a, b, c, d⟩
    have := c h0
    exact ⟨⟨⟨by omega, by omega⟩, by omega⟩, by omega⟩
  ·rw [decide_eq_false h0]
   simp only [Bool.false_and,Bool.or_false,Bool.not_eq_true',Bool.or_eq_false_iff,decide_eq_false_iff_not]
   constructor
   ·rintro ⟨⟨a, b⟩, d⟩
    exact ⟨by omega, by omega, fun h => absurd h h0, by omega⟩
   ·rintro ⟨a, b, c, d⟩
    exact ⟨⟨by omega, by omega⟩, by omega⟩
 have ge : ∀ i (h : i < m.pipes.length), m.pipes.getD i default = m.pipes[i] := fun i h => by
  rw [List.getD_eq_getElem?_getD, List.getElem?_eq_getElem h]; rfl
 unfold pipesB
 rw [List.all_eq_true]
 constructor
 ·intro h
  have h : ∀ i, i < m.pipes.length → (1 ≤ (m.pipes.getD i default).id ∧ (m.pipes.getD i default).id < m.newp ∧ (0 < i → (m.pipes.getD (i - 1) default).id < (m.pipes.getD i default).id) ∧ (m.pipes.getD i default).d.length ≤ 64) := fun i hi => (hq i).1 (h i (List.mem_range.2 hi))
  have hm : ∀ p ∈ m.pipes, ∃ i, i < m.pipes.length ∧ m.pipes.getD i default = p := fun p hp => by
   obtain ⟨i, hi, rfl⟩ := List.mem_iff_getElem.1 hp
   exact ⟨i, hi, ge i hi⟩
  refine ⟨fun p hp => ?_, fun p hp => ?_, ?_, fun p hp => ?_⟩
  ·obtain ⟨i, hi, rfl⟩ := hm p hp; exact (h i hi).1
  ·obtain ⟨i, hi, rfl⟩ := hm p hp; exact (h i hi).2.1
  ·rw [List.pairwise_iff_getElem]
   have key : ∀ d i, i + d + 1 < m.pipes.length → (m.pipes.getD i default).id < (m.pipes.getD (i + d + 1) default).id := by
    intro d
    induction d with
    | zero =>
     intro i hi
     have := (h (i + 1) hi).2.2.1 (by omega)
     rwa [Nat.add_sub_cancel] at this
    | succ d ih =>
     intro i hi
     have h1 := ih i (by omega)
     have h2 := (h (i + (d + 1) + 1) hi).2.2.1 (by omega)
     rw [Nat.add_sub_cancel] at h2
     rw [show i + (d + 1) = i + d + 1 by omega] at h2 ⊢
     omega
   intro i j hi hj hij
   have := key (j - i - 1) i (by omega)
   rw [show i + (j - i - 1) + 1 = j by omega, ge i hi, ge j hj] at this
   exact this
  ·obtain ⟨i, hi, rfl⟩ := hm p hp; exact (h i hi).2.2.2
 ·intro h i hi
  have hi := List.mem_range.1 hi
  rw [hq]
  have h1 := getD_mem' hi
  refine ⟨h.pos _ h1, h.lt _ h1, fun h0 => ?_, h.few _ h1⟩
  have := (List.pairwise_iff_getElem.1 h.inc) (i - 1) i (by omega) hi (by omega)
  rw [ge i hi, ge (i - 1) (by omega)]
  exact this
theorem chk_pipes {m : Mach} (h : chkM m = 0) {ps : List Pip} {np : Int} (hnp : m.newp ≤ np ∧ np ≤ 1000000000) (hlen : ps.length ≤ 64) (hok : PipesOk ps np) (hfd : ∀ p ∈ m.pr, ∀ f ∈ p.fds, fdB m.pipes f = true → fdB ps f = true) : chkM (pipM m ps np) = 0 := by
 obtain ⟨h1, h2, h3, h4, h5, h6, h7, h8, h9, h10⟩ := chk_parts h
 have hP : procsB (pipM m ps np) = true := by
  unfold procsB
  rw [List.all_eq_true]
  intro i hi
  have hi' : i < m.pr.length := List.mem_range.1 hi
  have hq := (List.all_eq_true.1 h5) i hi
  rw [Bool.and_eq_true] at hq ⊢
  refine ⟨hq.1, ?_⟩
  have hq := hq.2
  unfold procB at hq ⊢
  rw [Bool.and_eq_true, Bool.and_eq_true] at hq ⊢
  refine ⟨⟨hq.1.1, hq.1.2⟩, ?_⟩
  rw [List.all_eq_true]
  intro f hf
  have h0 := (List.all_eq_true.1 hq.2) f hf
  unfold fdsB at h0 ⊢
  rw [Bool.and_eq_true] at h0 ⊢
  exact ⟨hfd _ (getD_mem' hi') f hf h0.1, h0.2⟩
 have hN : numB (pipM m ps np) = false := by
  unfold numB at h1 ⊢
  have h1 := of_decide_eq_false h1
  refine decide_eq_false ?_
  show ¬(m.quantum < 1 ∨ 1000 < m.quantum ∨ m.left < 0 ∨ m.quantum < m.left ∨ m.cur < 0 ∨ m.next < 1 ∨ 1000000000 < m.next ∨ np < 1 ∨ 1000000000 < np)
  omega
 have hB : pipesB (pipM m ps np) = true := (pipesB_iff _).2 hok
 unfold chkM
 rw [if_neg (by rw [hN]; simp), if_neg (by show ¬(m.fr.length < 1 ∨ 64 < m.fr.length); omega), if_neg, if_neg (by show ¬(8 < m.pr.length); omega), if_neg (by rw [hP]; simp), if_neg (by show ¬(64 < ps.length); omega), if_neg (by rw [hB]; simp), if_neg (by show ¬(65536 < m.inp.length ∨ 128 < m.init.length); omega)]
 ·exact h10
 ·show ¬((m.fr.any fun s => decide (s.length ≠ 128)) = true)
  intro hx
  rw [List.any_eq_true] at hx
  obtain ⟨s, hs1, hs2⟩ := hx
  exact (of_decide_eq_true hs2) (h3 s hs1)
theorem fdB_mono {l l' : List Pip} {f : Fdd} (h : (pipeO l f.n).isSome = true → (pipeO l' f.n).isSome = true) (hf : fdB l f = true) : fdB l' f = true := by
 unfold fdB at hf ⊢
 split
 ·rename_i c; rw [if_pos c] at hf; exact hf
 ·rename_i c
  rw [if_neg c] at hf
  split
  ·rename_i c2; rw [if_pos c2] at hf; exact hf
  ·rename_i c2
   rw [if_neg c2] at hf
   split
   ·rename_i c3
    rw [if_pos c3] at hf
    rw [Bool.and_eq_true] at hf ⊢
    exact ⟨hf.1, h hf.2⟩
   ·rename_i c3; rw [if_neg c3] at hf; exact hf
theorem pipeO_isSome {l : List Pip} {id : Int} : (pipeO l id).isSome = true ↔ ∃ p ∈ l, p.id = id := by
 unfold pipeO
 rw [List.find?_isSome]
 simp
theorem le_sum_mem : ∀ {l : List Nat} {n : Nat}, n ∈ l → n ≤ l.sum
 | [], n, h => by cases h
 | a :: l, n, h => by
  rw [List.sum_cons]
  rcases List.mem_cons.1 h with rfl | h
  ·omega
  ·have := le_sum_mem h; omega
theorem endsN_pos {l : List Pr} {p : Pr} {f : Fdd} {k : Int} (hp : p ∈ l) (hf : f ∈ p.fds) (hk : f.kind = k) : 0 < endsN l k f.n := by
 have h1 : 0 < endsS k f.n p.fds := List.countP_pos_iff.2 ⟨f, hf, by simp [hk]⟩
 have h2 : endsS k f.n p.fds ≤ endsN l k f.n := by
  unfold endsN
  exact le_sum_mem (List.mem_map.2 ⟨p, hp, rfl⟩)
 omega
theorem sweep_chk {m : Mach} (h : chkM m = 0) : chkM (sweepM m) = 0 := by
 have hok := (pipesB_iff m).1 (chk_parts h).2.2.2.2.2.2.1
 have hl := (chk_parts h).2.2.2.2.2.1
 have h1 := (chk_parts h).1
 unfold numB at h1
 have h1 := of_decide_eq_false h1
 refine chk_pipes h ⟨Int.le_refl _, by omega⟩ (Nat.le_trans (List.length_filter_le _ _) hl) ⟨fun p hp => hok.pos p (List.mem_filter.1 hp).1, fun p hp => hok.lt p (List.mem_filter.1 hp).1, hok.inc.filter _, fun p hp => hok.few p (List.mem_filter.1 hp).1⟩ fun p hp f hf hb => ?_
 by_cases hk : f.kind = 4 ∨ f.kind = 5
 ·refine fdB_mono (fun hs => ?_) hb
  obtain ⟨q, hq, e⟩ := pipeO_isSome.1 hs
  refine pipeO_isSome.2 ⟨q, List.mem_filter.2 ⟨hq, ?_⟩, e⟩
  unfold endB
  rw [decide_eq_true_eq, e]
  rcases hk with hk | hk
  ·have := endsN_pos hp hf hk; omega
  ·have := endsN_pos hp hf hk; omega
 ·unfold fdB at hb ⊢
  rw [if_neg hk] at hb ⊢
  exact hb
end Go.Proofs.Ytpdhdkpebbfnnaa.V
end
section
namespace Go.Proofs.Ytpdhdkpebbfnnaa.V
open Go
theorem ynR2 {l : List VV} (h : nls l = true := by first|rfl|assumption|(simp only [znl,znR2];(first|done|fail))) : nls l = true := h
set_option maxRecDepth 100000
def znR2 := And.intro @jO <| And.intro @jP <| And.intro @jQ <| And.intro @jR <| And.intro @jS <| And.intro @jT <| And.intro @jU <| True.intro
set_option maxHeartbeats 4000000
theorem sends_spec (m : Mach) (hm : MFit 20000 m) (id : Int) (hf : i64R id) : Spec Try.prog 102 [encM m, .int .i64 id] (.tup [.int .i64 (endsN m.pr 4 id), .int .i64 (endsN m.pr 5 id)]) := by
 obtain ⟨R, hR⟩ : ∃ R, R = endsN m.pr 4 id := ⟨_, rfl⟩
 obtain ⟨T, hT⟩ : ∃ T, T = endsN m.pr 5 id := ⟨_, rfl⟩
 rw [← hR, ← hT]
 have hl := hm.pr
 have hpR := hm.prR
 have hU : ∀ q k, k ≤ m.pr.length → endsN (m.pr.take k) q id ≤ 8 * k := fun q k hk => by
  have := endsN_le q id (m.pr.take k) fun p hp => (hpR p (List.mem_of_mem_take hp)).fds
  rw [List.length_take] at this
  omega
 obtain ⟨hp1, hp2⟩ := hf
 refine spec_ok Try.func102 rfl rfl (by kernel_rfl) (k := 2) rfl (by decide) ?_
 repeat' (first|(with_reducible first|refine yrl (by constructor) ?_|refine jk (fun M hM=>?_)|(refine hM _ ?_;clear hM M)|refine yx3 ?_|refine yxa ?_ ?_|refine yxb ?_ ?_)|((with_reducible refine je ?_)<;>exact ynR2)|(with_reducible refine yxc ?_)|((with_reducible refine yxi (fun hc=>?_) (fun hc=>?_))<;>(try simp (disch:=omega) only [zhb] at hc)<;>(try (exfalso;omega))<;>(try subst hc))|(with_reducible refine yxw ?_)|(simp (config := { maxSteps := 400000 }) only [↓jt,↓reduceIte,zvs,reduceCtorEq,seval,-List.reduceReplicate,tab,Try.results102,jTA])|(simp (disch:=omega) only [ziw]))
 refine ok_loop (fun k : Nat => ⟨slots [(1, .int .i64 id), (2, .ptr 0 []), (4, .int .i64 0), (5, .int .i64 0), (6, .int .i64 (endsN (m.pr.take k) 4 id)), (7, .int .i64 (endsN (m.pr.take k) 5 id)), (13, encPrs m.pr), (14, .int .i64 m.pr.length), (15, .int .i64 k)], rows [(0, .row machSh (encM m))], 1⟩) (fun k => k ≤ m.pr.length) (fun k => m.pr.length - k) 0 ?_ (Nat.zero_le _) (fun k hk => ?_)
 ·(refine yrn [(0, 0)] false ?_ ?_<;>(repeat' (first|(with_reducible first|exact ya1|exact ya2|exact ya3|refine jx rfl (by first|rfl|assumption|(simp only [znl,znR2];(first|done|fail)))|exact ya5|exact ya7|exact jy|exact jz|refine jA ?_|refine ya9 ?_ ?_ ?_|refine jC rfl (by first|rfl|assumption|(simp only [znl,znR2];(first|done|fail)))|refine MR.agg (MRL.cons ?_ ?_)|refine MR.fn ?_|refine MRL.cons ?_ ?_|exact MRL.nil|refine jE ?_ ?_|exact jF|exact jG|refine yb1 ?_ ?_|refine MB.row ?_|refine jI ?_ ?_|exact ya8|refine jJ rfl (by first|rfl|assumption|(simp only [znl,znR2];(first|done|fail)))|refine yb2 ?_|rfl)|(simp only [znl,znR2];(first|done|fail))|(simp only [↓reduceIte,zlk,Nat.reduceEqDiff,reduceCtorEq])|(with_reducible first|refine jJ ?_ ?_|refine ya5 ?_|refine ju ?_|refine jv ?_|refine jw ?_|refine jx ?_ (by first|rfl|assumption|(simp only [znl,znR2];(first|done|fail)))|refine jC ?_ (by first|rfl|assumption|(simp only [znl,znR2];(first|done|fail)))))))
  all_goals (first | rfl | (simp [endsN]; done))
 have hUk := hU 4 k hk
 have hVk := hU 5 k hk
 by_cases hlt : k < m.pr.length
 ·have hb := hpR _ (getD_mem' hlt)
  obtain ⟨hS1, hS2, hS3⟩ := pr3 hb
  have e1 := take_snoc m.pr k hlt
  have e2 := endsN_snoc (m.pr.take k) (m.pr.getD k default) 4 id
  have e2' := endsN_snoc (m.pr.take k) (m.pr.getD k default) 5 id
  rw [← e1] at e2 e2'
  have hsl := hb.fds
  have hsR := hb.fdsR
  repeat' (first|(with_reducible first|refine yrl (by constructor) ?_|refine jk (fun M hM=>?_)|(refine hM _ ?_;clear hM M)|refine yx3 ?_|refine yxa ?_ ?_|refine yxb ?_ ?_)|((with_reducible refine je ?_)<;>exact ynR2)|(with_reducible refine yxc ?_)|((with_reducible refine yxi (fun hc=>?_) (fun hc=>?_))<;>(try simp (disch:=omega) only [zhb] at hc)<;>(try (exfalso;omega))<;>(try subst hc))|(with_reducible refine yxw ?_)|(simp (config := { maxSteps := 400000 }) only [↓jt,↓reduceIte,zvs,reduceCtorEq,seval,-List.reduceReplicate,tab,hS1,hS2,hS3,encPr,Try.results102,jTA])|(simp (disch:=omega) only [ziw]))
  refine ok_loop (fun j : Nat => ⟨slots [(1, .int .i64 id), (2, .ptr 0 []), (4, .int .i64 0), (5, .int .i64 0), (6, .int .i64 ((endsN (m.pr.take k) 4 id : Int) + endsS 4 id ((m.pr.getD k default).fds.take j))), (7, .int .i64 ((endsN (m.pr.take k) 5 id : Int) + endsS 5 id ((m.pr.getD k default).fds.take j))), (13, encPrs m.pr), (14, .int .i64 m.pr.length), (15, .int .i64 k), (20, .agg ((m.pr.getD k default).fds.map encFd)), (21, .int .i64 j)], rows [(0, .row machSh (encM m))], 1⟩) (fun j => j ≤ 8) (fun j => 8 - j) 0 ?_ (Nat.zero_le _) (fun j hj => ?_)
  ·(refine yrn [(0, 0)] false ?_ ?_<;>(repeat' (first|(with_reducible first|exact ya1|exact ya2|exact ya3|refine jx rfl (by first|rfl|assumption|(simp only [znl,znR2];(first|done|fail)))|exact ya5|exact ya7|exact jy|exact jz|refine jA ?_|refine ya9 ?_ ?_ ?_|refine jC rfl (by first|rfl|assumption|(simp only [znl,znR2];(first|done|fail)))|refine MR.agg (MRL.cons ?_ ?_)|refine MR.fn ?_|refine MRL.cons ?_ ?_|exact MRL.nil|refine jE ?_ ?_|exact jF|exact jG|refine yb1 ?_ ?_|refine MB.row ?_|refine jI ?_ ?_|exact ya8|refine jJ rfl (by first|rfl|assumption|(simp only [znl,znR2];(first|done|fail)))|refine yb2 ?_|rfl)|(simp only [znl,znR2];(first|done|fail))|(simp only [↓reduceIte,zlk,Nat.reduceEqDiff,reduceCtorEq])|(with_reducible first|refine jJ ?_ ?_|refine ya5 ?_|refine ju ?_|refine jv ?_|refine jw ?_|refine jx ?_ (by first|rfl|assumption|(simp only [znl,znR2];(first|done|fail)))|refine jC ?_ (by first|rfl|assumption|(simp only [znl,znR2];(first|done|fail)))))))
   all_goals (first | rfl | (simp [endsS]; done))
  have hUj := endsS_le 4 id ((m.pr.getD k default).fds.take j)
  have hVj := endsS_le 5 id ((m.pr.getD k default).fds.take j)
  rw [List.length_take] at hUj hVj
  by_cases hjlt : j < 8
  ·obtain ⟨⟨b1, b2⟩, ⟨b3, b4⟩, b5⟩ := hsR _ (getD_mem' (show j < (m.pr.getD k default).fds.length by omega))
   have e3 := take_snoc (m.pr.getD k default).fds j (by omega)
   have e4 := endsS_snoc 4 id ((m.pr.getD k default).fds.take j) ((m.pr.getD k default).fds.getD j default)
   have e5 := endsS_snoc 5 id ((m.pr.getD k default).fds.take j) ((m.pr.getD k default).fds.getD j default)
   rw [← e3] at e4 e5
   by_cases hq : ((m.pr.getD k default).fds.getD j default).n = id
   ·by_cases h4 : ((m.pr.getD k default).fds.getD j default).kind = 4
    ·rw [if_pos ⟨h4, hq⟩] at e4
     rw [if_neg (by omega)] at e5
     repeat' (first|(with_reducible first|refine yrl (by constructor) ?_|refine jk (fun M hM=>?_)|(refine hM _ ?_;clear hM M)|refine yx3 ?_|refine yxa ?_ ?_|refine yxb ?_ ?_)|((with_reducible refine je ?_)<;>exact ynR2)|(with_reducible refine yxc ?_)|((with_reducible refine yxi (fun hc=>?_) (fun hc=>?_))<;>(try simp (disch:=omega) only [zhb] at hc)<;>(try (exfalso;omega))<;>(try subst hc))|(with_reducible refine yxw ?_)|(simp (config := { maxSteps := 400000 }) only [↓jt,↓reduceIte,zvs,reduceCtorEq,seval,-List.reduceReplicate,tab,hS1,hS2,hS3,encFd,Try.results102,jTA])|(simp (disch:=omega) only [ziw]))
     all_goals first
      | (exfalso; omega)
      | (refine xl1 (j + 1) ?_ (by show j + 1 ≤ 8; omega) (by show 8 - (j + 1) < 8 - j; omega); (refine yrn [(0, 0)] false ?_ ?_<;>(repeat' (first|(with_reducible first|exact ya1|exact ya2|exact ya3|refine jx rfl (by first|rfl|assumption|(simp only [znl,znR2];(first|done|fail)))|exact ya5|exact ya7|exact jy|exact jz|refine jA ?_|refine ya9 ?_ ?_ ?_|refine jC rfl (by first|rfl|assumption|(simp only [znl,znR2];(first|done|fail)))|refine MR.agg (MRL.cons ?_ ?_)|refine MR.fn ?_|refine MRL.cons ?_ ?_|exact MRL.nil|refine jE ?_ ?_|exact jF|exact jG|refine yb1 ?_ ?_|refine MB.row ?_|refine jI ?_ ?_|exact ya8|refine jJ rfl (by first|rfl|assumption|(simp only [znl,znR2];(first|done|fail)))|refine yb2 ?_|rfl)|(simp only [znl,znR2];(first|done|fail))|(simp only [↓reduceIte,zlk,Nat.reduceEqDiff,reduceCtorEq])|(with_reducible first|refine jJ ?_ ?_|refine ya5 ?_|refine ju ?_|refine jv ?_|refine jw ?_|refine jx ?_ (by first|rfl|assumption|(simp only [znl,znR2];(first|done|fail)))|refine jC ?_ (by first|rfl|assumption|(simp only [znl,znR2];(first|done|fail))))))); all_goals first | (rw [e4]; omega) | (rw [e5]; omega))
    ·rw [if_neg (fun h => h4 h.1)] at e4
     by_cases h5 : ((m.pr.getD k default).fds.getD j default).kind = 5
     ·rw [if_pos ⟨h5, hq⟩] at e5
      repeat' (first|(with_reducible first|refine yrl (by constructor) ?_|refine jk (fun M hM=>?_)|(refine hM _ ?_;clear hM M)|refine yx3 ?_|refine yxa ?_ ?_|refine yxb ?_ ?_)|((with_reducible refine je ?_)<;>exact ynR2)|(with_reducible refine yxc ?_)|((with_reducible refine yxi (fun hc=>?_) (fun hc=>?_))<;>(try simp (disch:=omega) only [zhb] at hc)<;>(try (exfalso;omega))<;>(try subst hc))|(with_reducible refine yxw ?_)|(simp (config := { maxSteps := 400000 }) only [↓jt,↓reduceIte,zvs,reduceCtorEq,seval,-List.reduceReplicate,tab,hS1,hS2,hS3,encFd,Try.results102,jTA])|(simp (disch:=omega) only [ziw]))
      all_goals first
       | (exfalso; omega)
       | (refine xl1 (j + 1) ?_ (by show j + 1 ≤ 8; omega) (by show 8 - (j + 1) < 8 - j; omega); (refine yrn [(0, 0)] false ?_ ?_<;>(repeat' (first|(with_reducible first|exact ya1|exact ya2|exact ya3|refine jx rfl (by first|rfl|assumption|(simp only [znl,znR2];(first|done|fail)))|exact ya5|exact ya7|exact jy|exact jz|refine jA ?_|refine ya9 ?_ ?_ ?_|refine jC rfl (by first|rfl|assumption|(simp only [znl,znR2];(first|done|fail)))|refine MR.agg (MRL.cons ?_ ?_)|refine MR.fn ?_|refine MRL.cons ?_ ?_|exact MRL.nil|refine jE ?_ ?_|exact jF|exact jG|refine yb1 ?_ ?_|refine MB.row ?_|refine jI ?_ ?_|exact ya8|refine jJ rfl (by first|rfl|assumption|(simp only [znl,znR2];(first|done|fail)))|refine yb2 ?_|rfl)|(simp only [znl,znR2];(first|done|fail))|(simp only [↓reduceIte,zlk,Nat.reduceEqDiff,reduceCtorEq])|(with_reducible first|refine jJ ?_ ?_|refine ya5 ?_|refine ju ?_|refine jv ?_|refine jw ?_|refine jx ?_ (by first|rfl|assumption|(simp only [znl,znR2];(first|done|fail)))|refine jC ?_ (by first|rfl|assumption|(simp only [znl,znR2];(first|done|fail))))))); all_goals first | (rw [e4]; omega) | (rw [e5]; omega))
     ·rw [if_neg (fun h => h5 h.1)] at e5
      repeat' (first|(with_reducible first|refine yrl (by constructor) ?_|refine jk (fun M hM=>?_)|(refine hM _ ?_;clear hM M)|refine yx3 ?_|refine yxa ?_ ?_|refine yxb ?_ ?_)|((with_reducible refine je ?_)<;>exact ynR2)|(with_reducible refine yxc ?_)|((with_reducible refine yxi (fun hc=>?_) (fun hc=>?_))<;>(try simp (disch:=omega) only [zhb] at hc)<;>(try (exfalso;omega))<;>(try subst hc))|(with_reducible refine yxw ?_)|(simp (config := { maxSteps := 400000 }) only [↓jt,↓reduceIte,zvs,reduceCtorEq,seval,-List.reduceReplicate,tab,hS1,hS2,hS3,encFd,Try.results102,jTA])|(simp (disch:=omega) only [ziw]))
      all_goals first
       | (exfalso; omega)
       | (refine xl1 (j + 1) ?_ (by show j + 1 ≤ 8; omega) (by show 8 - (j + 1) < 8 - j; omega); (refine yrn [(0, 0)] false ?_ ?_<;>(repeat' (first|(with_reducible first|exact ya1|exact ya2|exact ya3|refine jx rfl (by first|rfl|assumption|(simp only [znl,znR2];(first|done|fail)))|exact ya5|exact ya7|exact jy|exact jz|refine jA ?_|refine ya9 ?_ ?_ ?_|refine jC rfl (by first|rfl|assumption|(simp only [znl,znR2];(first|done|fail)))|refine MR.agg (MRL.cons ?_ ?_)|refine MR.fn ?_|refine MRL.cons ?_ ?_|exact MRL.nil|refine jE ?_ ?_|exact jF|exact jG|refine yb1 ?_ ?_|refine MB.row ?_|refine jI ?_ ?_|exact ya8|refine jJ rfl (by first|rfl|assumption|(simp only [znl,znR2];(first|done|fail)))|refine yb2 ?_|rfl)|(simp only [znl,znR2];(first|done|fail))|(simp only [↓reduceIte,zlk,Nat.reduceEqDiff,reduceCtorEq])|(with_reducible first|refine jJ ?_ ?_|refine ya5 ?_|refine ju ?_|refine jv ?_|refine jw ?_|refine jx ?_ (by first|rfl|assumption|(simp only [znl,znR2];(first|done|fail)))|refine jC ?_ (by first|rfl|assumption|(simp only [znl,znR2];(first|done|fail))))))); all_goals first | (rw [e4]; omega) | (rw [e5]; omega))
   ·rw [if_neg (fun h => hq h.2)] at e4 e5
    repeat' (first|(with_reducible first|refine yrl (by constructor) ?_|refine jk (fun M hM=>?_)|(refine hM _ ?_;clear hM M)|refine yx3 ?_|refine yxa ?_ ?_|refine yxb ?_ ?_)|((with_reducible refine je ?_)<;>exact ynR2)|(with_reducible refine yxc ?_)|((with_reducible refine yxi (fun hc=>?_) (fun hc=>?_))<;>(try simp (disch:=omega) only [zhb] at hc)<;>(try (exfalso;omega))<;>(try subst hc))|(with_reducible refine yxw ?_)|(simp (config := { maxSteps := 400000 }) only [↓jt,↓reduceIte,zvs,reduceCtorEq,seval,-List.reduceReplicate,tab,hS1,hS2,hS3,encFd,Try.results102,jTA])|(simp (disch:=omega) only [ziw]))
    all_goals first
     | (exfalso; omega)
     | (refine xl1 (j + 1) ?_ (by show j + 1 ≤ 8; omega) (by show 8 - (j + 1) < 8 - j; omega); (refine yrn [(0, 0)] false ?_ ?_<;>(repeat' (first|(with_reducible first|exact ya1|exact ya2|exact ya3|refine jx rfl (by first|rfl|assumption|(simp only [znl,znR2];(first|done|fail)))|exact ya5|exact ya7|exact jy|exact jz|refine jA ?_|refine ya9 ?_ ?_ ?_|refine jC rfl (by first|rfl|assumption|(simp only [znl,znR2];(first|done|fail)))|refine MR.agg (MRL.cons ?_ ?_)|refine MR.fn ?_|refine MRL.cons ?_ ?_|exact MRL.nil|refine jE ?_ ?_|exact jF|exact jG|refine yb1 ?_ ?_|refine MB.row ?_|refine jI ?_ ?_|exact ya8|refine jJ rfl (by first|rfl|assumption|(simp only [znl,znR2];(first|done|fail)))|refine yb2 ?_|rfl)|(simp only [znl,znR2];(first|done|fail))|(simp only [↓reduceIte,zlk,Nat.reduceEqDiff,reduceCtorEq])|(with_reducible first|refine jJ ?_ ?_|refine ya5 ?_|refine ju ?_|refine jv ?_|refine jw ?_|refine jx ?_ (by first|rfl|assumption|(simp only [znl,znR2];(first|done|fail)))|refine jC ?_ (by first|rfl|assumption|(simp only [znl,znR2];(first|done|fail))))))); all_goals first | (rw [e4]; omega) | (rw [e5]; omega))
  ·obtain rfl : j = 8 := by omega
   have e5 : (m.pr.getD k default).fds.take 8 = (m.pr.getD k default).fds := List.take_of_length_le (by omega)
   rw [e5] at *
   repeat' (first|(with_reducible first|refine yrl (by constructor) ?_|refine jk (fun M hM=>?_)|(refine hM _ ?_;clear hM M)|refine yx3 ?_|refine yxa ?_ ?_|refine yxb ?_ ?_)|((with_reducible refine je ?_)<;>exact ynR2)|(with_reducible refine yxc ?_)|((with_reducible refine yxi (fun hc=>?_) (fun hc=>?_))<;>(try simp (disch:=omega) only [zhb] at hc)<;>(try (exfalso;omega))<;>(try subst hc))|(with_reducible refine yxw ?_)|(simp (config := { maxSteps := 400000 }) only [↓jt,↓reduceIte,zvs,reduceCtorEq,seval,-List.reduceReplicate,tab,hS1,hS2,hS3,Try.results102,jTA])|(simp (disch:=omega) only [ziw]))
   all_goals first
    | (refine xl1 (k + 1) ?_ (by show k + 1 ≤ m.pr.length; omega) (by show m.pr.length - (k + 1) < m.pr.length - k; omega); (refine yrn [(0, 0)] false ?_ ?_<;>(repeat' (first|(with_reducible first|exact ya1|exact ya2|exact ya3|refine jx rfl (by first|rfl|assumption|(simp only [znl,znR2];(first|done|fail)))|exact ya5|exact ya7|exact jy|exact jz|refine jA ?_|refine ya9 ?_ ?_ ?_|refine jC rfl (by first|rfl|assumption|(simp only [znl,znR2];(first|done|fail)))|refine MR.agg (MRL.cons ?_ ?_)|refine MR.fn ?_|refine MRL.cons ?_ ?_|exact MRL.nil|refine jE ?_ ?_|exact jF|exact jG|refine yb1 ?_ ?_|refine MB.row ?_|refine jI ?_ ?_|exact ya8|refine jJ rfl (by first|rfl|assumption|(simp only [znl,znR2];(first|done|fail)))|refine yb2 ?_|rfl)|(simp only [znl,znR2];(first|done|fail))|(simp only [↓reduceIte,zlk,Nat.reduceEqDiff,reduceCtorEq])|(with_reducible first|refine jJ ?_ ?_|refine ya5 ?_|refine ju ?_|refine jv ?_|refine jw ?_|refine jx ?_ (by first|rfl|assumption|(simp only [znl,znR2];(first|done|fail)))|refine jC ?_ (by first|rfl|assumption|(simp only [znl,znR2];(first|done|fail))))))); all_goals first | (rw [e2]; omega) | (rw [e2']; omega))
 ·obtain rfl : k = m.pr.length := by omega
  rw [List.take_length] at *
  repeat' (first|(with_reducible first|refine yrl (by constructor) ?_|refine jk (fun M hM=>?_)|(refine hM _ ?_;clear hM M)|refine yx3 ?_|refine yxa ?_ ?_|refine yxb ?_ ?_)|((with_reducible refine je ?_)<;>exact ynR2)|(with_reducible refine yxc ?_)|((with_reducible refine yxi (fun hc=>?_) (fun hc=>?_))<;>(try simp (disch:=omega) only [zhb] at hc)<;>(try (exfalso;omega))<;>(try subst hc))|(with_reducible refine yxw ?_)|(simp (config := { maxSteps := 400000 }) only [↓jt,↓reduceIte,zvs,reduceCtorEq,seval,-List.reduceReplicate,tab,List.take_length,Try.results102,jTA])|(simp (disch:=omega) only [ziw]))
  all_goals first
   | (simp only [zrds]; rw [hR, hT]; done)
   | (simp only [zrds]; omega)
end Go.Proofs.Ytpdhdkpebbfnnaa.V
end
section
namespace Go.Proofs.Ytpdhdkpebbfnnaa.V
open Go
set_option maxRecDepth 100000
set_option maxHeartbeats 4000000
end Go.Proofs.Ytpdhdkpebbfnnaa.V
end
section
namespace Go.Proofs.Ytpdhdkpebbfnnaa.V
open Go
set_option maxRecDepth 100000
set_option maxHeartbeats 8000000
def mapK (f : Pr → Pr) (l : List Pr) (k : Nat) : List Pr := (l.take k).map f ++ l.drop k
theorem mapK_len (f : Pr → Pr) (l : List Pr) (k : Nat) : (mapK f l k).length = l.length := by
 unfold mapK
 rw [List.length_append, List.length_map, List.length_take, List.length_drop]; omega
theorem mapK_all (f : Pr → Pr) (l : List Pr) : mapK f l l.length = l.map f := by
 unfold mapK
 rw [List.take_length, List.drop_length, List.append_nil]
theorem mapK_at {f : Pr → Pr} {l : List Pr} {k : Nat} (hk : k < l.length) : (mapK f l k).getD k default = l.getD k default := by
 unfold mapK
 rw [List.getD_eq_getElem?_getD, List.getElem?_append_right (by rw [List.length_map, List.length_take]; omega), List.length_map, List.length_take, Nat.min_eq_left (by omega), Nat.sub_self, List.getElem?_drop, Nat.add_zero, ← List.getD_eq_getElem?_getD]
theorem mapK_next {f : Pr → Pr} {l : List Pr} {k : Nat} (hk : k < l.length) : mapK f l (k + 1) = (mapK f l k).set k (f (l.getD k default)) := by
 unfold mapK
 rw [take_snoc l k hk, List.map_append]
 have hd : l.drop k = l.getD k default :: l.drop (k + 1) := by
  rw [List.drop_eq_getElem_cons hk]
  congr 1
  rw [List.getD_eq_getElem?_getD, List.getElem?_eq_getElem hk]; rfl
 rw [hd, List.set_append_right _ _ (by rw [List.length_map, List.length_take]; omega), List.length_map, List.length_take, Nat.min_eq_left (by omega), Nat.sub_self]
 simp
theorem mapK_same {f : Pr → Pr} {l : List Pr} {k : Nat} (hk : k < l.length) (h : f (l.getD k default) = l.getD k default) : mapK f l (k + 1) = mapK f l k := by
 rw [mapK_next hk, h]
 have := mapK_at (f := f) hk
 have hl := mapK_len f l k
 rw [← this, List.getD_eq_getElem?_getD, List.getElem?_eq_getElem (by omega)]
 exact List.set_getElem_self (by omega)
def deadP (p : Pr) (code : Int) : Pr := ⟨p.pid, p.par, 3, p.rs, p.pc, List.replicate 16 ⟨false, false, 0⟩, List.replicate 8 ⟨0, 0, 0⟩, false, code, 0, 0⟩
def freeP (pid : Int) (p : Pr) : Pr := if p.par = pid then { p with par := 0 } else p
def stayB (l : List Pr) (p : Pr) : Bool := !(decide (p.st = 3) && (decide (p.par = 0) || (findI l p.par).isNone))
def prM (m : Mach) (l : List Pr) : Mach := { m with pr := l }
def dieL (m : Mach) (i : Nat) (pid code : Int) : List Pr := (m.pr.set i (deadP (m.pr.getD i default) code)).map (freeP pid)
def dieM (m : Mach) (pid code : Int) : Mach := match findI m.pr pid with
 | none => m
 | some i => if (m.pr.getD i default).st = 3 then m else sweepM (prM m ((dieL m i pid code).filter (stayB (dieL m i pid code))))
theorem deadP_fit {p : Pr} (h : PrR p) {code : Int} (hc : u32R code) : PrR (deadP p code) := by
 have z : i64R 0 := by unfold i64R; omega
 exact ⟨h.pid, h.par, by show i64R 3; unfold i64R; omega, h.rs, h.rsR, h.pc, by simp [deadP], fun x hx => by rw [List.eq_of_mem_replicate hx]; exact z, by simp [deadP], fun x hx => by rw [List.eq_of_mem_replicate hx]; exact ⟨z, z, z⟩, hc, z, by show u64R 0; unfold u64R; omega⟩
theorem freeP_fit {p : Pr} (h : PrR p) (pid : Int) : PrR (freeP pid p) := by
 unfold freeP
 split
 ·exact ⟨h.pid, by show i64R 0; unfold i64R; omega, h.st, h.rs, h.rsR, h.pc, h.sp, h.spR, h.fds, h.fdsR, h.code, h.why, h.n⟩
 ·exact h
theorem prM_fit {N : Nat} {m : Mach} (h : MFit N m) {l : List Pr} (hl : l.length ≤ N) (hp : ∀ p ∈ l, PrR p) : MFit N (prM m l) :=
 ⟨h.clock, h.quantum, h.cur, h.left, h.fr, h.frS, hl, hp, h.next, h.init, h.pipes, h.pipesR, h.newp, h.inp, h.told, h.bl, h.blS, h.pe, h.peS, h.dleft, h.dirty, h.dirtyS⟩
theorem dieL_fit {m : Mach} (hm : MFit 20000 m) {i : Nat} (hi : i < m.pr.length) (pid : Int) {code : Int} (hc : u32R code) : (dieL m i pid code).length = m.pr.length ∧ ∀ p ∈ dieL m i pid code, PrR p := by
 refine ⟨by unfold dieL; rw [List.length_map, List.length_set], fun p hp => ?_⟩
 obtain ⟨q, hq, rfl⟩ := List.mem_map.1 hp
 refine freeP_fit ?_ _
 rcases List.mem_or_eq_of_mem_set hq with hq | rfl
 ·exact hm.prR q hq
 ·exact deadP_fit (hm.prR _ (getD_mem' hi)) hc
abbrev encMD (m : Mach) (prs : VV) : VV := .agg [.int .u64 m.clock, .int .i64 m.quantum, .int .i64 m.cur, .int .i64 m.left, encStrs m.fr, prs, .int .i64 m.next, .str m.init, encPis m.pipes, .int .i64 m.newp, .str m.inp, .bool m.fin, .int .u64 m.told, encDr m.dr, encWrs m.dirty]
theorem ok_stop {P : Program} {n0 : Nat} {S : VS} {K : VX → VS → Prop} {l : Array Oper} {d : Bool} (i : Nat) (h : Ok P n0 (.region i l d) S K) : Ok P n0 (.region i l d) S K := h
abbrev nilMD : VV := .agg [.int .u64 0, .int .i64 0, .int .i64 0, .int .i64 0, .sl none 0, .sl none 0, .int .i64 0, .str [], .sl none 0, .int .i64 0, .str [], .bool false, .int .u64 0, .agg [.sl none 0, .sl none 0, .int .i64 0], .sl none 0]
theorem filt_snoc {l : List Pr} {q : Pr → Bool} {k : Nat} (hk : k < l.length) : (l.take (k + 1)).filter q = (l.take k).filter q ++ if q (l.getD k default) = true then [l.getD k default] else [] := by
 rw [take_snoc l k hk, List.filter_append]
 by_cases h : q (l.getD k default) = true
 ·rw [if_pos h, List.filter_cons_of_pos h, List.filter_nil]
 ·rw [if_neg h, List.filter_cons_of_neg h, List.filter_nil]
theorem zSp : Has (.arr 16 (.st [.cell, .cell, .cell])) (.agg (List.replicate 16 (.agg [.bool false, .bool false, .int .i64 0]))) := hasSpace (List.replicate 16 ⟨false, false, 0⟩) rfl
theorem zFd : Has (.arr 8 (.st [.cell, .cell, .cell])) (.agg (List.replicate 8 (.agg [.int .i64 0, .int .i64 0, .int .i64 0]))) := hasFds (List.replicate 8 ⟨0, 0, 0⟩) rfl
end Go.Proofs.Ytpdhdkpebbfnnaa.V
end
section
namespace Go.Proofs.Ytpdhdkpebbfnnaa.V
open Go
set_option maxRecDepth 100000
set_option maxHeartbeats 1000000
def setM (L : List Int) : List (VV × VV) := L.foldl (fun es f => mput es (.int .i64 f) (.bool true)) []
theorem mget_mput : ∀ (es : List (VV × VV)) (f g : Int), mget (mput es (.int .i64 f) (.bool true)) (.int .i64 g) = if g = f then some (.bool true) else mget es (.int .i64 g)
 | [], f, g => by
  simp only [mput,mget,keq,beq_iff_eq]
 | (k, v) :: es, f, g => by
  simp only [mput]
  by_cases h : keq (.int .i64 f) k = true
  ·rw [if_pos h]
   simp only [mget]
   cases k <;> simp [keq] at h
   subst h
   simp only [keq,beq_iff_eq]
   split <;> rfl
  ·rw [if_neg h]
   simp only [mget,mget_mput es f g]
   by_cases h2 : keq (.int .i64 g) k = true
   ·rw [if_pos h2, if_pos h2]
    by_cases e : g = f
    ·subst e; exact absurd h2 h
    ·rw [if_neg e]
   ·rw [if_neg h2, if_neg h2]
theorem setM_snoc (L : List Int) (f : Int) : mput (setM L) (.int .i64 f) (.bool true) = setM (L ++ [f]) := by
 simp [setM, List.foldl_append]
theorem mget_setM (f : Int) : ∀ (L : List Int) (es : List (VV × VV)), mget (L.foldl (fun es f => mput es (.int .i64 f) (.bool true)) es) (.int .i64 f) = if f ∈ L then some (.bool true) else mget es (.int .i64 f)
 | [], es => by simp
 | g :: L, es => by
  simp only [List.foldl_cons,mget_setM f L,mget_mput,List.mem_cons]
  by_cases h : f ∈ L
  ·simp [h]
  ·simp [h]
theorem look_setM (L : List Int) (f : Int) : (mget (setM L) (.int .i64 f)).getD (.bool false) = .bool (decide (f ∈ L)) := by
 rw [setM, mget_setM]
 by_cases h : f ∈ L <;> simp [h, mget]
theorem mput_keys : ∀ (es : List (VV × VV)) (f : Int), (es.all fun q => keyV (.int .i64) q.1) = true → ((mput es (.int .i64 f) (.bool true)).all fun q => keyV (.int .i64) q.1) = true
 | [], f, _ => by simp [mput, keyV]
 | (k, v) :: es, f, h => by
  simp only [List.all_cons,Bool.and_eq_true] at h
  simp only [mput]
  split
  ·simp only [List.all_cons,Bool.and_eq_true]; exact h
  ·simp only [List.all_cons,Bool.and_eq_true]; exact ⟨h.1, mput_keys es f h.2⟩
theorem keys_setM (L : List Int) : ((setM L).all fun q => keyV (.int .i64) q.1) = true := by
 have key : ∀ (L : List Int) (es : List (VV × VV)), (es.all fun q => keyV (.int .i64) q.1) = true → ((L.foldl (fun es f => mput es (.int .i64 f) (.bool true)) es).all fun q => keyV (.int .i64) q.1) = true := by
  intro L
  induction L with
  | nil => intro es h; exact h
  | cons g L ih => intro es h; exact ih _ (mput_keys es g h)
 exact key L [] rfl
theorem jV (L : List Int) : ((setM L).all fun q => nl q.1 && nl q.2) = true := by
 have hp : ∀ (es : List (VV × VV)) (f : Int), (es.all fun q => nl q.1 && nl q.2) = true → ((mput es (.int .i64 f) (.bool true)).all fun q => nl q.1 && nl q.2) = true := by
  intro es f
  induction es with
  | nil => intro _; simp [mput, nl]
  | cons x es ih =>
   obtain ⟨k, v⟩ := x
   intro h
   simp only [List.all_cons,Bool.and_eq_true] at h
   simp only [mput]
   split
   ·simp only [List.all_cons,Bool.and_eq_true]; exact ⟨⟨h.1.1, by simp [nl]⟩, h.2⟩
   ·simp only [List.all_cons,Bool.and_eq_true]; exact ⟨h.1, ih h.2⟩
 have key : ∀ (L : List Int) (es : List (VV × VV)), (es.all fun q => nl q.1 && nl q.2) = true → ((L.foldl (fun es f => mput es (.int .i64 f) (.bool true)) es).all fun q => nl q.1 && nl q.2) = true := by
  intro L
  induction L with
  | nil => intro es h; exact h
  | cons g L ih => intro es h; exact ih _ (hp es g h)
 exact key L [] rfl
def own (s : List Pte) (k : Nat) : List Int := ((s.take k).filter (·.is)).map (·.fr)
theorem own_succ (s : List Pte) (k : Nat) (h : k < s.length) : own s (k + 1) = own s k ++ if (s.getD k default).is = true then [(s.getD k default).fr] else [] := by
 have e : s.take (k + 1) = s.take k ++ [s.getD k default] := by
  rw [List.take_add_one, List.getElem?_eq_getElem h, List.getD_eq_getElem?_getD, List.getElem?_eq_getElem h]; rfl
 unfold own
 rw [e, List.filter_append, List.map_append]
 congr 1
 by_cases h2 : (s.getD k default).is = true
 ·rw [if_pos h2, List.filter_cons_of_pos h2]; rfl
 ·rw [if_neg h2, List.filter_cons_of_neg h2]; rfl
end Go.Proofs.Ytpdhdkpebbfnnaa.V
end
section
namespace Go.Proofs.Ytpdhdkpebbfnnaa.V
open Go
theorem ynNS {l : List VV} (h : nls l = true := by first|rfl|assumption|(simp only [znl,znNS];(first|done|fail))) : nls l = true := h
set_option maxRecDepth 100000
def znNS := And.intro @jO <| And.intro @jP <| And.intro @jQ <| And.intro @jR <| And.intro @jS <| And.intro @jT <| And.intro @jU <| And.intro @jV <| True.intro
set_option maxHeartbeats 8000000
theorem usersS_pos {f : Int} {s : List Pte} {j : Nat} (hj : j < s.length) (h1 : (s.getD j default).is = true) (h2 : (s.getD j default).fr = f) : 1 ≤ usersS f s :=
 List.countP_pos_iff.2 ⟨_, getD_mem' hj, by rw [h1, decide_eq_true h2]; rfl⟩
theorem usersS_app (f : Int) (a b : List Pte) : usersS f (a ++ b) = usersS f a + usersS f b := List.countP_append
theorem usersS_two {f : Int} {s : List Pte} {i j : Nat} (hij : i < j) (hj : j < s.length) (h1 : (s.getD i default).is = true) (h2 : (s.getD i default).fr = f) (h3 : (s.getD j default).is = true) (h4 : (s.getD j default).fr = f) : 2 ≤ usersS f s := by
 have e := usersS_app f (s.take j) (s.drop j)
 rw [List.take_append_drop] at e
 have ea : (s.take j).getD i default = s.getD i default := by
  rw [List.getD_eq_getElem?_getD, List.getElem?_take, if_pos hij, ← List.getD_eq_getElem?_getD]
 have eb : (s.drop j).getD 0 default = s.getD j default := by
  rw [List.getD_eq_getElem?_getD, List.getElem?_drop, Nat.add_zero, ← List.getD_eq_getElem?_getD]
 have a1 := usersS_pos (s := s.take j) (j := i) (f := f) (by rw [List.length_take]; omega) (by rw [ea]; exact h1) (by rw [ea]; exact h2)
 have a2 := usersS_pos (s := s.drop j) (j := 0) (f := f) (by rw [List.length_drop]; omega) (by rw [eb]; exact h3) (by rw [eb]; exact h4)
 omega
theorem usersN_app (f : Int) (a b : List Pr) : usersN (a ++ b) f = usersN a f + usersN b f := by simp [usersN]
theorem usersN_ge (f : Int) {l : List Pr} {p : Pr} (h : p ∈ l) : usersS f p.sp ≤ usersN l f := by
 obtain ⟨a, b, rfl⟩ := List.append_of_mem h
 rw [usersN_app]
 have : usersN (p :: b) f = usersS f p.sp + usersN b f := by simp [usersN]
 omega
theorem usersN_two (f : Int) {l : List Pr} {i k : Nat} (hik : i < k) (hk : k < l.length) : usersS f (l.getD i default).sp + usersS f (l.getD k default).sp ≤ usersN l f := by
 have e := usersN_app f (l.take k) (l.drop k)
 rw [List.take_append_drop] at e
 have ea : (l.take k).getD i default = l.getD i default := by
  rw [List.getD_eq_getElem?_getD, List.getElem?_take, if_pos hik, ← List.getD_eq_getElem?_getD]
 have eb : (l.drop k).getD 0 default = l.getD k default := by
  rw [List.getD_eq_getElem?_getD, List.getElem?_drop, Nat.add_zero, ← List.getD_eq_getElem?_getD]
 have a1 := usersN_ge f (getD_mem' (l := l.take k) (i := i) (by rw [List.length_take]; omega))
 have a2 := usersN_ge f (getD_mem' (l := l.drop k) (i := 0) (by rw [List.length_drop]; omega))
 rw [ea] at a1
 rw [eb] at a2
 omega
theorem mem_own' {s : List Pte} {f : Int} : ∀ {k : Nat}, k ≤ s.length → f ∈ own s k → ∃ j, j < k ∧ (s.getD j default).is = true ∧ (s.getD j default).fr = f := by
 intro k
 induction k with
 | zero => intro _ h; simp [own] at h
 | succ k ih =>
  intro hk h
  rw [own_succ s k (by omega), List.mem_append] at h
  rcases h with h | h
  ·obtain ⟨j, h1, h2⟩ := ih (by omega) h
   exact ⟨j, by omega, h2⟩
  ·split at h
   ·rename_i hi
    rw [List.mem_singleton] at h
    exact ⟨k, by omega, hi, h.symm⟩
   ·cases h
def metF (m : Mach) (k j : Nat) : List Int := ((m.pr.take k).flatMap fun p => own p.sp 16) ++ own (m.pr.getD k default).sp j
theorem metF_zero (m : Mach) : metF m 0 0 = [] := by simp [metF, own]
theorem metF_next {m : Mach} {k : Nat} (h : k < m.pr.length) : metF m (k + 1) 0 = metF m k 16 := by
 unfold metF
 rw [take_snoc m.pr k h, List.flatMap_append]
 simp [own]
theorem metF_in {m : Mach} {k j : Nat} (h : k < m.pr.length) (hj : j < (m.pr.getD k default).sp.length) (hi : ((m.pr.getD k default).sp.getD j default).is = true) : metF m k (j + 1) = metF m k j ++ [((m.pr.getD k default).sp.getD j default).fr] := by
 unfold metF
 rw [own_succ _ _ hj, if_pos hi, List.append_assoc]
theorem metF_out {m : Mach} {k j : Nat} (h : k < m.pr.length) (hj : j < (m.pr.getD k default).sp.length) (hi : ((m.pr.getD k default).sp.getD j default).is = false) : metF m k (j + 1) = metF m k j := by
 unfold metF
 rw [own_succ _ _ hj, if_neg (by rw [hi]; simp), List.append_nil]
theorem metF_new {m : Mach} {k j : Nat} (hR : ∀ p ∈ m.pr, PrR p) (h : k < m.pr.length) (hj : j < 16) (hi : ((m.pr.getD k default).sp.getD j default).is = true) (hu : usersN m.pr ((m.pr.getD k default).sp.getD j default).fr = 1) : ((m.pr.getD k default).sp.getD j default).fr ∉ metF m k j := by
 intro hm
 have hl := (hR _ (getD_mem' h)).sp
 have a1 := usersS_pos (s := (m.pr.getD k default).sp) (j := j) (by omega) hi rfl
 unfold metF at hm
 rcases List.mem_append.1 hm with hm | hm
 ·obtain ⟨p, hp, h2⟩ := List.mem_flatMap.1 hm
  obtain ⟨i, hi2, e⟩ := List.mem_iff_getElem.1 hp
  have hik : i < k := by rw [List.length_take] at hi2; omega
  have e2 : p = m.pr.getD i default := by
   rw [← e, List.getElem_take, List.getD_eq_getElem?_getD, List.getElem?_eq_getElem (by omega)]; rfl
  have hl2 := (hR _ (getD_mem' (show i < m.pr.length by omega))).sp
  rw [e2] at h2
  obtain ⟨q, q1, q2, q3⟩ := mem_own' (by omega) h2
  have a2 := usersS_pos (s := (m.pr.getD i default).sp) (j := q) (by omega) q2 q3
  have a3 := usersN_two ((m.pr.getD k default).sp.getD j default).fr hik h
  omega
 ·obtain ⟨q, q1, q2, q3⟩ := mem_own' (by omega) hm
  have a2 := usersS_two (f := ((m.pr.getD k default).sp.getD j default).fr) q1 (by omega) q2 q3 hi rfl
  have a3 := usersN_ge ((m.pr.getD k default).sp.getD j default).fr (getD_mem' h)
  omega
def lastQ (l : List Pr) : Nat → Int
 | 0 => 0
 | k + 1 => (l.getD k default).pid
theorem fit_fd (a b c : Int) : Fit (EQ.st [EQ.int .i64, EQ.int .i64, EQ.int .i64]) (.agg [.int .i64 a, .int .i64 b, .int .i64 c]) := by simp [Fit, FitL]
theorem veq_fd (a b c a' b' c' : Int) : veq (.agg [.int .i64 a, .int .i64 b, .int .i64 c]) (.agg [.int .i64 a', .int .i64 b', .int .i64 c']) = decide (a = a' ∧ b = b' ∧ c = c') := by
 simp only [veq,veqs,Bool.and_true]
 rw [Bool.eq_iff_iff]; simp
theorem procs_ok (m : Mach) (hm : MFit 20000 m) (h8 : m.pr.length ≤ 8) (hs : procsB m = true) : Spec Try.prog 75 [encM m] (.int .i64 0) := by
 have hpR := hm.prR
 have hfrl := hm.fr
 have hq : ∀ i, i < m.pr.length → procQ m i = true := fun i hi => (List.all_eq_true.1 hs) i (List.mem_range.2 hi)
 refine spec_ok Try.func75 rfl rfl (by kernel_rfl) (k := 1) rfl (by decide) ?_
 repeat' (first|(with_reducible first|refine yrl (by constructor) ?_|refine jk (fun M hM=>?_)|(refine hM _ ?_;clear hM M)|refine yx3 ?_|refine yxa ?_ ?_|refine yxb ?_ ?_)|((with_reducible refine je ?_)<;>exact ynNS)|(with_reducible refine yxc ?_)|((with_reducible refine yxi (fun hc=>?_) (fun hc=>?_))<;>(try simp (disch:=omega) only [zhb] at hc)<;>(try (exfalso;omega))<;>(try subst hc))|(with_reducible refine yxw ?_)|(simp (config := { maxSteps := 400000 }) only [↓jt,↓reduceIte,zvs,reduceCtorEq,seval,tab,Try.results75,jTA])|(simp (disch:=omega) only [ziw]))
 all_goals (try (exfalso; omega))
 refine ok_loop (fun k : Nat => ⟨slots [(1, .ptr 0 []), (3, .map 1), (4, .int .i64 (lastQ m.pr k)), (17, encPrs m.pr), (18, .int .i64 m.pr.length), (19, .int .i64 k)], rows [(0, .row machSh (encM m)), (1, .map (setM (metF m k 0)))], 2⟩) (fun k => k ≤ m.pr.length) (fun k => m.pr.length - k) 0 ?_ (Nat.zero_le _) (fun k hk => ?_)
 ·(refine yrn [(0, 0), (1, 1)] false ?_ ?_<;>(repeat' (first|(with_reducible first|exact ya1|exact ya2|exact ya3|refine jx rfl (by first|rfl|assumption|(simp only [znl,znNS];(first|done|fail)))|exact ya5|exact ya7|exact jy|exact jz|refine jA ?_|refine ya9 ?_ ?_ ?_|refine jC rfl (by first|rfl|assumption|(simp only [znl,znNS];(first|done|fail)))|refine MR.agg (MRL.cons ?_ ?_)|refine MR.fn ?_|refine MRL.cons ?_ ?_|exact MRL.nil|refine jE ?_ ?_|exact jF|exact jG|refine yb1 ?_ ?_|refine MB.row ?_|refine jI ?_ ?_|exact ya8|refine jJ rfl (by first|rfl|assumption|(simp only [znl,znNS];(first|done|fail)))|refine yb2 ?_|rfl)|(simp only [znl,znNS];(first|done|fail))|(simp only [↓reduceIte,zlk,Nat.reduceEqDiff,reduceCtorEq])|(with_reducible first|refine jJ ?_ ?_|refine ya5 ?_|refine ju ?_|refine jv ?_|refine jw ?_|refine jx ?_ (by first|rfl|assumption|(simp only [znl,znNS];(first|done|fail)))|refine jC ?_ (by first|rfl|assumption|(simp only [znl,znNS];(first|done|fail)))))))
  all_goals (first | rfl | (rw [metF_zero]; rfl))
 by_cases hlt : k < m.pr.length
 ·have hb := hpR _ (getD_mem' hlt)
  obtain ⟨hS1, hS2, hS3⟩ := pr3 hb
  have hQ := procQ_pos (hq k hlt)
  have hlast : lastQ m.pr k < (m.pr.getD k default).pid := by
   cases k with
   | zero => show (0 : Int) < _; omega
   | succ k => exact procQ_inc (hq (k + 1) hlt)
  have hB := hQ.2
  unfold procB at hB
  simp only [Bool.and_eq_true] at hB
  obtain ⟨⟨hH, hPg⟩, hFd⟩ := hB
  have hH := (procH_iff m _).1 hH
  have hFl := fields_ok m _ hb hH
  have hPar := parent_ok m hm _ hb (by
   unfold headP at hH
   rcases hH.2.2.2.2.1 with h | h
   ·exact .inl h
   ·refine .inr ⟨h.2, ?_⟩
    have h1 := h.1
    unfold livesP
    rcases hH.2.2.1 with h3 | h3 | h3
    ·rw [decide_eq_true h3]; rfl
    ·rw [decide_eq_true h3, Bool.or_true]
    ·exact absurd h3 h1)
  simp only [encPr] at hFl hPar
  have hpl := hH.2.1
  have hst3 := hH.2.2.1
  clear hH
  have hsl := hb.sp
  have hfl := hb.fds
  have hsR := hb.spR
  have hfR := hb.fdsR
  have hpg : ∀ j, j < 16 → pteB m (m.pr.getD k default) ((m.pr.getD k default).sp.getD j default) = true := fun j hj => (List.all_eq_true.1 hPg) _ (getD_mem' (by omega))
  have hfg : ∀ j, j < 8 → fdsB m (m.pr.getD k default) ((m.pr.getD k default).fds.getD j default) = true := fun j hj => (List.all_eq_true.1 hFd) _ (getD_mem' (by omega))
  repeat' (first|(with_reducible first|refine yrl (by constructor) ?_|refine jk (fun M hM=>?_)|(refine hM _ ?_;clear hM M)|refine yx3 ?_|refine yxa ?_ ?_|refine yxb ?_ ?_)|((with_reducible refine je ?_)<;>exact ynNS)|(with_reducible refine yxc ?_)|((with_reducible refine yxi (fun hc=>?_) (fun hc=>?_))<;>(try simp (disch:=omega) only [zhb] at hc)<;>(try (exfalso;omega))<;>(try subst hc))|(with_reducible refine yxw ?_)|(simp (config := { maxSteps := 400000 }) only [↓jt,↓reduceIte,zvs,reduceCtorEq,seval,tab,hS1,hS2,hS3,encPr,Try.results75,jTA])|(simp (disch:=omega) only [ziw]))
  all_goals (try (exfalso; omega))
  refine ok_loop (fun j : Nat => ⟨slots [(1, .ptr 0 []), (3, .map 1), (4, .int .i64 (m.pr.getD k default).pid), (6, .ptr 2 []), (17, encPrs m.pr), (18, .int .i64 m.pr.length), (19, .int .i64 k), (48, .agg ((m.pr.getD k default).sp.map encPte)), (49, .int .i64 j)], rows [(0, .row machSh (encM m)), (1, .map (setM (metF m k j))), (2, .row prSh (encPrA (m.pr.getD k default)))], 3⟩) (fun j => j ≤ 16) (fun j => 16 - j) 0 ?_ (Nat.zero_le _) (fun j hj => ?_)
  ·(refine yrn [(0, 0), (1, 1), (2, 2)] false ?_ ?_<;>(repeat' (first|(with_reducible first|exact ya1|exact ya2|exact ya3|refine jx rfl (by first|rfl|assumption|(simp only [znl,znNS];(first|done|fail)))|exact ya5|exact ya7|exact jy|exact jz|refine jA ?_|refine ya9 ?_ ?_ ?_|refine jC rfl (by first|rfl|assumption|(simp only [znl,znNS];(first|done|fail)))|refine MR.agg (MRL.cons ?_ ?_)|refine MR.fn ?_|refine MRL.cons ?_ ?_|exact MRL.nil|refine jE ?_ ?_|exact jF|exact jG|refine yb1 ?_ ?_|refine MB.row ?_|refine jI ?_ ?_|exact ya8|refine jJ rfl (by first|rfl|assumption|(simp only [znl,znNS];(first|done|fail)))|refine yb2 ?_|rfl)|(simp only [znl,znNS];(first|done|fail))|(simp only [↓reduceIte,zlk,Nat.reduceEqDiff,reduceCtorEq])|(with_reducible first|refine jJ ?_ ?_|refine ya5 ?_|refine ju ?_|refine jv ?_|refine jw ?_|refine jx ?_ (by first|rfl|assumption|(simp only [znl,znNS];(first|done|fail)))|refine jC ?_ (by first|rfl|assumption|(simp only [znl,znNS];(first|done|fail)))))))
   all_goals (first | rfl)
  by_cases hjlt : j < 16
  ·have hpb := hsR _ (getD_mem' (show j < (m.pr.getD k default).sp.length by omega))
   have hp0 := hpg j hjlt
   cases hi : ((m.pr.getD k default).sp.getD j default).is with
   | true =>
    have hp1 := (pteB_is hi).1 hp0
    have hnew := metF_new hpR hlt hjlt hi hp1.2.2.2
    have hin := metF_in hlt (by omega) hi
    have hlook : (mget (setM (metF m k j)) (.int .i64 ((m.pr.getD k default).sp.getD j default).fr)).getD (.bool false) = .bool false := by rw [look_setM, decide_eq_false hnew]
    repeat' (first|(with_reducible first|refine yrl (by constructor) ?_|refine jk (fun M hM=>?_)|(refine hM _ ?_;clear hM M)|refine yx3 ?_|refine yxa ?_ ?_|refine yxb ?_ ?_)|((with_reducible refine je ?_)<;>exact ynNS)|(with_reducible refine yxc ?_)|((with_reducible refine yxi (fun hc=>?_) (fun hc=>?_))<;>(try simp (disch:=omega) only [zhb] at hc)<;>(try (exfalso;omega))<;>(try subst hc))|(with_reducible refine yxw ?_)|(simp (config := { maxSteps := 400000 }) only [↓jt,↓reduceIte,zvs,reduceCtorEq,seval,tab,hS1,hS2,hS3,encPr,encPte,hi,hlook,keys_setM,setM_snoc,Try.results75,jTA])|(simp (disch:=omega) only [ziw]))
    all_goals first
     | (exfalso; omega)
     | (refine xl1 (j + 1) ?_ (by show j + 1 ≤ 16; omega) (by show 16 - (j + 1) < 16 - j; omega); (refine yrn [(0, 0), (1, 1), (2, 2)] false ?_ ?_<;>(repeat' (first|(with_reducible first|exact ya1|exact ya2|exact ya3|refine jx rfl (by first|rfl|assumption|(simp only [znl,znNS];(first|done|fail)))|exact ya5|exact ya7|exact jy|exact jz|refine jA ?_|refine ya9 ?_ ?_ ?_|refine jC rfl (by first|rfl|assumption|(simp only [znl,znNS];(first|done|fail)))|refine MR.agg (MRL.cons ?_ ?_)|refine MR.fn ?_|refine MRL.cons ?_ ?_|exact MRL.nil|refine jE ?_ ?_|exact jF|exact jG|refine yb1 ?_ ?_|refine MB.row ?_|refine jI ?_ ?_|exact ya8|refine jJ rfl (by first|rfl|assumption|(simp only [znl,znNS];(first|done|fail)))|refine yb2 ?_|rfl)|(simp only [znl,znNS];(first|done|fail))|(simp only [↓reduceIte,zlk,Nat.reduceEqDiff,reduceCtorEq])|(with_reducible first|refine jJ ?_ ?_|refine ya5 ?_|refine ju ?_|refine jv ?_|refine jw ?_|refine jx ?_ (by first|rfl|assumption|(simp only [znl,znNS];(first|done|fail)))|refine jC ?_ (by first|rfl|assumption|(simp only [znl,znNS];(first|done|fail))))))); all_goals (rw [hin]))
   | false =>
    have hp1 := (pteB_no hi).1 hp0
    have hw := hp1.1
    have hout := metF_out hlt (by omega) hi
    have hfa : ∀ b : Bool, (false && b) = false := fun _ => rfl
    have hz : (((m.pr.getD k default).sp.getD j default).fr == 0) = true := by rw [hp1.2]; rfl
    repeat' (first|(with_reducible first|refine yrl (by constructor) ?_|refine jk (fun M hM=>?_)|(refine hM _ ?_;clear hM M)|refine yx3 ?_|refine yxa ?_ ?_|refine yxb ?_ ?_)|((with_reducible refine je ?_)<;>exact ynNS)|(with_reducible refine yxc ?_)|((with_reducible refine yxi (fun hc=>?_) (fun hc=>?_))<;>(try simp (disch:=omega) only [zhb] at hc)<;>(try (exfalso;omega))<;>(try subst hc))|(with_reducible refine yxw ?_)|(simp (config := { maxSteps := 400000 }) only [↓jt,↓reduceIte,zvs,reduceCtorEq,seval,tab,hS1,hS2,hS3,encPr,encPte,hi,hw,hz,fit_pt,veq_pt,Try.results75,jTA])|(simp (disch:=omega) only [ziw]))
    all_goals first
     | (exfalso; omega)
     | (refine xl1 (j + 1) ?_ (by show j + 1 ≤ 16; omega) (by show 16 - (j + 1) < 16 - j; omega); (refine yrn [(0, 0), (1, 1), (2, 2)] false ?_ ?_<;>(repeat' (first|(with_reducible first|exact ya1|exact ya2|exact ya3|refine jx rfl (by first|rfl|assumption|(simp only [znl,znNS];(first|done|fail)))|exact ya5|exact ya7|exact jy|exact jz|refine jA ?_|refine ya9 ?_ ?_ ?_|refine jC rfl (by first|rfl|assumption|(simp only [znl,znNS];(first|done|fail)))|refine MR.agg (MRL.cons ?_ ?_)|refine MR.fn ?_|refine MRL.cons ?_ ?_|exact MRL.nil|refine jE ?_ ?_|exact jF|exact jG|refine yb1 ?_ ?_|refine MB.row ?_|refine jI ?_ ?_|exact ya8|refine jJ rfl (by first|rfl|assumption|(simp only [znl,znNS];(first|done|fail)))|refine yb2 ?_|rfl)|(simp only [znl,znNS];(first|done|fail))|(simp only [↓reduceIte,zlk,Nat.reduceEqDiff,reduceCtorEq])|(with_reducible first|refine jJ ?_ ?_|refine ya5 ?_|refine ju ?_|refine jv ?_|refine jw ?_|refine jx ?_ (by first|rfl|assumption|(simp only [znl,znNS];(first|done|fail)))|refine jC ?_ (by first|rfl|assumption|(simp only [znl,znNS];(first|done|fail))))))); all_goals (rw [hout]))
  ·obtain rfl : j = 16 := by omega
   repeat' (first|(with_reducible first|refine yrl (by constructor) ?_|refine jk (fun M hM=>?_)|(refine hM _ ?_;clear hM M)|refine yx3 ?_|refine yxa ?_ ?_|refine yxb ?_ ?_)|((with_reducible refine je ?_)<;>exact ynNS)|(with_reducible refine yxc ?_)|((with_reducible refine yxi (fun hc=>?_) (fun hc=>?_))<;>(try simp (disch:=omega) only [zhb] at hc)<;>(try (exfalso;omega))<;>(try subst hc))|(with_reducible refine yxw ?_)|(simp (config := { maxSteps := 400000 }) only [↓jt,↓reduceIte,zvs,reduceCtorEq,seval,tab,hS1,hS2,hS3,Try.results75,jTA])|(simp (disch:=omega) only [ziw]))
   refine ok_loop (fun j : Nat => ⟨slots [(1, .ptr 0 []), (3, .map 1), (4, .int .i64 (m.pr.getD k default).pid), (6, .ptr 2 []), (17, encPrs m.pr), (18, .int .i64 m.pr.length), (19, .int .i64 k), (85, .agg ((m.pr.getD k default).fds.map encFd)), (86, .int .i64 j)], rows [(0, .row machSh (encM m)), (1, .map (setM (metF m k 16))), (2, .row prSh (encPrA (m.pr.getD k default)))], 3⟩) (fun j => j ≤ 8) (fun j => 8 - j) 0 ?_ (Nat.zero_le _) (fun j hj => ?_)
   ·(refine yrn [(0, 0), (1, 1), (2, 2)] false ?_ ?_<;>(repeat' (first|(with_reducible first|exact ya1|exact ya2|exact ya3|refine jx rfl (by first|rfl|assumption|(simp only [znl,znNS];(first|done|fail)))|exact ya5|exact ya7|exact jy|exact jz|refine jA ?_|refine ya9 ?_ ?_ ?_|refine jC rfl (by first|rfl|assumption|(simp only [znl,znNS];(first|done|fail)))|refine MR.agg (MRL.cons ?_ ?_)|refine MR.fn ?_|refine MRL.cons ?_ ?_|exact MRL.nil|refine jE ?_ ?_|exact jF|exact jG|refine yb1 ?_ ?_|refine MB.row ?_|refine jI ?_ ?_|exact ya8|refine jJ rfl (by first|rfl|assumption|(simp only [znl,znNS];(first|done|fail)))|refine yb2 ?_|rfl)|(simp only [znl,znNS];(first|done|fail))|(simp only [↓reduceIte,zlk,Nat.reduceEqDiff,reduceCtorEq])|(with_reducible first|refine jJ ?_ ?_|refine ya5 ?_|refine ju ?_|refine jv ?_|refine jw ?_|refine jx ?_ (by first|rfl|assumption|(simp only [znl,znNS];(first|done|fail)))|refine jC ?_ (by first|rfl|assumption|(simp only [znl,znNS];(first|done|fail)))))))
    all_goals (first | rfl)
   by_cases hjlt : j < 8
   ·have hfb := hfR _ (getD_mem' (show j < (m.pr.getD k default).fds.length by omega))
    have hf0 := hfg j hjlt
    unfold fdsB at hf0
    rw [Bool.and_eq_true] at hf0
    have hf1 : (m.pr.getD k default).st = 3 → ((m.pr.getD k default).fds.getD j default).kind = 0 := fun h => by
     have := hf0.2
     rw [decide_eq_true h] at this
     simpa using this
    have hf2 : ((m.pr.getD k default).fds.getD j default).kind = 0 → ((m.pr.getD k default).fds.getD j default).n = 0 ∧ ((m.pr.getD k default).fds.getD j default).pos = 0 := fun h => by
     have := hf0.1
     unfold fdB at this
     rw [if_pos (.inl h)] at this
     exact of_decide_eq_true this
    by_cases hk0 : ((m.pr.getD k default).fds.getD j default).kind = 0
    ·have hf3 := hf2 hk0
     repeat' (first|(with_reducible first|refine yrl (by constructor) ?_|refine jk (fun M hM=>?_)|(refine hM _ ?_;clear hM M)|refine yx3 ?_|refine yxa ?_ ?_|refine yxb ?_ ?_)|((with_reducible refine je ?_)<;>exact ynNS)|(with_reducible refine yxc ?_)|((with_reducible refine yxi (fun hc=>?_) (fun hc=>?_))<;>(try simp (disch:=omega) only [zhb] at hc)<;>(try (exfalso;omega))<;>(try subst hc))|(with_reducible refine yxw ?_)|(simp (config := { maxSteps := 400000 }) only [↓jt,↓reduceIte,zvs,reduceCtorEq,seval,tab,hS1,hS2,hS3,encPr,encFd,fit_fd,veq_fd,Try.results75,jTA])|(simp (disch:=omega) only [ziw]))
     all_goals first
      | (exfalso; omega)
      | (refine xl1 (j + 1) ?_ (by show j + 1 ≤ 8; omega) (by show 8 - (j + 1) < 8 - j; omega); (refine yrn [(0, 0), (1, 1), (2, 2)] false ?_ ?_<;>(repeat' (first|(with_reducible first|exact ya1|exact ya2|exact ya3|refine jx rfl (by first|rfl|assumption|(simp only [znl,znNS];(first|done|fail)))|exact ya5|exact ya7|exact jy|exact jz|refine jA ?_|refine ya9 ?_ ?_ ?_|refine jC rfl (by first|rfl|assumption|(simp only [znl,znNS];(first|done|fail)))|refine MR.agg (MRL.cons ?_ ?_)|refine MR.fn ?_|refine MRL.cons ?_ ?_|exact MRL.nil|refine jE ?_ ?_|exact jF|exact jG|refine yb1 ?_ ?_|refine MB.row ?_|refine jI ?_ ?_|exact ya8|refine jJ rfl (by first|rfl|assumption|(simp only [znl,znNS];(first|done|fail)))|refine yb2 ?_|rfl)|(simp only [znl,znNS];(first|done|fail))|(simp only [↓reduceIte,zlk,Nat.reduceEqDiff,reduceCtorEq])|(with_reducible first|refine jJ ?_ ?_|refine ya5 ?_|refine ju ?_|refine jv ?_|refine jw ?_|refine jx ?_ (by first|rfl|assumption|(simp only [znl,znNS];(first|done|fail)))|refine jC ?_ (by first|rfl|assumption|(simp only [znl,znNS];(first|done|fail))))))); done)
    ·have hF := file_ok m hm _ hfb hf0.1 hk0
     simp only [encFd] at hF
     obtain ⟨⟨g1, g2⟩, ⟨g3, g4⟩, g5, g6⟩ := hfb
     repeat' (first|(with_reducible first|refine yrl (by constructor) ?_|refine jk (fun M hM=>?_)|(refine hM _ ?_;clear hM M)|refine yx3 ?_|refine yxa ?_ ?_|refine yxb ?_ ?_)|((with_reducible refine je ?_)<;>exact ynNS)|(with_reducible refine yxc ?_)|((with_reducible refine yxi (fun hc=>?_) (fun hc=>?_))<;>(try simp (disch:=omega) only [zhb] at hc)<;>(try (exfalso;omega))<;>(try subst hc))|(with_reducible refine yxw ?_)|(simp (config := { maxSteps := 400000 }) only [↓jt,↓reduceIte,zvs,reduceCtorEq,seval,tab,hS1,hS2,hS3,encPr,encFd,fit_fd,veq_fd,Try.results75,jTA])|(simp (disch:=omega) only [ziw]))
     all_goals first
      | (exfalso; omega)
      | (refine xl1 (j + 1) ?_ (by show j + 1 ≤ 8; omega) (by show 8 - (j + 1) < 8 - j; omega); (refine yrn [(0, 0), (1, 1), (2, 2)] false ?_ ?_<;>(repeat' (first|(with_reducible first|exact ya1|exact ya2|exact ya3|refine jx rfl (by first|rfl|assumption|(simp only [znl,znNS];(first|done|fail)))|exact ya5|exact ya7|exact jy|exact jz|refine jA ?_|refine ya9 ?_ ?_ ?_|refine jC rfl (by first|rfl|assumption|(simp only [znl,znNS];(first|done|fail)))|refine MR.agg (MRL.cons ?_ ?_)|refine MR.fn ?_|refine MRL.cons ?_ ?_|exact MRL.nil|refine jE ?_ ?_|exact jF|exact jG|refine yb1 ?_ ?_|refine MB.row ?_|refine jI ?_ ?_|exact ya8|refine jJ rfl (by first|rfl|assumption|(simp only [znl,znNS];(first|done|fail)))|refine yb2 ?_|rfl)|(simp only [znl,znNS];(first|done|fail))|(simp only [↓reduceIte,zlk,Nat.reduceEqDiff,reduceCtorEq])|(with_reducible first|refine jJ ?_ ?_|refine ya5 ?_|refine ju ?_|refine jv ?_|refine jw ?_|refine jx ?_ (by first|rfl|assumption|(simp only [znl,znNS];(first|done|fail)))|refine jC ?_ (by first|rfl|assumption|(simp only [znl,znNS];(first|done|fail))))))); done)
   ·obtain rfl : j = 8 := by omega
    have hnx := metF_next hlt
    repeat' (first|(with_reducible first|refine yrl (by constructor) ?_|refine jk (fun M hM=>?_)|(refine hM _ ?_;clear hM M)|refine yx3 ?_|refine yxa ?_ ?_|refine yxb ?_ ?_)|((with_reducible refine je ?_)<;>exact ynNS)|(with_reducible refine yxc ?_)|((with_reducible refine yxi (fun hc=>?_) (fun hc=>?_))<;>(try simp (disch:=omega) only [zhb] at hc)<;>(try (exfalso;omega))<;>(try subst hc))|(with_reducible refine yxw ?_)|(simp (config := { maxSteps := 400000 }) only [↓jt,↓reduceIte,zvs,reduceCtorEq,seval,tab,hS1,hS2,hS3,Try.results75,jTA])|(simp (disch:=omega) only [ziw]))
    refine xl1 (k + 1) ?_ (by show k + 1 ≤ m.pr.length; omega) (by show m.pr.length - (k + 1) < m.pr.length - k; omega)
    (refine yrn [(0, 0), (1, 1)] false ?_ ?_<;>(repeat' (first|(with_reducible first|exact ya1|exact ya2|exact ya3|refine jx rfl (by first|rfl|assumption|(simp only [znl,znNS];(first|done|fail)))|exact ya5|exact ya7|exact jy|exact jz|refine jA ?_|refine ya9 ?_ ?_ ?_|refine jC rfl (by first|rfl|assumption|(simp only [znl,znNS];(first|done|fail)))|refine MR.agg (MRL.cons ?_ ?_)|refine MR.fn ?_|refine MRL.cons ?_ ?_|exact MRL.nil|refine jE ?_ ?_|exact jF|exact jG|refine yb1 ?_ ?_|refine MB.row ?_|refine jI ?_ ?_|exact ya8|refine jJ rfl (by first|rfl|assumption|(simp only [znl,znNS];(first|done|fail)))|refine yb2 ?_|rfl)|(simp only [znl,znNS];(first|done|fail))|(simp only [↓reduceIte,zlk,Nat.reduceEqDiff,reduceCtorEq])|(with_reducible first|refine jJ ?_ ?_|refine ya5 ?_|refine ju ?_|refine jv ?_|refine jw ?_|refine jx ?_ (by first|rfl|assumption|(simp only [znl,znNS];(first|done|fail)))|refine jC ?_ (by first|rfl|assumption|(simp only [znl,znNS];(first|done|fail)))))))
    all_goals (first | rfl | (rw [hnx]; done))
 ·obtain rfl : k = m.pr.length := by omega
  repeat' (first|(with_reducible first|refine yrl (by constructor) ?_|refine jk (fun M hM=>?_)|(refine hM _ ?_;clear hM M)|refine yx3 ?_|refine yxa ?_ ?_|refine yxb ?_ ?_)|((with_reducible refine je ?_)<;>exact ynNS)|(with_reducible refine yxc ?_)|((with_reducible refine yxi (fun hc=>?_) (fun hc=>?_))<;>(try simp (disch:=omega) only [zhb] at hc)<;>(try (exfalso;omega))<;>(try subst hc))|(with_reducible refine yxw ?_)|(simp (config := { maxSteps := 400000 }) only [↓jt,↓reduceIte,zvs,reduceCtorEq,seval,tab,Try.results75,jTA])|(simp (disch:=omega) only [ziw]))
  all_goals first
   | (exfalso; omega)
   | (simp only [zrds]; done)
end Go.Proofs.Ytpdhdkpebbfnnaa.V
end
section
namespace Go.Proofs.Ytpdhdkpebbfnnaa.V
open Go
theorem ynP1 {l : List VV} (h : nls l = true := by first|rfl|assumption|(simp only [znl,znP1];(first|done|fail))) : nls l = true := h
set_option maxRecDepth 100000
def znP1 := And.intro @jO <| And.intro @jP <| And.intro @jQ <| And.intro @jR <| And.intro @jS <| And.intro @jT <| And.intro @jU <| True.intro
set_option maxHeartbeats 4000000
theorem numbers_ex (m : Mach) (hm : MFit 20000 m) : Spec Try.prog 73 [encM m] (.int .i64 (if numB m = true then 2 else 0)) := by
 cases h : numB m with
 | false => rw [if_neg (by simp)]; exact numbers_ok m h
 | true =>
  rw [if_pos rfl]
  unfold numB at h
  have h := of_decide_eq_true h
  refine spec_ok Try.func73 rfl rfl (by kernel_rfl) (k := 1) rfl (by decide) ?_
  repeat' (first|(with_reducible first|refine yrl (by constructor) ?_|refine jk (fun M hM=>?_)|(refine hM _ ?_;clear hM M)|refine yx3 ?_|refine yxa ?_ ?_|refine yxb ?_ ?_)|((with_reducible refine je ?_)<;>exact ynP1)|(with_reducible refine yxc ?_)|((with_reducible refine yxi (fun hc=>?_) (fun hc=>?_))<;>(try simp (disch:=omega) only [zhb] at hc)<;>(try (exfalso;omega))<;>(try subst hc))|(with_reducible refine yxw ?_)|(simp (config := { maxSteps := 400000 }) only [↓jt,↓reduceIte,zvs,reduceCtorEq,seval,tab,Try.results73,jTA])|(simp (disch:=omega) only [ziw]))
  all_goals first
   | (exfalso; omega)
   | (simp only [zrds]; done)
theorem frames_many (m : Mach) (hm : MFit 20000 m) (h : m.fr.length < 1 ∨ 64 < m.fr.length) : Spec Try.prog 74 [encM m] (.int .i64 6) := by
 have hl := hm.fr
 refine spec_ok Try.func74 rfl rfl (by kernel_rfl) (k := 1) rfl (by decide) ?_
 repeat' (first|(with_reducible first|refine yrl (by constructor) ?_|refine jk (fun M hM=>?_)|(refine hM _ ?_;clear hM M)|refine yx3 ?_|refine yxa ?_ ?_|refine yxb ?_ ?_)|((with_reducible refine je ?_)<;>exact ynP1)|(with_reducible refine yxc ?_)|((with_reducible refine yxi (fun hc=>?_) (fun hc=>?_))<;>(try simp (disch:=omega) only [zhb] at hc)<;>(try (exfalso;omega))<;>(try subst hc))|(with_reducible refine yxw ?_)|(simp (config := { maxSteps := 400000 }) only [↓jt,↓reduceIte,zvs,reduceCtorEq,seval,tab,Try.results74,jTA])|(simp (disch:=omega) only [ziw]))
 all_goals first
  | (exfalso; omega)
  | (simp only [zrds]; done)
theorem frames_bad (m : Mach) (hm : MFit 20000 m) (h : 1 ≤ m.fr.length ∧ m.fr.length ≤ 64) (k0 : Nat) (hk0 : k0 < m.fr.length) (hk1 : (m.fr.getD k0 []).length ≠ 128) : Spec Try.prog 74 [encM m] (.int .i64 3) := by
 have hs := hm.frS
 refine spec_ok Try.func74 rfl rfl (by kernel_rfl) (k := 1) rfl (by decide) ?_
 repeat' (first|(with_reducible first|refine yrl (by constructor) ?_|refine jk (fun M hM=>?_)|(refine hM _ ?_;clear hM M)|refine yx3 ?_|refine yxa ?_ ?_|refine yxb ?_ ?_)|((with_reducible refine je ?_)<;>exact ynP1)|(with_reducible refine yxc ?_)|((with_reducible refine yxi (fun hc=>?_) (fun hc=>?_))<;>(try simp (disch:=omega) only [zhb] at hc)<;>(try (exfalso;omega))<;>(try subst hc))|(with_reducible refine yxw ?_)|(simp (config := { maxSteps := 400000 }) only [↓jt,↓reduceIte,zvs,reduceCtorEq,seval,tab,Try.results74,jTA])|(simp (disch:=omega) only [ziw]))
 all_goals (try (exfalso; omega))
 refine ok_loop (fun k : Nat => ⟨slots [(1, .ptr 0 []), (16, encStrs m.fr), (17, .int .i64 m.fr.length), (18, .int .i64 k)], rows [(0, .row machSh (encM m))], 1⟩) (fun k => k ≤ k0) (fun k => m.fr.length - k) 0 ?_ (Nat.zero_le _) (fun k hk => ?_)
 ·(refine yrn [(0, 0)] false ?_ ?_<;>(repeat' (first|(with_reducible first|exact ya1|exact ya2|exact ya3|refine jx rfl (by first|rfl|assumption|(simp only [znl,znP1];(first|done|fail)))|exact ya5|exact ya7|exact jy|exact jz|refine jA ?_|refine ya9 ?_ ?_ ?_|refine jC rfl (by first|rfl|assumption|(simp only [znl,znP1];(first|done|fail)))|refine MR.agg (MRL.cons ?_ ?_)|refine MR.fn ?_|refine MRL.cons ?_ ?_|exact MRL.nil|refine jE ?_ ?_|exact jF|exact jG|refine yb1 ?_ ?_|refine MB.row ?_|refine jI ?_ ?_|exact ya8|refine jJ rfl (by first|rfl|assumption|(simp only [znl,znP1];(first|done|fail)))|refine yb2 ?_|rfl)|(simp only [znl,znP1];(first|done|fail))|(simp only [↓reduceIte,zlk,Nat.reduceEqDiff,reduceCtorEq])|(with_reducible first|refine jJ ?_ ?_|refine ya5 ?_|refine ju ?_|refine jv ?_|refine jw ?_|refine jx ?_ (by first|rfl|assumption|(simp only [znl,znP1];(first|done|fail)))|refine jC ?_ (by first|rfl|assumption|(simp only [znl,znP1];(first|done|fail)))))))
  all_goals (first | rfl)
 have hlt : k < m.fr.length := by omega
 have hsk := hs _ (getD_mem' hlt)
 rw [default_str] at hsk
 repeat' (first|(with_reducible first|refine yrl (by constructor) ?_|refine jk (fun M hM=>?_)|(refine hM _ ?_;clear hM M)|refine yx3 ?_|refine yxa ?_ ?_|refine yxb ?_ ?_)|((with_reducible refine je ?_)<;>exact ynP1)|(with_reducible refine yxc ?_)|((with_reducible refine yxi (fun hc=>?_) (fun hc=>?_))<;>(try simp (disch:=omega) only [zhb] at hc)<;>(try (exfalso;omega))<;>(try subst hc))|(with_reducible refine yxw ?_)|(simp (config := { maxSteps := 400000 }) only [↓jt,↓reduceIte,zvs,reduceCtorEq,seval,tab,Try.results74,jTA])|(simp (disch:=omega) only [ziw]))
 all_goals first
  | (exfalso; omega)
  | (simp only [zrds]; done)
  | (refine xl1 (k + 1) ?_ (by by_cases e : k = k0; (subst e; exfalso; omega); show k + 1 ≤ k0; omega) (by show m.fr.length - (k + 1) < m.fr.length - k; omega); (refine yrn [(0, 0)] false ?_ ?_<;>(repeat' (first|(with_reducible first|exact ya1|exact ya2|exact ya3|refine jx rfl (by first|rfl|assumption|(simp only [znl,znP1];(first|done|fail)))|exact ya5|exact ya7|exact jy|exact jz|refine jA ?_|refine ya9 ?_ ?_ ?_|refine jC rfl (by first|rfl|assumption|(simp only [znl,znP1];(first|done|fail)))|refine MR.agg (MRL.cons ?_ ?_)|refine MR.fn ?_|refine MRL.cons ?_ ?_|exact MRL.nil|refine jE ?_ ?_|exact jF|exact jG|refine yb1 ?_ ?_|refine MB.row ?_|refine jI ?_ ?_|exact ya8|refine jJ rfl (by first|rfl|assumption|(simp only [znl,znP1];(first|done|fail)))|refine yb2 ?_|rfl)|(simp only [znl,znP1];(first|done|fail))|(simp only [↓reduceIte,zlk,Nat.reduceEqDiff,reduceCtorEq])|(with_reducible first|refine jJ ?_ ?_|refine ya5 ?_|refine ju ?_|refine jv ?_|refine jw ?_|refine jx ?_ (by first|rfl|assumption|(simp only [znl,znP1];(first|done|fail)))|refine jC ?_ (by first|rfl|assumption|(simp only [znl,znP1];(first|done|fail))))))); done)
theorem texts_ex (m : Mach) (hm : MFit 20000 m) : Spec Try.prog 77 [encM m] (.int .i64 (if 65536 < m.inp.length ∨ 128 < m.init.length then 6 else 0)) := by
 have h1 := hm.inp
 have h2 := hm.init
 by_cases h : 65536 < m.inp.length ∨ 128 < m.init.length
 ·rw [if_pos h]
  refine spec_ok Try.func77 rfl rfl (by kernel_rfl) (k := 1) rfl (by decide) ?_
  repeat' (first|(with_reducible first|refine yrl (by constructor) ?_|refine jk (fun M hM=>?_)|(refine hM _ ?_;clear hM M)|refine yx3 ?_|refine yxa ?_ ?_|refine yxb ?_ ?_)|((with_reducible refine je ?_)<;>exact ynP1)|(with_reducible refine yxc ?_)|((with_reducible refine yxi (fun hc=>?_) (fun hc=>?_))<;>(try simp (disch:=omega) only [zhb] at hc)<;>(try (exfalso;omega))<;>(try subst hc))|(with_reducible refine yxw ?_)|(simp (config := { maxSteps := 400000 }) only [↓jt,↓reduceIte,zvs,reduceCtorEq,seval,tab,Try.results77,jTA])|(simp (disch:=omega) only [ziw]))
  all_goals first
   | (exfalso; omega)
   | (simp only [zrds]; done)
 ·rw [if_neg h]
  exact texts_ok m ⟨by omega, by omega⟩
theorem spipes_many (m : Mach) (hm : MFit 20000 m) (h : 64 < m.pipes.length) : Spec Try.prog 76 [encM m] (.int .i64 6) := by
 have hl := hm.pipes
 refine spec_ok Try.func76 rfl rfl (by kernel_rfl) (k := 1) rfl (by decide) ?_
 repeat' (first|(with_reducible first|refine yrl (by constructor) ?_|refine jk (fun M hM=>?_)|(refine hM _ ?_;clear hM M)|refine yx3 ?_|refine yxa ?_ ?_|refine yxb ?_ ?_)|((with_reducible refine je ?_)<;>exact ynP1)|(with_reducible refine yxc ?_)|((with_reducible refine yxi (fun hc=>?_) (fun hc=>?_))<;>(try simp (disch:=omega) only [zhb] at hc)<;>(try (exfalso;omega))<;>(try subst hc))|(with_reducible refine yxw ?_)|(simp (config := { maxSteps := 400000 }) only [↓jt,↓reduceIte,zvs,reduceCtorEq,seval,tab,Try.results76,jTA])|(simp (disch:=omega) only [ziw]))
 all_goals first
  | (exfalso; omega)
  | (simp only [zrds]; done)
theorem pipeB_of {m : Mach} {k : Nat} (h1 : lastP m.pipes k < (m.pipes.getD k default).id) (h0 : 0 < k → 1 ≤ (m.pipes.getD (k - 1) default).id) (h2 : (m.pipes.getD k default).id < m.newp) (h3 : (m.pipes.getD k default).d.length ≤ 64) : pipeB m k = true := by
 unfold pipeB longB
 simp only [Bool.not_eq_true',Bool.or_eq_false_iff,decide_eq_false_iff_not,Bool.and_eq_false_iff]
 cases k with
 | zero =>
  have h1 : (0 : Int) < (m.pipes.getD 0 default).id := h1
  omega
 | succ k =>
  have h1 : (m.pipes.getD k default).id < (m.pipes.getD (k + 1) default).id := h1
  have h0 := h0 (by omega)
  rw [Nat.add_sub_cancel] at h0 ⊢
  omega
theorem spipes_bad (m : Mach) (hm : MFit 20000 m) (h : m.pipes.length ≤ 64) (hs : pipesB m = false) : Spec Try.prog 76 [encM m] (.int .i64 3) := by
 have hpiR := hm.pipesR
 have hnot : ¬∀ i, i < m.pipes.length → pipeB m i = true := fun hq => by
  rw [show pipesB m = true from List.all_eq_true.2 fun i hi => hq i (List.mem_range.1 hi)] at hs
  cases hs
 refine spec_ok Try.func76 rfl rfl (by kernel_rfl) (k := 1) rfl (by decide) ?_
 repeat' (first|(with_reducible first|refine yrl (by constructor) ?_|refine jk (fun M hM=>?_)|(refine hM _ ?_;clear hM M)|refine yx3 ?_|refine yxa ?_ ?_|refine yxb ?_ ?_)|((with_reducible refine je ?_)<;>exact ynP1)|(with_reducible refine yxc ?_)|((with_reducible refine yxi (fun hc=>?_) (fun hc=>?_))<;>(try simp (disch:=omega) only [zhb] at hc)<;>(try (exfalso;omega))<;>(try subst hc))|(with_reducible refine yxw ?_)|(simp (config := { maxSteps := 400000 }) only [↓jt,↓reduceIte,zvs,reduceCtorEq,seval,tab,Try.results76,jTA])|(simp (disch:=omega) only [ziw]))
 all_goals (try (exfalso; omega))
 refine ok_loop (fun k : Nat => ⟨slots [(1, .ptr 0 []), (3, .int .i64 (lastP m.pipes k)), (11, encPis m.pipes), (12, .int .i64 m.pipes.length), (13, .int .i64 k)], rows [(0, .row machSh (encM m))], 1⟩) (fun k => k ≤ m.pipes.length ∧ ∀ j, j < k → pipeB m j = true) (fun k => m.pipes.length - k) 0 ?_ ⟨Nat.zero_le _, fun j hj => by omega⟩ (fun k hk => ?_)
 ·(refine yrn [(0, 0)] false ?_ ?_<;>(repeat' (first|(with_reducible first|exact ya1|exact ya2|exact ya3|refine jx rfl (by first|rfl|assumption|(simp only [znl,znP1];(first|done|fail)))|exact ya5|exact ya7|exact jy|exact jz|refine jA ?_|refine ya9 ?_ ?_ ?_|refine jC rfl (by first|rfl|assumption|(simp only [znl,znP1];(first|done|fail)))|refine MR.agg (MRL.cons ?_ ?_)|refine MR.fn ?_|refine MRL.cons ?_ ?_|exact MRL.nil|refine jE ?_ ?_|exact jF|exact jG|refine yb1 ?_ ?_|refine MB.row ?_|refine jI ?_ ?_|exact ya8|refine jJ rfl (by first|rfl|assumption|(simp only [znl,znP1];(first|done|fail)))|refine yb2 ?_|rfl)|(simp only [znl,znP1];(first|done|fail))|(simp only [↓reduceIte,zlk,Nat.reduceEqDiff,reduceCtorEq])|(with_reducible first|refine jJ ?_ ?_|refine ya5 ?_|refine ju ?_|refine jv ?_|refine jw ?_|refine jx ?_ (by first|rfl|assumption|(simp only [znl,znP1];(first|done|fail)))|refine jC ?_ (by first|rfl|assumption|(simp only [znl,znP1];(first|done|fail)))))))
  all_goals (first | rfl)
 obtain ⟨hk, hn⟩ := hk
 by_cases hlt : k < m.pipes.length
 ·obtain ⟨⟨p1, p2⟩, p3⟩ := hpiR _ (getD_mem' hlt)
  have hnn : lastP m.pipes (k + 1) = (m.pipes.getD k default).id := rfl
  have hst : lastP m.pipes k < (m.pipes.getD k default).id → (m.pipes.getD k default).id < m.newp → (m.pipes.getD k default).d.length ≤ 64 → ∀ j, j < k + 1 → pipeB m j = true := fun a b c j hj => by
   by_cases e : j = k
   ·rw [e]
    exact pipeB_of a (fun h0 => (pipeB_facts (hn (k - 1) (by omega))).1) b c
   ·exact hn j (by omega)
  have hl0 : i64R (lastP m.pipes k) := by
   cases k with
   | zero => exact ⟨by show (-9223372036854775808 : Int) ≤ 0; omega, by show (0 : Int) ≤ 9223372036854775807; omega⟩
   | succ k => exact (hpiR _ (getD_mem' (show k < m.pipes.length by omega))).1
  obtain ⟨q1, q2⟩ := hl0
  generalize lastP m.pipes k = lp at hst q1 q2 ⊢
  repeat' (first|(with_reducible first|refine yrl (by constructor) ?_|refine jk (fun M hM=>?_)|(refine hM _ ?_;clear hM M)|refine yx3 ?_|refine yxa ?_ ?_|refine yxb ?_ ?_)|((with_reducible refine je ?_)<;>exact ynP1)|(with_reducible refine yxc ?_)|((with_reducible refine yxi (fun hc=>?_) (fun hc=>?_))<;>(try simp (disch:=omega) only [zhb] at hc)<;>(try (exfalso;omega))<;>(try subst hc))|(with_reducible refine yxw ?_)|(simp (config := { maxSteps := 400000 }) only [↓jt,↓reduceIte,zvs,reduceCtorEq,seval,tab,encPi,Try.results76,jTA])|(simp (disch:=omega) only [ziw]))
  all_goals first
   | (exfalso; omega)
   | (simp only [zrds]; done)
   | (refine xl1 (k + 1) ?_ ⟨by show k + 1 ≤ m.pipes.length; omega, hst (by omega) (by omega) (by omega)⟩ (by show m.pipes.length - (k + 1) < m.pipes.length - k; omega); (refine yrn [(0, 0)] false ?_ ?_<;>(repeat' (first|(with_reducible first|exact ya1|exact ya2|exact ya3|refine jx rfl (by first|rfl|assumption|(simp only [znl,znP1];(first|done|fail)))|exact ya5|exact ya7|exact jy|exact jz|refine jA ?_|refine ya9 ?_ ?_ ?_|refine jC rfl (by first|rfl|assumption|(simp only [znl,znP1];(first|done|fail)))|refine MR.agg (MRL.cons ?_ ?_)|refine MR.fn ?_|refine MRL.cons ?_ ?_|exact MRL.nil|refine jE ?_ ?_|exact jF|exact jG|refine yb1 ?_ ?_|refine MB.row ?_|refine jI ?_ ?_|exact ya8|refine jJ rfl (by first|rfl|assumption|(simp only [znl,znP1];(first|done|fail)))|refine yb2 ?_|rfl)|(simp only [znl,znP1];(first|done|fail))|(simp only [↓reduceIte,zlk,Nat.reduceEqDiff,reduceCtorEq])|(with_reducible first|refine jJ ?_ ?_|refine ya5 ?_|refine ju ?_|refine jv ?_|refine jw ?_|refine jx ?_ (by first|rfl|assumption|(simp only [znl,znP1];(first|done|fail)))|refine jC ?_ (by first|rfl|assumption|(simp only [znl,znP1];(first|done|fail))))))); all_goals (first | rfl | omega))
 ·obtain rfl : k = m.pipes.length := by omega
  exact absurd hn hnot
end Go.Proofs.Ytpdhdkpebbfnnaa.V
end
