/-
  Parts of the proof of ProcRight: P2, P3, D4, D5, D6, Q1, VregT, TB, TC, Vnew, TE, TD, T2, O1, Q6, T4, NJ, T5.
  Conditions: none.
-/
import Derived.Test.YtpdhdkpebbfnnaaWProcRight07
import Derived.Test.YtpdhdkpebbfnnaaWProcRight04
import Derived.Test.YtpdhdkpebbfnnaaWProcRight05
import Derived.Test.YtpdhdkpebbfnnaaWProcRight06
set_option linter.unusedVariables false
set_option linter.unusedSimpArgs false
set_option linter.unusedSectionVars false
set_option linter.defProp false
section
namespace Go.Proofs.Ytpdhdkpebbfnnaa.V
open Go
theorem ynP2 {l : List VV} (h : nls l = true := by first|rfl|assumption|(simp only [znl,znP2];(first|done|fail))) : nls l = true := h
set_option maxRecDepth 100000
def znP2 := And.intro @jO <| And.intro @jP <| And.intro @jQ <| And.intro @jR <| And.intro @jS <| And.intro @jT <| And.intro @jU <| True.intro
set_option maxHeartbeats 4000000
def fieldQ (st r0 why n code : Int) : Prop := (st = 1 ∨ st = 2 ∨ st = 3) ∧ r0 = 0 ∧ (st = 2 → 1 ≤ why ∧ why ≤ 5) ∧ (st ≠ 2 → why = 0 ∧ n = 0) ∧ (st = 3 ∨ code = 0)
theorem fields_ex (p : Pr) (hp : PrR p) : ∃ b, (b = true ↔ fieldQ p.st (p.rs.getD 0 default) p.why p.n p.code) ∧ Spec Try.prog 109 [encPr p] (.bool b) := by
 obtain ⟨R, hR⟩ : ∃ R : Bool, (R = true ↔ fieldQ p.st (p.rs.getD 0 default) p.why p.n p.code) := by
  by_cases h : fieldQ p.st (p.rs.getD 0 default) p.why p.n p.code
  ·exact ⟨true, iff_of_true rfl h⟩
  ·exact ⟨false, iff_of_false (by simp) h⟩
 refine ⟨R, hR, ?_⟩
 obtain ⟨hS1, hS2, hS3⟩ := pr3 hp
 have hL := slives_spec p hp
 have hrl := hp.rs
 unfold fieldQ at hR
 have hlv : livesP p = true ↔ (p.st = 1 ∨ p.st = 2) := by simp [livesP]
 simp only [encPr] at hL
 obtain ⟨b, hb⟩ : ∃ b, livesP p = b := ⟨_, rfl⟩
 rw [hb] at hL hlv
 cases b
 all_goals
  simp only [true_iff,Bool.false_eq_true,false_iff] at hlv
  refine spec_ok Try.func109 rfl rfl (by kernel_rfl) (k := 1) rfl (by decide) ?_
  repeat' (first|(with_reducible first|refine yrl (by constructor) ?_|refine jk (fun M hM=>?_)|(refine hM _ ?_;clear hM M)|refine yx3 ?_|refine yxa ?_ ?_|refine yxb ?_ ?_)|((with_reducible refine je ?_)<;>exact ynP2)|(with_reducible refine yxc ?_)|((with_reducible refine yxi (fun hc=>?_) (fun hc=>?_))<;>(try simp (disch:=omega) only [zhb] at hc)<;>(try (exfalso;omega))<;>(try subst hc))|(with_reducible refine yxw ?_)|(simp (config := { maxSteps := 400000 }) only [↓jt,↓reduceIte,zvs,reduceCtorEq,seval,tab,hS1,hS2,hS3,encPr,Try.results109,jTA])|(simp (disch:=omega) only [ziw]))
  all_goals first
   | (exfalso; omega)
   | (simp only [zrds]; rw [Bool.eq_iff_iff, hR]; simp only [beq_iff_eq,true_iff,iff_true,false_iff,iff_false,Bool.false_eq_true,decide_eq_true_eq,Bool.or_eq_true]; omega)
   | (simp only [zrds]; symm; rw [Bool.eq_iff_iff, hR]; simp only [beq_iff_eq,true_iff,iff_true,false_iff,iff_false,Bool.false_eq_true,decide_eq_true_eq,Bool.or_eq_true]; omega)
def fileQ (l : List Pip) (f : Fdd) : Prop := ((f.kind = 1 ∨ f.kind = 2) ∧ f.n = 0 ∧ f.pos = 0) ∨ (f.kind = 3 ∧ 1 ≤ f.n ∧ f.n ≤ 64 ∧ 0 ≤ f.pos ∧ f.pos ≤ 8960) ∨ ((f.kind = 4 ∨ f.kind = 5) ∧ f.pos = 0 ∧ 0 ≤ placeI l f.n)
theorem file_ex (m : Mach) (hm : MFit 20000 m) (f : Fdd) (hf : fdR f) : ∃ b, (b = true ↔ fileQ m.pipes f) ∧ Spec Try.prog 111 [encM m, encFd f] (.bool b) := by
 obtain ⟨R, hR⟩ : ∃ R : Bool, (R = true ↔ fileQ m.pipes f) := by
  by_cases h : fileQ m.pipes f
  ·exact ⟨true, iff_of_true rfl h⟩
  ·exact ⟨false, iff_of_false (by simp) h⟩
 refine ⟨R, hR, ?_⟩
 have hP := place_spec m hm f.n hf.2.1
 obtain ⟨⟨f1, f2⟩, ⟨f3, f4⟩, f5, f6⟩ := hf
 unfold fileQ at hR
 generalize placeI m.pipes f.n = pl at hP hR
 refine spec_ok Try.func111 rfl rfl (by kernel_rfl) (k := 2) rfl (by decide) ?_
 repeat' (first|(with_reducible first|refine yrl (by constructor) ?_|refine jk (fun M hM=>?_)|(refine hM _ ?_;clear hM M)|refine yx3 ?_|refine yxa ?_ ?_|refine yxb ?_ ?_)|((with_reducible refine je ?_)<;>exact ynP2)|(with_reducible refine yxc ?_)|((with_reducible refine yxi (fun hc=>?_) (fun hc=>?_))<;>(try simp (disch:=omega) only [zhb] at hc)<;>(try (exfalso;omega))<;>(try subst hc))|(with_reducible refine yxw ?_)|(simp (config := { maxSteps := 400000 }) only [↓jt,↓reduceIte,zvs,reduceCtorEq,seval,tab,encFd,Try.results111,jTA])|(simp (disch:=omega) only [ziw]))
 all_goals first
  | (exfalso; omega)
  | (simp only [zrds]; rw [Bool.eq_iff_iff, hR]; simp only [beq_iff_eq,true_iff,iff_true,false_iff,iff_false,Bool.false_eq_true,decide_eq_true_eq,Bool.or_eq_true]; omega)
  | (simp only [zrds]; symm; rw [Bool.eq_iff_iff, hR]; simp only [beq_iff_eq,true_iff,iff_true,false_iff,iff_false,Bool.false_eq_true,decide_eq_true_eq,Bool.or_eq_true]; omega)
theorem parent_no (m : Mach) (hm : MFit 20000 m) (p : Pr) (hp : PrR p) (h : ¬(livesB m.pr p.par = true ∨ (p.par = 0 ∧ livesP p = true))) : Spec Try.prog 110 [encM m, encPr p] (.bool false) := by
 have hl := hm.pr
 have hpR := hm.prR
 obtain ⟨hS1, hS2, hS3⟩ := pr3 hp
 have hL := slives_spec p hp
 simp only [encPr] at hL
 have h1 : ¬(p.par = 0 ∧ livesP p = true) := fun x => h (.inr x)
 have h2 : ∀ k, k < m.pr.length → livesQ p.par (m.pr.getD k default) = false := fun k hk => by
  cases hc : livesQ p.par (m.pr.getD k default) with
  | false => rfl
  | true =>
   refine absurd (.inl ?_) h
   unfold livesB
   rw [List.any_eq_true]
   exact ⟨_, getD_mem' hk, hc⟩
 obtain ⟨b, hb⟩ : ∃ b, livesP p = b := ⟨_, rfl⟩
 rw [hb] at hL h1
 have h1 : b = true → p.par ≠ 0 := fun e h => h1 ⟨h, e⟩
 cases b
 all_goals
  first | have h1 := h1 rfl | skip
  refine spec_ok Try.func110 rfl rfl (by kernel_rfl) (k := 2) rfl (by decide) ?_
  repeat' (first|(with_reducible first|refine yrl (by constructor) ?_|refine jk (fun M hM=>?_)|(refine hM _ ?_;clear hM M)|refine yx3 ?_|refine yxa ?_ ?_|refine yxb ?_ ?_)|((with_reducible refine je ?_)<;>exact ynP2)|(with_reducible refine yxc ?_)|((with_reducible refine yxi (fun hc=>?_) (fun hc=>?_))<;>(try simp (disch:=omega) only [zhb] at hc)<;>(try (exfalso;omega))<;>(try subst hc))|(with_reducible refine yxw ?_)|(simp (config := { maxSteps := 400000 }) only [↓jt,↓reduceIte,zvs,reduceCtorEq,seval,tab,hS1,hS2,hS3,encPr,Try.results110,jTA])|(simp (disch:=omega) only [ziw]))
  all_goals (try (exfalso; omega))
  all_goals
   refine ja (ok_body Try.func47 rfl rfl (by kernel_rfl) (k := 2) (by rfl) (by decide) ?_)
   repeat' (first|(with_reducible first|refine yrl (by constructor) ?_|refine jk (fun M hM=>?_)|(refine hM _ ?_;clear hM M)|refine yx3 ?_|refine yxa ?_ ?_|refine yxb ?_ ?_)|((with_reducible refine je ?_)<;>exact ynP2)|(with_reducible refine yxc ?_)|((with_reducible refine yxi (fun hc=>?_) (fun hc=>?_))<;>(try simp (disch:=omega) only [zhb] at hc)<;>(try (exfalso;omega))<;>(try subst hc))|(with_reducible refine yxw ?_)|(simp (config := { maxSteps := 400000 }) only [↓jt,↓reduceIte,zvs,reduceCtorEq,seval,tab,Try.results47, List.toList_toArray])|(simp (disch:=omega) only [ziw]))
   refine ja (ok_body Try.func53 rfl rfl (by kernel_rfl) (k := 2) (by rfl) (by decide) ?_)
   repeat' (first|(with_reducible first|refine yrl (by constructor) ?_|refine jk (fun M hM=>?_)|(refine hM _ ?_;clear hM M)|refine yx3 ?_|refine yxa ?_ ?_|refine yxb ?_ ?_)|((with_reducible refine je ?_)<;>exact ynP2)|(with_reducible refine yxc ?_)|((with_reducible refine yxi (fun hc=>?_) (fun hc=>?_))<;>(try simp (disch:=omega) only [zhb] at hc)<;>(try (exfalso;omega))<;>(try subst hc))|(with_reducible refine yxw ?_)|(simp (config := { maxSteps := 400000 }) only [↓jt,↓reduceIte,zvs,reduceCtorEq,seval,tab,Try.results53, List.toList_toArray])|(simp (disch:=omega) only [ziw]))
   refine ok_loop (fun k : Nat => ⟨slots [(0, encPrs m.pr), (1, .fn 137 [.ptr 1 []]), (6, encPrs m.pr), (7, .int .i64 m.pr.length), (8, .int .i64 k)], rows [(0, .row machSh (encM m)), (1, .row prSh (encPrA p))], 2⟩) (fun k => k ≤ m.pr.length) (fun k => m.pr.length - k) 0 ?_ (Nat.zero_le _) (fun k hk => ?_)
   ·(refine yrn [] false ?_ ?_<;>(repeat' (first|(with_reducible first|exact ya1|exact ya2|exact ya3|refine jx rfl (by first|rfl|assumption|(simp only [znl,znP2];(first|done|fail)))|exact ya5|exact ya7|exact jy|exact jz|refine jA ?_|refine ya9 ?_ ?_ ?_|refine jC rfl (by first|rfl|assumption|(simp only [znl,znP2];(first|done|fail)))|refine MR.agg (MRL.cons ?_ ?_)|refine MR.fn ?_|refine MRL.cons ?_ ?_|exact MRL.nil|refine jE ?_ ?_|exact jF|exact jG|refine yb1 ?_ ?_|refine MB.row ?_|refine jI ?_ ?_|exact ya8|refine jJ rfl (by first|rfl|assumption|(simp only [znl,znP2];(first|done|fail)))|refine yb2 ?_|rfl)|(simp only [znl,znP2];(first|done|fail))|(simp only [↓reduceIte,zlk,Nat.reduceEqDiff,reduceCtorEq])|(with_reducible first|refine jJ ?_ ?_|refine ya5 ?_|refine ju ?_|refine jv ?_|refine jw ?_|refine jx ?_ (by first|rfl|assumption|(simp only [znl,znP2];(first|done|fail)))|refine jC ?_ (by first|rfl|assumption|(simp only [znl,znP2];(first|done|fail)))))))
    all_goals (first | rfl)
   by_cases hlt : k < m.pr.length
   ·have hb := hpR _ (getD_mem' hlt)
    obtain ⟨hT1, hT2, hT3⟩ := pr3 hb
    have hLq := slives_spec _ hb
    simp only [encPr] at hLq
    have hQd : livesQ p.par (m.pr.getD k default) = (decide ((m.pr.getD k default).pid = p.par) && livesP (m.pr.getD k default)) := rfl
    obtain ⟨c, hcc⟩ : ∃ c, livesP (m.pr.getD k default) = c := ⟨_, rfl⟩
    rw [hcc] at hLq hQd
    rw [h2 k hlt] at hQd
    have hqn : c = true → (m.pr.getD k default).pid ≠ p.par := fun e hq => by
     rw [e, decide_eq_true hq] at hQd
     cases hQd
    clear hQd
    cases c
    all_goals
     first | have hqn := hqn rfl | skip
     repeat' (first|(with_reducible first|refine yrl (by constructor) ?_|refine jk (fun M hM=>?_)|(refine hM _ ?_;clear hM M)|refine yx3 ?_|refine yxa ?_ ?_|refine yxb ?_ ?_)|((with_reducible refine je ?_)<;>exact ynP2)|(with_reducible refine yxc ?_)|((with_reducible refine yxi (fun hc=>?_) (fun hc=>?_))<;>(try simp (disch:=omega) only [zhb] at hc)<;>(try (exfalso;omega))<;>(try subst hc))|(with_reducible refine yxw ?_)|(simp (config := { maxSteps := 400000 }) only [↓jt,↓reduceIte,zvs,reduceCtorEq,seval,tab,hT1,hT2,hT3,encPr,Try.results53, List.toList_toArray])|(simp (disch:=omega) only [ziw]))
     refine ja (ok_body Try.func137 rfl rfl (by kernel_rfl) (k := 2) (by rfl) (by decide) ?_)
     repeat' (first|(with_reducible first|refine yrl (by constructor) ?_|refine jk (fun M hM=>?_)|(refine hM _ ?_;clear hM M)|refine yx3 ?_|refine yxa ?_ ?_|refine yxb ?_ ?_)|((with_reducible refine je ?_)<;>exact ynP2)|(with_reducible refine yxc ?_)|((with_reducible refine yxi (fun hc=>?_) (fun hc=>?_))<;>(try simp (disch:=omega) only [zhb] at hc)<;>(try (exfalso;omega))<;>(try subst hc))|(with_reducible refine yxw ?_)|(simp (config := { maxSteps := 400000 }) only [↓jt,↓reduceIte,zvs,reduceCtorEq,seval,tab,hT1,hT2,hT3,encPr,Try.results137,Try.results53, Try.results47, Try.results110, List.toList_toArray])|(simp (disch:=omega) only [ziw]))
     all_goals first
      | (exfalso; omega)
      | (refine xl1 (k + 1) ?_ (by show k + 1 ≤ m.pr.length; omega) (by show m.pr.length - (k + 1) < m.pr.length - k; omega); (refine yrn [] false ?_ ?_<;>(repeat' (first|(with_reducible first|exact ya1|exact ya2|exact ya3|refine jx rfl (by first|rfl|assumption|(simp only [znl,znP2];(first|done|fail)))|exact ya5|exact ya7|exact jy|exact jz|refine jA ?_|refine ya9 ?_ ?_ ?_|refine jC rfl (by first|rfl|assumption|(simp only [znl,znP2];(first|done|fail)))|refine MR.agg (MRL.cons ?_ ?_)|refine MR.fn ?_|refine MRL.cons ?_ ?_|exact MRL.nil|refine jE ?_ ?_|exact jF|exact jG|refine yb1 ?_ ?_|refine MB.row ?_|refine jI ?_ ?_|exact ya8|refine jJ rfl (by first|rfl|assumption|(simp only [znl,znP2];(first|done|fail)))|refine yb2 ?_|rfl)|(simp only [znl,znP2];(first|done|fail))|(simp only [↓reduceIte,zlk,Nat.reduceEqDiff,reduceCtorEq])|(with_reducible first|refine jJ ?_ ?_|refine ya5 ?_|refine ju ?_|refine jv ?_|refine jw ?_|refine jx ?_ (by first|rfl|assumption|(simp only [znl,znP2];(first|done|fail)))|refine jC ?_ (by first|rfl|assumption|(simp only [znl,znP2];(first|done|fail))))))); done)
   ·obtain rfl : k = m.pr.length := by omega
    repeat' (first|(with_reducible first|refine yrl (by constructor) ?_|refine jk (fun M hM=>?_)|(refine hM _ ?_;clear hM M)|refine yx3 ?_|refine yxa ?_ ?_|refine yxb ?_ ?_)|((with_reducible refine je ?_)<;>exact ynP2)|(with_reducible refine yxc ?_)|((with_reducible refine yxi (fun hc=>?_) (fun hc=>?_))<;>(try simp (disch:=omega) only [zhb] at hc)<;>(try (exfalso;omega))<;>(try subst hc))|(with_reducible refine yxw ?_)|(simp (config := { maxSteps := 400000 }) only [↓jt,↓reduceIte,zvs,reduceCtorEq,seval,tab,Try.results53, Try.results47, Try.results110, List.toList_toArray])|(simp (disch:=omega) only [ziw]))
    all_goals first
     | (exfalso; omega)
     | (simp only [zrds]; done)
     | (simp only [zrds]; first | exact decide_eq_false (by omega) | exact (decide_eq_false (by omega)).symm)
end Go.Proofs.Ytpdhdkpebbfnnaa.V
end
section
namespace Go.Proofs.Ytpdhdkpebbfnnaa.V
open Go
set_option maxRecDepth 100000
set_option maxHeartbeats 8000000
def pageS (m : Mach) (k j : Nat) : Prop :=
 if ((m.pr.getD k default).sp.getD j default).is = true then (m.pr.getD k default).st ≠ 3 ∧ 0 ≤ ((m.pr.getD k default).sp.getD j default).fr ∧ ((m.pr.getD k default).sp.getD j default).fr < m.fr.length ∧ ((m.pr.getD k default).sp.getD j default).fr ∉ metF m k j
 else ((m.pr.getD k default).sp.getD j default).wr = false ∧ ((m.pr.getD k default).sp.getD j default).fr = 0
def fdS (m : Mach) (k j : Nat) : Prop :=
 (((m.pr.getD k default).fds.getD j default).kind = 0 ∧ ((m.pr.getD k default).fds.getD j default).n = 0 ∧ ((m.pr.getD k default).fds.getD j default).pos = 0) ∨ ((m.pr.getD k default).st ≠ 3 ∧ fileQ m.pipes ((m.pr.getD k default).fds.getD j default))
def parS (m : Mach) (p : Pr) : Prop := livesB m.pr p.par = true ∨ (p.par = 0 ∧ livesP p = true)
structure okS (m : Mach) (k : Nat) : Prop where
 inc : lastQ m.pr k < (m.pr.getD k default).pid
 next : (m.pr.getD k default).pid < m.next
 fl : fieldQ (m.pr.getD k default).st ((m.pr.getD k default).rs.getD 0 default) (m.pr.getD k default).why (m.pr.getD k default).n (m.pr.getD k default).code
 par : parS m (m.pr.getD k default)
 pg : ∀ j, j < 16 → pageS m k j
 fd : ∀ j, j < 8 → fdS m k j
theorem metF_count {m : Mach} {k j : Nat} (hR : ∀ p ∈ m.pr, PrR p) (h : k < m.pr.length) (hj : j ≤ 16) (hp : ∀ i, i < j → pageS m k i) (h0 : ∀ f, (metF m k 0).count f ≤ 1) : ∀ f, (metF m k j).count f ≤ 1 := by
 induction j with
 | zero => exact h0
 | succ j ih =>
  intro f
  have ih := ih (by omega) (fun i hi => hp i (by omega)) f
  have hl := (hR _ (getD_mem' h)).sp
  have hpj := hp j (by omega)
  unfold pageS at hpj
  cases hi : ((m.pr.getD k default).sp.getD j default).is with
  | true =>
   rw [if_pos hi] at hpj
   rw [metF_in h (by omega) hi, List.count_append, List.count_singleton]
   split
   ·rename_i e
    have e : ((m.pr.getD k default).sp.getD j default).fr = f := by simpa using e
    rw [← e, List.count_eq_zero.2 hpj.2.2.2]
    omega
   ·omega
  | false => rw [metF_out h (by omega) hi]; exact ih
theorem metF_all {m : Mach} (hR : ∀ p ∈ m.pr, PrR p) (hq : ∀ k, k < m.pr.length → ∀ j, j < 16 → pageS m k j) : ∀ k, k ≤ m.pr.length → ∀ f, (metF m k 0).count f ≤ 1 := by
 intro k
 induction k with
 | zero => intro _ f; rw [metF_zero]; simp
 | succ k ih =>
  intro hk f
  rw [metF_next (by omega)]
  exact metF_count hR (by omega) (by omega) (fun i hi => hq k (by omega) i hi) (ih (by omega)) f
theorem usersS_own (f : Int) (s : List Pte) : ∀ k, k ≤ s.length → usersS f (s.take k) = (own s k).count f := by
 intro k
 induction k with
 | zero => intro _; simp [usersS, own]
 | succ k ih =>
  intro hk
  rw [take_snoc s k (by omega), usersS_snoc, ih (by omega), own_succ s k (by omega), List.count_append]
  congr 1
  cases hi : (s.getD k default).is with
  | true =>
   rw [if_pos rfl, List.count_singleton]
   by_cases e : (s.getD k default).fr = f
   ·rw [if_pos ⟨rfl, e⟩, if_pos (by simpa using e)]
   ·rw [if_neg (fun h => e h.2), if_neg (by simpa using e)]
  | false => rw [if_neg (by simp), if_neg (by simp)]; rfl
theorem usersN_metF {m : Mach} (hR : ∀ p ∈ m.pr, PrR p) (f : Int) : ∀ k, k ≤ m.pr.length → usersN (m.pr.take k) f = (metF m k 0).count f := by
 intro k
 induction k with
 | zero => intro _; rw [metF_zero]; simp [usersN]
 | succ k ih =>
  intro hk
  have hl := (hR _ (getD_mem' (show k < m.pr.length by omega))).sp
  have e := usersS_own f (m.pr.getD k default).sp 16 (by omega)
  rw [List.take_of_length_le (by omega)] at e
  rw [take_snoc m.pr k (by omega), usersN_snoc, ih (by omega), e, metF_next (by omega)]
  show _ = (List.flatMap _ _ ++ own _ 16).count f
  rw [List.count_append]
  congr 1
  unfold metF
  rw [show own (m.pr.getD k default).sp 0 = [] from rfl, List.append_nil]
theorem placeI_some {l : List Pip} {id : Int} (h : 0 ≤ placeI l id) : (pipeO l id).isSome = true := by
 unfold placeI at h
 cases hf : l.findIdx? (fun p => decide (p.id = id)) with
 | none => rw [hf] at h; exact absurd h (by decide)
 | some i =>
  obtain ⟨hi, h1, _⟩ := List.findIdx?_eq_some_iff_getElem.1 hf
  unfold pipeO
  rw [List.find?_isSome]
  exact ⟨_, List.getElem_mem hi, h1⟩
theorem fdS_ok {m : Mach} {k j : Nat} (h : fdS m k j) : fdsB m (m.pr.getD k default) ((m.pr.getD k default).fds.getD j default) = true := by
 unfold fdS fileQ at h
 unfold fdsB fdB
 generalize (m.pr.getD k default).fds.getD j default = f at h ⊢
 generalize (m.pr.getD k default).st = st at h ⊢
 rcases h with ⟨h1, h2, h3⟩ | ⟨hs, h⟩
 ·rw [if_pos (.inl h1), decide_eq_true ⟨h2, h3⟩, decide_eq_false (show ¬(f.kind ≠ 0) by omega), Bool.and_false]; rfl
 ·rw [decide_eq_false hs, Bool.false_and, Bool.not_false, Bool.and_true]
  rcases h with ⟨h1, h2⟩ | ⟨h1, h2⟩ | ⟨h1, h2, h3⟩
  ·rw [if_pos (by omega), decide_eq_true h2]
  ·rw [if_neg (by omega), if_pos h1, decide_eq_true h2]
  ·rw [if_neg (by omega), if_neg (by omega), if_pos h1, decide_eq_true h2, placeI_some h3]; rfl
theorem lastQ_pos {m : Mach} (hq : ∀ k, k < m.pr.length → okS m k) : ∀ k, k ≤ m.pr.length → 0 ≤ lastQ m.pr k := by
 intro k
 induction k with
 | zero => intro _; exact Int.le_refl 0
 | succ k ih =>
  intro hk
  have h1 := ih (by omega)
  have h2 := (hq k (by omega)).inc
  show (0 : Int) ≤ (m.pr.getD k default).pid
  omega
theorem getElem_getD {α : Type} [Inhabited α] {l : List α} {j : Nat} (h : j < l.length) : l[j] = l.getD j default := by
 rw [List.getD_eq_getElem?_getD, List.getElem?_eq_getElem h]; rfl
theorem procs_all {m : Mach} (hR : ∀ p ∈ m.pr, PrR p) (hq : ∀ k, k < m.pr.length → okS m k) : procsB m = true := by
 have hcnt := metF_all hR (fun k hk => (hq k hk).pg) m.pr.length (Nat.le_refl _)
 refine List.all_eq_true.2 fun k hk => ?_
 have hk := List.mem_range.1 hk
 have h := hq k hk
 have hb := hR _ (getD_mem' hk)
 have hsl := hb.sp
 have hfl := hb.fds
 have h0 := lastQ_pos hq k (by omega)
 have h1 := h.inc
 rw [Bool.and_eq_true]
 refine ⟨?_, ?_⟩
 ·cases k with
  | zero => rfl
  | succ k =>
   have h1 : (m.pr.getD k default).pid < (m.pr.getD (k + 1) default).pid := h1
   rw [Nat.add_sub_cancel, decide_eq_false (show ¬((m.pr.getD (k + 1) default).pid ≤ (m.pr.getD k default).pid) by omega), Bool.and_false]
   rfl
 ·unfold procB
  rw [Bool.and_eq_true, Bool.and_eq_true]
  refine ⟨⟨(procH_iff m _).2 ?_, ?_⟩, ?_⟩
  ·have h2 := h.fl
   have h3 := h.par
   have h4 := h.next
   unfold fieldQ at h2
   unfold parS at h3
   have h3 : livesB m.pr (m.pr.getD k default).par = true ∨ ((m.pr.getD k default).st ≠ 3 ∧ (m.pr.getD k default).par = 0) := by
    rcases h3 with h3 | ⟨h3, h5⟩
    ·exact .inl h3
    ·refine .inr ⟨fun h6 => ?_, h3⟩
     unfold livesP at h5
     rw [h6] at h5
     cases h5
   unfold headP
   generalize (livesB m.pr (m.pr.getD k default).par = true) = lb at h3 ⊢
   exact ⟨by omega, h4, h2.1, h2.2.1, h3, by omega, by omega, by omega, by omega, h2.2.2.2.2⟩
  ·refine List.all_eq_true.2 fun x hx => ?_
   obtain ⟨j, hj, rfl⟩ := List.mem_iff_getElem.1 hx
   rw [getElem_getD hj]
   have hp := h.pg j (by omega)
   unfold pageS at hp
   cases hi : ((m.pr.getD k default).sp.getD j default).is with
   | true =>
    rw [if_pos hi] at hp
    refine (pteB_is hi).2 ⟨hp.1, hp.2.1, hp.2.2.1, ?_⟩
    have a1 := usersS_pos (s := (m.pr.getD k default).sp) hj hi rfl
    have a2 := usersN_ge ((m.pr.getD k default).sp.getD j default).fr (getD_mem' hk)
    have a3 := usersN_metF hR ((m.pr.getD k default).sp.getD j default).fr m.pr.length (Nat.le_refl _)
    rw [List.take_length] at a3
    have a4 := hcnt ((m.pr.getD k default).sp.getD j default).fr
    omega
   | false =>
    rw [if_neg (by rw [hi]; simp)] at hp
    exact (pteB_no hi).2 hp
  ·refine List.all_eq_true.2 fun x hx => ?_
   obtain ⟨j, hj, rfl⟩ := List.mem_iff_getElem.1 hx
   rw [getElem_getD hj]
   exact fdS_ok (h.fd j (by omega))
end Go.Proofs.Ytpdhdkpebbfnnaa.V
end
section
namespace Go.Proofs.Ytpdhdkpebbfnnaa.V
open Go
set_option maxRecDepth 100000
set_option maxHeartbeats 1000000
end Go.Proofs.Ytpdhdkpebbfnnaa.V
end
section
namespace Go.Proofs.Ytpdhdkpebbfnnaa.V
open Go
set_option maxRecDepth 100000
set_option maxHeartbeats 1000000
end Go.Proofs.Ytpdhdkpebbfnnaa.V
end
section
namespace Go.Proofs.Ytpdhdkpebbfnnaa.V
open Go
set_option maxRecDepth 100000
set_option maxHeartbeats 1000000
end Go.Proofs.Ytpdhdkpebbfnnaa.V
end
section
namespace Go.Proofs.Ytpdhdkpebbfnnaa.V
open Go
set_option maxRecDepth 100000
set_option maxHeartbeats 4000000
def freeK (l : List Pr) (k : Nat) : List Nat := (List.range k).filter fun i => decide (usersN l (i : Nat) = 0)
theorem freeK_succ (l : List Pr) (k : Nat) : freeK l (k + 1) = freeK l k ++ if usersN l (k : Nat) = 0 then [k] else [] := by
 unfold freeK
 rw [List.range_succ, List.filter_append]
 congr 1
 by_cases h : usersN l (k : Nat) = 0
 ·rw [if_pos h, List.filter_cons_of_pos (by simpa using h)]; rfl
 ·rw [if_neg h, List.filter_cons_of_neg (by simpa using h)]; rfl
theorem freeK_le (l : List Pr) (k : Nat) : (freeK l k).length ≤ k := by
 have := List.length_filter_le (fun i : Nat => decide (usersN l (i : Nat) = 0)) (List.range k)
 rw [List.length_range] at this
 exact this
abbrev encNats (l : List Nat) : List VV := l.map fun i => VV.int .i64 ((i : Nat) : Int)
theorem nls_nats (l : List Nat) : nls (encNats l) = true := nls_map _ (fun _ => rfl) l
abbrev freeV (m : Mach) : VV := .dat .cell (encNats (freeK m.pr m.fr.length))
theorem usersN_met {m : Mach} (hR : ∀ p ∈ m.pr, PrR p) (f : Int) : f ∈ metF m m.pr.length 0 ↔ ¬usersN m.pr f = 0 := by
 have := usersN_metF hR f m.pr.length (Nat.le_refl _)
 rw [List.take_length] at this
 rw [this, List.count_eq_zero]
 simp
end Go.Proofs.Ytpdhdkpebbfnnaa.V
end
section
namespace Go.Proofs.Ytpdhdkpebbfnnaa.V
open Go Go.RowKit

section
variable {P : Program} {N : NN} {B : Nat} {ρ0 : Names} {w0 : World} {ops : Array Oper} {k nx : Nat} {js : List Nat} {hp : (Nat → Bool) → Heap} {perm : List Nat} {tm0 tmF : Nat → VV} {env : Nat → Nat → VV} {K : VS → Prop} {Q : Exit → Act → World → Prop}
end
section
variable {P : Program} {ops : Array Oper} {k : Nat} {perm js : List Nat} {K : VS → Prop}
end
section
variable {P : Program} {n0 : Nat} {K : VX → VS → Prop}
end
end Go.Proofs.Ytpdhdkpebbfnnaa.V
end
section
namespace Go.Proofs.Ytpdhdkpebbfnnaa.V
open Go
set_option maxRecDepth 100000
set_option maxHeartbeats 8000000
def frK (fr : Frames) (F : List Nat) (l : List Lay) : Nat → Frames
 | 0 => fr
 | k + 1 => (frK fr F l k).set (F.getD k default) (l.getD k default).d
def spK (s : List Pte) (F : List Nat) (l : List Lay) : Nat → List Pte
 | 0 => s
 | k + 1 => (spK s F l k).set (l.getD k default).at_.toNat ⟨true, (l.getD k default).w, ((F.getD k default : Nat) : Int)⟩
theorem frK_len (fr : Frames) (F : List Nat) (l : List Lay) : ∀ k, (frK fr F l k).length = fr.length
 | 0 => rfl
 | k + 1 => by rw [frK, List.length_set, frK_len fr F l k]
theorem spK_len (s : List Pte) (F : List Nat) (l : List Lay) : ∀ k, (spK s F l k).length = s.length
 | 0 => rfl
 | k + 1 => by rw [spK, List.length_set, spK_len s F l k]
def frM (m : Mach) (f : Frames) : Mach := { m with fr := f }
def spP (p : Pr) (s : List Pte) : Pr := { p with sp := s }
abbrev zPr : VV := .agg [.int .i64 0, .int .i64 0, .int .i64 0, .agg [.agg (List.replicate 16 (.int .u32 0)), .int .u32 0], .agg (List.replicate 16 (.agg [.bool false, .bool false, .int .i64 0])), .agg (List.replicate 8 (.agg [.int .i64 0, .int .i64 0, .int .i64 0])), .bool false, .int .u32 0, .int .i64 0, .int .u64 0]
abbrev encPrS (p : Pr) (s : List Pte) : VV := .agg [.int .i64 p.pid, .int .i64 p.par, .int .i64 p.st, .agg [.agg (p.rs.map (.int .u32)), .int .u32 p.pc], .agg (s.map encPte), .agg (p.fds.map encFd), .bool p.mask, .int .u32 p.code, .int .i64 p.why, .int .u64 p.n]
def LayR (l : List Lay) : Prop := l.length ≤ 16 ∧ ∀ x ∈ l, 0 ≤ x.at_ ∧ x.at_ ≤ 15
def tookM (m : Mach) (l : List Lay) : Mach := frM m (frK m.fr (freeK m.pr m.fr.length) l l.length)
def tookP (m : Mach) (p : Pr) (l : List Lay) : Pr := spP p (spK p.sp (freeK m.pr m.fr.length) l l.length)
theorem nl_encM (m : Mach) : nl (encM m) = true := by
 simp only [encM,nl,nls,nls_mapStr,jP,jQ,jO,Bool.and_self]
theorem pteS (s : List Pte) (hs : s.length = 16) (k : Nat) (hk : k < 16) : ∃ x, (s.map encPte)[k]? = some x := ⟨_, by rw [List.getElem?_map, List.getElem?_eq_getElem (by omega)]; rfl⟩
end Go.Proofs.Ytpdhdkpebbfnnaa.V
end
section
namespace Go.Proofs.Ytpdhdkpebbfnnaa.V
open Go
set_option maxRecDepth 100000
set_option maxHeartbeats 8000000
def nilM : Mach := ⟨0, 0, 0, 0, [], [], 0, [], [], 0, [], false, 0, ⟨[], [], 0⟩, []⟩
def zSpace : List Pte := List.replicate 16 ⟨false, false, 0⟩
def newPr (m : Mach) (e : Exe) (par : Int) (i o : Fdd) : Pr := ⟨m.next, par, 1, (List.replicate 16 0).set 15 2048, e.en, zSpace, i :: o :: List.replicate 6 ⟨0, 0, 0⟩, false, 0, 0, 0⟩
def spawnM (m : Mach) (e : Exe) (par : Int) (i o : Fdd) : Mach := { tookM m (layE e) with pr := m.pr ++ [tookP m (newPr m e par i o) (layE e)], next := m.next + 1 }
def spawnE (m : Mach) (e : Exe) : Int := if okE e then (if 8 ≤ m.pr.length then 6 else if (freeK m.pr m.fr.length).length < (layE e).length then 10 else 0) else 1
def spawnVV (m : Mach) (e : Exe) (par : Int) (i o : Fdd) : VV :=
 if spawnE m e = 0 then .tup [encM (spawnM m e par i o), .int .i64 m.next, .int .i64 0] else .tup [encM nilM, .int .i64 0, .int .i64 (spawnE m e)]
theorem layR_E (e : Exe) (h : okE e) : LayR (layE e) := by
 have h1 := layTo_len e h
 refine ⟨by rw [layE, List.length_append, List.length_singleton]; omega, fun x hx => ?_⟩
 rw [layE, List.mem_append, List.mem_singleton] at hx
 rcases hx with hx | rfl
 ·obtain ⟨k, hk, rfl⟩ := List.mem_iff_getElem.1 hx
  rw [layTo_at e k hk]
  omega
 ·exact ⟨by decide, by decide⟩
theorem newPr_R (m : Mach) (hm : MFit 20000 m) (e : Exe) (he : ExeR e) (par : Int) (hp : i64R par) (i o : Fdd) (hi : fdR i) (ho : fdR o) : PrR (newPr m e par i o) := by
 have z : i64R 0 := by unfold i64R; omega
 have zu : u32R 0 := by unfold u32R; omega
 refine ⟨hm.next, hp, by show i64R 1; unfold i64R; omega, by simp [newPr], fun x hx => ?_, he.en, by simp [newPr, zSpace], fun x hx => ?_, by simp [newPr], fun x hx => ?_, zu, z, by show u64R 0; unfold u64R; omega⟩
 ·rcases List.mem_or_eq_of_mem_set hx with hx | rfl
  ·rw [List.eq_of_mem_replicate hx]; exact zu
  ·unfold u32R; omega
 ·rw [List.eq_of_mem_replicate hx]; exact z
 ·simp only [newPr,List.mem_cons] at hx
  rcases hx with rfl | rfl | hx
  ·exact hi
  ·exact ho
  ·rw [List.eq_of_mem_replicate hx]; exact ⟨z, z, z⟩
theorem zRs : Has (.arr 16 .cell) (.agg (List.replicate 16 (.int .u32 0))) := hasRs (List.replicate 16 0) rfl
theorem hasFd1 (f : Fdd) : Has (.st [.cell, .cell, .cell]) (encFd f) := by simp [encFd, Has, HasL, VV.leaf]
theorem took_fr {m : Mach} {F : List Nat} (hF : F = freeK m.pr m.fr.length) : ∀ i ∈ F, i < m.fr.length := fun i hi => by
 rw [hF] at hi
 unfold freeK at hi
 exact List.mem_range.1 (List.mem_filter.1 hi).1
theorem spK_fr {s : List Pte} {F : List Nat} {l : List Lay} (hs : ∀ x ∈ s, i64R x.fr) (hF : ∀ i ∈ F, i ≤ 20000) : ∀ k, ∀ x ∈ spK s F l k, i64R x.fr
 | 0 => hs
 | k + 1 => fun x hx => by
  rw [spK] at hx
  rcases List.mem_or_eq_of_mem_set hx with hx | rfl
  ·exact spK_fr hs hF k x hx
  ·have : F.getD k default ≤ 20000 := by
    by_cases h : k < F.length
    ·exact hF _ (getD_mem' h)
    ·rw [List.getD_eq_getElem?_getD, List.getElem?_eq_none (by omega)]; exact Nat.zero_le _
   show i64R ((F.getD k default : Nat) : Int)
   unfold i64R; omega
theorem tookP_R (m : Mach) (hm : MFit 20000 m) {p : Pr} (hp : PrR p) {l : List Lay} (hl : LayR l) : PrR (tookP m p l) := by
 refine ⟨hp.pid, hp.par, hp.st, hp.rs, hp.rsR, hp.pc, ?_, ?_, hp.fds, hp.fdsR, hp.code, hp.why, hp.n⟩
 ·show (spK p.sp _ l _).length = 16
  rw [spK_len]; exact hp.sp
 ·exact spK_fr hp.spR (fun i hi => by have := took_fr rfl i hi; have := hm.fr; omega) _
end Go.Proofs.Ytpdhdkpebbfnnaa.V
end
section
namespace Go.Proofs.Ytpdhdkpebbfnnaa.V
open Go Go.RowKit
def SpecN (P : Program) (f : FuncId) (ds : List VV) (r : VV) : Prop :=
 ∀ (U : Nat → Prop) (w : World) (xs : List Value), VRA (.bare U) w ds xs → Calls P f xs.toArray w (fun e w' => ∃ x, e = .returned x ∧ Below w.heap.size w w' ∧ VR (.bare fun b => w.heap.size ≤ b) w' r x)
def NewA (H : Heap) (v r : VV) : Prop := (v = .sl none 0 ∧ ∃ e, r = .dat e []) ∨ ∃ m k e els n, v = .sl (some (m, [], 0)) n ∧ H m = some (.row (.arr k e) (.agg els)) ∧ n ≤ els.length ∧ pls (els.take n) = true ∧ r = .dat e (els.take n)
theorem newA_own {H : Heap} {m k : Nat} {e : Sh} {els els' : List VV} {n : Nat} (h : H m = some (.row (.arr k e) (.agg els))) (hn : n = els.length) (he : els = els') (hp : pls els' = true) : NewA H (.sl (some (m, [], 0)) n) (.dat e els') := by
 subst he hn
 exact .inr ⟨m, k, e, els, els.length, rfl, h, Nat.le_refl _, by rw [List.take_length]; exact hp, by rw [List.take_length]⟩
theorem NewA.value {Z : Nat → Nat → Prop} [Zone Z] {B n0 : Nat} {ρ : Names} {w : World} {H : Heap} (hh : HR Z B ρ H n0 w) {v r : VV} {x : Value} (h : NewA H v r) (hx : VR ρ w v x) : VR (.bare fun b => B ≤ b) w r x := by
 rcases h with ⟨rfl, e, rfl⟩ | ⟨m, k, e, els, n, rfl, hm, hn, hp, rfl⟩
 ·have hc : C1 ρ w (.sl none 0) [x] := hx
  simp only [C1] at hc
  show C1 _ w (.dat e []) [x]
  simp only [C1]
  exact ⟨none, 0, hc.2, Nat.le_refl _, fun h => absurd rfl h⟩
 ·have hc : C1 ρ w (.sl (some (m, [], 0)) n) [x] := hx
  show C1 _ w (.dat e (els.take n)) [x]
  simp only [C1] at hc ⊢
  have hlen : (els.take n).length = n := by rw [List.length_take]; omega
  rw [hlen]
  rcases hc with ⟨rfl, A, hc⟩ | ⟨l, cap, e', j', hl, hc, hcap, hat, _⟩
  ·exact ⟨A, 0, hc, Nat.le_refl _, fun h => absurd (by simp) h⟩
  ·refine ⟨_, cap, hc, hcap, fun _ => ?_⟩
   have hrow := hh.row m _ _ l hm hl
   obtain ⟨ds, q1, q2, q3⟩ := hrow.cells
   have hhas := hrow.has
   simp only [Has] at hhas
   simp only [C1] at q1
   obtain ⟨pr, md, ps, rfl, r1, r2, r3⟩ := CR.part q1 hhas.2 0 n (by omega) hn
   simp only [List.drop_zero,Nat.sub_zero] at r3
   refine ⟨l.block, _, md, rfl, CR.plain _ _ hp r3, fun v hv => hhas.2 v (List.mem_of_mem_take hv), ?_, ⟨(hh.lt m l hl).1, fun n l hl => by cases hl⟩, (hh.lt m l hl).2⟩
   rw [hrow.sh]
   simp only [List.nil_append,Sh.off,Nat.add_zero]
   rw [← r1]
   exact range_part q3
section
variable {P : Program}
theorem specN_ok {fn : Func} {f : FuncId} (hf : P.funcs[f]? = some fn) {c : Code} {rs : List ResultVar} (hb : fn.body = some c) (hr : fn.results.toList = rs) (hok : codeOk fn.ntmps c = true) {ds : List VV} {r : VV} {k : Nat} (hl : ds.length = k) (hlen : k ≤ fn.ntmps)
  (h : Ok P 0 c ⟨argsF 0 ds (fun _ => .any), fun _ => none, 0⟩ (fin P rs fun v H _ => NewA H v r)) : SpecN P f ds r := by
 intro U w xs ha
 have hh : HR ZT w.heap.size (.bare U) (fun _ => none) 0 w := ⟨Nat.le_refl _, fun _ _ => rfl, fun m l h => (by cases h), fun m m' l l' h => (by cases h), fun m s v l h => (by cases h), fun m es l h => (by cases h)⟩
 refine (ok_body hf hb hr hok hl hlen h w.heap.size (.bare U) w xs hh ha).mono fun e w' ⟨x, he, v, H', n', ρ', hk, hv, hh', hext, hb⟩ => ⟨x, he, hb, ?_⟩
 exact hk.value hh' hv
theorem call_new {f : FuncId} {args ds : List VV} {r : VV} (h : SpecN P f ds r) {H : Heap} {n : Nat} {K : VV → Heap → Nat → Prop} (hd : RdL H args ds) (ht : args.all notTup = true) (hk : K r H n) : vcall P f args H n K := by
 intro B ρ w xs hh ha
 refine (h _ w xs (VRA.data hh args ds xs hd ht ha)).mono fun e w' ⟨x, he, hb, hv⟩ => ⟨x, he, ?_⟩
 obtain ⟨h1, h2⟩ := hh.wide hb.size hb.block
 refine ⟨r, H, n, _, hk, VR.mono (fun m l hm => by cases hm) (fun b hlt hu => ?_) hv, h1, h2, hb.mono hh.base⟩
 obtain ⟨h3, _⟩ := hu
 have h3 : w.heap.size ≤ b := h3
 exact ⟨.inr h3, fun m l hm e => by have := (hh.lt m l hm).2; omega⟩
end
end Go.Proofs.Ytpdhdkpebbfnnaa.V
end
section
namespace Go.Proofs.Ytpdhdkpebbfnnaa.V
open Go
theorem ynTE {l : List VV} (h : nls l = true := by first|rfl|assumption|(simp only [znl,znTE];(first|done|fail))) : nls l = true := h
set_option maxRecDepth 100000
def znTE := And.intro @jO <| And.intro @jP <| And.intro @jQ <| And.intro @jR <| And.intro @jS <| And.intro @jT <| And.intro @jU <| And.intro @jV <| And.intro @nls_nats <| True.intro
set_option maxHeartbeats 4000000
theorem pls_nats (l : List Nat) : pls (encNats l) = true := by
 induction l with
 | nil => rfl
 | cons x l ih => simp only [encNats,List.map_cons,pls,pl,Bool.true_and]; exact ih
theorem sfreeN_spec (m : Mach) (hm : MFit 20000 m) : SpecN Try.prog 20 [encM m] (freeV m) := by
 have hl := hm.fr
 have hpl := hm.pr
 have hpR := hm.prR
 refine specN_ok Try.func20 rfl rfl (by kernel_rfl) (k := 1) rfl (by decide) ?_
 repeat' (first|(with_reducible first|refine yrl (by constructor) ?_|refine jk (fun M hM=>?_)|(refine hM _ ?_;clear hM M)|refine yx3 ?_|refine yxa ?_ ?_|refine yxb ?_ ?_)|((with_reducible refine je ?_)<;>exact ynTE)|(with_reducible refine yxc ?_)|((with_reducible refine yxi (fun hc=>?_) (fun hc=>?_))<;>(try simp (disch:=omega) only [zhb] at hc)<;>(try (exfalso;omega))<;>(try subst hc))|(with_reducible refine yxw ?_)|(simp (config := { maxSteps := 400000 }) only [↓jt,↓reduceIte,zvs,reduceCtorEq,seval,tab,Try.results20,jTA])|(simp (disch:=omega) only [ziw]))
 refine ok_loop (fun k : Nat => ⟨slots [(1, .ptr 0 []), (2, .sl none 0), (3, .map 1), (12, encPrs m.pr), (13, .int .i64 m.pr.length), (14, .int .i64 k)], rows [(0, .row machSh (encM m)), (1, .map (setM (metF m k 0)))], 2⟩) (fun k => k ≤ m.pr.length) (fun k => m.pr.length - k) 0 ?_ (Nat.zero_le _) (fun k hk => ?_)
 ·(refine yrn [(0, 0), (1, 1)] false ?_ ?_<;>(repeat' (first|(with_reducible first|exact ya1|exact ya2|exact ya3|refine jx rfl (by first|rfl|assumption|(simp only [znl,znTE];(first|done|fail)))|exact ya5|exact ya7|exact jy|exact jz|refine jA ?_|refine ya9 ?_ ?_ ?_|refine jC rfl (by first|rfl|assumption|(simp only [znl,znTE];(first|done|fail)))|refine MR.agg (MRL.cons ?_ ?_)|refine MR.fn ?_|refine MRL.cons ?_ ?_|exact MRL.nil|refine jE ?_ ?_|exact jF|exact jG|refine yb1 ?_ ?_|refine MB.row ?_|refine jI ?_ ?_|exact ya8|refine jJ rfl (by first|rfl|assumption|(simp only [znl,znTE];(first|done|fail)))|refine yb2 ?_|rfl)|(simp only [znl,znTE];(first|done|fail))|(simp only [↓reduceIte,zlk,Nat.reduceEqDiff,reduceCtorEq])|(with_reducible first|refine jJ ?_ ?_|refine ya5 ?_|refine ju ?_|refine jv ?_|refine jw ?_|refine jx ?_ (by first|rfl|assumption|(simp only [znl,znTE];(first|done|fail)))|refine jC ?_ (by first|rfl|assumption|(simp only [znl,znTE];(first|done|fail)))))))
  all_goals (first | rfl | (rw [metF_zero]; rfl))
 by_cases hlt : k < m.pr.length
 ·have hb := hpR _ (getD_mem' hlt)
  obtain ⟨hS1, hS2, hS3⟩ := pr3 hb
  have hsl := hb.sp
  have hsR := hb.spR
  repeat' (first|(with_reducible first|refine yrl (by constructor) ?_|refine jk (fun M hM=>?_)|(refine hM _ ?_;clear hM M)|refine yx3 ?_|refine yxa ?_ ?_|refine yxb ?_ ?_)|((with_reducible refine je ?_)<;>exact ynTE)|(with_reducible refine yxc ?_)|((with_reducible refine yxi (fun hc=>?_) (fun hc=>?_))<;>(try simp (disch:=omega) only [zhb] at hc)<;>(try (exfalso;omega))<;>(try subst hc))|(with_reducible refine yxw ?_)|(simp (config := { maxSteps := 400000 }) only [↓jt,↓reduceIte,zvs,reduceCtorEq,seval,tab,hS1,hS2,hS3,encPr,Try.results20,jTA])|(simp (disch:=omega) only [ziw]))
  refine ok_loop (fun j : Nat => ⟨slots [(1, .ptr 0 []), (2, .sl none 0), (3, .map 1), (12, encPrs m.pr), (13, .int .i64 m.pr.length), (14, .int .i64 k), (19, .agg ((m.pr.getD k default).sp.map encPte)), (20, .int .i64 j)], rows [(0, .row machSh (encM m)), (1, .map (setM (metF m k j)))], 2⟩) (fun j => j ≤ 16) (fun j => 16 - j) 0 ?_ (Nat.zero_le _) (fun j hj => ?_)
  ·(refine yrn [(0, 0), (1, 1)] false ?_ ?_<;>(repeat' (first|(with_reducible first|exact ya1|exact ya2|exact ya3|refine jx rfl (by first|rfl|assumption|(simp only [znl,znTE];(first|done|fail)))|exact ya5|exact ya7|exact jy|exact jz|refine jA ?_|refine ya9 ?_ ?_ ?_|refine jC rfl (by first|rfl|assumption|(simp only [znl,znTE];(first|done|fail)))|refine MR.agg (MRL.cons ?_ ?_)|refine MR.fn ?_|refine MRL.cons ?_ ?_|exact MRL.nil|refine jE ?_ ?_|exact jF|exact jG|refine yb1 ?_ ?_|refine MB.row ?_|refine jI ?_ ?_|exact ya8|refine jJ rfl (by first|rfl|assumption|(simp only [znl,znTE];(first|done|fail)))|refine yb2 ?_|rfl)|(simp only [znl,znTE];(first|done|fail))|(simp only [↓reduceIte,zlk,Nat.reduceEqDiff,reduceCtorEq])|(with_reducible first|refine jJ ?_ ?_|refine ya5 ?_|refine ju ?_|refine jv ?_|refine jw ?_|refine jx ?_ (by first|rfl|assumption|(simp only [znl,znTE];(first|done|fail)))|refine jC ?_ (by first|rfl|assumption|(simp only [znl,znTE];(first|done|fail)))))))
   all_goals (first | rfl)
  by_cases hjlt : j < 16
  ·have hpb := hsR _ (getD_mem' (show j < (m.pr.getD k default).sp.length by omega))
   cases hi : ((m.pr.getD k default).sp.getD j default).is with
   | true =>
    have e := metF_in hlt (show j < (m.pr.getD k default).sp.length by omega) hi
    repeat' (first|(with_reducible first|refine yrl (by constructor) ?_|refine jk (fun M hM=>?_)|(refine hM _ ?_;clear hM M)|refine yx3 ?_|refine yxa ?_ ?_|refine yxb ?_ ?_)|((with_reducible refine je ?_)<;>exact ynTE)|(with_reducible refine yxc ?_)|((with_reducible refine yxi (fun hc=>?_) (fun hc=>?_))<;>(try simp (disch:=omega) only [zhb] at hc)<;>(try (exfalso;omega))<;>(try subst hc))|(with_reducible refine yxw ?_)|(simp (config := { maxSteps := 400000 }) only [↓jt,↓reduceIte,zvs,reduceCtorEq,seval,tab,hS1,hS2,hS3,encPte,hi,keys_setM,setM_snoc,Try.results20,jTA])|(simp (disch:=omega) only [ziw]))
    all_goals first
     | (exfalso; omega)
     | (refine xl1 (j + 1) ?_ (by show j + 1 ≤ 16; omega) (by show 16 - (j + 1) < 16 - j; omega); (refine yrn [(0, 0), (1, 1)] false ?_ ?_<;>(repeat' (first|(with_reducible first|exact ya1|exact ya2|exact ya3|refine jx rfl (by first|rfl|assumption|(simp only [znl,znTE];(first|done|fail)))|exact ya5|exact ya7|exact jy|exact jz|refine jA ?_|refine ya9 ?_ ?_ ?_|refine jC rfl (by first|rfl|assumption|(simp only [znl,znTE];(first|done|fail)))|refine MR.agg (MRL.cons ?_ ?_)|refine MR.fn ?_|refine MRL.cons ?_ ?_|exact MRL.nil|refine jE ?_ ?_|exact jF|exact jG|refine yb1 ?_ ?_|refine MB.row ?_|refine jI ?_ ?_|exact ya8|refine jJ rfl (by first|rfl|assumption|(simp only [znl,znTE];(first|done|fail)))|refine yb2 ?_|rfl)|(simp only [znl,znTE];(first|done|fail))|(simp only [↓reduceIte,zlk,Nat.reduceEqDiff,reduceCtorEq])|(with_reducible first|refine jJ ?_ ?_|refine ya5 ?_|refine ju ?_|refine jv ?_|refine jw ?_|refine jx ?_ (by first|rfl|assumption|(simp only [znl,znTE];(first|done|fail)))|refine jC ?_ (by first|rfl|assumption|(simp only [znl,znTE];(first|done|fail))))))); all_goals (first | rfl | (rw [e]; done)))
   | false =>
    have e := metF_out hlt (show j < (m.pr.getD k default).sp.length by omega) hi
    repeat' (first|(with_reducible first|refine yrl (by constructor) ?_|refine jk (fun M hM=>?_)|(refine hM _ ?_;clear hM M)|refine yx3 ?_|refine yxa ?_ ?_|refine yxb ?_ ?_)|((with_reducible refine je ?_)<;>exact ynTE)|(with_reducible refine yxc ?_)|((with_reducible refine yxi (fun hc=>?_) (fun hc=>?_))<;>(try simp (disch:=omega) only [zhb] at hc)<;>(try (exfalso;omega))<;>(try subst hc))|(with_reducible refine yxw ?_)|(simp (config := { maxSteps := 400000 }) only [↓jt,↓reduceIte,zvs,reduceCtorEq,seval,tab,hS1,hS2,hS3,encPte,hi,keys_setM,setM_snoc,Try.results20,jTA])|(simp (disch:=omega) only [ziw]))
    all_goals first
     | (exfalso; omega)
     | (refine xl1 (j + 1) ?_ (by show j + 1 ≤ 16; omega) (by show 16 - (j + 1) < 16 - j; omega); (refine yrn [(0, 0), (1, 1)] false ?_ ?_<;>(repeat' (first|(with_reducible first|exact ya1|exact ya2|exact ya3|refine jx rfl (by first|rfl|assumption|(simp only [znl,znTE];(first|done|fail)))|exact ya5|exact ya7|exact jy|exact jz|refine jA ?_|refine ya9 ?_ ?_ ?_|refine jC rfl (by first|rfl|assumption|(simp only [znl,znTE];(first|done|fail)))|refine MR.agg (MRL.cons ?_ ?_)|refine MR.fn ?_|refine MRL.cons ?_ ?_|exact MRL.nil|refine jE ?_ ?_|exact jF|exact jG|refine yb1 ?_ ?_|refine MB.row ?_|refine jI ?_ ?_|exact ya8|refine jJ rfl (by first|rfl|assumption|(simp only [znl,znTE];(first|done|fail)))|refine yb2 ?_|rfl)|(simp only [znl,znTE];(first|done|fail))|(simp only [↓reduceIte,zlk,Nat.reduceEqDiff,reduceCtorEq])|(with_reducible first|refine jJ ?_ ?_|refine ya5 ?_|refine ju ?_|refine jv ?_|refine jw ?_|refine jx ?_ (by first|rfl|assumption|(simp only [znl,znTE];(first|done|fail)))|refine jC ?_ (by first|rfl|assumption|(simp only [znl,znTE];(first|done|fail))))))); all_goals (first | rfl | (rw [e]; done)))
  ·obtain rfl : j = 16 := by omega
   have e := metF_next hlt
   repeat' (first|(with_reducible first|refine yrl (by constructor) ?_|refine jk (fun M hM=>?_)|(refine hM _ ?_;clear hM M)|refine yx3 ?_|refine yxa ?_ ?_|refine yxb ?_ ?_)|((with_reducible refine je ?_)<;>exact ynTE)|(with_reducible refine yxc ?_)|((with_reducible refine yxi (fun hc=>?_) (fun hc=>?_))<;>(try simp (disch:=omega) only [zhb] at hc)<;>(try (exfalso;omega))<;>(try subst hc))|(with_reducible refine yxw ?_)|(simp (config := { maxSteps := 400000 }) only [↓jt,↓reduceIte,zvs,reduceCtorEq,seval,tab,hS1,hS2,hS3,Try.results20,jTA])|(simp (disch:=omega) only [ziw]))
   all_goals first
    | (exfalso; omega)
    | (refine xl1 (k + 1) ?_ (by show k + 1 ≤ m.pr.length; omega) (by show m.pr.length - (k + 1) < m.pr.length - k; omega); (refine yrn [(0, 0), (1, 1)] false ?_ ?_<;>(repeat' (first|(with_reducible first|exact ya1|exact ya2|exact ya3|refine jx rfl (by first|rfl|assumption|(simp only [znl,znTE];(first|done|fail)))|exact ya5|exact ya7|exact jy|exact jz|refine jA ?_|refine ya9 ?_ ?_ ?_|refine jC rfl (by first|rfl|assumption|(simp only [znl,znTE];(first|done|fail)))|refine MR.agg (MRL.cons ?_ ?_)|refine MR.fn ?_|refine MRL.cons ?_ ?_|exact MRL.nil|refine jE ?_ ?_|exact jF|exact jG|refine yb1 ?_ ?_|refine MB.row ?_|refine jI ?_ ?_|exact ya8|refine jJ rfl (by first|rfl|assumption|(simp only [znl,znTE];(first|done|fail)))|refine yb2 ?_|rfl)|(simp only [znl,znTE];(first|done|fail))|(simp only [↓reduceIte,zlk,Nat.reduceEqDiff,reduceCtorEq])|(with_reducible first|refine jJ ?_ ?_|refine ya5 ?_|refine ju ?_|refine jv ?_|refine jw ?_|refine jx ?_ (by first|rfl|assumption|(simp only [znl,znTE];(first|done|fail)))|refine jC ?_ (by first|rfl|assumption|(simp only [znl,znTE];(first|done|fail))))))); all_goals (first | rfl | (rw [e]; done)))
 obtain rfl : k = m.pr.length := by omega
 have hmet := fun f => usersN_met hpR (m := m) f
 generalize metF m m.pr.length 0 = L at hmet
 repeat' (first|(with_reducible first|refine yrl (by constructor) ?_|refine jk (fun M hM=>?_)|(refine hM _ ?_;clear hM M)|refine yx3 ?_|refine yxa ?_ ?_|refine yxb ?_ ?_)|((with_reducible refine je ?_)<;>exact ynTE)|(with_reducible refine yxc ?_)|((with_reducible refine yxi (fun hc=>?_) (fun hc=>?_))<;>(try simp (disch:=omega) only [zhb] at hc)<;>(try (exfalso;omega))<;>(try subst hc))|(with_reducible refine yxw ?_)|(simp (config := { maxSteps := 400000 }) only [↓jt,↓reduceIte,zvs,reduceCtorEq,seval,tab,Try.results20,jTA])|(simp (disch:=omega) only [ziw]))
 refine ok_loop (fun k : Nat => ⟨slots [(1, .ptr 0 []), (2, .sl none 0), (3, .map 1), (8, .sl (some (2, [], 0)) (freeK m.pr k).length), (31, encStrs m.fr), (32, .int .i64 m.fr.length), (33, .int .i64 k)], rows [(0, .row machSh (encM m)), (1, .map (setM L)), (2, .row (.arr (freeK m.pr k).length .cell) (.agg (encNats (freeK m.pr k))))], 3⟩) (fun k => k ≤ m.fr.length) (fun k => m.fr.length - k) 0 ?_ (Nat.zero_le _) (fun k hk => ?_)
 ·(refine yrn [(0, 0), (1, 1)] false ?_ ?_<;>(repeat' (first|(with_reducible first|exact ya1|exact ya2|exact ya3|refine jx rfl (by first|rfl|assumption|(simp only [znl,znTE];(first|done|fail)))|exact ya5|exact ya7|exact jy|exact jz|refine jA ?_|refine ya9 ?_ ?_ ?_|refine jC rfl (by first|rfl|assumption|(simp only [znl,znTE];(first|done|fail)))|refine MR.agg (MRL.cons ?_ ?_)|refine MR.fn ?_|refine MRL.cons ?_ ?_|exact MRL.nil|refine jE ?_ ?_|exact jF|exact jG|refine yb1 ?_ ?_|refine MB.row ?_|refine jI ?_ ?_|exact ya8|refine jJ rfl (by first|rfl|assumption|(simp only [znl,znTE];(first|done|fail)))|refine yb2 ?_|rfl)|(simp only [znl,znTE];(first|done|fail))|(simp only [↓reduceIte,zlk,Nat.reduceEqDiff,reduceCtorEq])|(with_reducible first|refine jJ ?_ ?_|refine ya5 ?_|refine ju ?_|refine jv ?_|refine jw ?_|refine jx ?_ (by first|rfl|assumption|(simp only [znl,znTE];(first|done|fail)))|refine jC ?_ (by first|rfl|assumption|(simp only [znl,znTE];(first|done|fail)))))))
  all_goals (first | rfl)
 by_cases hlt : k < m.fr.length
 ·have e := freeK_succ m.pr k
  have hfl := freeK_le m.pr k
  have hk2 := hmet (k : Nat)
  by_cases h0 : usersN m.pr (k : Nat) = 0
  ·rw [if_pos h0] at e
   have hno : ((k : Nat) : Int) ∉ L := fun h => hk2.1 h h0
   have hd : decide (((k : Nat) : Int) ∈ L) = false := decide_eq_false hno
   repeat' (first|(with_reducible first|refine yrl (by constructor) ?_|refine jk (fun M hM=>?_)|(refine hM _ ?_;clear hM M)|refine yx3 ?_|refine yxa ?_ ?_|refine yxb ?_ ?_)|((with_reducible refine je ?_)<;>exact ynTE)|(with_reducible refine yxc ?_)|((with_reducible refine yxi (fun hc=>?_) (fun hc=>?_))<;>(try simp (disch:=omega) only [zhb] at hc)<;>(try (exfalso;omega))<;>(try subst hc))|(with_reducible refine yxw ?_)|(simp (config := { maxSteps := 400000 }) only [↓jt,↓reduceIte,zvs,reduceCtorEq,seval,tab,encNats,look_setM,keys_setM,hd,Try.results20,jTA])|(simp (disch:=omega) only [ziw]))
   all_goals first
    | (exfalso; omega)
    | (refine xl1 (k + 1) ?_ (by show k + 1 ≤ m.fr.length; omega) (by show m.fr.length - (k + 1) < m.fr.length - k; omega); (refine yrn [(0, 0), (1, 1), (2, 4)] false ?_ ?_<;>(repeat' (first|(with_reducible first|exact ya1|exact ya2|exact ya3|refine jx rfl (by first|rfl|assumption|(simp only [znl,znTE];(first|done|fail)))|exact ya5|exact ya7|exact jy|exact jz|refine jA ?_|refine ya9 ?_ ?_ ?_|refine jC rfl (by first|rfl|assumption|(simp only [znl,znTE];(first|done|fail)))|refine MR.agg (MRL.cons ?_ ?_)|refine MR.fn ?_|refine MRL.cons ?_ ?_|exact MRL.nil|refine jE ?_ ?_|exact jF|exact jG|refine yb1 ?_ ?_|refine MB.row ?_|refine jI ?_ ?_|exact ya8|refine jJ rfl (by first|rfl|assumption|(simp only [znl,znTE];(first|done|fail)))|refine yb2 ?_|rfl)|(simp only [znl,znTE];(first|done|fail))|(simp only [↓reduceIte,zlk,Nat.reduceEqDiff,reduceCtorEq])|(with_reducible first|refine jJ ?_ ?_|refine ya5 ?_|refine ju ?_|refine jv ?_|refine jw ?_|refine jx ?_ (by first|rfl|assumption|(simp only [znl,znTE];(first|done|fail)))|refine jC ?_ (by first|rfl|assumption|(simp only [znl,znTE];(first|done|fail))))))); all_goals (first | rfl | (rw [e]; simp; done)))
  ·rw [if_neg h0, List.append_nil] at e
   have hd : decide (((k : Nat) : Int) ∈ L) = true := decide_eq_true (hk2.2 h0)
   repeat' (first|(with_reducible first|refine yrl (by constructor) ?_|refine jk (fun M hM=>?_)|(refine hM _ ?_;clear hM M)|refine yx3 ?_|refine yxa ?_ ?_|refine yxb ?_ ?_)|((with_reducible refine je ?_)<;>exact ynTE)|(with_reducible refine yxc ?_)|((with_reducible refine yxi (fun hc=>?_) (fun hc=>?_))<;>(try simp (disch:=omega) only [zhb] at hc)<;>(try (exfalso;omega))<;>(try subst hc))|(with_reducible refine yxw ?_)|(simp (config := { maxSteps := 400000 }) only [↓jt,↓reduceIte,zvs,reduceCtorEq,seval,tab,encNats,look_setM,keys_setM,hd,Try.results20,jTA])|(simp (disch:=omega) only [ziw]))
   all_goals first
    | (exfalso; omega)
    | (refine xl1 (k + 1) ?_ (by show k + 1 ≤ m.fr.length; omega) (by show m.fr.length - (k + 1) < m.fr.length - k; omega); (refine yrn [(0, 0), (1, 1), (2, 2)] false ?_ ?_<;>(repeat' (first|(with_reducible first|exact ya1|exact ya2|exact ya3|refine jx rfl (by first|rfl|assumption|(simp only [znl,znTE];(first|done|fail)))|exact ya5|exact ya7|exact jy|exact jz|refine jA ?_|refine ya9 ?_ ?_ ?_|refine jC rfl (by first|rfl|assumption|(simp only [znl,znTE];(first|done|fail)))|refine MR.agg (MRL.cons ?_ ?_)|refine MR.fn ?_|refine MRL.cons ?_ ?_|exact MRL.nil|refine jE ?_ ?_|exact jF|exact jG|refine yb1 ?_ ?_|refine MB.row ?_|refine jI ?_ ?_|exact ya8|refine jJ rfl (by first|rfl|assumption|(simp only [znl,znTE];(first|done|fail)))|refine yb2 ?_|rfl)|(simp only [znl,znTE];(first|done|fail))|(simp only [↓reduceIte,zlk,Nat.reduceEqDiff,reduceCtorEq])|(with_reducible first|refine jJ ?_ ?_|refine ya5 ?_|refine ju ?_|refine jv ?_|refine jw ?_|refine jx ?_ (by first|rfl|assumption|(simp only [znl,znTE];(first|done|fail)))|refine jC ?_ (by first|rfl|assumption|(simp only [znl,znTE];(first|done|fail))))))); all_goals (first | rfl | (rw [e]; done)))
 ·obtain rfl : k = m.fr.length := by omega
  repeat' (first|(with_reducible first|refine yrl (by constructor) ?_|refine jk (fun M hM=>?_)|(refine hM _ ?_;clear hM M)|refine yx3 ?_|refine yxa ?_ ?_|refine yxb ?_ ?_)|((with_reducible refine je ?_)<;>exact ynTE)|(with_reducible refine yxc ?_)|((with_reducible refine yxi (fun hc=>?_) (fun hc=>?_))<;>(try simp (disch:=omega) only [zhb] at hc)<;>(try (exfalso;omega))<;>(try subst hc))|(with_reducible refine yxw ?_)|(simp (config := { maxSteps := 400000 }) only [↓jt,↓reduceIte,zvs,reduceCtorEq,seval,tab,Try.results20,jTA])|(simp (disch:=omega) only [ziw]))
  all_goals first
   | exact newA_own (by simp only [↓reduceIte,zlk,Nat.reduceEqDiff,reduceCtorEq]; exact rfl) (by simp) rfl (pls_nats _)
end Go.Proofs.Ytpdhdkpebbfnnaa.V
end
section
namespace Go.Proofs.Ytpdhdkpebbfnnaa.V
open Go
theorem ynTD {l : List VV} (h : nls l = true := by first|rfl|assumption|(simp only [znl,znTD];(first|done|fail))) : nls l = true := h
set_option maxRecDepth 100000
def znTD := And.intro @jO <| And.intro @jP <| And.intro @jQ <| And.intro @jR <| And.intro @jS <| And.intro @jT <| And.intro @jU <| And.intro @nls_lay <| And.intro @nl_lay <| And.intro @nls_nats <| True.intro
set_option maxHeartbeats 8000000
abbrev encMFP (m : Mach) (f p : VV) : VV := .agg [.int .u64 m.clock, .int .i64 m.quantum, .int .i64 m.cur, .int .i64 m.left, f, p, .int .i64 m.next, .str m.init, encPis m.pipes, .int .i64 m.newp, .str m.inp, .bool m.fin, .int .u64 m.told, encDr m.dr, encWrs m.dirty]
theorem sspawn_spec (m : Mach) (hm : MFit 20000 m) (hn : m.next < 4611686018427387904) (e : Exe) (he : ExeR e) (par : Int) (hp : i64R par) (i o : Fdd) (hi : fdR i) (ho : fdR o) :
  Spec Try.prog 16 [encM m, encExe e, .int .i64 par, encFd i, encFd o] (spawnVV m e par i o) := by
 have hL := slay_spec e he
 have hfl := hm.fr
 have hpl := hm.pr
 obtain ⟨hn1, _⟩ := hm.next
 have hnM := nl_encM m
 unfold spawnVV spawnE
 unfold layVV at hL
 by_cases hok : okE e
 ·rw [if_pos hok] at hL
  simp only [hok,if_true]
  by_cases h8 : 8 ≤ m.pr.length
  ·simp only [h8,if_true]
   refine spec_ok Try.func16 rfl rfl (by kernel_rfl) (k := 5) rfl (by decide) ?_
   repeat' (first|(with_reducible first|refine yrl (by constructor) ?_|refine jk (fun M hM=>?_)|(refine hM _ ?_;clear hM M)|refine yx3 ?_|refine yxa ?_ ?_|refine yxb ?_ ?_)|((with_reducible refine je ?_)<;>exact ynTD)|(with_reducible refine yxc ?_)|((with_reducible refine yxi (fun hc=>?_) (fun hc=>?_))<;>(try simp (disch:=omega) only [zhb] at hc)<;>(try (exfalso;omega))<;>(try subst hc))|(with_reducible refine yxw ?_)|(simp (config := { maxSteps := 400000 }) only [↓jt,↓reduceIte,zvs,reduceCtorEq,seval,-List.reduceReplicate,tab,hasFd1,zRs,zSp,zFd,Try.results16,jTA])|(simp (disch:=omega) only [ziw]))
   all_goals (try (exfalso; omega))
   all_goals first
    | (((try simp only [nilM,List.map_nil]); simp only [zrds]; (repeat' (first | exact rd_nil | exact Rd.refl _ _ (by first|rfl|assumption|(simp only [znl,znTD];(first|done|fail))) | (refine And.intro ?_ ?_) | (refine rd_own (by (simp only [↓reduceIte,zlk,Nat.reduceEqDiff,reduceCtorEq]); exact rfl) ?_ ?_ ?_) | rfl | assumption | (simp only [znl,znTD];(first|done|fail)) | (simp; done) | (simp; omega)))); done)
  ·simp only [h8,if_false]
   have hB := list_pi m.pipes hm.pipes
   have hE := own_drive m.dr hm.bl hm.pe
   have hG := list_wr m.dirty hm.dirty
   have hF := sfreeN_spec m hm
   have hFm := took_fr (m := m) rfl
   have hFl := freeK_le m.pr m.fr.length
   have hlR := layR_E e hok
   refine spec_ok Try.func16 rfl rfl (by kernel_rfl) (k := 5) rfl (by decide) ?_
   repeat' (first|(with_reducible first|refine yrl (by constructor) ?_|refine jk (fun M hM=>?_)|(refine hM _ ?_;clear hM M)|refine yx3 ?_|refine yxa ?_ ?_|refine yxb ?_ ?_)|((with_reducible refine je ?_)<;>exact ynTD)|(with_reducible refine yxc ?_)|((with_reducible refine yxi (fun hc=>?_) (fun hc=>?_))<;>(try simp (disch:=omega) only [zhb] at hc)<;>(try (exfalso;omega))<;>(try subst hc))|(with_reducible refine yxw ?_)|(simp (config := { maxSteps := 400000 }) only [↓jt,↓reduceIte,zvs,reduceCtorEq,seval,-List.reduceReplicate,tab,hasFd1,zRs,zSp,zFd,Try.results16,jTA])|(simp (disch:=omega) only [ziw]))
   all_goals (try (exfalso; omega))
   refine ja (ok_body Try.func41 rfl rfl (by kernel_rfl) (k := 1) (by rfl) (by decide) ?_)
   repeat' (first|(with_reducible first|refine yrl (by constructor) ?_|refine jk (fun M hM=>?_)|(refine hM _ ?_;clear hM M)|refine yx3 ?_|refine yxa ?_ ?_|refine yxb ?_ ?_)|((with_reducible refine je ?_)<;>exact ynTD)|(with_reducible refine yxc ?_)|((with_reducible refine yxi (fun hc=>?_) (fun hc=>?_))<;>(try simp (disch:=omega) only [zhb] at hc)<;>(try (exfalso;omega))<;>(try subst hc))|(with_reducible refine yxw ?_)|(simp (config := { maxSteps := 400000 }) only [↓jt,↓reduceIte,zvs,reduceCtorEq,seval,-List.reduceReplicate,tab,Try.results89, Try.results90, Try.results41, Try.results16, List.toList_toArray])|(simp (disch:=omega) only [ziw]))
   refine ja (ok_body Try.func89 rfl rfl (by kernel_rfl) (k := 1) (by rfl) (by decide) ?_)
   repeat' (first|(with_reducible first|refine yrl (by constructor) ?_|refine jk (fun M hM=>?_)|(refine hM _ ?_;clear hM M)|refine yx3 ?_|refine yxa ?_ ?_|refine yxb ?_ ?_)|((with_reducible refine je ?_)<;>exact ynTD)|(with_reducible refine yxc ?_)|((with_reducible refine yxi (fun hc=>?_) (fun hc=>?_))<;>(try simp (disch:=omega) only [zhb] at hc)<;>(try (exfalso;omega))<;>(try subst hc))|(with_reducible refine yxw ?_)|(simp (config := { maxSteps := 400000 }) only [↓jt,↓reduceIte,zvs,reduceCtorEq,seval,-List.reduceReplicate,tab,Try.results89, Try.results90, Try.results41, Try.results16, List.toList_toArray])|(simp (disch:=omega) only [ziw]))
   refine ja (ok_body Try.func90 rfl rfl (by kernel_rfl) (k := 1) (by rfl) (by decide) ?_)
   repeat' (first|(with_reducible first|refine yrl (by constructor) ?_|refine jk (fun M hM=>?_)|(refine hM _ ?_;clear hM M)|refine yx3 ?_|refine yxa ?_ ?_|refine yxb ?_ ?_)|((with_reducible refine je ?_)<;>exact ynTD)|(with_reducible refine yxc ?_)|((with_reducible refine yxi (fun hc=>?_) (fun hc=>?_))<;>(try simp (disch:=omega) only [zhb] at hc)<;>(try (exfalso;omega))<;>(try subst hc))|(with_reducible refine yxw ?_)|(simp (config := { maxSteps := 400000 }) only [↓jt,↓reduceIte,zvs,reduceCtorEq,seval,-List.reduceReplicate,tab,Try.results89, Try.results90, Try.results41, Try.results16, List.toList_toArray])|(simp (disch:=omega) only [ziw]))
   all_goals (try (exfalso; omega))
   refine ja (ok_body Try.func42 rfl rfl (by kernel_rfl) (k := 1) (by rfl) (by decide) ?_)
   repeat' (first|(with_reducible first|refine yrl (by constructor) ?_|refine jk (fun M hM=>?_)|(refine hM _ ?_;clear hM M)|refine yx3 ?_|refine yxa ?_ ?_|refine yxb ?_ ?_)|((with_reducible refine je ?_)<;>exact ynTD)|(with_reducible refine yxc ?_)|((with_reducible refine yxi (fun hc=>?_) (fun hc=>?_))<;>(try simp (disch:=omega) only [zhb] at hc)<;>(try (exfalso;omega))<;>(try subst hc))|(with_reducible refine yxw ?_)|(simp (config := { maxSteps := 400000 }) only [↓jt,↓reduceIte,zvs,reduceCtorEq,seval,-List.reduceReplicate,tab,Try.results42,Try.results16,jTA])|(simp (disch:=omega) only [ziw]))
   all_goals (try (exfalso; omega))
   refine ja (call_new (hF) (by repeat (first | exact rdl_nil | refine rdl_cons ?_ ?_ | exact Rd.refl _ _ (by first|rfl|assumption|(simp only [znl,znTD];(first|done|fail))) | (refine rd_own (by (simp only [↓reduceIte,zlk,Nat.reduceEqDiff,reduceCtorEq]); exact rfl) (by first | rfl | (simp; done) | (simp; omega)) rfl (by first|rfl|assumption|(simp only [znl,znTD];(first|done|fail)))) | exact rd_nil | refine (rd_a _ _ _).mpr ?_)) rfl ?_)
   repeat' (first|(with_reducible first|refine yrl (by constructor) ?_|refine jk (fun M hM=>?_)|(refine hM _ ?_;clear hM M)|refine yx3 ?_|refine yxa ?_ ?_|refine yxb ?_ ?_)|((with_reducible refine je ?_)<;>exact ynTD)|(with_reducible refine yxc ?_)|((with_reducible refine yxi (fun hc=>?_) (fun hc=>?_))<;>(try simp (disch:=omega) only [zhb] at hc)<;>(try (exfalso;omega))<;>(try subst hc))|(with_reducible refine yxw ?_)|(simp (config := { maxSteps := 400000 }) only [↓jt,↓reduceIte,zvs,reduceCtorEq,seval,-List.reduceReplicate,tab,zSp,Try.results42,Try.results16,jTA])|(simp (disch:=omega) only [ziw]))
   all_goals (try (exfalso; omega))
   obtain ⟨R, hR⟩ : ∃ R, R = (if (if (freeK m.pr m.fr.length).length < (layE e).length then (10 : Int) else 0) = 0 then VV.tup [encM (spawnM m e par i o), .int .i64 m.next, .int .i64 0] else VV.tup [encM nilM, .int .i64 0, .int .i64 (if (freeK m.pr m.fr.length).length < (layE e).length then (10 : Int) else 0)]) := ⟨_, rfl⟩
   rw [← hR]
   have hR1 : (freeK m.pr m.fr.length).length < (layE e).length → R = .tup [encM nilM, .int .i64 0, .int .i64 10] := fun h => by
    rw [hR, if_pos h, if_neg (by decide)]
   have hR0 : ¬(freeK m.pr m.fr.length).length < (layE e).length → R = VV.tup [encM (spawnM m e par i o), .int .i64 m.next, .int .i64 0] := fun h => by
    rw [hR, if_neg h, if_pos rfl]
   clear hR
   have eS : spawnM m e par i o = { frM m (frK m.fr (freeK m.pr m.fr.length) (layE e) (layE e).length) with pr := m.pr ++ [spP (newPr m e par i o) (spK zSpace (freeK m.pr m.fr.length) (layE e) (layE e).length)], next := m.next + 1 } := rfl
   rw [eS] at hR0
   clear eS hL hF
   obtain ⟨hl1, hl2⟩ := hlR
   obtain ⟨nf, hnf⟩ : ∃ nf, nf = m.fr.length := ⟨_, rfl⟩
   obtain ⟨np, hnp⟩ : ∃ np, np = m.pr.length := ⟨_, rfl⟩
   simp only [freeV]
   generalize freeK m.pr m.fr.length = F at hFm hFl hR1 hR0 ⊢
   generalize layE e = l at hl1 hl2 hR1 hR0 ⊢
   refine ok_loop (fun k : Nat => ⟨slots [(2, .int .i64 par), (6, .ptr 1 []), (8, .ptr 2 []), (9, .ptr 3 []), (10, .ptr 4 []), (11, .int .i64 0), (12, .int .i64 0), (15, .ptr 9 []), (16, .fn 94 [.ptr 11 [], .ptr 10 []]), (17, .ptr 12 []), (40, encLays l), (41, .int .i64 l.length), (42, .int .i64 k)], rows [(1, .row (.st [.cell, .cell, .cell, .cell]) (encExe e)), (2, .row (.st [.cell, .cell, .cell]) (encFd i)), (3, .row (.st [.cell, .cell, .cell]) (encFd o)), (4, .row machSh nilMD), (7, .row (.arr nf .cell) (.agg ((frK m.fr F l k).map VV.str))), (8, .row (.arr np prSh) (.agg (m.pr.map encPr))), (9, .row machSh (encMFP m (.sl (some (7, [], 0)) nf) (.sl (some (8, [], 0)) np))), (10, .row .cell (.ptr 9 [])), (11, .row .cell (.dat .cell (encNats (F.drop k)))), (12, .row (.arr 16 pteSh) (.agg ((spK zSpace F l k).map encPte)))], 13⟩) (fun k => k ≤ l.length ∧ k ≤ F.length) (fun k => l.length - k) 0 ?_ ⟨Nat.zero_le _, Nat.zero_le _⟩ (fun k hk => ?_)
   ·(refine yrn [(1, 1), (2, 2), (3, 3), (4, 4), (7, 7), (8, 8), (9, 9), (10, 10), (11, 11), (12, 12)] false ?_ ?_<;>(repeat' (first|(with_reducible first|exact ya1|exact ya2|exact ya3|refine jx rfl (by first|rfl|assumption|(simp only [znl,znTD];(first|done|fail)))|exact ya5|exact ya7|exact jy|exact jz|refine jA ?_|refine ya9 ?_ ?_ ?_|refine jC rfl (by first|rfl|assumption|(simp only [znl,znTD];(first|done|fail)))|refine MR.agg (MRL.cons ?_ ?_)|refine MR.fn ?_|refine MRL.cons ?_ ?_|exact MRL.nil|refine jE ?_ ?_|exact jF|exact jG|refine yb1 ?_ ?_|refine MB.row ?_|refine jI ?_ ?_|exact ya8|refine jJ rfl (by first|rfl|assumption|(simp only [znl,znTD];(first|done|fail)))|refine yb2 ?_|rfl)|(simp only [znl,znTD];(first|done|fail))|(simp only [↓reduceIte,zlk,Nat.reduceEqDiff,reduceCtorEq])|(with_reducible first|refine jJ ?_ ?_|refine ya5 ?_|refine ju ?_|refine jv ?_|refine jw ?_|refine jx ?_ (by first|rfl|assumption|(simp only [znl,znTD];(first|done|fail)))|refine jC ?_ (by first|rfl|assumption|(simp only [znl,znTD];(first|done|fail)))))))
    all_goals (first | rfl | exact MR.data _ rfl | exact hnf.symm | exact hnp.symm)
   obtain ⟨hk, hkF⟩ := hk
   have hfk := frK_len m.fr F l k
   have hsk := spK_len zSpace F l k
   rw [← hnf] at hfk
   rw [show zSpace.length = 16 from rfl] at hsk
   have hdl : (F.drop k).length = F.length - k := List.length_drop
   by_cases hlt : k < l.length
   ·have hx := hl2 _ (getD_mem' hlt)
    have hL := hasLay (l.getD k default)
    simp only [encLay] at hL
    by_cases hkf : k < F.length
    ·have hFi := hFm _ (getD_mem' hkf)
     have hd0 : (encNats (F.drop k))[0]? = some (.int .i64 ((F.getD k default : Nat) : Int)) := by
      rw [List.getElem?_map, List.getElem?_drop, Nat.add_zero, List.getD_eq_getElem?_getD, List.getElem?_eq_getElem hkf]; rfl
     have hd1 : (encNats (F.drop k)).drop 1 = encNats (F.drop (k + 1)) := by
      rw [← List.map_drop, List.drop_drop]
     have hd2 : (encNats (F.drop (k + 1))).take (F.length - k - 1) = encNats (F.drop (k + 1)) := List.take_of_length_le (by rw [List.length_map, List.length_drop]; omega)
     have hf1 : (frK m.fr F l k).set (F.getD k default) (l.getD k default).d = frK m.fr F l (k + 1) := rfl
     have hs1 : (spK zSpace F l k).set (l.getD k default).at_.toNat ⟨true, (l.getD k default).w, ((F.getD k default : Nat) : Int)⟩ = spK zSpace F l (k + 1) := rfl
     obtain ⟨f2, hf2⟩ : ∃ f, f = frK m.fr F l (k + 1) := ⟨_, rfl⟩
     rw [← hf2] at hf1
     obtain ⟨s2, hs2⟩ : ∃ f, f = spK zSpace F l (k + 1) := ⟨_, rfl⟩
     rw [← hs2] at hs1
     generalize frK m.fr F l k = f1 at hfk hf1 ⊢
     generalize spK zSpace F l k = s1 at hsk hs1 ⊢
     have hw1 : (f1.map VV.str).set (F.getD k default) (.str (l.getD k default).d) = f2.map VV.str := by rw [← List.map_set, hf1]
     have hw2 : (s1.map encPte).set (l.getD k default).at_.toNat (.agg [.bool true, .bool (l.getD k default).w, .int .i64 ((F.getD k default : Nat) : Int)]) = s2.map encPte := by rw [← hs1, List.map_set]; rfl
     have hS2 := hasSpace s1 hsk
     obtain ⟨u, hu⟩ := pteS s1 hsk (l.getD k default).at_.toNat (by omega)
     have hv := map_getD VV.str f1 (F.getD k default) (by omega)
     repeat' (first|(with_reducible first|refine yrl (by constructor) ?_|refine jk (fun M hM=>?_)|(refine hM _ ?_;clear hM M)|refine yx3 ?_|refine yxa ?_ ?_|refine yxb ?_ ?_)|((with_reducible refine je ?_)<;>exact ynTD)|(with_reducible refine yxc ?_)|((with_reducible refine yxi (fun hc=>?_) (fun hc=>?_))<;>(try simp (disch:=omega) only [zhb] at hc)<;>(try (exfalso;omega))<;>(try subst hc))|(with_reducible refine yxw ?_)|(simp (config := { maxSteps := 400000 }) only [↓jt,↓reduceIte,zvs,reduceCtorEq,seval,-List.reduceReplicate,tab,hL,hS2,encLay,hdl,Try.results94,Try.results42,Try.results16,jTA])|(simp (disch:=omega) only [ziw]))
     all_goals (try (exfalso; omega))
     refine ja (ok_body Try.func94 rfl rfl (by kernel_rfl) (k := 3) (by rfl) (by decide) ?_)
     repeat' (first|(with_reducible first|refine yrl (by constructor) ?_|refine jk (fun M hM=>?_)|(refine hM _ ?_;clear hM M)|refine yx3 ?_|refine yxa ?_ ?_|refine yxb ?_ ?_)|((with_reducible refine je ?_)<;>exact ynTD)|(with_reducible refine yxc ?_)|((with_reducible refine yxi (fun hc=>?_) (fun hc=>?_))<;>(try simp (disch:=omega) only [zhb] at hc)<;>(try (exfalso;omega))<;>(try subst hc))|(with_reducible refine yxw ?_)|(simp (config := { maxSteps := 400000 }) only [↓jt,↓reduceIte,zvs,reduceCtorEq,seval,-List.reduceReplicate,tab,hL,hS2,encLay,hdl,hd0,hd1,hd2,hw1,hw2,hu,hv,hfk,Int.toNat_natCast,Try.results94,Try.results42,Try.results16,jTA])|(simp (disch:=omega) only [ziw]))
     all_goals (try (exfalso; omega))
     all_goals first
      | (refine xl1 (k + 1) ?_ ⟨by omega, by omega⟩ (by show l.length - (k + 1) < l.length - k; omega); (refine yrn [(1, 1), (2, 2), (3, 3), (4, 4), (7, 7), (8, 8), (9, 9), (10, 10), (11, 11), (12, 12)] false ?_ ?_<;>(repeat' (first|(with_reducible first|exact ya1|exact ya2|exact ya3|refine jx rfl (by first|rfl|assumption|(simp only [znl,znTD];(first|done|fail)))|exact ya5|exact ya7|exact jy|exact jz|refine jA ?_|refine ya9 ?_ ?_ ?_|refine jC rfl (by first|rfl|assumption|(simp only [znl,znTD];(first|done|fail)))|refine MR.agg (MRL.cons ?_ ?_)|refine MR.fn ?_|refine MRL.cons ?_ ?_|exact MRL.nil|refine jE ?_ ?_|exact jF|exact jG|refine yb1 ?_ ?_|refine MB.row ?_|refine jI ?_ ?_|exact ya8|refine jJ rfl (by first|rfl|assumption|(simp only [znl,znTD];(first|done|fail)))|refine yb2 ?_|rfl)|(simp only [znl,znTD];(first|done|fail))|(simp only [↓reduceIte,zlk,Nat.reduceEqDiff,reduceCtorEq])|(with_reducible first|refine jJ ?_ ?_|refine ya5 ?_|refine ju ?_|refine jv ?_|refine jw ?_|refine jx ?_ (by first|rfl|assumption|(simp only [znl,znTD];(first|done|fail)))|refine jC ?_ (by first|rfl|assumption|(simp only [znl,znTD];(first|done|fail))))))); all_goals (first | rfl | exact MR.data _ rfl | (rw [← hs2]; done) | (rw [← hf2]; done) | (rw [← hf2]; exact hw1) | (rw [← hs2]; exact hw2)))
    ·have hkF2 : k = F.length := by omega
     have hR2 := hR1 (by omega)
     repeat' (first|(with_reducible first|refine yrl (by constructor) ?_|refine jk (fun M hM=>?_)|(refine hM _ ?_;clear hM M)|refine yx3 ?_|refine yxa ?_ ?_|refine yxb ?_ ?_)|((with_reducible refine je ?_)<;>exact ynTD)|(with_reducible refine yxc ?_)|((with_reducible refine yxi (fun hc=>?_) (fun hc=>?_))<;>(try simp (disch:=omega) only [zhb] at hc)<;>(try (exfalso;omega))<;>(try subst hc))|(with_reducible refine yxw ?_)|(simp (config := { maxSteps := 400000 }) only [↓jt,↓reduceIte,zvs,reduceCtorEq,seval,-List.reduceReplicate,tab,hL,encLay,hdl,Try.results94,Try.results42,Try.results16,jTA])|(simp (disch:=omega) only [ziw]))
     all_goals (try (exfalso; omega))
     refine ja (ok_body Try.func94 rfl rfl (by kernel_rfl) (k := 3) (by rfl) (by decide) ?_)
     repeat' (first|(with_reducible first|refine yrl (by constructor) ?_|refine jk (fun M hM=>?_)|(refine hM _ ?_;clear hM M)|refine yx3 ?_|refine yxa ?_ ?_|refine yxb ?_ ?_)|((with_reducible refine je ?_)<;>exact ynTD)|(with_reducible refine yxc ?_)|((with_reducible refine yxi (fun hc=>?_) (fun hc=>?_))<;>(try simp (disch:=omega) only [zhb] at hc)<;>(try (exfalso;omega))<;>(try subst hc))|(with_reducible refine yxw ?_)|(simp (config := { maxSteps := 400000 }) only [↓jt,↓reduceIte,zvs,reduceCtorEq,seval,-List.reduceReplicate,tab,hL,encLay,hdl,Try.results94,Try.results42,Try.results16,jTA])|(simp (disch:=omega) only [ziw]))
     all_goals first
      | (exfalso; omega)
      | (rw [hR2]; ((try simp only [nilM,List.map_nil]); simp only [zrds]; (repeat' (first | exact rd_nil | exact Rd.refl _ _ (by first|rfl|assumption|(simp only [znl,znTD];(first|done|fail))) | (refine And.intro ?_ ?_) | (refine rd_own (by (simp only [↓reduceIte,zlk,Nat.reduceEqDiff,reduceCtorEq]); exact rfl) ?_ ?_ ?_) | rfl | assumption | (simp only [znl,znTD];(first|done|fail)) | (simp; done) | (simp; omega)))); done)
   ·obtain rfl : k = l.length := by omega
    have hR2 := hR0 (by omega)
    have hr1 : Has (.arr 16 .cell) (.agg ((List.replicate 16 (.int .u32 0)).set 15 (.int .u32 2048))) := hasRs ((List.replicate 16 0).set 15 2048) rfl
    have hf1 : Has (.arr 8 (.st [.cell, .cell, .cell])) (.agg (((List.replicate 8 (VV.agg [.int .i64 0, .int .i64 0, .int .i64 0])).set 0 (encFd i)).set 1 (encFd o))) := hasFds (i :: o :: List.replicate 6 ⟨0, 0, 0⟩) rfl
    have hsp := hasSpace _ hsk
    have hw : m.pr.map encPr ++ [VV.agg [.int .i64 m.next, .int .i64 par, .int .i64 1, .agg [.agg ((List.replicate 16 (.int .u32 0)).set 15 (.int .u32 2048)), .int .u32 e.en], .agg ((spK zSpace F l l.length).map encPte), .agg (((List.replicate 8 (.agg [.int .i64 0, .int .i64 0, .int .i64 0])).set 0 (encFd i)).set 1 (encFd o)), .bool false, .int .u32 0, .int .i64 0, .int .u64 0]] = (m.pr ++ [spP (newPr m e par i o) (spK zSpace F l l.length)]).map encPr := by
     rw [List.map_append]; rfl
    have hnlB := jP (m.pr ++ [spP (newPr m e par i o) (spK zSpace F l l.length)])
    repeat' (first|(with_reducible first|refine yrl (by constructor) ?_|refine jk (fun M hM=>?_)|(refine hM _ ?_;clear hM M)|refine yx3 ?_|refine yxa ?_ ?_|refine yxb ?_ ?_)|((with_reducible refine je ?_)<;>exact ynTD)|(with_reducible refine yxc ?_)|((with_reducible refine yxi (fun hc=>?_) (fun hc=>?_))<;>(try simp (disch:=omega) only [zhb] at hc)<;>(try (exfalso;omega))<;>(try subst hc))|(with_reducible refine yxw ?_)|(simp (config := { maxSteps := 400000 }) only [↓jt,↓reduceIte,zvs,reduceCtorEq,seval,-List.reduceReplicate,tab,hsp,hr1,hf1,hw,hasFd1,zRs,zFd,Try.results94,Try.results42,Try.results16,jTA])|(simp (disch:=omega) only [ziw]))
    all_goals (try (exfalso; omega))
    all_goals first
     | (rw [hR2]; ((try simp only [frM,List.map_nil]); simp only [zrds]; (repeat' (first | exact rd_nil | exact Rd.refl _ _ (by first|rfl|assumption|(simp only [znl,znTD];(first|done|fail))) | (refine And.intro ?_ ?_) | (refine rd_own (by (simp only [↓reduceIte,zlk,Nat.reduceEqDiff,reduceCtorEq]); exact rfl) ?_ ?_ ?_) | rfl | assumption | (simp only [znl,znTD];(first|done|fail)) | (simp; done) | (simp; omega)))); done)
 ·rw [if_neg hok] at hL
  simp only [hok,if_false]
  refine spec_ok Try.func16 rfl rfl (by kernel_rfl) (k := 5) rfl (by decide) ?_
  repeat' (first|(with_reducible first|refine yrl (by constructor) ?_|refine jk (fun M hM=>?_)|(refine hM _ ?_;clear hM M)|refine yx3 ?_|refine yxa ?_ ?_|refine yxb ?_ ?_)|((with_reducible refine je ?_)<;>exact ynTD)|(with_reducible refine yxc ?_)|((with_reducible refine yxi (fun hc=>?_) (fun hc=>?_))<;>(try simp (disch:=omega) only [zhb] at hc)<;>(try (exfalso;omega))<;>(try subst hc))|(with_reducible refine yxw ?_)|(simp (config := { maxSteps := 400000 }) only [↓jt,↓reduceIte,zvs,reduceCtorEq,seval,-List.reduceReplicate,tab,hasFd1,zRs,zSp,zFd,Try.results16,jTA])|(simp (disch:=omega) only [ziw]))
  all_goals first
   | (exfalso; omega)
   | (((try simp only [nilM,List.map_nil]); simp only [zrds]; (repeat' (first | exact rd_nil | exact Rd.refl _ _ (by first|rfl|assumption|(simp only [znl,znTD];(first|done|fail))) | (refine And.intro ?_ ?_) | (refine rd_own (by (simp only [↓reduceIte,zlk,Nat.reduceEqDiff,reduceCtorEq]); exact rfl) ?_ ?_ ?_) | rfl | assumption | (simp only [znl,znTD];(first|done|fail)) | (simp; done) | (simp; omega)))); done)
end Go.Proofs.Ytpdhdkpebbfnnaa.V
end
section
namespace Go.Proofs.Ytpdhdkpebbfnnaa.V
open Go
set_option maxRecDepth 100000
set_option maxHeartbeats 8000000
abbrev encPrT (p : Pr) : VV := .agg [.int .i64 p.pid, .int .i64 p.par, .int .i64 p.st, .agg [.agg (p.rs.map (.int .u32)), .int .u32 p.pc], .agg (p.sp.map encPte), .agg (p.fds.map encFd), .bool p.mask, .int .u32 p.code, .int .i64 p.why, .int .u64 p.n]
end Go.Proofs.Ytpdhdkpebbfnnaa.V
end
section
namespace Go.Proofs.Ytpdhdkpebbfnnaa.V
open Go
set_option maxRecDepth 100000
set_option maxHeartbeats 4000000
end Go.Proofs.Ytpdhdkpebbfnnaa.V
end
section
namespace Go.Proofs.Ytpdhdkpebbfnnaa.V
open Go
theorem ynQ6 {l : List VV} (h : nls l = true := by first|rfl|assumption|(simp only [znl,znQ6];(first|done|fail))) : nls l = true := h
set_option maxRecDepth 100000
def znQ6 := And.intro @jO <| And.intro @jP <| And.intro @jQ <| And.intro @jR <| And.intro @jS <| And.intro @jT <| And.intro @jU <| True.intro
set_option maxHeartbeats 8000000
def sweepI (m : Mach) (j : Nat) : List Pip := (m.pipes.take j).filter (endB m)
theorem take_snoc' {l : List Pip} {j : Nat} (h : j < l.length) : l.take (j + 1) = l.take j ++ [l.getD j default] := by
 rw [List.take_add_one, List.getD_eq_getElem?_getD, List.getElem?_eq_getElem h]; rfl
theorem sweepI_keep {m : Mach} {j : Nat} (h : j < m.pipes.length) (hk : endB m (m.pipes.getD j default) = true) : sweepI m (j + 1) = sweepI m j ++ [m.pipes.getD j default] := by
 unfold sweepI
 rw [take_snoc' h, List.filter_append, List.filter_cons_of_pos hk, List.filter_nil]
theorem sweepI_drop {m : Mach} {j : Nat} (h : j < m.pipes.length) (hk : endB m (m.pipes.getD j default) = false) : sweepI m (j + 1) = sweepI m j := by
 unfold sweepI
 rw [take_snoc' h, List.filter_append, List.filter_cons_of_neg (by rw [hk]; decide), List.filter_nil, List.append_nil]
theorem sweepI_len (m : Mach) (j : Nat) : (sweepI m j).length ≤ j := by
 refine Nat.le_trans (List.length_filter_le _ _) ?_
 rw [List.length_take]; omega
theorem sweepI_all (m : Mach) (k : Nat) (hk : k ≤ m.pipes.length) (h : ∀ j, j < k → endB m (m.pipes.getD j default) = true) : sweepI m k = m.pipes.take k := by
 unfold sweepI
 refine List.filter_eq_self.2 fun p hp => ?_
 obtain ⟨j, hj, rfl⟩ := List.mem_iff_getElem.1 hp
 rw [List.length_take] at hj
 have := h j (by omega)
 rw [List.getD_eq_getElem?_getD, List.getElem?_eq_getElem (by omega)] at this
 rw [List.getElem_take]; exact this
structure Swp (m : Mach) (j : Nat) (X : List Pip) : Prop where
 len : X.length = m.pipes.length
 tk : X.take (sweepI m j).length = sweepI m j
 dr : X.drop j = m.pipes.drop j
theorem Swp.at {m : Mach} {j : Nat} {X : List Pip} (h : Swp m j X) (hj : j < m.pipes.length) : X.getD j default = m.pipes.getD j default := by
 have e := h.dr
 have h1 : (X.drop j)[0]? = (m.pipes.drop j)[0]? := by rw [e]
 rw [List.getElem?_drop, List.getElem?_drop, Nat.add_zero] at h1
 rw [List.getD_eq_getElem?_getD, List.getD_eq_getElem?_getD, h1]
theorem Swp.next {m : Mach} {j : Nat} {X : List Pip} (h : Swp m j X) (hj : j < m.pipes.length) (hk : endB m (m.pipes.getD j default) = false) : Swp m (j + 1) X := by
 refine ⟨h.len, by rw [sweepI_drop hj hk]; exact h.tk, ?_⟩
 rw [← List.drop_drop, ← List.drop_drop, h.dr]
theorem Swp.keep {m : Mach} {j : Nat} {X : List Pip} (h : Swp m j X) (hj : j < m.pipes.length) (hk : endB m (m.pipes.getD j default) = true) : Swp m (j + 1) (X.set (sweepI m j).length (m.pipes.getD j default)) := by
 have hl := sweepI_len m j
 have hx := h.len
 refine ⟨by rw [List.length_set]; exact h.len, ?_, ?_⟩
 ·rw [sweepI_keep hj hk, List.length_append, List.length_singleton, take_snoc' (by rw [List.length_set]; omega), List.take_set_of_le (Nat.le_refl _), h.tk, List.getD_eq_getElem?_getD, List.getElem?_set_self (by omega)]
  rfl
 ·rw [List.drop_set_of_lt (by omega), ← List.drop_drop, ← List.drop_drop, h.dr]
theorem Swp.start {m : Mach} {k : Nat} (hk : k < m.pipes.length) (h : ∀ j, j < k → endB m (m.pipes.getD j default) = true) (hq : endB m (m.pipes.getD k default) = false) : Swp m (k + 1) m.pipes ∧ (sweepI m (k + 1)).length = k := by
 have e : sweepI m (k + 1) = m.pipes.take k := by rw [sweepI_drop hk hq, sweepI_all m k (by omega) h]
 have el : (m.pipes.take k).length = k := by rw [List.length_take]; omega
 refine ⟨⟨rfl, by rw [e, el], rfl⟩, by rw [e, el]⟩
theorem Swp.fin {m : Mach} {X : List Pip} (h : Swp m m.pipes.length X) : X.take (sweepI m m.pipes.length).length = m.pipes.filter (endB m) := by
 rw [h.tk]; unfold sweepI; rw [List.take_length]
abbrev encMP (m : Mach) (ps : VV) : VV := .agg [.int .u64 m.clock, .int .i64 m.quantum, .int .i64 m.cur, .int .i64 m.left, encStrs m.fr, encPrs m.pr, .int .i64 m.next, .str m.init, ps, .int .i64 m.newp, .str m.inp, .bool m.fin, .int .u64 m.told, encDr m.dr, encWrs m.dirty]
abbrev nilMQ : VV := .agg [.int .u64 0, .int .i64 0, .int .i64 0, .int .i64 0, .sl none 0, .sl none 0, .int .i64 0, .str [], .sl none 0, .int .i64 0, .str [], .bool false, .int .u64 0, .agg [.sl none 0, .sl none 0, .int .i64 0], .sl none 0]
theorem swept_take {X F : List Pip} {Z D : List VV} (h : X.take F.length = F) : (List.take F.length (X.map encPi) ++ Z ++ D).take F.length = F.map encPi := by
 rw [← List.map_take, h, List.append_assoc, List.take_left' (List.length_map _)]
theorem rd_pre {H : Heap} {m k : Nat} {e : Sh} {els els' : List VV} {n : Nat} (h : H m = some (.row (.arr k e) (.agg els))) (hn : n ≤ els.length) (he : els.take n = els') (hl : nls els' = true) : Rd H (.sl (some (m, [], 0)) n) (.dat e els') := by
 subst he
 simp only [Rd]
 exact ⟨_, _, k, e, els, h, rfl, rfl, by omega, by simpa using hl, by simp⟩
theorem ssweep_spec (m : Mach) (hm : MFit 20000 m) : Spec Try.prog 49 [encM m] (encM (sweepM m)) := by
 have hA := list_str m.fr hm.fr
 have hB := list_pr m.pr hm.pr
 have hD := own_drive m.dr hm.bl hm.pe
 have hE := list_wr m.dirty hm.dirty
 have hl := hm.pipes
 have hpR := hm.pipesR
 obtain ⟨n, hn⟩ : ∃ n, n = m.pipes.length := ⟨_, rfl⟩
 refine spec_ok Try.func49 rfl rfl (by kernel_rfl) (k := 1) rfl (by decide) ?_
 repeat' (first|(with_reducible first|refine yrl (by constructor) ?_|refine jk (fun M hM=>?_)|(refine hM _ ?_;clear hM M)|refine yx3 ?_|refine yxa ?_ ?_|refine yxb ?_ ?_)|((with_reducible refine je ?_)<;>exact ynQ6)|(with_reducible refine yxc ?_)|((with_reducible refine yxi (fun hc=>?_) (fun hc=>?_))<;>(try simp (disch:=omega) only [zhb] at hc)<;>(try (exfalso;omega))<;>(try subst hc))|(with_reducible refine yxw ?_)|(simp (config := { maxSteps := 400000 }) only [↓jt,↓reduceIte,zvs,reduceCtorEq,seval,tab,Try.results49,jTA])|(simp (disch:=omega) only [ziw]))
 refine ja (ok_body Try.func41 rfl rfl (by kernel_rfl) (k := 1) (by rfl) (by decide) ?_)
 repeat' (first|(with_reducible first|refine yrl (by constructor) ?_|refine jk (fun M hM=>?_)|(refine hM _ ?_;clear hM M)|refine yx3 ?_|refine yxa ?_ ?_|refine yxb ?_ ?_)|((with_reducible refine je ?_)<;>exact ynQ6)|(with_reducible refine yxc ?_)|((with_reducible refine yxi (fun hc=>?_) (fun hc=>?_))<;>(try simp (disch:=omega) only [zhb] at hc)<;>(try (exfalso;omega))<;>(try subst hc))|(with_reducible refine yxw ?_)|(simp (config := { maxSteps := 400000 }) only [↓jt,↓reduceIte,zvs,reduceCtorEq,seval,tab,Try.results41,jTA])|(simp (disch:=omega) only [ziw]))
 refine ja (ok_body Try.func91 rfl rfl (by kernel_rfl) (k := 1) (by rfl) (by decide) ?_)
 repeat' (first|(with_reducible first|refine yrl (by constructor) ?_|refine jk (fun M hM=>?_)|(refine hM _ ?_;clear hM M)|refine yx3 ?_|refine yxa ?_ ?_|refine yxb ?_ ?_)|((with_reducible refine je ?_)<;>exact ynQ6)|(with_reducible refine yxc ?_)|((with_reducible refine yxi (fun hc=>?_) (fun hc=>?_))<;>(try simp (disch:=omega) only [zhb] at hc)<;>(try (exfalso;omega))<;>(try subst hc))|(with_reducible refine yxw ?_)|(simp (config := { maxSteps := 400000 }) only [↓jt,↓reduceIte,zvs,reduceCtorEq,seval,tab,Try.results91, Try.results41, Try.results49, List.toList_toArray])|(simp (disch:=omega) only [ziw]))
 all_goals (try (exfalso; omega))
 refine ja (ok_body Try.func100 rfl rfl (by kernel_rfl) (k := 2) (by rfl) (by decide) ?_)
 repeat' (first|(with_reducible first|refine yrl (by constructor) ?_|refine jk (fun M hM=>?_)|(refine hM _ ?_;clear hM M)|refine yx3 ?_|refine yxa ?_ ?_|refine yxb ?_ ?_)|((with_reducible refine je ?_)<;>exact ynQ6)|(with_reducible refine yxc ?_)|((with_reducible refine yxi (fun hc=>?_) (fun hc=>?_))<;>(try simp (disch:=omega) only [zhb] at hc)<;>(try (exfalso;omega))<;>(try subst hc))|(with_reducible refine yxw ?_)|(simp (config := { maxSteps := 400000 }) only [↓jt,↓reduceIte,zvs,reduceCtorEq,seval,tab,Try.results100, List.toList_toArray])|(simp (disch:=omega) only [ziw]))
 all_goals (try (exfalso; omega))
 refine ja (ok_body Try.func134 rfl rfl (by kernel_rfl) (k := 2) (by rfl) (by decide) ?_)
 repeat' (first|(with_reducible first|refine yrl (by constructor) ?_|refine jk (fun M hM=>?_)|(refine hM _ ?_;clear hM M)|refine yx3 ?_|refine yxa ?_ ?_|refine yxb ?_ ?_)|((with_reducible refine je ?_)<;>exact ynQ6)|(with_reducible refine yxc ?_)|((with_reducible refine yxi (fun hc=>?_) (fun hc=>?_))<;>(try simp (disch:=omega) only [zhb] at hc)<;>(try (exfalso;omega))<;>(try subst hc))|(with_reducible refine yxw ?_)|(simp (config := { maxSteps := 400000 }) only [↓jt,↓reduceIte,zvs,reduceCtorEq,seval,tab,Try.results134, List.toList_toArray])|(simp (disch:=omega) only [ziw]))
 refine ok_loop (fun k : Nat => ⟨slots [(0, .sl (some (4, [], 0)) n), (1, .fn 101 [.ptr 0 []]), (6, .sl (some (4, [], 0)) n), (7, .int .i64 n), (8, .int .i64 k)], rows [(0, .row machSh (encM m)), (1, .row machSh nilMQ), (4, .row (.arr n piSh) (.agg (m.pipes.map encPi))), (5, .row machSh (encMP m (.sl (some (4, [], 0)) n)))], 6⟩) (fun k => k ≤ n ∧ ∀ j, j < k → endB m (m.pipes.getD j default) = true) (fun k => n - k) 0 ?_ ⟨Nat.zero_le _, fun j hj => by omega⟩ (fun k hk => ?_)
 ·(refine yrn [] false ?_ ?_<;>(repeat' (first|(with_reducible first|exact ya1|exact ya2|exact ya3|refine jx rfl (by first|rfl|assumption|(simp only [znl,znQ6];(first|done|fail)))|exact ya5|exact ya7|exact jy|exact jz|refine jA ?_|refine ya9 ?_ ?_ ?_|refine jC rfl (by first|rfl|assumption|(simp only [znl,znQ6];(first|done|fail)))|refine MR.agg (MRL.cons ?_ ?_)|refine MR.fn ?_|refine MRL.cons ?_ ?_|exact MRL.nil|refine jE ?_ ?_|exact jF|exact jG|refine yb1 ?_ ?_|refine MB.row ?_|refine jI ?_ ?_|exact ya8|refine jJ rfl (by first|rfl|assumption|(simp only [znl,znQ6];(first|done|fail)))|refine yb2 ?_|rfl)|(simp only [znl,znQ6];(first|done|fail))|(simp only [↓reduceIte,zlk,Nat.reduceEqDiff,reduceCtorEq])|(with_reducible first|refine jJ ?_ ?_|refine ya5 ?_|refine ju ?_|refine jv ?_|refine jw ?_|refine jx ?_ (by first|rfl|assumption|(simp only [znl,znQ6];(first|done|fail)))|refine jC ?_ (by first|rfl|assumption|(simp only [znl,znQ6];(first|done|fail)))))))
  all_goals (first | rfl | omega | (simp [hn]; done))
 obtain ⟨hk, hall⟩ := hk
 by_cases hlt : k < n
 ·have hkm : k < m.pipes.length := by omega
  have hS := sends_spec m hm (m.pipes.getD k default).id (hpR _ (getD_mem' hkm)).1
  have ha := endsN_le 4 (m.pipes.getD k default).id m.pr fun p hp => (hm.prR p hp).fds
  have hb := endsN_le 5 (m.pipes.getD k default).id m.pr fun p hp => (hm.prR p hp).fds
  have hpl := hm.pr
  by_cases hq : endB m (m.pipes.getD k default) = true
  ·have hq2 := hq
   unfold endB at hq2
   have hq2 := of_decide_eq_true hq2
   have hst : ∀ j, j < k + 1 → endB m (m.pipes.getD j default) = true := fun j hj => by
    by_cases e : j = k
    ·rw [e]; exact hq
    ·exact hall j (by omega)
   generalize endsN m.pr 4 (m.pipes.getD k default).id = a at hS hq2 ha
   generalize endsN m.pr 5 (m.pipes.getD k default).id = b at hS hq2 hb
   repeat' (first|(with_reducible first|refine yrl (by constructor) ?_|refine jk (fun M hM=>?_)|(refine hM _ ?_;clear hM M)|refine yx3 ?_|refine yxa ?_ ?_|refine yxb ?_ ?_)|((with_reducible refine je ?_)<;>exact ynQ6)|(with_reducible refine yxc ?_)|((with_reducible refine yxi (fun hc=>?_) (fun hc=>?_))<;>(try simp (disch:=omega) only [zhb] at hc)<;>(try (exfalso;omega))<;>(try subst hc))|(with_reducible refine yxw ?_)|(simp (config := { maxSteps := 400000 }) only [↓jt,↓reduceIte,zvs,reduceCtorEq,seval,tab,encPi,Try.results134, List.toList_toArray])|(simp (disch:=omega) only [ziw]))
   refine ja (ok_body Try.func101 rfl rfl (by kernel_rfl) (k := 2) (by rfl) (by decide) ?_)
   repeat' (first|(with_reducible first|refine yrl (by constructor) ?_|refine jk (fun M hM=>?_)|(refine hM _ ?_;clear hM M)|refine yx3 ?_|refine yxa ?_ ?_|refine yxb ?_ ?_)|((with_reducible refine je ?_)<;>exact ynQ6)|(with_reducible refine yxc ?_)|((with_reducible refine yxi (fun hc=>?_) (fun hc=>?_))<;>(try simp (disch:=omega) only [zhb] at hc)<;>(try (exfalso;omega))<;>(try subst hc))|(with_reducible refine yxw ?_)|(simp (config := { maxSteps := 400000 }) only [↓jt,↓reduceIte,zvs,reduceCtorEq,seval,tab,encPi,Try.results101,Try.results134, Try.results100, Try.results49, List.toList_toArray])|(simp (disch:=omega) only [ziw]))
   all_goals first
    | (exfalso; omega)
    | (refine xl1 (k + 1) ?_ ⟨by omega, hst⟩ (by show n - (k + 1) < n - k; omega); (refine yrn [] false ?_ ?_<;>(repeat' (first|(with_reducible first|exact ya1|exact ya2|exact ya3|refine jx rfl (by first|rfl|assumption|(simp only [znl,znQ6];(first|done|fail)))|exact ya5|exact ya7|exact jy|exact jz|refine jA ?_|refine ya9 ?_ ?_ ?_|refine jC rfl (by first|rfl|assumption|(simp only [znl,znQ6];(first|done|fail)))|refine MR.agg (MRL.cons ?_ ?_)|refine MR.fn ?_|refine MRL.cons ?_ ?_|exact MRL.nil|refine jE ?_ ?_|exact jF|exact jG|refine yb1 ?_ ?_|refine MB.row ?_|refine jI ?_ ?_|exact ya8|refine jJ rfl (by first|rfl|assumption|(simp only [znl,znQ6];(first|done|fail)))|refine yb2 ?_|rfl)|(simp only [znl,znQ6];(first|done|fail))|(simp only [↓reduceIte,zlk,Nat.reduceEqDiff,reduceCtorEq])|(with_reducible first|refine jJ ?_ ?_|refine ya5 ?_|refine ju ?_|refine jv ?_|refine jw ?_|refine jx ?_ (by first|rfl|assumption|(simp only [znl,znQ6];(first|done|fail)))|refine jC ?_ (by first|rfl|assumption|(simp only [znl,znQ6];(first|done|fail))))))); done)
  ·have hq1 : endB m (m.pipes.getD k default) = false := Bool.not_eq_true _ ▸ hq
   have hq2 := hq1
   unfold endB at hq2
   have hq2 := of_decide_eq_false hq2
   obtain ⟨hs0, hsl⟩ := Swp.start hkm hall hq1
   generalize endsN m.pr 4 (m.pipes.getD k default).id = a at hS hq2 ha
   generalize endsN m.pr 5 (m.pipes.getD k default).id = b at hS hq2 hb
   repeat' (first|(with_reducible first|refine yrl (by constructor) ?_|refine jk (fun M hM=>?_)|(refine hM _ ?_;clear hM M)|refine yx3 ?_|refine yxa ?_ ?_|refine yxb ?_ ?_)|((with_reducible refine je ?_)<;>exact ynQ6)|(with_reducible refine yxc ?_)|((with_reducible refine yxi (fun hc=>?_) (fun hc=>?_))<;>(try simp (disch:=omega) only [zhb] at hc)<;>(try (exfalso;omega))<;>(try subst hc))|(with_reducible refine yxw ?_)|(simp (config := { maxSteps := 400000 }) only [↓jt,↓reduceIte,zvs,reduceCtorEq,seval,tab,encPi,Try.results134, List.toList_toArray])|(simp (disch:=omega) only [ziw]))
   refine ja (ok_body Try.func101 rfl rfl (by kernel_rfl) (k := 2) (by rfl) (by decide) ?_)
   repeat' (first|(with_reducible first|refine yrl (by constructor) ?_|refine jk (fun M hM=>?_)|(refine hM _ ?_;clear hM M)|refine yx3 ?_|refine yxa ?_ ?_|refine yxb ?_ ?_)|((with_reducible refine je ?_)<;>exact ynQ6)|(with_reducible refine yxc ?_)|((with_reducible refine yxi (fun hc=>?_) (fun hc=>?_))<;>(try simp (disch:=omega) only [zhb] at hc)<;>(try (exfalso;omega))<;>(try subst hc))|(with_reducible refine yxw ?_)|(simp (config := { maxSteps := 400000 }) only [↓jt,↓reduceIte,zvs,reduceCtorEq,seval,tab,encPi,Try.results101,Try.results134, Try.results100, Try.results49, List.toList_toArray])|(simp (disch:=omega) only [ziw]))
   all_goals (try (exfalso; omega))
   refine ok_loop (fun x : Nat × List Pip => ⟨slots [(0, .sl (some (4, [], 0)) n), (1, .fn 101 [.ptr 0 []]), (5, .int .i64 (sweepI m x.1).length), (6, .int .i64 x.1)], rows [(0, .row machSh (encM m)), (1, .row machSh nilMQ), (4, .row (.arr n piSh) (.agg (x.2.map encPi))), (5, .row machSh (encMP m (.sl (some (4, [], 0)) n)))], 6⟩) (fun x => x.1 ≤ n ∧ Swp m x.1 x.2) (fun x => n - x.1) (k + 1, m.pipes) ?_ ⟨by show k + 1 ≤ n; omega, hs0⟩ (fun x hx => ?_)
   ·(refine yrn [] false ?_ ?_<;>(repeat' (first|(with_reducible first|exact ya1|exact ya2|exact ya3|refine jx rfl (by first|rfl|assumption|(simp only [znl,znQ6];(first|done|fail)))|exact ya5|exact ya7|exact jy|exact jz|refine jA ?_|refine ya9 ?_ ?_ ?_|refine jC rfl (by first|rfl|assumption|(simp only [znl,znQ6];(first|done|fail)))|refine MR.agg (MRL.cons ?_ ?_)|refine MR.fn ?_|refine MRL.cons ?_ ?_|exact MRL.nil|refine jE ?_ ?_|exact jF|exact jG|refine yb1 ?_ ?_|refine MB.row ?_|refine jI ?_ ?_|exact ya8|refine jJ rfl (by first|rfl|assumption|(simp only [znl,znQ6];(first|done|fail)))|refine yb2 ?_|rfl)|(simp only [znl,znQ6];(first|done|fail))|(simp only [↓reduceIte,zlk,Nat.reduceEqDiff,reduceCtorEq])|(with_reducible first|refine jJ ?_ ?_|refine ya5 ?_|refine ju ?_|refine jv ?_|refine jw ?_|refine jx ?_ (by first|rfl|assumption|(simp only [znl,znQ6];(first|done|fail)))|refine jC ?_ (by first|rfl|assumption|(simp only [znl,znQ6];(first|done|fail)))))))
    all_goals (first | rfl | omega | (simp [hn]; done) | (dsimp only; omega))
   clear hall hq hq1 hq2 hs0 hsl hS ha hb
   obtain ⟨j, X⟩ := x
   obtain ⟨hj, hX⟩ := hx
   dsimp only at hj hX ⊢
   have hXl := hX.len
   rw [← hn] at hXl
   have hsl := sweepI_len m j
   by_cases hjl : j < n
   ·have hjm : j < m.pipes.length := by omega
    have hS := sends_spec m hm (m.pipes.getD j default).id (hpR _ (getD_mem' hjm)).1
    have ha := endsN_le 4 (m.pipes.getD j default).id m.pr fun p hp => (hm.prR p hp).fds
    have hb := endsN_le 5 (m.pipes.getD j default).id m.pr fun p hp => (hm.prR p hp).fds
    have hat := hX.at hjm
    by_cases hq : endB m (m.pipes.getD j default) = true
    ·have hq2 := hq
     unfold endB at hq2
     have hq2 := of_decide_eq_true hq2
     have hX' := hX.keep hjm hq
     have hi' : ((sweepI m (j + 1)).length : Int) = (sweepI m j).length + 1 := by rw [sweepI_keep hjm hq, List.length_append]; rfl
     generalize endsN m.pr 4 (m.pipes.getD j default).id = a at hS hq2 ha
     generalize endsN m.pr 5 (m.pipes.getD j default).id = b at hS hq2 hb
     generalize (sweepI m j).length = i at hsl hX' hi'
     repeat' (first|(with_reducible first|refine yrl (by constructor) ?_|refine jk (fun M hM=>?_)|(refine hM _ ?_;clear hM M)|refine yx3 ?_|refine yxa ?_ ?_|refine yxb ?_ ?_)|((with_reducible refine je ?_)<;>exact ynQ6)|(with_reducible refine yxc ?_)|((with_reducible refine yxi (fun hc=>?_) (fun hc=>?_))<;>(try simp (disch:=omega) only [zhb] at hc)<;>(try (exfalso;omega))<;>(try subst hc))|(with_reducible refine yxw ?_)|(simp (config := { maxSteps := 400000 }) only [↓jt,↓reduceIte,zvs,reduceCtorEq,seval,tab,hat,hXl,encPi,Try.results100, List.toList_toArray])|(simp (disch:=omega) only [ziw]))
     refine ja (ok_body Try.func101 rfl rfl (by kernel_rfl) (k := 2) (by rfl) (by decide) ?_)
     repeat' (first|(with_reducible first|refine yrl (by constructor) ?_|refine jk (fun M hM=>?_)|(refine hM _ ?_;clear hM M)|refine yx3 ?_|refine yxa ?_ ?_|refine yxb ?_ ?_)|((with_reducible refine je ?_)<;>exact ynQ6)|(with_reducible refine yxc ?_)|((with_reducible refine yxi (fun hc=>?_) (fun hc=>?_))<;>(try simp (disch:=omega) only [zhb] at hc)<;>(try (exfalso;omega))<;>(try subst hc))|(with_reducible refine yxw ?_)|(simp (config := { maxSteps := 400000 }) only [↓jt,↓reduceIte,zvs,reduceCtorEq,seval,tab,hat,hXl,encPi,Try.results101,Try.results100, Try.results49, List.toList_toArray])|(simp (disch:=omega) only [ziw]))
     all_goals first
      | (exfalso; omega)
      | (refine xl1 (j + 1, X.set i (m.pipes.getD j default)) ?_ ⟨by show j + 1 ≤ n; omega, hX'⟩ (by show n - (j + 1) < n - j; omega); (refine yrn [] false ?_ ?_<;>(repeat' (first|(with_reducible first|exact ya1|exact ya2|exact ya3|refine jx rfl (by first|rfl|assumption|(simp only [znl,znQ6];(first|done|fail)))|exact ya5|exact ya7|exact jy|exact jz|refine jA ?_|refine ya9 ?_ ?_ ?_|refine jC rfl (by first|rfl|assumption|(simp only [znl,znQ6];(first|done|fail)))|refine MR.agg (MRL.cons ?_ ?_)|refine MR.fn ?_|refine MRL.cons ?_ ?_|exact MRL.nil|refine jE ?_ ?_|exact jF|exact jG|refine yb1 ?_ ?_|refine MB.row ?_|refine jI ?_ ?_|exact ya8|refine jJ rfl (by first|rfl|assumption|(simp only [znl,znQ6];(first|done|fail)))|refine yb2 ?_|rfl)|(simp only [znl,znQ6];(first|done|fail))|(simp only [↓reduceIte,zlk,Nat.reduceEqDiff,reduceCtorEq])|(with_reducible first|refine jJ ?_ ?_|refine ya5 ?_|refine ju ?_|refine jv ?_|refine jw ?_|refine jx ?_ (by first|rfl|assumption|(simp only [znl,znQ6];(first|done|fail)))|refine jC ?_ (by first|rfl|assumption|(simp only [znl,znQ6];(first|done|fail))))))); all_goals (first | rfl | exact hi'.symm | (rw [List.map_set]; rfl)))
    ·have hq1 : endB m (m.pipes.getD j default) = false := Bool.not_eq_true _ ▸ hq
     have hq2 := hq1
     unfold endB at hq2
     have hq2 := of_decide_eq_false hq2
     have hX' := hX.next hjm hq1
     have hi' : (sweepI m j).length = (sweepI m (j + 1)).length := by rw [sweepI_drop hjm hq1]
     generalize endsN m.pr 4 (m.pipes.getD j default).id = a at hS hq2 ha
     generalize endsN m.pr 5 (m.pipes.getD j default).id = b at hS hq2 hb
     repeat' (first|(with_reducible first|refine yrl (by constructor) ?_|refine jk (fun M hM=>?_)|(refine hM _ ?_;clear hM M)|refine yx3 ?_|refine yxa ?_ ?_|refine yxb ?_ ?_)|((with_reducible refine je ?_)<;>exact ynQ6)|(with_reducible refine yxc ?_)|((with_reducible refine yxi (fun hc=>?_) (fun hc=>?_))<;>(try simp (disch:=omega) only [zhb] at hc)<;>(try (exfalso;omega))<;>(try subst hc))|(with_reducible refine yxw ?_)|(simp (config := { maxSteps := 400000 }) only [↓jt,↓reduceIte,zvs,reduceCtorEq,seval,tab,hat,hXl,encPi,Try.results100, List.toList_toArray])|(simp (disch:=omega) only [ziw]))
     refine ja (ok_body Try.func101 rfl rfl (by kernel_rfl) (k := 2) (by rfl) (by decide) ?_)
     repeat' (first|(with_reducible first|refine yrl (by constructor) ?_|refine jk (fun M hM=>?_)|(refine hM _ ?_;clear hM M)|refine yx3 ?_|refine yxa ?_ ?_|refine yxb ?_ ?_)|((with_reducible refine je ?_)<;>exact ynQ6)|(with_reducible refine yxc ?_)|((with_reducible refine yxi (fun hc=>?_) (fun hc=>?_))<;>(try simp (disch:=omega) only [zhb] at hc)<;>(try (exfalso;omega))<;>(try subst hc))|(with_reducible refine yxw ?_)|(simp (config := { maxSteps := 400000 }) only [↓jt,↓reduceIte,zvs,reduceCtorEq,seval,tab,hat,hXl,encPi,Try.results101,Try.results100, Try.results49, List.toList_toArray])|(simp (disch:=omega) only [ziw]))
     all_goals first
      | (exfalso; omega)
      | (refine xl1 (j + 1, X) ?_ ⟨by show j + 1 ≤ n; omega, hX'⟩ (by show n - (j + 1) < n - j; omega); (refine yrn [] false ?_ ?_<;>(repeat' (first|(with_reducible first|exact ya1|exact ya2|exact ya3|refine jx rfl (by first|rfl|assumption|(simp only [znl,znQ6];(first|done|fail)))|exact ya5|exact ya7|exact jy|exact jz|refine jA ?_|refine ya9 ?_ ?_ ?_|refine jC rfl (by first|rfl|assumption|(simp only [znl,znQ6];(first|done|fail)))|refine MR.agg (MRL.cons ?_ ?_)|refine MR.fn ?_|refine MRL.cons ?_ ?_|exact MRL.nil|refine jE ?_ ?_|exact jF|exact jG|refine yb1 ?_ ?_|refine MB.row ?_|refine jI ?_ ?_|exact ya8|refine jJ rfl (by first|rfl|assumption|(simp only [znl,znQ6];(first|done|fail)))|refine yb2 ?_|rfl)|(simp only [znl,znQ6];(first|done|fail))|(simp only [↓reduceIte,zlk,Nat.reduceEqDiff,reduceCtorEq])|(with_reducible first|refine jJ ?_ ?_|refine ya5 ?_|refine ju ?_|refine jv ?_|refine jw ?_|refine jx ?_ (by first|rfl|assumption|(simp only [znl,znQ6];(first|done|fail)))|refine jC ?_ (by first|rfl|assumption|(simp only [znl,znQ6];(first|done|fail))))))); all_goals (first | rfl | (rw [hi']; done)))
   ·obtain rfl : j = n := by omega
    have hfin : X.take (sweepI m j).length = m.pipes.filter (endB m) := by
     have := hX
     rw [hn] at this ⊢
     exact this.fin
    have hfl : (sweepI m j).length = (m.pipes.filter (endB m)).length := by unfold sweepI; rw [hn, List.take_length]
    rw [hfl] at hfin hsl ⊢
    generalize hF : m.pipes.filter (endB m) = F at hfin hsl
    repeat' (first|(with_reducible first|refine yrl (by constructor) ?_|refine jk (fun M hM=>?_)|(refine hM _ ?_;clear hM M)|refine yx3 ?_|refine yxa ?_ ?_|refine yxb ?_ ?_)|((with_reducible refine je ?_)<;>exact ynQ6)|(with_reducible refine yxc ?_)|((with_reducible refine yxi (fun hc=>?_) (fun hc=>?_))<;>(try simp (disch:=omega) only [zhb] at hc)<;>(try (exfalso;omega))<;>(try subst hc))|(with_reducible refine yxw ?_)|(simp (config := { maxSteps := 400000 }) only [↓jt,↓reduceIte,zvs,reduceCtorEq,seval,tab,hXl,Try.results101,Try.results100, Try.results49, List.toList_toArray])|(simp (disch:=omega) only [ziw]))
    all_goals (try (exfalso; omega))
    have hsw := fun Z D => swept_take (Z := Z) (D := D) hfin
    ((try simp only [sweepM,pipM,hF,List.map_nil]); simp only [zrds]; (repeat' (first | exact rd_nil | exact Rd.refl _ _ (by first|rfl|assumption|(simp only [znl,znQ6];(first|done|fail))) | (refine And.intro ?_ ?_) | (refine rd_pre (by (simp only [↓reduceIte,zlk,Nat.reduceEqDiff,reduceCtorEq]); exact rfl) ?_ ?_ ?_) | rfl | assumption | (simp only [znl,znQ6];(first|done|fail)) | (simp; done) | (simp; omega))))
    all_goals first
     | exact hsw _ _
 ·obtain rfl : k = n := by omega
  have hF : m.pipes.filter (endB m) = m.pipes := by
   have := sweepI_all m k (by omega) hall
   unfold sweepI at this
   rw [hn, List.take_length] at this; exact this
  repeat' (first|(with_reducible first|refine yrl (by constructor) ?_|refine jk (fun M hM=>?_)|(refine hM _ ?_;clear hM M)|refine yx3 ?_|refine yxa ?_ ?_|refine yxb ?_ ?_)|((with_reducible refine je ?_)<;>exact ynQ6)|(with_reducible refine yxc ?_)|((with_reducible refine yxi (fun hc=>?_) (fun hc=>?_))<;>(try simp (disch:=omega) only [zhb] at hc)<;>(try (exfalso;omega))<;>(try subst hc))|(with_reducible refine yxw ?_)|(simp (config := { maxSteps := 400000 }) only [↓jt,↓reduceIte,zvs,reduceCtorEq,seval,tab,Try.results134, Try.results101, Try.results100, Try.results49, List.toList_toArray])|(simp (disch:=omega) only [ziw]))
  all_goals first
   | (exfalso; omega)
   | (((try simp only [sweepM,pipM,hF,List.map_nil]); simp only [zrds]; (repeat' (first | exact rd_nil | exact Rd.refl _ _ (by first|rfl|assumption|(simp only [znl,znQ6];(first|done|fail))) | (refine And.intro ?_ ?_) | (refine rd_own (by (simp only [↓reduceIte,zlk,Nat.reduceEqDiff,reduceCtorEq]); exact rfl) ?_ ?_ ?_) | rfl | assumption | (simp only [znl,znQ6];(first|done|fail)) | (simp; done) | (simp; omega)))); done)
end Go.Proofs.Ytpdhdkpebbfnnaa.V
end
section
namespace Go.Proofs.Ytpdhdkpebbfnnaa.V
open Go
theorem ynT4 {l : List VV} (h : nls l = true := by first|rfl|assumption|(simp only [znl,znT4];(first|done|fail))) : nls l = true := h
set_option maxRecDepth 100000
def znT4 := And.intro @jO <| And.intro @jP <| And.intro @jQ <| And.intro @jR <| And.intro @jS <| And.intro @jT <| And.intro @jU <| True.intro
set_option maxHeartbeats 8000000
theorem stay0 {l : List Pr} {p : Pr} (h : ¬p.st = 3) : stayB l p = true := by unfold stayB; rw [decide_eq_false h]; rfl
theorem stay1 {l : List Pr} {p : Pr} (h : p.st = 3) (h0 : p.par = 0) : stayB l p = false := by unfold stayB; rw [decide_eq_true h, decide_eq_true h0]; rfl
theorem stay2 {l : List Pr} {p : Pr} (h : p.st = 3) (hn : findI l p.par = none) : stayB l p = false := by unfold stayB; rw [decide_eq_true h, hn]; simp
theorem stay3 {l : List Pr} {p : Pr} {x : Nat} (h : p.st = 3) (h0 : ¬p.par = 0) (hn : findI l p.par = some x) : stayB l p = true := by unfold stayB; rw [decide_eq_true h, decide_eq_false h0, hn]; rfl
theorem sdie_spec (m : Mach) (hm : MFit 20000 m) (pid : Int) (hp : i64R pid) (code : Int) (hc : u32R code) : Spec Try.prog 19 [encM m, .int .i64 pid, .int .u32 code] (encM (dieM m pid code)) := by
 have hl := hm.pr
 have hA := list_str m.fr hm.fr
 have hB := list_pi m.pipes hm.pipes
 have hE := own_drive m.dr hm.bl hm.pe
 have hG := list_wr m.dirty hm.dirty
 have hF := pfind_spec m hm pid hp
 obtain ⟨c1, c2⟩ := hc
 unfold dieM
 obtain ⟨n, hn⟩ : ∃ n, n = m.pr.length := ⟨_, rfl⟩
 cases hf : findI m.pr pid with
 | none =>
  rw [hf] at hF
  simp only [placeV] at hF
  refine spec_ok Try.func19 rfl rfl (by kernel_rfl) (k := 3) rfl (by decide) ?_
  repeat' (first|(with_reducible first|refine yrl (by constructor) ?_|refine jk (fun M hM=>?_)|(refine hM _ ?_;clear hM M)|refine yx3 ?_|refine yxa ?_ ?_|refine yxb ?_ ?_)|((with_reducible refine je ?_)<;>exact ynT4)|(with_reducible refine yxc ?_)|((with_reducible refine yxi (fun hc=>?_) (fun hc=>?_))<;>(try simp (disch:=omega) only [zhb] at hc)<;>(try (exfalso;omega))<;>(try subst hc))|(with_reducible refine yxw ?_)|(simp (config := { maxSteps := 400000 }) only [↓jt,↓reduceIte,zvs,reduceCtorEq,seval,-List.reduceReplicate,tab,Try.results90, Try.results41, Try.results19, List.toList_toArray])|(simp (disch:=omega) only [ziw]))
  refine ja (ok_body Try.func41 rfl rfl (by kernel_rfl) (k := 1) (by rfl) (by decide) ?_)
  repeat' (first|(with_reducible first|refine yrl (by constructor) ?_|refine jk (fun M hM=>?_)|(refine hM _ ?_;clear hM M)|refine yx3 ?_|refine yxa ?_ ?_|refine yxb ?_ ?_)|((with_reducible refine je ?_)<;>exact ynT4)|(with_reducible refine yxc ?_)|((with_reducible refine yxi (fun hc=>?_) (fun hc=>?_))<;>(try simp (disch:=omega) only [zhb] at hc)<;>(try (exfalso;omega))<;>(try subst hc))|(with_reducible refine yxw ?_)|(simp (config := { maxSteps := 400000 }) only [↓jt,↓reduceIte,zvs,reduceCtorEq,seval,-List.reduceReplicate,tab,Try.results90, Try.results41, Try.results19, List.toList_toArray])|(simp (disch:=omega) only [ziw]))
  refine ja (ok_body Try.func90 rfl rfl (by kernel_rfl) (k := 1) (by rfl) (by decide) ?_)
  repeat' (first|(with_reducible first|refine yrl (by constructor) ?_|refine jk (fun M hM=>?_)|(refine hM _ ?_;clear hM M)|refine yx3 ?_|refine yxa ?_ ?_|refine yxb ?_ ?_)|((with_reducible refine je ?_)<;>exact ynT4)|(with_reducible refine yxc ?_)|((with_reducible refine yxi (fun hc=>?_) (fun hc=>?_))<;>(try simp (disch:=omega) only [zhb] at hc)<;>(try (exfalso;omega))<;>(try subst hc))|(with_reducible refine yxw ?_)|(simp (config := { maxSteps := 400000 }) only [↓jt,↓reduceIte,zvs,reduceCtorEq,seval,-List.reduceReplicate,tab,Try.results90, Try.results41, Try.results19, List.toList_toArray])|(simp (disch:=omega) only [ziw]))
  all_goals (try (exfalso; omega))
  refine ja (call_plain (hF) (by repeat (first | exact rdl_nil | refine rdl_cons ?_ ?_ | exact Rd.refl _ _ (by first|rfl|assumption|(simp only [znl,znT4];(first|done|fail))) | (refine rd_own (by (simp only [↓reduceIte,zlk,Nat.reduceEqDiff,reduceCtorEq]); exact rfl) (by first | rfl | (simp; done) | (simp; omega)) rfl (by first|rfl|assumption|(simp only [znl,znT4];(first|done|fail)))) | exact rd_nil | refine (rd_a _ _ _).mpr ?_)) rfl rfl ?_)
  repeat' (first|(with_reducible first|refine yrl (by constructor) ?_|refine jk (fun M hM=>?_)|(refine hM _ ?_;clear hM M)|refine yx3 ?_|refine yxa ?_ ?_|refine yxb ?_ ?_)|((with_reducible refine je ?_)<;>exact ynT4)|(with_reducible refine yxc ?_)|((with_reducible refine yxi (fun hc=>?_) (fun hc=>?_))<;>(try simp (disch:=omega) only [zhb] at hc)<;>(try (exfalso;omega))<;>(try subst hc))|(with_reducible refine yxw ?_)|(simp (config := { maxSteps := 400000 }) only [↓jt,↓reduceIte,zvs,reduceCtorEq,seval,-List.reduceReplicate,tab,Try.results90, Try.results41, Try.results19, List.toList_toArray])|(simp (disch:=omega) only [ziw]))
  all_goals first
   | (exfalso; omega)
   | (((try simp only [List.map_nil]); simp only [zrds]; (repeat' (first | exact rd_nil | exact Rd.refl _ _ (by first|rfl|assumption|(simp only [znl,znT4];(first|done|fail))) | (refine And.intro ?_ ?_) | (refine rd_own (by (simp only [↓reduceIte,zlk,Nat.reduceEqDiff,reduceCtorEq]); exact rfl) ?_ ?_ ?_) | rfl | assumption | (simp only [znl,znT4];(first|done|fail)) | (simp; done) | (simp; omega)))); done)
 | some i =>
  rw [hf] at hF
  simp only [placeV] at hF
  obtain ⟨hi, hpid⟩ := findI_some hf
  have hb := hm.prR _ (getD_mem' hi)
  obtain ⟨hS1, hS2, hS3⟩ := pr3 hb
  dsimp only
  by_cases h3 : (m.pr.getD i default).st = 3
  ·rw [if_pos h3]
   refine spec_ok Try.func19 rfl rfl (by kernel_rfl) (k := 3) rfl (by decide) ?_
   repeat' (first|(with_reducible first|refine yrl (by constructor) ?_|refine jk (fun M hM=>?_)|(refine hM _ ?_;clear hM M)|refine yx3 ?_|refine yxa ?_ ?_|refine yxb ?_ ?_)|((with_reducible refine je ?_)<;>exact ynT4)|(with_reducible refine yxc ?_)|((with_reducible refine yxi (fun hc=>?_) (fun hc=>?_))<;>(try simp (disch:=omega) only [zhb] at hc)<;>(try (exfalso;omega))<;>(try subst hc))|(with_reducible refine yxw ?_)|(simp (config := { maxSteps := 400000 }) only [↓jt,↓reduceIte,zvs,reduceCtorEq,seval,-List.reduceReplicate,tab,Try.results90, Try.results41, Try.results19, List.toList_toArray])|(simp (disch:=omega) only [ziw]))
   refine ja (ok_body Try.func41 rfl rfl (by kernel_rfl) (k := 1) (by rfl) (by decide) ?_)
   repeat' (first|(with_reducible first|refine yrl (by constructor) ?_|refine jk (fun M hM=>?_)|(refine hM _ ?_;clear hM M)|refine yx3 ?_|refine yxa ?_ ?_|refine yxb ?_ ?_)|((with_reducible refine je ?_)<;>exact ynT4)|(with_reducible refine yxc ?_)|((with_reducible refine yxi (fun hc=>?_) (fun hc=>?_))<;>(try simp (disch:=omega) only [zhb] at hc)<;>(try (exfalso;omega))<;>(try subst hc))|(with_reducible refine yxw ?_)|(simp (config := { maxSteps := 400000 }) only [↓jt,↓reduceIte,zvs,reduceCtorEq,seval,-List.reduceReplicate,tab,Try.results90, Try.results41, Try.results19, List.toList_toArray])|(simp (disch:=omega) only [ziw]))
   refine ja (ok_body Try.func90 rfl rfl (by kernel_rfl) (k := 1) (by rfl) (by decide) ?_)
   repeat' (first|(with_reducible first|refine yrl (by constructor) ?_|refine jk (fun M hM=>?_)|(refine hM _ ?_;clear hM M)|refine yx3 ?_|refine yxa ?_ ?_|refine yxb ?_ ?_)|((with_reducible refine je ?_)<;>exact ynT4)|(with_reducible refine yxc ?_)|((with_reducible refine yxi (fun hc=>?_) (fun hc=>?_))<;>(try simp (disch:=omega) only [zhb] at hc)<;>(try (exfalso;omega))<;>(try subst hc))|(with_reducible refine yxw ?_)|(simp (config := { maxSteps := 400000 }) only [↓jt,↓reduceIte,zvs,reduceCtorEq,seval,-List.reduceReplicate,tab,Try.results90, Try.results41, Try.results19, List.toList_toArray])|(simp (disch:=omega) only [ziw]))
   all_goals (try (exfalso; omega))
   refine ja (call_plain (hF) (by repeat (first | exact rdl_nil | refine rdl_cons ?_ ?_ | exact Rd.refl _ _ (by first|rfl|assumption|(simp only [znl,znT4];(first|done|fail))) | (refine rd_own (by (simp only [↓reduceIte,zlk,Nat.reduceEqDiff,reduceCtorEq]); exact rfl) (by first | rfl | (simp; done) | (simp; omega)) rfl (by first|rfl|assumption|(simp only [znl,znT4];(first|done|fail)))) | exact rd_nil | refine (rd_a _ _ _).mpr ?_)) rfl rfl ?_)
   repeat' (first|(with_reducible first|refine yrl (by constructor) ?_|refine jk (fun M hM=>?_)|(refine hM _ ?_;clear hM M)|refine yx3 ?_|refine yxa ?_ ?_|refine yxb ?_ ?_)|((with_reducible refine je ?_)<;>exact ynT4)|(with_reducible refine yxc ?_)|((with_reducible refine yxi (fun hc=>?_) (fun hc=>?_))<;>(try simp (disch:=omega) only [zhb] at hc)<;>(try (exfalso;omega))<;>(try subst hc))|(with_reducible refine yxw ?_)|(simp (config := { maxSteps := 400000 }) only [↓jt,↓reduceIte,zvs,reduceCtorEq,seval,-List.reduceReplicate,tab,hS1,hS2,hS3,encPr,Try.results90, Try.results41, Try.results19, List.toList_toArray])|(simp (disch:=omega) only [ziw]))
   all_goals first
    | (exfalso; omega)
    | (((try simp only [List.map_nil]); simp only [zrds]; (repeat' (first | exact rd_nil | exact Rd.refl _ _ (by first|rfl|assumption|(simp only [znl,znT4];(first|done|fail))) | (refine And.intro ?_ ?_) | (refine rd_own (by (simp only [↓reduceIte,zlk,Nat.reduceEqDiff,reduceCtorEq]); exact rfl) ?_ ?_ ?_) | rfl | assumption | (simp only [znl,znT4];(first|done|fail)) | (simp; done) | (simp; omega)))); done)
  ·rw [if_neg h3]
   have hat0 : (m.pr.map encPr)[i]? = some (encPr (m.pr.getD i default)) := by rw [List.getElem?_map, List.getD_eq_getElem?_getD, List.getElem?_eq_getElem hi]; rfl
   have hat2 : ∀ A : VV, ((m.pr.map encPr).set i A)[i]? = some A := fun A => by rw [List.getElem?_set_self (by rw [List.length_map]; omega)]
   simp only [encPr] at hat0
   refine spec_ok Try.func19 rfl rfl (by kernel_rfl) (k := 3) rfl (by decide) ?_
   repeat' (first|(with_reducible first|refine yrl (by constructor) ?_|refine jk (fun M hM=>?_)|(refine hM _ ?_;clear hM M)|refine yx3 ?_|refine yxa ?_ ?_|refine yxb ?_ ?_)|((with_reducible refine je ?_)<;>exact ynT4)|(with_reducible refine yxc ?_)|((with_reducible refine yxi (fun hc=>?_) (fun hc=>?_))<;>(try simp (disch:=omega) only [zhb] at hc)<;>(try (exfalso;omega))<;>(try subst hc))|(with_reducible refine yxw ?_)|(simp (config := { maxSteps := 400000 }) only [↓jt,↓reduceIte,zvs,reduceCtorEq,seval,-List.reduceReplicate,tab,Try.results90, Try.results41, Try.results19, List.toList_toArray])|(simp (disch:=omega) only [ziw]))
   refine ja (ok_body Try.func41 rfl rfl (by kernel_rfl) (k := 1) (by rfl) (by decide) ?_)
   repeat' (first|(with_reducible first|refine yrl (by constructor) ?_|refine jk (fun M hM=>?_)|(refine hM _ ?_;clear hM M)|refine yx3 ?_|refine yxa ?_ ?_|refine yxb ?_ ?_)|((with_reducible refine je ?_)<;>exact ynT4)|(with_reducible refine yxc ?_)|((with_reducible refine yxi (fun hc=>?_) (fun hc=>?_))<;>(try simp (disch:=omega) only [zhb] at hc)<;>(try (exfalso;omega))<;>(try subst hc))|(with_reducible refine yxw ?_)|(simp (config := { maxSteps := 400000 }) only [↓jt,↓reduceIte,zvs,reduceCtorEq,seval,-List.reduceReplicate,tab,Try.results90, Try.results41, Try.results19, List.toList_toArray])|(simp (disch:=omega) only [ziw]))
   refine ja (ok_body Try.func90 rfl rfl (by kernel_rfl) (k := 1) (by rfl) (by decide) ?_)
   repeat' (first|(with_reducible first|refine yrl (by constructor) ?_|refine jk (fun M hM=>?_)|(refine hM _ ?_;clear hM M)|refine yx3 ?_|refine yxa ?_ ?_|refine yxb ?_ ?_)|((with_reducible refine je ?_)<;>exact ynT4)|(with_reducible refine yxc ?_)|((with_reducible refine yxi (fun hc=>?_) (fun hc=>?_))<;>(try simp (disch:=omega) only [zhb] at hc)<;>(try (exfalso;omega))<;>(try subst hc))|(with_reducible refine yxw ?_)|(simp (config := { maxSteps := 400000 }) only [↓jt,↓reduceIte,zvs,reduceCtorEq,seval,-List.reduceReplicate,tab,Try.results90, Try.results41, Try.results19, List.toList_toArray])|(simp (disch:=omega) only [ziw]))
   all_goals (try (exfalso; omega))
   refine ja (call_plain (hF) (by repeat (first | exact rdl_nil | refine rdl_cons ?_ ?_ | exact Rd.refl _ _ (by first|rfl|assumption|(simp only [znl,znT4];(first|done|fail))) | (refine rd_own (by (simp only [↓reduceIte,zlk,Nat.reduceEqDiff,reduceCtorEq]); exact rfl) (by first | rfl | (simp; done) | (simp; omega)) rfl (by first|rfl|assumption|(simp only [znl,znT4];(first|done|fail)))) | exact rd_nil | refine (rd_a _ _ _).mpr ?_)) rfl rfl ?_)
   repeat' (first|(with_reducible first|refine yrl (by constructor) ?_|refine jk (fun M hM=>?_)|(refine hM _ ?_;clear hM M)|refine yx3 ?_|refine yxa ?_ ?_|refine yxb ?_ ?_)|((with_reducible refine je ?_)<;>exact ynT4)|(with_reducible refine yxc ?_)|((with_reducible refine yxi (fun hc=>?_) (fun hc=>?_))<;>(try simp (disch:=omega) only [zhb] at hc)<;>(try (exfalso;omega))<;>(try subst hc))|(with_reducible refine yxw ?_)|(simp (config := { maxSteps := 400000 }) only [↓jt,↓reduceIte,zvs,reduceCtorEq,seval,-List.reduceReplicate,tab,hS1,hS2,hS3,hat0,hat2,List.set_set,zSp,zFd,encPr,Try.results90, Try.results41, Try.results19, List.toList_toArray])|(simp (disch:=omega) only [ziw]))
   all_goals (try (exfalso; omega))
   have hD := deadP_fit hb ⟨c1, c2⟩
   obtain ⟨l1, hl1⟩ : ∃ l1, l1 = m.pr.set i (deadP (m.pr.getD i default) code) := ⟨_, rfl⟩
   have hset : (m.pr.map encPr).set i (encPr (deadP (m.pr.getD i default) code)) = l1.map encPr := by rw [hl1]; exact (List.map_set ..).symm
   simp only [encPr,deadP] at hset
   obtain ⟨hdl, hdp⟩ := dieL_fit hm hi pid ⟨c1, c2⟩
   have hl2 : dieL m i pid code = l1.map (freeP pid) := by rw [hl1]; rfl
   rw [hl2] at hdl hdp ⊢
   have h1n : l1.length = n := by rw [hl1, List.length_set, hn]
   have h1p : ∀ p ∈ l1, PrR p := fun p hp => by
    rw [hl1] at hp
    rcases List.mem_or_eq_of_mem_set hp with hq | rfl
    ·exact hm.prR p hq
    ·exact hD
   refine ok_loop (fun k : Nat => ⟨slots [(1, .int .i64 pid), (6, .ptr 1 []), (7, .ptr 2 []), (64, .sl (some (3, [], 0)) n), (65, .int .i64 n), (66, .int .i64 k)], rows [(1, .row machSh nilMD), (2, .row machSh (encMD m (.sl (some (3, [], 0)) n))), (3, .row (.arr n prSh) (.agg ((mapK (freeP pid) l1 k).map encPr)))], 4⟩) (fun k => k ≤ n) (fun k => n - k) 0 ?_ (Nat.zero_le _) (fun k hk => ?_)
   ·(refine yrn [(1, 1), (2, 5), (3, 4)] false ?_ ?_<;>(repeat' (first|(with_reducible first|exact ya1|exact ya2|exact ya3|refine jx rfl (by first|rfl|assumption|(simp only [znl,znT4];(first|done|fail)))|exact ya5|exact ya7|exact jy|exact jz|refine jA ?_|refine ya9 ?_ ?_ ?_|refine jC rfl (by first|rfl|assumption|(simp only [znl,znT4];(first|done|fail)))|refine MR.agg (MRL.cons ?_ ?_)|refine MR.fn ?_|refine MRL.cons ?_ ?_|exact MRL.nil|refine jE ?_ ?_|exact jF|exact jG|refine yb1 ?_ ?_|refine MB.row ?_|refine jI ?_ ?_|exact ya8|refine jJ rfl (by first|rfl|assumption|(simp only [znl,znT4];(first|done|fail)))|refine yb2 ?_|rfl)|(simp only [znl,znT4];(first|done|fail))|(simp only [↓reduceIte,zlk,Nat.reduceEqDiff,reduceCtorEq])|(with_reducible first|refine jJ ?_ ?_|refine ya5 ?_|refine ju ?_|refine jv ?_|refine jw ?_|refine jx ?_ (by first|rfl|assumption|(simp only [znl,znT4];(first|done|fail)))|refine jC ?_ (by first|rfl|assumption|(simp only [znl,znT4];(first|done|fail)))))))
    all_goals (first | rfl | omega | exact hset | (simp [hn]; done))
   clear hset hS1 hS2 hS3 hb hF hat0 hat2 hD
   have hwl := mapK_len (freeP pid) l1 k
   rw [h1n] at hwl
   by_cases hlt : k < n
   ·have hk1 : k < l1.length := by omega
    have hb := h1p _ (getD_mem' hk1)
    obtain ⟨hS1, hS2, hS3⟩ := pr3 hb
    have hat := mapK_at (f := freeP pid) hk1
    by_cases hq : (l1.getD k default).par = pid
    ·have e1 := mapK_next (f := freeP pid) hk1
     unfold freeP at e1
     rw [if_pos hq] at e1
     have hw : ((mapK (freeP pid) l1 k).map encPr).set k (encPr { (l1.getD k default) with par := 0 }) = (mapK (freeP pid) l1 (k + 1)).map encPr := by rw [← List.map_set]; unfold freeP; rw [e1]
     simp only [encPr] at hw
     generalize mapK (freeP pid) l1 k = l at hwl hat hw ⊢
     repeat' (first|(with_reducible first|refine yrl (by constructor) ?_|refine jk (fun M hM=>?_)|(refine hM _ ?_;clear hM M)|refine yx3 ?_|refine yxa ?_ ?_|refine yxb ?_ ?_)|((with_reducible refine je ?_)<;>exact ynT4)|(with_reducible refine yxc ?_)|((with_reducible refine yxi (fun hc=>?_) (fun hc=>?_))<;>(try simp (disch:=omega) only [zhb] at hc)<;>(try (exfalso;omega))<;>(try subst hc))|(with_reducible refine yxw ?_)|(simp (config := { maxSteps := 400000 }) only [↓jt,↓reduceIte,zvs,reduceCtorEq,seval,-List.reduceReplicate,tab,hS1,hS2,hS3,hwl,hat,hq,encPr,Try.results90, Try.results41, Try.results19, List.toList_toArray])|(simp (disch:=omega) only [ziw]))
     all_goals first
      | (exfalso; omega)
      | (refine xl1 (k + 1) ?_ (by show k + 1 ≤ n; omega) (by show n - (k + 1) < n - k; omega); (refine yrn [(1, 1), (2, 2), (3, 3)] false ?_ ?_<;>(repeat' (first|(with_reducible first|exact ya1|exact ya2|exact ya3|refine jx rfl (by first|rfl|assumption|(simp only [znl,znT4];(first|done|fail)))|exact ya5|exact ya7|exact jy|exact jz|refine jA ?_|refine ya9 ?_ ?_ ?_|refine jC rfl (by first|rfl|assumption|(simp only [znl,znT4];(first|done|fail)))|refine MR.agg (MRL.cons ?_ ?_)|refine MR.fn ?_|refine MRL.cons ?_ ?_|exact MRL.nil|refine jE ?_ ?_|exact jF|exact jG|refine yb1 ?_ ?_|refine MB.row ?_|refine jI ?_ ?_|exact ya8|refine jJ rfl (by first|rfl|assumption|(simp only [znl,znT4];(first|done|fail)))|refine yb2 ?_|rfl)|(simp only [znl,znT4];(first|done|fail))|(simp only [↓reduceIte,zlk,Nat.reduceEqDiff,reduceCtorEq])|(with_reducible first|refine jJ ?_ ?_|refine ya5 ?_|refine ju ?_|refine jv ?_|refine jw ?_|refine jx ?_ (by first|rfl|assumption|(simp only [znl,znT4];(first|done|fail)))|refine jC ?_ (by first|rfl|assumption|(simp only [znl,znT4];(first|done|fail))))))); all_goals (first | rfl | exact hw); done)
    ·have e1 := mapK_same (f := freeP pid) hk1 (by unfold freeP; rw [if_neg hq])
     generalize mapK (freeP pid) l1 k = l at hwl hat e1 ⊢
     repeat' (first|(with_reducible first|refine yrl (by constructor) ?_|refine jk (fun M hM=>?_)|(refine hM _ ?_;clear hM M)|refine yx3 ?_|refine yxa ?_ ?_|refine yxb ?_ ?_)|((with_reducible refine je ?_)<;>exact ynT4)|(with_reducible refine yxc ?_)|((with_reducible refine yxi (fun hc=>?_) (fun hc=>?_))<;>(try simp (disch:=omega) only [zhb] at hc)<;>(try (exfalso;omega))<;>(try subst hc))|(with_reducible refine yxw ?_)|(simp (config := { maxSteps := 400000 }) only [↓jt,↓reduceIte,zvs,reduceCtorEq,seval,-List.reduceReplicate,tab,hS1,hS2,hS3,hwl,hat,encPr,Try.results90, Try.results41, Try.results19, List.toList_toArray])|(simp (disch:=omega) only [ziw]))
     all_goals first
      | (exfalso; omega)
      | (refine xl1 (k + 1) ?_ (by show k + 1 ≤ n; omega) (by show n - (k + 1) < n - k; omega); (refine yrn [(1, 1), (2, 2), (3, 3)] false ?_ ?_<;>(repeat' (first|(with_reducible first|exact ya1|exact ya2|exact ya3|refine jx rfl (by first|rfl|assumption|(simp only [znl,znT4];(first|done|fail)))|exact ya5|exact ya7|exact jy|exact jz|refine jA ?_|refine ya9 ?_ ?_ ?_|refine jC rfl (by first|rfl|assumption|(simp only [znl,znT4];(first|done|fail)))|refine MR.agg (MRL.cons ?_ ?_)|refine MR.fn ?_|refine MRL.cons ?_ ?_|exact MRL.nil|refine jE ?_ ?_|exact jF|exact jG|refine yb1 ?_ ?_|refine MB.row ?_|refine jI ?_ ?_|exact ya8|refine jJ rfl (by first|rfl|assumption|(simp only [znl,znT4];(first|done|fail)))|refine yb2 ?_|rfl)|(simp only [znl,znT4];(first|done|fail))|(simp only [↓reduceIte,zlk,Nat.reduceEqDiff,reduceCtorEq])|(with_reducible first|refine jJ ?_ ?_|refine ya5 ?_|refine ju ?_|refine jv ?_|refine jw ?_|refine jx ?_ (by first|rfl|assumption|(simp only [znl,znT4];(first|done|fail)))|refine jC ?_ (by first|rfl|assumption|(simp only [znl,znT4];(first|done|fail))))))); all_goals (first | rfl | (rw [e1]; done)); done)
   ·obtain rfl : k = n := by omega
    have hall := mapK_all (freeP pid) l1
    rw [h1n] at hall
    rw [hall]
    clear hwl hall
    generalize l1.map (freeP pid) = l2 at hdl hdp ⊢
    rw [← hn] at hdl
    repeat' (first|(with_reducible first|refine yrl (by constructor) ?_|refine jk (fun M hM=>?_)|(refine hM _ ?_;clear hM M)|refine yx3 ?_|refine yxa ?_ ?_|refine yxb ?_ ?_)|((with_reducible refine je ?_)<;>exact ynT4)|(with_reducible refine yxc ?_)|((with_reducible refine yxi (fun hc=>?_) (fun hc=>?_))<;>(try simp (disch:=omega) only [zhb] at hc)<;>(try (exfalso;omega))<;>(try subst hc))|(with_reducible refine yxw ?_)|(simp (config := { maxSteps := 400000 }) only [↓jt,↓reduceIte,zvs,reduceCtorEq,seval,-List.reduceReplicate,tab,hdl,Try.results90, Try.results41, Try.results19, List.toList_toArray])|(simp (disch:=omega) only [ziw]))
    all_goals (try (exfalso; omega))
    obtain ⟨out, hout⟩ : ∃ out : Nat → List Pr, ∀ j, out j = (l2.take j).filter (stayB l2) := ⟨_, fun _ => rfl⟩
    have hol : ∀ j, (out j).length ≤ j := fun j => by
     rw [hout]; refine Nat.le_trans (List.length_filter_le _ _) ?_
     rw [List.length_take]; omega
    refine ok_loop (fun j : Nat => ⟨slots [(6, .ptr 1 []), (7, .ptr 2 []), (12, .sl (some (3, [], 0)) k), (86, .sl (some (3, [], 0)) k), (87, .int .i64 k), (88, .int .i64 j)], rows [(1, .row machSh nilMD), (2, .row machSh (encMD m (.sl (some (4, [], 0)) (out j).length))), (3, .row (.arr k prSh) (.agg (l2.map encPr))), (4, .row (.arr (out j).length prSh) (.agg ((out j).map encPr)))], 5⟩) (fun j => j ≤ k) (fun j => k - j) 0 ?_ (Nat.zero_le _) (fun j hj => ?_)
    ·(refine yrn [(1, 1), (2, 2), (3, 3)] false ?_ ?_<;>(repeat' (first|(with_reducible first|exact ya1|exact ya2|exact ya3|refine jx rfl (by first|rfl|assumption|(simp only [znl,znT4];(first|done|fail)))|exact ya5|exact ya7|exact jy|exact jz|refine jA ?_|refine ya9 ?_ ?_ ?_|refine jC rfl (by first|rfl|assumption|(simp only [znl,znT4];(first|done|fail)))|refine MR.agg (MRL.cons ?_ ?_)|refine MR.fn ?_|refine MRL.cons ?_ ?_|exact MRL.nil|refine jE ?_ ?_|exact jF|exact jG|refine yb1 ?_ ?_|refine MB.row ?_|refine jI ?_ ?_|exact ya8|refine jJ rfl (by first|rfl|assumption|(simp only [znl,znT4];(first|done|fail)))|refine yb2 ?_|rfl)|(simp only [znl,znT4];(first|done|fail))|(simp only [↓reduceIte,zlk,Nat.reduceEqDiff,reduceCtorEq])|(with_reducible first|refine jJ ?_ ?_|refine ya5 ?_|refine ju ?_|refine jv ?_|refine jw ?_|refine jx ?_ (by first|rfl|assumption|(simp only [znl,znT4];(first|done|fail)))|refine jC ?_ (by first|rfl|assumption|(simp only [znl,znT4];(first|done|fail)))))))
     all_goals (first | rfl | (rw [hout]; rfl) | (simp [hout]; done))
    have hoj := hol j
    by_cases hjl : j < k
    ·have hj2 : j < l2.length := by omega
     have hb := hdp _ (getD_mem' hj2)
     obtain ⟨hS1, hS2, hS3⟩ := pr3 hb
     have hsn := filt_snoc (q := stayB l2) hj2
     rw [← hout, ← hout] at hsn
     have hwa : (out j).map encPr ++ [encPr (l2.getD j default)] = (out j ++ [l2.getD j default]).map encPr := by rw [List.map_append]; rfl
     simp only [encPr] at hwa
     by_cases hd : (l2.getD j default).st = 3
     ·by_cases hpar : (l2.getD j default).par = 0
      ·rw [stay1 hd hpar, if_neg (by simp), List.append_nil] at hsn
       repeat' (first|(with_reducible first|refine yrl (by constructor) ?_|refine jk (fun M hM=>?_)|(refine hM _ ?_;clear hM M)|refine yx3 ?_|refine yxa ?_ ?_|refine yxb ?_ ?_)|((with_reducible refine je ?_)<;>exact ynT4)|(with_reducible refine yxc ?_)|((with_reducible refine yxi (fun hc=>?_) (fun hc=>?_))<;>(try simp (disch:=omega) only [zhb] at hc)<;>(try (exfalso;omega))<;>(try subst hc))|(with_reducible refine yxw ?_)|(simp (config := { maxSteps := 400000 }) only [↓jt,↓reduceIte,zvs,reduceCtorEq,seval,-List.reduceReplicate,tab,hS1,hS2,hS3,hdl,hd,hpar,encPr,Try.results90, Try.results41, Try.results19, List.toList_toArray])|(simp (disch:=omega) only [ziw]))
       all_goals first
        | (exfalso; omega)
        | (refine xl1 (j + 1) ?_ (by show j + 1 ≤ k; omega) (by show k - (j + 1) < k - j; omega); (refine yrn [(1, 1), (2, 2), (3, 3), (4, 4)] false ?_ ?_<;>(repeat' (first|(with_reducible first|exact ya1|exact ya2|exact ya3|refine jx rfl (by first|rfl|assumption|(simp only [znl,znT4];(first|done|fail)))|exact ya5|exact ya7|exact jy|exact jz|refine jA ?_|refine ya9 ?_ ?_ ?_|refine jC rfl (by first|rfl|assumption|(simp only [znl,znT4];(first|done|fail)))|refine MR.agg (MRL.cons ?_ ?_)|refine MR.fn ?_|refine MRL.cons ?_ ?_|exact MRL.nil|refine jE ?_ ?_|exact jF|exact jG|refine yb1 ?_ ?_|refine MB.row ?_|refine jI ?_ ?_|exact ya8|refine jJ rfl (by first|rfl|assumption|(simp only [znl,znT4];(first|done|fail)))|refine yb2 ?_|rfl)|(simp only [znl,znT4];(first|done|fail))|(simp only [↓reduceIte,zlk,Nat.reduceEqDiff,reduceCtorEq])|(with_reducible first|refine jJ ?_ ?_|refine ya5 ?_|refine ju ?_|refine jv ?_|refine jw ?_|refine jx ?_ (by first|rfl|assumption|(simp only [znl,znT4];(first|done|fail)))|refine jC ?_ (by first|rfl|assumption|(simp only [znl,znT4];(first|done|fail))))))); all_goals (first | rfl | (rw [hsn, List.length_append]; rfl) | (rw [hsn]; done) | (simp [hsn]; done) | fail); done)
      ·repeat' (first|(with_reducible first|refine yrl (by constructor) ?_|refine jk (fun M hM=>?_)|(refine hM _ ?_;clear hM M)|refine yx3 ?_|refine yxa ?_ ?_|refine yxb ?_ ?_)|((with_reducible refine je ?_)<;>exact ynT4)|(with_reducible refine yxc ?_)|((with_reducible refine yxi (fun hc=>?_) (fun hc=>?_))<;>(try simp (disch:=omega) only [zhb] at hc)<;>(try (exfalso;omega))<;>(try subst hc))|(with_reducible refine yxw ?_)|(simp (config := { maxSteps := 400000 }) only [↓jt,↓reduceIte,zvs,reduceCtorEq,seval,-List.reduceReplicate,tab,hS1,hS2,hS3,hdl,hd,encPr,Try.results90, Try.results41, Try.results19, List.toList_toArray])|(simp (disch:=omega) only [ziw]))
       all_goals (try (exfalso; omega))
       refine ja (ok_body Try.func47 rfl rfl (by kernel_rfl) (k := 2) (by rfl) (by decide) ?_)
       repeat' (first|(with_reducible first|refine yrl (by constructor) ?_|refine jk (fun M hM=>?_)|(refine hM _ ?_;clear hM M)|refine yx3 ?_|refine yxa ?_ ?_|refine yxb ?_ ?_)|((with_reducible refine je ?_)<;>exact ynT4)|(with_reducible refine yxc ?_)|((with_reducible refine yxi (fun hc=>?_) (fun hc=>?_))<;>(try simp (disch:=omega) only [zhb] at hc)<;>(try (exfalso;omega))<;>(try subst hc))|(with_reducible refine yxw ?_)|(simp (config := { maxSteps := 400000 }) only [↓jt,↓reduceIte,zvs,reduceCtorEq,seval,-List.reduceReplicate,tab,Try.results48,Try.results53, Try.results47, Try.results19, List.toList_toArray])|(simp (disch:=omega) only [ziw]))
       refine ja (ok_body Try.func53 rfl rfl (by kernel_rfl) (k := 2) (by rfl) (by decide) ?_)
       repeat' (first|(with_reducible first|refine yrl (by constructor) ?_|refine jk (fun M hM=>?_)|(refine hM _ ?_;clear hM M)|refine yx3 ?_|refine yxa ?_ ?_|refine yxb ?_ ?_)|((with_reducible refine je ?_)<;>exact ynT4)|(with_reducible refine yxc ?_)|((with_reducible refine yxi (fun hc=>?_) (fun hc=>?_))<;>(try simp (disch:=omega) only [zhb] at hc)<;>(try (exfalso;omega))<;>(try subst hc))|(with_reducible refine yxw ?_)|(simp (config := { maxSteps := 400000 }) only [↓jt,↓reduceIte,zvs,reduceCtorEq,seval,-List.reduceReplicate,tab,Try.results48,Try.results53, Try.results47, Try.results19, List.toList_toArray])|(simp (disch:=omega) only [ziw]))
       refine ok_loop (fun q : Nat => ⟨slots [(0, .sl (some (3, [], 0)) k), (1, .fn 48 [.ptr 5 []]), (6, .sl (some (3, [], 0)) k), (7, .int .i64 k), (8, .int .i64 q)], rows [(1, .row machSh nilMD), (2, .row machSh (encMD m (.sl (some (4, [], 0)) (out j).length))), (3, .row (.arr k prSh) (.agg (l2.map encPr))), (4, .row (.arr (out j).length prSh) (.agg ((out j).map encPr))), (5, .row prSh (encPrT (l2.getD j default)))], 6⟩) (fun q => q ≤ k ∧ ∀ i, i < q → (l2.getD i default).pid ≠ (l2.getD j default).par) (fun q => k - q) 0 ?_ ⟨Nat.zero_le _, fun i hi => by omega⟩ (fun q hq => ?_)
       ·(refine yrn [] false ?_ ?_<;>(repeat' (first|(with_reducible first|exact ya1|exact ya2|exact ya3|refine jx rfl (by first|rfl|assumption|(simp only [znl,znT4];(first|done|fail)))|exact ya5|exact ya7|exact jy|exact jz|refine jA ?_|refine ya9 ?_ ?_ ?_|refine jC rfl (by first|rfl|assumption|(simp only [znl,znT4];(first|done|fail)))|refine MR.agg (MRL.cons ?_ ?_)|refine MR.fn ?_|refine MRL.cons ?_ ?_|exact MRL.nil|refine jE ?_ ?_|exact jF|exact jG|refine yb1 ?_ ?_|refine MB.row ?_|refine jI ?_ ?_|exact ya8|refine jJ rfl (by first|rfl|assumption|(simp only [znl,znT4];(first|done|fail)))|refine yb2 ?_|rfl)|(simp only [znl,znT4];(first|done|fail))|(simp only [↓reduceIte,zlk,Nat.reduceEqDiff,reduceCtorEq])|(with_reducible first|refine jJ ?_ ?_|refine ya5 ?_|refine ju ?_|refine jv ?_|refine jw ?_|refine jx ?_ (by first|rfl|assumption|(simp only [znl,znT4];(first|done|fail)))|refine jC ?_ (by first|rfl|assumption|(simp only [znl,znT4];(first|done|fail)))))))
        all_goals (first | rfl | omega)
       obtain ⟨hq, hno⟩ := hq
       by_cases hql : q < k
       ·have hq2 : q < l2.length := by omega
        have hbq := hdp _ (getD_mem' hq2)
        obtain ⟨hQ1, hQ2, hQ3⟩ := pr3 hbq
        by_cases hit : (l2.getD q default).pid = (l2.getD j default).par
        ·rw [stay3 hd hpar (find_hit hq2 hno hit), if_pos rfl] at hsn
         repeat' (first|(with_reducible first|refine yrl (by constructor) ?_|refine jk (fun M hM=>?_)|(refine hM _ ?_;clear hM M)|refine yx3 ?_|refine yxa ?_ ?_|refine yxb ?_ ?_)|((with_reducible refine je ?_)<;>exact ynT4)|(with_reducible refine yxc ?_)|((with_reducible refine yxi (fun hc=>?_) (fun hc=>?_))<;>(try simp (disch:=omega) only [zhb] at hc)<;>(try (exfalso;omega))<;>(try subst hc))|(with_reducible refine yxw ?_)|(simp (config := { maxSteps := 400000 }) only [↓jt,↓reduceIte,zvs,reduceCtorEq,seval,-List.reduceReplicate,tab,hS1,hS2,hS3,hQ1,hQ2,hQ3,hdl,encPr,Try.results48,Try.results53, Try.results47, Try.results19, List.toList_toArray])|(simp (disch:=omega) only [ziw]))
         refine ja (ok_body Try.func48 rfl rfl (by kernel_rfl) (k := 2) (by rfl) (by decide) ?_)
         repeat' (first|(with_reducible first|refine yrl (by constructor) ?_|refine jk (fun M hM=>?_)|(refine hM _ ?_;clear hM M)|refine yx3 ?_|refine yxa ?_ ?_|refine yxb ?_ ?_)|((with_reducible refine je ?_)<;>exact ynT4)|(with_reducible refine yxc ?_)|((with_reducible refine yxi (fun hc=>?_) (fun hc=>?_))<;>(try simp (disch:=omega) only [zhb] at hc)<;>(try (exfalso;omega))<;>(try subst hc))|(with_reducible refine yxw ?_)|(simp (config := { maxSteps := 400000 }) only [↓jt,↓reduceIte,zvs,reduceCtorEq,seval,-List.reduceReplicate,tab,hS1,hS2,hS3,hQ1,hQ2,hQ3,hit,hdl,hwa,encPr,Try.results48,Try.results53, Try.results47, Try.results19, List.toList_toArray])|(simp (disch:=omega) only [ziw]))
         all_goals first
          | (exfalso; omega)
          | (refine xl1 (j + 1) ?_ (by show j + 1 ≤ k; omega) (by show k - (j + 1) < k - j; omega); (refine yrn [(1, 1), (2, 2), (3, 3), (4, 7)] false ?_ ?_<;>(repeat' (first|(with_reducible first|exact ya1|exact ya2|exact ya3|refine jx rfl (by first|rfl|assumption|(simp only [znl,znT4];(first|done|fail)))|exact ya5|exact ya7|exact jy|exact jz|refine jA ?_|refine ya9 ?_ ?_ ?_|refine jC rfl (by first|rfl|assumption|(simp only [znl,znT4];(first|done|fail)))|refine MR.agg (MRL.cons ?_ ?_)|refine MR.fn ?_|refine MRL.cons ?_ ?_|exact MRL.nil|refine jE ?_ ?_|exact jF|exact jG|refine yb1 ?_ ?_|refine MB.row ?_|refine jI ?_ ?_|exact ya8|refine jJ rfl (by first|rfl|assumption|(simp only [znl,znT4];(first|done|fail)))|refine yb2 ?_|rfl)|(simp only [znl,znT4];(first|done|fail))|(simp only [↓reduceIte,zlk,Nat.reduceEqDiff,reduceCtorEq])|(with_reducible first|refine jJ ?_ ?_|refine ya5 ?_|refine ju ?_|refine jv ?_|refine jw ?_|refine jx ?_ (by first|rfl|assumption|(simp only [znl,znT4];(first|done|fail)))|refine jC ?_ (by first|rfl|assumption|(simp only [znl,znT4];(first|done|fail))))))); all_goals (first | rfl | (rw [hsn, List.length_append]; rfl) | (rw [hsn]; done) | (simp [hsn]; done) | fail); done)
          | (refine xl1 (j + 1) ?_ (by show j + 1 ≤ k; omega) (by show k - (j + 1) < k - j; omega); (refine yrn [(1, 1), (2, 2), (3, 3), (4, 8)] false ?_ ?_<;>(repeat' (first|(with_reducible first|exact ya1|exact ya2|exact ya3|refine jx rfl (by first|rfl|assumption|(simp only [znl,znT4];(first|done|fail)))|exact ya5|exact ya7|exact jy|exact jz|refine jA ?_|refine ya9 ?_ ?_ ?_|refine jC rfl (by first|rfl|assumption|(simp only [znl,znT4];(first|done|fail)))|refine MR.agg (MRL.cons ?_ ?_)|refine MR.fn ?_|refine MRL.cons ?_ ?_|exact MRL.nil|refine jE ?_ ?_|exact jF|exact jG|refine yb1 ?_ ?_|refine MB.row ?_|refine jI ?_ ?_|exact ya8|refine jJ rfl (by first|rfl|assumption|(simp only [znl,znT4];(first|done|fail)))|refine yb2 ?_|rfl)|(simp only [znl,znT4];(first|done|fail))|(simp only [↓reduceIte,zlk,Nat.reduceEqDiff,reduceCtorEq])|(with_reducible first|refine jJ ?_ ?_|refine ya5 ?_|refine ju ?_|refine jv ?_|refine jw ?_|refine jx ?_ (by first|rfl|assumption|(simp only [znl,znT4];(first|done|fail)))|refine jC ?_ (by first|rfl|assumption|(simp only [znl,znT4];(first|done|fail))))))); all_goals (first | rfl | (rw [hsn, List.length_append]; rfl) | (rw [hsn]; done) | (simp [hsn]; done) | fail); done)
          | (refine xl1 (j + 1) ?_ (by show j + 1 ≤ k; omega) (by show k - (j + 1) < k - j; omega); (refine yrn [(1, 1), (2, 2), (3, 3), (4, 9)] false ?_ ?_<;>(repeat' (first|(with_reducible first|exact ya1|exact ya2|exact ya3|refine jx rfl (by first|rfl|assumption|(simp only [znl,znT4];(first|done|fail)))|exact ya5|exact ya7|exact jy|exact jz|refine jA ?_|refine ya9 ?_ ?_ ?_|refine jC rfl (by first|rfl|assumption|(simp only [znl,znT4];(first|done|fail)))|refine MR.agg (MRL.cons ?_ ?_)|refine MR.fn ?_|refine MRL.cons ?_ ?_|exact MRL.nil|refine jE ?_ ?_|exact jF|exact jG|refine yb1 ?_ ?_|refine MB.row ?_|refine jI ?_ ?_|exact ya8|refine jJ rfl (by first|rfl|assumption|(simp only [znl,znT4];(first|done|fail)))|refine yb2 ?_|rfl)|(simp only [znl,znT4];(first|done|fail))|(simp only [↓reduceIte,zlk,Nat.reduceEqDiff,reduceCtorEq])|(with_reducible first|refine jJ ?_ ?_|refine ya5 ?_|refine ju ?_|refine jv ?_|refine jw ?_|refine jx ?_ (by first|rfl|assumption|(simp only [znl,znT4];(first|done|fail)))|refine jC ?_ (by first|rfl|assumption|(simp only [znl,znT4];(first|done|fail))))))); all_goals (first | rfl | (rw [hsn, List.length_append]; rfl) | (rw [hsn]; done) | (simp [hsn]; done) | fail); done)
          | (refine xl1 (j + 1) ?_ (by show j + 1 ≤ k; omega) (by show k - (j + 1) < k - j; omega); (refine yrn [(1, 1), (2, 2), (3, 3), (4, 10)] false ?_ ?_<;>(repeat' (first|(with_reducible first|exact ya1|exact ya2|exact ya3|refine jx rfl (by first|rfl|assumption|(simp only [znl,znT4];(first|done|fail)))|exact ya5|exact ya7|exact jy|exact jz|refine jA ?_|refine ya9 ?_ ?_ ?_|refine jC rfl (by first|rfl|assumption|(simp only [znl,znT4];(first|done|fail)))|refine MR.agg (MRL.cons ?_ ?_)|refine MR.fn ?_|refine MRL.cons ?_ ?_|exact MRL.nil|refine jE ?_ ?_|exact jF|exact jG|refine yb1 ?_ ?_|refine MB.row ?_|refine jI ?_ ?_|exact ya8|refine jJ rfl (by first|rfl|assumption|(simp only [znl,znT4];(first|done|fail)))|refine yb2 ?_|rfl)|(simp only [znl,znT4];(first|done|fail))|(simp only [↓reduceIte,zlk,Nat.reduceEqDiff,reduceCtorEq])|(with_reducible first|refine jJ ?_ ?_|refine ya5 ?_|refine ju ?_|refine jv ?_|refine jw ?_|refine jx ?_ (by first|rfl|assumption|(simp only [znl,znT4];(first|done|fail)))|refine jC ?_ (by first|rfl|assumption|(simp only [znl,znT4];(first|done|fail))))))); all_goals (first | rfl | (rw [hsn, List.length_append]; rfl) | (rw [hsn]; done) | (simp [hsn]; done) | fail); done)
        ·have hst : ∀ i, i < q + 1 → (l2.getD i default).pid ≠ (l2.getD j default).par := fun i hi => by
          by_cases e : i = q
          ·rw [e]; exact hit
          ·exact hno i (by omega)
         repeat' (first|(with_reducible first|refine yrl (by constructor) ?_|refine jk (fun M hM=>?_)|(refine hM _ ?_;clear hM M)|refine yx3 ?_|refine yxa ?_ ?_|refine yxb ?_ ?_)|((with_reducible refine je ?_)<;>exact ynT4)|(with_reducible refine yxc ?_)|((with_reducible refine yxi (fun hc=>?_) (fun hc=>?_))<;>(try simp (disch:=omega) only [zhb] at hc)<;>(try (exfalso;omega))<;>(try subst hc))|(with_reducible refine yxw ?_)|(simp (config := { maxSteps := 400000 }) only [↓jt,↓reduceIte,zvs,reduceCtorEq,seval,-List.reduceReplicate,tab,hS1,hS2,hS3,hQ1,hQ2,hQ3,hdl,encPr,Try.results48,Try.results53, Try.results47, Try.results19, List.toList_toArray])|(simp (disch:=omega) only [ziw]))
         refine ja (ok_body Try.func48 rfl rfl (by kernel_rfl) (k := 2) (by rfl) (by decide) ?_)
         repeat' (first|(with_reducible first|refine yrl (by constructor) ?_|refine jk (fun M hM=>?_)|(refine hM _ ?_;clear hM M)|refine yx3 ?_|refine yxa ?_ ?_|refine yxb ?_ ?_)|((with_reducible refine je ?_)<;>exact ynT4)|(with_reducible refine yxc ?_)|((with_reducible refine yxi (fun hc=>?_) (fun hc=>?_))<;>(try simp (disch:=omega) only [zhb] at hc)<;>(try (exfalso;omega))<;>(try subst hc))|(with_reducible refine yxw ?_)|(simp (config := { maxSteps := 400000 }) only [↓jt,↓reduceIte,zvs,reduceCtorEq,seval,-List.reduceReplicate,tab,hS1,hS2,hS3,hQ1,hQ2,hQ3,hdl,encPr,Try.results48,Try.results53, Try.results47, Try.results19, List.toList_toArray])|(simp (disch:=omega) only [ziw]))
         all_goals first
          | (exfalso; omega)
          | (refine xl1 (q + 1) ?_ ⟨by omega, hst⟩ (by show k - (q + 1) < k - q; omega); (refine yrn [] false ?_ ?_<;>(repeat' (first|(with_reducible first|exact ya1|exact ya2|exact ya3|refine jx rfl (by first|rfl|assumption|(simp only [znl,znT4];(first|done|fail)))|exact ya5|exact ya7|exact jy|exact jz|refine jA ?_|refine ya9 ?_ ?_ ?_|refine jC rfl (by first|rfl|assumption|(simp only [znl,znT4];(first|done|fail)))|refine MR.agg (MRL.cons ?_ ?_)|refine MR.fn ?_|refine MRL.cons ?_ ?_|exact MRL.nil|refine jE ?_ ?_|exact jF|exact jG|refine yb1 ?_ ?_|refine MB.row ?_|refine jI ?_ ?_|exact ya8|refine jJ rfl (by first|rfl|assumption|(simp only [znl,znT4];(first|done|fail)))|refine yb2 ?_|rfl)|(simp only [znl,znT4];(first|done|fail))|(simp only [↓reduceIte,zlk,Nat.reduceEqDiff,reduceCtorEq])|(with_reducible first|refine jJ ?_ ?_|refine ya5 ?_|refine ju ?_|refine jv ?_|refine jw ?_|refine jx ?_ (by first|rfl|assumption|(simp only [znl,znT4];(first|done|fail)))|refine jC ?_ (by first|rfl|assumption|(simp only [znl,znT4];(first|done|fail))))))); done)
       ·obtain rfl : q = k := by omega
        rw [stay2 hd (find_miss (by rw [hdl]; exact hno)), if_neg (by simp), List.append_nil] at hsn
        repeat' (first|(with_reducible first|refine yrl (by constructor) ?_|refine jk (fun M hM=>?_)|(refine hM _ ?_;clear hM M)|refine yx3 ?_|refine yxa ?_ ?_|refine yxb ?_ ?_)|((with_reducible refine je ?_)<;>exact ynT4)|(with_reducible refine yxc ?_)|((with_reducible refine yxi (fun hc=>?_) (fun hc=>?_))<;>(try simp (disch:=omega) only [zhb] at hc)<;>(try (exfalso;omega))<;>(try subst hc))|(with_reducible refine yxw ?_)|(simp (config := { maxSteps := 400000 }) only [↓jt,↓reduceIte,zvs,reduceCtorEq,seval,-List.reduceReplicate,tab,hS1,hS2,hS3,hdl,encPr,Try.results48,Try.results53, Try.results47, Try.results19, List.toList_toArray])|(simp (disch:=omega) only [ziw]))
        all_goals first
         | (exfalso; omega)
         | (refine xl1 (j + 1) ?_ (by show j + 1 ≤ q; omega) (by show q - (j + 1) < q - j; omega); (refine yrn [(1, 1), (2, 2), (3, 3), (4, 4)] false ?_ ?_<;>(repeat' (first|(with_reducible first|exact ya1|exact ya2|exact ya3|refine jx rfl (by first|rfl|assumption|(simp only [znl,znT4];(first|done|fail)))|exact ya5|exact ya7|exact jy|exact jz|refine jA ?_|refine ya9 ?_ ?_ ?_|refine jC rfl (by first|rfl|assumption|(simp only [znl,znT4];(first|done|fail)))|refine MR.agg (MRL.cons ?_ ?_)|refine MR.fn ?_|refine MRL.cons ?_ ?_|exact MRL.nil|refine jE ?_ ?_|exact jF|exact jG|refine yb1 ?_ ?_|refine MB.row ?_|refine jI ?_ ?_|exact ya8|refine jJ rfl (by first|rfl|assumption|(simp only [znl,znT4];(first|done|fail)))|refine yb2 ?_|rfl)|(simp only [znl,znT4];(first|done|fail))|(simp only [↓reduceIte,zlk,Nat.reduceEqDiff,reduceCtorEq])|(with_reducible first|refine jJ ?_ ?_|refine ya5 ?_|refine ju ?_|refine jv ?_|refine jw ?_|refine jx ?_ (by first|rfl|assumption|(simp only [znl,znT4];(first|done|fail)))|refine jC ?_ (by first|rfl|assumption|(simp only [znl,znT4];(first|done|fail))))))); all_goals (first | rfl | (rw [hsn, List.length_append]; rfl) | (rw [hsn]; done) | (simp [hsn]; done) | fail); done)
     ·rw [stay0 hd, if_pos rfl] at hsn
      repeat' (first|(with_reducible first|refine yrl (by constructor) ?_|refine jk (fun M hM=>?_)|(refine hM _ ?_;clear hM M)|refine yx3 ?_|refine yxa ?_ ?_|refine yxb ?_ ?_)|((with_reducible refine je ?_)<;>exact ynT4)|(with_reducible refine yxc ?_)|((with_reducible refine yxi (fun hc=>?_) (fun hc=>?_))<;>(try simp (disch:=omega) only [zhb] at hc)<;>(try (exfalso;omega))<;>(try subst hc))|(with_reducible refine yxw ?_)|(simp (config := { maxSteps := 400000 }) only [↓jt,↓reduceIte,zvs,reduceCtorEq,seval,-List.reduceReplicate,tab,hS1,hS2,hS3,hdl,hwa,encPr,Try.results90, Try.results41, Try.results19, List.toList_toArray])|(simp (disch:=omega) only [ziw]))
      all_goals first
       | (exfalso; omega)
       | (refine xl1 (j + 1) ?_ (by show j + 1 ≤ k; omega) (by show k - (j + 1) < k - j; omega); (refine yrn [(1, 1), (2, 2), (3, 3), (4, 7)] false ?_ ?_<;>(repeat' (first|(with_reducible first|exact ya1|exact ya2|exact ya3|refine jx rfl (by first|rfl|assumption|(simp only [znl,znT4];(first|done|fail)))|exact ya5|exact ya7|exact jy|exact jz|refine jA ?_|refine ya9 ?_ ?_ ?_|refine jC rfl (by first|rfl|assumption|(simp only [znl,znT4];(first|done|fail)))|refine MR.agg (MRL.cons ?_ ?_)|refine MR.fn ?_|refine MRL.cons ?_ ?_|exact MRL.nil|refine jE ?_ ?_|exact jF|exact jG|refine yb1 ?_ ?_|refine MB.row ?_|refine jI ?_ ?_|exact ya8|refine jJ rfl (by first|rfl|assumption|(simp only [znl,znT4];(first|done|fail)))|refine yb2 ?_|rfl)|(simp only [znl,znT4];(first|done|fail))|(simp only [↓reduceIte,zlk,Nat.reduceEqDiff,reduceCtorEq])|(with_reducible first|refine jJ ?_ ?_|refine ya5 ?_|refine ju ?_|refine jv ?_|refine jw ?_|refine jx ?_ (by first|rfl|assumption|(simp only [znl,znT4];(first|done|fail)))|refine jC ?_ (by first|rfl|assumption|(simp only [znl,znT4];(first|done|fail))))))); all_goals (first | rfl | (rw [hsn, List.length_append]; rfl) | (rw [hsn]; done) | (simp [hsn]; done) | fail); done)
       | (refine xl1 (j + 1) ?_ (by show j + 1 ≤ k; omega) (by show k - (j + 1) < k - j; omega); (refine yrn [(1, 1), (2, 2), (3, 3), (4, 8)] false ?_ ?_<;>(repeat' (first|(with_reducible first|exact ya1|exact ya2|exact ya3|refine jx rfl (by first|rfl|assumption|(simp only [znl,znT4];(first|done|fail)))|exact ya5|exact ya7|exact jy|exact jz|refine jA ?_|refine ya9 ?_ ?_ ?_|refine jC rfl (by first|rfl|assumption|(simp only [znl,znT4];(first|done|fail)))|refine MR.agg (MRL.cons ?_ ?_)|refine MR.fn ?_|refine MRL.cons ?_ ?_|exact MRL.nil|refine jE ?_ ?_|exact jF|exact jG|refine yb1 ?_ ?_|refine MB.row ?_|refine jI ?_ ?_|exact ya8|refine jJ rfl (by first|rfl|assumption|(simp only [znl,znT4];(first|done|fail)))|refine yb2 ?_|rfl)|(simp only [znl,znT4];(first|done|fail))|(simp only [↓reduceIte,zlk,Nat.reduceEqDiff,reduceCtorEq])|(with_reducible first|refine jJ ?_ ?_|refine ya5 ?_|refine ju ?_|refine jv ?_|refine jw ?_|refine jx ?_ (by first|rfl|assumption|(simp only [znl,znT4];(first|done|fail)))|refine jC ?_ (by first|rfl|assumption|(simp only [znl,znT4];(first|done|fail))))))); all_goals (first | rfl | (rw [hsn, List.length_append]; rfl) | (rw [hsn]; done) | (simp [hsn]; done) | fail); done)
       | (refine xl1 (j + 1) ?_ (by show j + 1 ≤ k; omega) (by show k - (j + 1) < k - j; omega); (refine yrn [(1, 1), (2, 2), (3, 3), (4, 9)] false ?_ ?_<;>(repeat' (first|(with_reducible first|exact ya1|exact ya2|exact ya3|refine jx rfl (by first|rfl|assumption|(simp only [znl,znT4];(first|done|fail)))|exact ya5|exact ya7|exact jy|exact jz|refine jA ?_|refine ya9 ?_ ?_ ?_|refine jC rfl (by first|rfl|assumption|(simp only [znl,znT4];(first|done|fail)))|refine MR.agg (MRL.cons ?_ ?_)|refine MR.fn ?_|refine MRL.cons ?_ ?_|exact MRL.nil|refine jE ?_ ?_|exact jF|exact jG|refine yb1 ?_ ?_|refine MB.row ?_|refine jI ?_ ?_|exact ya8|refine jJ rfl (by first|rfl|assumption|(simp only [znl,znT4];(first|done|fail)))|refine yb2 ?_|rfl)|(simp only [znl,znT4];(first|done|fail))|(simp only [↓reduceIte,zlk,Nat.reduceEqDiff,reduceCtorEq])|(with_reducible first|refine jJ ?_ ?_|refine ya5 ?_|refine ju ?_|refine jv ?_|refine jw ?_|refine jx ?_ (by first|rfl|assumption|(simp only [znl,znT4];(first|done|fail)))|refine jC ?_ (by first|rfl|assumption|(simp only [znl,znT4];(first|done|fail))))))); all_goals (first | rfl | (rw [hsn, List.length_append]; rfl) | (rw [hsn]; done) | (simp [hsn]; done) | fail); done)
    ·obtain rfl : j = k := by omega
     have hoa : out j = l2.filter (stayB l2) := by rw [hout, List.take_of_length_le (by omega)]
     rw [hoa] at hoj ⊢
     have hfp : ∀ p ∈ l2.filter (stayB l2), PrR p := fun p hp => hdp p (List.mem_filter.1 hp).1
     generalize l2.filter (stayB l2) = l3 at hoj hfp ⊢
     have hfit3 : MFit 20000 (prM m l3) := prM_fit hm (by omega) hfp
     have hSw := ssweep_spec (prM m l3) hfit3
     repeat' ((fail_if_success (with_reducible refine ok_stop 22 ?_));first|(with_reducible first|refine yrl (by constructor) ?_|refine jk (fun M hM=>?_)|(refine hM _ ?_;clear hM M)|refine yx3 ?_|refine yxa ?_ ?_|refine yxb ?_ ?_)|((with_reducible refine je ?_)<;>exact ynT4)|(with_reducible refine yxc ?_)|((with_reducible refine yxi (fun hc=>?_) (fun hc=>?_))<;>(try simp (disch:=omega) only [zhb] at hc)<;>(try (exfalso;omega))<;>(try subst hc))|(with_reducible refine yxw ?_)|(simp (config := { maxSteps := 400000 }) only [↓jt,↓reduceIte,zvs,reduceCtorEq,seval,-List.reduceReplicate,tab,Try.results90, Try.results41, Try.results19, List.toList_toArray])|(simp (disch:=omega) only [ziw]))
     all_goals (try (exfalso; omega))
     refine ok_ren (T := ⟨slots [(6, .ptr 1 []), (7, .ptr 2 [])], rows [(1, .row machSh nilMD), (2, .row machSh (encM (prM m l3)))], 3⟩) ?_ ?_
     ·(refine yrn [(1, 1), (2, 2)] true ?_ ?_<;>(repeat' (first|(with_reducible first|exact ya1|exact ya2|exact ya3|refine jx rfl (by first|rfl|assumption|(simp only [znl,znT4];(first|done|fail)))|exact ya5|exact ya7|exact jy|exact jz|refine jA ?_|refine ya9 ?_ ?_ ?_|refine jC rfl (by first|rfl|assumption|(simp only [znl,znT4];(first|done|fail)))|refine MR.agg (MRL.cons ?_ ?_)|refine MR.fn ?_|refine MRL.cons ?_ ?_|exact MRL.nil|refine jE ?_ ?_|exact jF|exact jG|refine yb1 ?_ ?_|refine MB.row ?_|refine jI ?_ ?_|exact ya8|refine jJ rfl (by first|rfl|assumption|(simp only [znl,znT4];(first|done|fail)))|refine yb2 ?_|rfl)|(simp only [znl,znT4];(first|done|fail))|(simp only [↓reduceIte,zlk,Nat.reduceEqDiff,reduceCtorEq])|(with_reducible first|refine jJ ?_ ?_|refine ya5 ?_|refine ju ?_|refine jv ?_|refine jw ?_|refine jx ?_ (by first|rfl|assumption|(simp only [znl,znT4];(first|done|fail)))|refine jC ?_ (by first|rfl|assumption|(simp only [znl,znT4];(first|done|fail)))))))
      all_goals (first | rfl | (simp; done))
     generalize sweepM (prM m l3) = v at hSw ⊢
     repeat' (first|(with_reducible first|refine yrl (by constructor) ?_|refine jk (fun M hM=>?_)|(refine hM _ ?_;clear hM M)|refine yx3 ?_|refine yxa ?_ ?_|refine yxb ?_ ?_)|((with_reducible refine je ?_)<;>exact ynT4)|(with_reducible refine yxc ?_)|((with_reducible refine yxi (fun hc=>?_) (fun hc=>?_))<;>(try simp (disch:=omega) only [zhb] at hc)<;>(try (exfalso;omega))<;>(try subst hc))|(with_reducible refine yxw ?_)|(simp (config := { maxSteps := 400000 }) only [↓jt,↓reduceIte,zvs,reduceCtorEq,seval,-List.reduceReplicate,tab,Try.results90, Try.results41, Try.results19, List.toList_toArray])|(simp (disch:=omega) only [ziw]))
     all_goals first
      | (exfalso; omega)
      | (((try simp only [List.map_nil]); simp only [zrds]; (repeat' (first | exact rd_nil | exact Rd.refl _ _ (by first|rfl|assumption|(simp only [znl,znT4];(first|done|fail))) | (refine And.intro ?_ ?_) | (refine rd_own (by (simp only [↓reduceIte,zlk,Nat.reduceEqDiff,reduceCtorEq]); exact rfl) ?_ ?_ ?_) | rfl | assumption | (simp only [znl,znT4];(first|done|fail)) | (simp; done) | (simp; omega)))); done)
end Go.Proofs.Ytpdhdkpebbfnnaa.V
end
section
namespace Go.Proofs.Ytpdhdkpebbfnnaa.V
open Go
set_option maxRecDepth 100000
set_option maxHeartbeats 4000000
end Go.Proofs.Ytpdhdkpebbfnnaa.V
end
section
namespace Go.Proofs.Ytpdhdkpebbfnnaa.V
open Go
set_option maxRecDepth 100000
set_option maxHeartbeats 8000000
end Go.Proofs.Ytpdhdkpebbfnnaa.V
end
