/-
  Parts of the proof of ProcRight: P7, TX.
  Conditions: none.
-/
import Derived.Test.YtpdhdkpebbfnnaaWProcRight10
import Derived.Test.YtpdhdkpebbfnnaaWProcRight09
set_option linter.unusedVariables false
set_option linter.unusedSimpArgs false
set_option linter.unusedSectionVars false
set_option linter.defProp false
section
namespace Go.Proofs.Ytpdhdkpebbfnnaa.V
open Go
theorem ytP70 {n0 n n' : Nat} {tm : Nat → VV} {H : Heap} {l : List (Nat × VV)} {h : List (Nat × Blk)} (σ : List (Nat × Nat)) (fz : Bool) (h1 : AllS n0 σ H fz tm l := by (repeat' (first|(with_reducible first|exact ya1|exact ya2|exact ya3|refine jx rfl (by first|rfl|assumption|(simp only [znl,znP7];(first|done|fail)))|exact ya5|exact ya7|exact jy|exact jz|refine jA ?_|refine ya9 ?_ ?_ ?_|refine jC rfl (by first|rfl|assumption|(simp only [znl,znP7];(first|done|fail)))|refine MR.agg (MRL.cons ?_ ?_)|refine MR.fn ?_|refine MRL.cons ?_ ?_|exact MRL.nil|refine jE ?_ ?_|exact jF|exact jG|refine yb1 ?_ ?_|refine MB.row ?_|refine jI ?_ ?_|exact ya8|refine jJ rfl (by first|rfl|assumption|(simp only [znl,znP7];(first|done|fail)))|refine yb2 ?_|rfl)|(simp only [znl,znP7];(first|done|fail))|(simp only [↓reduceIte,zlk,Nat.reduceEqDiff,reduceCtorEq])|(with_reducible first|refine jJ ?_ ?_|refine ya5 ?_|refine ju ?_|refine jv ?_|refine jw ?_|refine jx ?_ (by first|rfl|assumption|(simp only [znl,znP7];(first|done|fail)))|refine jC ?_ (by first|rfl|assumption|(simp only [znl,znP7];(first|done|fail))))))<;>rfl) (h3 : AllB n0 σ H fz h := by (repeat' (first|(with_reducible first|exact ya1|exact ya2|exact ya3|refine jx rfl (by first|rfl|assumption|(simp only [znl,znP7];(first|done|fail)))|exact ya5|exact ya7|exact jy|exact jz|refine jA ?_|refine ya9 ?_ ?_ ?_|refine jC rfl (by first|rfl|assumption|(simp only [znl,znP7];(first|done|fail)))|refine MR.agg (MRL.cons ?_ ?_)|refine MR.fn ?_|refine MRL.cons ?_ ?_|exact MRL.nil|refine jE ?_ ?_|exact jF|exact jG|refine yb1 ?_ ?_|refine MB.row ?_|refine jI ?_ ?_|exact ya8|refine jJ rfl (by first|rfl|assumption|(simp only [znl,znP7];(first|done|fail)))|refine yb2 ?_|rfl)|(simp only [znl,znP7];(first|done|fail))|(simp only [↓reduceIte,zlk,Nat.reduceEqDiff,reduceCtorEq])|(with_reducible first|refine jJ ?_ ?_|refine ya5 ?_|refine ju ?_|refine jv ?_|refine jw ?_|refine jx ?_ (by first|rfl|assumption|(simp only [znl,znP7];(first|done|fail)))|refine jC ?_ (by first|rfl|assumption|(simp only [znl,znP7];(first|done|fail))))))<;>rfl) (hfz : fz = true → n0 = 0 := by first | (intro h; cases h; done) | exact fun _ => rfl) (hσ : jN n0 n' (h.map (·.1)) σ = true := by first | decide | rfl | (simp [jN]; done)) (hn : n0 ≤ n' := by decide) : Ren n0 ⟨tm, H, n⟩ ⟨slots l, rows h, n'⟩ := yrn σ fz h1 h3 hfz hσ hn
theorem ynP7 {l : List VV} (h : nls l = true := by first|rfl|assumption|(simp only [znl,znP7];(first|done|fail))) : nls l = true := h
set_option maxRecDepth 100000
def znP7 := And.intro @jO <| And.intro @jP <| And.intro @jQ <| And.intro @jR <| And.intro @jS <| And.intro @jT <| And.intro @jU <| True.intro
set_option maxHeartbeats 4000000
theorem procs_many (m : Mach) (hm : MFit 20000 m) (h : 8 < m.pr.length) : Spec Try.prog 75 [encM m] (.int .i64 6) := by
 have hl := hm.pr
 refine spec_ok Try.func75 rfl rfl (by kernel_rfl) (k := 1) rfl (by decide) ?_
 repeat' (first|(with_reducible first|refine yrl (by constructor) ?_|refine jk (fun M hM=>?_)|(refine hM _ ?_;clear hM M)|refine yx3 ?_|refine yxa ?_ ?_|refine yxb ?_ ?_)|((with_reducible refine je ?_)<;>exact ynP7)|(with_reducible refine yxc ?_)|((with_reducible refine yxi (fun hc=>?_) (fun hc=>?_))<;>(try simp (disch:=omega) only [zhb] at hc)<;>(try (exfalso;omega))<;>(try subst hc))|(with_reducible refine yxw ?_)|(simp (config := { maxSteps := 400000 }) only [↓jt,↓reduceIte,zvs,reduceCtorEq,seval,tab,Try.results75,jTA])|(simp (disch:=omega) only [ziw]))
 all_goals first
  | (exfalso; omega)
  | (simp only [zrds]; done)
def firstE (e1 e2 e3 e4 e5 e6 : Int) : Int := if e1 ≠ 0 then e1 else if e2 ≠ 0 then e2 else if e3 ≠ 0 then e3 else if e4 ≠ 0 then e4 else if e5 ≠ 0 then e5 else e6
theorem scheck_gen (m : Mach) (e1 e2 e3 e4 e5 e6 : Int) (c1 : Spec Try.prog 73 [encM m] (.int .i64 e1)) (c2 : Spec Try.prog 74 [encM m] (.int .i64 e2)) (c3 : Spec Try.prog 75 [encM m] (.int .i64 e3)) (c4 : Spec Try.prog 76 [encM m] (.int .i64 e4)) (c5 : Spec Try.prog 77 [encM m] (.int .i64 e5)) (c6 : Spec Try.prog 78 [encM m] (.int .i64 e6)) : Spec Try.prog 37 [encM m] (.int .i64 (firstE e1 e2 e3 e4 e5 e6)) := by
 have z0 : ((0 : Nat) : Int) = 0 := rfl
 have z1 : ((1 : Nat) : Int) = 1 := rfl
 have z2 : ((2 : Nat) : Int) = 2 := rfl
 have z3 : ((3 : Nat) : Int) = 3 := rfl
 have z4 : ((4 : Nat) : Int) = 4 := rfl
 have z5 : ((5 : Nat) : Int) = 5 := rfl
 have z6 : ((6 : Nat) : Int) = 6 := rfl
 have r6 : ∀ a : VV, List.replicate 6 a = [a, a, a, a, a, a] := fun _ => rfl
 obtain ⟨R, hR⟩ : ∃ R, R = firstE e1 e2 e3 e4 e5 e6 := ⟨_, rfl⟩
 rw [← hR]
 unfold firstE at hR
 refine spec_ok Try.func37 rfl rfl (by kernel_rfl) (k := 1) rfl (by decide) ?_
 repeat' (first|(with_reducible first|refine yrl (by constructor) ?_|refine jk (fun M hM=>?_)|(refine hM _ ?_;clear hM M)|refine yx3 ?_|refine yxa ?_ ?_|refine yxb ?_ ?_)|((with_reducible refine je ?_)<;>exact ynP7)|(with_reducible refine yxc ?_)|((with_reducible refine yxi (fun hc=>?_) (fun hc=>?_))<;>(try simp (disch:=omega) only [zhb] at hc)<;>(try (exfalso;omega))<;>(try subst hc))|(with_reducible refine yxw ?_)|(simp (config := { maxSteps := 400000 }) only [↓jt,↓reduceIte,zvs,reduceCtorEq,seval,tab,tabF,r6,z6,Try.results37,jTA])|(simp (disch:=omega) only [ziw]))
 refine ok_loop (fun k : Nat => ⟨slots [(1, .ptr 0 []), (6, .sl (some (1, [], 0)) 6), (7, .int .i64 6), (8, .int .i64 k)], rows [(0, .row machSh (encM m)), (1, .row (.arr 6 .cell) (.agg [.fn 73 [], .fn 74 [], .fn 75 [], .fn 76 [], .fn 77 [], .fn 78 []]))], 2⟩) (fun k => k ≤ 6 ∧ (k < 1 ∨ e1 = 0) ∧ (k < 2 ∨ e2 = 0) ∧ (k < 3 ∨ e3 = 0) ∧ (k < 4 ∨ e4 = 0) ∧ (k < 5 ∨ e5 = 0) ∧ (k < 6 ∨ e6 = 0)) (fun k => 6 - k) 0 ?_ ⟨Nat.zero_le _, by omega, by omega, by omega, by omega, by omega, by omega⟩ (fun k hk => ?_)
 ·(exact ytP70 [(0, 0), (1, 1)] false)
  all_goals (first | rfl)
 obtain ⟨hk, i1, i2, i3, i4, i5, i6⟩ := hk
 by_cases hlt : k < 6
 ·rcases (show k = 0 ∨ k = 1 ∨ k = 2 ∨ k = 3 ∨ k = 4 ∨ k = 5 by omega) with rfl | rfl | rfl | rfl | rfl | rfl
  ·repeat' (first|(with_reducible first|refine yrl (by constructor) ?_|refine jk (fun M hM=>?_)|(refine hM _ ?_;clear hM M)|refine yx3 ?_|refine yxa ?_ ?_|refine yxb ?_ ?_)|((with_reducible refine je ?_)<;>exact ynP7)|(with_reducible refine yxc ?_)|((with_reducible refine yxi (fun hc=>?_) (fun hc=>?_))<;>(try simp (disch:=omega) only [zhb] at hc)<;>(try (exfalso;omega))<;>(try subst hc))|(with_reducible refine yxw ?_)|(simp (config := { maxSteps := 400000 }) only [↓jt,↓reduceIte,zvs,reduceCtorEq,seval,tab,tabF,z0,z1,z2,z3,z4,z5,Try.results37,jTA])|(simp (disch:=omega) only [ziw]))
   ·have hRe : R = e1 := by
     rw [hR]
     rw [if_pos (by omega)]
    rw [hRe]
    simp only [zrds]
   ·refine xl1 1 ?_ ⟨by omega, by first | omega | (simp; done), by first | omega | (simp; done), by first | omega | (simp; done), by first | omega | (simp; done), by first | omega | (simp; done), by first | omega | (simp; done)⟩ (by show 6 - 1 < 6 - 0; omega)
    (exact ytP70 [(0, 0), (1, 1)] false)
    all_goals trace_state
  ·repeat' (first|(with_reducible first|refine yrl (by constructor) ?_|refine jk (fun M hM=>?_)|(refine hM _ ?_;clear hM M)|refine yx3 ?_|refine yxa ?_ ?_|refine yxb ?_ ?_)|((with_reducible refine je ?_)<;>exact ynP7)|(with_reducible refine yxc ?_)|((with_reducible refine yxi (fun hc=>?_) (fun hc=>?_))<;>(try simp (disch:=omega) only [zhb] at hc)<;>(try (exfalso;omega))<;>(try subst hc))|(with_reducible refine yxw ?_)|(simp (config := { maxSteps := 400000 }) only [↓jt,↓reduceIte,zvs,reduceCtorEq,seval,tab,tabF,z0,z1,z2,z3,z4,z5,Try.results37,jTA])|(simp (disch:=omega) only [ziw]))
   ·have hRe : R = e2 := by
     rw [hR]
     rw [if_neg (by omega)]; rw [if_pos (by omega)]
    rw [hRe]
    simp only [zrds]
   ·refine xl1 2 ?_ ⟨by omega, by first | omega | (simp; done), by first | omega | (simp; done), by first | omega | (simp; done), by first | omega | (simp; done), by first | omega | (simp; done), by first | omega | (simp; done)⟩ (by show 6 - 2 < 6 - 1; omega)
    (exact ytP70 [(0, 0), (1, 1)] false)
    all_goals trace_state
  ·repeat' (first|(with_reducible first|refine yrl (by constructor) ?_|refine jk (fun M hM=>?_)|(refine hM _ ?_;clear hM M)|refine yx3 ?_|refine yxa ?_ ?_|refine yxb ?_ ?_)|((with_reducible refine je ?_)<;>exact ynP7)|(with_reducible refine yxc ?_)|((with_reducible refine yxi (fun hc=>?_) (fun hc=>?_))<;>(try simp (disch:=omega) only [zhb] at hc)<;>(try (exfalso;omega))<;>(try subst hc))|(with_reducible refine yxw ?_)|(simp (config := { maxSteps := 400000 }) only [↓jt,↓reduceIte,zvs,reduceCtorEq,seval,tab,tabF,z0,z1,z2,z3,z4,z5,Try.results37,jTA])|(simp (disch:=omega) only [ziw]))
   ·have hRe : R = e3 := by
     rw [hR]
     rw [if_neg (by omega)]; rw [if_neg (by omega)]; rw [if_pos (by omega)]
    rw [hRe]
    simp only [zrds]
   ·refine xl1 3 ?_ ⟨by omega, by first | omega | (simp; done), by first | omega | (simp; done), by first | omega | (simp; done), by first | omega | (simp; done), by first | omega | (simp; done), by first | omega | (simp; done)⟩ (by show 6 - 3 < 6 - 2; omega)
    (exact ytP70 [(0, 0), (1, 1)] false)
    all_goals trace_state
  ·repeat' (first|(with_reducible first|refine yrl (by constructor) ?_|refine jk (fun M hM=>?_)|(refine hM _ ?_;clear hM M)|refine yx3 ?_|refine yxa ?_ ?_|refine yxb ?_ ?_)|((with_reducible refine je ?_)<;>exact ynP7)|(with_reducible refine yxc ?_)|((with_reducible refine yxi (fun hc=>?_) (fun hc=>?_))<;>(try simp (disch:=omega) only [zhb] at hc)<;>(try (exfalso;omega))<;>(try subst hc))|(with_reducible refine yxw ?_)|(simp (config := { maxSteps := 400000 }) only [↓jt,↓reduceIte,zvs,reduceCtorEq,seval,tab,tabF,z0,z1,z2,z3,z4,z5,Try.results37,jTA])|(simp (disch:=omega) only [ziw]))
   ·have hRe : R = e4 := by
     rw [hR]
     rw [if_neg (by omega)]; rw [if_neg (by omega)]; rw [if_neg (by omega)]; rw [if_pos (by omega)]
    rw [hRe]
    simp only [zrds]
   ·refine xl1 4 ?_ ⟨by omega, by first | omega | (simp; done), by first | omega | (simp; done), by first | omega | (simp; done), by first | omega | (simp; done), by first | omega | (simp; done), by first | omega | (simp; done)⟩ (by show 6 - 4 < 6 - 3; omega)
    (exact ytP70 [(0, 0), (1, 1)] false)
    all_goals trace_state
  ·repeat' (first|(with_reducible first|refine yrl (by constructor) ?_|refine jk (fun M hM=>?_)|(refine hM _ ?_;clear hM M)|refine yx3 ?_|refine yxa ?_ ?_|refine yxb ?_ ?_)|((with_reducible refine je ?_)<;>exact ynP7)|(with_reducible refine yxc ?_)|((with_reducible refine yxi (fun hc=>?_) (fun hc=>?_))<;>(try simp (disch:=omega) only [zhb] at hc)<;>(try (exfalso;omega))<;>(try subst hc))|(with_reducible refine yxw ?_)|(simp (config := { maxSteps := 400000 }) only [↓jt,↓reduceIte,zvs,reduceCtorEq,seval,tab,tabF,z0,z1,z2,z3,z4,z5,Try.results37,jTA])|(simp (disch:=omega) only [ziw]))
   ·have hRe : R = e5 := by
     rw [hR]
     rw [if_neg (by omega)]; rw [if_neg (by omega)]; rw [if_neg (by omega)]; rw [if_neg (by omega)]; rw [if_pos (by omega)]
    rw [hRe]
    simp only [zrds]
   ·refine xl1 5 ?_ ⟨by omega, by first | omega | (simp; done), by first | omega | (simp; done), by first | omega | (simp; done), by first | omega | (simp; done), by first | omega | (simp; done), by first | omega | (simp; done)⟩ (by show 6 - 5 < 6 - 4; omega)
    (exact ytP70 [(0, 0), (1, 1)] false)
    all_goals trace_state
  ·repeat' (first|(with_reducible first|refine yrl (by constructor) ?_|refine jk (fun M hM=>?_)|(refine hM _ ?_;clear hM M)|refine yx3 ?_|refine yxa ?_ ?_|refine yxb ?_ ?_)|((with_reducible refine je ?_)<;>exact ynP7)|(with_reducible refine yxc ?_)|((with_reducible refine yxi (fun hc=>?_) (fun hc=>?_))<;>(try simp (disch:=omega) only [zhb] at hc)<;>(try (exfalso;omega))<;>(try subst hc))|(with_reducible refine yxw ?_)|(simp (config := { maxSteps := 400000 }) only [↓jt,↓reduceIte,zvs,reduceCtorEq,seval,tab,tabF,z0,z1,z2,z3,z4,z5,Try.results37,jTA])|(simp (disch:=omega) only [ziw]))
   ·have hRe : R = e6 := by
     rw [hR]
     rw [if_neg (by omega)]; rw [if_neg (by omega)]; rw [if_neg (by omega)]; rw [if_neg (by omega)]; rw [if_neg (by omega)]
    rw [hRe]
    simp only [zrds]
   ·refine xl1 6 ?_ ⟨by omega, by first | omega | (simp; done), by first | omega | (simp; done), by first | omega | (simp; done), by first | omega | (simp; done), by first | omega | (simp; done), by first | omega | (simp; done)⟩ (by show 6 - 6 < 6 - 5; omega)
    (exact ytP70 [(0, 0), (1, 1)] false)
    all_goals trace_state
 ·obtain rfl : k = 6 := by omega
  have hRe : R = 0 := by
   rw [hR, if_neg (by omega), if_neg (by omega), if_neg (by omega), if_neg (by omega), if_neg (by omega)]
   omega
  rw [hRe]
  repeat' (first|(with_reducible first|refine yrl (by constructor) ?_|refine jk (fun M hM=>?_)|(refine hM _ ?_;clear hM M)|refine yx3 ?_|refine yxa ?_ ?_|refine yxb ?_ ?_)|((with_reducible refine je ?_)<;>exact ynP7)|(with_reducible refine yxc ?_)|((with_reducible refine yxi (fun hc=>?_) (fun hc=>?_))<;>(try simp (disch:=omega) only [zhb] at hc)<;>(try (exfalso;omega))<;>(try subst hc))|(with_reducible refine yxw ?_)|(simp (config := { maxSteps := 400000 }) only [↓jt,↓reduceIte,zvs,reduceCtorEq,seval,tab,tabF,z6,Try.results37,jTA])|(simp (disch:=omega) only [ziw]))
  all_goals first
   | (exfalso; omega)
   | (simp only [zrds]; done)
theorem scheck_ex (m : Mach) (hm : MFit 20000 m) : Spec Try.prog 37 [encM m] (.int .i64 (chkM m)) := by
 have c1 := numbers_ex m hm
 have c5 := texts_ex m hm
 have c6 := volume_ex m hm
 obtain ⟨e2, q2, c2⟩ : ∃ e2 : Int, e2 = (if m.fr.length < 1 ∨ 64 < m.fr.length then 6 else if (m.fr.any fun s => decide (s.length ≠ 128)) = true then 3 else 0) ∧ Spec Try.prog 74 [encM m] (.int .i64 e2) := by
  refine ⟨_, rfl, ?_⟩
  by_cases h1 : m.fr.length < 1 ∨ 64 < m.fr.length
  ·rw [if_pos h1]; exact frames_many m hm h1
  ·rw [if_neg h1]
   by_cases h2 : (m.fr.any fun s => decide (s.length ≠ 128)) = true
   ·rw [if_pos h2]
    rw [List.any_eq_true] at h2
    obtain ⟨s, hs1, hs2⟩ := h2
    obtain ⟨i, hi, rfl⟩ := List.mem_iff_getElem.1 hs1
    refine frames_bad m hm (by omega) i hi ?_
    rw [List.getD_eq_getElem?_getD, List.getElem?_eq_getElem hi]
    exact of_decide_eq_true hs2
   ·rw [if_neg h2]
    refine frames_ok m (by omega) fun s hs => Decidable.byContradiction fun hc => h2 ?_
    rw [List.any_eq_true]
    exact ⟨s, hs, decide_eq_true hc⟩
 obtain ⟨e3, q3, c3⟩ : ∃ e3 : Int, e3 = (if 8 < m.pr.length then 6 else if procsB m = false then 3 else 0) ∧ Spec Try.prog 75 [encM m] (.int .i64 e3) := by
  refine ⟨_, rfl, ?_⟩
  by_cases h1 : 8 < m.pr.length
  ·rw [if_pos h1]; exact procs_many m hm h1
  ·rw [if_neg h1]
   by_cases h2 : procsB m = false
   ·rw [if_pos h2]; exact procs_bad m hm (by omega) h2
   ·rw [if_neg h2]; exact procs_ok m hm (by omega) (by simpa using h2)
 obtain ⟨e4, q4, c4⟩ : ∃ e4 : Int, e4 = (if 64 < m.pipes.length then 6 else if pipesB m = false then 3 else 0) ∧ Spec Try.prog 76 [encM m] (.int .i64 e4) := by
  refine ⟨_, rfl, ?_⟩
  by_cases h1 : 64 < m.pipes.length
  ·rw [if_pos h1]; exact spipes_many m hm h1
  ·rw [if_neg h1]
   by_cases h2 : pipesB m = false
   ·rw [if_pos h2]; exact spipes_bad m hm (by omega) h2
   ·rw [if_neg h2]; exact spipes_ok m hm (by omega) (by simpa using h2)
 have h := scheck_gen m _ _ _ _ _ _ c1 c2 c3 c4 c5 c6
 have e : firstE (if numB m = true then 2 else 0) e2 e3 e4 (if 65536 < m.inp.length ∨ 128 < m.init.length then 6 else 0) (diskE m) = chkM m := by
  rw [q2, q3, q4]
  unfold firstE chkM
  repeat' split
  all_goals first | rfl | omega | (exfalso; simp_all; done)
 rw [← e]
 exact h
end Go.Proofs.Ytpdhdkpebbfnnaa.V
end
section
namespace Go.Proofs.Ytpdhdkpebbfnnaa.V
open Go
theorem ynTX {l : List VV} (h : nls l = true := by first|rfl|assumption|(simp only [znl,znTX];(first|done|fail))) : nls l = true := h
set_option maxRecDepth 100000
def znTX := And.intro @jO <| And.intro @jP <| And.intro @jQ <| And.intro @jR <| And.intro @jS <| And.intro @jT <| And.intro @jU <| True.intro
set_option maxHeartbeats 8000000
def mayP (m : Mach) (a : Int) : Int := match findI m.pr a with
 | none => 0
 | some i => if (m.pr.getD i default).st = 3 then 0 else a
theorem mayP_live {m : Mach} (h : chkM m = 0) (a : Int) : mayP m a = 0 ∨ livesB m.pr (mayP m a) = true := by
 unfold mayP
 cases hf : findI m.pr a with
 | none => exact .inl rfl
 | some i =>
  obtain ⟨hi, hpid⟩ := findI_some hf
  dsimp only
  split
  ·exact .inl rfl
  ·rename_i h3
   refine .inr (livesB_mem.2 ⟨_, getD_mem' hi, hpid, ?_⟩)
   have hb := procs_each h _ (getD_mem' hi)
   unfold procB at hb
   rw [Bool.and_eq_true, Bool.and_eq_true] at hb
   have h1 := hb.1.1
   unfold procH at h1
   split at h1
   ·cases h1
   ·rename_i a1
    unfold livesP
    simp only [Bool.or_eq_true,decide_eq_true_eq]
    omega
theorem mayP_R (m : Mach) {a : Int} (h : i64R a) : i64R (mayP m a) := by
 have z : i64R 0 := by unfold i64R; omega
 unfold mayP
 split
 ·exact z
 ·split
  ·exact z
  ·exact h
theorem fdZ_R : fdR fdZ := by
 have z : i64R 0 := by unfold i64R; omega
 exact ⟨z, z, z⟩
theorem spawn_r {m : Mach} (hm : MFit 20000 m) (hs : seenM m) {e : Exe} (he : ExeR e) {par : Int} (hp : i64R par) (hpar : par = 0 ∨ livesB m.pr par = true) : ∃ (a : Mach) (p c : Int), spawnVV m e par fdZ fdZ = .tup [encM a, .int .i64 p, .int .i64 c] ∧ MFit 20000 a ∧ (c = 0 → chkM a = 0) := by
 unfold spawnVV
 obtain ⟨hs0, hs1, hs2, hs3⟩ := hs
 by_cases h0 : spawnE m e = 0
 ·rw [if_pos h0]
  obtain ⟨k1, k2, k3⟩ := spawnE_ok h0
  exact ⟨_, _, _, rfl, spawnM_fit hm (by omega) (by omega) he k1 hp fdZ_R fdZ_R, fun _ => spawn_chk hs1 k2 k1 (by omega) k3 hpar⟩
 ·rw [if_neg h0]; exact ⟨_, _, _, rfl, nilM_fit, fun h => absurd h h0⟩
theorem growE_ok {m : Mach} {i : Nat} {n : Int} (h0 : growE m i n = 0) : (m.pr.getD i default).st ≠ 3 ∧ 0 ≤ n ∧ topK (m.pr.getD i default).sp 15 + n.toNat ≤ 15 ∧ n.toNat ≤ (freeK m.pr m.fr.length).length := by
 have ht := topK_le (m.pr.getD i default).sp 15
 unfold growE at h0
 split at h0
 ·omega
 ·rename_i h3
  split at h0
  ·omega
  ·split at h0
   ·omega
   ·split at h0
    ·omega
    ·exact ⟨h3, by omega, by omega, by omega⟩
theorem grow_r {m : Mach} (hm : MFit 20000 m) (h : chkM m = 0) (pid n : Int) : ∃ (a : Mach) (p c : Int), growVV m pid n = .tup [encM a, .int .i64 p, .int .i64 c] ∧ MFit 20000 a ∧ (c = 0 → chkM a = 0) := by
 unfold growVV
 cases hf : findI m.pr pid with
 | none => exact ⟨_, _, _, rfl, nilM_fit, fun h => by omega⟩
 | some i =>
  obtain ⟨hi, _⟩ := findI_some hf
  dsimp only
  by_cases h0 : growE m i n = 0
  ·rw [if_pos h0]
   obtain ⟨k1, k2, k3, k4⟩ := growE_ok h0
   exact ⟨_, _, _, rfl, growM_fit hm hi k3, fun _ => grow_chk h hi k1 (hm.prR _ (getD_mem' hi)).sp k3 k4⟩
  ·rw [if_neg h0]; exact ⟨_, _, _, rfl, nilM_fit, fun h => absurd h h0⟩
theorem kidK_dead {l : List Pr} {par pid : Int} : ∀ {k c : Nat}, kidK l par pid k = some c → (l.getD c default).st = 3 ∧ kidP par pid (l.getD c default)
 | 0, c, h => by cases h
 | k + 1, c, h => by
  rw [kidK] at h
  split at h
  ·rename_i h1
   injection h with h
   subst h
   exact ⟨h1.2.1, h1.1⟩
  ·exact kidK_dead h
theorem reap_r {m : Mach} (hm : MFit 20000 m) (h : chkM m = 0) (par pid : Int) : ∃ (a : Mach) (p c e : Int), reapVV m par pid = .tup [encM a, .int .i64 p, .int .u32 c, .int .i64 e] ∧ MFit 20000 a ∧ (e = 0 → chkM a = 0) := by
 unfold reapVV
 split
 ·exact ⟨_, _, _, _, rfl, nilM_fit, fun h => by omega⟩
 ·split
  ·exact ⟨_, _, _, _, rfl, nilM_fit, fun h => by omega⟩
  ·rename_i hk
   exact ⟨_, _, _, _, rfl, reapM_fit hm _, fun _ => reap_chk h (kidK_lt hk) (kidK_dead hk).1⟩
theorem right_law (x0 : MachD) (x1 : ExeD) (x2 x3 x4 : Int) (g0 : good machT x0) (g1 : good exeT x1) (g2 : good (.int .i64) x2) (g3 : good (.int .i64) x3) (g4 : good (.int .i64) x4) (l0 : Ty.lite machT x0) (l1 : Ty.lite exeT x1) (l2 : Ty.lite (.int .i64) x2) (l3 : Ty.lite (.int .i64) x3) (l4 : Ty.lite (.int .i64) x4) :
  Spec Try.prog 12 [toV machT x0, toV exeT x1, toV (.int .i64) x2, toV (.int .i64) x3, toV (.int .i64) x4] (.bool true) := by
 have hm := mach_good x0 g0 l0
 have he := exe_good x1 g1 l1
 have hp : i64R x2 := bounds_i64 g2
 have hpi : i64R x3 := bounds_i64 g3
 have hn : i64R x4 := bounds_i64 g4
 rw [toV_mach, toV_exe]
 simp only [toV]
 generalize mMach x0 = m at hm
 generalize mExe x1 = e at he
 clear g0 g1 g2 g3 g4 l0 l1 l2 l3 l4 x0 x1
 have hA := palive_spec
 have hW := pwide_spec m hm
 have hG := pgreat_spec e he.ws he.data
 by_cases hs : seenM m ∧ seenE e
 ·obtain ⟨hs1, hs2⟩ := hs
  rw [if_pos hs1] at hW
  rw [decide_eq_true hs2] at hG
  have hf := near_fit hm hs1.1
  have hR := exe_R he hs2
  have hnx : m.next < 4611686018427387904 := by have := hs1.2.2.1; omega
  have hnx2 := hs1.2.2.1
  have hc := hs1.2.1
  have hF := rfind_spec m hf x2 hp
  have hS := sspawn_spec m hf hnx e hR (mayP m x2) (mayP_R m hp) fdZ fdZ fdZ_R fdZ_R
  have hGr := sgrow_spec m hf x3 hpi x4 hn
  have hD := sdie_spec m hf x3 hpi 7 (by unfold u32R; omega)
  have hRe := sreap_spec m hf (mayP m x2) (mayP_R m hp) 0 (by unfold i64R; omega)
  obtain ⟨a, pa, ca, ea, fa, ka⟩ := spawn_r hf hs1 hR (mayP_R m hp) (mayP_live hc x2)
  obtain ⟨b, pb, cb, eb, fb, kb⟩ := grow_r hf hc x3 x4
  obtain ⟨d, pd, cd, gd, ed, fd, kd⟩ := reap_r hf hc (mayP m x2) 0
  have fc := dieM_fit hf x3 (code := 7) (by unfold u32R; omega)
  have kc := die_chk hc x3 7
  rw [ea] at hS
  rw [eb] at hGr
  rw [ed] at hRe
  have ha := scheck_ex a fa
  have hb := scheck_ex b fb
  have hcc := scheck_ex _ fc
  have hd := scheck_ex d fd
  rw [kc] at hcc
  generalize dieM m x3 7 = c at hD hcc
  obtain ⟨va, hva⟩ : ∃ v, v = chkM a := ⟨_, rfl⟩
  obtain ⟨vb, hvb⟩ : ∃ v, v = chkM b := ⟨_, rfl⟩
  obtain ⟨vd, hvd⟩ : ∃ v, v = chkM d := ⟨_, rfl⟩
  rw [← hva] at ha ka
  rw [← hvb] at hb kb
  rw [← hvd] at hd kd
  clear ea eb ed fa fb fc fd kc hva hvb hvd hc hs1 hs2
  have hnl := nl_encM m
  have hnlE := nl_encExe e
  have hnlA : nls [encM m, encExe e, VV.int .i64 (mayP m x2), encFd fdZ, encFd fdZ] = true := by
   show (nl (encM m) && (nl (encExe e) && (true && (nl (encFd fdZ) && (nl (encFd fdZ) && true))))) = true
   rw [hnl, hnlE]; rfl
  simp only [fdZ,encFd] at hS hnlA
  unfold mayP at hS hRe hnlA
  cases hpl : findI m.pr x2 with
  | none =>
   rw [hpl] at hF hS hRe hnlA
   simp only [placeV] at hF
   dsimp only at hS hRe hnlA
   refine spec_ok Try.func12 rfl rfl (by kernel_rfl) (k := 5) rfl (by decide) ?_
   repeat' (first|(with_reducible first|refine yrl (by constructor) ?_|refine jk (fun M hM=>?_)|(refine hM _ ?_;clear hM M)|refine yx3 ?_|refine yxa ?_ ?_|refine yxb ?_ ?_)|((with_reducible refine je ?_)<;>exact ynTX)|(with_reducible refine yxc ?_)|((with_reducible refine yxi (fun hc=>?_) (fun hc=>?_))<;>(try simp (disch:=omega) only [zhb] at hc)<;>(try (exfalso;omega))<;>(try subst hc))|(with_reducible refine yxw ?_)|(simp (config := { maxSteps := 400000 }) only [↓jt,↓reduceIte,zvs,reduceCtorEq,seval,-List.reduceReplicate,tab,hasFd1,Try.results12,jTA])|(simp (disch:=omega) only [ziw]))
   all_goals first
    | (exfalso; omega)
    | (simp only [zrds]; done)
    | (have e0 : (vd == 0) = true := (by rw [kd rfl]; rfl); rw [e0]; simp only [zrds]; done)
  | some i =>
   obtain ⟨hi, hpid⟩ := findI_some hpl
   rw [hpl] at hF hS hRe hnlA
   simp only [placeV] at hF
   dsimp only at hS hRe hnlA
   have hbp := hf.prR _ (getD_mem' hi)
   obtain ⟨hS1, hS2, hS3⟩ := pr3 hbp
   by_cases h3 : (m.pr.getD i default).st = 3
   ·rw [if_pos h3] at hS hRe hnlA
    refine spec_ok Try.func12 rfl rfl (by kernel_rfl) (k := 5) rfl (by decide) ?_
    repeat' (first|(with_reducible first|refine yrl (by constructor) ?_|refine jk (fun M hM=>?_)|(refine hM _ ?_;clear hM M)|refine yx3 ?_|refine yxa ?_ ?_|refine yxb ?_ ?_)|((with_reducible refine je ?_)<;>exact ynTX)|(with_reducible refine yxc ?_)|((with_reducible refine yxi (fun hc=>?_) (fun hc=>?_))<;>(try simp (disch:=omega) only [zhb] at hc)<;>(try (exfalso;omega))<;>(try subst hc))|(with_reducible refine yxw ?_)|(simp (config := { maxSteps := 400000 }) only [↓jt,↓reduceIte,zvs,reduceCtorEq,seval,-List.reduceReplicate,tab,hasFd1,hS1,hS2,hS3,h3,encPr,Try.results12,jTA])|(simp (disch:=omega) only [ziw]))
    all_goals first
     | (exfalso; omega)
     | (simp only [zrds]; done)
     | (have e0 : (vd == 0) = true := (by rw [kd rfl]; rfl); rw [e0]; simp only [zrds]; done)
   ·rw [if_neg h3] at hS hRe hnlA
    refine spec_ok Try.func12 rfl rfl (by kernel_rfl) (k := 5) rfl (by decide) ?_
    repeat' (first|(with_reducible first|refine yrl (by constructor) ?_|refine jk (fun M hM=>?_)|(refine hM _ ?_;clear hM M)|refine yx3 ?_|refine yxa ?_ ?_|refine yxb ?_ ?_)|((with_reducible refine je ?_)<;>exact ynTX)|(with_reducible refine yxc ?_)|((with_reducible refine yxi (fun hc=>?_) (fun hc=>?_))<;>(try simp (disch:=omega) only [zhb] at hc)<;>(try (exfalso;omega))<;>(try subst hc))|(with_reducible refine yxw ?_)|(simp (config := { maxSteps := 400000 }) only [↓jt,↓reduceIte,zvs,reduceCtorEq,seval,-List.reduceReplicate,tab,hasFd1,hS1,hS2,hS3,encPr,Try.results12,jTA])|(simp (disch:=omega) only [ziw]))
    all_goals first
     | (exfalso; omega)
     | (simp only [zrds]; done)
     | (have e0 : (vd == 0) = true := (by rw [kd rfl]; rfl); rw [e0]; simp only [zrds]; done)
 ·obtain ⟨w, hw⟩ : ∃ w : Int, w = if seenM m then 0 else 1 := ⟨_, rfl⟩
  obtain ⟨b, hb⟩ : ∃ b : Bool, b = !decide (seenE e) := ⟨_, rfl⟩
  have hor : w = 1 ∨ (w = 0 ∧ b = true) := by
   by_cases h1 : seenM m
   ·have h2 : ¬seenE e := fun h => hs ⟨h1, h⟩
    exact .inr ⟨by rw [hw, if_pos h1], by rw [hb, decide_eq_false h2]; rfl⟩
   ·exact .inl (by rw [hw, if_neg h1])
  rw [← hw] at hW
  rw [← hb] at hG
  clear hw hb
  rcases hor with rfl | ⟨rfl, rfl⟩ <;> (
   refine spec_ok Try.func12 rfl rfl (by kernel_rfl) (k := 5) rfl (by decide) ?_
   repeat' (first|(with_reducible first|refine yrl (by constructor) ?_|refine jk (fun M hM=>?_)|(refine hM _ ?_;clear hM M)|refine yx3 ?_|refine yxa ?_ ?_|refine yxb ?_ ?_)|((with_reducible refine je ?_)<;>exact ynTX)|(with_reducible refine yxc ?_)|((with_reducible refine yxi (fun hc=>?_) (fun hc=>?_))<;>(try simp (disch:=omega) only [zhb] at hc)<;>(try (exfalso;omega))<;>(try subst hc))|(with_reducible refine yxw ?_)|(simp (config := { maxSteps := 400000 }) only [↓jt,↓reduceIte,zvs,reduceCtorEq,seval,-List.reduceReplicate,tab,hasFd1,Try.results12,jTA])|(simp (disch:=omega) only [ziw]))
   all_goals first
    | (exfalso; omega)
    | (simp only [zrds]; done)
    )
end Go.Proofs.Ytpdhdkpebbfnnaa.V
end
