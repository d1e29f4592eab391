/-
  Parts of the proof of ProcRight: NF, T1, NA, N3, NB, NC, D2, N9, ND, N5, N6, N7, NE.
  Conditions: none.
-/
import Derived.Test.YtpdhdkpebbfnnaaWProcRight05
import Derived.Test.YtpdhdkpebbfnnaaWProcRight04
import Derived.Test.YtpdhdkpebbfnnaaWProcRight03
import Derived.Laws.Closers25b
set_option linter.unusedVariables false
set_option linter.unusedSimpArgs false
set_option linter.unusedSectionVars false
set_option linter.defProp false
section
namespace Go.Proofs.Ytpdhdkpebbfnnaa.V
open Go
theorem ynNF {l : List VV} (h : nls l = true := by first|rfl|assumption|(simp only [znl,znNF];(first|done|fail))) : nls l = true := h
set_option maxRecDepth 100000
def znNF := And.intro @jO <| And.intro @jP <| And.intro @jQ <| And.intro @jR <| And.intro @jS <| And.intro @jT <| And.intro @jU <| True.intro
set_option maxHeartbeats 4000000
theorem list_str (l : Frames) (hl : l.length ≤ 20000) : Spec Try.prog 89 [encStrs l] (encStrs l) := by
 refine spec_ok Try.func89 rfl rfl (by kernel_rfl) (k := 1) rfl (by decide) ?_
 repeat' (first|(with_reducible first|refine yrl (by constructor) ?_|refine jk (fun M hM=>?_)|(refine hM _ ?_;clear hM M)|refine yx3 ?_|refine yxa ?_ ?_|refine yxb ?_ ?_)|((with_reducible refine je ?_)<;>exact ynNF)|(with_reducible refine yxc ?_)|((with_reducible refine yxi (fun hc=>?_) (fun hc=>?_))<;>(try simp (disch:=omega) only [zhb] at hc)<;>(try (exfalso;omega))<;>(try subst hc))|(with_reducible refine yxw ?_)|(simp (config := { maxSteps := 400000 }) only [↓jt,↓reduceIte,zvs,reduceCtorEq,seval,tab,Try.results89, List.toList_toArray])|(simp (disch:=omega) only [ziw]))
 all_goals first
  | (refine rdt_of ?_ (by rfl); (refine rd_own (by (simp only [↓reduceIte,zlk,Nat.reduceEqDiff,reduceCtorEq]); exact rfl) ?_ ?_ ?_) <;> (first | rfl | assumption | (simp only [znl,znNF];(first|done|fail)) | (simp; done) | (simp; omega) | skip); done)
theorem list_pr (l : List Pr) (hl : l.length ≤ 20000) : Spec Try.prog 90 [encPrs l] (encPrs l) := by
 refine spec_ok Try.func90 rfl rfl (by kernel_rfl) (k := 1) rfl (by decide) ?_
 repeat' (first|(with_reducible first|refine yrl (by constructor) ?_|refine jk (fun M hM=>?_)|(refine hM _ ?_;clear hM M)|refine yx3 ?_|refine yxa ?_ ?_|refine yxb ?_ ?_)|((with_reducible refine je ?_)<;>exact ynNF)|(with_reducible refine yxc ?_)|((with_reducible refine yxi (fun hc=>?_) (fun hc=>?_))<;>(try simp (disch:=omega) only [zhb] at hc)<;>(try (exfalso;omega))<;>(try subst hc))|(with_reducible refine yxw ?_)|(simp (config := { maxSteps := 400000 }) only [↓jt,↓reduceIte,zvs,reduceCtorEq,seval,tab,Try.results90, List.toList_toArray])|(simp (disch:=omega) only [ziw]))
 all_goals first
  | (refine rdt_of ?_ (by rfl); (refine rd_own (by (simp only [↓reduceIte,zlk,Nat.reduceEqDiff,reduceCtorEq]); exact rfl) ?_ ?_ ?_) <;> (first | rfl | assumption | (simp only [znl,znNF];(first|done|fail)) | (simp; done) | (simp; omega) | skip); done)
theorem list_pi (l : List Pip) (hl : l.length ≤ 20000) : Spec Try.prog 91 [encPis l] (encPis l) := by
 refine spec_ok Try.func91 rfl rfl (by kernel_rfl) (k := 1) rfl (by decide) ?_
 repeat' (first|(with_reducible first|refine yrl (by constructor) ?_|refine jk (fun M hM=>?_)|(refine hM _ ?_;clear hM M)|refine yx3 ?_|refine yxa ?_ ?_|refine yxb ?_ ?_)|((with_reducible refine je ?_)<;>exact ynNF)|(with_reducible refine yxc ?_)|((with_reducible refine yxi (fun hc=>?_) (fun hc=>?_))<;>(try simp (disch:=omega) only [zhb] at hc)<;>(try (exfalso;omega))<;>(try subst hc))|(with_reducible refine yxw ?_)|(simp (config := { maxSteps := 400000 }) only [↓jt,↓reduceIte,zvs,reduceCtorEq,seval,tab,Try.results91, List.toList_toArray])|(simp (disch:=omega) only [ziw]))
 all_goals first
  | (refine rdt_of ?_ (by rfl); (refine rd_own (by (simp only [↓reduceIte,zlk,Nat.reduceEqDiff,reduceCtorEq]); exact rfl) ?_ ?_ ?_) <;> (first | rfl | assumption | (simp only [znl,znNF];(first|done|fail)) | (simp; done) | (simp; omega) | skip); done)
theorem list_wr (l : List Wr) (hl : l.length ≤ 20000) : Spec Try.prog 93 [encWrs l] (encWrs l) := by
 refine spec_ok Try.func93 rfl rfl (by kernel_rfl) (k := 1) rfl (by decide) ?_
 repeat' (first|(with_reducible first|refine yrl (by constructor) ?_|refine jk (fun M hM=>?_)|(refine hM _ ?_;clear hM M)|refine yx3 ?_|refine yxa ?_ ?_|refine yxb ?_ ?_)|((with_reducible refine je ?_)<;>exact ynNF)|(with_reducible refine yxc ?_)|((with_reducible refine yxi (fun hc=>?_) (fun hc=>?_))<;>(try simp (disch:=omega) only [zhb] at hc)<;>(try (exfalso;omega))<;>(try subst hc))|(with_reducible refine yxw ?_)|(simp (config := { maxSteps := 400000 }) only [↓jt,↓reduceIte,zvs,reduceCtorEq,seval,tab,Try.results93, List.toList_toArray])|(simp (disch:=omega) only [ziw]))
 all_goals first
  | (refine rdt_of ?_ (by rfl); (refine rd_own (by (simp only [↓reduceIte,zlk,Nat.reduceEqDiff,reduceCtorEq]); exact rfl) ?_ ?_ ?_) <;> (first | rfl | assumption | (simp only [znl,znNF];(first|done|fail)) | (simp; done) | (simp; omega) | skip); done)
theorem own_drive (d : Dr) (h1 : d.bl.length ≤ 20000) (h2 : d.pe.length ≤ 20000) : Spec Try.prog 92 [encDr d] (encDr d) := by
 have hA := list_str d.bl h1
 have hB := list_wr d.pe h2
 refine spec_ok Try.func92 rfl rfl (by kernel_rfl) (k := 1) rfl (by decide) ?_
 repeat' (first|(with_reducible first|refine yrl (by constructor) ?_|refine jk (fun M hM=>?_)|(refine hM _ ?_;clear hM M)|refine yx3 ?_|refine yxa ?_ ?_|refine yxb ?_ ?_)|((with_reducible refine je ?_)<;>exact ynNF)|(with_reducible refine yxc ?_)|((with_reducible refine yxi (fun hc=>?_) (fun hc=>?_))<;>(try simp (disch:=omega) only [zhb] at hc)<;>(try (exfalso;omega))<;>(try subst hc))|(with_reducible refine yxw ?_)|(simp (config := { maxSteps := 400000 }) only [↓jt,↓reduceIte,zvs,reduceCtorEq,seval,tab,Try.results92,jTA])|(simp (disch:=omega) only [ziw]))
 all_goals first
  | (((try simp only [List.map_nil]); simp only [zrds]; (repeat' (first | exact rd_nil | exact Rd.refl _ _ (by first|rfl|assumption|(simp only [znl,znNF];(first|done|fail))) | (refine And.intro ?_ ?_) | (refine rd_own (by (simp only [↓reduceIte,zlk,Nat.reduceEqDiff,reduceCtorEq]); exact rfl) ?_ ?_ ?_) | rfl | assumption | (simp only [znl,znNF];(first|done|fail)) | (simp; done) | (simp; omega)))); done)
def findI (l : List Pr) (pid : Int) : Option Nat := l.findIdx? fun p => decide (p.pid = pid)
def placeV : Option Nat → VV
 | some i => .tup [.int .i64 i, .bool true]
 | none => .tup [.int .i64 0, .bool false]
theorem find_hit {l : List Pr} {pid : Int} {k : Nat} (h : k < l.length) (hn : ∀ j, j < k → (l.getD j default).pid ≠ pid) (hk : (l.getD k default).pid = pid) : findI l pid = some k := by
 unfold findI
 rw [List.findIdx?_eq_some_iff_getElem]
 refine ⟨h, ?_, fun j hj => ?_⟩
 ·rw [List.getD_eq_getElem?_getD, List.getElem?_eq_getElem h] at hk
  simpa using hk
 ·have := hn j hj
  rw [List.getD_eq_getElem?_getD, List.getElem?_eq_getElem (by omega)] at this
  simpa using this
theorem find_miss {l : List Pr} {pid : Int} (hn : ∀ j, j < l.length → (l.getD j default).pid ≠ pid) : findI l pid = none := by
 unfold findI
 rw [List.findIdx?_eq_none_iff]
 intro x hx
 obtain ⟨j, hj, rfl⟩ := List.mem_iff_getElem.1 hx
 have := hn j hj
 rw [List.getD_eq_getElem?_getD, List.getElem?_eq_getElem hj] at this
 simpa using this
theorem pfind_spec (m : Mach) (hm : MFit 20000 m) (pid : Int) (hp : i64R pid) : Spec Try.prog 26 [encM m, .int .i64 pid] (placeV (findI m.pr pid)) := by
 obtain ⟨R, hR⟩ : ∃ R, R = placeV (findI m.pr pid) := ⟨_, rfl⟩
 rw [← hR]
 have hl := hm.pr
 have hpR := hm.prR
 obtain ⟨hp1, hp2⟩ := hp
 refine spec_ok Try.func26 rfl rfl (by kernel_rfl) (k := 2) rfl (by decide) ?_
 repeat' (first|(with_reducible first|refine yrl (by constructor) ?_|refine jk (fun M hM=>?_)|(refine hM _ ?_;clear hM M)|refine yx3 ?_|refine yxa ?_ ?_|refine yxb ?_ ?_)|((with_reducible refine je ?_)<;>exact ynNF)|(with_reducible refine yxc ?_)|((with_reducible refine yxi (fun hc=>?_) (fun hc=>?_))<;>(try simp (disch:=omega) only [zhb] at hc)<;>(try (exfalso;omega))<;>(try subst hc))|(with_reducible refine yxw ?_)|(simp (config := { maxSteps := 400000 }) only [↓jt,↓reduceIte,zvs,reduceCtorEq,seval,tab,Try.results26,jTA])|(simp (disch:=omega) only [ziw]))
 refine ja (ok_body Try.func53 rfl rfl (by kernel_rfl) (k := 2) (by rfl) (by decide) ?_)
 repeat' (first|(with_reducible first|refine yrl (by constructor) ?_|refine jk (fun M hM=>?_)|(refine hM _ ?_;clear hM M)|refine yx3 ?_|refine yxa ?_ ?_|refine yxb ?_ ?_)|((with_reducible refine je ?_)<;>exact ynNF)|(with_reducible refine yxc ?_)|((with_reducible refine yxi (fun hc=>?_) (fun hc=>?_))<;>(try simp (disch:=omega) only [zhb] at hc)<;>(try (exfalso;omega))<;>(try subst hc))|(with_reducible refine yxw ?_)|(simp (config := { maxSteps := 400000 }) only [↓jt,↓reduceIte,zvs,reduceCtorEq,seval,tab,Try.results53, List.toList_toArray])|(simp (disch:=omega) only [ziw]))
 refine ok_loop (fun k : Nat => ⟨slots [(0, encPrs m.pr), (1, .fn 54 [.ptr 1 []]), (6, encPrs m.pr), (7, .int .i64 m.pr.length), (8, .int .i64 k)], rows [(0, .row machSh (encM m)), (1, .row .cell (.int .i64 pid))], 2⟩) (fun k => k ≤ m.pr.length ∧ ∀ j, j < k → (m.pr.getD j default).pid ≠ pid) (fun k => m.pr.length - k) 0 ?_ ⟨Nat.zero_le _, fun j hj => by omega⟩ (fun k hk => ?_)
 ·(refine yrn [] false ?_ ?_<;>(repeat' (first|(with_reducible first|exact ya1|exact ya2|exact ya3|refine jx rfl (by first|rfl|assumption|(simp only [znl,znNF];(first|done|fail)))|exact ya5|exact ya7|exact jy|exact jz|refine jA ?_|refine ya9 ?_ ?_ ?_|refine jC rfl (by first|rfl|assumption|(simp only [znl,znNF];(first|done|fail)))|refine MR.agg (MRL.cons ?_ ?_)|refine MR.fn ?_|refine MRL.cons ?_ ?_|exact MRL.nil|refine jE ?_ ?_|exact jF|exact jG|refine yb1 ?_ ?_|refine MB.row ?_|refine jI ?_ ?_|exact ya8|refine jJ rfl (by first|rfl|assumption|(simp only [znl,znNF];(first|done|fail)))|refine yb2 ?_|rfl)|(simp only [znl,znNF];(first|done|fail))|(simp only [↓reduceIte,zlk,Nat.reduceEqDiff,reduceCtorEq])|(with_reducible first|refine jJ ?_ ?_|refine ya5 ?_|refine ju ?_|refine jv ?_|refine jw ?_|refine jx ?_ (by first|rfl|assumption|(simp only [znl,znNF];(first|done|fail)))|refine jC ?_ (by first|rfl|assumption|(simp only [znl,znNF];(first|done|fail)))))))
  all_goals trace_state
 obtain ⟨hk, hn⟩ := hk
 by_cases hlt : k < m.pr.length
 ·have hb := hpR _ (getD_mem' hlt)
  obtain ⟨hS1, hS2, hS3⟩ := pr3 hb
  by_cases hq : (m.pr.getD k default).pid = pid
  ·have eR : R = .tup [.int .i64 k, .bool true] := by rw [hR, find_hit hlt hn hq]; rfl
   clear hR
   repeat' (first|(with_reducible first|refine yrl (by constructor) ?_|refine jk (fun M hM=>?_)|(refine hM _ ?_;clear hM M)|refine yx3 ?_|refine yxa ?_ ?_|refine yxb ?_ ?_)|((with_reducible refine je ?_)<;>exact ynNF)|(with_reducible refine yxc ?_)|((with_reducible refine yxi (fun hc=>?_) (fun hc=>?_))<;>(try simp (disch:=omega) only [zhb] at hc)<;>(try (exfalso;omega))<;>(try subst hc))|(with_reducible refine yxw ?_)|(simp (config := { maxSteps := 400000 }) only [↓jt,↓reduceIte,zvs,reduceCtorEq,seval,tab,hS1,hS2,hS3,encPr,Try.results53, List.toList_toArray])|(simp (disch:=omega) only [ziw]))
   refine ja (ok_body Try.func54 rfl rfl (by kernel_rfl) (k := 2) (by rfl) (by decide) ?_)
   repeat' (first|(with_reducible first|refine yrl (by constructor) ?_|refine jk (fun M hM=>?_)|(refine hM _ ?_;clear hM M)|refine yx3 ?_|refine yxa ?_ ?_|refine yxb ?_ ?_)|((with_reducible refine je ?_)<;>exact ynNF)|(with_reducible refine yxc ?_)|((with_reducible refine yxi (fun hc=>?_) (fun hc=>?_))<;>(try simp (disch:=omega) only [zhb] at hc)<;>(try (exfalso;omega))<;>(try subst hc))|(with_reducible refine yxw ?_)|(simp (config := { maxSteps := 400000 }) only [↓jt,↓reduceIte,zvs,reduceCtorEq,seval,tab,hS1,hS2,hS3,encPr,Try.results54,Try.results53, Try.results26, List.toList_toArray])|(simp (disch:=omega) only [ziw]))
   all_goals first
    | (exfalso; omega)
    | (rw [eR]; simp only [zrds]; done)
    | (rw [eR]; simp only [zrds]; refine ⟨by omega, ?_⟩; first | exact decide_eq_true (by omega) | exact (decide_eq_true (by omega)).symm)
    | (rw [eR]; simp only [zrds]; trace_state)
  ·have hst : ∀ j, j < k + 1 → (m.pr.getD j default).pid ≠ pid := fun j hj => by
    by_cases e : j = k
    ·rw [e]; exact hq
    ·exact hn j (by omega)
   repeat' (first|(with_reducible first|refine yrl (by constructor) ?_|refine jk (fun M hM=>?_)|(refine hM _ ?_;clear hM M)|refine yx3 ?_|refine yxa ?_ ?_|refine yxb ?_ ?_)|((with_reducible refine je ?_)<;>exact ynNF)|(with_reducible refine yxc ?_)|((with_reducible refine yxi (fun hc=>?_) (fun hc=>?_))<;>(try simp (disch:=omega) only [zhb] at hc)<;>(try (exfalso;omega))<;>(try subst hc))|(with_reducible refine yxw ?_)|(simp (config := { maxSteps := 400000 }) only [↓jt,↓reduceIte,zvs,reduceCtorEq,seval,tab,hS1,hS2,hS3,encPr,Try.results53, List.toList_toArray])|(simp (disch:=omega) only [ziw]))
   refine ja (ok_body Try.func54 rfl rfl (by kernel_rfl) (k := 2) (by rfl) (by decide) ?_)
   repeat' (first|(with_reducible first|refine yrl (by constructor) ?_|refine jk (fun M hM=>?_)|(refine hM _ ?_;clear hM M)|refine yx3 ?_|refine yxa ?_ ?_|refine yxb ?_ ?_)|((with_reducible refine je ?_)<;>exact ynNF)|(with_reducible refine yxc ?_)|((with_reducible refine yxi (fun hc=>?_) (fun hc=>?_))<;>(try simp (disch:=omega) only [zhb] at hc)<;>(try (exfalso;omega))<;>(try subst hc))|(with_reducible refine yxw ?_)|(simp (config := { maxSteps := 400000 }) only [↓jt,↓reduceIte,zvs,reduceCtorEq,seval,tab,hS1,hS2,hS3,encPr,Try.results54,Try.results53, Try.results26, List.toList_toArray])|(simp (disch:=omega) only [ziw]))
   all_goals first
    | (exfalso; omega)
    | (exfalso; exact hq rfl)
    | (refine xl1 (k + 1) ?_ ⟨by omega, hst⟩ (by show m.pr.length - (k + 1) < m.pr.length - k; omega); (refine yrn [] false ?_ ?_<;>(repeat' (first|(with_reducible first|exact ya1|exact ya2|exact ya3|refine jx rfl (by first|rfl|assumption|(simp only [znl,znNF];(first|done|fail)))|exact ya5|exact ya7|exact jy|exact jz|refine jA ?_|refine ya9 ?_ ?_ ?_|refine jC rfl (by first|rfl|assumption|(simp only [znl,znNF];(first|done|fail)))|refine MR.agg (MRL.cons ?_ ?_)|refine MR.fn ?_|refine MRL.cons ?_ ?_|exact MRL.nil|refine jE ?_ ?_|exact jF|exact jG|refine yb1 ?_ ?_|refine MB.row ?_|refine jI ?_ ?_|exact ya8|refine jJ rfl (by first|rfl|assumption|(simp only [znl,znNF];(first|done|fail)))|refine yb2 ?_|rfl)|(simp only [znl,znNF];(first|done|fail))|(simp only [↓reduceIte,zlk,Nat.reduceEqDiff,reduceCtorEq])|(with_reducible first|refine jJ ?_ ?_|refine ya5 ?_|refine ju ?_|refine jv ?_|refine jw ?_|refine jx ?_ (by first|rfl|assumption|(simp only [znl,znNF];(first|done|fail)))|refine jC ?_ (by first|rfl|assumption|(simp only [znl,znNF];(first|done|fail))))))); done)
 ·obtain rfl : k = m.pr.length := by omega
  have eR : R = .tup [.int .i64 0, .bool false] := by rw [hR, find_miss hn]; rfl
  clear hR
  repeat' (first|(with_reducible first|refine yrl (by constructor) ?_|refine jk (fun M hM=>?_)|(refine hM _ ?_;clear hM M)|refine yx3 ?_|refine yxa ?_ ?_|refine yxb ?_ ?_)|((with_reducible refine je ?_)<;>exact ynNF)|(with_reducible refine yxc ?_)|((with_reducible refine yxi (fun hc=>?_) (fun hc=>?_))<;>(try simp (disch:=omega) only [zhb] at hc)<;>(try (exfalso;omega))<;>(try subst hc))|(with_reducible refine yxw ?_)|(simp (config := { maxSteps := 400000 }) only [↓jt,↓reduceIte,zvs,reduceCtorEq,seval,tab,Try.results53, Try.results26, List.toList_toArray])|(simp (disch:=omega) only [ziw]))
  all_goals first
   | (exfalso; omega)
   | (rw [eR]; simp only [zrds]; done)
end Go.Proofs.Ytpdhdkpebbfnnaa.V
end
section
namespace Go.Proofs.Ytpdhdkpebbfnnaa.V
open Go
theorem ynT1 {l : List VV} (h : nls l = true := by first|rfl|assumption|(simp only [znl,znT1];(first|done|fail))) : nls l = true := h
set_option maxRecDepth 100000
def znT1 := And.intro @jO <| And.intro @jP <| And.intro @jQ <| And.intro @jR <| And.intro @jS <| And.intro @jT <| And.intro @jU <| True.intro
set_option maxHeartbeats 8000000
theorem rfind_spec (m : Mach) (hm : MFit 20000 m) (pid : Int) (hp : i64R pid) : Spec Try.prog 24 [encM m, .int .i64 pid] (placeV (findI m.pr pid)) := by
 obtain ⟨R, hR⟩ : ∃ R, R = placeV (findI m.pr pid) := ⟨_, rfl⟩
 rw [← hR]
 have hl := hm.pr
 obtain ⟨hp1, hp2⟩ := hp
 refine spec_ok Try.func24 rfl rfl (by kernel_rfl) (k := 2) rfl (by decide) ?_
 repeat' (first|(with_reducible first|refine yrl (by constructor) ?_|refine jk (fun M hM=>?_)|(refine hM _ ?_;clear hM M)|refine yx3 ?_|refine yxa ?_ ?_|refine yxb ?_ ?_)|((with_reducible refine je ?_)<;>exact ynT1)|(with_reducible refine yxc ?_)|((with_reducible refine yxi (fun hc=>?_) (fun hc=>?_))<;>(try simp (disch:=omega) only [zhb] at hc)<;>(try (exfalso;omega))<;>(try subst hc))|(with_reducible refine yxw ?_)|(simp (config := { maxSteps := 400000 }) only [↓jt,↓reduceIte,zvs,reduceCtorEq,seval,tab,Try.results24,jTA])|(simp (disch:=omega) only [ziw]))
 refine ok_loop (fun k : Nat => ⟨slots [(1, .int .i64 pid), (2, .ptr 0 []), (4, .int .i64 0), (5, .bool false), (6, .int .i64 k)], rows [(0, .row machSh (encM m))], 1⟩) (fun k => k ≤ m.pr.length ∧ ∀ j, j < k → (m.pr.getD j default).pid ≠ pid) (fun k => m.pr.length - k) 0 ?_ ⟨Nat.zero_le _, fun j hj => by omega⟩ (fun k hk => ?_)
 ·(refine yrn [(0, 0)] false ?_ ?_<;>(repeat' (first|(with_reducible first|exact ya1|exact ya2|exact ya3|refine jx rfl (by first|rfl|assumption|(simp only [znl,znT1];(first|done|fail)))|exact ya5|exact ya7|exact jy|exact jz|refine jA ?_|refine ya9 ?_ ?_ ?_|refine jC rfl (by first|rfl|assumption|(simp only [znl,znT1];(first|done|fail)))|refine MR.agg (MRL.cons ?_ ?_)|refine MR.fn ?_|refine MRL.cons ?_ ?_|exact MRL.nil|refine jE ?_ ?_|exact jF|exact jG|refine yb1 ?_ ?_|refine MB.row ?_|refine jI ?_ ?_|exact ya8|refine jJ rfl (by first|rfl|assumption|(simp only [znl,znT1];(first|done|fail)))|refine yb2 ?_|rfl)|(simp only [znl,znT1];(first|done|fail))|(simp only [↓reduceIte,zlk,Nat.reduceEqDiff,reduceCtorEq])|(with_reducible first|refine jJ ?_ ?_|refine ya5 ?_|refine ju ?_|refine jv ?_|refine jw ?_|refine jx ?_ (by first|rfl|assumption|(simp only [znl,znT1];(first|done|fail)))|refine jC ?_ (by first|rfl|assumption|(simp only [znl,znT1];(first|done|fail)))))))
  all_goals (first | rfl)
 obtain ⟨hk, hn⟩ := hk
 by_cases hlt : k < m.pr.length
 ·have hb := hm.prR _ (getD_mem' hlt)
  obtain ⟨hS1, hS2, hS3⟩ := pr3 hb
  by_cases hq : (m.pr.getD k default).pid = pid
  ·have eR : R = .tup [.int .i64 k, .bool true] := by rw [hR, find_hit hlt hn hq]; rfl
   clear hR
   repeat' (first|(with_reducible first|refine yrl (by constructor) ?_|refine jk (fun M hM=>?_)|(refine hM _ ?_;clear hM M)|refine yx3 ?_|refine yxa ?_ ?_|refine yxb ?_ ?_)|((with_reducible refine je ?_)<;>exact ynT1)|(with_reducible refine yxc ?_)|((with_reducible refine yxi (fun hc=>?_) (fun hc=>?_))<;>(try simp (disch:=omega) only [zhb] at hc)<;>(try (exfalso;omega))<;>(try subst hc))|(with_reducible refine yxw ?_)|(simp (config := { maxSteps := 400000 }) only [↓jt,↓reduceIte,zvs,reduceCtorEq,seval,tab,hS1,hS2,hS3,encPr,Try.results24,jTA])|(simp (disch:=omega) only [ziw]))
   all_goals first
    | (exfalso; omega)
    | (rw [eR]; simp only [zrds]; done)
  ·have hst : ∀ j, j < k + 1 → (m.pr.getD j default).pid ≠ pid := fun j hj => by
    by_cases e : j = k
    ·rw [e]; exact hq
    ·exact hn j (by omega)
   repeat' (first|(with_reducible first|refine yrl (by constructor) ?_|refine jk (fun M hM=>?_)|(refine hM _ ?_;clear hM M)|refine yx3 ?_|refine yxa ?_ ?_|refine yxb ?_ ?_)|((with_reducible refine je ?_)<;>exact ynT1)|(with_reducible refine yxc ?_)|((with_reducible refine yxi (fun hc=>?_) (fun hc=>?_))<;>(try simp (disch:=omega) only [zhb] at hc)<;>(try (exfalso;omega))<;>(try subst hc))|(with_reducible refine yxw ?_)|(simp (config := { maxSteps := 400000 }) only [↓jt,↓reduceIte,zvs,reduceCtorEq,seval,tab,hS1,hS2,hS3,encPr,Try.results24,jTA])|(simp (disch:=omega) only [ziw]))
   all_goals first
    | (exfalso; omega)
    | (exfalso; exact hq rfl)
    | (refine xl1 (k + 1) ?_ ⟨by omega, hst⟩ (by show m.pr.length - (k + 1) < m.pr.length - k; omega); (refine yrn [(0, 0)] false ?_ ?_<;>(repeat' (first|(with_reducible first|exact ya1|exact ya2|exact ya3|refine jx rfl (by first|rfl|assumption|(simp only [znl,znT1];(first|done|fail)))|exact ya5|exact ya7|exact jy|exact jz|refine jA ?_|refine ya9 ?_ ?_ ?_|refine jC rfl (by first|rfl|assumption|(simp only [znl,znT1];(first|done|fail)))|refine MR.agg (MRL.cons ?_ ?_)|refine MR.fn ?_|refine MRL.cons ?_ ?_|exact MRL.nil|refine jE ?_ ?_|exact jF|exact jG|refine yb1 ?_ ?_|refine MB.row ?_|refine jI ?_ ?_|exact ya8|refine jJ rfl (by first|rfl|assumption|(simp only [znl,znT1];(first|done|fail)))|refine yb2 ?_|rfl)|(simp only [znl,znT1];(first|done|fail))|(simp only [↓reduceIte,zlk,Nat.reduceEqDiff,reduceCtorEq])|(with_reducible first|refine jJ ?_ ?_|refine ya5 ?_|refine ju ?_|refine jv ?_|refine jw ?_|refine jx ?_ (by first|rfl|assumption|(simp only [znl,znT1];(first|done|fail)))|refine jC ?_ (by first|rfl|assumption|(simp only [znl,znT1];(first|done|fail))))))); done)
 ·obtain rfl : k = m.pr.length := by omega
  have eR : R = .tup [.int .i64 0, .bool false] := by rw [hR, find_miss hn]; rfl
  clear hR
  repeat' (first|(with_reducible first|refine yrl (by constructor) ?_|refine jk (fun M hM=>?_)|(refine hM _ ?_;clear hM M)|refine yx3 ?_|refine yxa ?_ ?_|refine yxb ?_ ?_)|((with_reducible refine je ?_)<;>exact ynT1)|(with_reducible refine yxc ?_)|((with_reducible refine yxi (fun hc=>?_) (fun hc=>?_))<;>(try simp (disch:=omega) only [zhb] at hc)<;>(try (exfalso;omega))<;>(try subst hc))|(with_reducible refine yxw ?_)|(simp (config := { maxSteps := 400000 }) only [↓jt,↓reduceIte,zvs,reduceCtorEq,seval,tab,Try.results24,jTA])|(simp (disch:=omega) only [ziw]))
  all_goals first
   | (exfalso; omega)
   | (rw [eR]; simp only [zrds]; done)
end Go.Proofs.Ytpdhdkpebbfnnaa.V
end
section
namespace Go.Proofs.Ytpdhdkpebbfnnaa.V
open Go
set_option maxRecDepth 100000
set_option maxHeartbeats 4000000
end Go.Proofs.Ytpdhdkpebbfnnaa.V
end
section
namespace Go.Proofs.Ytpdhdkpebbfnnaa.V
open Go Go.RowKit
set_option maxRecDepth 100000
set_option maxHeartbeats 1000000
abbrev i64T : Ty := .int .i64
abbrev mwT : Ty := .fcons i64T (.fcons .str .fnil)
abbrev mdT : Ty := .fcons (.sl .str) (.fcons (.sl mwT) (.fcons i64T .fnil))
abbrev mptT : Ty := .fcons .bool (.fcons .bool (.fcons i64T .fnil))
abbrev mfdT : Ty := .fcons i64T (.fcons i64T (.fcons i64T .fnil))
abbrev mcpT : Ty := .fcons (.arr 16 (.int .u32)) (.fcons (.int .u32) .fnil)
abbrev mprT : Ty := .fcons i64T (.fcons i64T (.fcons i64T (.fcons mcpT (.fcons (.arr 16 mptT) (.fcons (.arr 8 mfdT) (.fcons .bool (.fcons (.int .u32) (.fcons i64T (.fcons (.int .u64) .fnil)))))))))
abbrev mpiT : Ty := .fcons i64T (.fcons .str .fnil)
abbrev machT : Ty := .fcons (.int .u64) (.fcons i64T (.fcons i64T (.fcons i64T (.fcons (.sl .str) (.fcons (.sl mprT) (.fcons i64T (.fcons .str (.fcons (.sl mpiT) (.fcons i64T (.fcons .str (.fcons .bool (.fcons (.int .u64) (.fcons mdT (.fcons (.sl mwT) .fnil))))))))))))))
abbrev WrD := Int × List UInt8 × Unit
abbrev DrD := List (List UInt8) × List WrD × Int × Unit
abbrev PtD := Bool × Bool × Int × Unit
abbrev FdD := Int × Int × Int × Unit
abbrev CpD := List Int × Int × Unit
abbrev PrD := Int × Int × Int × CpD × List PtD × List FdD × Bool × Int × Int × Int × Unit
abbrev MachD := Int × Int × Int × Int × List (List UInt8) × List PrD × Int × List UInt8 × List WrD × Int × List UInt8 × Bool × Int × DrD × List WrD × Unit
def mWr (x : WrD) : Wr := ⟨x.1, x.2.1⟩
def mDr (x : DrD) : Dr := ⟨x.1, x.2.1.map mWr, x.2.2.1⟩
def mPt (x : PtD) : Pte := ⟨x.1, x.2.1, x.2.2.1⟩
def mFd (x : FdD) : Fdd := ⟨x.1, x.2.1, x.2.2.1⟩
def mPi (x : WrD) : Pip := ⟨x.1, x.2.1⟩
def mPr (x : PrD) : Pr := ⟨x.1, x.2.1, x.2.2.1, x.2.2.2.1.1, x.2.2.2.1.2.1, x.2.2.2.2.1.map mPt, x.2.2.2.2.2.1.map mFd, x.2.2.2.2.2.2.1, x.2.2.2.2.2.2.2.1, x.2.2.2.2.2.2.2.2.1, x.2.2.2.2.2.2.2.2.2.1⟩
def mMach (x : MachD) : Mach :=
 ⟨x.1, x.2.1, x.2.2.1, x.2.2.2.1, x.2.2.2.2.1, x.2.2.2.2.2.1.map mPr, x.2.2.2.2.2.2.1, x.2.2.2.2.2.2.2.1, x.2.2.2.2.2.2.2.2.1.map mPi, x.2.2.2.2.2.2.2.2.2.1, x.2.2.2.2.2.2.2.2.2.2.1, x.2.2.2.2.2.2.2.2.2.2.2.1, x.2.2.2.2.2.2.2.2.2.2.2.2.1, mDr x.2.2.2.2.2.2.2.2.2.2.2.2.2.1, x.2.2.2.2.2.2.2.2.2.2.2.2.2.2.1.map mWr⟩
theorem toV_mstrs (x : List (List UInt8)) : toV (.sl .str) x = encStrs x := by
 simp only [toV,tsh]
 congr 1
theorem toV_mwrs (x : List WrD) : toV (.sl mwT) x = encWrs (x.map mWr) := by
 have : toV (.sl mwT) x = .dat (.st [.cell, .cell]) (x.map (toV mwT)) := rfl
 rw [this]
 unfold encWrs
 rw [List.map_map]
 congr 1
theorem toV_mpis (x : List WrD) : toV (.sl mpiT) x = encPis (x.map mPi) := by
 have : toV (.sl mpiT) x = .dat (.st [.cell, .cell]) (x.map (toV mpiT)) := rfl
 rw [this]
 unfold encPis
 rw [List.map_map]
 congr 1
theorem toV_md (x : DrD) : toV mdT x = encDr (mDr x) := by
 have e : toV mdT x = .agg [toV (.sl .str) x.1, toV (.sl mwT) x.2.1, .int .i64 x.2.2.1] := rfl
 exact e.trans (by rw [toV_mstrs, toV_mwrs]; rfl)
theorem toV_mpr (x : PrD) : toV mprT x = encPr (mPr x) := by
 have e : toV mprT x = .agg [.int .i64 x.1, .int .i64 x.2.1, .int .i64 x.2.2.1, .agg [toV (.arr 16 (.int .u32)) x.2.2.2.1.1, .int .u32 x.2.2.2.1.2.1], toV (.arr 16 mptT) x.2.2.2.2.1, toV (.arr 8 mfdT) x.2.2.2.2.2.1, .bool x.2.2.2.2.2.2.1, .int .u32 x.2.2.2.2.2.2.2.1, .int .i64 x.2.2.2.2.2.2.2.2.1, .int .u64 x.2.2.2.2.2.2.2.2.2.1] := rfl
 have e1 : ∀ l : List Int, toV (.arr 16 (.int .u32)) l = .agg (l.map (.int .u32)) := fun l => rfl
 have e2 : ∀ l : List PtD, toV (.arr 16 mptT) l = .agg ((l.map mPt).map encPte) := fun l => by rw [List.map_map]; rfl
 have e3 : ∀ l : List FdD, toV (.arr 8 mfdT) l = .agg ((l.map mFd).map encFd) := fun l => by rw [List.map_map]; rfl
 exact e.trans (by rw [e1, e2, e3]; rfl)
theorem toV_mprs (x : List PrD) : toV (.sl mprT) x = encPrs (x.map mPr) := by
 have : toV (.sl mprT) x = .dat prSh (x.map (toV mprT)) := rfl
 rw [this]
 unfold encPrs
 rw [List.map_map]
 congr 1
 exact List.map_congr_left fun y _ => toV_mpr y
theorem toV_mach (x : MachD) : toV machT x = encM (mMach x) := by
 have e : toV machT x = .agg [.int .u64 x.1, .int .i64 x.2.1, .int .i64 x.2.2.1, .int .i64 x.2.2.2.1, toV (.sl .str) x.2.2.2.2.1, toV (.sl mprT) x.2.2.2.2.2.1, .int .i64 x.2.2.2.2.2.2.1, .str x.2.2.2.2.2.2.2.1, toV (.sl mpiT) x.2.2.2.2.2.2.2.2.1, .int .i64 x.2.2.2.2.2.2.2.2.2.1, .str x.2.2.2.2.2.2.2.2.2.2.1, .bool x.2.2.2.2.2.2.2.2.2.2.2.1, .int .u64 x.2.2.2.2.2.2.2.2.2.2.2.2.1, toV mdT x.2.2.2.2.2.2.2.2.2.2.2.2.2.1, toV (.sl mwT) x.2.2.2.2.2.2.2.2.2.2.2.2.2.2.1] := rfl
 exact e.trans (by rw [toV_mstrs, toV_mprs, toV_mpis, toV_md, toV_mwrs]; rfl)
theorem mreach47 : reachBytes ≤ 2 ^ 47 := by decide
theorem pr_good (x : PrD) (g : good mprT x) : PrR (mPr x) := by
 obtain ⟨g1, g2, g3, ⟨⟨g4, g4'⟩, g5, _⟩, ⟨g6, g6'⟩, ⟨g7, g7'⟩, _, g8, g9, g10, _⟩ := g
 have hi : ∀ y : Int, (Lit.int .i64 y).wf = true → i64R y := fun y h => bounds_i64 h
 have hu : ∀ y : Int, (Lit.int .u32 y).wf = true → u32R y := fun y h => bounds_u32 h
 refine ⟨hi _ g1, hi _ g2, hi _ g3, g4, fun y hy => hu _ (g4' y hy), hu _ g5, ?_, ?_, ?_, ?_, hu _ g8, hi _ g9, bounds_u64 g10⟩
 ·exact (List.length_map _).trans g6
 ·intro y hy
  obtain ⟨z, hz, rfl⟩ := List.mem_map.1 hy
  exact hi _ (g6' z hz).2.2.1
 ·exact (List.length_map _).trans g7
 ·intro y hy
  obtain ⟨z, hz, rfl⟩ := List.mem_map.1 hy
  exact ⟨hi _ (g7' z hz).1, hi _ (g7' z hz).2.1, hi _ (g7' z hz).2.2.1⟩
theorem mach_good (x : MachD) (g : good machT x) (l : Ty.lite machT x) : MFit (2 ^ 47) (mMach x) := by
 obtain ⟨g1, g2, g3, g4, g5, g6, g7, g8, g9, g10, g11, g12, g13, ⟨ga, gb, gc, _⟩, g15, _⟩ := g
 obtain ⟨l1, l2, l3, l4, l5, l6, l7, l8, l9, l10, l11, l12, l13, ⟨la, lb, lc, _⟩, l15, _⟩ := l
 have hi : ∀ y : Int, (Lit.int .i64 y).wf = true → i64R y := fun y h => bounds_i64 h
 have hL : ∀ {n : Nat}, n ≤ reachBytes → n ≤ 2 ^ 47 := fun h => Nat.le_trans h mreach47
 refine ⟨bounds_u64 g1, hi _ g2, hi _ g3, hi _ g4, hL l5.1, fun s hs => hL (l5.2 s hs), ?_, ?_, hi _ g7, hL l8, ?_, ?_, hi _ g10, hL l11, bounds_u64 g13, hL la.1, fun s hs => hL (la.2 s hs), ?_, ?_, hi _ gc, ?_, ?_⟩
 ·exact Nat.le_trans (Nat.le_of_eq (List.length_map _)) (hL l6.1)
 ·intro p hp
  obtain ⟨z, hz, rfl⟩ := List.mem_map.1 hp
  exact pr_good z (g6 z hz)
 ·exact Nat.le_trans (Nat.le_of_eq (List.length_map _)) (hL l9.1)
 ·intro p hp
  obtain ⟨z, hz, rfl⟩ := List.mem_map.1 hp
  exact ⟨hi _ (g9 z hz).1, hL (l9.2 z hz).2.1⟩
 ·exact Nat.le_trans (Nat.le_of_eq (List.length_map _)) (hL lb.1)
 ·intro p hp
  obtain ⟨z, hz, rfl⟩ := List.mem_map.1 hp
  exact ⟨hi _ (gb z hz).1, hL (lb.2 z hz).2.1⟩
 ·exact Nat.le_trans (Nat.le_of_eq (List.length_map _)) (hL l15.1)
 ·intro p hp
  obtain ⟨z, hz, rfl⟩ := List.mem_map.1 hp
  exact ⟨hi _ (g15 z hz).1, hL (l15.2 z hz).2.1⟩
end Go.Proofs.Ytpdhdkpebbfnnaa.V
end
section
namespace Go.Proofs.Ytpdhdkpebbfnnaa.V
open Go
theorem ynNB {l : List VV} (h : nls l = true := by first|rfl|assumption|(simp only [znl,jO];(first|done|fail))) : nls l = true := h
set_option maxRecDepth 100000
set_option maxHeartbeats 4000000
theorem bit_spec (s : List UInt8) (hs : s.length = 128) (i : Nat) (hi : i < 1024) : Spec Try.prog 150 [.str s, .int .i64 i] (.bool (bitB s i)) := by
 refine spec_ok Try.func150 rfl rfl (by kernel_rfl) (k := 2) rfl (by decide) ?_
 repeat' (first|(with_reducible first|refine yrl (by constructor) ?_|refine jk (fun M hM=>?_)|(refine hM _ ?_;clear hM M)|refine yx3 ?_|refine yxa ?_ ?_|refine yxb ?_ ?_)|((with_reducible refine je ?_)<;>exact ynNB)|(with_reducible refine yxc ?_)|((with_reducible refine yxi (fun hc=>?_) (fun hc=>?_))<;>(try simp (disch:=omega) only [zhb] at hc)<;>(try (exfalso;omega))<;>(try subst hc))|(with_reducible refine yxw ?_)|(simp (config := { maxSteps := 400000 }) only [↓jt,↓reduceIte,zvs,reduceCtorEq,seval,tab,Try.results150,jTA])|(simp (disch:=omega) only [ziw]))
 unfold bitB
 simp only [zrds]
theorem head_spec (g : Geo) (h1 : 0 ≤ g.bl ∧ g.bl < 1000) (h2 : 0 ≤ g.ino ∧ g.ino < 1000) : Spec Try.prog 121 [geoV g] (.str (headG g.bl g.ino)) := by
 obtain ⟨b, i, q, mp, tb, da⟩ := g
 dsimp only at h1 h2
 obtain ⟨b, rfl⟩ := Int.eq_ofNat_of_zero_le h1.1
 obtain ⟨i, rfl⟩ := Int.eq_ofNat_of_zero_le h2.1
 have hA : Spec Try.prog 133 [.int .u64 b, .int .i64 2] (.str (putLE b 2)) := rnum_put_spec b (by omega) 2 (by omega)
 have hB : Spec Try.prog 133 [.int .u64 i, .int .i64 2] (.str (putLE i 2)) := rnum_put_spec i (by omega) 2 (by omega)
 have hC : Spec Try.prog 122 [.int .i64 120] (.str (List.replicate 120 0)) := zeros17_spec 120 (by omega)
 have l1 := putLE_len b 2
 have l2 := putLE_len i 2
 simp only [geoV,headG,Int.toNat_natCast]
 refine spec_ok Try.func121 rfl rfl (by kernel_rfl) (k := 1) rfl (by decide) ?_
 repeat' (first|(with_reducible first|refine yrl (by constructor) ?_|refine jk (fun M hM=>?_)|(refine hM _ ?_;clear hM M)|refine yx3 ?_|refine yxa ?_ ?_|refine yxb ?_ ?_)|((with_reducible refine je ?_)<;>exact ynNB)|(with_reducible refine yxc ?_)|((with_reducible refine yxi (fun hc=>?_) (fun hc=>?_))<;>(try simp (disch:=omega) only [zhb] at hc)<;>(try (exfalso;omega))<;>(try subst hc))|(with_reducible refine yxw ?_)|(simp (config := { maxSteps := 400000 }) only [↓jt,↓reduceIte,zvs,reduceCtorEq,seval,tab,l1,l2,Try.results121,jTA])|(simp (disch:=omega) only [ziw]))
 refine ok_draw 12 (by kernel_rfl) (by decide +kernel) (by intro m hm; simp only [upd_ap,rows_cons,rows_nil]; (repeat (first | rfl | rw [if_neg (by omega)]))) (fun M hM => ?_); simp only [List.take_succ_cons,List.take_zero,List.drop_succ_cons,List.drop_zero]
 repeat' (first|(with_reducible first|refine yrl (by constructor) ?_|refine jk (fun M hM=>?_)|(refine hM _ ?_;clear hM M)|refine yx3 ?_|refine yxa ?_ ?_|refine yxb ?_ ?_)|((with_reducible refine je ?_)<;>exact ynNB)|(with_reducible refine yxc ?_)|((with_reducible refine yxi (fun hc=>?_) (fun hc=>?_))<;>(try simp (disch:=omega) only [zhb] at hc)<;>(try (exfalso;omega))<;>(try subst hc))|(with_reducible refine yxw ?_)|(simp (config := { maxSteps := 400000 }) only [↓jt,↓reduceIte,zvs,reduceCtorEq,seval,tab,l1,l2,Try.results121,jTA])|(simp (disch:=omega) only [ziw]))
 all_goals simp only [zrds]
abbrev geoSh : Sh := .st [.cell, .cell, .cell, .cell, .cell, .cell]
theorem byte_x (a b : Int) : bytesOf [VV.int .u8 (bits .xor .u8 a b)] = some [UInt8.ofNat (bits .xor .u8 a b).toNat] := by
 have h1 := bits_lo_u8 .xor a b
 have h2 := bits_hi_u8 .xor a b
 simp only [bytesOf]
 rw [if_pos (by omega)]
def turnB (s : List UInt8) (i : Nat) : List UInt8 := List.take ((i : Int) / 8).toNat s ++ [UInt8.ofNat (bits BinOp.xor IntKind.u8 ((s.getD ((i : Int) / 8).toNat 0).toNat : Int) (IntKind.u8.wrap (1 * 2 ^ min ((i : Int) % 8).toNat IntKind.u8.bits))).toNat] ++ List.take (s.length - ((i : Int) / 8 + 1).toNat) (List.drop ((i : Int) / 8 + 1).toNat s)
theorem turnB_len (s : List UInt8) (hs : s.length = 128) (i : Nat) (hi : i < 1024) : (turnB s i).length = 128 := by
 unfold turnB
 simp only [List.length_append,List.length_take,List.length_drop,List.length_cons,List.length_nil]
 omega
theorem turn_specX (s : List UInt8) (hs : s.length = 128) (i : Nat) (hi : i < 1024) : Spec Try.prog 123 [.str s, .int .i64 i] (.str (turnB s i)) := by
 refine spec_ok Try.func123 rfl rfl (by kernel_rfl) (k := 2) rfl (by decide) ?_
 repeat' (first|(with_reducible first|refine yrl (by constructor) ?_|refine jk (fun M hM=>?_)|(refine hM _ ?_;clear hM M)|refine yx3 ?_|refine yxa ?_ ?_|refine yxb ?_ ?_)|((with_reducible refine je ?_)<;>exact ynNB)|(with_reducible refine yxc ?_)|((with_reducible refine yxi (fun hc=>?_) (fun hc=>?_))<;>(try simp (disch:=omega) only [zhb] at hc)<;>(try (exfalso;omega))<;>(try subst hc))|(with_reducible refine yxw ?_)|(simp (config := { maxSteps := 400000 }) only [↓jt,↓reduceIte,zvs,reduceCtorEq,seval,tab,Try.results123,jTA])|(simp (disch:=omega) only [ziw]))
 refine ok_draw 21 (by kernel_rfl) (by decide +kernel) (by intro m hm; simp only [upd_ap,rows_cons,rows_nil]; (repeat (first | rfl | rw [if_neg (by omega)]))) (fun M hM => ?_); simp only [List.take_succ_cons,List.take_zero,List.drop_succ_cons,List.drop_zero]
 repeat' (first|(with_reducible first|refine yrl (by constructor) ?_|refine jk (fun M hM=>?_)|(refine hM _ ?_;clear hM M)|refine yx3 ?_|refine yxa ?_ ?_|refine yxb ?_ ?_)|((with_reducible refine je ?_)<;>exact ynNB)|(with_reducible refine yxc ?_)|((with_reducible refine yxi (fun hc=>?_) (fun hc=>?_))<;>(try simp (disch:=omega) only [zhb] at hc)<;>(try (exfalso;omega))<;>(try subst hc))|(with_reducible refine yxw ?_)|(simp (config := { maxSteps := 400000 }) only [↓jt,↓reduceIte,zvs,reduceCtorEq,seval,tab,byte_x,Try.results123,jTA])|(simp (disch:=omega) only [ziw]))
 exact rd_str rfl
end Go.Proofs.Ytpdhdkpebbfnnaa.V
end
section
namespace Go.Proofs.Ytpdhdkpebbfnnaa.V
open Go
set_option maxRecDepth 100000
set_option maxHeartbeats 4000000
def bl1 (L Z : List UInt8) (j : Nat) : List VV := (L :: List.replicate j Z).map .str
theorem bl1_succ (L Z : List UInt8) (j : Nat) : bl1 L Z j ++ [.str Z] = bl1 L Z (j + 1) := by simp [bl1, List.replicate_succ']
theorem bl1_len (L Z : List UInt8) (j : Nat) : (bl1 L Z j).length = j + 1 := by simp [bl1]
theorem bl1_nl (L Z : List UInt8) (j : Nat) : nls (bl1 L Z j) = true := nls_mapStr _
def bitsT (k : Nat) : List UInt8 := Nat.rec (List.replicate 128 0) (fun k w => turnB w k) k
theorem bitsT_len (k : Nat) (hk : k ≤ 6) : (bitsT k).length = 128 := by
 induction k with
 | zero => exact List.length_replicate
 | succ k ih => exact turnB_len _ (ih (by omega)) k (by omega)
end Go.Proofs.Ytpdhdkpebbfnnaa.V
end
section
namespace Go.Proofs.Ytpdhdkpebbfnnaa.V
open Go
theorem ynD2 {l : List VV} (h : nls l = true := by first|rfl|assumption|(simp only [znl,jO];(first|done|fail))) : nls l = true := h
set_option maxRecDepth 100000
set_option maxHeartbeats 1000000
theorem rcheck_spec (d : Dr) (hd : dfit d) : Spec Try.prog 128 [encDr d] (.int .i64 (checkD d)) := by
 obtain ⟨R, hR⟩ : ∃ R, R = checkD d := ⟨_, rfl⟩
 rw [← hR]
 obtain ⟨⟨hf1, hf2⟩, hf3, hf4⟩ := hd
 refine spec_ok Try.func128 rfl rfl (by kernel_rfl) (k := 1) rfl (by decide) ?_
 repeat' (first|(with_reducible first|refine yrl (by constructor) ?_|refine jk (fun M hM=>?_)|(refine hM _ ?_;clear hM M)|refine yx3 ?_|refine yxa ?_ ?_|refine yxb ?_ ?_)|((with_reducible refine je ?_)<;>exact ynD2)|(with_reducible refine yxc ?_)|((with_reducible refine yxi (fun hc=>?_) (fun hc=>?_))<;>(try simp (disch:=omega) only [zhb] at hc)<;>(try (exfalso;omega))<;>(try subst hc))|(with_reducible refine yxw ?_)|(simp (config := { maxSteps := 400000 }) only [↓jt,↓reduceIte,zvs,reduceCtorEq,seval,tab,encDr,Try.results128,jTA])|(simp (disch:=omega) only [ziw]))
 ·simp only [zrds]
  rw [hR, checkD, if_pos (by omega)]
 ·refine ok_loop (fun k : Nat => ⟨slots [(1, .ptr 0 []), (2, .int .i64 0), (3, .int .i64 k)], rows [(0, .row (.st [.cell, .cell, .cell]) (encDr d))], 1⟩) (fun k => k ≤ d.bl.length ∧ ∀ j, j < k → decide ((d.bl.getD j default).length ≠ 128) = false) (fun k => d.bl.length - k) 0 ?_ ⟨Nat.zero_le _, fun j hj => by omega⟩ (fun k hk => ?_)
  ·(refine yrn [(0, 0)] false ?_ ?_<;>(repeat' (first|(with_reducible first|exact ya1|exact ya2|exact ya3|refine jx rfl (by first|rfl|assumption|(simp only [znl,jO];(first|done|fail)))|exact ya5|exact ya7|exact jy|exact jz|refine jA ?_|refine ya9 ?_ ?_ ?_|refine jC rfl (by first|rfl|assumption|(simp only [znl,jO];(first|done|fail)))|refine MR.agg (MRL.cons ?_ ?_)|refine MR.fn ?_|refine MRL.cons ?_ ?_|exact MRL.nil|refine jE ?_ ?_|exact jF|exact jG|refine yb1 ?_ ?_|refine MB.row ?_|refine jI ?_ ?_|exact ya8|refine jJ rfl (by first|rfl|assumption|(simp only [znl,jO];(first|done|fail)))|refine yb2 ?_|rfl)|(simp only [znl,jO];(first|done|fail))|(simp only [↓reduceIte,zlk,Nat.reduceEqDiff,reduceCtorEq])|(with_reducible first|refine jJ ?_ ?_|refine ya5 ?_|refine ju ?_|refine jv ?_|refine jw ?_|refine jx ?_ (by first|rfl|assumption|(simp only [znl,jO];(first|done|fail)))|refine jC ?_ (by first|rfl|assumption|(simp only [znl,jO];(first|done|fail)))))))
  obtain ⟨hk, hn⟩ := hk
  by_cases hlt : k < d.bl.length
  ·have hs := hf2 _ (getD_mem' hlt)
   rw [default_str] at hs
   repeat' (first|(with_reducible first|refine yrl (by constructor) ?_|refine jk (fun M hM=>?_)|(refine hM _ ?_;clear hM M)|refine yx3 ?_|refine yxa ?_ ?_|refine yxb ?_ ?_)|((with_reducible refine je ?_)<;>exact ynD2)|(with_reducible refine yxc ?_)|((with_reducible refine yxi (fun hc=>?_) (fun hc=>?_))<;>(try simp (disch:=omega) only [zhb] at hc)<;>(try (exfalso;omega))<;>(try subst hc))|(with_reducible refine yxw ?_)|(simp (config := { maxSteps := 400000 }) only [↓jt,↓reduceIte,zvs,reduceCtorEq,seval,tab,encDr,Try.results128,jTA])|(simp (disch:=omega) only [ziw]))
   ·simp only [zrds]
    rw [hR, checkD, if_neg (by omega), if_pos (any_of d.bl _ k hlt (by rw [default_str]; exact decide_eq_true (by omega)))]
   ·refine xl1 (k + 1) ?_ ⟨by omega, fun j hj => ?_⟩ (by show d.bl.length - (k + 1) < d.bl.length - k; omega)
    ·(refine yrn [(0, 0)] false ?_ ?_<;>(repeat' (first|(with_reducible first|exact ya1|exact ya2|exact ya3|refine jx rfl (by first|rfl|assumption|(simp only [znl,jO];(first|done|fail)))|exact ya5|exact ya7|exact jy|exact jz|refine jA ?_|refine ya9 ?_ ?_ ?_|refine jC rfl (by first|rfl|assumption|(simp only [znl,jO];(first|done|fail)))|refine MR.agg (MRL.cons ?_ ?_)|refine MR.fn ?_|refine MRL.cons ?_ ?_|exact MRL.nil|refine jE ?_ ?_|exact jF|exact jG|refine yb1 ?_ ?_|refine MB.row ?_|refine jI ?_ ?_|exact ya8|refine jJ rfl (by first|rfl|assumption|(simp only [znl,jO];(first|done|fail)))|refine yb2 ?_|rfl)|(simp only [znl,jO];(first|done|fail))|(simp only [↓reduceIte,zlk,Nat.reduceEqDiff,reduceCtorEq])|(with_reducible first|refine jJ ?_ ?_|refine ya5 ?_|refine ju ?_|refine jv ?_|refine jw ?_|refine jx ?_ (by first|rfl|assumption|(simp only [znl,jO];(first|done|fail)))|refine jC ?_ (by first|rfl|assumption|(simp only [znl,jO];(first|done|fail)))))))
    ·by_cases e : j = k
     ·subst e
      (try rw [default_str]); exact decide_eq_false (by omega)
     ·exact hn j (by omega)
  ·obtain rfl : k = d.bl.length := by omega
   have hA := any_none d.bl (fun s => decide (s.length ≠ 128)) hn
   rw [checkD, if_neg (by omega), if_neg (by rw [hA]; simp)] at hR
   repeat' (first|(with_reducible first|refine yrl (by constructor) ?_|refine jk (fun M hM=>?_)|(refine hM _ ?_;clear hM M)|refine yx3 ?_|refine yxa ?_ ?_|refine yxb ?_ ?_)|((with_reducible refine je ?_)<;>exact ynD2)|(with_reducible refine yxc ?_)|((with_reducible refine yxi (fun hc=>?_) (fun hc=>?_))<;>(try simp (disch:=omega) only [zhb] at hc)<;>(try (exfalso;omega))<;>(try subst hc))|(with_reducible refine yxw ?_)|(simp (config := { maxSteps := 400000 }) only [↓jt,↓reduceIte,zvs,reduceCtorEq,seval,tab,encDr,Try.results128,jTA])|(simp (disch:=omega) only [ziw]))
   refine ok_loop (fun k : Nat => ⟨slots [(1, .ptr 0 []), (2, .int .i64 0), (4, .int .i64 k)], rows [(0, .row (.st [.cell, .cell, .cell]) (encDr d))], 1⟩) (fun k => k ≤ d.pe.length ∧ R = checkW d.bl.length (d.pe.drop k)) (fun k => d.pe.length - k) 0 ?_ ⟨Nat.zero_le _, hR⟩ (fun k hk => ?_)
   ·(refine yrn [(0, 0)] false ?_ ?_<;>(repeat' (first|(with_reducible first|exact ya1|exact ya2|exact ya3|refine jx rfl (by first|rfl|assumption|(simp only [znl,jO];(first|done|fail)))|exact ya5|exact ya7|exact jy|exact jz|refine jA ?_|refine ya9 ?_ ?_ ?_|refine jC rfl (by first|rfl|assumption|(simp only [znl,jO];(first|done|fail)))|refine MR.agg (MRL.cons ?_ ?_)|refine MR.fn ?_|refine MRL.cons ?_ ?_|exact MRL.nil|refine jE ?_ ?_|exact jF|exact jG|refine yb1 ?_ ?_|refine MB.row ?_|refine jI ?_ ?_|exact ya8|refine jJ rfl (by first|rfl|assumption|(simp only [znl,jO];(first|done|fail)))|refine yb2 ?_|rfl)|(simp only [znl,jO];(first|done|fail))|(simp only [↓reduceIte,zlk,Nat.reduceEqDiff,reduceCtorEq])|(with_reducible first|refine jJ ?_ ?_|refine ya5 ?_|refine ju ?_|refine jv ?_|refine jw ?_|refine jx ?_ (by first|rfl|assumption|(simp only [znl,jO];(first|done|fail)))|refine jC ?_ (by first|rfl|assumption|(simp only [znl,jO];(first|done|fail)))))))
   obtain ⟨hk, hm⟩ := hk
   by_cases hlt : k < d.pe.length
   ·have hs := hf4 _ (getD_mem' hlt)
    rw [drop_getD' d.pe k hlt, checkW] at hm
    repeat' (first|(with_reducible first|refine yrl (by constructor) ?_|refine jk (fun M hM=>?_)|(refine hM _ ?_;clear hM M)|refine yx3 ?_|refine yxa ?_ ?_|refine yxb ?_ ?_)|((with_reducible refine je ?_)<;>exact ynD2)|(with_reducible refine yxc ?_)|((with_reducible refine yxi (fun hc=>?_) (fun hc=>?_))<;>(try simp (disch:=omega) only [zhb] at hc)<;>(try (exfalso;omega))<;>(try subst hc))|(with_reducible refine yxw ?_)|(simp (config := { maxSteps := 400000 }) only [↓jt,↓reduceIte,zvs,reduceCtorEq,seval,tab,encDr,encWr,Try.results128,jTA])|(simp (disch:=omega) only [ziw]))
    refine ok_draw 19 (by kernel_rfl) (by decide +kernel) (by intro m hm; simp only [upd_ap,rows_cons,rows_nil]; (repeat (first | rfl | rw [if_neg (by omega)]))) (fun M hM => ?_); simp only [List.take_succ_cons,List.take_zero,List.drop_succ_cons,List.drop_zero]
    repeat' (first|(with_reducible first|refine yrl (by constructor) ?_|refine jk (fun M hM=>?_)|(refine hM _ ?_;clear hM M)|refine yx3 ?_|refine yxa ?_ ?_|refine yxb ?_ ?_)|((with_reducible refine je ?_)<;>exact ynD2)|(with_reducible refine yxc ?_)|((with_reducible refine yxi (fun hc=>?_) (fun hc=>?_))<;>(try simp (disch:=omega) only [zhb] at hc)<;>(try (exfalso;omega))<;>(try subst hc))|(with_reducible refine yxw ?_)|(simp (config := { maxSteps := 400000 }) only [↓jt,↓reduceIte,zvs,reduceCtorEq,seval,tab,encDr,encWr,Try.results128,jTA])|(simp (disch:=omega) only [ziw]))
    ·rw [if_pos (by omega)] at hm
     rw [hm]
     simp only [zrds]
    ·rw [if_neg (by omega), if_pos (by omega)] at hm
     rw [hm]
     simp only [zrds]
    ·rw [if_neg (by omega), if_neg (by omega)] at hm
     refine xl1 (k + 1) ?_ ⟨by omega, hm⟩ (by show d.pe.length - (k + 1) < d.pe.length - k; omega)
     (refine yrn [(0, 0)] false ?_ ?_<;>(repeat' (first|(with_reducible first|exact ya1|exact ya2|exact ya3|refine jx rfl (by first|rfl|assumption|(simp only [znl,jO];(first|done|fail)))|exact ya5|exact ya7|exact jy|exact jz|refine jA ?_|refine ya9 ?_ ?_ ?_|refine jC rfl (by first|rfl|assumption|(simp only [znl,jO];(first|done|fail)))|refine MR.agg (MRL.cons ?_ ?_)|refine MR.fn ?_|refine MRL.cons ?_ ?_|exact MRL.nil|refine jE ?_ ?_|exact jF|exact jG|refine yb1 ?_ ?_|refine MB.row ?_|refine jI ?_ ?_|exact ya8|refine jJ rfl (by first|rfl|assumption|(simp only [znl,jO];(first|done|fail)))|refine yb2 ?_|rfl)|(simp only [znl,jO];(first|done|fail))|(simp only [↓reduceIte,zlk,Nat.reduceEqDiff,reduceCtorEq])|(with_reducible first|refine jJ ?_ ?_|refine ya5 ?_|refine ju ?_|refine jv ?_|refine jw ?_|refine jx ?_ (by first|rfl|assumption|(simp only [znl,jO];(first|done|fail)))|refine jC ?_ (by first|rfl|assumption|(simp only [znl,jO];(first|done|fail)))))))
    ·rw [if_pos (by omega)] at hm
     rw [hm]
     simp only [zrds]
   ·obtain rfl : k = d.pe.length := by omega
    rw [List.drop_length, checkW] at hm
    repeat' (first|(with_reducible first|refine yrl (by constructor) ?_|refine jk (fun M hM=>?_)|(refine hM _ ?_;clear hM M)|refine yx3 ?_|refine yxa ?_ ?_|refine yxb ?_ ?_)|((with_reducible refine je ?_)<;>exact ynD2)|(with_reducible refine yxc ?_)|((with_reducible refine yxi (fun hc=>?_) (fun hc=>?_))<;>(try simp (disch:=omega) only [zhb] at hc)<;>(try (exfalso;omega))<;>(try subst hc))|(with_reducible refine yxw ?_)|(simp (config := { maxSteps := 400000 }) only [↓jt,↓reduceIte,zvs,reduceCtorEq,seval,tab,encDr,Try.results128,jTA])|(simp (disch:=omega) only [ziw]))
    simp only [zrds]
    rw [hm]
end Go.Proofs.Ytpdhdkpebbfnnaa.V
end
section
namespace Go.Proofs.Ytpdhdkpebbfnnaa.V
open Go
theorem ynN9 {l : List VV} (h : nls l = true := by first|rfl|assumption|(simp only [znl,znN9];(first|done|fail))) : nls l = true := h
set_option maxRecDepth 100000
def znN9 := And.intro @jO <| And.intro @jP <| And.intro @jQ <| And.intro @jR <| And.intro @jS <| And.intro @jT <| And.intro @jU <| True.intro
set_option maxHeartbeats 4000000
theorem checkD_le {d : Dr} (h : checkD d = 0) : d.bl.length ≤ 256 := by
 unfold checkD at h
 split at h
 ·omega
 ·omega
def badD (d : Dr) : Int := if checkD d ≠ 0 then checkD d else if d.bl.length ≤ 33 then 2 else 0
theorem bad_spec (d : Dr) (hd : dfit d) : Spec Try.prog 147 [encDr d] (.int .i64 (badD d)) := by
 have hC := rcheck_spec d hd
 obtain ⟨⟨hf1, hf2⟩, hf3, hf4⟩ := hd
 unfold badD
 by_cases h0 : checkD d = 0
 ·rw [if_neg (by omega)]
  rw [h0] at hC
  by_cases h1 : d.bl.length ≤ 33
  ·rw [if_pos h1]
   refine spec_ok Try.func147 rfl rfl (by kernel_rfl) (k := 1) rfl (by decide) ?_
   repeat' (first|(with_reducible first|refine yrl (by constructor) ?_|refine jk (fun M hM=>?_)|(refine hM _ ?_;clear hM M)|refine yx3 ?_|refine yxa ?_ ?_|refine yxb ?_ ?_)|((with_reducible refine je ?_)<;>exact ynN9)|(with_reducible refine yxc ?_)|((with_reducible refine yxi (fun hc=>?_) (fun hc=>?_))<;>(try simp (disch:=omega) only [zhb] at hc)<;>(try (exfalso;omega))<;>(try subst hc))|(with_reducible refine yxw ?_)|(simp (config := { maxSteps := 400000 }) only [↓jt,↓reduceIte,zvs,reduceCtorEq,seval,tab,Try.results147,jTA])|(simp (disch:=omega) only [ziw]))
   all_goals simp only [zrds]
  ·rw [if_neg h1]
   refine spec_ok Try.func147 rfl rfl (by kernel_rfl) (k := 1) rfl (by decide) ?_
   repeat' (first|(with_reducible first|refine yrl (by constructor) ?_|refine jk (fun M hM=>?_)|(refine hM _ ?_;clear hM M)|refine yx3 ?_|refine yxa ?_ ?_|refine yxb ?_ ?_)|((with_reducible refine je ?_)<;>exact ynN9)|(with_reducible refine yxc ?_)|((with_reducible refine yxi (fun hc=>?_) (fun hc=>?_))<;>(try simp (disch:=omega) only [zhb] at hc)<;>(try (exfalso;omega))<;>(try subst hc))|(with_reducible refine yxw ?_)|(simp (config := { maxSteps := 400000 }) only [↓jt,↓reduceIte,zvs,reduceCtorEq,seval,tab,Try.results147,jTA])|(simp (disch:=omega) only [ziw]))
   all_goals simp only [zrds]
 ·rw [if_pos h0]
  refine spec_ok Try.func147 rfl rfl (by kernel_rfl) (k := 1) rfl (by decide) ?_
  repeat' (first|(with_reducible first|refine yrl (by constructor) ?_|refine jk (fun M hM=>?_)|(refine hM _ ?_;clear hM M)|refine yx3 ?_|refine yxa ?_ ?_|refine yxb ?_ ?_)|((with_reducible refine je ?_)<;>exact ynN9)|(with_reducible refine yxc ?_)|((with_reducible refine yxi (fun hc=>?_) (fun hc=>?_))<;>(try simp (disch:=omega) only [zhb] at hc)<;>(try (exfalso;omega))<;>(try subst hc))|(with_reducible refine yxw ?_)|(simp (config := { maxSteps := 400000 }) only [↓jt,↓reduceIte,zvs,reduceCtorEq,seval,tab,Try.results147,jTA])|(simp (disch:=omega) only [ziw]))
  all_goals simp only [zrds]
theorem rhome_spec (d : Dr) (hd : dfit d) : Spec Try.prog 129 [encDr d] (encStrs (homeD d)) := by
 have hC := bad_spec d hd
 obtain ⟨⟨hf1, hf2⟩, hf3, hf4⟩ := id hd
 unfold homeD
 by_cases h0 : checkD d = 0 ∧ 33 < d.bl.length
 ·rw [if_pos h0]
  rw [badD, if_neg (by omega), if_neg (by omega)] at hC
  have hbl := checkD_le h0.1
  obtain ⟨n, hn⟩ : ∃ n, d.bl.length = 33 + n := ⟨d.bl.length - 33, by omega⟩
  rw [show d.bl.length - 33 = n by omega]
  refine spec_ok Try.func129 rfl rfl (by kernel_rfl) (k := 1) rfl (by decide) ?_
  repeat' (first|(with_reducible first|refine yrl (by constructor) ?_|refine jk (fun M hM=>?_)|(refine hM _ ?_;clear hM M)|refine yx3 ?_|refine yxa ?_ ?_|refine yxb ?_ ?_)|((with_reducible refine je ?_)<;>exact ynN9)|(with_reducible refine yxc ?_)|((with_reducible refine yxi (fun hc=>?_) (fun hc=>?_))<;>(try simp (disch:=omega) only [zhb] at hc)<;>(try (exfalso;omega))<;>(try subst hc))|(with_reducible refine yxw ?_)|(simp (config := { maxSteps := 400000 }) only [↓jt,↓reduceIte,zvs,reduceCtorEq,seval,tab,Try.results129,jTA])|(simp (disch:=omega) only [ziw]))
  refine ok_loop (fun k : Nat => ⟨slots [(1, .ptr 0 []), (2, .sl none 0), (3, .sl (some (1, [], 0)) k), (4, .int .i64 ((33 + k : Nat) : Int))], rows [(0, .row (.st [.cell, .cell, .cell]) (encDr d)), (1, .row (.arr k .cell) (.agg (((List.range k).map (homeB d)).map .str)))], 2⟩) (fun k => k ≤ n) (fun k => n - k) 0 ?_ (Nat.zero_le _) (fun k hk => ?_)
  ·(refine yrn [(0, 0), (1, 1)] false ?_ ?_<;>(repeat' (first|(with_reducible first|exact ya1|exact ya2|exact ya3|refine jx rfl (by first|rfl|assumption|(simp only [znl,znN9];(first|done|fail)))|exact ya5|exact ya7|exact jy|exact jz|refine jA ?_|refine ya9 ?_ ?_ ?_|refine jC rfl (by first|rfl|assumption|(simp only [znl,znN9];(first|done|fail)))|refine MR.agg (MRL.cons ?_ ?_)|refine MR.fn ?_|refine MRL.cons ?_ ?_|exact MRL.nil|refine jE ?_ ?_|exact jF|exact jG|refine yb1 ?_ ?_|refine MB.row ?_|refine jI ?_ ?_|exact ya8|refine jJ rfl (by first|rfl|assumption|(simp only [znl,znN9];(first|done|fail)))|refine yb2 ?_|rfl)|(simp only [znl,znN9];(first|done|fail))|(simp only [↓reduceIte,zlk,Nat.reduceEqDiff,reduceCtorEq])|(with_reducible first|refine jJ ?_ ?_|refine ya5 ?_|refine ju ?_|refine jv ?_|refine jw ?_|refine jx ?_ (by first|rfl|assumption|(simp only [znl,znN9];(first|done|fail)))|refine jC ?_ (by first|rfl|assumption|(simp only [znl,znN9];(first|done|fail)))))))
   all_goals (first | rfl | (simp; done))
  by_cases hlt : k < n
  ·have hG := rget_spec d hd ((33 + k : Nat) : Int) (by omega)
   rw [getV, if_pos (by omega), show (((33 + k : Nat) : Int)).toNat = 33 + k by omega] at hG
   have e1 : (List.range (k + 1)).map (homeB d) = (List.range k).map (homeB d) ++ [homeB d k] := by rw [List.range_succ, List.map_append]; rfl
   have e2 : homeB d k = getP d.pe ((33 + k : Nat) : Int) (d.bl.getD (33 + k) []) := rfl
   rw [← e2] at hG
   have hlr : (List.range k).length = k := List.length_range
   repeat' (first|(with_reducible first|refine yrl (by constructor) ?_|refine jk (fun M hM=>?_)|(refine hM _ ?_;clear hM M)|refine yx3 ?_|refine yxa ?_ ?_|refine yxb ?_ ?_)|((with_reducible refine je ?_)<;>exact ynN9)|(with_reducible refine yxc ?_)|((with_reducible refine yxi (fun hc=>?_) (fun hc=>?_))<;>(try simp (disch:=omega) only [zhb] at hc)<;>(try (exfalso;omega))<;>(try subst hc))|(with_reducible refine yxw ?_)|(simp (config := { maxSteps := 400000 }) only [↓jt,↓reduceIte,zvs,reduceCtorEq,seval,tab,hlr,Try.results129,jTA])|(simp (disch:=omega) only [ziw]))
   refine xl1 (k + 1) ?_ (by show k + 1 ≤ n; omega) (by show n - (k + 1) < n - k; omega)
   (refine yrn [(0, 0), (1, 3)] false ?_ ?_<;>(repeat' (first|(with_reducible first|exact ya1|exact ya2|exact ya3|refine jx rfl (by first|rfl|assumption|(simp only [znl,znN9];(first|done|fail)))|exact ya5|exact ya7|exact jy|exact jz|refine jA ?_|refine ya9 ?_ ?_ ?_|refine jC rfl (by first|rfl|assumption|(simp only [znl,znN9];(first|done|fail)))|refine MR.agg (MRL.cons ?_ ?_)|refine MR.fn ?_|refine MRL.cons ?_ ?_|exact MRL.nil|refine jE ?_ ?_|exact jF|exact jG|refine yb1 ?_ ?_|refine MB.row ?_|refine jI ?_ ?_|exact ya8|refine jJ rfl (by first|rfl|assumption|(simp only [znl,znN9];(first|done|fail)))|refine yb2 ?_|rfl)|(simp only [znl,znN9];(first|done|fail))|(simp only [↓reduceIte,zlk,Nat.reduceEqDiff,reduceCtorEq])|(with_reducible first|refine jJ ?_ ?_|refine ya5 ?_|refine ju ?_|refine jv ?_|refine jw ?_|refine jx ?_ (by first|rfl|assumption|(simp only [znl,znN9];(first|done|fail)))|refine jC ?_ (by first|rfl|assumption|(simp only [znl,znN9];(first|done|fail)))))))
   all_goals (first | rfl | (rw [e1]; simp; done))
  ·obtain rfl : k = n := by omega
   repeat' (first|(with_reducible first|refine yrl (by constructor) ?_|refine jk (fun M hM=>?_)|(refine hM _ ?_;clear hM M)|refine yx3 ?_|refine yxa ?_ ?_|refine yxb ?_ ?_)|((with_reducible refine je ?_)<;>exact ynN9)|(with_reducible refine yxc ?_)|((with_reducible refine yxi (fun hc=>?_) (fun hc=>?_))<;>(try simp (disch:=omega) only [zhb] at hc)<;>(try (exfalso;omega))<;>(try subst hc))|(with_reducible refine yxw ?_)|(simp (config := { maxSteps := 400000 }) only [↓jt,↓reduceIte,zvs,reduceCtorEq,seval,tab,Try.results129,jTA])|(simp (disch:=omega) only [ziw]))
   refine rdt_of ?_ (by rfl)
   (refine rd_own (by (simp only [↓reduceIte,zlk,Nat.reduceEqDiff,reduceCtorEq]); exact rfl) ?_ ?_ ?_) <;> (first | rfl | assumption | (simp only [znl,znN9];(first|done|fail)) | (simp; done) | (simp; omega) | skip)
 ·rw [if_neg h0]
  have hC2 : badD d ≠ 0 := by unfold badD; split <;> (try split) <;> omega
  generalize badD d = b at hC hC2
  refine spec_ok Try.func129 rfl rfl (by kernel_rfl) (k := 1) rfl (by decide) ?_
  repeat' (first|(with_reducible first|refine yrl (by constructor) ?_|refine jk (fun M hM=>?_)|(refine hM _ ?_;clear hM M)|refine yx3 ?_|refine yxa ?_ ?_|refine yxb ?_ ?_)|((with_reducible refine je ?_)<;>exact ynN9)|(with_reducible refine yxc ?_)|((with_reducible refine yxi (fun hc=>?_) (fun hc=>?_))<;>(try simp (disch:=omega) only [zhb] at hc)<;>(try (exfalso;omega))<;>(try subst hc))|(with_reducible refine yxw ?_)|(simp (config := { maxSteps := 400000 }) only [↓jt,↓reduceIte,zvs,reduceCtorEq,seval,tab,Try.results129,jTA])|(simp (disch:=omega) only [ziw]))
  all_goals first
   | (exfalso; omega)
   | (refine rdt_of ?_ (by rfl); (refine rd_own (by (simp only [↓reduceIte,zlk,Nat.reduceEqDiff,reduceCtorEq]); exact rfl) ?_ ?_ ?_) <;> (first | rfl | assumption | (simp only [znl,znN9];(first|done|fail)) | (simp; done) | (simp; omega) | skip); done)
end Go.Proofs.Ytpdhdkpebbfnnaa.V
end
section
namespace Go.Proofs.Ytpdhdkpebbfnnaa.V
open Go
theorem ytND0 {n0 n n' : Nat} {tm : Nat → VV} {H : Heap} {l : List (Nat × VV)} {h : List (Nat × Blk)} (σ : List (Nat × Nat)) (fz : Bool) (h1 : AllS n0 σ H fz tm l := by (repeat' (first|(with_reducible first|exact ya1|exact ya2|exact ya3|refine jx rfl (by first|rfl|assumption|(simp only [znl,znND];(first|done|fail)))|exact ya5|exact ya7|exact jy|exact jz|refine jA ?_|refine ya9 ?_ ?_ ?_|refine jC rfl (by first|rfl|assumption|(simp only [znl,znND];(first|done|fail)))|refine MR.agg (MRL.cons ?_ ?_)|refine MR.fn ?_|refine MRL.cons ?_ ?_|exact MRL.nil|refine jE ?_ ?_|exact jF|exact jG|refine yb1 ?_ ?_|refine MB.row ?_|refine jI ?_ ?_|exact ya8|refine jJ rfl (by first|rfl|assumption|(simp only [znl,znND];(first|done|fail)))|refine yb2 ?_|rfl)|(simp only [znl,znND];(first|done|fail))|(simp only [↓reduceIte,zlk,Nat.reduceEqDiff,reduceCtorEq])|(with_reducible first|refine jJ ?_ ?_|refine ya5 ?_|refine ju ?_|refine jv ?_|refine jw ?_|refine jx ?_ (by first|rfl|assumption|(simp only [znl,znND];(first|done|fail)))|refine jC ?_ (by first|rfl|assumption|(simp only [znl,znND];(first|done|fail))))))<;>rfl) (h3 : AllB n0 σ H fz h := by (repeat' (first|(with_reducible first|exact ya1|exact ya2|exact ya3|refine jx rfl (by first|rfl|assumption|(simp only [znl,znND];(first|done|fail)))|exact ya5|exact ya7|exact jy|exact jz|refine jA ?_|refine ya9 ?_ ?_ ?_|refine jC rfl (by first|rfl|assumption|(simp only [znl,znND];(first|done|fail)))|refine MR.agg (MRL.cons ?_ ?_)|refine MR.fn ?_|refine MRL.cons ?_ ?_|exact MRL.nil|refine jE ?_ ?_|exact jF|exact jG|refine yb1 ?_ ?_|refine MB.row ?_|refine jI ?_ ?_|exact ya8|refine jJ rfl (by first|rfl|assumption|(simp only [znl,znND];(first|done|fail)))|refine yb2 ?_|rfl)|(simp only [znl,znND];(first|done|fail))|(simp only [↓reduceIte,zlk,Nat.reduceEqDiff,reduceCtorEq])|(with_reducible first|refine jJ ?_ ?_|refine ya5 ?_|refine ju ?_|refine jv ?_|refine jw ?_|refine jx ?_ (by first|rfl|assumption|(simp only [znl,znND];(first|done|fail)))|refine jC ?_ (by first|rfl|assumption|(simp only [znl,znND];(first|done|fail))))))<;>rfl) (hfz : fz = true → n0 = 0 := by first | (intro h; cases h; done) | exact fun _ => rfl) (hσ : jN n0 n' (h.map (·.1)) σ = true := by first | decide | rfl | (simp [jN]; done)) (hn : n0 ≤ n' := by decide) : Ren n0 ⟨tm, H, n⟩ ⟨slots l, rows h, n'⟩ := yrn σ fz h1 h3 hfz hσ hn
theorem ytND1 {n0 n n' : Nat} {tm : Nat → VV} {H : Heap} {l : List (Nat × VV)} {h : List (Nat × Blk)} (σ : List (Nat × Nat)) (fz : Bool) (h1 : AllS n0 σ H fz tm l := by repeat' (first|(with_reducible first|exact ya1|exact ya2|exact ya3|refine jx rfl (by first|rfl|assumption|(simp only [znl,znND];(first|done|fail)))|exact ya5|exact ya7|exact jy|exact jz|refine jA ?_|refine ya9 ?_ ?_ ?_|refine jC rfl (by first|rfl|assumption|(simp only [znl,znND];(first|done|fail)))|refine MR.agg (MRL.cons ?_ ?_)|refine MR.fn ?_|refine MRL.cons ?_ ?_|exact MRL.nil|refine jE ?_ ?_|exact jF|exact jG|refine yb1 ?_ ?_|refine MB.row ?_|refine jI ?_ ?_|exact ya8|refine jJ rfl (by first|rfl|assumption|(simp only [znl,znND];(first|done|fail)))|refine yb2 ?_|rfl)|(simp only [znl,znND];(first|done|fail))|(simp only [↓reduceIte,zlk,Nat.reduceEqDiff,reduceCtorEq])|(with_reducible first|refine jJ ?_ ?_|refine ya5 ?_|refine ju ?_|refine jv ?_|refine jw ?_|refine jx ?_ (by first|rfl|assumption|(simp only [znl,znND];(first|done|fail)))|refine jC ?_ (by first|rfl|assumption|(simp only [znl,znND];(first|done|fail)))))) (h3 : AllB n0 σ H fz h := by repeat' (first|(with_reducible first|exact ya1|exact ya2|exact ya3|refine jx rfl (by first|rfl|assumption|(simp only [znl,znND];(first|done|fail)))|exact ya5|exact ya7|exact jy|exact jz|refine jA ?_|refine ya9 ?_ ?_ ?_|refine jC rfl (by first|rfl|assumption|(simp only [znl,znND];(first|done|fail)))|refine MR.agg (MRL.cons ?_ ?_)|refine MR.fn ?_|refine MRL.cons ?_ ?_|exact MRL.nil|refine jE ?_ ?_|exact jF|exact jG|refine yb1 ?_ ?_|refine MB.row ?_|refine jI ?_ ?_|exact ya8|refine jJ rfl (by first|rfl|assumption|(simp only [znl,znND];(first|done|fail)))|refine yb2 ?_|rfl)|(simp only [znl,znND];(first|done|fail))|(simp only [↓reduceIte,zlk,Nat.reduceEqDiff,reduceCtorEq])|(with_reducible first|refine jJ ?_ ?_|refine ya5 ?_|refine ju ?_|refine jv ?_|refine jw ?_|refine jx ?_ (by first|rfl|assumption|(simp only [znl,znND];(first|done|fail)))|refine jC ?_ (by first|rfl|assumption|(simp only [znl,znND];(first|done|fail)))))) (hfz : fz = true → n0 = 0 := by first | (intro h; cases h; done) | exact fun _ => rfl) (hσ : jN n0 n' (h.map (·.1)) σ = true := by first | decide | rfl | (simp [jN]; done)) (hn : n0 ≤ n' := by decide) : Ren n0 ⟨tm, H, n⟩ ⟨slots l, rows h, n'⟩ := yrn σ fz h1 h3 hfz hσ hn
theorem ynND {l : List VV} (h : nls l = true := by first|rfl|assumption|(simp only [znl,znND];(first|done|fail))) : nls l = true := h
set_option maxRecDepth 100000
def znND := And.intro @jO <| And.intro @jP <| And.intro @jQ <| And.intro @jR <| And.intro @jS <| And.intro @jT <| And.intro @jU <| True.intro
set_option maxHeartbeats 4000000
theorem wrV_len (v : Frames) (w : Wr) : (wrV v w).length = v.length := by
 unfold wrV; split <;> simp
theorem foldl_wrV_len (l : List Wr) : ∀ v : Frames, (l.foldl wrV v).length = v.length := by
 induction l with
 | nil => intro v; rfl
 | cons w l ih => intro v; rw [List.foldl_cons, ih, wrV_len]
theorem homeD_len (d : Dr) : (homeD d).length ≤ d.bl.length := by
 unfold homeD; split
 ·simp
 ·simp
theorem getP_mem (i : Int) : ∀ (pe : List Wr) (s : List UInt8), getP pe i s = s ∨ ∃ w ∈ pe, getP pe i s = w.d
 | [], s => .inl rfl
 | w :: l, s => by
  have e : getP (w :: l) i s = getP l i (if w.b = i then w.d else s) := rfl
  rw [e]
  rcases getP_mem i l (if w.b = i then w.d else s) with h | ⟨x, h1, h2⟩
  ·by_cases hw : w.b = i
   ·rw [if_pos hw] at h ⊢
    exact .inr ⟨w, by simp, h⟩
   ·rw [if_neg hw] at h ⊢
    exact .inl h
  ·exact .inr ⟨x, by simp [h1], h2⟩
theorem homeD_fit {d : Dr} {n : Nat} (h1 : ∀ s ∈ d.bl, s.length ≤ n) (h2 : ∀ w ∈ d.pe, w.d.length ≤ n) : ∀ s ∈ homeD d, s.length ≤ n := by
 intro s hs
 unfold homeD at hs
 split at hs
 ·obtain ⟨i, hi, rfl⟩ := List.mem_map.1 hs
  have hi := List.mem_range.1 hi
  unfold homeB
  rcases getP_mem ((33 + i : Nat) : Int) d.pe (d.bl.getD (33 + i) []) with h | ⟨w, hw, h⟩
  ·rw [h]
   have := h1 _ (getD_mem' (show 33 + i < d.bl.length by omega))
   rw [default_str] at this
   exact this
  ·rw [h]; exact h2 w hw
 ·cases hs
theorem wrV_fit {v : Frames} {w : Wr} {n : Nat} (h1 : ∀ s ∈ v, s.length ≤ n) (h2 : w.d.length ≤ n) : ∀ s ∈ wrV v w, s.length ≤ n := by
 intro s hs
 unfold wrV at hs
 split at hs
 ·rcases List.mem_or_eq_of_mem_set hs with h | h
  ·exact h1 s h
  ·rw [h]; exact h2
 ·exact h1 s hs
theorem foldl_wrV_fit {n : Nat} (l : List Wr) : ∀ v : Frames, (∀ s ∈ v, s.length ≤ n) → (∀ w ∈ l, w.d.length ≤ n) → ∀ s ∈ l.foldl wrV v, s.length ≤ n := by
 induction l with
 | nil => intro v h1 _; exact h1
 | cons w l ih => intro v h1 h2; rw [List.foldl_cons]; exact ih _ (wrV_fit h1 (h2 w (by simp))) fun x hx => h2 x (by simp [hx])
theorem dfit_of {m : Mach} (hm : MFit 20000 m) : dfit m.dr :=
 ⟨⟨by have := hm.bl; omega, fun s hs => by have := hm.blS s hs; omega⟩, by have := hm.pe; omega, fun w hw => by have := (hm.peS w hw).2; omega⟩
theorem volume_spec (m : Mach) (hm : MFit 20000 m) : Spec Try.prog 131 [encM m] (encStrs (volM m)) := by
 have hH := rhome_spec m.dr (dfit_of hm)
 have hlen := homeD_len m.dr
 have hb := hm.bl
 have hd := hm.dirty
 have hdS := hm.dirtyS
 unfold volM
 generalize homeD m.dr = h0 at hH hlen ⊢
 refine spec_ok Try.func131 rfl rfl (by kernel_rfl) (k := 1) rfl (by decide) ?_
 repeat' (first|(with_reducible first|refine yrl (by constructor) ?_|refine jk (fun M hM=>?_)|(refine hM _ ?_;clear hM M)|refine yx3 ?_|refine yxa ?_ ?_|refine yxb ?_ ?_)|((with_reducible refine je ?_)<;>exact ynND)|(with_reducible refine yxc ?_)|((with_reducible refine yxi (fun hc=>?_) (fun hc=>?_))<;>(try simp (disch:=omega) only [zhb] at hc)<;>(try (exfalso;omega))<;>(try subst hc))|(with_reducible refine yxw ?_)|(simp (config := { maxSteps := 400000 }) only [↓jt,↓reduceIte,zvs,reduceCtorEq,seval,tab,Try.results131,jTA])|(simp (disch:=omega) only [ziw]))
 refine ok_loop (fun k : Nat => ⟨slots [(1, .ptr 0 []), (2, .sl none 0), (3, .sl (some (1, [], 0)) h0.length), (12, encWrs m.dirty), (13, .int .i64 m.dirty.length), (14, .int .i64 k)], rows [(0, .row machSh (encM m)), (1, .row (.arr h0.length .cell) (.agg (((m.dirty.take k).foldl wrV h0).map .str)))], 2⟩) (fun k => k ≤ m.dirty.length) (fun k => m.dirty.length - k) 0 ?_ (Nat.zero_le _) (fun k hk => ?_)
 ·(refine yrn [(0, 0), (1, 2)] false ?_ ?_<;>(repeat' (first|(with_reducible first|exact ya1|exact ya2|exact ya3|refine jx rfl (by first|rfl|assumption|(simp only [znl,znND];(first|done|fail)))|exact ya5|exact ya7|exact jy|exact jz|refine jA ?_|refine ya9 ?_ ?_ ?_|refine jC rfl (by first|rfl|assumption|(simp only [znl,znND];(first|done|fail)))|refine MR.agg (MRL.cons ?_ ?_)|refine MR.fn ?_|refine MRL.cons ?_ ?_|exact MRL.nil|refine jE ?_ ?_|exact jF|exact jG|refine yb1 ?_ ?_|refine MB.row ?_|refine jI ?_ ?_|exact ya8|refine jJ rfl (by first|rfl|assumption|(simp only [znl,znND];(first|done|fail)))|refine yb2 ?_|rfl)|(simp only [znl,znND];(first|done|fail))|(simp only [↓reduceIte,zlk,Nat.reduceEqDiff,reduceCtorEq])|(with_reducible first|refine jJ ?_ ?_|refine ya5 ?_|refine ju ?_|refine jv ?_|refine jw ?_|refine jx ?_ (by first|rfl|assumption|(simp only [znl,znND];(first|done|fail)))|refine jC ?_ (by first|rfl|assumption|(simp only [znl,znND];(first|done|fail)))))))
  all_goals (first | rfl | (simp; done))
 have hvl := foldl_wrV_len (m.dirty.take k) h0
 by_cases hlt : k < m.dirty.length
 ·obtain ⟨⟨hw1, hw2⟩, hw3⟩ := hdS _ (getD_mem' hlt)
  have e1 : (m.dirty.take (k + 1)).foldl wrV h0 = wrV ((m.dirty.take k).foldl wrV h0) (m.dirty.getD k default) := by
   rw [take_snoc m.dirty k hlt, List.foldl_append]; rfl
  generalize (m.dirty.take k).foldl wrV h0 = v at hvl e1 ⊢
  have hset : ∀ (i : Nat) (s : List UInt8), (v.map VV.str).set i (.str s) = (v.set i s).map VV.str := fun i s => (List.map_set ..).symm
  by_cases hq : 0 ≤ (m.dirty.getD k default).b ∧ (m.dirty.getD k default).b < v.length
  ·have e1 := e1.trans (show wrV v (m.dirty.getD k default) = v.set (m.dirty.getD k default).b.toNat (m.dirty.getD k default).d from if_pos hq)
   repeat' (first|(with_reducible first|refine yrl (by constructor) ?_|refine jk (fun M hM=>?_)|(refine hM _ ?_;clear hM M)|refine yx3 ?_|refine yxa ?_ ?_|refine yxb ?_ ?_)|((with_reducible refine je ?_)<;>exact ynND)|(with_reducible refine yxc ?_)|((with_reducible refine yxi (fun hc=>?_) (fun hc=>?_))<;>(try simp (disch:=omega) only [zhb] at hc)<;>(try (exfalso;omega))<;>(try subst hc))|(with_reducible refine yxw ?_)|(simp (config := { maxSteps := 400000 }) only [↓jt,↓reduceIte,zvs,reduceCtorEq,seval,tab,encWr,hvl,hset,Try.results131,jTA])|(simp (disch:=omega) only [ziw]))
   all_goals first
    | (exfalso; omega)
    | (refine xl1 (k + 1) ?_ (by show k + 1 ≤ m.dirty.length; omega) (by show m.dirty.length - (k + 1) < m.dirty.length - k; omega); (refine yrn [(0, 0), (1, 1)] false ?_ ?_<;>(repeat' (first|(with_reducible first|exact ya1|exact ya2|exact ya3|refine jx rfl (by first|rfl|assumption|(simp only [znl,znND];(first|done|fail)))|exact ya5|exact ya7|exact jy|exact jz|refine jA ?_|refine ya9 ?_ ?_ ?_|refine jC rfl (by first|rfl|assumption|(simp only [znl,znND];(first|done|fail)))|refine MR.agg (MRL.cons ?_ ?_)|refine MR.fn ?_|refine MRL.cons ?_ ?_|exact MRL.nil|refine jE ?_ ?_|exact jF|exact jG|refine yb1 ?_ ?_|refine MB.row ?_|refine jI ?_ ?_|exact ya8|refine jJ rfl (by first|rfl|assumption|(simp only [znl,znND];(first|done|fail)))|refine yb2 ?_|rfl)|(simp only [znl,znND];(first|done|fail))|(simp only [↓reduceIte,zlk,Nat.reduceEqDiff,reduceCtorEq])|(with_reducible first|refine jJ ?_ ?_|refine ya5 ?_|refine ju ?_|refine jv ?_|refine jw ?_|refine jx ?_ (by first|rfl|assumption|(simp only [znl,znND];(first|done|fail)))|refine jC ?_ (by first|rfl|assumption|(simp only [znl,znND];(first|done|fail))))))); all_goals (first | rfl | (rw [e1]; done)))
  ·have e1 := e1.trans (show wrV v (m.dirty.getD k default) = v from if_neg hq)
   repeat' (first|(with_reducible first|refine yrl (by constructor) ?_|refine jk (fun M hM=>?_)|(refine hM _ ?_;clear hM M)|refine yx3 ?_|refine yxa ?_ ?_|refine yxb ?_ ?_)|((with_reducible refine je ?_)<;>exact ynND)|(with_reducible refine yxc ?_)|((with_reducible refine yxi (fun hc=>?_) (fun hc=>?_))<;>(try simp (disch:=omega) only [zhb] at hc)<;>(try (exfalso;omega))<;>(try subst hc))|(with_reducible refine yxw ?_)|(simp (config := { maxSteps := 400000 }) only [↓jt,↓reduceIte,zvs,reduceCtorEq,seval,tab,encWr,hvl,hset,Try.results131,jTA])|(simp (disch:=omega) only [ziw]))
   all_goals first
    | (exfalso; omega)
    | (refine xl1 (k + 1) ?_ (by show k + 1 ≤ m.dirty.length; omega) (by show m.dirty.length - (k + 1) < m.dirty.length - k; omega); (refine yrn [(0, 0), (1, 1)] false ?_ ?_<;>(repeat' (first|(with_reducible first|exact ya1|exact ya2|exact ya3|refine jx rfl (by first|rfl|assumption|(simp only [znl,znND];(first|done|fail)))|exact ya5|exact ya7|exact jy|exact jz|refine jA ?_|refine ya9 ?_ ?_ ?_|refine jC rfl (by first|rfl|assumption|(simp only [znl,znND];(first|done|fail)))|refine MR.agg (MRL.cons ?_ ?_)|refine MR.fn ?_|refine MRL.cons ?_ ?_|exact MRL.nil|refine jE ?_ ?_|exact jF|exact jG|refine yb1 ?_ ?_|refine MB.row ?_|refine jI ?_ ?_|exact ya8|refine jJ rfl (by first|rfl|assumption|(simp only [znl,znND];(first|done|fail)))|refine yb2 ?_|rfl)|(simp only [znl,znND];(first|done|fail))|(simp only [↓reduceIte,zlk,Nat.reduceEqDiff,reduceCtorEq])|(with_reducible first|refine jJ ?_ ?_|refine ya5 ?_|refine ju ?_|refine jv ?_|refine jw ?_|refine jx ?_ (by first|rfl|assumption|(simp only [znl,znND];(first|done|fail)))|refine jC ?_ (by first|rfl|assumption|(simp only [znl,znND];(first|done|fail))))))); all_goals (first | rfl | (rw [e1]; done)))
 ·obtain rfl : k = m.dirty.length := by omega
  rw [List.take_length] at *
  repeat' (first|(with_reducible first|refine yrl (by constructor) ?_|refine jk (fun M hM=>?_)|(refine hM _ ?_;clear hM M)|refine yx3 ?_|refine yxa ?_ ?_|refine yxb ?_ ?_)|((with_reducible refine je ?_)<;>exact ynND)|(with_reducible refine yxc ?_)|((with_reducible refine yxi (fun hc=>?_) (fun hc=>?_))<;>(try simp (disch:=omega) only [zhb] at hc)<;>(try (exfalso;omega))<;>(try subst hc))|(with_reducible refine yxw ?_)|(simp (config := { maxSteps := 400000 }) only [↓jt,↓reduceIte,zvs,reduceCtorEq,seval,tab,List.take_length,Try.results131,jTA])|(simp (disch:=omega) only [ziw]))
  all_goals first
   | (exfalso; omega)
   | (refine rdt_of ?_ (by rfl); (refine rd_own (by (simp only [↓reduceIte,zlk,Nat.reduceEqDiff,reduceCtorEq]); exact rfl) ?_ ?_ ?_) <;> (first | rfl | assumption | (simp only [znl,znND];(first|done|fail)) | (simp; done) | (simp; omega) | skip); done)
theorem of_spec (v : Frames) (hv : v.length ≤ 20000) (hs : ∀ s ∈ v, s.length ≤ 2 ^ 47) : ∃ g, Spec Try.prog 130 [encStrs v] (.tup [geoV g, .int .i64 (volE v)]) := by
 have h6 : ∀ a : VV, List.replicate 6 a = [a, a, a, a, a, a] := fun _ => rfl
 have hw0 := hs (v.getD 0 [])
 obtain ⟨R, hR⟩ : ∃ R, R = volE v := ⟨_, rfl⟩
 rw [← hR]
 unfold volE at hR
 dsimp only at hR
 by_cases hA : ∃ k, k < v.length ∧ (v.getD k []).length ≠ 128
 ·obtain ⟨k0, hk0, hk1⟩ := hA
  have hAny : (v.any fun s => decide (s.length ≠ 128)) = true := by
   rw [List.any_eq_true]
   refine ⟨v.getD k0 [], ?_, decide_eq_true hk1⟩
   have := getD_mem' hk0
   rw [default_str] at this
   exact this
  have hR : R = 3 := by
   rw [hR]
   split
   ·rfl
   ·first | rfl | rw [if_pos hAny]
  rw [hR]
  refine ⟨⟨0, 0, 0, 0, 0, 0⟩, spec_ok Try.func130 rfl rfl (by kernel_rfl) (k := 1) rfl (by decide) ?_⟩
  simp only [geoV]
  repeat' (first|(with_reducible first|refine yrl (by constructor) ?_|refine jk (fun M hM=>?_)|(refine hM _ ?_;clear hM M)|refine yx3 ?_|refine yxa ?_ ?_|refine yxb ?_ ?_)|((with_reducible refine je ?_)<;>exact ynND)|(with_reducible refine yxc ?_)|((with_reducible refine yxi (fun hc=>?_) (fun hc=>?_))<;>(try simp (disch:=omega) only [zhb] at hc)<;>(try (exfalso;omega))<;>(try subst hc))|(with_reducible refine yxw ?_)|(simp (config := { maxSteps := 400000 }) only [↓jt,↓reduceIte,zvs,reduceCtorEq,seval,tab,h6,Try.results130,jTA])|(simp (disch:=omega) only [ziw]))
  all_goals first
   | (exfalso; omega)
   | (simp only [zrds]; done)
   | skip
  refine ok_loop (fun k : Nat => ⟨slots [(0, encStrs v), (2, .ptr 0 []), (13, encStrs v), (14, .int .i64 v.length), (15, .int .i64 k)], rows [(0, .row geoSh (.agg [.int .i64 0, .int .i64 0, .int .i64 0, .int .i64 0, .int .i64 0, .int .i64 0]))], 1⟩) (fun k => k ≤ k0) (fun k => v.length - k) 0 ?_ (Nat.zero_le _) (fun k hk => ?_)
  ·(exact ytND0 [(0, 0)] false)
   all_goals (first | rfl)
  have hsk := hs _ (getD_mem' (show k < v.length by omega))
  rw [default_str] at hsk
  repeat' (first|(with_reducible first|refine yrl (by constructor) ?_|refine jk (fun M hM=>?_)|(refine hM _ ?_;clear hM M)|refine yx3 ?_|refine yxa ?_ ?_|refine yxb ?_ ?_)|((with_reducible refine je ?_)<;>exact ynND)|(with_reducible refine yxc ?_)|((with_reducible refine yxi (fun hc=>?_) (fun hc=>?_))<;>(try simp (disch:=omega) only [zhb] at hc)<;>(try (exfalso;omega))<;>(try subst hc))|(with_reducible refine yxw ?_)|(simp (config := { maxSteps := 400000 }) only [↓jt,↓reduceIte,zvs,reduceCtorEq,seval,tab,h6,Try.results130,jTA])|(simp (disch:=omega) only [ziw]))
  all_goals first
   | (exfalso; omega)
   | (simp only [zrds]; done)
   | (refine xl1 (k + 1) ?_ (by by_cases e : k = k0; (subst e; exfalso; omega); show k + 1 ≤ k0; omega) (by show v.length - (k + 1) < v.length - k; omega); (exact ytND1 [(0, 0)] false); done)
 have hA : ∀ s ∈ v, s.length = 128 := fun s h => by
  obtain ⟨i, hi, rfl⟩ := List.mem_iff_getElem.1 h
  refine Decidable.byContradiction fun hc => hA ⟨i, hi, ?_⟩
  rw [List.getD_eq_getElem?_getD, List.getElem?_eq_getElem hi]
  exact hc
 have hAny : (v.any fun s => decide (s.length ≠ 128)) = false := by
  rw [List.any_eq_false]
  intro s h
  rw [hA s h]; simp
 rw [hAny] at hR
 by_cases h3 : v.length < 3
 ·rw [if_pos (by omega)] at hR
  rw [hR]
  refine ⟨⟨0, 0, 0, 0, 0, 0⟩, spec_ok Try.func130 rfl rfl (by kernel_rfl) (k := 1) rfl (by decide) ?_⟩
  repeat' (first|(with_reducible first|refine yrl (by constructor) ?_|refine jk (fun M hM=>?_)|(refine hM _ ?_;clear hM M)|refine yx3 ?_|refine yxa ?_ ?_|refine yxb ?_ ?_)|((with_reducible refine je ?_)<;>exact ynND)|(with_reducible refine yxc ?_)|((with_reducible refine yxi (fun hc=>?_) (fun hc=>?_))<;>(try simp (disch:=omega) only [zhb] at hc)<;>(try (exfalso;omega))<;>(try subst hc))|(with_reducible refine yxw ?_)|(simp (config := { maxSteps := 400000 }) only [↓jt,↓reduceIte,zvs,reduceCtorEq,seval,tab,h6,Try.results130,jTA])|(simp (disch:=omega) only [ziw]))
  all_goals first
   | (exfalso; omega)
   | (simp only [geoV]; simp only [zrds]; done)
 have hl0 : (v.getD 0 []).length = 128 := by
  have := hA _ (getD_mem' (show 0 < v.length by omega))
  rw [default_str] at this
  exact this
 have hl2 : (v.getD 2 []).length = 128 := by
  have := hA _ (getD_mem' (show 2 < v.length by omega))
  rw [default_str] at this
  exact this
 have hb : ((v.getD 0 []).drop 6 |>.take 2).length = 2 := by rw [List.length_take, List.length_drop]; omega
 have hN := rnum_get_spec (((v.getD 0 []).drop 6).take 2) (by omega)
 have hNl := getLE_lt (((v.getD 0 []).drop 6).take 2)
 rw [hb] at hNl
 generalize getLE (((v.getD 0 []).drop 6).take 2) = ino at hN hNl hR
 have hNl : ino < 65536 := hNl
 have hP := plan_spec v.length ino (by omega) (by omega)
 have hq : (planG v.length ino).2 ≠ 0 ∨ (planG v.length ino = (⟨v.length, ino, 1, 2, 3, 3 + ((ino : Int) + 1) / 2⟩, 0) ∧ 16 ≤ v.length ∧ v.length ≤ 223 ∧ 4 ≤ ino ∧ ino ≤ 64 ∧ 3 + (ino + 1) / 2 < v.length) := by
  unfold planG
  split
  ·left; simp
  ·split
   ·left; simp
   ·right; exact ⟨rfl, by omega, by omega, by omega, by omega, by omega⟩
 rcases hq with hq | ⟨hq, q1, q2, q3, q4, q5⟩
 ·have hR : R = 3 := by
   rw [hR]
   split
   ·rfl
   ·rw [if_neg (by simp), if_pos (.inl hq)]
  rw [hR]
  obtain ⟨⟨g, e⟩, hp⟩ : ∃ x, planG v.length ino = x := ⟨_, rfl⟩
  rw [hp] at hP hq
  dsimp only at hq
  simp only [planV,geoV] at hP
  refine ⟨⟨0, 0, 0, 0, 0, 0⟩, spec_ok Try.func130 rfl rfl (by kernel_rfl) (k := 1) rfl (by decide) ?_⟩
  repeat' (first|(with_reducible first|refine yrl (by constructor) ?_|refine jk (fun M hM=>?_)|(refine hM _ ?_;clear hM M)|refine yx3 ?_|refine yxa ?_ ?_|refine yxb ?_ ?_)|((with_reducible refine je ?_)<;>exact ynND)|(with_reducible refine yxc ?_)|((with_reducible refine yxi (fun hc=>?_) (fun hc=>?_))<;>(try simp (disch:=omega) only [zhb] at hc)<;>(try (exfalso;omega))<;>(try subst hc))|(with_reducible refine yxw ?_)|(simp (config := { maxSteps := 400000 }) only [↓jt,↓reduceIte,zvs,reduceCtorEq,seval,tab,h6,Try.results130,jTA])|(simp (disch:=omega) only [ziw]))
  all_goals (try (exfalso; omega))
  refine ok_loop (fun k : Nat => ⟨slots [(0, encStrs v), (2, .ptr 0 []), (13, encStrs v), (14, .int .i64 v.length), (15, .int .i64 k)], rows [(0, .row geoSh (.agg [.int .i64 0, .int .i64 0, .int .i64 0, .int .i64 0, .int .i64 0, .int .i64 0]))], 1⟩) (fun k => k ≤ v.length) (fun k => v.length - k) 0 ?_ (Nat.zero_le _) (fun k hk => ?_)
  ·(exact ytND0 [(0, 0)] false)
   all_goals (first | rfl)
  by_cases hlt : k < v.length
  ·have hsk := hA _ (getD_mem' hlt)
   rw [default_str] at hsk
   repeat' (first|(with_reducible first|refine yrl (by constructor) ?_|refine jk (fun M hM=>?_)|(refine hM _ ?_;clear hM M)|refine yx3 ?_|refine yxa ?_ ?_|refine yxb ?_ ?_)|((with_reducible refine je ?_)<;>exact ynND)|(with_reducible refine yxc ?_)|((with_reducible refine yxi (fun hc=>?_) (fun hc=>?_))<;>(try simp (disch:=omega) only [zhb] at hc)<;>(try (exfalso;omega))<;>(try subst hc))|(with_reducible refine yxw ?_)|(simp (config := { maxSteps := 400000 }) only [↓jt,↓reduceIte,zvs,reduceCtorEq,seval,tab,h6,hsk,Try.results130,jTA])|(simp (disch:=omega) only [ziw]))
   all_goals first
    | (exfalso; omega)
    | (refine xl1 (k + 1) ?_ (by show k + 1 ≤ v.length; omega) (by show v.length - (k + 1) < v.length - k; omega); (exact ytND1 [(0, 0)] false); done)
  obtain rfl : k = v.length := by omega
  repeat' (first|(with_reducible first|refine yrl (by constructor) ?_|refine jk (fun M hM=>?_)|(refine hM _ ?_;clear hM M)|refine yx3 ?_|refine yxa ?_ ?_|refine yxb ?_ ?_)|((with_reducible refine je ?_)<;>exact ynND)|(with_reducible refine yxc ?_)|((with_reducible refine yxi (fun hc=>?_) (fun hc=>?_))<;>(try simp (disch:=omega) only [zhb] at hc)<;>(try (exfalso;omega))<;>(try subst hc))|(with_reducible refine yxw ?_)|(simp (config := { maxSteps := 400000 }) only [↓jt,↓reduceIte,zvs,reduceCtorEq,seval,tab,h6,hl0,Try.results130,jTA])|(simp (disch:=omega) only [ziw]))
  refine ok_draw 9 (by kernel_rfl) (by decide +kernel) (by intro m hm; simp only [upd_ap,rows_cons,rows_nil]; (repeat (first | rfl | rw [if_neg (by omega)]))) (fun M hM => ?_); simp only [List.take_succ_cons,List.take_zero,List.drop_succ_cons,List.drop_zero]
  repeat' (first|(with_reducible first|refine yrl (by constructor) ?_|refine jk (fun M hM=>?_)|(refine hM _ ?_;clear hM M)|refine yx3 ?_|refine yxa ?_ ?_|refine yxb ?_ ?_)|((with_reducible refine je ?_)<;>exact ynND)|(with_reducible refine yxc ?_)|((with_reducible refine yxi (fun hc=>?_) (fun hc=>?_))<;>(try simp (disch:=omega) only [zhb] at hc)<;>(try (exfalso;omega))<;>(try subst hc))|(with_reducible refine yxw ?_)|(simp (config := { maxSteps := 400000 }) only [↓jt,↓reduceIte,zvs,reduceCtorEq,seval,tab,h6,hl0,Try.results130,jTA])|(simp (disch:=omega) only [ziw]))
  all_goals first
   | (exfalso; omega)
   | (simp only [geoV]; simp only [zrds]; done)
 rw [hq] at hP hR
 simp only [planV,geoV] at hP
 have hH := head_spec ⟨v.length, ino, 1, 2, 3, 3 + ((ino : Int) + 1) / 2⟩ (by dsimp only; omega) (by dsimp only; omega)
 simp only [geoV] at hH
 rw [if_neg (by omega), if_neg (by simp)] at hR
 dsimp only at hR
 by_cases hd : v.getD 0 [] = headG v.length ino
 ·rw [if_neg (by rintro (h | h); exact h rfl; exact h hd)] at hR
  rw [← hd] at hH
  refine ⟨if R = 0 then ⟨v.length, ino, 1, 2, 3, 3 + ((ino : Int) + 1) / 2⟩ else ⟨0, 0, 0, 0, 0, 0⟩, spec_ok Try.func130 rfl rfl (by kernel_rfl) (k := 1) rfl (by decide) ?_⟩
  repeat' (first|(with_reducible first|refine yrl (by constructor) ?_|refine jk (fun M hM=>?_)|(refine hM _ ?_;clear hM M)|refine yx3 ?_|refine yxa ?_ ?_|refine yxb ?_ ?_)|((with_reducible refine je ?_)<;>exact ynND)|(with_reducible refine yxc ?_)|((with_reducible refine yxi (fun hc=>?_) (fun hc=>?_))<;>(try simp (disch:=omega) only [zhb] at hc)<;>(try (exfalso;omega))<;>(try subst hc))|(with_reducible refine yxw ?_)|(simp (config := { maxSteps := 400000 }) only [↓jt,↓reduceIte,zvs,reduceCtorEq,seval,tab,h6,Try.results130,jTA])|(simp (disch:=omega) only [ziw]))
  all_goals (try (exfalso; omega))
  refine ok_loop (fun k : Nat => ⟨slots [(0, encStrs v), (2, .ptr 0 []), (13, encStrs v), (14, .int .i64 v.length), (15, .int .i64 k)], rows [(0, .row geoSh (.agg [.int .i64 0, .int .i64 0, .int .i64 0, .int .i64 0, .int .i64 0, .int .i64 0]))], 1⟩) (fun k => k ≤ v.length) (fun k => v.length - k) 0 ?_ (Nat.zero_le _) (fun k hk => ?_)
  ·(exact ytND0 [(0, 0)] false)
   all_goals (first | rfl)
  by_cases hlt : k < v.length
  ·have hsk := hA _ (getD_mem' hlt)
   rw [default_str] at hsk
   repeat' (first|(with_reducible first|refine yrl (by constructor) ?_|refine jk (fun M hM=>?_)|(refine hM _ ?_;clear hM M)|refine yx3 ?_|refine yxa ?_ ?_|refine yxb ?_ ?_)|((with_reducible refine je ?_)<;>exact ynND)|(with_reducible refine yxc ?_)|((with_reducible refine yxi (fun hc=>?_) (fun hc=>?_))<;>(try simp (disch:=omega) only [zhb] at hc)<;>(try (exfalso;omega))<;>(try subst hc))|(with_reducible refine yxw ?_)|(simp (config := { maxSteps := 400000 }) only [↓jt,↓reduceIte,zvs,reduceCtorEq,seval,tab,h6,hsk,Try.results130,jTA])|(simp (disch:=omega) only [ziw]))
   all_goals first
    | (exfalso; omega)
    | (refine xl1 (k + 1) ?_ (by show k + 1 ≤ v.length; omega) (by show v.length - (k + 1) < v.length - k; omega); (exact ytND1 [(0, 0)] false); done)
  obtain rfl : k = v.length := by omega
  repeat' (first|(with_reducible first|refine yrl (by constructor) ?_|refine jk (fun M hM=>?_)|(refine hM _ ?_;clear hM M)|refine yx3 ?_|refine yxa ?_ ?_|refine yxb ?_ ?_)|((with_reducible refine je ?_)<;>exact ynND)|(with_reducible refine yxc ?_)|((with_reducible refine yxi (fun hc=>?_) (fun hc=>?_))<;>(try simp (disch:=omega) only [zhb] at hc)<;>(try (exfalso;omega))<;>(try subst hc))|(with_reducible refine yxw ?_)|(simp (config := { maxSteps := 400000 }) only [↓jt,↓reduceIte,zvs,reduceCtorEq,seval,tab,h6,hl0,Try.results130,jTA])|(simp (disch:=omega) only [ziw]))
  refine ok_draw 9 (by kernel_rfl) (by decide +kernel) (by intro m hm; simp only [upd_ap,rows_cons,rows_nil]; (repeat (first | rfl | rw [if_neg (by omega)]))) (fun M hM => ?_); simp only [List.take_succ_cons,List.take_zero,List.drop_succ_cons,List.drop_zero]
  repeat' (first|(with_reducible first|refine yrl (by constructor) ?_|refine jk (fun M hM=>?_)|(refine hM _ ?_;clear hM M)|refine yx3 ?_|refine yxa ?_ ?_|refine yxb ?_ ?_)|((with_reducible refine je ?_)<;>exact ynND)|(with_reducible refine yxc ?_)|((with_reducible refine yxi (fun hc=>?_) (fun hc=>?_))<;>(try simp (disch:=omega) only [zhb] at hc)<;>(try (exfalso;omega))<;>(try subst hc))|(with_reducible refine yxw ?_)|(simp (config := { maxSteps := 400000 }) only [↓jt,↓reduceIte,zvs,reduceCtorEq,seval,tab,h6,hl0,Try.results130,jTA])|(simp (disch:=omega) only [ziw]))
  obtain ⟨Q, hQ⟩ : ∃ Q : Nat → Bool, Q = fun (k : Nat) => !((decide ((k : Int) < 3 + ((ino : Int) + 1) / 2) && !bitB (v.getD 2 []) k) || (decide ((v.length : Int) ≤ k) && bitB (v.getD 2 []) k)) := ⟨_, rfl⟩
  rw [← hQ] at hR
  refine ok_loop (fun k : Nat => ⟨slots [(0, encStrs v), (2, .ptr 0 []), (6, .ptr 1 []), (8, .int .i64 k)], rows [(0, .row geoSh (.agg [.int .i64 0, .int .i64 0, .int .i64 0, .int .i64 0, .int .i64 0, .int .i64 0])), (1, .row geoSh (.agg [.int .i64 v.length, .int .i64 ino, .int .i64 1, .int .i64 2, .int .i64 3, .int .i64 (3 + ((ino : Int) + 1) / 2)]))], 2⟩) (fun k => k ≤ 1024 ∧ ∀ j, j < k → Q j = true) (fun k => 1024 - k) 0 ?_ ⟨Nat.zero_le _, fun j hj => by omega⟩ (fun k hk => ?_)
  ·(exact ytND0 [(0, 0), (1, 1)] false)
   all_goals (first | rfl)
  obtain ⟨hk, hn⟩ := hk
  by_cases hlt : k < 1024
  ·have hB := bit_spec (v.getD 2 []) hl2 k hlt
   have hF : Q k = false → R = 3 := fun h => by
    rw [hR, if_neg]
    rw [List.all_eq_true]
    intro h2
    rw [h2 k (List.mem_range.2 hlt)] at h
    cases h
   have hst : Q k = true → ∀ j, j < k + 1 → Q j = true := fun h j hj => by
    by_cases e : j = k
    ·rw [e]; exact h
    ·exact hn j (by omega)
   have hQk : Q k = !((decide ((k : Int) < 3 + ((ino : Int) + 1) / 2) && !bitB (v.getD 2 []) k) || (decide ((v.length : Int) ≤ k) && bitB (v.getD 2 []) k)) := by rw [hQ]
   generalize bitB (v.getD 2 []) k = b at hB hQk
   cases b
   all_goals
    repeat' (first|(with_reducible first|refine yrl (by constructor) ?_|refine jk (fun M hM=>?_)|(refine hM _ ?_;clear hM M)|refine yx3 ?_|refine yxa ?_ ?_|refine yxb ?_ ?_)|((with_reducible refine je ?_)<;>exact ynND)|(with_reducible refine yxc ?_)|((with_reducible refine yxi (fun hc=>?_) (fun hc=>?_))<;>(try simp (disch:=omega) only [zhb] at hc)<;>(try (exfalso;omega))<;>(try subst hc))|(with_reducible refine yxw ?_)|(simp (config := { maxSteps := 400000 }) only [↓jt,↓reduceIte,zvs,reduceCtorEq,seval,tab,h6,hl2,Try.results130,jTA])|(simp (disch:=omega) only [ziw]))
    all_goals first
     | (exfalso; omega)
     | (rw [hF (by rw [hQk]; first | (rw [decide_eq_true (by omega)]; rfl) | (rw [decide_eq_false (by omega), decide_eq_true (by omega)]; rfl) | (rw [decide_eq_true (by omega), decide_eq_true (by omega)]; rfl)), if_neg (by omega)]; simp only [geoV]; simp only [zrds]; done)
     | (refine xl1 (k + 1) ?_ ⟨by omega, hst (by rw [hQk]; first | (rw [decide_eq_false (by omega)]; (first | rfl | (cases decide ((v.length : Int) ≤ k) <;> rfl))) | (rw [decide_eq_false (show ¬(v.length : Int) ≤ k by omega)]; cases decide ((k : Int) < 3 + ((ino : Int) + 1) / 2) <;> rfl))⟩ (by show 1024 - (k + 1) < 1024 - k; omega); (exact ytND1 [(0, 0), (1, 1)] false); done)
  ·obtain rfl : k = 1024 := by omega
   have hT : R = 0 := by
    rw [hR, if_pos]
    rw [List.all_eq_true]
    intro j hj
    exact hn j (List.mem_range.1 hj)
   rw [hT, if_pos rfl]
   repeat' (first|(with_reducible first|refine yrl (by constructor) ?_|refine jk (fun M hM=>?_)|(refine hM _ ?_;clear hM M)|refine yx3 ?_|refine yxa ?_ ?_|refine yxb ?_ ?_)|((with_reducible refine je ?_)<;>exact ynND)|(with_reducible refine yxc ?_)|((with_reducible refine yxi (fun hc=>?_) (fun hc=>?_))<;>(try simp (disch:=omega) only [zhb] at hc)<;>(try (exfalso;omega))<;>(try subst hc))|(with_reducible refine yxw ?_)|(simp (config := { maxSteps := 400000 }) only [↓jt,↓reduceIte,zvs,reduceCtorEq,seval,tab,h6,hl2,Try.results130,jTA])|(simp (disch:=omega) only [ziw]))
   all_goals first
    | (exfalso; omega)
    | (simp only [geoV]; simp only [zrds]; done)
 ·have hR : R = 3 := by rw [hR, if_pos (.inr hd)]
  rw [hR]
  refine ⟨⟨0, 0, 0, 0, 0, 0⟩, spec_ok Try.func130 rfl rfl (by kernel_rfl) (k := 1) rfl (by decide) ?_⟩
  repeat' (first|(with_reducible first|refine yrl (by constructor) ?_|refine jk (fun M hM=>?_)|(refine hM _ ?_;clear hM M)|refine yx3 ?_|refine yxa ?_ ?_|refine yxb ?_ ?_)|((with_reducible refine je ?_)<;>exact ynND)|(with_reducible refine yxc ?_)|((with_reducible refine yxi (fun hc=>?_) (fun hc=>?_))<;>(try simp (disch:=omega) only [zhb] at hc)<;>(try (exfalso;omega))<;>(try subst hc))|(with_reducible refine yxw ?_)|(simp (config := { maxSteps := 400000 }) only [↓jt,↓reduceIte,zvs,reduceCtorEq,seval,tab,h6,Try.results130,jTA])|(simp (disch:=omega) only [ziw]))
  all_goals (try (exfalso; omega))
  refine ok_loop (fun k : Nat => ⟨slots [(0, encStrs v), (2, .ptr 0 []), (13, encStrs v), (14, .int .i64 v.length), (15, .int .i64 k)], rows [(0, .row geoSh (.agg [.int .i64 0, .int .i64 0, .int .i64 0, .int .i64 0, .int .i64 0, .int .i64 0]))], 1⟩) (fun k => k ≤ v.length) (fun k => v.length - k) 0 ?_ (Nat.zero_le _) (fun k hk => ?_)
  ·(exact ytND0 [(0, 0)] false)
   all_goals (first | rfl)
  by_cases hlt : k < v.length
  ·have hsk := hA _ (getD_mem' hlt)
   rw [default_str] at hsk
   repeat' (first|(with_reducible first|refine yrl (by constructor) ?_|refine jk (fun M hM=>?_)|(refine hM _ ?_;clear hM M)|refine yx3 ?_|refine yxa ?_ ?_|refine yxb ?_ ?_)|((with_reducible refine je ?_)<;>exact ynND)|(with_reducible refine yxc ?_)|((with_reducible refine yxi (fun hc=>?_) (fun hc=>?_))<;>(try simp (disch:=omega) only [zhb] at hc)<;>(try (exfalso;omega))<;>(try subst hc))|(with_reducible refine yxw ?_)|(simp (config := { maxSteps := 400000 }) only [↓jt,↓reduceIte,zvs,reduceCtorEq,seval,tab,h6,hsk,Try.results130,jTA])|(simp (disch:=omega) only [ziw]))
   all_goals first
    | (exfalso; omega)
    | (refine xl1 (k + 1) ?_ (by show k + 1 ≤ v.length; omega) (by show v.length - (k + 1) < v.length - k; omega); (exact ytND1 [(0, 0)] false); done)
  obtain rfl : k = v.length := by omega
  repeat' (first|(with_reducible first|refine yrl (by constructor) ?_|refine jk (fun M hM=>?_)|(refine hM _ ?_;clear hM M)|refine yx3 ?_|refine yxa ?_ ?_|refine yxb ?_ ?_)|((with_reducible refine je ?_)<;>exact ynND)|(with_reducible refine yxc ?_)|((with_reducible refine yxi (fun hc=>?_) (fun hc=>?_))<;>(try simp (disch:=omega) only [zhb] at hc)<;>(try (exfalso;omega))<;>(try subst hc))|(with_reducible refine yxw ?_)|(simp (config := { maxSteps := 400000 }) only [↓jt,↓reduceIte,zvs,reduceCtorEq,seval,tab,h6,hl0,Try.results130,jTA])|(simp (disch:=omega) only [ziw]))
  refine ok_draw 9 (by kernel_rfl) (by decide +kernel) (by intro m hm; simp only [upd_ap,rows_cons,rows_nil]; (repeat (first | rfl | rw [if_neg (by omega)]))) (fun M hM => ?_); simp only [List.take_succ_cons,List.take_zero,List.drop_succ_cons,List.drop_zero]
  repeat' (first|(with_reducible first|refine yrl (by constructor) ?_|refine jk (fun M hM=>?_)|(refine hM _ ?_;clear hM M)|refine yx3 ?_|refine yxa ?_ ?_|refine yxb ?_ ?_)|((with_reducible refine je ?_)<;>exact ynND)|(with_reducible refine yxc ?_)|((with_reducible refine yxi (fun hc=>?_) (fun hc=>?_))<;>(try simp (disch:=omega) only [zhb] at hc)<;>(try (exfalso;omega))<;>(try subst hc))|(with_reducible refine yxw ?_)|(simp (config := { maxSteps := 400000 }) only [↓jt,↓reduceIte,zvs,reduceCtorEq,seval,tab,h6,hl0,Try.results130,jTA])|(simp (disch:=omega) only [ziw]))
  all_goals first
   | (exfalso; omega)
   | (exfalso; exact hd hc)
   | (simp only [geoV]; simp only [zrds]; done)
end Go.Proofs.Ytpdhdkpebbfnnaa.V
end
section
namespace Go.Proofs.Ytpdhdkpebbfnnaa.V
open Go
theorem ynN5 {l : List VV} (h : nls l = true := by first|rfl|assumption|(simp only [znl,znN5];(first|done|fail))) : nls l = true := h
set_option maxRecDepth 100000
def znN5 := And.intro @jO <| And.intro @jP <| And.intro @jQ <| And.intro @jR <| And.intro @jS <| And.intro @jT <| And.intro @jU <| True.intro
set_option maxHeartbeats 1000000
theorem pipe_hit {l : List Pip} {id : Int} {k : Nat} (h : k < l.length) (hn : ∀ j, j < k → (l.getD j default).id ≠ id) (hk : (l.getD k default).id = id) : pipeO l id = some (l.getD k default) := by
 unfold pipeO
 rw [List.find?_eq_some_iff_getElem]
 have e : l.getD k default = l[k] := by rw [List.getD_eq_getElem?_getD, List.getElem?_eq_getElem h]; rfl
 refine ⟨by simpa using hk, k, h, e.symm, fun j hj => ?_⟩
 have := hn j hj
 rw [List.getD_eq_getElem?_getD, List.getElem?_eq_getElem (by omega)] at this
 simpa using this
theorem pipe_miss {l : List Pip} {id : Int} (hn : ∀ j, j < l.length → (l.getD j default).id ≠ id) : pipeO l id = none := by
 unfold pipeO
 rw [List.find?_eq_none]
 intro x hx
 obtain ⟨j, hj, rfl⟩ := List.mem_iff_getElem.1 hx
 have := hn j hj
 rw [List.getD_eq_getElem?_getD, List.getElem?_eq_getElem hj] at this
 simpa using this
theorem rpipe_spec (m : Mach) (hm : MFit 20000 m) (id : Int) (hp : i64R id) : Spec Try.prog 146 [encM m, .int .i64 id] (pipeV (pipeO m.pipes id)) := by
 obtain ⟨R, hR⟩ : ∃ R, R = pipeV (pipeO m.pipes id) := ⟨_, rfl⟩
 rw [← hR]
 have hl := hm.pipes
 have hpR := hm.pipesR
 obtain ⟨hp1, hp2⟩ := hp
 refine spec_ok Try.func146 rfl rfl (by kernel_rfl) (k := 2) rfl (by decide) ?_
 repeat' (first|(with_reducible first|refine yrl (by constructor) ?_|refine jk (fun M hM=>?_)|(refine hM _ ?_;clear hM M)|refine yx3 ?_|refine yxa ?_ ?_|refine yxb ?_ ?_)|((with_reducible refine je ?_)<;>exact ynN5)|(with_reducible refine yxc ?_)|((with_reducible refine yxi (fun hc=>?_) (fun hc=>?_))<;>(try simp (disch:=omega) only [zhb] at hc)<;>(try (exfalso;omega))<;>(try subst hc))|(with_reducible refine yxw ?_)|(simp (config := { maxSteps := 400000 }) only [↓jt,↓reduceIte,zvs,reduceCtorEq,seval,tab,Try.results146,jTA])|(simp (disch:=omega) only [ziw]))
 refine ok_loop (fun k : Nat => ⟨slots [(1, .int .i64 id), (2, .ptr 0 []), (4, .ptr 1 []), (5, .bool false), (9, encPis m.pipes), (10, .int .i64 m.pipes.length), (11, .int .i64 k)], rows [(0, .row machSh (encM m)), (1, .row piSh (.agg [.int .i64 0, .str []]))], 2⟩) (fun k => k ≤ m.pipes.length ∧ ∀ j, j < k → (m.pipes.getD j default).id ≠ id) (fun k => m.pipes.length - k) 0 ?_ ⟨Nat.zero_le _, fun j hj => by omega⟩ (fun k hk => ?_)
 ·(refine yrn [(0, 0), (1, 1)] false ?_ ?_<;>(repeat' (first|(with_reducible first|exact ya1|exact ya2|exact ya3|refine jx rfl (by first|rfl|assumption|(simp only [znl,znN5];(first|done|fail)))|exact ya5|exact ya7|exact jy|exact jz|refine jA ?_|refine ya9 ?_ ?_ ?_|refine jC rfl (by first|rfl|assumption|(simp only [znl,znN5];(first|done|fail)))|refine MR.agg (MRL.cons ?_ ?_)|refine MR.fn ?_|refine MRL.cons ?_ ?_|exact MRL.nil|refine jE ?_ ?_|exact jF|exact jG|refine yb1 ?_ ?_|refine MB.row ?_|refine jI ?_ ?_|exact ya8|refine jJ rfl (by first|rfl|assumption|(simp only [znl,znN5];(first|done|fail)))|refine yb2 ?_|rfl)|(simp only [znl,znN5];(first|done|fail))|(simp only [↓reduceIte,zlk,Nat.reduceEqDiff,reduceCtorEq])|(with_reducible first|refine jJ ?_ ?_|refine ya5 ?_|refine ju ?_|refine jv ?_|refine jw ?_|refine jx ?_ (by first|rfl|assumption|(simp only [znl,znN5];(first|done|fail)))|refine jC ?_ (by first|rfl|assumption|(simp only [znl,znN5];(first|done|fail)))))))
 obtain ⟨hk, hn⟩ := hk
 by_cases hlt : k < m.pipes.length
 ·obtain ⟨⟨hb1, hb2⟩, hb3⟩ := hpR _ (getD_mem' hlt)
  by_cases hq : (m.pipes.getD k default).id = id
  ·rw [pipe_hit hlt hn hq] at hR
   repeat' (first|(with_reducible first|refine yrl (by constructor) ?_|refine jk (fun M hM=>?_)|(refine hM _ ?_;clear hM M)|refine yx3 ?_|refine yxa ?_ ?_|refine yxb ?_ ?_)|((with_reducible refine je ?_)<;>exact ynN5)|(with_reducible refine yxc ?_)|((with_reducible refine yxi (fun hc=>?_) (fun hc=>?_))<;>(try simp (disch:=omega) only [zhb] at hc)<;>(try (exfalso;omega))<;>(try subst hc))|(with_reducible refine yxw ?_)|(simp (config := { maxSteps := 400000 }) only [↓jt,↓reduceIte,zvs,reduceCtorEq,seval,tab,encPi,Try.results146,jTA])|(simp (disch:=omega) only [ziw]))
   all_goals first
    | (exfalso; omega)
    | (rw [hR]; simp only [pipeV,encPi]; simp only [zrds]; done)
    | (rw [hR]; simp only [pipeV,encPi]; simp only [zrds]; rw [hq])
  ·repeat' (first|(with_reducible first|refine yrl (by constructor) ?_|refine jk (fun M hM=>?_)|(refine hM _ ?_;clear hM M)|refine yx3 ?_|refine yxa ?_ ?_|refine yxb ?_ ?_)|((with_reducible refine je ?_)<;>exact ynN5)|(with_reducible refine yxc ?_)|((with_reducible refine yxi (fun hc=>?_) (fun hc=>?_))<;>(try simp (disch:=omega) only [zhb] at hc)<;>(try (exfalso;omega))<;>(try subst hc))|(with_reducible refine yxw ?_)|(simp (config := { maxSteps := 400000 }) only [↓jt,↓reduceIte,zvs,reduceCtorEq,seval,tab,encPi,Try.results146,jTA])|(simp (disch:=omega) only [ziw]))
   all_goals first
    | (exfalso; omega)
    | (refine xl1 (k + 1) ?_ ⟨by omega, fun j hj => ?_⟩ (by show m.pipes.length - (k + 1) < m.pipes.length - k; omega) <;> first | (by_cases e : j = k; (rw [e]; exact hq); exact hn j (by omega)) | ((refine yrn [(0, 0), (1, 1)] false ?_ ?_<;>(repeat' (first|(with_reducible first|exact ya1|exact ya2|exact ya3|refine jx rfl (by first|rfl|assumption|(simp only [znl,znN5];(first|done|fail)))|exact ya5|exact ya7|exact jy|exact jz|refine jA ?_|refine ya9 ?_ ?_ ?_|refine jC rfl (by first|rfl|assumption|(simp only [znl,znN5];(first|done|fail)))|refine MR.agg (MRL.cons ?_ ?_)|refine MR.fn ?_|refine MRL.cons ?_ ?_|exact MRL.nil|refine jE ?_ ?_|exact jF|exact jG|refine yb1 ?_ ?_|refine MB.row ?_|refine jI ?_ ?_|exact ya8|refine jJ rfl (by first|rfl|assumption|(simp only [znl,znN5];(first|done|fail)))|refine yb2 ?_|rfl)|(simp only [znl,znN5];(first|done|fail))|(simp only [↓reduceIte,zlk,Nat.reduceEqDiff,reduceCtorEq])|(with_reducible first|refine jJ ?_ ?_|refine ya5 ?_|refine ju ?_|refine jv ?_|refine jw ?_|refine jx ?_ (by first|rfl|assumption|(simp only [znl,znN5];(first|done|fail)))|refine jC ?_ (by first|rfl|assumption|(simp only [znl,znN5];(first|done|fail))))))); done))
 ·obtain rfl : k = m.pipes.length := by omega
  rw [pipe_miss hn] at hR
  repeat' (first|(with_reducible first|refine yrl (by constructor) ?_|refine jk (fun M hM=>?_)|(refine hM _ ?_;clear hM M)|refine yx3 ?_|refine yxa ?_ ?_|refine yxb ?_ ?_)|((with_reducible refine je ?_)<;>exact ynN5)|(with_reducible refine yxc ?_)|((with_reducible refine yxi (fun hc=>?_) (fun hc=>?_))<;>(try simp (disch:=omega) only [zhb] at hc)<;>(try (exfalso;omega))<;>(try subst hc))|(with_reducible refine yxw ?_)|(simp (config := { maxSteps := 400000 }) only [↓jt,↓reduceIte,zvs,reduceCtorEq,seval,tab,encPi,Try.results146,jTA])|(simp (disch:=omega) only [ziw]))
  all_goals first
   | (exfalso; omega)
   | (rw [hR]; simp only [pipeV]; simp only [zrds]; done)
theorem users_spec (m : Mach) (hm : MFit 20000 m) (f : Int) (hf : i64R f) : Spec Try.prog 126 [encM m, .int .i64 f] (.int .i64 (usersN m.pr f)) := by
 obtain ⟨R, hR⟩ : ∃ R, R = usersN m.pr f := ⟨_, rfl⟩
 rw [← hR]
 have hl := hm.pr
 have hpR := hm.prR
 have hU : ∀ k, k ≤ m.pr.length → usersN (m.pr.take k) f ≤ 16 * k := fun k hk => by
  have := usersN_le f (m.pr.take k) fun p hp => (hpR p (List.mem_of_mem_take hp)).sp
  rw [List.length_take] at this
  omega
 obtain ⟨hp1, hp2⟩ := hf
 refine spec_ok Try.func126 rfl rfl (by kernel_rfl) (k := 2) rfl (by decide) ?_
 repeat' (first|(with_reducible first|refine yrl (by constructor) ?_|refine jk (fun M hM=>?_)|(refine hM _ ?_;clear hM M)|refine yx3 ?_|refine yxa ?_ ?_|refine yxb ?_ ?_)|((with_reducible refine je ?_)<;>exact ynN5)|(with_reducible refine yxc ?_)|((with_reducible refine yxi (fun hc=>?_) (fun hc=>?_))<;>(try simp (disch:=omega) only [zhb] at hc)<;>(try (exfalso;omega))<;>(try subst hc))|(with_reducible refine yxw ?_)|(simp (config := { maxSteps := 400000 }) only [↓jt,↓reduceIte,zvs,reduceCtorEq,seval,tab,Try.results126,jTA])|(simp (disch:=omega) only [ziw]))
 refine ok_loop (fun k : Nat => ⟨slots [(1, .int .i64 f), (2, .ptr 0 []), (4, .int .i64 0), (5, .int .i64 (usersN (m.pr.take k) f)), (11, encPrs m.pr), (12, .int .i64 m.pr.length), (13, .int .i64 k)], rows [(0, .row machSh (encM m))], 1⟩) (fun k => k ≤ m.pr.length) (fun k => m.pr.length - k) 0 ?_ (Nat.zero_le _) (fun k hk => ?_)
 ·(refine yrn [(0, 0)] false ?_ ?_<;>(repeat' (first|(with_reducible first|exact ya1|exact ya2|exact ya3|refine jx rfl (by first|rfl|assumption|(simp only [znl,znN5];(first|done|fail)))|exact ya5|exact ya7|exact jy|exact jz|refine jA ?_|refine ya9 ?_ ?_ ?_|refine jC rfl (by first|rfl|assumption|(simp only [znl,znN5];(first|done|fail)))|refine MR.agg (MRL.cons ?_ ?_)|refine MR.fn ?_|refine MRL.cons ?_ ?_|exact MRL.nil|refine jE ?_ ?_|exact jF|exact jG|refine yb1 ?_ ?_|refine MB.row ?_|refine jI ?_ ?_|exact ya8|refine jJ rfl (by first|rfl|assumption|(simp only [znl,znN5];(first|done|fail)))|refine yb2 ?_|rfl)|(simp only [znl,znN5];(first|done|fail))|(simp only [↓reduceIte,zlk,Nat.reduceEqDiff,reduceCtorEq])|(with_reducible first|refine jJ ?_ ?_|refine ya5 ?_|refine ju ?_|refine jv ?_|refine jw ?_|refine jx ?_ (by first|rfl|assumption|(simp only [znl,znN5];(first|done|fail)))|refine jC ?_ (by first|rfl|assumption|(simp only [znl,znN5];(first|done|fail)))))))
  all_goals (first | rfl | (simp; done))
 have hUk := hU k hk
 by_cases hlt : k < m.pr.length
 ·have hb := hpR _ (getD_mem' hlt)
  obtain ⟨hS1, hS2, hS3⟩ := pr3 hb
  have e1 := take_snoc m.pr k hlt
  have e2 := usersN_snoc (m.pr.take k) (m.pr.getD k default) f
  rw [← e1] at e2
  have hsl := hb.sp
  have hsR := hb.spR
  repeat' (first|(with_reducible first|refine yrl (by constructor) ?_|refine jk (fun M hM=>?_)|(refine hM _ ?_;clear hM M)|refine yx3 ?_|refine yxa ?_ ?_|refine yxb ?_ ?_)|((with_reducible refine je ?_)<;>exact ynN5)|(with_reducible refine yxc ?_)|((with_reducible refine yxi (fun hc=>?_) (fun hc=>?_))<;>(try simp (disch:=omega) only [zhb] at hc)<;>(try (exfalso;omega))<;>(try subst hc))|(with_reducible refine yxw ?_)|(simp (config := { maxSteps := 400000 }) only [↓jt,↓reduceIte,zvs,reduceCtorEq,seval,tab,hS1,hS2,hS3,encPr,Try.results126,jTA])|(simp (disch:=omega) only [ziw]))
  refine ok_loop (fun j : Nat => ⟨slots [(1, .int .i64 f), (2, .ptr 0 []), (4, .int .i64 0), (5, .int .i64 ((usersN (m.pr.take k) f : Int) + usersS f ((m.pr.getD k default).sp.take j))), (11, encPrs m.pr), (12, .int .i64 m.pr.length), (13, .int .i64 k), (18, .agg ((m.pr.getD k default).sp.map encPte)), (19, .int .i64 j)], rows [(0, .row machSh (encM m))], 1⟩) (fun j => j ≤ 16) (fun j => 16 - j) 0 ?_ (Nat.zero_le _) (fun j hj => ?_)
  ·(refine yrn [(0, 0)] false ?_ ?_<;>(repeat' (first|(with_reducible first|exact ya1|exact ya2|exact ya3|refine jx rfl (by first|rfl|assumption|(simp only [znl,znN5];(first|done|fail)))|exact ya5|exact ya7|exact jy|exact jz|refine jA ?_|refine ya9 ?_ ?_ ?_|refine jC rfl (by first|rfl|assumption|(simp only [znl,znN5];(first|done|fail)))|refine MR.agg (MRL.cons ?_ ?_)|refine MR.fn ?_|refine MRL.cons ?_ ?_|exact MRL.nil|refine jE ?_ ?_|exact jF|exact jG|refine yb1 ?_ ?_|refine MB.row ?_|refine jI ?_ ?_|exact ya8|refine jJ rfl (by first|rfl|assumption|(simp only [znl,znN5];(first|done|fail)))|refine yb2 ?_|rfl)|(simp only [znl,znN5];(first|done|fail))|(simp only [↓reduceIte,zlk,Nat.reduceEqDiff,reduceCtorEq])|(with_reducible first|refine jJ ?_ ?_|refine ya5 ?_|refine ju ?_|refine jv ?_|refine jw ?_|refine jx ?_ (by first|rfl|assumption|(simp only [znl,znN5];(first|done|fail)))|refine jC ?_ (by first|rfl|assumption|(simp only [znl,znN5];(first|done|fail)))))))
   all_goals (first | rfl | (simp [usersS]; done))
  have hUj := usersS_le f ((m.pr.getD k default).sp.take j)
  rw [List.length_take] at hUj
  by_cases hjlt : j < 16
  ·have hpb := hsR _ (getD_mem' (show j < (m.pr.getD k default).sp.length by omega))
   have e3 := take_snoc (m.pr.getD k default).sp j (by omega)
   have e4 := usersS_snoc f ((m.pr.getD k default).sp.take j) ((m.pr.getD k default).sp.getD j default)
   rw [← e3] at e4
   by_cases hq : ((m.pr.getD k default).sp.getD j default).is = true ∧ ((m.pr.getD k default).sp.getD j default).fr = f
   ·rw [if_pos hq] at e4
    obtain ⟨q1, q2⟩ := hq
    repeat' (first|(with_reducible first|refine yrl (by constructor) ?_|refine jk (fun M hM=>?_)|(refine hM _ ?_;clear hM M)|refine yx3 ?_|refine yxa ?_ ?_|refine yxb ?_ ?_)|((with_reducible refine je ?_)<;>exact ynN5)|(with_reducible refine yxc ?_)|((with_reducible refine yxi (fun hc=>?_) (fun hc=>?_))<;>(try simp (disch:=omega) only [zhb] at hc)<;>(try (exfalso;omega))<;>(try subst hc))|(with_reducible refine yxw ?_)|(simp (config := { maxSteps := 400000 }) only [↓jt,↓reduceIte,zvs,reduceCtorEq,seval,tab,hS1,hS2,hS3,encPte,q1,Try.results126,jTA])|(simp (disch:=omega) only [ziw]))
    all_goals first
     | (exfalso; omega)
     | (refine xl1 (j + 1) ?_ (by show j + 1 ≤ 16; omega) (by show 16 - (j + 1) < 16 - j; omega); (refine yrn [(0, 0)] false ?_ ?_<;>(repeat' (first|(with_reducible first|exact ya1|exact ya2|exact ya3|refine jx rfl (by first|rfl|assumption|(simp only [znl,znN5];(first|done|fail)))|exact ya5|exact ya7|exact jy|exact jz|refine jA ?_|refine ya9 ?_ ?_ ?_|refine jC rfl (by first|rfl|assumption|(simp only [znl,znN5];(first|done|fail)))|refine MR.agg (MRL.cons ?_ ?_)|refine MR.fn ?_|refine MRL.cons ?_ ?_|exact MRL.nil|refine jE ?_ ?_|exact jF|exact jG|refine yb1 ?_ ?_|refine MB.row ?_|refine jI ?_ ?_|exact ya8|refine jJ rfl (by first|rfl|assumption|(simp only [znl,znN5];(first|done|fail)))|refine yb2 ?_|rfl)|(simp only [znl,znN5];(first|done|fail))|(simp only [↓reduceIte,zlk,Nat.reduceEqDiff,reduceCtorEq])|(with_reducible first|refine jJ ?_ ?_|refine ya5 ?_|refine ju ?_|refine jv ?_|refine jw ?_|refine jx ?_ (by first|rfl|assumption|(simp only [znl,znN5];(first|done|fail)))|refine jC ?_ (by first|rfl|assumption|(simp only [znl,znN5];(first|done|fail))))))); all_goals (rw [e4]; omega))
   ·rw [if_neg hq] at e4
    cases hi : ((m.pr.getD k default).sp.getD j default).is with
    | true =>
     have hq2 : ((m.pr.getD k default).sp.getD j default).fr ≠ f := fun h => hq ⟨hi, h⟩
     repeat' (first|(with_reducible first|refine yrl (by constructor) ?_|refine jk (fun M hM=>?_)|(refine hM _ ?_;clear hM M)|refine yx3 ?_|refine yxa ?_ ?_|refine yxb ?_ ?_)|((with_reducible refine je ?_)<;>exact ynN5)|(with_reducible refine yxc ?_)|((with_reducible refine yxi (fun hc=>?_) (fun hc=>?_))<;>(try simp (disch:=omega) only [zhb] at hc)<;>(try (exfalso;omega))<;>(try subst hc))|(with_reducible refine yxw ?_)|(simp (config := { maxSteps := 400000 }) only [↓jt,↓reduceIte,zvs,reduceCtorEq,seval,tab,hS1,hS2,hS3,encPte,hi,Try.results126,jTA])|(simp (disch:=omega) only [ziw]))
     all_goals first
      | (exfalso; omega)
      | (refine xl1 (j + 1) ?_ (by show j + 1 ≤ 16; omega) (by show 16 - (j + 1) < 16 - j; omega); (refine yrn [(0, 0)] false ?_ ?_<;>(repeat' (first|(with_reducible first|exact ya1|exact ya2|exact ya3|refine jx rfl (by first|rfl|assumption|(simp only [znl,znN5];(first|done|fail)))|exact ya5|exact ya7|exact jy|exact jz|refine jA ?_|refine ya9 ?_ ?_ ?_|refine jC rfl (by first|rfl|assumption|(simp only [znl,znN5];(first|done|fail)))|refine MR.agg (MRL.cons ?_ ?_)|refine MR.fn ?_|refine MRL.cons ?_ ?_|exact MRL.nil|refine jE ?_ ?_|exact jF|exact jG|refine yb1 ?_ ?_|refine MB.row ?_|refine jI ?_ ?_|exact ya8|refine jJ rfl (by first|rfl|assumption|(simp only [znl,znN5];(first|done|fail)))|refine yb2 ?_|rfl)|(simp only [znl,znN5];(first|done|fail))|(simp only [↓reduceIte,zlk,Nat.reduceEqDiff,reduceCtorEq])|(with_reducible first|refine jJ ?_ ?_|refine ya5 ?_|refine ju ?_|refine jv ?_|refine jw ?_|refine jx ?_ (by first|rfl|assumption|(simp only [znl,znN5];(first|done|fail)))|refine jC ?_ (by first|rfl|assumption|(simp only [znl,znN5];(first|done|fail))))))); all_goals (rw [e4]; omega))
      | (exfalso; exact absurd hc hq2)
    | false =>
     repeat' (first|(with_reducible first|refine yrl (by constructor) ?_|refine jk (fun M hM=>?_)|(refine hM _ ?_;clear hM M)|refine yx3 ?_|refine yxa ?_ ?_|refine yxb ?_ ?_)|((with_reducible refine je ?_)<;>exact ynN5)|(with_reducible refine yxc ?_)|((with_reducible refine yxi (fun hc=>?_) (fun hc=>?_))<;>(try simp (disch:=omega) only [zhb] at hc)<;>(try (exfalso;omega))<;>(try subst hc))|(with_reducible refine yxw ?_)|(simp (config := { maxSteps := 400000 }) only [↓jt,↓reduceIte,zvs,reduceCtorEq,seval,tab,hS1,hS2,hS3,encPte,hi,Try.results126,jTA])|(simp (disch:=omega) only [ziw]))
     all_goals first
      | (exfalso; omega)
      | (refine xl1 (j + 1) ?_ (by show j + 1 ≤ 16; omega) (by show 16 - (j + 1) < 16 - j; omega); (refine yrn [(0, 0)] false ?_ ?_<;>(repeat' (first|(with_reducible first|exact ya1|exact ya2|exact ya3|refine jx rfl (by first|rfl|assumption|(simp only [znl,znN5];(first|done|fail)))|exact ya5|exact ya7|exact jy|exact jz|refine jA ?_|refine ya9 ?_ ?_ ?_|refine jC rfl (by first|rfl|assumption|(simp only [znl,znN5];(first|done|fail)))|refine MR.agg (MRL.cons ?_ ?_)|refine MR.fn ?_|refine MRL.cons ?_ ?_|exact MRL.nil|refine jE ?_ ?_|exact jF|exact jG|refine yb1 ?_ ?_|refine MB.row ?_|refine jI ?_ ?_|exact ya8|refine jJ rfl (by first|rfl|assumption|(simp only [znl,znN5];(first|done|fail)))|refine yb2 ?_|rfl)|(simp only [znl,znN5];(first|done|fail))|(simp only [↓reduceIte,zlk,Nat.reduceEqDiff,reduceCtorEq])|(with_reducible first|refine jJ ?_ ?_|refine ya5 ?_|refine ju ?_|refine jv ?_|refine jw ?_|refine jx ?_ (by first|rfl|assumption|(simp only [znl,znN5];(first|done|fail)))|refine jC ?_ (by first|rfl|assumption|(simp only [znl,znN5];(first|done|fail))))))); all_goals (rw [e4]; omega))
  ·obtain rfl : j = 16 := by omega
   have e5 : (m.pr.getD k default).sp.take 16 = (m.pr.getD k default).sp := List.take_of_length_le (by omega)
   rw [e5] at *
   repeat' (first|(with_reducible first|refine yrl (by constructor) ?_|refine jk (fun M hM=>?_)|(refine hM _ ?_;clear hM M)|refine yx3 ?_|refine yxa ?_ ?_|refine yxb ?_ ?_)|((with_reducible refine je ?_)<;>exact ynN5)|(with_reducible refine yxc ?_)|((with_reducible refine yxi (fun hc=>?_) (fun hc=>?_))<;>(try simp (disch:=omega) only [zhb] at hc)<;>(try (exfalso;omega))<;>(try subst hc))|(with_reducible refine yxw ?_)|(simp (config := { maxSteps := 400000 }) only [↓jt,↓reduceIte,zvs,reduceCtorEq,seval,tab,hS1,hS2,hS3,Try.results126,jTA])|(simp (disch:=omega) only [ziw]))
   all_goals first
    | (refine xl1 (k + 1) ?_ (by show k + 1 ≤ m.pr.length; omega) (by show m.pr.length - (k + 1) < m.pr.length - k; omega); (refine yrn [(0, 0)] false ?_ ?_<;>(repeat' (first|(with_reducible first|exact ya1|exact ya2|exact ya3|refine jx rfl (by first|rfl|assumption|(simp only [znl,znN5];(first|done|fail)))|exact ya5|exact ya7|exact jy|exact jz|refine jA ?_|refine ya9 ?_ ?_ ?_|refine jC rfl (by first|rfl|assumption|(simp only [znl,znN5];(first|done|fail)))|refine MR.agg (MRL.cons ?_ ?_)|refine MR.fn ?_|refine MRL.cons ?_ ?_|exact MRL.nil|refine jE ?_ ?_|exact jF|exact jG|refine yb1 ?_ ?_|refine MB.row ?_|refine jI ?_ ?_|exact ya8|refine jJ rfl (by first|rfl|assumption|(simp only [znl,znN5];(first|done|fail)))|refine yb2 ?_|rfl)|(simp only [znl,znN5];(first|done|fail))|(simp only [↓reduceIte,zlk,Nat.reduceEqDiff,reduceCtorEq])|(with_reducible first|refine jJ ?_ ?_|refine ya5 ?_|refine ju ?_|refine jv ?_|refine jw ?_|refine jx ?_ (by first|rfl|assumption|(simp only [znl,znN5];(first|done|fail)))|refine jC ?_ (by first|rfl|assumption|(simp only [znl,znN5];(first|done|fail))))))); all_goals (rw [e2]; omega))
 ·obtain rfl : k = m.pr.length := by omega
  rw [List.take_length] at *
  repeat' (first|(with_reducible first|refine yrl (by constructor) ?_|refine jk (fun M hM=>?_)|(refine hM _ ?_;clear hM M)|refine yx3 ?_|refine yxa ?_ ?_|refine yxb ?_ ?_)|((with_reducible refine je ?_)<;>exact ynN5)|(with_reducible refine yxc ?_)|((with_reducible refine yxi (fun hc=>?_) (fun hc=>?_))<;>(try simp (disch:=omega) only [zhb] at hc)<;>(try (exfalso;omega))<;>(try subst hc))|(with_reducible refine yxw ?_)|(simp (config := { maxSteps := 400000 }) only [↓jt,↓reduceIte,zvs,reduceCtorEq,seval,tab,List.take_length,Try.results126,jTA])|(simp (disch:=omega) only [ziw]))
  all_goals first
   | (simp only [zrds]; rw [hR]; done)
   | (simp only [zrds]; omega)
end Go.Proofs.Ytpdhdkpebbfnnaa.V
end
section
namespace Go.Proofs.Ytpdhdkpebbfnnaa.V
open Go
set_option maxRecDepth 100000
def znN6 := And.intro @jO <| And.intro @jP <| And.intro @jQ <| And.intro @jR <| And.intro @jS <| And.intro @jT <| And.intro @jU <| True.intro
set_option maxHeartbeats 1000000
theorem fd_spec (m : Mach) (hm : MFit 20000 m) (f : Fdd) (hf : fdR f) : Spec Try.prog 127 [encM m, encFd f] (.bool (fdB m.pipes f)) := by
 obtain ⟨R, hR⟩ : ∃ R, R = fdB m.pipes f := ⟨_, rfl⟩
 rw [← hR]
 have hP := rpipe_spec m hm f.n hf.2.1
 unfold fdB at hR
 obtain ⟨⟨f1, f2⟩, ⟨f3, f4⟩, f5, f6⟩ := hf
 cases hp : pipeO m.pipes f.n with
 | some p =>
  rw [hp] at hP hR
  simp only [pipeV,encPi] at hP
  simp only [Option.isSome_some,Bool.and_true] at hR
  refine spec_ok Try.func127 rfl rfl (by kernel_rfl) (k := 2) rfl (by decide) ?_
  repeat' (first|(with_reducible first|refine yrl (by constructor) ?_|refine jk (fun M hM=>?_)|(refine hM _ ?_;clear hM M)|refine yx3 ?_|refine yxa ?_ ?_|refine yxb ?_ ?_)|((with_reducible refine je ?_)<;>(first|rfl|assumption|(simp only [znl,znN6];(first|done|fail))))|(with_reducible refine yxc ?_)|((with_reducible refine yxi (fun hc=>?_) (fun hc=>?_))<;>(try simp (disch:=omega) only [zhb] at hc)<;>(try (exfalso;omega))<;>(try subst hc))|(with_reducible refine yxw ?_)|(simp (config := { maxSteps := 400000 }) only [↓jt,↓reduceIte,zvs,reduceCtorEq,seval,tab,encFd,Try.results127,jTA])|(simp (disch:=omega) only [ziw]))
  all_goals first
   | (exfalso; omega)
   | (simp only [zrds]; rw [hR]; (repeat' split) <;> first | rfl | (exfalso; omega) | (rw [Bool.eq_iff_iff]; simp only [beq_iff_eq,decide_eq_true_eq,Bool.and_eq_true,Bool.false_eq_true,true_iff,iff_true,false_iff,iff_false]; omega))
 | none =>
  rw [hp] at hP hR
  simp only [pipeV,encPi] at hP
  simp only [Option.isSome_none,Bool.and_false] at hR
  refine spec_ok Try.func127 rfl rfl (by kernel_rfl) (k := 2) rfl (by decide) ?_
  repeat' (first|(with_reducible first|refine yrl (by constructor) ?_|refine jk (fun M hM=>?_)|(refine hM _ ?_;clear hM M)|refine yx3 ?_|refine yxa ?_ ?_|refine yxb ?_ ?_)|((with_reducible refine je ?_)<;>(first|rfl|assumption|(simp only [znl,znN6];(first|done|fail))))|(with_reducible refine yxc ?_)|((with_reducible refine yxi (fun hc=>?_) (fun hc=>?_))<;>(try simp (disch:=omega) only [zhb] at hc)<;>(try (exfalso;omega))<;>(try subst hc))|(with_reducible refine yxw ?_)|(simp (config := { maxSteps := 400000 }) only [↓jt,↓reduceIte,zvs,reduceCtorEq,seval,tab,encFd,Try.results127,jTA])|(simp (disch:=omega) only [ziw]))
  all_goals first
   | (exfalso; omega)
   | (simp only [zrds]; rw [hR]; (repeat' split) <;> first | rfl | (exfalso; omega) | (rw [Bool.eq_iff_iff]; simp only [beq_iff_eq,decide_eq_true_eq,Bool.and_eq_true,Bool.false_eq_true,true_iff,iff_true,false_iff,iff_false]; omega))
end Go.Proofs.Ytpdhdkpebbfnnaa.V
end
section
namespace Go.Proofs.Ytpdhdkpebbfnnaa.V
open Go
set_option maxRecDepth 100000
def znN7 := And.intro @jO <| And.intro @jP <| And.intro @jQ <| And.intro @jR <| And.intro @jS <| And.intro @jT <| And.intro @jU <| True.intro
set_option maxHeartbeats 8000000
def headP (next pid st r0 par why n code : Int) (lb : Prop) : Prop :=
 1 ≤ pid ∧ pid < next ∧ (st = 1 ∨ st = 2 ∨ st = 3) ∧ r0 = 0 ∧ (lb ∨ (st ≠ 3 ∧ par = 0)) ∧ (st = 2 ↔ why ≠ 0) ∧ 0 ≤ why ∧ why ≤ 5 ∧ (st = 2 ∨ n = 0) ∧ (st = 3 ∨ code = 0)
theorem procH_iff (m : Mach) (p : Pr) : procH m p = true ↔ headP m.next p.pid p.st (p.rs.getD 0 default) p.par p.why p.n p.code (livesB m.pr p.par = true) := by
 unfold procH headP
 rw [show p.rs.getD 0 default = p.rs.getD 0 0 from rfl]
 cases livesB m.pr p.par
 ·simp only [true_and,Bool.false_eq_true,false_or]
  (repeat' split)
  all_goals (simp only [Bool.false_eq_true,false_iff,true_iff]; omega)
 ·simp only [Bool.true_eq_false,false_and,if_false,true_or,true_and]
  (repeat' split)
  all_goals (simp only [Bool.false_eq_true,false_iff,true_iff]; omega)
theorem all_take {α : Type} [Inhabited α] (l : List α) (q : α → Bool) (h : ∀ j, j < l.length → q (l.getD j default) = true) : l.all q = true := by
 rw [List.all_eq_true]
 intro x hx
 obtain ⟨j, hj, e⟩ := List.mem_iff_getElem.1 hx
 have := h j hj
 rw [List.getD_eq_getElem?_getD, List.getElem?_eq_getElem hj] at this
 rw [← e]
 exact this
theorem all_not {α : Type} [Inhabited α] (l : List α) (q : α → Bool) (k : Nat) (h : k < l.length) (hq : q (l.getD k default) = false) : l.all q = false := by
 rw [List.all_eq_false]
 exact ⟨_, getD_mem' h, by rw [hq]; simp⟩
theorem st_why (a b : Int) : ((a == 2) = (b != 0)) ↔ (a = 2 ↔ b ≠ 0) := by
 rw [Bool.eq_iff_iff]; simp
theorem fit_pt (a b : Bool) (c : Int) : Fit (EQ.st [EQ.bool, EQ.bool, EQ.int .i64]) (.agg [.bool a, .bool b, .int .i64 c]) := by simp [Fit, FitL]
theorem veq_pt (a b a' b' : Bool) (c c' : Int) : veq (.agg [.bool a, .bool b, .int .i64 c]) (.agg [.bool a', .bool b', .int .i64 c']) = ((a == a') && ((b == b') && (c == c'))) := by
 simp only [veq,veqs,Bool.and_true]
abbrev encPrA (p : Pr) : VV := .agg [.int .i64 p.pid, .int .i64 p.par, .int .i64 p.st, .agg [.agg (p.rs.map (.int .u32)), .int .u32 p.pc], .agg (p.sp.map encPte), .agg (p.fds.map encFd), .bool p.mask, .int .u32 p.code, .int .i64 p.why, .int .u64 p.n]
theorem pteB_is {m : Mach} {p : Pr} {x : Pte} (h : x.is = true) : pteB m p x = true ↔ (p.st ≠ 3 ∧ 0 ≤ x.fr ∧ x.fr < m.fr.length ∧ usersN m.pr x.fr = 1) := by
 unfold pteB; rw [if_pos h, decide_eq_true_eq]
theorem pteB_no {m : Mach} {p : Pr} {x : Pte} (h : x.is = false) : pteB m p x = true ↔ (x.wr = false ∧ x.fr = 0) := by
 unfold pteB; rw [if_neg (by rw [h]; simp), decide_eq_true_eq]
theorem process_spec (m : Mach) (hm : MFit 20000 m) (p : Pr) (hp : PrR p) : Spec Try.prog 87 [encM m, encPr p] (.bool (procB m p)) := by
 obtain ⟨R, hR⟩ : ∃ R, R = procB m p := ⟨_, rfl⟩
 rw [← hR]
 have hL := lives_spec m hm p.par hp.par
 have hI := procH_iff m p
 obtain ⟨hS1, hS2, hS3⟩ := pr3 hp
 have hrl := hp.rs
 have hsl := hp.sp
 have hfl := hp.fds
 have hsR := hp.spR
 have hfR := hp.fdsR
 have hfr := hm.fr
 have hfa : ∀ b : Bool, (false && b) = false := fun _ => rfl
 unfold headP at hI
 obtain ⟨lb, hlb⟩ : ∃ lb, livesB m.pr p.par = lb := ⟨_, rfl⟩
 rw [hlb] at hL hI
 cases hH : procH m p with
 | false =>
  have hF : R = false := by rw [hR, procB, hH]; rfl
  have hI := mt hI.2 (by rw [hH]; simp)
  rw [hF]
  cases lb
  all_goals
   simp only [true_or,true_and,Bool.false_eq_true,false_or] at hI
   refine spec_ok Try.func87 rfl rfl (by kernel_rfl) (k := 2) rfl (by decide) ?_
   repeat' (first|(with_reducible first|refine yrl (by constructor) ?_|refine jk (fun M hM=>?_)|(refine hM _ ?_;clear hM M)|refine xb3 (by decide) ?_|refine yqa (by assumption) ?_ ?_|refine yqb (by assumption) ?_ ?_)|((with_reducible refine je ?_)<;>(first|rfl|assumption|(simp only [znl,znN7];(first|done|fail))))|(with_reducible refine jf (by (simp only [↓reduceIte,zlk,Nat.reduceEqDiff,reduceCtorEq]);exact rfl) ?_)|((with_reducible first|refine jg (fun hc=>?_) (fun hc=>?_)|refine jh (fun hc=>?_) (fun hc=>?_))<;>(try simp (disch:=omega) only [zhb] at hc)<;>(try (exfalso;omega))<;>(try subst hc))|(with_reducible refine ji (by omega) ?_)|(simp (config := { maxSteps := 400000 }) only [↓jt,↓reduceIte,zvs,reduceCtorEq,seval,tab,hS1,hS2,hS3,encPr,Try.results87,jTA])|(simp (disch:=omega) only [ziw]))
   all_goals (try simp only [st_why] at *)
   all_goals first
    | (exfalso; omega)
    | (simp only [zrds]; done)
 | true =>
  have hI := hI.1 hH
  cases lb
  all_goals
   simp only [true_or,true_and,Bool.false_eq_true,false_or] at hI
   refine spec_ok Try.func87 rfl rfl (by kernel_rfl) (k := 2) rfl (by decide) ?_
   repeat' (first|(with_reducible first|refine yrl (by constructor) ?_|refine jk (fun M hM=>?_)|(refine hM _ ?_;clear hM M)|refine xb3 (by decide) ?_|refine yqa (by assumption) ?_ ?_|refine yqb (by assumption) ?_ ?_)|((with_reducible refine je ?_)<;>(first|rfl|assumption|(simp only [znl,znN7];(first|done|fail))))|(with_reducible refine jf (by (simp only [↓reduceIte,zlk,Nat.reduceEqDiff,reduceCtorEq]);exact rfl) ?_)|((with_reducible first|refine jg (fun hc=>?_) (fun hc=>?_)|refine jh (fun hc=>?_) (fun hc=>?_))<;>(try simp (disch:=omega) only [zhb] at hc)<;>(try (exfalso;omega))<;>(try subst hc))|(with_reducible refine ji (by omega) ?_)|(simp (config := { maxSteps := 400000 }) only [↓jt,↓reduceIte,zvs,reduceCtorEq,seval,tab,hS1,hS2,hS3,encPr,Try.results87,jTA])|(simp (disch:=omega) only [ziw]))
   all_goals (try simp only [st_why] at *)
   all_goals (try (exfalso; omega))
   all_goals refine ok_loop (fun j : Nat => ⟨slots [(2, .ptr 0 []), (3, .ptr 1 []), (4, .bool false), (5, .bool (p.st == 3)), (95, .agg (p.sp.map encPte)), (96, .int .i64 j)], rows [(0, .row machSh (encM m)), (1, .row prSh (encPrA p))], 2⟩) (fun j => j ≤ 16 ∧ ∀ i, i < j → pteB m p (p.sp.getD i default) = true) (fun j => 16 - j) 0 ?_ ⟨Nat.zero_le _, fun i hi => by omega⟩ (fun j hj => ?_)
   all_goals first
    | ((refine yrn [(0, 0), (1, 1)] false ?_ ?_<;>(repeat' (first|(with_reducible first|exact ya1|exact ya2|exact ya3|refine jx rfl (by first|rfl|assumption|(simp only [znl,znN7];(first|done|fail)))|exact ya5|exact ya7|exact jy|exact jz|refine jA ?_|refine ya9 ?_ ?_ ?_|refine jC rfl (by first|rfl|assumption|(simp only [znl,znN7];(first|done|fail)))|refine MR.agg (MRL.cons ?_ ?_)|refine MR.fn ?_|refine MRL.cons ?_ ?_|exact MRL.nil|refine jE ?_ ?_|exact jF|exact jG|refine yb1 ?_ ?_|refine MB.row ?_|refine jI ?_ ?_|exact ya8|refine jJ rfl (by first|rfl|assumption|(simp only [znl,znN7];(first|done|fail)))|refine yb2 ?_|rfl)|(simp only [znl,znN7];(first|done|fail))|(simp only [↓reduceIte,zlk,Nat.reduceEqDiff,reduceCtorEq])|(with_reducible first|refine jJ ?_ ?_|refine ya5 ?_|refine ju ?_|refine jv ?_|refine jw ?_|refine jx ?_ (by first|rfl|assumption|(simp only [znl,znN7];(first|done|fail)))|refine jC ?_ (by first|rfl|assumption|(simp only [znl,znN7];(first|done|fail))))))); done)
    | skip
   all_goals
    obtain ⟨hj, hn⟩ := hj
    by_cases hjlt : j < 16
    ·have hpb := hsR _ (getD_mem' (show j < p.sp.length by omega))
     have hUx := users_spec m hm _ hpb
     have hst : pteB m p (p.sp.getD j default) = true → ∀ i, i < j + 1 → pteB m p (p.sp.getD i default) = true := fun hb i hi => by
      by_cases e : i = j
      ·rw [e]; exact hb
      ·exact hn i (by omega)
     have hF : pteB m p (p.sp.getD j default) ≠ true → R = false := fun h => by
      rw [hR, procB, all_not p.sp (pteB m p) j (by omega) (Bool.not_eq_true _ ▸ h)]; simp
     cases hi : (p.sp.getD j default).is with
     | true =>
      have hB := pteB_is (m := m) (p := p) hi
      repeat' (first|(with_reducible first|refine yrl (by constructor) ?_|refine jk (fun M hM=>?_)|(refine hM _ ?_;clear hM M)|refine xb3 (by decide) ?_|refine yqa (by assumption) ?_ ?_|refine yqb (by assumption) ?_ ?_)|((with_reducible refine je ?_)<;>(first|rfl|assumption|(simp only [znl,znN7];(first|done|fail))))|(with_reducible refine jf (by (simp only [↓reduceIte,zlk,Nat.reduceEqDiff,reduceCtorEq]);exact rfl) ?_)|((with_reducible first|refine jg (fun hc=>?_) (fun hc=>?_)|refine jh (fun hc=>?_) (fun hc=>?_))<;>(try simp (disch:=omega) only [zhb] at hc)<;>(try (exfalso;omega))<;>(try subst hc))|(with_reducible refine ji (by omega) ?_)|(simp (config := { maxSteps := 400000 }) only [↓jt,↓reduceIte,zvs,reduceCtorEq,seval,tab,hS1,hS2,hS3,encPr,encPte,hi,fit_pt,veq_pt,Try.results87,jTA])|(simp (disch:=omega) only [ziw]))
      all_goals first
       | (exfalso; omega)
       | (rw [hF (fun h => by have := hB.1 h; omega)]; simp only [zrds]; done)
       | (refine xl1 (j + 1) ?_ ⟨by omega, hst (hB.2 (by omega))⟩ (by show 16 - (j + 1) < 16 - j; omega); (refine yrn [(0, 0), (1, 1)] false ?_ ?_<;>(repeat' (first|(with_reducible first|exact ya1|exact ya2|exact ya3|refine jx rfl (by first|rfl|assumption|(simp only [znl,znN7];(first|done|fail)))|exact ya5|exact ya7|exact jy|exact jz|refine jA ?_|refine ya9 ?_ ?_ ?_|refine jC rfl (by first|rfl|assumption|(simp only [znl,znN7];(first|done|fail)))|refine MR.agg (MRL.cons ?_ ?_)|refine MR.fn ?_|refine MRL.cons ?_ ?_|exact MRL.nil|refine jE ?_ ?_|exact jF|exact jG|refine yb1 ?_ ?_|refine MB.row ?_|refine jI ?_ ?_|exact ya8|refine jJ rfl (by first|rfl|assumption|(simp only [znl,znN7];(first|done|fail)))|refine yb2 ?_|rfl)|(simp only [znl,znN7];(first|done|fail))|(simp only [↓reduceIte,zlk,Nat.reduceEqDiff,reduceCtorEq])|(with_reducible first|refine jJ ?_ ?_|refine ya5 ?_|refine ju ?_|refine jv ?_|refine jw ?_|refine jx ?_ (by first|rfl|assumption|(simp only [znl,znN7];(first|done|fail)))|refine jC ?_ (by first|rfl|assumption|(simp only [znl,znN7];(first|done|fail))))))); done)
     | false =>
      have hB := pteB_no (m := m) (p := p) hi
      cases hw : (p.sp.getD j default).wr with
      | true =>
       rw [hF (fun h => by have := (hB.1 h).1; rw [hw] at this; cases this)]
       repeat' (first|(with_reducible first|refine yrl (by constructor) ?_|refine jk (fun M hM=>?_)|(refine hM _ ?_;clear hM M)|refine xb3 (by decide) ?_|refine yqa (by assumption) ?_ ?_|refine yqb (by assumption) ?_ ?_)|((with_reducible refine je ?_)<;>(first|rfl|assumption|(simp only [znl,znN7];(first|done|fail))))|(with_reducible refine jf (by (simp only [↓reduceIte,zlk,Nat.reduceEqDiff,reduceCtorEq]);exact rfl) ?_)|((with_reducible first|refine jg (fun hc=>?_) (fun hc=>?_)|refine jh (fun hc=>?_) (fun hc=>?_))<;>(try simp (disch:=omega) only [zhb] at hc)<;>(try (exfalso;omega))<;>(try subst hc))|(with_reducible refine ji (by omega) ?_)|(simp (config := { maxSteps := 400000 }) only [↓jt,↓reduceIte,zvs,reduceCtorEq,seval,tab,hS1,hS2,hS3,encPr,encPte,hi,hw,hfa,fit_pt,veq_pt,Try.results87,jTA])|(simp (disch:=omega) only [ziw]))
       all_goals first
        | (exfalso; omega)
        | (simp only [zrds]; done)
      | false =>
       repeat' (first|(with_reducible first|refine yrl (by constructor) ?_|refine jk (fun M hM=>?_)|(refine hM _ ?_;clear hM M)|refine xb3 (by decide) ?_|refine yqa (by assumption) ?_ ?_|refine yqb (by assumption) ?_ ?_)|((with_reducible refine je ?_)<;>(first|rfl|assumption|(simp only [znl,znN7];(first|done|fail))))|(with_reducible refine jf (by (simp only [↓reduceIte,zlk,Nat.reduceEqDiff,reduceCtorEq]);exact rfl) ?_)|((with_reducible first|refine jg (fun hc=>?_) (fun hc=>?_)|refine jh (fun hc=>?_) (fun hc=>?_))<;>(try simp (disch:=omega) only [zhb] at hc)<;>(try (exfalso;omega))<;>(try subst hc))|(with_reducible refine ji (by omega) ?_)|(simp (config := { maxSteps := 400000 }) only [↓jt,↓reduceIte,zvs,reduceCtorEq,seval,tab,hS1,hS2,hS3,encPr,encPte,hi,hw,hfa,fit_pt,veq_pt,Try.results87,jTA])|(simp (disch:=omega) only [ziw]))
       all_goals first
        | (exfalso; omega)
        | (rw [hF (fun h => by have := (hB.1 h).2; omega)]; simp only [zrds]; done)
        | (refine xl1 (j + 1) ?_ ⟨by omega, hst (hB.2 ⟨hw, by omega⟩)⟩ (by show 16 - (j + 1) < 16 - j; omega); (refine yrn [(0, 0), (1, 1)] false ?_ ?_<;>(repeat' (first|(with_reducible first|exact ya1|exact ya2|exact ya3|refine jx rfl (by first|rfl|assumption|(simp only [znl,znN7];(first|done|fail)))|exact ya5|exact ya7|exact jy|exact jz|refine jA ?_|refine ya9 ?_ ?_ ?_|refine jC rfl (by first|rfl|assumption|(simp only [znl,znN7];(first|done|fail)))|refine MR.agg (MRL.cons ?_ ?_)|refine MR.fn ?_|refine MRL.cons ?_ ?_|exact MRL.nil|refine jE ?_ ?_|exact jF|exact jG|refine yb1 ?_ ?_|refine MB.row ?_|refine jI ?_ ?_|exact ya8|refine jJ rfl (by first|rfl|assumption|(simp only [znl,znN7];(first|done|fail)))|refine yb2 ?_|rfl)|(simp only [znl,znN7];(first|done|fail))|(simp only [↓reduceIte,zlk,Nat.reduceEqDiff,reduceCtorEq])|(with_reducible first|refine jJ ?_ ?_|refine ya5 ?_|refine ju ?_|refine jv ?_|refine jw ?_|refine jx ?_ (by first|rfl|assumption|(simp only [znl,znN7];(first|done|fail)))|refine jC ?_ (by first|rfl|assumption|(simp only [znl,znN7];(first|done|fail))))))); done)
    ·obtain rfl : j = 16 := by omega
     have hA := all_take p.sp (pteB m p) (by rw [hsl]; exact hn)
     repeat' (first|(with_reducible first|refine yrl (by constructor) ?_|refine jk (fun M hM=>?_)|(refine hM _ ?_;clear hM M)|refine xb3 (by decide) ?_|refine yqa (by assumption) ?_ ?_|refine yqb (by assumption) ?_ ?_)|((with_reducible refine je ?_)<;>(first|rfl|assumption|(simp only [znl,znN7];(first|done|fail))))|(with_reducible refine jf (by (simp only [↓reduceIte,zlk,Nat.reduceEqDiff,reduceCtorEq]);exact rfl) ?_)|((with_reducible first|refine jg (fun hc=>?_) (fun hc=>?_)|refine jh (fun hc=>?_) (fun hc=>?_))<;>(try simp (disch:=omega) only [zhb] at hc)<;>(try (exfalso;omega))<;>(try subst hc))|(with_reducible refine ji (by omega) ?_)|(simp (config := { maxSteps := 400000 }) only [↓jt,↓reduceIte,zvs,reduceCtorEq,seval,tab,hS1,hS2,hS3,Try.results87,jTA])|(simp (disch:=omega) only [ziw]))
     refine ok_loop (fun j : Nat => ⟨slots [(2, .ptr 0 []), (3, .ptr 1 []), (4, .bool false), (5, .bool (p.st == 3)), (138, .agg (p.fds.map encFd)), (139, .int .i64 j)], rows [(0, .row machSh (encM m)), (1, .row prSh (encPrA p))], 2⟩) (fun j => j ≤ 8 ∧ ∀ i, i < j → fdsB m p (p.fds.getD i default) = true) (fun j => 8 - j) 0 ?_ ⟨Nat.zero_le _, fun i hi => by omega⟩ (fun j hj => ?_)
     ·(refine yrn [(0, 0), (1, 1)] false ?_ ?_<;>(repeat' (first|(with_reducible first|exact ya1|exact ya2|exact ya3|refine jx rfl (by first|rfl|assumption|(simp only [znl,znN7];(first|done|fail)))|exact ya5|exact ya7|exact jy|exact jz|refine jA ?_|refine ya9 ?_ ?_ ?_|refine jC rfl (by first|rfl|assumption|(simp only [znl,znN7];(first|done|fail)))|refine MR.agg (MRL.cons ?_ ?_)|refine MR.fn ?_|refine MRL.cons ?_ ?_|exact MRL.nil|refine jE ?_ ?_|exact jF|exact jG|refine yb1 ?_ ?_|refine MB.row ?_|refine jI ?_ ?_|exact ya8|refine jJ rfl (by first|rfl|assumption|(simp only [znl,znN7];(first|done|fail)))|refine yb2 ?_|rfl)|(simp only [znl,znN7];(first|done|fail))|(simp only [↓reduceIte,zlk,Nat.reduceEqDiff,reduceCtorEq])|(with_reducible first|refine jJ ?_ ?_|refine ya5 ?_|refine ju ?_|refine jv ?_|refine jw ?_|refine jx ?_ (by first|rfl|assumption|(simp only [znl,znN7];(first|done|fail)))|refine jC ?_ (by first|rfl|assumption|(simp only [znl,znN7];(first|done|fail)))))))
     obtain ⟨hj, hn⟩ := hj
     by_cases hjlt : j < 8
     ·have hfb := hfR _ (getD_mem' (show j < p.fds.length by omega))
      have hFd := fd_spec m hm _ hfb
      obtain ⟨⟨g1, g2⟩, g3, g4⟩ := hfb
      have hst : fdsB m p (p.fds.getD j default) = true → ∀ i, i < j + 1 → fdsB m p (p.fds.getD i default) = true := fun hb i hi => by
       by_cases e : i = j
       ·rw [e]; exact hb
       ·exact hn i (by omega)
      have hF : fdsB m p (p.fds.getD j default) = false → R = false := fun h => by
       rw [hR, procB, all_not p.fds (fdsB m p) j (by omega) h]; simp
      unfold fdsB at hst hF
      obtain ⟨b, hb⟩ : ∃ b, fdB m.pipes (p.fds.getD j default) = b := ⟨_, rfl⟩
      rw [hb] at hFd hst hF
      simp only [encFd] at hFd
      cases b
      all_goals
       repeat' (first|(with_reducible first|refine yrl (by constructor) ?_|refine jk (fun M hM=>?_)|(refine hM _ ?_;clear hM M)|refine xb3 (by decide) ?_|refine yqa (by assumption) ?_ ?_|refine yqb (by assumption) ?_ ?_)|((with_reducible refine je ?_)<;>(first|rfl|assumption|(simp only [znl,znN7];(first|done|fail))))|(with_reducible refine jf (by (simp only [↓reduceIte,zlk,Nat.reduceEqDiff,reduceCtorEq]);exact rfl) ?_)|((with_reducible first|refine jg (fun hc=>?_) (fun hc=>?_)|refine jh (fun hc=>?_) (fun hc=>?_))<;>(try simp (disch:=omega) only [zhb] at hc)<;>(try (exfalso;omega))<;>(try subst hc))|(with_reducible refine ji (by omega) ?_)|(simp (config := { maxSteps := 400000 }) only [↓jt,↓reduceIte,zvs,reduceCtorEq,seval,tab,hS1,hS2,hS3,encPr,encFd,Try.results87,jTA])|(simp (disch:=omega) only [ziw]))
       all_goals first
        | (exfalso; omega)
        | (rw [hF rfl]; simp only [zrds]; done)
        | (rw [hF (by rw [decide_eq_true (by omega), decide_eq_true (by omega)]; rfl)]; simp only [zrds]; done)
        | (refine xl1 (j + 1) ?_ ⟨by omega, hst (by first | (rw [decide_eq_false (by omega)]; rfl) | (rw [decide_eq_false (show ¬(p.fds.getD j default).kind ≠ 0 by omega), Bool.and_false]; rfl))⟩ (by show 8 - (j + 1) < 8 - j; omega); (refine yrn [(0, 0), (1, 1)] false ?_ ?_<;>(repeat' (first|(with_reducible first|exact ya1|exact ya2|exact ya3|refine jx rfl (by first|rfl|assumption|(simp only [znl,znN7];(first|done|fail)))|exact ya5|exact ya7|exact jy|exact jz|refine jA ?_|refine ya9 ?_ ?_ ?_|refine jC rfl (by first|rfl|assumption|(simp only [znl,znN7];(first|done|fail)))|refine MR.agg (MRL.cons ?_ ?_)|refine MR.fn ?_|refine MRL.cons ?_ ?_|exact MRL.nil|refine jE ?_ ?_|exact jF|exact jG|refine yb1 ?_ ?_|refine MB.row ?_|refine jI ?_ ?_|exact ya8|refine jJ rfl (by first|rfl|assumption|(simp only [znl,znN7];(first|done|fail)))|refine yb2 ?_|rfl)|(simp only [znl,znN7];(first|done|fail))|(simp only [↓reduceIte,zlk,Nat.reduceEqDiff,reduceCtorEq])|(with_reducible first|refine jJ ?_ ?_|refine ya5 ?_|refine ju ?_|refine jv ?_|refine jw ?_|refine jx ?_ (by first|rfl|assumption|(simp only [znl,znN7];(first|done|fail)))|refine jC ?_ (by first|rfl|assumption|(simp only [znl,znN7];(first|done|fail))))))); done)
     ·obtain rfl : j = 8 := by omega
      have hA2 := all_take p.fds (fdsB m p) (by rw [hfl]; exact hn)
      have hT : R = true := by rw [hR, procB, hH, hA, hA2]; rfl
      rw [hT]
      repeat' (first|(with_reducible first|refine yrl (by constructor) ?_|refine jk (fun M hM=>?_)|(refine hM _ ?_;clear hM M)|refine xb3 (by decide) ?_|refine yqa (by assumption) ?_ ?_|refine yqb (by assumption) ?_ ?_)|((with_reducible refine je ?_)<;>(first|rfl|assumption|(simp only [znl,znN7];(first|done|fail))))|(with_reducible refine jf (by (simp only [↓reduceIte,zlk,Nat.reduceEqDiff,reduceCtorEq]);exact rfl) ?_)|((with_reducible first|refine jg (fun hc=>?_) (fun hc=>?_)|refine jh (fun hc=>?_) (fun hc=>?_))<;>(try simp (disch:=omega) only [zhb] at hc)<;>(try (exfalso;omega))<;>(try subst hc))|(with_reducible refine ji (by omega) ?_)|(simp (config := { maxSteps := 400000 }) only [↓jt,↓reduceIte,zvs,reduceCtorEq,seval,tab,hS1,hS2,hS3,Try.results87,jTA])|(simp (disch:=omega) only [ziw]))
      simp only [zrds]
end Go.Proofs.Ytpdhdkpebbfnnaa.V
end
section
namespace Go.Proofs.Ytpdhdkpebbfnnaa.V
open Go
theorem ynNE {l : List VV} (h : nls l = true := by first|rfl|assumption|(simp only [znl,znNE];(first|done|fail))) : nls l = true := h
set_option maxRecDepth 100000
def znNE := And.intro @jO <| And.intro @jP <| And.intro @jQ <| And.intro @jR <| And.intro @jS <| And.intro @jT <| And.intro @jU <| True.intro
set_option maxHeartbeats 4000000
def dirtyQ (v : Frames) (l : List Wr) (i : Nat) : Bool := !(decide ((l.getD i default).b < 0) || decide ((v.length : Int) ≤ (l.getD i default).b) || decide ((l.getD i default).d.length ≠ 128) || (decide (0 < i) && decide ((l.getD i default).b ≤ (l.getD (i - 1) default).b)))
theorem volM_fit {m : Mach} (hm : MFit 20000 m) : (volM m).length ≤ 20000 ∧ ∀ s ∈ volM m, s.length ≤ 2 ^ 47 := by
 refine ⟨?_, ?_⟩
 ·unfold volM
  rw [foldl_wrV_len]
  exact Nat.le_trans (homeD_len _) hm.bl
 ·exact foldl_wrV_fit _ _ (homeD_fit hm.blS fun w hw => (hm.peS w hw).2) fun w hw => (hm.dirtyS w hw).2
theorem disk_spec (m : Mach) (hm : MFit 20000 m) : Spec Try.prog 88 [encM m] (.int .i64 (diskE m)) := by
 have hC := rcheck_spec m.dr (dfit_of hm)
 have hH := rhome_spec m.dr (dfit_of hm)
 have hV := volume_spec m hm
 obtain ⟨g, hO⟩ := of_spec (volM m) (volM_fit hm).1 (volM_fit hm).2
 have hlen := homeD_len m.dr
 have hb := hm.bl
 have hd := hm.dirty
 have hdS := hm.dirtyS
 obtain ⟨R, hR⟩ : ∃ R, R = diskE m := ⟨_, rfl⟩
 rw [← hR]
 unfold diskE at hR
 generalize volE (volM m) = e at hO hR
 by_cases h0 : checkD m.dr = 0
 ·rw [if_neg (by omega)] at hR
  rw [h0] at hC
  generalize homeD m.dr = v at hH hlen hR
  by_cases h1 : v.length = 0
  ·rw [if_pos (List.eq_nil_of_length_eq_zero h1)] at hR
   rw [hR]
   refine spec_ok Try.func88 rfl rfl (by kernel_rfl) (k := 1) rfl (by decide) ?_
   repeat' (first|(with_reducible first|refine yrl (by constructor) ?_|refine jk (fun M hM=>?_)|(refine hM _ ?_;clear hM M)|refine yx3 ?_|refine yxa ?_ ?_|refine yxb ?_ ?_)|((with_reducible refine je ?_)<;>exact ynNE)|(with_reducible refine yxc ?_)|((with_reducible refine yxi (fun hc=>?_) (fun hc=>?_))<;>(try simp (disch:=omega) only [zhb] at hc)<;>(try (exfalso;omega))<;>(try subst hc))|(with_reducible refine yxw ?_)|(simp (config := { maxSteps := 400000 }) only [↓jt,↓reduceIte,zvs,reduceCtorEq,seval,tab,h1,Try.results88,jTA])|(simp (disch:=omega) only [ziw]))
   all_goals first
    | (exfalso; omega)
    | (simp only [zrds]; done)
  ·rw [if_neg (fun h => h1 (by rw [h]; rfl))] at hR
   by_cases h2 : 32 < m.dirty.length
   ·rw [if_pos h2] at hR
    rw [hR]
    refine spec_ok Try.func88 rfl rfl (by kernel_rfl) (k := 1) rfl (by decide) ?_
    repeat' (first|(with_reducible first|refine yrl (by constructor) ?_|refine jk (fun M hM=>?_)|(refine hM _ ?_;clear hM M)|refine yx3 ?_|refine yxa ?_ ?_|refine yxb ?_ ?_)|((with_reducible refine je ?_)<;>exact ynNE)|(with_reducible refine yxc ?_)|((with_reducible refine yxi (fun hc=>?_) (fun hc=>?_))<;>(try simp (disch:=omega) only [zhb] at hc)<;>(try (exfalso;omega))<;>(try subst hc))|(with_reducible refine yxw ?_)|(simp (config := { maxSteps := 400000 }) only [↓jt,↓reduceIte,zvs,reduceCtorEq,seval,tab,Try.results88,jTA])|(simp (disch:=omega) only [ziw]))
    all_goals first
     | (exfalso; omega)
     | (simp only [zrds]; done)
   ·rw [if_neg h2] at hR
    obtain ⟨n, hn⟩ : ∃ n, n = v.length := ⟨_, rfl⟩
    refine spec_ok Try.func88 rfl rfl (by kernel_rfl) (k := 1) rfl (by decide) ?_
    repeat' (first|(with_reducible first|refine yrl (by constructor) ?_|refine jk (fun M hM=>?_)|(refine hM _ ?_;clear hM M)|refine yx3 ?_|refine yxa ?_ ?_|refine yxb ?_ ?_)|((with_reducible refine je ?_)<;>exact ynNE)|(with_reducible refine yxc ?_)|((with_reducible refine yxi (fun hc=>?_) (fun hc=>?_))<;>(try simp (disch:=omega) only [zhb] at hc)<;>(try (exfalso;omega))<;>(try subst hc))|(with_reducible refine yxw ?_)|(simp (config := { maxSteps := 400000 }) only [↓jt,↓reduceIte,zvs,reduceCtorEq,seval,tab,Try.results88,jTA])|(simp (disch:=omega) only [ziw]))
    all_goals (try (exfalso; omega))
    refine ok_loop (fun k : Nat => ⟨slots [(1, .ptr 0 []), (4, .int .i64 v.length), (24, encWrs m.dirty), (25, .int .i64 m.dirty.length), (26, .int .i64 k)], rows [(0, .row machSh (encM m))], 1⟩) (fun k => k ≤ m.dirty.length ∧ ∀ j, j < k → dirtyQ v m.dirty j = true) (fun k => m.dirty.length - k) 0 ?_ ⟨Nat.zero_le _, fun j hj => by omega⟩ (fun k hk => ?_)
    ·(refine yrn [(0, 0)] false ?_ ?_<;>(repeat' (first|(with_reducible first|exact ya1|exact ya2|exact ya3|refine jx rfl (by first|rfl|assumption|(simp only [znl,znNE];(first|done|fail)))|exact ya5|exact ya7|exact jy|exact jz|refine jA ?_|refine ya9 ?_ ?_ ?_|refine jC rfl (by first|rfl|assumption|(simp only [znl,znNE];(first|done|fail)))|refine MR.agg (MRL.cons ?_ ?_)|refine MR.fn ?_|refine MRL.cons ?_ ?_|exact MRL.nil|refine jE ?_ ?_|exact jF|exact jG|refine yb1 ?_ ?_|refine MB.row ?_|refine jI ?_ ?_|exact ya8|refine jJ rfl (by first|rfl|assumption|(simp only [znl,znNE];(first|done|fail)))|refine yb2 ?_|rfl)|(simp only [znl,znNE];(first|done|fail))|(simp only [↓reduceIte,zlk,Nat.reduceEqDiff,reduceCtorEq])|(with_reducible first|refine jJ ?_ ?_|refine ya5 ?_|refine ju ?_|refine jv ?_|refine jw ?_|refine jx ?_ (by first|rfl|assumption|(simp only [znl,znNE];(first|done|fail)))|refine jC ?_ (by first|rfl|assumption|(simp only [znl,znNE];(first|done|fail)))))))
     all_goals (first | rfl)
    obtain ⟨hk, hq⟩ := hk
    by_cases hlt : k < m.dirty.length
    ·obtain ⟨⟨w1, w2⟩, w3⟩ := hdS _ (getD_mem' hlt)
     have w4 : ∀ j, j < m.dirty.length → i64R (m.dirty.getD j default).b := fun j hj => (hdS _ (getD_mem' hj)).1
     have w5 := w4 (k - 1) (by omega)
     have hF : dirtyQ v m.dirty k = false → R = 3 := fun h => by
      rw [hR, if_pos]
      unfold dirtyE
      rw [List.all_eq_false]
      exact ⟨k, List.mem_range.2 hlt, by show ¬(dirtyQ v m.dirty k = true); rw [h]; simp⟩
     have hst : dirtyQ v m.dirty k = true → ∀ j, j < k + 1 → dirtyQ v m.dirty j = true := fun h j hj => by
      by_cases e : j = k
      ·rw [e]; exact h
      ·exact hq j (by omega)
     by_cases hk0 : k = 0
     ·subst hk0
      have z0 : ((0 : Nat) : Int) = 0 := rfl
      have hQ : dirtyQ v m.dirty 0 = true ↔ (0 ≤ (m.dirty.getD 0 default).b ∧ (m.dirty.getD 0 default).b < v.length ∧ (m.dirty.getD 0 default).d.length = 128) := by
       unfold dirtyQ
       simp only [Nat.lt_irrefl,decide_false,Bool.false_and,Bool.or_false,Bool.not_eq_true',Bool.or_eq_false_iff,decide_eq_false_iff_not,ne_eq,Decidable.not_not]
       omega
      repeat' (first|(with_reducible first|refine yrl (by constructor) ?_|refine jk (fun M hM=>?_)|(refine hM _ ?_;clear hM M)|refine yx3 ?_|refine yxa ?_ ?_|refine yxb ?_ ?_)|((with_reducible refine je ?_)<;>exact ynNE)|(with_reducible refine yxc ?_)|((with_reducible refine yxi (fun hc=>?_) (fun hc=>?_))<;>(try simp (disch:=omega) only [zhb] at hc)<;>(try (exfalso;omega))<;>(try subst hc))|(with_reducible refine yxw ?_)|(simp (config := { maxSteps := 400000 }) only [↓jt,↓reduceIte,zvs,reduceCtorEq,seval,tab,encWr,z0,Try.results88,jTA])|(simp (disch:=omega) only [ziw]))
      refine ok_drawC 31 (by kernel_rfl) (by decide +kernel) (by intro m hm; simp only [upd_ap,rows_cons,rows_nil]; (repeat (first | rfl | rw [if_neg (by omega)]))) (fun M hM => ?_); simp only [List.take_succ_cons,List.take_zero,List.drop_succ_cons,List.drop_zero]
      repeat' (first|(with_reducible first|refine yrl (by constructor) ?_|refine jk (fun M hM=>?_)|(refine hM _ ?_;clear hM M)|refine yx3 ?_|refine yxa ?_ ?_|refine yxb ?_ ?_)|((with_reducible refine je ?_)<;>exact ynNE)|(with_reducible refine yxc ?_)|((with_reducible refine yxi (fun hc=>?_) (fun hc=>?_))<;>(try simp (disch:=omega) only [zhb] at hc)<;>(try (exfalso;omega))<;>(try subst hc))|(with_reducible refine yxw ?_)|(simp (config := { maxSteps := 400000 }) only [↓jt,↓reduceIte,zvs,reduceCtorEq,seval,tab,encWr,z0,Try.results88,jTA])|(simp (disch:=omega) only [ziw]))
      all_goals first
       | (exfalso; omega)
       | (rw [hF (by rw [Bool.eq_false_iff]; intro h; have := hQ.1 h; omega)]; simp only [zrds]; done)
       | (refine xl1 1 ?_ ⟨by omega, hst (hQ.2 (by omega))⟩ (by show m.dirty.length - 1 < m.dirty.length - 0; omega); (refine yrn [(0, 0)] false ?_ ?_<;>(repeat' (first|(with_reducible first|exact ya1|exact ya2|exact ya3|refine jx rfl (by first|rfl|assumption|(simp only [znl,znNE];(first|done|fail)))|exact ya5|exact ya7|exact jy|exact jz|refine jA ?_|refine ya9 ?_ ?_ ?_|refine jC rfl (by first|rfl|assumption|(simp only [znl,znNE];(first|done|fail)))|refine MR.agg (MRL.cons ?_ ?_)|refine MR.fn ?_|refine MRL.cons ?_ ?_|exact MRL.nil|refine jE ?_ ?_|exact jF|exact jG|refine yb1 ?_ ?_|refine MB.row ?_|refine jI ?_ ?_|exact ya8|refine jJ rfl (by first|rfl|assumption|(simp only [znl,znNE];(first|done|fail)))|refine yb2 ?_|rfl)|(simp only [znl,znNE];(first|done|fail))|(simp only [↓reduceIte,zlk,Nat.reduceEqDiff,reduceCtorEq])|(with_reducible first|refine jJ ?_ ?_|refine ya5 ?_|refine ju ?_|refine jv ?_|refine jw ?_|refine jx ?_ (by first|rfl|assumption|(simp only [znl,znNE];(first|done|fail)))|refine jC ?_ (by first|rfl|assumption|(simp only [znl,znNE];(first|done|fail))))))); done)
     ·obtain ⟨i, rfl⟩ : ∃ i, k = i + 1 := ⟨k - 1, by omega⟩
      have z1 : ((i + 1 : Nat) : Int) - 1 = i := by omega
      have hQ : dirtyQ v m.dirty (i + 1) = true ↔ (0 ≤ (m.dirty.getD (i + 1) default).b ∧ (m.dirty.getD (i + 1) default).b < v.length ∧ (m.dirty.getD (i + 1) default).d.length = 128 ∧ (m.dirty.getD i default).b < (m.dirty.getD (i + 1) default).b) := by
       unfold dirtyQ
       rw [Nat.add_sub_cancel, decide_eq_true (Nat.succ_pos i)]
       simp only [Bool.true_and,Bool.not_eq_true',Bool.or_eq_false_iff,decide_eq_false_iff_not,ne_eq,Decidable.not_not]
       omega
      repeat' (first|(with_reducible first|refine yrl (by constructor) ?_|refine jk (fun M hM=>?_)|(refine hM _ ?_;clear hM M)|refine yx3 ?_|refine yxa ?_ ?_|refine yxb ?_ ?_)|((with_reducible refine je ?_)<;>exact ynNE)|(with_reducible refine yxc ?_)|((with_reducible refine yxi (fun hc=>?_) (fun hc=>?_))<;>(try simp (disch:=omega) only [zhb] at hc)<;>(try (exfalso;omega))<;>(try subst hc))|(with_reducible refine yxw ?_)|(simp (config := { maxSteps := 400000 }) only [↓jt,↓reduceIte,zvs,reduceCtorEq,seval,tab,encWr,z1,Try.results88,jTA])|(simp (disch:=omega) only [ziw]))
      refine ok_drawC 31 (by kernel_rfl) (by decide +kernel) (by intro m hm; simp only [upd_ap,rows_cons,rows_nil]; (repeat (first | rfl | rw [if_neg (by omega)]))) (fun M hM => ?_); simp only [List.take_succ_cons,List.take_zero,List.drop_succ_cons,List.drop_zero]
      repeat' (first|(with_reducible first|refine yrl (by constructor) ?_|refine jk (fun M hM=>?_)|(refine hM _ ?_;clear hM M)|refine yx3 ?_|refine yxa ?_ ?_|refine yxb ?_ ?_)|((with_reducible refine je ?_)<;>exact ynNE)|(with_reducible refine yxc ?_)|((with_reducible refine yxi (fun hc=>?_) (fun hc=>?_))<;>(try simp (disch:=omega) only [zhb] at hc)<;>(try (exfalso;omega))<;>(try subst hc))|(with_reducible refine yxw ?_)|(simp (config := { maxSteps := 400000 }) only [↓jt,↓reduceIte,zvs,reduceCtorEq,seval,tab,encWr,z1,Try.results88,jTA])|(simp (disch:=omega) only [ziw]))
      all_goals first
       | (exfalso; omega)
       | (rw [hF (by rw [Bool.eq_false_iff]; intro h; have := hQ.1 h; omega)]; simp only [zrds]; done)
       | (refine xl1 (i + 1 + 1) ?_ ⟨by omega, hst (hQ.2 (by omega))⟩ (by show m.dirty.length - (i + 1 + 1) < m.dirty.length - (i + 1); omega); (refine yrn [(0, 0)] false ?_ ?_<;>(repeat' (first|(with_reducible first|exact ya1|exact ya2|exact ya3|refine jx rfl (by first|rfl|assumption|(simp only [znl,znNE];(first|done|fail)))|exact ya5|exact ya7|exact jy|exact jz|refine jA ?_|refine ya9 ?_ ?_ ?_|refine jC rfl (by first|rfl|assumption|(simp only [znl,znNE];(first|done|fail)))|refine MR.agg (MRL.cons ?_ ?_)|refine MR.fn ?_|refine MRL.cons ?_ ?_|exact MRL.nil|refine jE ?_ ?_|exact jF|exact jG|refine yb1 ?_ ?_|refine MB.row ?_|refine jI ?_ ?_|exact ya8|refine jJ rfl (by first|rfl|assumption|(simp only [znl,znNE];(first|done|fail)))|refine yb2 ?_|rfl)|(simp only [znl,znNE];(first|done|fail))|(simp only [↓reduceIte,zlk,Nat.reduceEqDiff,reduceCtorEq])|(with_reducible first|refine jJ ?_ ?_|refine ya5 ?_|refine ju ?_|refine jv ?_|refine jw ?_|refine jx ?_ (by first|rfl|assumption|(simp only [znl,znNE];(first|done|fail)))|refine jC ?_ (by first|rfl|assumption|(simp only [znl,znNE];(first|done|fail))))))); done)
    ·obtain rfl : k = m.dirty.length := by omega
     have hE : dirtyE v m.dirty = true := by
      unfold dirtyE
      rw [List.all_eq_true]
      intro i hi
      exact hq i (List.mem_range.1 hi)
     rw [hE, if_neg (by simp)] at hR
     rw [← hR] at hO
     repeat' (first|(with_reducible first|refine yrl (by constructor) ?_|refine jk (fun M hM=>?_)|(refine hM _ ?_;clear hM M)|refine yx3 ?_|refine yxa ?_ ?_|refine yxb ?_ ?_)|((with_reducible refine je ?_)<;>exact ynNE)|(with_reducible refine yxc ?_)|((with_reducible refine yxi (fun hc=>?_) (fun hc=>?_))<;>(try simp (disch:=omega) only [zhb] at hc)<;>(try (exfalso;omega))<;>(try subst hc))|(with_reducible refine yxw ?_)|(simp (config := { maxSteps := 400000 }) only [↓jt,↓reduceIte,zvs,reduceCtorEq,seval,tab,Try.results88,jTA])|(simp (disch:=omega) only [ziw]))
     all_goals first
      | (exfalso; omega)
      | (simp only [zrds]; done)
 ·rw [if_pos h0] at hR
  rw [hR]
  refine spec_ok Try.func88 rfl rfl (by kernel_rfl) (k := 1) rfl (by decide) ?_
  repeat' (first|(with_reducible first|refine yrl (by constructor) ?_|refine jk (fun M hM=>?_)|(refine hM _ ?_;clear hM M)|refine yx3 ?_|refine yxa ?_ ?_|refine yxb ?_ ?_)|((with_reducible refine je ?_)<;>exact ynNE)|(with_reducible refine yxc ?_)|((with_reducible refine yxi (fun hc=>?_) (fun hc=>?_))<;>(try simp (disch:=omega) only [zhb] at hc)<;>(try (exfalso;omega))<;>(try subst hc))|(with_reducible refine yxw ?_)|(simp (config := { maxSteps := 400000 }) only [↓jt,↓reduceIte,zvs,reduceCtorEq,seval,tab,Try.results88,jTA])|(simp (disch:=omega) only [ziw]))
  all_goals first
   | (exfalso; omega)
   | (simp only [zrds]; done)
end Go.Proofs.Ytpdhdkpebbfnnaa.V
end
