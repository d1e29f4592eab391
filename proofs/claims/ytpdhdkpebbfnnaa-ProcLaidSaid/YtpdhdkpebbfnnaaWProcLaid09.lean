/-
  Parts of the proof of ProcLaid: T4, NJ, T5, TF, Vkeep, Vmid, TG, TH, TI, TM, Vdel, TL, TN, TO, TP, TQ, TR, TS, TU, TV, TJ, TK, TW, NU, P5, P4, NV, NW, P6, P7, TX, TY, TZ, U1, M5, M6, M7.
  Conditions: none.
-/
import Derived.Test.YtpdhdkpebbfnnaaWProcLaid08
import Derived.Test.YtpdhdkpebbfnnaaWProcLaid07
import Derived.Test.YtpdhdkpebbfnnaaWProcLaid05
import Derived.Test.YtpdhdkpebbfnnaaWProcLaid06
import Derived.Test.YtpdhdkpebbfnnaaWProcLaid04
import Derived.WalkKit
import Derived.Deep.RegionLaw
set_option linter.unusedVariables false
set_option linter.unusedSimpArgs false
set_option linter.unusedSectionVars false
set_option linter.defProp false
section
namespace Go.Proofs.Ytpdhdkpebbfnnaa.V
open Go
set_option maxRecDepth 100000
def znT4 := And.intro @jO <| And.intro @jP <| And.intro @jQ <| And.intro @jR <| And.intro @jS <| And.intro @jT <| And.intro @jU <| True.intro
set_option maxHeartbeats 8000000
theorem stay0 {l : List Pr} {p : Pr} (h : ¬p.st = 3) : stayB l p = true := by unfold stayB; rw [decide_eq_false h]; rfl
theorem stay1 {l : List Pr} {p : Pr} (h : p.st = 3) (h0 : p.par = 0) : stayB l p = false := by unfold stayB; rw [decide_eq_true h, decide_eq_true h0]; rfl
theorem stay2 {l : List Pr} {p : Pr} (h : p.st = 3) (hn : findI l p.par = none) : stayB l p = false := by unfold stayB; rw [decide_eq_true h, hn]; simp
theorem stay3 {l : List Pr} {p : Pr} {x : Nat} (h : p.st = 3) (h0 : ¬p.par = 0) (hn : findI l p.par = some x) : stayB l p = true := by unfold stayB; rw [decide_eq_true h, decide_eq_false h0, hn]; rfl
theorem sdie_spec (m : Mach) (hm : MFit 20000 m) (pid : Int) (hp : i64R pid) (code : Int) (hc : u32R code) : Spec Try.prog 19 [encM m, .int .i64 pid, .int .u32 code] (encM (dieM m pid code)) := by
  have hl := hm.pr
  have hA := list_str m.fr hm.fr
  have hB := list_pi m.pipes hm.pipes
  have hE := own_drive m.dr hm.bl hm.pe
  have hG := list_wr m.dirty hm.dirty
  have hF := pfind_spec m hm pid hp
  obtain ⟨c1, c2⟩ := hc
  unfold dieM
  obtain ⟨n, hn⟩ : ∃ n, n = m.pr.length := ⟨_, rfl⟩
  cases hf : findI m.pr pid with
  | none =>
    rw [hf] at hF
    simp only [placeV] at hF
    refine spec_ok Try.func19 rfl rfl (by kernel_rfl) (k := 3) rfl (by decide) ?_
    repeat' (first|(with_reducible first|refine yrl (by constructor) ?_|refine jk (fun M hM=>?_)|(refine hM _ ?_;clear hM M)|refine xb3 (by decide) ?_|refine yqa (by assumption) ?_ ?_|refine yqb (by assumption) ?_ ?_)|((with_reducible refine je ?_)<;>(first|rfl|assumption|(simp only [znl,znT4];(first|done|fail))))|(with_reducible refine jf (by (simp only [↓reduceIte,zlk,Nat.reduceEqDiff,reduceCtorEq]);exact rfl) ?_)|((with_reducible first|refine jg (fun hc=>?_) (fun hc=>?_)|refine jh (fun hc=>?_) (fun hc=>?_))<;>(try simp (disch:=omega) only [zhb] at hc)<;>(try (exfalso;omega))<;>(try subst hc))|(with_reducible refine ji (by omega) ?_)|(simp (config := { maxSteps := 400000 }) only [↓jt,↓reduceIte,zvs,reduceCtorEq,seval,-List.reduceReplicate,tab,Try.results90, Try.results41, Try.results19, List.toList_toArray])|(simp (disch:=omega) only [ziw]))
    refine ja (ok_body Try.func41 rfl rfl (by kernel_rfl) (k := 1) (by rfl) (by decide) ?_)
    repeat' (first|(with_reducible first|refine yrl (by constructor) ?_|refine jk (fun M hM=>?_)|(refine hM _ ?_;clear hM M)|refine xb3 (by decide) ?_|refine yqa (by assumption) ?_ ?_|refine yqb (by assumption) ?_ ?_)|((with_reducible refine je ?_)<;>(first|rfl|assumption|(simp only [znl,znT4];(first|done|fail))))|(with_reducible refine jf (by (simp only [↓reduceIte,zlk,Nat.reduceEqDiff,reduceCtorEq]);exact rfl) ?_)|((with_reducible first|refine jg (fun hc=>?_) (fun hc=>?_)|refine jh (fun hc=>?_) (fun hc=>?_))<;>(try simp (disch:=omega) only [zhb] at hc)<;>(try (exfalso;omega))<;>(try subst hc))|(with_reducible refine ji (by omega) ?_)|(simp (config := { maxSteps := 400000 }) only [↓jt,↓reduceIte,zvs,reduceCtorEq,seval,-List.reduceReplicate,tab,Try.results90, Try.results41, Try.results19, List.toList_toArray])|(simp (disch:=omega) only [ziw]))
    refine ja (ok_body Try.func90 rfl rfl (by kernel_rfl) (k := 1) (by rfl) (by decide) ?_)
    repeat' (first|(with_reducible first|refine yrl (by constructor) ?_|refine jk (fun M hM=>?_)|(refine hM _ ?_;clear hM M)|refine xb3 (by decide) ?_|refine yqa (by assumption) ?_ ?_|refine yqb (by assumption) ?_ ?_)|((with_reducible refine je ?_)<;>(first|rfl|assumption|(simp only [znl,znT4];(first|done|fail))))|(with_reducible refine jf (by (simp only [↓reduceIte,zlk,Nat.reduceEqDiff,reduceCtorEq]);exact rfl) ?_)|((with_reducible first|refine jg (fun hc=>?_) (fun hc=>?_)|refine jh (fun hc=>?_) (fun hc=>?_))<;>(try simp (disch:=omega) only [zhb] at hc)<;>(try (exfalso;omega))<;>(try subst hc))|(with_reducible refine ji (by omega) ?_)|(simp (config := { maxSteps := 400000 }) only [↓jt,↓reduceIte,zvs,reduceCtorEq,seval,-List.reduceReplicate,tab,Try.results90, Try.results41, Try.results19, List.toList_toArray])|(simp (disch:=omega) only [ziw]))
    all_goals (try (exfalso; omega))
    refine ja (call_plain (hF) (by repeat (first | exact rdl_nil | refine rdl_cons ?_ ?_ | exact Rd.refl _ _ (by first|rfl|assumption|(simp only [znl,znT4];(first|done|fail))) | (refine rd_own (by (simp only [↓reduceIte,zlk,Nat.reduceEqDiff,reduceCtorEq]); exact rfl) (by first | rfl | (simp; done) | (simp; omega)) rfl (by first|rfl|assumption|(simp only [znl,znT4];(first|done|fail)))) | exact rd_nil | refine (rd_a _ _ _).mpr ?_)) rfl rfl ?_)
    repeat' (first|(with_reducible first|refine yrl (by constructor) ?_|refine jk (fun M hM=>?_)|(refine hM _ ?_;clear hM M)|refine xb3 (by decide) ?_|refine yqa (by assumption) ?_ ?_|refine yqb (by assumption) ?_ ?_)|((with_reducible refine je ?_)<;>(first|rfl|assumption|(simp only [znl,znT4];(first|done|fail))))|(with_reducible refine jf (by (simp only [↓reduceIte,zlk,Nat.reduceEqDiff,reduceCtorEq]);exact rfl) ?_)|((with_reducible first|refine jg (fun hc=>?_) (fun hc=>?_)|refine jh (fun hc=>?_) (fun hc=>?_))<;>(try simp (disch:=omega) only [zhb] at hc)<;>(try (exfalso;omega))<;>(try subst hc))|(with_reducible refine ji (by omega) ?_)|(simp (config := { maxSteps := 400000 }) only [↓jt,↓reduceIte,zvs,reduceCtorEq,seval,-List.reduceReplicate,tab,Try.results90, Try.results41, Try.results19, List.toList_toArray])|(simp (disch:=omega) only [ziw]))
    all_goals first
      | (exfalso; omega)
      | (((try simp only [List.map_nil]); simp only [zrds]; (repeat' (first | exact rd_nil | exact Rd.refl _ _ (by first|rfl|assumption|(simp only [znl,znT4];(first|done|fail))) | (refine And.intro ?_ ?_) | (refine rd_own (by (simp only [↓reduceIte,zlk,Nat.reduceEqDiff,reduceCtorEq]); exact rfl) ?_ ?_ ?_) | rfl | assumption | (simp only [znl,znT4];(first|done|fail)) | (simp; done) | (simp; omega)))); done)
  | some i =>
    rw [hf] at hF
    simp only [placeV] at hF
    obtain ⟨hi, hpid⟩ := findI_some hf
    have hb := hm.prR _ (getD_mem' hi)
    obtain ⟨hS1, hS2, hS3⟩ := pr3 hb
    dsimp only
    by_cases h3 : (m.pr.getD i default).st = 3
    · rw [if_pos h3]
      refine spec_ok Try.func19 rfl rfl (by kernel_rfl) (k := 3) rfl (by decide) ?_
      repeat' (first|(with_reducible first|refine yrl (by constructor) ?_|refine jk (fun M hM=>?_)|(refine hM _ ?_;clear hM M)|refine xb3 (by decide) ?_|refine yqa (by assumption) ?_ ?_|refine yqb (by assumption) ?_ ?_)|((with_reducible refine je ?_)<;>(first|rfl|assumption|(simp only [znl,znT4];(first|done|fail))))|(with_reducible refine jf (by (simp only [↓reduceIte,zlk,Nat.reduceEqDiff,reduceCtorEq]);exact rfl) ?_)|((with_reducible first|refine jg (fun hc=>?_) (fun hc=>?_)|refine jh (fun hc=>?_) (fun hc=>?_))<;>(try simp (disch:=omega) only [zhb] at hc)<;>(try (exfalso;omega))<;>(try subst hc))|(with_reducible refine ji (by omega) ?_)|(simp (config := { maxSteps := 400000 }) only [↓jt,↓reduceIte,zvs,reduceCtorEq,seval,-List.reduceReplicate,tab,Try.results90, Try.results41, Try.results19, List.toList_toArray])|(simp (disch:=omega) only [ziw]))
      refine ja (ok_body Try.func41 rfl rfl (by kernel_rfl) (k := 1) (by rfl) (by decide) ?_)
      repeat' (first|(with_reducible first|refine yrl (by constructor) ?_|refine jk (fun M hM=>?_)|(refine hM _ ?_;clear hM M)|refine xb3 (by decide) ?_|refine yqa (by assumption) ?_ ?_|refine yqb (by assumption) ?_ ?_)|((with_reducible refine je ?_)<;>(first|rfl|assumption|(simp only [znl,znT4];(first|done|fail))))|(with_reducible refine jf (by (simp only [↓reduceIte,zlk,Nat.reduceEqDiff,reduceCtorEq]);exact rfl) ?_)|((with_reducible first|refine jg (fun hc=>?_) (fun hc=>?_)|refine jh (fun hc=>?_) (fun hc=>?_))<;>(try simp (disch:=omega) only [zhb] at hc)<;>(try (exfalso;omega))<;>(try subst hc))|(with_reducible refine ji (by omega) ?_)|(simp (config := { maxSteps := 400000 }) only [↓jt,↓reduceIte,zvs,reduceCtorEq,seval,-List.reduceReplicate,tab,Try.results90, Try.results41, Try.results19, List.toList_toArray])|(simp (disch:=omega) only [ziw]))
      refine ja (ok_body Try.func90 rfl rfl (by kernel_rfl) (k := 1) (by rfl) (by decide) ?_)
      repeat' (first|(with_reducible first|refine yrl (by constructor) ?_|refine jk (fun M hM=>?_)|(refine hM _ ?_;clear hM M)|refine xb3 (by decide) ?_|refine yqa (by assumption) ?_ ?_|refine yqb (by assumption) ?_ ?_)|((with_reducible refine je ?_)<;>(first|rfl|assumption|(simp only [znl,znT4];(first|done|fail))))|(with_reducible refine jf (by (simp only [↓reduceIte,zlk,Nat.reduceEqDiff,reduceCtorEq]);exact rfl) ?_)|((with_reducible first|refine jg (fun hc=>?_) (fun hc=>?_)|refine jh (fun hc=>?_) (fun hc=>?_))<;>(try simp (disch:=omega) only [zhb] at hc)<;>(try (exfalso;omega))<;>(try subst hc))|(with_reducible refine ji (by omega) ?_)|(simp (config := { maxSteps := 400000 }) only [↓jt,↓reduceIte,zvs,reduceCtorEq,seval,-List.reduceReplicate,tab,Try.results90, Try.results41, Try.results19, List.toList_toArray])|(simp (disch:=omega) only [ziw]))
      all_goals (try (exfalso; omega))
      refine ja (call_plain (hF) (by repeat (first | exact rdl_nil | refine rdl_cons ?_ ?_ | exact Rd.refl _ _ (by first|rfl|assumption|(simp only [znl,znT4];(first|done|fail))) | (refine rd_own (by (simp only [↓reduceIte,zlk,Nat.reduceEqDiff,reduceCtorEq]); exact rfl) (by first | rfl | (simp; done) | (simp; omega)) rfl (by first|rfl|assumption|(simp only [znl,znT4];(first|done|fail)))) | exact rd_nil | refine (rd_a _ _ _).mpr ?_)) rfl rfl ?_)
      repeat' (first|(with_reducible first|refine yrl (by constructor) ?_|refine jk (fun M hM=>?_)|(refine hM _ ?_;clear hM M)|refine xb3 (by decide) ?_|refine yqa (by assumption) ?_ ?_|refine yqb (by assumption) ?_ ?_)|((with_reducible refine je ?_)<;>(first|rfl|assumption|(simp only [znl,znT4];(first|done|fail))))|(with_reducible refine jf (by (simp only [↓reduceIte,zlk,Nat.reduceEqDiff,reduceCtorEq]);exact rfl) ?_)|((with_reducible first|refine jg (fun hc=>?_) (fun hc=>?_)|refine jh (fun hc=>?_) (fun hc=>?_))<;>(try simp (disch:=omega) only [zhb] at hc)<;>(try (exfalso;omega))<;>(try subst hc))|(with_reducible refine ji (by omega) ?_)|(simp (config := { maxSteps := 400000 }) only [↓jt,↓reduceIte,zvs,reduceCtorEq,seval,-List.reduceReplicate,tab,hS1,hS2,hS3,encPr,Try.results90, Try.results41, Try.results19, List.toList_toArray])|(simp (disch:=omega) only [ziw]))
      all_goals first
        | (exfalso; omega)
        | (((try simp only [List.map_nil]); simp only [zrds]; (repeat' (first | exact rd_nil | exact Rd.refl _ _ (by first|rfl|assumption|(simp only [znl,znT4];(first|done|fail))) | (refine And.intro ?_ ?_) | (refine rd_own (by (simp only [↓reduceIte,zlk,Nat.reduceEqDiff,reduceCtorEq]); exact rfl) ?_ ?_ ?_) | rfl | assumption | (simp only [znl,znT4];(first|done|fail)) | (simp; done) | (simp; omega)))); done)
    · rw [if_neg h3]
      have hat0 : (m.pr.map encPr)[i]? = some (encPr (m.pr.getD i default)) := by rw [List.getElem?_map, List.getD_eq_getElem?_getD, List.getElem?_eq_getElem hi]; rfl
      have hat2 : ∀ A : VV, ((m.pr.map encPr).set i A)[i]? = some A := fun A => by rw [List.getElem?_set_self (by rw [List.length_map]; omega)]
      simp only [encPr] at hat0
      refine spec_ok Try.func19 rfl rfl (by kernel_rfl) (k := 3) rfl (by decide) ?_
      repeat' (first|(with_reducible first|refine yrl (by constructor) ?_|refine jk (fun M hM=>?_)|(refine hM _ ?_;clear hM M)|refine xb3 (by decide) ?_|refine yqa (by assumption) ?_ ?_|refine yqb (by assumption) ?_ ?_)|((with_reducible refine je ?_)<;>(first|rfl|assumption|(simp only [znl,znT4];(first|done|fail))))|(with_reducible refine jf (by (simp only [↓reduceIte,zlk,Nat.reduceEqDiff,reduceCtorEq]);exact rfl) ?_)|((with_reducible first|refine jg (fun hc=>?_) (fun hc=>?_)|refine jh (fun hc=>?_) (fun hc=>?_))<;>(try simp (disch:=omega) only [zhb] at hc)<;>(try (exfalso;omega))<;>(try subst hc))|(with_reducible refine ji (by omega) ?_)|(simp (config := { maxSteps := 400000 }) only [↓jt,↓reduceIte,zvs,reduceCtorEq,seval,-List.reduceReplicate,tab,Try.results90, Try.results41, Try.results19, List.toList_toArray])|(simp (disch:=omega) only [ziw]))
      refine ja (ok_body Try.func41 rfl rfl (by kernel_rfl) (k := 1) (by rfl) (by decide) ?_)
      repeat' (first|(with_reducible first|refine yrl (by constructor) ?_|refine jk (fun M hM=>?_)|(refine hM _ ?_;clear hM M)|refine xb3 (by decide) ?_|refine yqa (by assumption) ?_ ?_|refine yqb (by assumption) ?_ ?_)|((with_reducible refine je ?_)<;>(first|rfl|assumption|(simp only [znl,znT4];(first|done|fail))))|(with_reducible refine jf (by (simp only [↓reduceIte,zlk,Nat.reduceEqDiff,reduceCtorEq]);exact rfl) ?_)|((with_reducible first|refine jg (fun hc=>?_) (fun hc=>?_)|refine jh (fun hc=>?_) (fun hc=>?_))<;>(try simp (disch:=omega) only [zhb] at hc)<;>(try (exfalso;omega))<;>(try subst hc))|(with_reducible refine ji (by omega) ?_)|(simp (config := { maxSteps := 400000 }) only [↓jt,↓reduceIte,zvs,reduceCtorEq,seval,-List.reduceReplicate,tab,Try.results90, Try.results41, Try.results19, List.toList_toArray])|(simp (disch:=omega) only [ziw]))
      refine ja (ok_body Try.func90 rfl rfl (by kernel_rfl) (k := 1) (by rfl) (by decide) ?_)
      repeat' (first|(with_reducible first|refine yrl (by constructor) ?_|refine jk (fun M hM=>?_)|(refine hM _ ?_;clear hM M)|refine xb3 (by decide) ?_|refine yqa (by assumption) ?_ ?_|refine yqb (by assumption) ?_ ?_)|((with_reducible refine je ?_)<;>(first|rfl|assumption|(simp only [znl,znT4];(first|done|fail))))|(with_reducible refine jf (by (simp only [↓reduceIte,zlk,Nat.reduceEqDiff,reduceCtorEq]);exact rfl) ?_)|((with_reducible first|refine jg (fun hc=>?_) (fun hc=>?_)|refine jh (fun hc=>?_) (fun hc=>?_))<;>(try simp (disch:=omega) only [zhb] at hc)<;>(try (exfalso;omega))<;>(try subst hc))|(with_reducible refine ji (by omega) ?_)|(simp (config := { maxSteps := 400000 }) only [↓jt,↓reduceIte,zvs,reduceCtorEq,seval,-List.reduceReplicate,tab,Try.results90, Try.results41, Try.results19, List.toList_toArray])|(simp (disch:=omega) only [ziw]))
      all_goals (try (exfalso; omega))
      refine ja (call_plain (hF) (by repeat (first | exact rdl_nil | refine rdl_cons ?_ ?_ | exact Rd.refl _ _ (by first|rfl|assumption|(simp only [znl,znT4];(first|done|fail))) | (refine rd_own (by (simp only [↓reduceIte,zlk,Nat.reduceEqDiff,reduceCtorEq]); exact rfl) (by first | rfl | (simp; done) | (simp; omega)) rfl (by first|rfl|assumption|(simp only [znl,znT4];(first|done|fail)))) | exact rd_nil | refine (rd_a _ _ _).mpr ?_)) rfl rfl ?_)
      repeat' (first|(with_reducible first|refine yrl (by constructor) ?_|refine jk (fun M hM=>?_)|(refine hM _ ?_;clear hM M)|refine xb3 (by decide) ?_|refine yqa (by assumption) ?_ ?_|refine yqb (by assumption) ?_ ?_)|((with_reducible refine je ?_)<;>(first|rfl|assumption|(simp only [znl,znT4];(first|done|fail))))|(with_reducible refine jf (by (simp only [↓reduceIte,zlk,Nat.reduceEqDiff,reduceCtorEq]);exact rfl) ?_)|((with_reducible first|refine jg (fun hc=>?_) (fun hc=>?_)|refine jh (fun hc=>?_) (fun hc=>?_))<;>(try simp (disch:=omega) only [zhb] at hc)<;>(try (exfalso;omega))<;>(try subst hc))|(with_reducible refine ji (by omega) ?_)|(simp (config := { maxSteps := 400000 }) only [↓jt,↓reduceIte,zvs,reduceCtorEq,seval,-List.reduceReplicate,tab,hS1,hS2,hS3,hat0,hat2,List.set_set,zSp,zFd,encPr,Try.results90, Try.results41, Try.results19, List.toList_toArray])|(simp (disch:=omega) only [ziw]))
      all_goals (try (exfalso; omega))
      have hD := deadP_fit hb ⟨c1, c2⟩
      obtain ⟨l1, hl1⟩ : ∃ l1, l1 = m.pr.set i (deadP (m.pr.getD i default) code) := ⟨_, rfl⟩
      have hset : (m.pr.map encPr).set i (encPr (deadP (m.pr.getD i default) code)) = l1.map encPr := by rw [hl1]; exact (List.map_set ..).symm
      simp only [encPr,deadP] at hset
      obtain ⟨hdl, hdp⟩ := dieL_fit hm hi pid ⟨c1, c2⟩
      have hl2 : dieL m i pid code = l1.map (freeP pid) := by rw [hl1]; rfl
      rw [hl2] at hdl hdp ⊢
      have h1n : l1.length = n := by rw [hl1, List.length_set, hn]
      have h1p : ∀ p ∈ l1, PrR p := fun p hp => by
        rw [hl1] at hp
        rcases List.mem_or_eq_of_mem_set hp with hq | rfl
        · exact hm.prR p hq
        · exact hD
      refine ok_loop (fun k : Nat => ⟨slots [(1, .int .i64 pid), (6, .ptr 1 []), (7, .ptr 2 []), (64, .sl (some (3, [], 0)) n), (65, .int .i64 n), (66, .int .i64 k)], rows [(1, .row machSh nilMD), (2, .row machSh (encMD m (.sl (some (3, [], 0)) n))), (3, .row (.arr n prSh) (.agg ((mapK (freeP pid) l1 k).map encPr)))], 4⟩) (fun k => k ≤ n) (fun k => n - k) 0 ?_ (Nat.zero_le _) (fun k hk => ?_)
      · (refine yrn [(1, 1), (2, 5), (3, 4)] false ?_ ?_<;>(repeat' (first|(with_reducible first|exact ya1|exact ya2|exact ya3|refine jx rfl (by first|rfl|assumption|(simp only [znl,znT4];(first|done|fail)))|exact ya5|exact ya7|exact jy|exact jz|refine jA ?_|refine ya9 ?_ ?_ ?_|refine jC rfl (by first|rfl|assumption|(simp only [znl,znT4];(first|done|fail)))|refine MR.agg (MRL.cons ?_ ?_)|refine MR.fn ?_|refine MRL.cons ?_ ?_|exact MRL.nil|refine jE ?_ ?_|exact jF|exact jG|refine yb1 ?_ ?_|refine MB.row ?_|refine jI ?_ ?_|exact ya8|refine jJ rfl (by first|rfl|assumption|(simp only [znl,znT4];(first|done|fail)))|refine yb2 ?_|rfl)|(simp only [znl,znT4];(first|done|fail))|(simp only [↓reduceIte,zlk,Nat.reduceEqDiff,reduceCtorEq])|(with_reducible first|refine jJ ?_ ?_|refine ya5 ?_|refine ju ?_|refine jv ?_|refine jw ?_|refine jx ?_ (by first|rfl|assumption|(simp only [znl,znT4];(first|done|fail)))|refine jC ?_ (by first|rfl|assumption|(simp only [znl,znT4];(first|done|fail)))))))
        all_goals (first | rfl | omega | exact hset | (simp [hn]; done))
      clear hset hS1 hS2 hS3 hb hF hat0 hat2 hD
      have hwl := mapK_len (freeP pid) l1 k
      rw [h1n] at hwl
      by_cases hlt : k < n
      · have hk1 : k < l1.length := by omega
        have hb := h1p _ (getD_mem' hk1)
        obtain ⟨hS1, hS2, hS3⟩ := pr3 hb
        have hat := mapK_at (f := freeP pid) hk1
        by_cases hq : (l1.getD k default).par = pid
        · have e1 := mapK_next (f := freeP pid) hk1
          unfold freeP at e1
          rw [if_pos hq] at e1
          have hw : ((mapK (freeP pid) l1 k).map encPr).set k (encPr { (l1.getD k default) with par := 0 }) = (mapK (freeP pid) l1 (k + 1)).map encPr := by rw [← List.map_set]; unfold freeP; rw [e1]
          simp only [encPr] at hw
          generalize mapK (freeP pid) l1 k = l at hwl hat hw ⊢
          repeat' (first|(with_reducible first|refine yrl (by constructor) ?_|refine jk (fun M hM=>?_)|(refine hM _ ?_;clear hM M)|refine xb3 (by decide) ?_|refine yqa (by assumption) ?_ ?_|refine yqb (by assumption) ?_ ?_)|((with_reducible refine je ?_)<;>(first|rfl|assumption|(simp only [znl,znT4];(first|done|fail))))|(with_reducible refine jf (by (simp only [↓reduceIte,zlk,Nat.reduceEqDiff,reduceCtorEq]);exact rfl) ?_)|((with_reducible first|refine jg (fun hc=>?_) (fun hc=>?_)|refine jh (fun hc=>?_) (fun hc=>?_))<;>(try simp (disch:=omega) only [zhb] at hc)<;>(try (exfalso;omega))<;>(try subst hc))|(with_reducible refine ji (by omega) ?_)|(simp (config := { maxSteps := 400000 }) only [↓jt,↓reduceIte,zvs,reduceCtorEq,seval,-List.reduceReplicate,tab,hS1,hS2,hS3,hwl,hat,hq,encPr,Try.results90, Try.results41, Try.results19, List.toList_toArray])|(simp (disch:=omega) only [ziw]))
          all_goals first
            | (exfalso; omega)
            | (refine xl1 (k + 1) ?_ (by show k + 1 ≤ n; omega) (by show n - (k + 1) < n - k; omega); (refine yrn [(1, 1), (2, 2), (3, 3)] false ?_ ?_<;>(repeat' (first|(with_reducible first|exact ya1|exact ya2|exact ya3|refine jx rfl (by first|rfl|assumption|(simp only [znl,znT4];(first|done|fail)))|exact ya5|exact ya7|exact jy|exact jz|refine jA ?_|refine ya9 ?_ ?_ ?_|refine jC rfl (by first|rfl|assumption|(simp only [znl,znT4];(first|done|fail)))|refine MR.agg (MRL.cons ?_ ?_)|refine MR.fn ?_|refine MRL.cons ?_ ?_|exact MRL.nil|refine jE ?_ ?_|exact jF|exact jG|refine yb1 ?_ ?_|refine MB.row ?_|refine jI ?_ ?_|exact ya8|refine jJ rfl (by first|rfl|assumption|(simp only [znl,znT4];(first|done|fail)))|refine yb2 ?_|rfl)|(simp only [znl,znT4];(first|done|fail))|(simp only [↓reduceIte,zlk,Nat.reduceEqDiff,reduceCtorEq])|(with_reducible first|refine jJ ?_ ?_|refine ya5 ?_|refine ju ?_|refine jv ?_|refine jw ?_|refine jx ?_ (by first|rfl|assumption|(simp only [znl,znT4];(first|done|fail)))|refine jC ?_ (by first|rfl|assumption|(simp only [znl,znT4];(first|done|fail))))))); all_goals (first | rfl | exact hw); done)
        · have e1 := mapK_same (f := freeP pid) hk1 (by unfold freeP; rw [if_neg hq])
          generalize mapK (freeP pid) l1 k = l at hwl hat e1 ⊢
          repeat' (first|(with_reducible first|refine yrl (by constructor) ?_|refine jk (fun M hM=>?_)|(refine hM _ ?_;clear hM M)|refine xb3 (by decide) ?_|refine yqa (by assumption) ?_ ?_|refine yqb (by assumption) ?_ ?_)|((with_reducible refine je ?_)<;>(first|rfl|assumption|(simp only [znl,znT4];(first|done|fail))))|(with_reducible refine jf (by (simp only [↓reduceIte,zlk,Nat.reduceEqDiff,reduceCtorEq]);exact rfl) ?_)|((with_reducible first|refine jg (fun hc=>?_) (fun hc=>?_)|refine jh (fun hc=>?_) (fun hc=>?_))<;>(try simp (disch:=omega) only [zhb] at hc)<;>(try (exfalso;omega))<;>(try subst hc))|(with_reducible refine ji (by omega) ?_)|(simp (config := { maxSteps := 400000 }) only [↓jt,↓reduceIte,zvs,reduceCtorEq,seval,-List.reduceReplicate,tab,hS1,hS2,hS3,hwl,hat,encPr,Try.results90, Try.results41, Try.results19, List.toList_toArray])|(simp (disch:=omega) only [ziw]))
          all_goals first
            | (exfalso; omega)
            | (refine xl1 (k + 1) ?_ (by show k + 1 ≤ n; omega) (by show n - (k + 1) < n - k; omega); (refine yrn [(1, 1), (2, 2), (3, 3)] false ?_ ?_<;>(repeat' (first|(with_reducible first|exact ya1|exact ya2|exact ya3|refine jx rfl (by first|rfl|assumption|(simp only [znl,znT4];(first|done|fail)))|exact ya5|exact ya7|exact jy|exact jz|refine jA ?_|refine ya9 ?_ ?_ ?_|refine jC rfl (by first|rfl|assumption|(simp only [znl,znT4];(first|done|fail)))|refine MR.agg (MRL.cons ?_ ?_)|refine MR.fn ?_|refine MRL.cons ?_ ?_|exact MRL.nil|refine jE ?_ ?_|exact jF|exact jG|refine yb1 ?_ ?_|refine MB.row ?_|refine jI ?_ ?_|exact ya8|refine jJ rfl (by first|rfl|assumption|(simp only [znl,znT4];(first|done|fail)))|refine yb2 ?_|rfl)|(simp only [znl,znT4];(first|done|fail))|(simp only [↓reduceIte,zlk,Nat.reduceEqDiff,reduceCtorEq])|(with_reducible first|refine jJ ?_ ?_|refine ya5 ?_|refine ju ?_|refine jv ?_|refine jw ?_|refine jx ?_ (by first|rfl|assumption|(simp only [znl,znT4];(first|done|fail)))|refine jC ?_ (by first|rfl|assumption|(simp only [znl,znT4];(first|done|fail))))))); all_goals (first | rfl | (rw [e1]; done)); done)
      · obtain rfl : k = n := by omega
        have hall := mapK_all (freeP pid) l1
        rw [h1n] at hall
        rw [hall]
        clear hwl hall
        generalize l1.map (freeP pid) = l2 at hdl hdp ⊢
        rw [← hn] at hdl
        repeat' (first|(with_reducible first|refine yrl (by constructor) ?_|refine jk (fun M hM=>?_)|(refine hM _ ?_;clear hM M)|refine xb3 (by decide) ?_|refine yqa (by assumption) ?_ ?_|refine yqb (by assumption) ?_ ?_)|((with_reducible refine je ?_)<;>(first|rfl|assumption|(simp only [znl,znT4];(first|done|fail))))|(with_reducible refine jf (by (simp only [↓reduceIte,zlk,Nat.reduceEqDiff,reduceCtorEq]);exact rfl) ?_)|((with_reducible first|refine jg (fun hc=>?_) (fun hc=>?_)|refine jh (fun hc=>?_) (fun hc=>?_))<;>(try simp (disch:=omega) only [zhb] at hc)<;>(try (exfalso;omega))<;>(try subst hc))|(with_reducible refine ji (by omega) ?_)|(simp (config := { maxSteps := 400000 }) only [↓jt,↓reduceIte,zvs,reduceCtorEq,seval,-List.reduceReplicate,tab,hdl,Try.results90, Try.results41, Try.results19, List.toList_toArray])|(simp (disch:=omega) only [ziw]))
        all_goals (try (exfalso; omega))
        obtain ⟨out, hout⟩ : ∃ out : Nat → List Pr, ∀ j, out j = (l2.take j).filter (stayB l2) := ⟨_, fun _ => rfl⟩
        have hol : ∀ j, (out j).length ≤ j := fun j => by
          rw [hout]; refine Nat.le_trans (List.length_filter_le _ _) ?_
          rw [List.length_take]; omega
        refine ok_loop (fun j : Nat => ⟨slots [(6, .ptr 1 []), (7, .ptr 2 []), (12, .sl (some (3, [], 0)) k), (86, .sl (some (3, [], 0)) k), (87, .int .i64 k), (88, .int .i64 j)], rows [(1, .row machSh nilMD), (2, .row machSh (encMD m (.sl (some (4, [], 0)) (out j).length))), (3, .row (.arr k prSh) (.agg (l2.map encPr))), (4, .row (.arr (out j).length prSh) (.agg ((out j).map encPr)))], 5⟩) (fun j => j ≤ k) (fun j => k - j) 0 ?_ (Nat.zero_le _) (fun j hj => ?_)
        · (refine yrn [(1, 1), (2, 2), (3, 3)] false ?_ ?_<;>(repeat' (first|(with_reducible first|exact ya1|exact ya2|exact ya3|refine jx rfl (by first|rfl|assumption|(simp only [znl,znT4];(first|done|fail)))|exact ya5|exact ya7|exact jy|exact jz|refine jA ?_|refine ya9 ?_ ?_ ?_|refine jC rfl (by first|rfl|assumption|(simp only [znl,znT4];(first|done|fail)))|refine MR.agg (MRL.cons ?_ ?_)|refine MR.fn ?_|refine MRL.cons ?_ ?_|exact MRL.nil|refine jE ?_ ?_|exact jF|exact jG|refine yb1 ?_ ?_|refine MB.row ?_|refine jI ?_ ?_|exact ya8|refine jJ rfl (by first|rfl|assumption|(simp only [znl,znT4];(first|done|fail)))|refine yb2 ?_|rfl)|(simp only [znl,znT4];(first|done|fail))|(simp only [↓reduceIte,zlk,Nat.reduceEqDiff,reduceCtorEq])|(with_reducible first|refine jJ ?_ ?_|refine ya5 ?_|refine ju ?_|refine jv ?_|refine jw ?_|refine jx ?_ (by first|rfl|assumption|(simp only [znl,znT4];(first|done|fail)))|refine jC ?_ (by first|rfl|assumption|(simp only [znl,znT4];(first|done|fail)))))))
          all_goals (first | rfl | (rw [hout]; rfl) | (simp [hout]; done))
        have hoj := hol j
        by_cases hjl : j < k
        · have hj2 : j < l2.length := by omega
          have hb := hdp _ (getD_mem' hj2)
          obtain ⟨hS1, hS2, hS3⟩ := pr3 hb
          have hsn := filt_snoc (q := stayB l2) hj2
          rw [← hout, ← hout] at hsn
          have hwa : (out j).map encPr ++ [encPr (l2.getD j default)] = (out j ++ [l2.getD j default]).map encPr := by rw [List.map_append]; rfl
          simp only [encPr] at hwa
          by_cases hd : (l2.getD j default).st = 3
          · by_cases hpar : (l2.getD j default).par = 0
            · rw [stay1 hd hpar, if_neg (by simp), List.append_nil] at hsn
              repeat' (first|(with_reducible first|refine yrl (by constructor) ?_|refine jk (fun M hM=>?_)|(refine hM _ ?_;clear hM M)|refine xb3 (by decide) ?_|refine yqa (by assumption) ?_ ?_|refine yqb (by assumption) ?_ ?_)|((with_reducible refine je ?_)<;>(first|rfl|assumption|(simp only [znl,znT4];(first|done|fail))))|(with_reducible refine jf (by (simp only [↓reduceIte,zlk,Nat.reduceEqDiff,reduceCtorEq]);exact rfl) ?_)|((with_reducible first|refine jg (fun hc=>?_) (fun hc=>?_)|refine jh (fun hc=>?_) (fun hc=>?_))<;>(try simp (disch:=omega) only [zhb] at hc)<;>(try (exfalso;omega))<;>(try subst hc))|(with_reducible refine ji (by omega) ?_)|(simp (config := { maxSteps := 400000 }) only [↓jt,↓reduceIte,zvs,reduceCtorEq,seval,-List.reduceReplicate,tab,hS1,hS2,hS3,hdl,hd,hpar,encPr,Try.results90, Try.results41, Try.results19, List.toList_toArray])|(simp (disch:=omega) only [ziw]))
              all_goals first
                | (exfalso; omega)
                | (refine xl1 (j + 1) ?_ (by show j + 1 ≤ k; omega) (by show k - (j + 1) < k - j; omega); (refine yrn [(1, 1), (2, 2), (3, 3), (4, 4)] false ?_ ?_<;>(repeat' (first|(with_reducible first|exact ya1|exact ya2|exact ya3|refine jx rfl (by first|rfl|assumption|(simp only [znl,znT4];(first|done|fail)))|exact ya5|exact ya7|exact jy|exact jz|refine jA ?_|refine ya9 ?_ ?_ ?_|refine jC rfl (by first|rfl|assumption|(simp only [znl,znT4];(first|done|fail)))|refine MR.agg (MRL.cons ?_ ?_)|refine MR.fn ?_|refine MRL.cons ?_ ?_|exact MRL.nil|refine jE ?_ ?_|exact jF|exact jG|refine yb1 ?_ ?_|refine MB.row ?_|refine jI ?_ ?_|exact ya8|refine jJ rfl (by first|rfl|assumption|(simp only [znl,znT4];(first|done|fail)))|refine yb2 ?_|rfl)|(simp only [znl,znT4];(first|done|fail))|(simp only [↓reduceIte,zlk,Nat.reduceEqDiff,reduceCtorEq])|(with_reducible first|refine jJ ?_ ?_|refine ya5 ?_|refine ju ?_|refine jv ?_|refine jw ?_|refine jx ?_ (by first|rfl|assumption|(simp only [znl,znT4];(first|done|fail)))|refine jC ?_ (by first|rfl|assumption|(simp only [znl,znT4];(first|done|fail))))))); all_goals (first | rfl | (rw [hsn, List.length_append]; rfl) | (rw [hsn]; done) | (simp [hsn]; done) | fail); done)
            · repeat' (first|(with_reducible first|refine yrl (by constructor) ?_|refine jk (fun M hM=>?_)|(refine hM _ ?_;clear hM M)|refine xb3 (by decide) ?_|refine yqa (by assumption) ?_ ?_|refine yqb (by assumption) ?_ ?_)|((with_reducible refine je ?_)<;>(first|rfl|assumption|(simp only [znl,znT4];(first|done|fail))))|(with_reducible refine jf (by (simp only [↓reduceIte,zlk,Nat.reduceEqDiff,reduceCtorEq]);exact rfl) ?_)|((with_reducible first|refine jg (fun hc=>?_) (fun hc=>?_)|refine jh (fun hc=>?_) (fun hc=>?_))<;>(try simp (disch:=omega) only [zhb] at hc)<;>(try (exfalso;omega))<;>(try subst hc))|(with_reducible refine ji (by omega) ?_)|(simp (config := { maxSteps := 400000 }) only [↓jt,↓reduceIte,zvs,reduceCtorEq,seval,-List.reduceReplicate,tab,hS1,hS2,hS3,hdl,hd,encPr,Try.results90, Try.results41, Try.results19, List.toList_toArray])|(simp (disch:=omega) only [ziw]))
              all_goals (try (exfalso; omega))
              refine ja (ok_body Try.func47 rfl rfl (by kernel_rfl) (k := 2) (by rfl) (by decide) ?_)
              repeat' (first|(with_reducible first|refine yrl (by constructor) ?_|refine jk (fun M hM=>?_)|(refine hM _ ?_;clear hM M)|refine xb3 (by decide) ?_|refine yqa (by assumption) ?_ ?_|refine yqb (by assumption) ?_ ?_)|((with_reducible refine je ?_)<;>(first|rfl|assumption|(simp only [znl,znT4];(first|done|fail))))|(with_reducible refine jf (by (simp only [↓reduceIte,zlk,Nat.reduceEqDiff,reduceCtorEq]);exact rfl) ?_)|((with_reducible first|refine jg (fun hc=>?_) (fun hc=>?_)|refine jh (fun hc=>?_) (fun hc=>?_))<;>(try simp (disch:=omega) only [zhb] at hc)<;>(try (exfalso;omega))<;>(try subst hc))|(with_reducible refine ji (by omega) ?_)|(simp (config := { maxSteps := 400000 }) only [↓jt,↓reduceIte,zvs,reduceCtorEq,seval,-List.reduceReplicate,tab,Try.results48,Try.results53, Try.results47, Try.results19, List.toList_toArray])|(simp (disch:=omega) only [ziw]))
              refine ja (ok_body Try.func53 rfl rfl (by kernel_rfl) (k := 2) (by rfl) (by decide) ?_)
              repeat' (first|(with_reducible first|refine yrl (by constructor) ?_|refine jk (fun M hM=>?_)|(refine hM _ ?_;clear hM M)|refine xb3 (by decide) ?_|refine yqa (by assumption) ?_ ?_|refine yqb (by assumption) ?_ ?_)|((with_reducible refine je ?_)<;>(first|rfl|assumption|(simp only [znl,znT4];(first|done|fail))))|(with_reducible refine jf (by (simp only [↓reduceIte,zlk,Nat.reduceEqDiff,reduceCtorEq]);exact rfl) ?_)|((with_reducible first|refine jg (fun hc=>?_) (fun hc=>?_)|refine jh (fun hc=>?_) (fun hc=>?_))<;>(try simp (disch:=omega) only [zhb] at hc)<;>(try (exfalso;omega))<;>(try subst hc))|(with_reducible refine ji (by omega) ?_)|(simp (config := { maxSteps := 400000 }) only [↓jt,↓reduceIte,zvs,reduceCtorEq,seval,-List.reduceReplicate,tab,Try.results48,Try.results53, Try.results47, Try.results19, List.toList_toArray])|(simp (disch:=omega) only [ziw]))
              refine ok_loop (fun q : Nat => ⟨slots [(0, .sl (some (3, [], 0)) k), (1, .fn 48 [.ptr 5 []]), (6, .sl (some (3, [], 0)) k), (7, .int .i64 k), (8, .int .i64 q)], rows [(1, .row machSh nilMD), (2, .row machSh (encMD m (.sl (some (4, [], 0)) (out j).length))), (3, .row (.arr k prSh) (.agg (l2.map encPr))), (4, .row (.arr (out j).length prSh) (.agg ((out j).map encPr))), (5, .row prSh (encPrT (l2.getD j default)))], 6⟩) (fun q => q ≤ k ∧ ∀ i, i < q → (l2.getD i default).pid ≠ (l2.getD j default).par) (fun q => k - q) 0 ?_ ⟨Nat.zero_le _, fun i hi => by omega⟩ (fun q hq => ?_)
              · (refine yrn [] false ?_ ?_<;>(repeat' (first|(with_reducible first|exact ya1|exact ya2|exact ya3|refine jx rfl (by first|rfl|assumption|(simp only [znl,znT4];(first|done|fail)))|exact ya5|exact ya7|exact jy|exact jz|refine jA ?_|refine ya9 ?_ ?_ ?_|refine jC rfl (by first|rfl|assumption|(simp only [znl,znT4];(first|done|fail)))|refine MR.agg (MRL.cons ?_ ?_)|refine MR.fn ?_|refine MRL.cons ?_ ?_|exact MRL.nil|refine jE ?_ ?_|exact jF|exact jG|refine yb1 ?_ ?_|refine MB.row ?_|refine jI ?_ ?_|exact ya8|refine jJ rfl (by first|rfl|assumption|(simp only [znl,znT4];(first|done|fail)))|refine yb2 ?_|rfl)|(simp only [znl,znT4];(first|done|fail))|(simp only [↓reduceIte,zlk,Nat.reduceEqDiff,reduceCtorEq])|(with_reducible first|refine jJ ?_ ?_|refine ya5 ?_|refine ju ?_|refine jv ?_|refine jw ?_|refine jx ?_ (by first|rfl|assumption|(simp only [znl,znT4];(first|done|fail)))|refine jC ?_ (by first|rfl|assumption|(simp only [znl,znT4];(first|done|fail)))))))
                all_goals (first | rfl | omega)
              obtain ⟨hq, hno⟩ := hq
              by_cases hql : q < k
              · have hq2 : q < l2.length := by omega
                have hbq := hdp _ (getD_mem' hq2)
                obtain ⟨hQ1, hQ2, hQ3⟩ := pr3 hbq
                by_cases hit : (l2.getD q default).pid = (l2.getD j default).par
                · rw [stay3 hd hpar (find_hit hq2 hno hit), if_pos rfl] at hsn
                  repeat' (first|(with_reducible first|refine yrl (by constructor) ?_|refine jk (fun M hM=>?_)|(refine hM _ ?_;clear hM M)|refine xb3 (by decide) ?_|refine yqa (by assumption) ?_ ?_|refine yqb (by assumption) ?_ ?_)|((with_reducible refine je ?_)<;>(first|rfl|assumption|(simp only [znl,znT4];(first|done|fail))))|(with_reducible refine jf (by (simp only [↓reduceIte,zlk,Nat.reduceEqDiff,reduceCtorEq]);exact rfl) ?_)|((with_reducible first|refine jg (fun hc=>?_) (fun hc=>?_)|refine jh (fun hc=>?_) (fun hc=>?_))<;>(try simp (disch:=omega) only [zhb] at hc)<;>(try (exfalso;omega))<;>(try subst hc))|(with_reducible refine ji (by omega) ?_)|(simp (config := { maxSteps := 400000 }) only [↓jt,↓reduceIte,zvs,reduceCtorEq,seval,-List.reduceReplicate,tab,hS1,hS2,hS3,hQ1,hQ2,hQ3,hdl,encPr,Try.results48,Try.results53, Try.results47, Try.results19, List.toList_toArray])|(simp (disch:=omega) only [ziw]))
                  refine ja (ok_body Try.func48 rfl rfl (by kernel_rfl) (k := 2) (by rfl) (by decide) ?_)
                  repeat' (first|(with_reducible first|refine yrl (by constructor) ?_|refine jk (fun M hM=>?_)|(refine hM _ ?_;clear hM M)|refine xb3 (by decide) ?_|refine yqa (by assumption) ?_ ?_|refine yqb (by assumption) ?_ ?_)|((with_reducible refine je ?_)<;>(first|rfl|assumption|(simp only [znl,znT4];(first|done|fail))))|(with_reducible refine jf (by (simp only [↓reduceIte,zlk,Nat.reduceEqDiff,reduceCtorEq]);exact rfl) ?_)|((with_reducible first|refine jg (fun hc=>?_) (fun hc=>?_)|refine jh (fun hc=>?_) (fun hc=>?_))<;>(try simp (disch:=omega) only [zhb] at hc)<;>(try (exfalso;omega))<;>(try subst hc))|(with_reducible refine ji (by omega) ?_)|(simp (config := { maxSteps := 400000 }) only [↓jt,↓reduceIte,zvs,reduceCtorEq,seval,-List.reduceReplicate,tab,hS1,hS2,hS3,hQ1,hQ2,hQ3,hit,hdl,hwa,encPr,Try.results48,Try.results53, Try.results47, Try.results19, List.toList_toArray])|(simp (disch:=omega) only [ziw]))
                  all_goals first
                    | (exfalso; omega)
                    | (refine xl1 (j + 1) ?_ (by show j + 1 ≤ k; omega) (by show k - (j + 1) < k - j; omega); (refine yrn [(1, 1), (2, 2), (3, 3), (4, 7)] false ?_ ?_<;>(repeat' (first|(with_reducible first|exact ya1|exact ya2|exact ya3|refine jx rfl (by first|rfl|assumption|(simp only [znl,znT4];(first|done|fail)))|exact ya5|exact ya7|exact jy|exact jz|refine jA ?_|refine ya9 ?_ ?_ ?_|refine jC rfl (by first|rfl|assumption|(simp only [znl,znT4];(first|done|fail)))|refine MR.agg (MRL.cons ?_ ?_)|refine MR.fn ?_|refine MRL.cons ?_ ?_|exact MRL.nil|refine jE ?_ ?_|exact jF|exact jG|refine yb1 ?_ ?_|refine MB.row ?_|refine jI ?_ ?_|exact ya8|refine jJ rfl (by first|rfl|assumption|(simp only [znl,znT4];(first|done|fail)))|refine yb2 ?_|rfl)|(simp only [znl,znT4];(first|done|fail))|(simp only [↓reduceIte,zlk,Nat.reduceEqDiff,reduceCtorEq])|(with_reducible first|refine jJ ?_ ?_|refine ya5 ?_|refine ju ?_|refine jv ?_|refine jw ?_|refine jx ?_ (by first|rfl|assumption|(simp only [znl,znT4];(first|done|fail)))|refine jC ?_ (by first|rfl|assumption|(simp only [znl,znT4];(first|done|fail))))))); all_goals (first | rfl | (rw [hsn, List.length_append]; rfl) | (rw [hsn]; done) | (simp [hsn]; done) | fail); done)
                    | (refine xl1 (j + 1) ?_ (by show j + 1 ≤ k; omega) (by show k - (j + 1) < k - j; omega); (refine yrn [(1, 1), (2, 2), (3, 3), (4, 8)] false ?_ ?_<;>(repeat' (first|(with_reducible first|exact ya1|exact ya2|exact ya3|refine jx rfl (by first|rfl|assumption|(simp only [znl,znT4];(first|done|fail)))|exact ya5|exact ya7|exact jy|exact jz|refine jA ?_|refine ya9 ?_ ?_ ?_|refine jC rfl (by first|rfl|assumption|(simp only [znl,znT4];(first|done|fail)))|refine MR.agg (MRL.cons ?_ ?_)|refine MR.fn ?_|refine MRL.cons ?_ ?_|exact MRL.nil|refine jE ?_ ?_|exact jF|exact jG|refine yb1 ?_ ?_|refine MB.row ?_|refine jI ?_ ?_|exact ya8|refine jJ rfl (by first|rfl|assumption|(simp only [znl,znT4];(first|done|fail)))|refine yb2 ?_|rfl)|(simp only [znl,znT4];(first|done|fail))|(simp only [↓reduceIte,zlk,Nat.reduceEqDiff,reduceCtorEq])|(with_reducible first|refine jJ ?_ ?_|refine ya5 ?_|refine ju ?_|refine jv ?_|refine jw ?_|refine jx ?_ (by first|rfl|assumption|(simp only [znl,znT4];(first|done|fail)))|refine jC ?_ (by first|rfl|assumption|(simp only [znl,znT4];(first|done|fail))))))); all_goals (first | rfl | (rw [hsn, List.length_append]; rfl) | (rw [hsn]; done) | (simp [hsn]; done) | fail); done)
                    | (refine xl1 (j + 1) ?_ (by show j + 1 ≤ k; omega) (by show k - (j + 1) < k - j; omega); (refine yrn [(1, 1), (2, 2), (3, 3), (4, 9)] false ?_ ?_<;>(repeat' (first|(with_reducible first|exact ya1|exact ya2|exact ya3|refine jx rfl (by first|rfl|assumption|(simp only [znl,znT4];(first|done|fail)))|exact ya5|exact ya7|exact jy|exact jz|refine jA ?_|refine ya9 ?_ ?_ ?_|refine jC rfl (by first|rfl|assumption|(simp only [znl,znT4];(first|done|fail)))|refine MR.agg (MRL.cons ?_ ?_)|refine MR.fn ?_|refine MRL.cons ?_ ?_|exact MRL.nil|refine jE ?_ ?_|exact jF|exact jG|refine yb1 ?_ ?_|refine MB.row ?_|refine jI ?_ ?_|exact ya8|refine jJ rfl (by first|rfl|assumption|(simp only [znl,znT4];(first|done|fail)))|refine yb2 ?_|rfl)|(simp only [znl,znT4];(first|done|fail))|(simp only [↓reduceIte,zlk,Nat.reduceEqDiff,reduceCtorEq])|(with_reducible first|refine jJ ?_ ?_|refine ya5 ?_|refine ju ?_|refine jv ?_|refine jw ?_|refine jx ?_ (by first|rfl|assumption|(simp only [znl,znT4];(first|done|fail)))|refine jC ?_ (by first|rfl|assumption|(simp only [znl,znT4];(first|done|fail))))))); all_goals (first | rfl | (rw [hsn, List.length_append]; rfl) | (rw [hsn]; done) | (simp [hsn]; done) | fail); done)
                    | (refine xl1 (j + 1) ?_ (by show j + 1 ≤ k; omega) (by show k - (j + 1) < k - j; omega); (refine yrn [(1, 1), (2, 2), (3, 3), (4, 10)] false ?_ ?_<;>(repeat' (first|(with_reducible first|exact ya1|exact ya2|exact ya3|refine jx rfl (by first|rfl|assumption|(simp only [znl,znT4];(first|done|fail)))|exact ya5|exact ya7|exact jy|exact jz|refine jA ?_|refine ya9 ?_ ?_ ?_|refine jC rfl (by first|rfl|assumption|(simp only [znl,znT4];(first|done|fail)))|refine MR.agg (MRL.cons ?_ ?_)|refine MR.fn ?_|refine MRL.cons ?_ ?_|exact MRL.nil|refine jE ?_ ?_|exact jF|exact jG|refine yb1 ?_ ?_|refine MB.row ?_|refine jI ?_ ?_|exact ya8|refine jJ rfl (by first|rfl|assumption|(simp only [znl,znT4];(first|done|fail)))|refine yb2 ?_|rfl)|(simp only [znl,znT4];(first|done|fail))|(simp only [↓reduceIte,zlk,Nat.reduceEqDiff,reduceCtorEq])|(with_reducible first|refine jJ ?_ ?_|refine ya5 ?_|refine ju ?_|refine jv ?_|refine jw ?_|refine jx ?_ (by first|rfl|assumption|(simp only [znl,znT4];(first|done|fail)))|refine jC ?_ (by first|rfl|assumption|(simp only [znl,znT4];(first|done|fail))))))); all_goals (first | rfl | (rw [hsn, List.length_append]; rfl) | (rw [hsn]; done) | (simp [hsn]; done) | fail); done)
                · have hst : ∀ i, i < q + 1 → (l2.getD i default).pid ≠ (l2.getD j default).par := fun i hi => by
                    by_cases e : i = q
                    · rw [e]; exact hit
                    · exact hno i (by omega)
                  repeat' (first|(with_reducible first|refine yrl (by constructor) ?_|refine jk (fun M hM=>?_)|(refine hM _ ?_;clear hM M)|refine xb3 (by decide) ?_|refine yqa (by assumption) ?_ ?_|refine yqb (by assumption) ?_ ?_)|((with_reducible refine je ?_)<;>(first|rfl|assumption|(simp only [znl,znT4];(first|done|fail))))|(with_reducible refine jf (by (simp only [↓reduceIte,zlk,Nat.reduceEqDiff,reduceCtorEq]);exact rfl) ?_)|((with_reducible first|refine jg (fun hc=>?_) (fun hc=>?_)|refine jh (fun hc=>?_) (fun hc=>?_))<;>(try simp (disch:=omega) only [zhb] at hc)<;>(try (exfalso;omega))<;>(try subst hc))|(with_reducible refine ji (by omega) ?_)|(simp (config := { maxSteps := 400000 }) only [↓jt,↓reduceIte,zvs,reduceCtorEq,seval,-List.reduceReplicate,tab,hS1,hS2,hS3,hQ1,hQ2,hQ3,hdl,encPr,Try.results48,Try.results53, Try.results47, Try.results19, List.toList_toArray])|(simp (disch:=omega) only [ziw]))
                  refine ja (ok_body Try.func48 rfl rfl (by kernel_rfl) (k := 2) (by rfl) (by decide) ?_)
                  repeat' (first|(with_reducible first|refine yrl (by constructor) ?_|refine jk (fun M hM=>?_)|(refine hM _ ?_;clear hM M)|refine xb3 (by decide) ?_|refine yqa (by assumption) ?_ ?_|refine yqb (by assumption) ?_ ?_)|((with_reducible refine je ?_)<;>(first|rfl|assumption|(simp only [znl,znT4];(first|done|fail))))|(with_reducible refine jf (by (simp only [↓reduceIte,zlk,Nat.reduceEqDiff,reduceCtorEq]);exact rfl) ?_)|((with_reducible first|refine jg (fun hc=>?_) (fun hc=>?_)|refine jh (fun hc=>?_) (fun hc=>?_))<;>(try simp (disch:=omega) only [zhb] at hc)<;>(try (exfalso;omega))<;>(try subst hc))|(with_reducible refine ji (by omega) ?_)|(simp (config := { maxSteps := 400000 }) only [↓jt,↓reduceIte,zvs,reduceCtorEq,seval,-List.reduceReplicate,tab,hS1,hS2,hS3,hQ1,hQ2,hQ3,hdl,encPr,Try.results48,Try.results53, Try.results47, Try.results19, List.toList_toArray])|(simp (disch:=omega) only [ziw]))
                  all_goals first
                    | (exfalso; omega)
                    | (refine xl1 (q + 1) ?_ ⟨by omega, hst⟩ (by show k - (q + 1) < k - q; omega); (refine yrn [] false ?_ ?_<;>(repeat' (first|(with_reducible first|exact ya1|exact ya2|exact ya3|refine jx rfl (by first|rfl|assumption|(simp only [znl,znT4];(first|done|fail)))|exact ya5|exact ya7|exact jy|exact jz|refine jA ?_|refine ya9 ?_ ?_ ?_|refine jC rfl (by first|rfl|assumption|(simp only [znl,znT4];(first|done|fail)))|refine MR.agg (MRL.cons ?_ ?_)|refine MR.fn ?_|refine MRL.cons ?_ ?_|exact MRL.nil|refine jE ?_ ?_|exact jF|exact jG|refine yb1 ?_ ?_|refine MB.row ?_|refine jI ?_ ?_|exact ya8|refine jJ rfl (by first|rfl|assumption|(simp only [znl,znT4];(first|done|fail)))|refine yb2 ?_|rfl)|(simp only [znl,znT4];(first|done|fail))|(simp only [↓reduceIte,zlk,Nat.reduceEqDiff,reduceCtorEq])|(with_reducible first|refine jJ ?_ ?_|refine ya5 ?_|refine ju ?_|refine jv ?_|refine jw ?_|refine jx ?_ (by first|rfl|assumption|(simp only [znl,znT4];(first|done|fail)))|refine jC ?_ (by first|rfl|assumption|(simp only [znl,znT4];(first|done|fail))))))); done)
              · obtain rfl : q = k := by omega
                rw [stay2 hd (find_miss (by rw [hdl]; exact hno)), if_neg (by simp), List.append_nil] at hsn
                repeat' (first|(with_reducible first|refine yrl (by constructor) ?_|refine jk (fun M hM=>?_)|(refine hM _ ?_;clear hM M)|refine xb3 (by decide) ?_|refine yqa (by assumption) ?_ ?_|refine yqb (by assumption) ?_ ?_)|((with_reducible refine je ?_)<;>(first|rfl|assumption|(simp only [znl,znT4];(first|done|fail))))|(with_reducible refine jf (by (simp only [↓reduceIte,zlk,Nat.reduceEqDiff,reduceCtorEq]);exact rfl) ?_)|((with_reducible first|refine jg (fun hc=>?_) (fun hc=>?_)|refine jh (fun hc=>?_) (fun hc=>?_))<;>(try simp (disch:=omega) only [zhb] at hc)<;>(try (exfalso;omega))<;>(try subst hc))|(with_reducible refine ji (by omega) ?_)|(simp (config := { maxSteps := 400000 }) only [↓jt,↓reduceIte,zvs,reduceCtorEq,seval,-List.reduceReplicate,tab,hS1,hS2,hS3,hdl,encPr,Try.results48,Try.results53, Try.results47, Try.results19, List.toList_toArray])|(simp (disch:=omega) only [ziw]))
                all_goals first
                  | (exfalso; omega)
                  | (refine xl1 (j + 1) ?_ (by show j + 1 ≤ q; omega) (by show q - (j + 1) < q - j; omega); (refine yrn [(1, 1), (2, 2), (3, 3), (4, 4)] false ?_ ?_<;>(repeat' (first|(with_reducible first|exact ya1|exact ya2|exact ya3|refine jx rfl (by first|rfl|assumption|(simp only [znl,znT4];(first|done|fail)))|exact ya5|exact ya7|exact jy|exact jz|refine jA ?_|refine ya9 ?_ ?_ ?_|refine jC rfl (by first|rfl|assumption|(simp only [znl,znT4];(first|done|fail)))|refine MR.agg (MRL.cons ?_ ?_)|refine MR.fn ?_|refine MRL.cons ?_ ?_|exact MRL.nil|refine jE ?_ ?_|exact jF|exact jG|refine yb1 ?_ ?_|refine MB.row ?_|refine jI ?_ ?_|exact ya8|refine jJ rfl (by first|rfl|assumption|(simp only [znl,znT4];(first|done|fail)))|refine yb2 ?_|rfl)|(simp only [znl,znT4];(first|done|fail))|(simp only [↓reduceIte,zlk,Nat.reduceEqDiff,reduceCtorEq])|(with_reducible first|refine jJ ?_ ?_|refine ya5 ?_|refine ju ?_|refine jv ?_|refine jw ?_|refine jx ?_ (by first|rfl|assumption|(simp only [znl,znT4];(first|done|fail)))|refine jC ?_ (by first|rfl|assumption|(simp only [znl,znT4];(first|done|fail))))))); all_goals (first | rfl | (rw [hsn, List.length_append]; rfl) | (rw [hsn]; done) | (simp [hsn]; done) | fail); done)
          · rw [stay0 hd, if_pos rfl] at hsn
            repeat' (first|(with_reducible first|refine yrl (by constructor) ?_|refine jk (fun M hM=>?_)|(refine hM _ ?_;clear hM M)|refine xb3 (by decide) ?_|refine yqa (by assumption) ?_ ?_|refine yqb (by assumption) ?_ ?_)|((with_reducible refine je ?_)<;>(first|rfl|assumption|(simp only [znl,znT4];(first|done|fail))))|(with_reducible refine jf (by (simp only [↓reduceIte,zlk,Nat.reduceEqDiff,reduceCtorEq]);exact rfl) ?_)|((with_reducible first|refine jg (fun hc=>?_) (fun hc=>?_)|refine jh (fun hc=>?_) (fun hc=>?_))<;>(try simp (disch:=omega) only [zhb] at hc)<;>(try (exfalso;omega))<;>(try subst hc))|(with_reducible refine ji (by omega) ?_)|(simp (config := { maxSteps := 400000 }) only [↓jt,↓reduceIte,zvs,reduceCtorEq,seval,-List.reduceReplicate,tab,hS1,hS2,hS3,hdl,hwa,encPr,Try.results90, Try.results41, Try.results19, List.toList_toArray])|(simp (disch:=omega) only [ziw]))
            all_goals first
              | (exfalso; omega)
              | (refine xl1 (j + 1) ?_ (by show j + 1 ≤ k; omega) (by show k - (j + 1) < k - j; omega); (refine yrn [(1, 1), (2, 2), (3, 3), (4, 7)] false ?_ ?_<;>(repeat' (first|(with_reducible first|exact ya1|exact ya2|exact ya3|refine jx rfl (by first|rfl|assumption|(simp only [znl,znT4];(first|done|fail)))|exact ya5|exact ya7|exact jy|exact jz|refine jA ?_|refine ya9 ?_ ?_ ?_|refine jC rfl (by first|rfl|assumption|(simp only [znl,znT4];(first|done|fail)))|refine MR.agg (MRL.cons ?_ ?_)|refine MR.fn ?_|refine MRL.cons ?_ ?_|exact MRL.nil|refine jE ?_ ?_|exact jF|exact jG|refine yb1 ?_ ?_|refine MB.row ?_|refine jI ?_ ?_|exact ya8|refine jJ rfl (by first|rfl|assumption|(simp only [znl,znT4];(first|done|fail)))|refine yb2 ?_|rfl)|(simp only [znl,znT4];(first|done|fail))|(simp only [↓reduceIte,zlk,Nat.reduceEqDiff,reduceCtorEq])|(with_reducible first|refine jJ ?_ ?_|refine ya5 ?_|refine ju ?_|refine jv ?_|refine jw ?_|refine jx ?_ (by first|rfl|assumption|(simp only [znl,znT4];(first|done|fail)))|refine jC ?_ (by first|rfl|assumption|(simp only [znl,znT4];(first|done|fail))))))); all_goals (first | rfl | (rw [hsn, List.length_append]; rfl) | (rw [hsn]; done) | (simp [hsn]; done) | fail); done)
              | (refine xl1 (j + 1) ?_ (by show j + 1 ≤ k; omega) (by show k - (j + 1) < k - j; omega); (refine yrn [(1, 1), (2, 2), (3, 3), (4, 8)] false ?_ ?_<;>(repeat' (first|(with_reducible first|exact ya1|exact ya2|exact ya3|refine jx rfl (by first|rfl|assumption|(simp only [znl,znT4];(first|done|fail)))|exact ya5|exact ya7|exact jy|exact jz|refine jA ?_|refine ya9 ?_ ?_ ?_|refine jC rfl (by first|rfl|assumption|(simp only [znl,znT4];(first|done|fail)))|refine MR.agg (MRL.cons ?_ ?_)|refine MR.fn ?_|refine MRL.cons ?_ ?_|exact MRL.nil|refine jE ?_ ?_|exact jF|exact jG|refine yb1 ?_ ?_|refine MB.row ?_|refine jI ?_ ?_|exact ya8|refine jJ rfl (by first|rfl|assumption|(simp only [znl,znT4];(first|done|fail)))|refine yb2 ?_|rfl)|(simp only [znl,znT4];(first|done|fail))|(simp only [↓reduceIte,zlk,Nat.reduceEqDiff,reduceCtorEq])|(with_reducible first|refine jJ ?_ ?_|refine ya5 ?_|refine ju ?_|refine jv ?_|refine jw ?_|refine jx ?_ (by first|rfl|assumption|(simp only [znl,znT4];(first|done|fail)))|refine jC ?_ (by first|rfl|assumption|(simp only [znl,znT4];(first|done|fail))))))); all_goals (first | rfl | (rw [hsn, List.length_append]; rfl) | (rw [hsn]; done) | (simp [hsn]; done) | fail); done)
              | (refine xl1 (j + 1) ?_ (by show j + 1 ≤ k; omega) (by show k - (j + 1) < k - j; omega); (refine yrn [(1, 1), (2, 2), (3, 3), (4, 9)] false ?_ ?_<;>(repeat' (first|(with_reducible first|exact ya1|exact ya2|exact ya3|refine jx rfl (by first|rfl|assumption|(simp only [znl,znT4];(first|done|fail)))|exact ya5|exact ya7|exact jy|exact jz|refine jA ?_|refine ya9 ?_ ?_ ?_|refine jC rfl (by first|rfl|assumption|(simp only [znl,znT4];(first|done|fail)))|refine MR.agg (MRL.cons ?_ ?_)|refine MR.fn ?_|refine MRL.cons ?_ ?_|exact MRL.nil|refine jE ?_ ?_|exact jF|exact jG|refine yb1 ?_ ?_|refine MB.row ?_|refine jI ?_ ?_|exact ya8|refine jJ rfl (by first|rfl|assumption|(simp only [znl,znT4];(first|done|fail)))|refine yb2 ?_|rfl)|(simp only [znl,znT4];(first|done|fail))|(simp only [↓reduceIte,zlk,Nat.reduceEqDiff,reduceCtorEq])|(with_reducible first|refine jJ ?_ ?_|refine ya5 ?_|refine ju ?_|refine jv ?_|refine jw ?_|refine jx ?_ (by first|rfl|assumption|(simp only [znl,znT4];(first|done|fail)))|refine jC ?_ (by first|rfl|assumption|(simp only [znl,znT4];(first|done|fail))))))); all_goals (first | rfl | (rw [hsn, List.length_append]; rfl) | (rw [hsn]; done) | (simp [hsn]; done) | fail); done)
        · obtain rfl : j = k := by omega
          have hoa : out j = l2.filter (stayB l2) := by rw [hout, List.take_of_length_le (by omega)]
          rw [hoa] at hoj ⊢
          have hfp : ∀ p ∈ l2.filter (stayB l2), PrR p := fun p hp => hdp p (List.mem_filter.1 hp).1
          generalize l2.filter (stayB l2) = l3 at hoj hfp ⊢
          have hfit3 : MFit 20000 (prM m l3) := prM_fit hm (by omega) hfp
          have hSw := ssweep_spec (prM m l3) hfit3
          repeat' ((fail_if_success (with_reducible refine ok_stop 22 ?_));first|(with_reducible first|refine yrl (by constructor) ?_|refine jk (fun M hM=>?_)|(refine hM _ ?_;clear hM M)|refine xb3 (by decide) ?_|refine yqa (by assumption) ?_ ?_|refine yqb (by assumption) ?_ ?_)|((with_reducible refine je ?_)<;>(first|rfl|assumption|(simp only [znl,znT4];(first|done|fail))))|(with_reducible refine jf (by (simp only [↓reduceIte,zlk,Nat.reduceEqDiff,reduceCtorEq]);exact rfl) ?_)|((with_reducible first|refine jg (fun hc=>?_) (fun hc=>?_)|refine jh (fun hc=>?_) (fun hc=>?_))<;>(try simp (disch:=omega) only [zhb] at hc)<;>(try (exfalso;omega))<;>(try subst hc))|(with_reducible refine ji (by omega) ?_)|(simp (config := { maxSteps := 400000 }) only [↓jt,↓reduceIte,zvs,reduceCtorEq,seval,-List.reduceReplicate,tab,Try.results90, Try.results41, Try.results19, List.toList_toArray])|(simp (disch:=omega) only [ziw]))
          all_goals (try (exfalso; omega))
          refine ok_ren (T := ⟨slots [(6, .ptr 1 []), (7, .ptr 2 [])], rows [(1, .row machSh nilMD), (2, .row machSh (encM (prM m l3)))], 3⟩) ?_ ?_
          · (refine yrn [(1, 1), (2, 2)] true ?_ ?_<;>(repeat' (first|(with_reducible first|exact ya1|exact ya2|exact ya3|refine jx rfl (by first|rfl|assumption|(simp only [znl,znT4];(first|done|fail)))|exact ya5|exact ya7|exact jy|exact jz|refine jA ?_|refine ya9 ?_ ?_ ?_|refine jC rfl (by first|rfl|assumption|(simp only [znl,znT4];(first|done|fail)))|refine MR.agg (MRL.cons ?_ ?_)|refine MR.fn ?_|refine MRL.cons ?_ ?_|exact MRL.nil|refine jE ?_ ?_|exact jF|exact jG|refine yb1 ?_ ?_|refine MB.row ?_|refine jI ?_ ?_|exact ya8|refine jJ rfl (by first|rfl|assumption|(simp only [znl,znT4];(first|done|fail)))|refine yb2 ?_|rfl)|(simp only [znl,znT4];(first|done|fail))|(simp only [↓reduceIte,zlk,Nat.reduceEqDiff,reduceCtorEq])|(with_reducible first|refine jJ ?_ ?_|refine ya5 ?_|refine ju ?_|refine jv ?_|refine jw ?_|refine jx ?_ (by first|rfl|assumption|(simp only [znl,znT4];(first|done|fail)))|refine jC ?_ (by first|rfl|assumption|(simp only [znl,znT4];(first|done|fail)))))))
            all_goals (first | rfl | (simp; done))
          generalize sweepM (prM m l3) = v at hSw ⊢
          repeat' (first|(with_reducible first|refine yrl (by constructor) ?_|refine jk (fun M hM=>?_)|(refine hM _ ?_;clear hM M)|refine xb3 (by decide) ?_|refine yqa (by assumption) ?_ ?_|refine yqb (by assumption) ?_ ?_)|((with_reducible refine je ?_)<;>(first|rfl|assumption|(simp only [znl,znT4];(first|done|fail))))|(with_reducible refine jf (by (simp only [↓reduceIte,zlk,Nat.reduceEqDiff,reduceCtorEq]);exact rfl) ?_)|((with_reducible first|refine jg (fun hc=>?_) (fun hc=>?_)|refine jh (fun hc=>?_) (fun hc=>?_))<;>(try simp (disch:=omega) only [zhb] at hc)<;>(try (exfalso;omega))<;>(try subst hc))|(with_reducible refine ji (by omega) ?_)|(simp (config := { maxSteps := 400000 }) only [↓jt,↓reduceIte,zvs,reduceCtorEq,seval,-List.reduceReplicate,tab,Try.results90, Try.results41, Try.results19, List.toList_toArray])|(simp (disch:=omega) only [ziw]))
          all_goals first
            | (exfalso; omega)
            | (((try simp only [List.map_nil]); simp only [zrds]; (repeat' (first | exact rd_nil | exact Rd.refl _ _ (by first|rfl|assumption|(simp only [znl,znT4];(first|done|fail))) | (refine And.intro ?_ ?_) | (refine rd_own (by (simp only [↓reduceIte,zlk,Nat.reduceEqDiff,reduceCtorEq]); exact rfl) ?_ ?_ ?_) | rfl | assumption | (simp only [znl,znT4];(first|done|fail)) | (simp; done) | (simp; omega)))); done)
end Go.Proofs.Ytpdhdkpebbfnnaa.V
end
section
namespace Go.Proofs.Ytpdhdkpebbfnnaa.V
open Go
set_option maxRecDepth 100000
set_option maxHeartbeats 4000000
end Go.Proofs.Ytpdhdkpebbfnnaa.V
end
section
namespace Go.Proofs.Ytpdhdkpebbfnnaa.V
open Go
set_option maxRecDepth 100000
set_option maxHeartbeats 8000000
end Go.Proofs.Ytpdhdkpebbfnnaa.V
end
section
namespace Go.Proofs.Ytpdhdkpebbfnnaa.V
open Go
set_option maxRecDepth 100000
def znTF := And.intro @jO <| And.intro @jP <| And.intro @jQ <| And.intro @jR <| And.intro @jS <| And.intro @jT <| And.intro @jU <| True.intro
set_option maxHeartbeats 8000000
def bl2s (L Z w : List UInt8) : List VV := (L :: Z :: w :: List.replicate 13 Z).map .str
theorem bl2s_len (L Z w : List UInt8) : (bl2s L Z w).length = 16 := by simp [bl2s]
theorem bl1_2s (L Z : List UInt8) : bl1 L Z 15 = bl2s L Z Z := rfl
theorem bl2s_at (L Z w : List UInt8) : (bl2s L Z w)[2]? = some (.str w) := rfl
theorem bl2s_set (L Z w x : List UInt8) : (bl2s L Z w).set 2 (.str x) = bl2s L Z x := rfl
theorem bl2s_nl (L Z w : List UInt8) : nls (bl2s L Z w) = true := nls_mapStr _
def vol16 : Frames := headG 16 4 :: List.replicate 128 0 :: bitsT 5 :: List.replicate 13 (List.replicate 128 0)
theorem vol16_len : vol16.length = 16 := rfl
theorem vol16_all : ∀ s ∈ vol16, s.length = 128 := by
  intro s hs
  simp only [vol16,List.mem_cons,List.mem_replicate] at hs
  rcases hs with rfl | rfl | rfl | ⟨_, rfl⟩
  · simp [headG, putLE_len]
  · exact List.length_replicate
  · exact bitsT_len 5 (by omega)
  · exact List.length_replicate
theorem fmt17s_spec : Spec Try.prog 85 [.int .i64 16, .int .i64 4] (.tup [encStrs vol16, .int .i64 0]) := by
  have hP : Spec Try.prog 120 [.int .i64 16, .int .i64 4] (.tup [.agg [.int .i64 16, .int .i64 4, .int .i64 1, .int .i64 2, .int .i64 3, .int .i64 5], .int .i64 0]) := plan_spec 16 4 (by omega) (by omega)
  have hH : Spec Try.prog 121 [.agg [.int .i64 16, .int .i64 4, .int .i64 1, .int .i64 2, .int .i64 3, .int .i64 5]] (.str (headG 16 4)) := head_spec ⟨16, 4, 1, 2, 3, 5⟩ (by decide) (by decide)
  have hL : (headG 16 4).length = 128 := by simp [headG, putLE_len]
  have hZ : Spec Try.prog 122 [.int .i64 128] (.str (List.replicate 128 0)) := zeros17_spec 128 (by omega)
  have hv0 : vol16 = headG 16 4 :: List.replicate 128 0 :: bitsT 5 :: List.replicate 13 (List.replicate 128 0) := rfl
  have key : ∃ t : Nat → List UInt8, t = bitsT ∧ t 0 = List.replicate 128 0 ∧ ∀ k, k < 5 → (t k).length = 128 ∧ (t (k + 1)).length = 128 ∧ Spec Try.prog 123 [.str (t k), .int .i64 k] (.str (t (k + 1))) :=
    ⟨bitsT, rfl, rfl, fun k hk => ⟨bitsT_len k (by omega), bitsT_len (k + 1) (by omega), turn_specX _ (bitsT_len k (by omega)) k (by omega)⟩⟩
  obtain ⟨t, et, t0, ht⟩ := key
  rw [hv0, ← et]
  clear et hv0
  obtain ⟨Z, eZ⟩ : ∃ Z : List UInt8, Z = List.replicate 128 0 := ⟨_, rfl⟩
  have hZl : Z.length = 128 := by rw [eZ, List.length_replicate]
  rw [← eZ] at hZ t0
  rw [← eZ]
  clear eZ
  generalize headG 16 4 = L at hH hL
  have h6 : ∀ a : VV, List.replicate 6 a = [a, a, a, a, a, a] := fun _ => rfl
  obtain ⟨b1, e1, b1s, b1l, b1n⟩ : ∃ b1 : Nat → List VV, b1 = bl1 L Z ∧ (∀ j, b1 j ++ [.str Z] = b1 (j + 1)) ∧ (∀ j, (b1 j).length = j + 1) ∧ ∀ j, nls (b1 j) = true := ⟨_, rfl, bl1_succ L Z, bl1_len L Z, bl1_nl L Z⟩
  obtain ⟨b2, e2, b2l, b2n, b2a, b2s⟩ : ∃ b2 : List UInt8 → List VV, b2 = bl2s L Z ∧ (∀ w, (b2 w).length = 16) ∧ (∀ w, nls (b2 w) = true) ∧ (∀ w, (b2 w)[2]? = some (.str w)) ∧ ∀ w x, (b2 w).set 2 (.str x) = b2 x := ⟨_, rfl, bl2s_len L Z, bl2s_nl L Z, bl2s_at L Z, bl2s_set L Z⟩
  have e12 : b1 15 = b2 Z := by rw [e1, e2]; exact bl1_2s L Z
  have e10 : [.str L] = b1 0 := by rw [e1]; rfl
  have e25 : b2 (t 5) = (L :: Z :: t 5 :: List.replicate 13 Z).map .str := by rw [e2]; rfl
  have b10n := b1n 0
  have b20n := b2n Z
  clear e1 e2
  refine spec_ok Try.func85 rfl rfl (by kernel_rfl) (k := 2) rfl (by decide) ?_
  repeat' (first|(with_reducible first|refine yrl (by constructor) ?_|refine jk (fun M hM=>?_)|(refine hM _ ?_;clear hM M)|refine xb3 (by decide) ?_|refine yqa (by assumption) ?_ ?_|refine yqb (by assumption) ?_ ?_)|((with_reducible refine je ?_)<;>(first|rfl|assumption|(simp only [znl,znTF];(first|done|fail))))|(with_reducible refine jf (by (simp only [↓reduceIte,zlk,Nat.reduceEqDiff,reduceCtorEq]);exact rfl) ?_)|((with_reducible first|refine jg (fun hc=>?_) (fun hc=>?_)|refine jh (fun hc=>?_) (fun hc=>?_))<;>(try simp (disch:=omega) only [zhb] at hc)<;>(try (exfalso;omega))<;>(try subst hc))|(with_reducible refine ji (by omega) ?_)|(simp (config := { maxSteps := 400000 }) only [↓jt,↓reduceIte,zvs,reduceCtorEq,seval,-List.reduceReplicate,tab,h6,Try.results85,jTA])|(simp (disch:=omega) only [ziw]))
  refine ok_loop (fun j : Nat => ⟨slots [(0, .int .i64 16), (6, .ptr 0 []), (8, .sl (some (1, [], 0)) (j + 1)), (9, .int .i64 ((j + 1 : Nat) : Int))], rows [(0, .row geoSh (.agg [.int .i64 16, .int .i64 4, .int .i64 1, .int .i64 2, .int .i64 3, .int .i64 5])), (1, .row (.arr (j + 1) .cell) (.agg (b1 j)))], 2⟩) (fun j => j ≤ 15) (fun j => 15 - j) 0 ?_ (Nat.zero_le _) (fun j hj => ?_)
  · (refine yrn [(0, 0), (1, 1)] false ?_ ?_<;>(repeat' (first|(with_reducible first|exact ya1|exact ya2|exact ya3|refine jx rfl (by first|rfl|assumption|(simp only [znl,znTF];(first|done|fail)))|exact ya5|exact ya7|exact jy|exact jz|refine jA ?_|refine ya9 ?_ ?_ ?_|refine jC rfl (by first|rfl|assumption|(simp only [znl,znTF];(first|done|fail)))|refine MR.agg (MRL.cons ?_ ?_)|refine MR.fn ?_|refine MRL.cons ?_ ?_|exact MRL.nil|refine jE ?_ ?_|exact jF|exact jG|refine yb1 ?_ ?_|refine MB.row ?_|refine jI ?_ ?_|exact ya8|refine jJ rfl (by first|rfl|assumption|(simp only [znl,znTF];(first|done|fail)))|refine yb2 ?_|rfl)|(simp only [znl,znTF];(first|done|fail))|(simp only [↓reduceIte,zlk,Nat.reduceEqDiff,reduceCtorEq])|(with_reducible first|refine jJ ?_ ?_|refine ya5 ?_|refine ju ?_|refine jv ?_|refine jw ?_|refine jx ?_ (by first|rfl|assumption|(simp only [znl,znTF];(first|done|fail)))|refine jC ?_ (by first|rfl|assumption|(simp only [znl,znTF];(first|done|fail)))))))
    all_goals (first | rfl | exact e10 | exact e10.symm)
  by_cases hlt : j < 15
  · have hb := b1l j
    have hn1 := b1n j
    have hn2 := b1n (j + 1)
    repeat' (first|(with_reducible first|refine yrl (by constructor) ?_|refine jk (fun M hM=>?_)|(refine hM _ ?_;clear hM M)|refine xb3 (by decide) ?_|refine yqa (by assumption) ?_ ?_|refine yqb (by assumption) ?_ ?_)|((with_reducible refine je ?_)<;>(first|rfl|assumption|(simp only [znl,znTF];(first|done|fail))))|(with_reducible refine jf (by (simp only [↓reduceIte,zlk,Nat.reduceEqDiff,reduceCtorEq]);exact rfl) ?_)|((with_reducible first|refine jg (fun hc=>?_) (fun hc=>?_)|refine jh (fun hc=>?_) (fun hc=>?_))<;>(try simp (disch:=omega) only [zhb] at hc)<;>(try (exfalso;omega))<;>(try subst hc))|(with_reducible refine ji (by omega) ?_)|(simp (config := { maxSteps := 400000 }) only [↓jt,↓reduceIte,zvs,reduceCtorEq,seval,-List.reduceReplicate,tab,h6,hb,Try.results85,jTA])|(simp (disch:=omega) only [ziw]))
    refine xl1 (j + 1) ?_ (by show j + 1 ≤ 15; omega) (by show 15 - (j + 1) < 15 - j; omega)
    (refine yrn [(0, 0), (1, 3)] false ?_ ?_<;>(repeat' (first|(with_reducible first|exact ya1|exact ya2|exact ya3|refine jx rfl (by first|rfl|assumption|(simp only [znl,znTF];(first|done|fail)))|exact ya5|exact ya7|exact jy|exact jz|refine jA ?_|refine ya9 ?_ ?_ ?_|refine jC rfl (by first|rfl|assumption|(simp only [znl,znTF];(first|done|fail)))|refine MR.agg (MRL.cons ?_ ?_)|refine MR.fn ?_|refine MRL.cons ?_ ?_|exact MRL.nil|refine jE ?_ ?_|exact jF|exact jG|refine yb1 ?_ ?_|refine MB.row ?_|refine jI ?_ ?_|exact ya8|refine jJ rfl (by first|rfl|assumption|(simp only [znl,znTF];(first|done|fail)))|refine yb2 ?_|rfl)|(simp only [znl,znTF];(first|done|fail))|(simp only [↓reduceIte,zlk,Nat.reduceEqDiff,reduceCtorEq])|(with_reducible first|refine jJ ?_ ?_|refine ya5 ?_|refine ju ?_|refine jv ?_|refine jw ?_|refine jx ?_ (by first|rfl|assumption|(simp only [znl,znTF];(first|done|fail)))|refine jC ?_ (by first|rfl|assumption|(simp only [znl,znTF];(first|done|fail)))))))
    all_goals (first | rfl | exact b1s j | exact (b1s j).symm)
  · obtain rfl : j = 15 := by omega
    have z16 : ((15 + 1 : Nat) : Int) = 16 := rfl
    repeat' (first|(with_reducible first|refine yrl (by constructor) ?_|refine jk (fun M hM=>?_)|(refine hM _ ?_;clear hM M)|refine xb3 (by decide) ?_|refine yqa (by assumption) ?_ ?_|refine yqb (by assumption) ?_ ?_)|((with_reducible refine je ?_)<;>(first|rfl|assumption|(simp only [znl,znTF];(first|done|fail))))|(with_reducible refine jf (by (simp only [↓reduceIte,zlk,Nat.reduceEqDiff,reduceCtorEq]);exact rfl) ?_)|((with_reducible first|refine jg (fun hc=>?_) (fun hc=>?_)|refine jh (fun hc=>?_) (fun hc=>?_))<;>(try simp (disch:=omega) only [zhb] at hc)<;>(try (exfalso;omega))<;>(try subst hc))|(with_reducible refine ji (by omega) ?_)|(simp (config := { maxSteps := 400000 }) only [↓jt,↓reduceIte,zvs,reduceCtorEq,seval,-List.reduceReplicate,tab,h6,z16,Try.results85,jTA])|(simp (disch:=omega) only [ziw]))
    refine ok_loop (fun k : Nat => ⟨slots [(6, .ptr 0 []), (8, .sl (some (1, [], 0)) 16), (10, .int .i64 k)], rows [(0, .row geoSh (.agg [.int .i64 16, .int .i64 4, .int .i64 1, .int .i64 2, .int .i64 3, .int .i64 5])), (1, .row (.arr 16 .cell) (.agg (b2 (t k))))], 2⟩) (fun k => k ≤ 5) (fun k => 5 - k) 0 ?_ (Nat.zero_le _) (fun k hk => ?_)
    · rw [← t0] at b20n
      (refine yrn [(0, 0), (1, 1)] false ?_ ?_<;>(repeat' (first|(with_reducible first|exact ya1|exact ya2|exact ya3|refine jx rfl (by first|rfl|assumption|(simp only [znl,znTF];(first|done|fail)))|exact ya5|exact ya7|exact jy|exact jz|refine jA ?_|refine ya9 ?_ ?_ ?_|refine jC rfl (by first|rfl|assumption|(simp only [znl,znTF];(first|done|fail)))|refine MR.agg (MRL.cons ?_ ?_)|refine MR.fn ?_|refine MRL.cons ?_ ?_|exact MRL.nil|refine jE ?_ ?_|exact jF|exact jG|refine yb1 ?_ ?_|refine MB.row ?_|refine jI ?_ ?_|exact ya8|refine jJ rfl (by first|rfl|assumption|(simp only [znl,znTF];(first|done|fail)))|refine yb2 ?_|rfl)|(simp only [znl,znTF];(first|done|fail))|(simp only [↓reduceIte,zlk,Nat.reduceEqDiff,reduceCtorEq])|(with_reducible first|refine jJ ?_ ?_|refine ya5 ?_|refine ju ?_|refine jv ?_|refine jw ?_|refine jx ?_ (by first|rfl|assumption|(simp only [znl,znTF];(first|done|fail)))|refine jC ?_ (by first|rfl|assumption|(simp only [znl,znTF];(first|done|fail)))))))
      all_goals (first | rfl | (rw [t0]; exact e12) | (rw [t0]; exact e12.symm))
    by_cases hlt : k < 5
    · obtain ⟨hk1, hk2, hk3⟩ := ht k hlt
      have hb := b2l (t k)
      have hb2 := b2a (t k)
      have hb3 := b2s (t k)
      have hn1 := b2n (t k)
      have hn2 := b2n (t (k + 1))
      repeat' (first|(with_reducible first|refine yrl (by constructor) ?_|refine jk (fun M hM=>?_)|(refine hM _ ?_;clear hM M)|refine xb3 (by decide) ?_|refine yqa (by assumption) ?_ ?_|refine yqb (by assumption) ?_ ?_)|((with_reducible refine je ?_)<;>(first|rfl|assumption|(simp only [znl,znTF];(first|done|fail))))|(with_reducible refine jf (by (simp only [↓reduceIte,zlk,Nat.reduceEqDiff,reduceCtorEq]);exact rfl) ?_)|((with_reducible first|refine jg (fun hc=>?_) (fun hc=>?_)|refine jh (fun hc=>?_) (fun hc=>?_))<;>(try simp (disch:=omega) only [zhb] at hc)<;>(try (exfalso;omega))<;>(try subst hc))|(with_reducible refine ji (by omega) ?_)|(simp (config := { maxSteps := 400000 }) only [↓jt,↓reduceIte,zvs,reduceCtorEq,seval,-List.reduceReplicate,tab,h6,hb,hb2,hb3,Try.results85,jTA])|(simp (disch:=omega) only [ziw]))
      refine xl1 (k + 1) ?_ (by show k + 1 ≤ 5; omega) (by show 5 - (k + 1) < 5 - k; omega)
      (refine yrn [(0, 0), (1, 1)] false ?_ ?_<;>(repeat' (first|(with_reducible first|exact ya1|exact ya2|exact ya3|refine jx rfl (by first|rfl|assumption|(simp only [znl,znTF];(first|done|fail)))|exact ya5|exact ya7|exact jy|exact jz|refine jA ?_|refine ya9 ?_ ?_ ?_|refine jC rfl (by first|rfl|assumption|(simp only [znl,znTF];(first|done|fail)))|refine MR.agg (MRL.cons ?_ ?_)|refine MR.fn ?_|refine MRL.cons ?_ ?_|exact MRL.nil|refine jE ?_ ?_|exact jF|exact jG|refine yb1 ?_ ?_|refine MB.row ?_|refine jI ?_ ?_|exact ya8|refine jJ rfl (by first|rfl|assumption|(simp only [znl,znTF];(first|done|fail)))|refine yb2 ?_|rfl)|(simp only [znl,znTF];(first|done|fail))|(simp only [↓reduceIte,zlk,Nat.reduceEqDiff,reduceCtorEq])|(with_reducible first|refine jJ ?_ ?_|refine ya5 ?_|refine ju ?_|refine jv ?_|refine jw ?_|refine jx ?_ (by first|rfl|assumption|(simp only [znl,znTF];(first|done|fail)))|refine jC ?_ (by first|rfl|assumption|(simp only [znl,znTF];(first|done|fail)))))))
      all_goals (first | rfl | (simp; done))
    · obtain rfl : k = 5 := by omega
      repeat' (first|(with_reducible first|refine yrl (by constructor) ?_|refine jk (fun M hM=>?_)|(refine hM _ ?_;clear hM M)|refine xb3 (by decide) ?_|refine yqa (by assumption) ?_ ?_|refine yqb (by assumption) ?_ ?_)|((with_reducible refine je ?_)<;>(first|rfl|assumption|(simp only [znl,znTF];(first|done|fail))))|(with_reducible refine jf (by (simp only [↓reduceIte,zlk,Nat.reduceEqDiff,reduceCtorEq]);exact rfl) ?_)|((with_reducible first|refine jg (fun hc=>?_) (fun hc=>?_)|refine jh (fun hc=>?_) (fun hc=>?_))<;>(try simp (disch:=omega) only [zhb] at hc)<;>(try (exfalso;omega))<;>(try subst hc))|(with_reducible refine ji (by omega) ?_)|(simp (config := { maxSteps := 400000 }) only [↓jt,↓reduceIte,zvs,reduceCtorEq,seval,-List.reduceReplicate,tab,h6,Try.results85,jTA])|(simp (disch:=omega) only [ziw]))
      all_goals (try (exfalso; omega))
      rw [e25]
      have hl6 : (L :: Z :: t 5 :: List.replicate 13 Z).length = 16 := rfl
      simp only [zrds]
      (refine rd_own (by (simp only [↓reduceIte,zlk,Nat.reduceEqDiff,reduceCtorEq]); exact rfl) ?_ ?_ ?_) <;> (first | rfl | assumption | (simp only [znl,znTF];(first|done|fail)) | (simp; done) | (simp; omega) | skip)
theorem fmt16s_spec (v : Frames) (hv : v.length = 16) (hs : ∀ s ∈ v, s.length = 128) : ∃ Z : List UInt8, Z.length = 128 ∧ Spec Try.prog 86 [encStrs v] (drV (⟨List.replicate 33 Z ++ v, [], -1⟩, 0)) := by
  have hZ : Spec Try.prog 124 [.int .i64 128] (.str (List.replicate 128 0)) := zeros16_spec 128 (by omega)
  obtain ⟨Z, eZ⟩ : ∃ Z : List UInt8, Z = List.replicate 128 0 := ⟨_, rfl⟩
  have hZl : Z.length = 128 := by rw [eZ, List.length_replicate]
  rw [← eZ] at hZ
  clear eZ
  refine ⟨Z, hZl, ?_⟩
  refine spec_ok Try.func86 rfl rfl (by kernel_rfl) (k := 1) rfl (by decide) ?_
  repeat' (first|(with_reducible first|refine yrl (by constructor) ?_|refine jk (fun M hM=>?_)|(refine hM _ ?_;clear hM M)|refine xb3 (by decide) ?_|refine yqa (by assumption) ?_ ?_|refine yqb (by assumption) ?_ ?_)|((with_reducible refine je ?_)<;>(first|rfl|assumption|(simp only [znl,znTF];(first|done|fail))))|(with_reducible refine jf (by (simp only [↓reduceIte,zlk,Nat.reduceEqDiff,reduceCtorEq]);exact rfl) ?_)|((with_reducible first|refine jg (fun hc=>?_) (fun hc=>?_)|refine jh (fun hc=>?_) (fun hc=>?_))<;>(try simp (disch:=omega) only [zhb] at hc)<;>(try (exfalso;omega))<;>(try subst hc))|(with_reducible refine ji (by omega) ?_)|(simp (config := { maxSteps := 400000 }) only [↓jt,↓reduceIte,zvs,reduceCtorEq,seval,-List.reduceReplicate,tab,Try.results86,jTA])|(simp (disch:=omega) only [ziw]))
  all_goals (try (exfalso; omega))
  refine ok_loop (fun k : Nat => ⟨slots [(0, encStrs v), (2, .ptr 0 []), (3, .int .i64 0), (4, .ptr 1 []), (5, .int .i64 k)], rows [(0, .row (.st [.cell, .cell, .cell]) (.agg [.sl none 0, .sl none 0, .int .i64 0])), (1, .row (.st [.cell, .cell, .cell]) (.agg [.sl (some (2, [], 0)) k, .sl none 0, .int .i64 (-1)])), (2, .row (.arr k .cell) (.agg (List.replicate k (.str Z))))], 3⟩) (fun k => k ≤ 33) (fun k => 33 - k) 0 ?_ (Nat.zero_le _) (fun k hk => ?_)
  · (refine yrn [(0, 0), (1, 1)] false ?_ ?_<;>(repeat' (first|(with_reducible first|exact ya1|exact ya2|exact ya3|refine jx rfl (by first|rfl|assumption|(simp only [znl,znTF];(first|done|fail)))|exact ya5|exact ya7|exact jy|exact jz|refine jA ?_|refine ya9 ?_ ?_ ?_|refine jC rfl (by first|rfl|assumption|(simp only [znl,znTF];(first|done|fail)))|refine MR.agg (MRL.cons ?_ ?_)|refine MR.fn ?_|refine MRL.cons ?_ ?_|exact MRL.nil|refine jE ?_ ?_|exact jF|exact jG|refine yb1 ?_ ?_|refine MB.row ?_|refine jI ?_ ?_|exact ya8|refine jJ rfl (by first|rfl|assumption|(simp only [znl,znTF];(first|done|fail)))|refine yb2 ?_|rfl)|(simp only [znl,znTF];(first|done|fail))|(simp only [↓reduceIte,zlk,Nat.reduceEqDiff,reduceCtorEq])|(with_reducible first|refine jJ ?_ ?_|refine ya5 ?_|refine ju ?_|refine jv ?_|refine jw ?_|refine jx ?_ (by first|rfl|assumption|(simp only [znl,znTF];(first|done|fail)))|refine jC ?_ (by first|rfl|assumption|(simp only [znl,znTF];(first|done|fail)))))))
    all_goals (first | rfl | (simp; done))
  by_cases hlt : k < 33
  · repeat' (first|(with_reducible first|refine yrl (by constructor) ?_|refine jk (fun M hM=>?_)|(refine hM _ ?_;clear hM M)|refine xb3 (by decide) ?_|refine yqa (by assumption) ?_ ?_|refine yqb (by assumption) ?_ ?_)|((with_reducible refine je ?_)<;>(first|rfl|assumption|(simp only [znl,znTF];(first|done|fail))))|(with_reducible refine jf (by (simp only [↓reduceIte,zlk,Nat.reduceEqDiff,reduceCtorEq]);exact rfl) ?_)|((with_reducible first|refine jg (fun hc=>?_) (fun hc=>?_)|refine jh (fun hc=>?_) (fun hc=>?_))<;>(try simp (disch:=omega) only [zhb] at hc)<;>(try (exfalso;omega))<;>(try subst hc))|(with_reducible refine ji (by omega) ?_)|(simp (config := { maxSteps := 400000 }) only [↓jt,↓reduceIte,zvs,reduceCtorEq,seval,-List.reduceReplicate,tab,Try.results86,jTA])|(simp (disch:=omega) only [ziw]))
    refine ok_draw 4 (by kernel_rfl) (by decide +kernel) (by intro m hm; simp only [upd_ap,rows_cons,rows_nil]; (repeat (first | rfl | rw [if_neg (by omega)]))) (fun M hM => ?_); simp only [List.take_succ_cons,List.take_zero,List.drop_succ_cons,List.drop_zero]
    repeat' (first|(with_reducible first|refine yrl (by constructor) ?_|refine jk (fun M hM=>?_)|(refine hM _ ?_;clear hM M)|refine xb3 (by decide) ?_|refine yqa (by assumption) ?_ ?_|refine yqb (by assumption) ?_ ?_)|((with_reducible refine je ?_)<;>(first|rfl|assumption|(simp only [znl,znTF];(first|done|fail))))|(with_reducible refine jf (by (simp only [↓reduceIte,zlk,Nat.reduceEqDiff,reduceCtorEq]);exact rfl) ?_)|((with_reducible first|refine jg (fun hc=>?_) (fun hc=>?_)|refine jh (fun hc=>?_) (fun hc=>?_))<;>(try simp (disch:=omega) only [zhb] at hc)<;>(try (exfalso;omega))<;>(try subst hc))|(with_reducible refine ji (by omega) ?_)|(simp (config := { maxSteps := 400000 }) only [↓jt,↓reduceIte,zvs,reduceCtorEq,seval,-List.reduceReplicate,tab,Try.results86,jTA])|(simp (disch:=omega) only [ziw]))
    refine xl1 (k + 1) ?_ (by show k + 1 ≤ 33; omega) (by show 33 - (k + 1) < 33 - k; omega)
    (refine yrn [(0, 0), (1, 1), (2, 259)] false ?_ ?_<;>(repeat' (first|(with_reducible first|exact ya1|exact ya2|exact ya3|refine jx rfl (by first|rfl|assumption|(simp only [znl,znTF];(first|done|fail)))|exact ya5|exact ya7|exact jy|exact jz|refine jA ?_|refine ya9 ?_ ?_ ?_|refine jC rfl (by first|rfl|assumption|(simp only [znl,znTF];(first|done|fail)))|refine MR.agg (MRL.cons ?_ ?_)|refine MR.fn ?_|refine MRL.cons ?_ ?_|exact MRL.nil|refine jE ?_ ?_|exact jF|exact jG|refine yb1 ?_ ?_|refine MB.row ?_|refine jI ?_ ?_|exact ya8|refine jJ rfl (by first|rfl|assumption|(simp only [znl,znTF];(first|done|fail)))|refine yb2 ?_|rfl)|(simp only [znl,znTF];(first|done|fail))|(simp only [↓reduceIte,zlk,Nat.reduceEqDiff,reduceCtorEq])|(with_reducible first|refine jJ ?_ ?_|refine ya5 ?_|refine ju ?_|refine jv ?_|refine jw ?_|refine jx ?_ (by first|rfl|assumption|(simp only [znl,znTF];(first|done|fail)))|refine jC ?_ (by first|rfl|assumption|(simp only [znl,znTF];(first|done|fail)))))))
    all_goals (first | rfl | (simp [List.replicate_succ']; done))
  · obtain rfl : k = 33 := by omega
    repeat' (first|(with_reducible first|refine yrl (by constructor) ?_|refine jk (fun M hM=>?_)|(refine hM _ ?_;clear hM M)|refine xb3 (by decide) ?_|refine yqa (by assumption) ?_ ?_|refine yqb (by assumption) ?_ ?_)|((with_reducible refine je ?_)<;>(first|rfl|assumption|(simp only [znl,znTF];(first|done|fail))))|(with_reducible refine jf (by (simp only [↓reduceIte,zlk,Nat.reduceEqDiff,reduceCtorEq]);exact rfl) ?_)|((with_reducible first|refine jg (fun hc=>?_) (fun hc=>?_)|refine jh (fun hc=>?_) (fun hc=>?_))<;>(try simp (disch:=omega) only [zhb] at hc)<;>(try (exfalso;omega))<;>(try subst hc))|(with_reducible refine ji (by omega) ?_)|(simp (config := { maxSteps := 400000 }) only [↓jt,↓reduceIte,zvs,reduceCtorEq,seval,-List.reduceReplicate,tab,Try.results86,jTA])|(simp (disch:=omega) only [ziw]))
    obtain ⟨W, hW, hWl⟩ : ∃ W : Frames, W = List.replicate 33 Z ∧ W.length = 33 := ⟨_, rfl, List.length_replicate⟩
    rw [← hW]
    refine ok_loop (fun k : Nat => ⟨slots [(0, encStrs v), (2, .ptr 0 []), (3, .int .i64 0), (4, .ptr 1 []), (28, .int .i64 16), (29, .int .i64 k)], rows [(0, .row (.st [.cell, .cell, .cell]) (.agg [.sl none 0, .sl none 0, .int .i64 0])), (1, .row (.st [.cell, .cell, .cell]) (.agg [.sl (some (2, [], 0)) (33 + k), .sl none 0, .int .i64 (-1)])), (2, .row (.arr (33 + k) .cell) (.agg ((W ++ v.take k).map .str)))], 3⟩) (fun k => k ≤ 16) (fun k => 16 - k) 0 ?_ (Nat.zero_le _) (fun k hk => ?_)
    · (refine yrn [(0, 0), (1, 1), (2, 2)] false ?_ ?_<;>(repeat' (first|(with_reducible first|exact ya1|exact ya2|exact ya3|refine jx rfl (by first|rfl|assumption|(simp only [znl,znTF];(first|done|fail)))|exact ya5|exact ya7|exact jy|exact jz|refine jA ?_|refine ya9 ?_ ?_ ?_|refine jC rfl (by first|rfl|assumption|(simp only [znl,znTF];(first|done|fail)))|refine MR.agg (MRL.cons ?_ ?_)|refine MR.fn ?_|refine MRL.cons ?_ ?_|exact MRL.nil|refine jE ?_ ?_|exact jF|exact jG|refine yb1 ?_ ?_|refine MB.row ?_|refine jI ?_ ?_|exact ya8|refine jJ rfl (by first|rfl|assumption|(simp only [znl,znTF];(first|done|fail)))|refine yb2 ?_|rfl)|(simp only [znl,znTF];(first|done|fail))|(simp only [↓reduceIte,zlk,Nat.reduceEqDiff,reduceCtorEq])|(with_reducible first|refine jJ ?_ ?_|refine ya5 ?_|refine ju ?_|refine jv ?_|refine jw ?_|refine jx ?_ (by first|rfl|assumption|(simp only [znl,znTF];(first|done|fail)))|refine jC ?_ (by first|rfl|assumption|(simp only [znl,znTF];(first|done|fail)))))))
      all_goals (first | rfl | (rw [hW]; simp; done) | (simp; done))
    by_cases hlt : k < 16
    · have e1 := take_snoc v k (by omega)
      have hsk := hs _ (getD_mem' (show k < v.length by omega))
      rw [default_str] at e1 hsk
      repeat' (first|(with_reducible first|refine yrl (by constructor) ?_|refine jk (fun M hM=>?_)|(refine hM _ ?_;clear hM M)|refine xb3 (by decide) ?_|refine yqa (by assumption) ?_ ?_|refine yqb (by assumption) ?_ ?_)|((with_reducible refine je ?_)<;>(first|rfl|assumption|(simp only [znl,znTF];(first|done|fail))))|(with_reducible refine jf (by (simp only [↓reduceIte,zlk,Nat.reduceEqDiff,reduceCtorEq]);exact rfl) ?_)|((with_reducible first|refine jg (fun hc=>?_) (fun hc=>?_)|refine jh (fun hc=>?_) (fun hc=>?_))<;>(try simp (disch:=omega) only [zhb] at hc)<;>(try (exfalso;omega))<;>(try subst hc))|(with_reducible refine ji (by omega) ?_)|(simp (config := { maxSteps := 400000 }) only [↓jt,↓reduceIte,zvs,reduceCtorEq,seval,-List.reduceReplicate,tab,hsk,hWl,Try.results86,jTA])|(simp (disch:=omega) only [ziw]))
      refine ok_draw 7 (by kernel_rfl) (by decide +kernel) (by intro m hm; simp only [upd_ap,rows_cons,rows_nil]; (repeat (first | rfl | rw [if_neg (by omega)]))) (fun M hM => ?_); simp only [List.take_succ_cons,List.take_zero,List.drop_succ_cons,List.drop_zero]
      repeat' (first|(with_reducible first|refine yrl (by constructor) ?_|refine jk (fun M hM=>?_)|(refine hM _ ?_;clear hM M)|refine xb3 (by decide) ?_|refine yqa (by assumption) ?_ ?_|refine yqb (by assumption) ?_ ?_)|((with_reducible refine je ?_)<;>(first|rfl|assumption|(simp only [znl,znTF];(first|done|fail))))|(with_reducible refine jf (by (simp only [↓reduceIte,zlk,Nat.reduceEqDiff,reduceCtorEq]);exact rfl) ?_)|((with_reducible first|refine jg (fun hc=>?_) (fun hc=>?_)|refine jh (fun hc=>?_) (fun hc=>?_))<;>(try simp (disch:=omega) only [zhb] at hc)<;>(try (exfalso;omega))<;>(try subst hc))|(with_reducible refine ji (by omega) ?_)|(simp (config := { maxSteps := 400000 }) only [↓jt,↓reduceIte,zvs,reduceCtorEq,seval,-List.reduceReplicate,tab,hsk,hWl,Try.results86,jTA])|(simp (disch:=omega) only [ziw]))
      refine xl1 (k + 1) ?_ (by show k + 1 ≤ 16; omega) (by show 16 - (k + 1) < 16 - k; omega)
      (refine yrn [(0, 0), (1, 1), (2, 451)] false ?_ ?_<;>(repeat' (first|(with_reducible first|exact ya1|exact ya2|exact ya3|refine jx rfl (by first|rfl|assumption|(simp only [znl,znTF];(first|done|fail)))|exact ya5|exact ya7|exact jy|exact jz|refine jA ?_|refine ya9 ?_ ?_ ?_|refine jC rfl (by first|rfl|assumption|(simp only [znl,znTF];(first|done|fail)))|refine MR.agg (MRL.cons ?_ ?_)|refine MR.fn ?_|refine MRL.cons ?_ ?_|exact MRL.nil|refine jE ?_ ?_|exact jF|exact jG|refine yb1 ?_ ?_|refine MB.row ?_|refine jI ?_ ?_|exact ya8|refine jJ rfl (by first|rfl|assumption|(simp only [znl,znTF];(first|done|fail)))|refine yb2 ?_|rfl)|(simp only [znl,znTF];(first|done|fail))|(simp only [↓reduceIte,zlk,Nat.reduceEqDiff,reduceCtorEq])|(with_reducible first|refine jJ ?_ ?_|refine ya5 ?_|refine ju ?_|refine jv ?_|refine jw ?_|refine jx ?_ (by first|rfl|assumption|(simp only [znl,znTF];(first|done|fail)))|refine jC ?_ (by first|rfl|assumption|(simp only [znl,znTF];(first|done|fail)))))))
      all_goals (first | rfl | omega | (rw [e1]; simp; done))
    · obtain rfl : k = 16 := by omega
      have et : v.take 16 = v := List.take_of_length_le (by omega)
      repeat' (first|(with_reducible first|refine yrl (by constructor) ?_|refine jk (fun M hM=>?_)|(refine hM _ ?_;clear hM M)|refine xb3 (by decide) ?_|refine yqa (by assumption) ?_ ?_|refine yqb (by assumption) ?_ ?_)|((with_reducible refine je ?_)<;>(first|rfl|assumption|(simp only [znl,znTF];(first|done|fail))))|(with_reducible refine jf (by (simp only [↓reduceIte,zlk,Nat.reduceEqDiff,reduceCtorEq]);exact rfl) ?_)|((with_reducible first|refine jg (fun hc=>?_) (fun hc=>?_)|refine jh (fun hc=>?_) (fun hc=>?_))<;>(try simp (disch:=omega) only [zhb] at hc)<;>(try (exfalso;omega))<;>(try subst hc))|(with_reducible refine ji (by omega) ?_)|(simp (config := { maxSteps := 400000 }) only [↓jt,↓reduceIte,zvs,reduceCtorEq,seval,-List.reduceReplicate,tab,et,hWl,Try.results86,jTA])|(simp (disch:=omega) only [ziw]))
      all_goals (try (exfalso; omega))
      simp only [drV,encDr,List.map_nil]
      simp only [zrds]
      refine ⟨?_, rd_nil⟩
      (refine rd_own (by (simp only [↓reduceIte,zlk,Nat.reduceEqDiff,reduceCtorEq]); exact rfl) ?_ ?_ ?_) <;> (first | rfl | assumption | (simp only [znl,znTF];(first|done|fail)) | (simp; done) | (simp; omega) | skip)
def littleM (Z : List UInt8) (n : Nat) (d : Dr) : Mach := ⟨0, 1, 0, 0, List.replicate n Z, [], 1, [], [], 1, [], false, 0, d, []⟩
theorem little_spec : ∃ (Z : List UInt8) (d : Dr), Z.length = 128 ∧ d.bl.length = 49 ∧ (∀ s ∈ d.bl, s.length = 128) ∧ d.pe = [] ∧ d.left = -1 ∧ Spec Try.prog 39 [.int .i64 2] (encM (littleM Z 2 d)) := by
  have hF := fmt17s_spec
  have hv := vol16_len
  have hs := vol16_all
  generalize vol16 = v at hF hv hs
  obtain ⟨Z, hZl, hG⟩ := fmt16s_spec v hv hs
  have h1 : (List.replicate 33 Z ++ v).length = 49 := by rw [List.length_append, List.length_replicate, hv]
  have h2 : ∀ s ∈ List.replicate 33 Z ++ v, s.length = 128 := by
    intro s h
    rcases List.mem_append.1 h with h | h
    · rw [(List.mem_replicate.1 h).2]; exact hZl
    · exact hs s h
  refine ⟨List.replicate 128 0, ⟨List.replicate 33 Z ++ v, [], -1⟩, List.length_replicate, h1, h2, rfl, rfl, ?_⟩
  simp only [drV] at hG
  generalize List.replicate 33 Z ++ v = bl at hG h1 h2
  refine spec_ok Try.func39 rfl rfl (by kernel_rfl) (k := 1) rfl (by decide) ?_
  repeat' (first|(with_reducible first|refine yrl (by constructor) ?_|refine jk (fun M hM=>?_)|(refine hM _ ?_;clear hM M)|refine xb3 (by decide) ?_|refine yqa (by assumption) ?_ ?_|refine yqb (by assumption) ?_ ?_)|((with_reducible refine je ?_)<;>(first|rfl|assumption|(simp only [znl,znTF];(first|done|fail))))|(with_reducible refine jf (by (simp only [↓reduceIte,zlk,Nat.reduceEqDiff,reduceCtorEq]);exact rfl) ?_)|((with_reducible first|refine jg (fun hc=>?_) (fun hc=>?_)|refine jh (fun hc=>?_) (fun hc=>?_))<;>(try simp (disch:=omega) only [zhb] at hc)<;>(try (exfalso;omega))<;>(try subst hc))|(with_reducible refine ji (by omega) ?_)|(simp (config := { maxSteps := 400000 }) only [↓jt,↓reduceIte,zvs,reduceCtorEq,seval,-List.reduceReplicate,tab,Try.results39,jTA])|(simp (disch:=omega) only [ziw]))
  all_goals (try (exfalso; omega))
  obtain ⟨z, hz⟩ : ∃ z : List UInt8, z = List.replicate 128 0 := ⟨_, rfl⟩
  have hzb : bytesOf (List.replicate 128 (VV.int .u8 0)) = some z := by rw [hz]; exact bytesOf_enc (List.replicate 128 0)
  have hzc : bytesOf (List.take 128 (List.replicate 128 (VV.int .u8 0))) = some z := by rw [List.take_of_length_le (by simp)]; exact hzb
  have hzl : z.length = 128 := by rw [hz]; exact List.length_replicate
  rw [← hz]
  refine ok_loop (fun k : Nat => ⟨slots [(0, .int .i64 2), (2, .ptr 0 []), (7, .ptr 2 []), (8, .int .i64 k)], rows [(0, .row machSh nilMD), (2, .row machSh (.agg [.int .u64 0, .int .i64 1, .int .i64 0, .int .i64 0, .sl (some (3, [], 0)) k, .sl none 0, .int .i64 1, .str [], .sl none 0, .int .i64 1, .str [], .bool false, .int .u64 0, encDr ⟨bl, [], -1⟩, .sl none 0])), (3, .row (.arr k .cell) (.agg (List.replicate k (.str z))))], 4⟩) (fun k => k ≤ 2) (fun k => 2 - k) 0 ?_ (Nat.zero_le _) (fun k hk => ?_)
  · (refine yrn [(0, 0), (2, 2)] false ?_ ?_<;>(repeat' (first|(with_reducible first|exact ya1|exact ya2|exact ya3|refine jx rfl (by first|rfl|assumption|(simp only [znl,znTF];(first|done|fail)))|exact ya5|exact ya7|exact jy|exact jz|refine jA ?_|refine ya9 ?_ ?_ ?_|refine jC rfl (by first|rfl|assumption|(simp only [znl,znTF];(first|done|fail)))|refine MR.agg (MRL.cons ?_ ?_)|refine MR.fn ?_|refine MRL.cons ?_ ?_|exact MRL.nil|refine jE ?_ ?_|exact jF|exact jG|refine yb1 ?_ ?_|refine MB.row ?_|refine jI ?_ ?_|exact ya8|refine jJ rfl (by first|rfl|assumption|(simp only [znl,znTF];(first|done|fail)))|refine yb2 ?_|rfl)|(simp only [znl,znTF];(first|done|fail))|(simp only [↓reduceIte,zlk,Nat.reduceEqDiff,reduceCtorEq])|(with_reducible first|refine jJ ?_ ?_|refine ya5 ?_|refine ju ?_|refine jv ?_|refine jw ?_|refine jx ?_ (by first|rfl|assumption|(simp only [znl,znTF];(first|done|fail)))|refine jC ?_ (by first|rfl|assumption|(simp only [znl,znTF];(first|done|fail)))))))
    all_goals (first | rfl)
  by_cases hlt : k < 2
  · have hs : List.replicate k (VV.str z) ++ [.str z] = List.replicate (k + 1) (.str z) := List.replicate_succ'.symm
    repeat' (first|(with_reducible first|refine yrl (by constructor) ?_|refine jk (fun M hM=>?_)|(refine hM _ ?_;clear hM M)|refine xb3 (by decide) ?_|refine yqa (by assumption) ?_ ?_|refine yqb (by assumption) ?_ ?_)|((with_reducible refine je ?_)<;>(first|rfl|assumption|(simp only [znl,znTF];(first|done|fail))))|(with_reducible refine jf (by (simp only [↓reduceIte,zlk,Nat.reduceEqDiff,reduceCtorEq]);exact rfl) ?_)|((with_reducible first|refine jg (fun hc=>?_) (fun hc=>?_)|refine jh (fun hc=>?_) (fun hc=>?_))<;>(try simp (disch:=omega) only [zhb] at hc)<;>(try (exfalso;omega))<;>(try subst hc))|(with_reducible refine ji (by omega) ?_)|(simp (config := { maxSteps := 400000 }) only [↓jt,↓reduceIte,zvs,reduceCtorEq,seval,-List.reduceReplicate,tab,hzb,Try.results39,jTA])|(simp (disch:=omega) only [ziw]))
    all_goals (try (exfalso; omega))
    refine ok_drawC 5 (by kernel_rfl) (by decide +kernel) (by intro m hm; simp only [upd_ap,rows_cons,rows_nil]; (repeat (first | rfl | rw [if_neg (by omega)]))) (fun M hM => ?_); simp only [List.take_succ_cons,List.take_zero,List.drop_succ_cons,List.drop_zero]
    repeat' (first|(with_reducible first|refine yrl (by constructor) ?_|refine jk (fun M hM=>?_)|(refine hM _ ?_;clear hM M)|refine xb3 (by decide) ?_|refine yqa (by assumption) ?_ ?_|refine yqb (by assumption) ?_ ?_)|((with_reducible refine je ?_)<;>(first|rfl|assumption|(simp only [znl,znTF];(first|done|fail))))|(with_reducible refine jf (by (simp only [↓reduceIte,zlk,Nat.reduceEqDiff,reduceCtorEq]);exact rfl) ?_)|((with_reducible first|refine jg (fun hc=>?_) (fun hc=>?_)|refine jh (fun hc=>?_) (fun hc=>?_))<;>(try simp (disch:=omega) only [zhb] at hc)<;>(try (exfalso;omega))<;>(try subst hc))|(with_reducible refine ji (by omega) ?_)|(simp (config := { maxSteps := 400000 }) only [↓jt,↓reduceIte,zvs,reduceCtorEq,seval,-List.reduceReplicate,tab,hzb,hzc,hs,Try.results39,jTA])|(simp (disch:=omega) only [ziw]))
    all_goals (try (exfalso; omega))
    all_goals (refine xl1 (k + 1) ?_ (by show k + 1 ≤ 2; omega) (by show 2 - (k + 1) < 2 - k; omega); (refine yrn [(0, 0), (2, 2), (3, 324)] false ?_ ?_<;>(repeat' (first|(with_reducible first|exact ya1|exact ya2|exact ya3|refine jx rfl (by first|rfl|assumption|(simp only [znl,znTF];(first|done|fail)))|exact ya5|exact ya7|exact jy|exact jz|refine jA ?_|refine ya9 ?_ ?_ ?_|refine jC rfl (by first|rfl|assumption|(simp only [znl,znTF];(first|done|fail)))|refine MR.agg (MRL.cons ?_ ?_)|refine MR.fn ?_|refine MRL.cons ?_ ?_|exact MRL.nil|refine jE ?_ ?_|exact jF|exact jG|refine yb1 ?_ ?_|refine MB.row ?_|refine jI ?_ ?_|exact ya8|refine jJ rfl (by first|rfl|assumption|(simp only [znl,znTF];(first|done|fail)))|refine yb2 ?_|rfl)|(simp only [znl,znTF];(first|done|fail))|(simp only [↓reduceIte,zlk,Nat.reduceEqDiff,reduceCtorEq])|(with_reducible first|refine jJ ?_ ?_|refine ya5 ?_|refine ju ?_|refine jv ?_|refine jw ?_|refine jx ?_ (by first|rfl|assumption|(simp only [znl,znTF];(first|done|fail)))|refine jC ?_ (by first|rfl|assumption|(simp only [znl,znTF];(first|done|fail))))))); all_goals (first | rfl | exact hs))
  · obtain rfl : k = 2 := by omega
    repeat' (first|(with_reducible first|refine yrl (by constructor) ?_|refine jk (fun M hM=>?_)|(refine hM _ ?_;clear hM M)|refine xb3 (by decide) ?_|refine yqa (by assumption) ?_ ?_|refine yqb (by assumption) ?_ ?_)|((with_reducible refine je ?_)<;>(first|rfl|assumption|(simp only [znl,znTF];(first|done|fail))))|(with_reducible refine jf (by (simp only [↓reduceIte,zlk,Nat.reduceEqDiff,reduceCtorEq]);exact rfl) ?_)|((with_reducible first|refine jg (fun hc=>?_) (fun hc=>?_)|refine jh (fun hc=>?_) (fun hc=>?_))<;>(try simp (disch:=omega) only [zhb] at hc)<;>(try (exfalso;omega))<;>(try subst hc))|(with_reducible refine ji (by omega) ?_)|(simp (config := { maxSteps := 400000 }) only [↓jt,↓reduceIte,zvs,reduceCtorEq,seval,-List.reduceReplicate,tab,Try.results39,jTA])|(simp (disch:=omega) only [ziw]))
    all_goals (try (exfalso; omega))
    simp only [littleM]
    all_goals first
      | (((try simp only [List.map_nil]); simp only [zrds]; (repeat' (first | exact rd_nil | exact Rd.refl _ _ (by first|rfl|assumption|(simp only [znl,znTF];(first|done|fail))) | (refine And.intro ?_ ?_) | (refine rd_own (by (simp only [↓reduceIte,zlk,Nat.reduceEqDiff,reduceCtorEq]); exact rfl) ?_ ?_ ?_) | rfl | assumption | (simp only [znl,znTF];(first|done|fail)) | (simp; done) | (simp; omega)))); done)
end Go.Proofs.Ytpdhdkpebbfnnaa.V
end
section
namespace Go.Proofs.Ytpdhdkpebbfnnaa.V
open Go Go.RowKit

section
variable {P : Program} {N : NN} {B : Nat} {ρ0 ρ : Names} {w0 w : World} {a : Act} {S : VS}
theorem vlist_soundR {ops : Array Oper} {Q : Exit → Act → World → Prop} {K : VS → Prop} (rest : List Oper) : ∀ (l : List Oper) (S : VS) (a : Act) (w : World) (ρ : Names), (∀ o ∈ l, ∀ t, o.dst = some t → t < N) → vlist P ops.toList l S K → SR N B ρ0 w0 S a w ρ →
    (∀ S' a' w' ρ', K S' → SR N B ρ0 w0 S' a' w' ρ' → wpList P ops Q rest a' w') → wpList P ops Q (l ++ rest) a w
  | [], S, a, w, ρ, _, h, hS, next => next S a w ρ h hS
  | o :: l, S, a, w, ρ, hd, h, hS, next => by
    show wpList P ops Q (o :: (l ++ rest)) a w
    refine wpList_step fun Kx hKx => ?_
    exact vstep_sound (hd o (by simp)) h hS fun S' a' w' ρ' hk hS' => hKx _ _ (vlist_soundR rest l S' a' w' ρ' (fun o ho => hd o (by simp [ho])) hk hS' next)
end
section
variable {P : Program} {n0 : Nat} {S : VS} {K : VX → VS → Prop}
end
end Go.Proofs.Ytpdhdkpebbfnnaa.V
end
section
namespace Go.Proofs.Ytpdhdkpebbfnnaa.V
open Go Go.RowKit
section
variable {P : Program} {n0 : Nat} {S : VS} {K : VX → VS → Prop}
def Mid (P : Program) (n0 : Nat) (l r : List Oper) (M : VS → Prop) (S : VS) : Prop := ∃ T, Ren n0 S T ∧ vl P l r T M
theorem mid_in {l r : List Oper} {M : VS → Prop} {S : VS} (T : VS) (h : Ren n0 S T) (h' : vl P l r T M) : Mid P n0 l r M S := ⟨T, h, h'⟩
theorem ok_mid {id : Nat} {l : List Oper} (i : Nat)
    (h : ∀ M : VS → Prop, (∀ S, K .normal S → M S) → vl P l (l.take i) S (Mid P n0 l (l.drop i) M)) : Ok P n0 (.region id l.toArray false) S K := fun N B ρ0 w0 Q a w ρ h0 hok hS next => by
  simp only [codeOk,List.all_eq_true] at hok
  have hok' : ∀ o ∈ l, ∀ t, o.dst = some t → t < N := fun o ho t ht => by have := hok o ho; rw [ht] at this; simpa using this
  have hmem : ∀ o, o ∈ l.take i → o ∈ l := fun o h => List.mem_of_mem_take h
  have hmem2 : ∀ o, o ∈ l.drop i → o ∈ l := fun o h => List.mem_of_mem_drop h
  have h := h _ fun _ h => h
  rw [vl_def] at h
  refine wp_region_list ?_
  show wpList P l.toArray Q l a w
  conv => arg 4; rw [← List.take_append_drop i l]
  refine vlist_soundR (K := Mid P n0 l (l.drop i) (K .normal)) _ _ S a w ρ (fun o ho t ht => hok' o (hmem o ho) t ht) h hS fun S1 a1 w1 ρ1 hk hs1 => ?_
  obtain ⟨T, hT, hk2⟩ := hk
  obtain ⟨ρ2, hs2⟩ := hT N B ρ0 w0 a1 w1 ρ1 h0 hs1
  rw [vl_def] at hk2
  exact vlist_sound (K := K .normal) _ T a1 w1 ρ2 (fun o ho t ht => hok' o (hmem2 o ho) t ht) hk2 hs2 fun S' a' w' ρ' hk hS' => next .normal S' a' w' ρ' hk hS'
end
end Go.Proofs.Ytpdhdkpebbfnnaa.V
end
section
namespace Go.Proofs.Ytpdhdkpebbfnnaa.V
open Go
set_option maxRecDepth 100000
def znTG := And.intro @jO <| And.intro @jP <| And.intro @jQ <| And.intro @jR <| And.intro @jS <| And.intro @jT <| And.intro @jU <| True.intro
set_option maxHeartbeats 8000000
def e0 : Exe := ⟨[0], [], 0, 0⟩
def fd0 : Fdd := ⟨0, 0, 0⟩
theorem e0_R : ExeR e0 := ⟨by decide, fun x hx => by simp [e0] at hx; subst hx; unfold u32R; omega, by decide, by unfold i64R; decide, by unfold u32R; decide⟩
theorem e0_ok : okE e0 := by unfold okE; decide
theorem fd0_R : fdR fd0 := by unfold fdR fd0 i64R; decide
def sp0 : List Pte := spK zSpace [0, 1] (layE e0) 2
def q0 : Pr := ⟨1, 0, 1, (List.replicate 16 0).set 15 2048, 0, sp0, fd0 :: fd0 :: List.replicate 6 ⟨0, 0, 0⟩, false, 0, 0, 0⟩
theorem lay0_len : (layE e0).length = 2 := by kernel_rfl
theorem little_free (Z : List UInt8) (d : Dr) : freeK (littleM Z 2 d).pr (littleM Z 2 d).fr.length = [0, 1] := by kernel_rfl
theorem q0_free : freeK [q0] 2 = [] := by kernel_rfl
theorem little_E (Z : List UInt8) (d : Dr) : spawnE (littleM Z 2 d) e0 = 0 := by
  unfold spawnE
  rw [if_pos e0_ok, little_free, lay0_len, if_neg (show ¬8 ≤ (littleM Z 2 d).pr.length from (by decide : ¬8 ≤ 0)), if_neg (by decide)]
theorem little_pr (Z : List UInt8) (d : Dr) : (spawnM (littleM Z 2 d) e0 0 fd0 fd0).pr = [q0] := by
  have h := little_free Z d
  show (littleM Z 2 d).pr ++ [tookP (littleM Z 2 d) (newPr (littleM Z 2 d) e0 0 fd0 fd0) (layE e0)] = [q0]
  unfold tookP
  rw [h, lay0_len]
  rfl
theorem little_fr (Z : List UInt8) (d : Dr) : (spawnM (littleM Z 2 d) e0 0 fd0 fd0).fr.length = 2 := by
  show (frK (littleM Z 2 d).fr _ _ _).length = 2
  rw [frK_len]; rfl
theorem frK_all {fr : Frames} {F : List Nat} {l : List Lay} {P : List UInt8 → Prop} (h : ∀ s ∈ fr, P s) (hl : ∀ x ∈ l, P x.d) (hd : P []) : ∀ k, ∀ s ∈ frK fr F l k, P s
  | 0 => h
  | k + 1 => fun s hs => by
    rw [frK] at hs
    rcases List.mem_or_eq_of_mem_set hs with hs | rfl
    · exact frK_all h hl hd k s hs
    · by_cases hk : k < l.length
      · exact hl _ (getD_mem' hk)
      · rw [List.getD_eq_getElem?_getD, List.getElem?_eq_none (by omega)]; exact hd
theorem layE_d (e : Exe) : ∀ x ∈ layE e, x.d.length = 128 := by
  intro x hx
  simp only [layE,layTo,layN,List.mem_append,List.mem_map,List.mem_singleton] at hx
  rcases hx with (⟨i, _, rfl⟩ | ⟨i, _, rfl⟩) | rfl
  · exact pgB_len _ _
  · exact pgB_len _ _
  · exact List.length_replicate
theorem spawnM_fit {m : Mach} (hm : MFit 20000 m) (hp1 : m.pr.length < 20000) (hn : m.next < 4611686018427387904) {e : Exe} (he : ExeR e) (hok : okE e) {par : Int} (hp : i64R par) {i o : Fdd} (hi : fdR i) (ho : fdR o) : MFit 20000 (spawnM m e par i o) := by
  have hR := tookP_R m hm (newPr_R m hm e he par hp i o hi ho) (layR_E e hok)
  obtain ⟨n1, _⟩ := hm.next
  refine ⟨hm.clock, hm.quantum, hm.cur, hm.left, ?_, ?_, ?_, ?_, ?_, hm.init, hm.pipes, hm.pipesR, hm.newp, hm.inp, hm.told, hm.bl, hm.blS, hm.pe, hm.peS, hm.dleft, hm.dirty, hm.dirtyS⟩
  · show (frK m.fr _ _ _).length ≤ 20000
    rw [frK_len]; exact hm.fr
  · exact frK_all hm.frS (fun x hx => by rw [layE_d e x hx]; decide) (Nat.zero_le _) _
  · show (m.pr ++ [_]).length ≤ 20000
    rw [List.length_append, List.length_singleton]; omega
  · intro p hp
    rcases List.mem_append.1 hp with hp | hp
    · exact hm.prR p hp
    · rw [List.mem_singleton.1 hp]; exact hR
  · show i64R (m.next + 1)
    unfold i64R; omega
theorem little_fit (Z : List UInt8) (d : Dr) (hZ : Z.length = 128) (h1 : d.bl.length = 49) (h2 : ∀ s ∈ d.bl, s.length = 128) (h3 : d.pe = []) (h4 : d.left = -1) : MFit 20000 (littleM Z 2 d) := by
  have z : i64R 0 := by unfold i64R; omega
  have o : i64R 1 := by unfold i64R; omega
  have zu : u64R 0 := by unfold u64R; omega
  refine ⟨zu, o, z, z, (by decide : (2 : Nat) ≤ 20000), fun s hs => ?_, Nat.zero_le _, (fun p hp => by cases hp), o, Nat.zero_le _, Nat.zero_le _, (fun p hp => by cases hp), o, Nat.zero_le _, zu, ?_, fun s hs => ?_, ?_, fun w hw => ?_, ?_, Nat.zero_le _, fun w hw => by cases hw⟩
  · rw [List.eq_of_mem_replicate hs, hZ]; decide
  · show d.bl.length ≤ 20000; omega
  · rw [h2 s hs]; decide
  · show d.pe.length ≤ 20000; rw [h3]; decide
  · have hw : w ∈ d.pe := hw
    rw [h3] at hw; cases hw
  · show i64R d.left; rw [h4]; unfold i64R; omega
theorem q0_die {m : Mach} (h : m.pr = [q0]) : (dieM m 1 5).pr = [] := by
  have h1 : findI m.pr 1 = some 0 := by rw [h]; kernel_rfl
  unfold dieM
  rw [h1]
  dsimp only
  rw [h, if_neg (by show ¬(q0.st = 3); decide)]
  show (sweepM (prM m ((dieL m 0 1 5).filter (stayB (dieL m 0 1 5))))).pr = []
  show (dieL m 0 1 5).filter (stayB (dieL m 0 1 5)) = []
  unfold dieL
  rw [h]
  kernel_rfl
theorem palive_spec : Spec Try.prog 13 [] (.bool true) := by
  obtain ⟨Z, d, hZ, h1, h2, h3, h4, hL⟩ := little_spec
  have hf := little_fit Z d hZ h1 h2 h3 h4
  have hE := little_E Z d
  have hpr := little_pr Z d
  have hfr := little_fr Z d
  have z : i64R 0 := by unfold i64R; omega
  have hf1 := spawnM_fit hf (by show 0 < 20000; decide) (by show (1 : Int) < _; decide) e0_R e0_ok z fd0_R fd0_R
  have hS1 := sspawn_spec _ hf (by show (1 : Int) < _; decide) e0 e0_R 0 z fd0 fd0 fd0_R fd0_R
  unfold spawnVV at hS1
  rw [if_pos hE] at hS1
  have hnx : (spawnM (littleM Z 2 d) e0 0 fd0 fd0).next = 2 := rfl
  have hn1 : (littleM Z 2 d).next = 1 := rfl
  rw [hn1] at hS1
  generalize spawnM (littleM Z 2 d) e0 0 fd0 fd0 = m1 at hpr hfr hf1 hS1 hnx
  generalize littleM Z 2 d = m0 at hL hS1
  have hS2 := sspawn_spec m1 hf1 (by rw [hnx]; decide) e0 e0_R 0 z fd0 fd0 fd0_R fd0_R
  have hE2 : spawnE m1 e0 = 10 := by
    unfold spawnE
    rw [if_pos e0_ok, hpr, hfr, q0_free, lay0_len, if_neg (by decide), if_pos (by decide)]
  unfold spawnVV at hS2
  rw [hE2, if_neg (by decide)] at hS2
  have hD := sdie_spec m1 hf1 1 (by unfold i64R; omega) 5 (by unfold u32R; omega)
  have hpd := q0_die hpr
  generalize dieM m1 1 5 = m2 at hD hpd
  have e1 : encM m1 = encMD m1 (.dat prSh [encPr q0]) := by
    show encMD m1 (encPrs m1.pr) = _
    rw [hpr]; rfl
  have e2 : encM m2 = encMD m2 (.dat prSh []) := by
    show encMD m2 (encPrs m2.pr) = _
    rw [hpd]; rfl
  rw [e1] at hS1 hS2 hD
  rw [e2] at hD
  have hq : encPr q0 = .agg [.int .i64 1, .int .i64 0, .int .i64 1, .agg [.agg (((List.replicate 16 0).set 15 2048).map (.int .u32)), .int .u32 0], .agg (sp0.map encPte), .agg ((fd0 :: fd0 :: List.replicate 6 ⟨0, 0, 0⟩ : List Fdd).map encFd), .bool false, .int .u32 0, .int .i64 0, .int .u64 0] := rfl
  have hq15 : (sp0.map encPte)[15]? = some (.agg [.bool true, .bool true, .int .i64 1]) := by kernel_rfl
  have hHq : Has prSh (encPr q0) := hasPr q0 (hf1.prR q0 (by rw [hpr]; exact List.mem_singleton.2 rfl))
  have hnq : nl (encPr q0) = true := jU q0
  simp only [e0,fd0,encExe,encWords,List.map_cons,List.map_nil,encFd] at hS1 hS2
  refine spec_ok Try.func13 rfl rfl (by kernel_rfl) (k := 0) rfl (by decide) ?_
  repeat' ((fail_if_success (with_reducible refine ok_stop 1 ?_));first|(with_reducible first|refine yrl (by constructor) ?_|refine jk (fun M hM=>?_)|(refine hM _ ?_;clear hM M)|refine xb3 (by decide) ?_|refine yqa (by assumption) ?_ ?_|refine yqb (by assumption) ?_ ?_)|((with_reducible refine je ?_)<;>(first|rfl|assumption|(simp only [znl,znTG];(first|done|fail))))|(with_reducible refine jf (by (simp only [↓reduceIte,zlk,Nat.reduceEqDiff,reduceCtorEq]);exact rfl) ?_)|((with_reducible first|refine jg (fun hc=>?_) (fun hc=>?_)|refine jh (fun hc=>?_) (fun hc=>?_))<;>(try simp (disch:=omega) only [zhb] at hc)<;>(try (exfalso;omega))<;>(try subst hc))|(with_reducible refine ji (by omega) ?_)|(simp (config := { maxSteps := 400000 }) only [↓jt,↓reduceIte,zvs,reduceCtorEq,seval,-List.reduceReplicate,tab,Try.results13,jTA])|(simp (disch:=omega) only [ziw]))
  refine ok_mid 2 (fun M hM => ?_)
  repeat' (first|(with_reducible first|refine yrl (by constructor) ?_|refine jk (fun M hM=>?_)|(refine hM _ ?_;clear hM M)|refine xb3 (by decide) ?_|refine yqa (by assumption) ?_ ?_|refine yqb (by assumption) ?_ ?_)|((with_reducible refine je ?_)<;>(first|rfl|assumption|(simp only [znl,znTG];(first|done|fail))))|(with_reducible refine jf (by (simp only [↓reduceIte,zlk,Nat.reduceEqDiff,reduceCtorEq]);exact rfl) ?_)|((with_reducible first|refine jg (fun hc=>?_) (fun hc=>?_)|refine jh (fun hc=>?_) (fun hc=>?_))<;>(try simp (disch:=omega) only [zhb] at hc)<;>(try (exfalso;omega))<;>(try subst hc))|(with_reducible refine ji (by omega) ?_)|(simp (config := { maxSteps := 400000 }) only [↓jt,↓reduceIte,zvs,reduceCtorEq,seval,-List.reduceReplicate,tab,Try.results13,jTA])|(simp (disch:=omega) only [ziw]))
  refine mid_in ⟨slots [(0, .bool false), (9, encM m0), (10, .dat .cell [.int .u32 0])], rows [], 1⟩ ?_ ?_
  · (refine yrn [] true ?_ ?_<;>(repeat' (first|(with_reducible first|exact ya1|exact ya2|exact ya3|refine jx rfl (by first|rfl|assumption|(simp only [znl,znTG];(first|done|fail)))|exact ya5|exact ya7|exact jy|exact jz|refine jA ?_|refine ya9 ?_ ?_ ?_|refine jC rfl (by first|rfl|assumption|(simp only [znl,znTG];(first|done|fail)))|refine MR.agg (MRL.cons ?_ ?_)|refine MR.fn ?_|refine MRL.cons ?_ ?_|exact MRL.nil|refine jE ?_ ?_|exact jF|exact jG|refine yb1 ?_ ?_|refine MB.row ?_|refine jI ?_ ?_|exact ya8|refine jJ rfl (by first|rfl|assumption|(simp only [znl,znTG];(first|done|fail)))|refine yb2 ?_|rfl)|(simp only [znl,znTG];(first|done|fail))|(simp only [↓reduceIte,zlk,Nat.reduceEqDiff,reduceCtorEq])|(with_reducible first|refine jJ ?_ ?_|refine ya5 ?_|refine ju ?_|refine jv ?_|refine jw ?_|refine jx ?_ (by first|rfl|assumption|(simp only [znl,znTG];(first|done|fail)))|refine jC ?_ (by first|rfl|assumption|(simp only [znl,znTG];(first|done|fail)))))))
    all_goals (first | rfl)
  repeat' ((fail_if_success (with_reducible refine ok_stop 4 ?_));first|(with_reducible first|refine yrl (by constructor) ?_|refine jk (fun M hM=>?_)|(refine hM _ ?_;clear hM M)|refine xb3 (by decide) ?_|refine yqa (by assumption) ?_ ?_|refine yqb (by assumption) ?_ ?_)|((with_reducible refine je ?_)<;>(first|rfl|assumption|(simp only [znl,znTG];(first|done|fail))))|(with_reducible refine jf (by (simp only [↓reduceIte,zlk,Nat.reduceEqDiff,reduceCtorEq]);exact rfl) ?_)|((with_reducible first|refine jg (fun hc=>?_) (fun hc=>?_)|refine jh (fun hc=>?_) (fun hc=>?_))<;>(try simp (disch:=omega) only [zhb] at hc)<;>(try (exfalso;omega))<;>(try subst hc))|(with_reducible refine ji (by omega) ?_)|(simp (config := { maxSteps := 400000 }) only [↓jt,↓reduceIte,zvs,reduceCtorEq,seval,-List.reduceReplicate,tab,hHq,hq15,hq,Try.results13,jTA])|(simp (disch:=omega) only [ziw]))
  all_goals (try (exfalso; omega))
  refine ok_mid 2 (fun M hM => ?_)
  repeat' (first|(with_reducible first|refine yrl (by constructor) ?_|refine jk (fun M hM=>?_)|(refine hM _ ?_;clear hM M)|refine xb3 (by decide) ?_|refine yqa (by assumption) ?_ ?_|refine yqb (by assumption) ?_ ?_)|((with_reducible refine je ?_)<;>(first|rfl|assumption|(simp only [znl,znTG];(first|done|fail))))|(with_reducible refine jf (by (simp only [↓reduceIte,zlk,Nat.reduceEqDiff,reduceCtorEq]);exact rfl) ?_)|((with_reducible first|refine jg (fun hc=>?_) (fun hc=>?_)|refine jh (fun hc=>?_) (fun hc=>?_))<;>(try simp (disch:=omega) only [zhb] at hc)<;>(try (exfalso;omega))<;>(try subst hc))|(with_reducible refine ji (by omega) ?_)|(simp (config := { maxSteps := 400000 }) only [↓jt,↓reduceIte,zvs,reduceCtorEq,seval,-List.reduceReplicate,tab,Try.results13,jTA])|(simp (disch:=omega) only [ziw]))
  refine mid_in ⟨slots [(0, .bool false), (1, .ptr 1 []), (51, encMD m1 (.dat prSh [encPr q0])), (52, .dat .cell [.int .u32 0])], rows [(1, .row machSh (encMD m1 (.dat prSh [encPr q0])))], 3⟩ ?_ ?_
  · (refine yrn [(1, 1)] true ?_ ?_<;>(repeat' (first|(with_reducible first|exact ya1|exact ya2|exact ya3|refine jx rfl (by first|rfl|assumption|(simp only [znl,znTG];(first|done|fail)))|exact ya5|exact ya7|exact jy|exact jz|refine jA ?_|refine ya9 ?_ ?_ ?_|refine jC rfl (by first|rfl|assumption|(simp only [znl,znTG];(first|done|fail)))|refine MR.agg (MRL.cons ?_ ?_)|refine MR.fn ?_|refine MRL.cons ?_ ?_|exact MRL.nil|refine jE ?_ ?_|exact jF|exact jG|refine yb1 ?_ ?_|refine MB.row ?_|refine jI ?_ ?_|exact ya8|refine jJ rfl (by first|rfl|assumption|(simp only [znl,znTG];(first|done|fail)))|refine yb2 ?_|rfl)|(simp only [znl,znTG];(first|done|fail))|(simp only [↓reduceIte,zlk,Nat.reduceEqDiff,reduceCtorEq])|(with_reducible first|refine jJ ?_ ?_|refine ya5 ?_|refine ju ?_|refine jv ?_|refine jw ?_|refine jx ?_ (by first|rfl|assumption|(simp only [znl,znTG];(first|done|fail)))|refine jC ?_ (by first|rfl|assumption|(simp only [znl,znTG];(first|done|fail)))))))
    all_goals (first | rfl)
  repeat' (first|(with_reducible first|refine yrl (by constructor) ?_|refine jk (fun M hM=>?_)|(refine hM _ ?_;clear hM M)|refine xb3 (by decide) ?_|refine yqa (by assumption) ?_ ?_|refine yqb (by assumption) ?_ ?_)|((with_reducible refine je ?_)<;>(first|rfl|assumption|(simp only [znl,znTG];(first|done|fail))))|(with_reducible refine jf (by (simp only [↓reduceIte,zlk,Nat.reduceEqDiff,reduceCtorEq]);exact rfl) ?_)|((with_reducible first|refine jg (fun hc=>?_) (fun hc=>?_)|refine jh (fun hc=>?_) (fun hc=>?_))<;>(try simp (disch:=omega) only [zhb] at hc)<;>(try (exfalso;omega))<;>(try subst hc))|(with_reducible refine ji (by omega) ?_)|(simp (config := { maxSteps := 400000 }) only [↓jt,↓reduceIte,zvs,reduceCtorEq,seval,-List.reduceReplicate,tab,Try.results13,jTA])|(simp (disch:=omega) only [ziw]))
  all_goals (try (exfalso; omega))
  all_goals first
    | (simp only [zrds]; done)
    | (simp only [show (((0 : Nat) : Int) == 0) = true from rfl]; simp only [zrds]; done)
end Go.Proofs.Ytpdhdkpebbfnnaa.V
end
section
namespace Go.Proofs.Ytpdhdkpebbfnnaa.V
open Go
set_option maxRecDepth 100000
def znTH := And.intro @jO <| And.intro @jP <| And.intro @jQ <| And.intro @jR <| And.intro @jS <| And.intro @jT <| And.intro @jU <| True.intro
set_option maxHeartbeats 8000000
def nearM (m : Mach) : Prop := m.fr.length ≤ 20 ∧ m.pr.length ≤ 8 ∧ m.pipes.length ≤ 20 ∧ m.dr.bl.length ≤ 120 ∧ m.dr.pe.length ≤ 80 ∧ m.dirty.length ≤ 20 ∧ m.inp.length ≤ 300
def seenM (m : Mach) : Prop := nearM m ∧ chkM m = 0 ∧ m.next ≤ 900000000 ∧ m.newp ≤ 900000000
instance (m : Mach) : Decidable (nearM m) := by unfold nearM; infer_instance
instance (m : Mach) : Decidable (seenM m) := by unfold seenM; infer_instance
theorem near_fit {m : Mach} (hm : MFit (2 ^ 47) m) (h : nearM m) : MFit 20000 m := by
  obtain ⟨h1, h2, h3, h4, h5, h6, h7⟩ := h
  exact ⟨hm.clock, hm.quantum, hm.cur, hm.left, by omega, hm.frS, by omega, hm.prR, hm.next, hm.init, by omega, hm.pipesR, hm.newp, hm.inp, hm.told, by omega, hm.blS, by omega, hm.peS, hm.dleft, by omega, hm.dirtyS⟩
theorem pwide_spec (m : Mach) (hm : MFit (2 ^ 47) m) : Spec Try.prog 14 [encM m] (.int .i64 (if seenM m then 0 else 1)) := by
  obtain ⟨R, hR⟩ : ∃ R : Int, R = if seenM m then 0 else 1 := ⟨_, rfl⟩
  rw [← hR]
  have b1 := hm.fr
  have b2 := hm.pr
  have b3 := hm.pipes
  have b4 := hm.bl
  have b5 := hm.pe
  have b6 := hm.dirty
  have b7 := hm.inp
  by_cases hn : nearM m
  · have hC := rcheckM_spec m (near_fit hm hn)
    have hyes : chkM m = 0 → m.next ≤ 900000000 → m.newp ≤ 900000000 → R = 0 := fun h1 h2 h3 => by rw [hR, if_pos ⟨hn, h1, h2, h3⟩]
    have hno : ¬(chkM m = 0 ∧ m.next ≤ 900000000 ∧ m.newp ≤ 900000000) → R = 1 := fun h => by rw [hR, if_neg fun h' => h h'.2]
    clear hR
    generalize chkM m = c at hC hyes hno
    obtain ⟨h1, h2, h3, h4, h5, h6, h7⟩ := hn
    refine spec_ok Try.func14 rfl rfl (by kernel_rfl) (k := 1) rfl (by decide) ?_
    repeat' (first|(with_reducible first|refine yrl (by constructor) ?_|refine jk (fun M hM=>?_)|(refine hM _ ?_;clear hM M)|refine xb3 (by decide) ?_|refine yqa (by assumption) ?_ ?_|refine yqb (by assumption) ?_ ?_)|((with_reducible refine je ?_)<;>(first|rfl|assumption|(simp only [znl,znTH];(first|done|fail))))|(with_reducible refine jf (by (simp only [↓reduceIte,zlk,Nat.reduceEqDiff,reduceCtorEq]);exact rfl) ?_)|((with_reducible first|refine jg (fun hc=>?_) (fun hc=>?_)|refine jh (fun hc=>?_) (fun hc=>?_))<;>(try simp (disch:=omega) only [zhb] at hc)<;>(try (exfalso;omega))<;>(try subst hc))|(with_reducible refine ji (by omega) ?_)|(simp (config := { maxSteps := 400000 }) only [↓jt,↓reduceIte,zvs,reduceCtorEq,seval,-List.reduceReplicate,tab,encDr,Try.results14,jTA])|(simp (disch:=omega) only [ziw]))
    all_goals first
      | (exfalso; omega)
      | (rw [hyes (by omega) (by omega) (by omega)]; simp only [zrds]; done)
      | (rw [hno (by omega)]; simp only [zrds]; done)
  · have hno : R = 1 := by rw [hR, if_neg fun h => hn h.1]
    rw [hno]
    unfold nearM at hn
    clear hR hno R
    refine spec_ok Try.func14 rfl rfl (by kernel_rfl) (k := 1) rfl (by decide) ?_
    repeat' (first|(with_reducible first|refine yrl (by constructor) ?_|refine jk (fun M hM=>?_)|(refine hM _ ?_;clear hM M)|refine xb3 (by decide) ?_|refine yqa (by assumption) ?_ ?_|refine yqb (by assumption) ?_ ?_)|((with_reducible refine je ?_)<;>(first|rfl|assumption|(simp only [znl,znTH];(first|done|fail))))|(with_reducible refine jf (by (simp only [↓reduceIte,zlk,Nat.reduceEqDiff,reduceCtorEq]);exact rfl) ?_)|((with_reducible first|refine jg (fun hc=>?_) (fun hc=>?_)|refine jh (fun hc=>?_) (fun hc=>?_))<;>(try simp (disch:=omega) only [zhb] at hc)<;>(try (exfalso;omega))<;>(try subst hc))|(with_reducible refine ji (by omega) ?_)|(simp (config := { maxSteps := 400000 }) only [↓jt,↓reduceIte,zvs,reduceCtorEq,seval,-List.reduceReplicate,tab,encDr,Try.results14,jTA])|(simp (disch:=omega) only [ziw]))
    all_goals first
      | (exfalso; omega)
      | (simp only [zrds]; done)
def seenE (e : Exe) : Prop := e.ws.length ≤ 200 ∧ e.data.length ≤ 600
instance (e : Exe) : Decidable (seenE e) := by unfold seenE; infer_instance
theorem pgreat_spec (e : Exe) (h1 : e.ws.length ≤ 2 ^ 47) (h2 : e.data.length ≤ 2 ^ 47) : Spec Try.prog 15 [encExe e] (.bool (!decide (seenE e))) := by
  obtain ⟨R, hR⟩ : ∃ R, R = !decide (seenE e) := ⟨_, rfl⟩
  rw [← hR]
  have hyes : seenE e → R = false := fun h => by rw [hR, decide_eq_true h]; rfl
  have hno : ¬seenE e → R = true := fun h => by rw [hR, decide_eq_false h]; rfl
  clear hR
  unfold seenE at hyes hno
  by_cases h3 : e.ws.length ≤ 200
  · by_cases h4 : e.data.length ≤ 600
    · rw [hyes ⟨h3, h4⟩]
      have hd : decide ((e.data.length : Int) > 600) = false := decide_eq_false (by omega)
      refine spec_ok Try.func15 rfl rfl (by kernel_rfl) (k := 1) rfl (by decide) ?_
      repeat' (first|(with_reducible first|refine yrl (by constructor) ?_|refine jk (fun M hM=>?_)|(refine hM _ ?_;clear hM M)|refine xb3 (by decide) ?_|refine yqa (by assumption) ?_ ?_|refine yqb (by assumption) ?_ ?_)|((with_reducible refine je ?_)<;>(first|rfl|assumption|(simp only [znl,znTH];(first|done|fail))))|(with_reducible refine jf (by (simp only [↓reduceIte,zlk,Nat.reduceEqDiff,reduceCtorEq]);exact rfl) ?_)|((with_reducible first|refine jg (fun hc=>?_) (fun hc=>?_)|refine jh (fun hc=>?_) (fun hc=>?_))<;>(try simp (disch:=omega) only [zhb] at hc)<;>(try (exfalso;omega))<;>(try subst hc))|(with_reducible refine ji (by omega) ?_)|(simp (config := { maxSteps := 400000 }) only [↓jt,↓reduceIte,zvs,reduceCtorEq,seval,-List.reduceReplicate,tab,hd,Try.results15,jTA])|(simp (disch:=omega) only [ziw]))
      all_goals first
        | (exfalso; omega)
        | (simp only [zrds]; done)
    · rw [hno (by omega)]
      have hd : decide ((e.data.length : Int) > 600) = true := decide_eq_true (by omega)
      refine spec_ok Try.func15 rfl rfl (by kernel_rfl) (k := 1) rfl (by decide) ?_
      repeat' (first|(with_reducible first|refine yrl (by constructor) ?_|refine jk (fun M hM=>?_)|(refine hM _ ?_;clear hM M)|refine xb3 (by decide) ?_|refine yqa (by assumption) ?_ ?_|refine yqb (by assumption) ?_ ?_)|((with_reducible refine je ?_)<;>(first|rfl|assumption|(simp only [znl,znTH];(first|done|fail))))|(with_reducible refine jf (by (simp only [↓reduceIte,zlk,Nat.reduceEqDiff,reduceCtorEq]);exact rfl) ?_)|((with_reducible first|refine jg (fun hc=>?_) (fun hc=>?_)|refine jh (fun hc=>?_) (fun hc=>?_))<;>(try simp (disch:=omega) only [zhb] at hc)<;>(try (exfalso;omega))<;>(try subst hc))|(with_reducible refine ji (by omega) ?_)|(simp (config := { maxSteps := 400000 }) only [↓jt,↓reduceIte,zvs,reduceCtorEq,seval,-List.reduceReplicate,tab,hd,Try.results15,jTA])|(simp (disch:=omega) only [ziw]))
      all_goals first
        | (exfalso; omega)
        | (simp only [zrds]; done)
  · rw [hno (by omega)]
    have hd : (0 : Nat) = 0 := rfl
    refine spec_ok Try.func15 rfl rfl (by kernel_rfl) (k := 1) rfl (by decide) ?_
    repeat' (first|(with_reducible first|refine yrl (by constructor) ?_|refine jk (fun M hM=>?_)|(refine hM _ ?_;clear hM M)|refine xb3 (by decide) ?_|refine yqa (by assumption) ?_ ?_|refine yqb (by assumption) ?_ ?_)|((with_reducible refine je ?_)<;>(first|rfl|assumption|(simp only [znl,znTH];(first|done|fail))))|(with_reducible refine jf (by (simp only [↓reduceIte,zlk,Nat.reduceEqDiff,reduceCtorEq]);exact rfl) ?_)|((with_reducible first|refine jg (fun hc=>?_) (fun hc=>?_)|refine jh (fun hc=>?_) (fun hc=>?_))<;>(try simp (disch:=omega) only [zhb] at hc)<;>(try (exfalso;omega))<;>(try subst hc))|(with_reducible refine ji (by omega) ?_)|(simp (config := { maxSteps := 400000 }) only [↓jt,↓reduceIte,zvs,reduceCtorEq,seval,-List.reduceReplicate,tab,Try.results15,jTA])|(simp (disch:=omega) only [ziw]))
    all_goals first
      | (exfalso; omega)
      | (simp only [zrds]; done)
abbrev exeT : Ty := .fcons (.sl (.int .u32)) (.fcons .str (.fcons (.int .i64) (.fcons (.int .u32) .fnil)))
abbrev ExeD := List Int × List UInt8 × Int × Int × Unit
def mExe (x : ExeD) : Exe := ⟨x.1, x.2.1, x.2.2.1, x.2.2.2.1⟩
theorem toV_exe (x : ExeD) : toV exeT x = encExe (mExe x) := by
  have e : toV (.sl (.int .u32)) x.1 = encWords x.1 := by simp only [toV,tsh]; rfl
  show VV.agg [toV (.sl (.int .u32)) x.1, .str x.2.1, .int .i64 x.2.2.1, .int .u32 x.2.2.2.1] = _
  rw [e]; rfl
structure ExeG (e : Exe) : Prop where
  ws : e.ws.length ≤ 2 ^ 47
  wsR : ∀ x ∈ e.ws, u32R x
  data : e.data.length ≤ 2 ^ 47
  z : i64R e.z
  en : u32R e.en
theorem exe_good (x : ExeD) (g : good exeT x) (l : Ty.lite exeT x) : ExeG (mExe x) := by
  obtain ⟨g1, g2, g3, g4, _⟩ := g
  obtain ⟨l1, l2, l3, l4, _⟩ := l
  exact ⟨Nat.le_trans l1.1 mreach47, fun y hy => bounds_u32 (g1 y hy), Nat.le_trans l2 mreach47, bounds_i64 g3, bounds_u32 g4⟩
theorem exe_R {e : Exe} (h : ExeG e) (hs : seenE e) : ExeR e := by
  obtain ⟨h1, h2⟩ := hs
  exact ⟨by omega, h.wsR, by omega, h.z, h.en⟩
theorem spawnE_ok {m : Mach} {e : Exe} (h : spawnE m e = 0) : okE e ∧ m.pr.length < 8 ∧ (layE e).length ≤ (freeK m.pr m.fr.length).length := by
  unfold spawnE at h
  split at h
  · rename_i h1
    split at h
    · omega
    · split at h
      · omega
      · exact ⟨h1, by omega, by omega⟩
  · omega
theorem nl_encExe (e : Exe) : nl (encExe e) = true := by
  show (nls (e.ws.map (VV.int .u32)) && (true && (true && (true && true)))) = true
  rw [jT]; rfl
end Go.Proofs.Ytpdhdkpebbfnnaa.V
end
section
namespace Go.Proofs.Ytpdhdkpebbfnnaa.V
open Go
set_option maxRecDepth 100000
set_option maxHeartbeats 8000000
end Go.Proofs.Ytpdhdkpebbfnnaa.V
end
section
namespace Go.Proofs.Ytpdhdkpebbfnnaa.V
open Go
set_option maxRecDepth 100000
set_option maxHeartbeats 8000000
def kidP (par pid : Int) (p : Pr) : Prop := p.par = par ∧ (pid = 0 ∨ p.pid = pid)
instance (par pid : Int) (p : Pr) : Decidable (kidP par pid p) := by unfold kidP; infer_instance
def betP (l : List Pr) (p : Pr) : Option Nat → Prop
  | none => True
  | some c => p.pid < (l.getD c default).pid
instance (l : List Pr) (p : Pr) (o : Option Nat) : Decidable (betP l p o) := by unfold betP; cases o <;> infer_instance
end Go.Proofs.Ytpdhdkpebbfnnaa.V
end
section
namespace Go.Proofs.Ytpdhdkpebbfnnaa.V
open Go Go.RowKit Go.Proofs.Ytpdhdkpebbfnnaa
end Go.Proofs.Ytpdhdkpebbfnnaa.V
end
section
namespace Go.Proofs.Ytpdhdkpebbfnnaa.V
open Go Go.RowKit
set_option maxRecDepth 100000
end Go.Proofs.Ytpdhdkpebbfnnaa.V
end
section
namespace Go.Proofs.Ytpdhdkpebbfnnaa.V
open Go
set_option maxRecDepth 100000
set_option maxHeartbeats 8000000
end Go.Proofs.Ytpdhdkpebbfnnaa.V
end
section
namespace Go.Proofs.Ytpdhdkpebbfnnaa.V
open Go
set_option maxRecDepth 100000
set_option maxHeartbeats 8000000
end Go.Proofs.Ytpdhdkpebbfnnaa.V
end
section
namespace Go.Proofs.Ytpdhdkpebbfnnaa.V
open Go
set_option maxRecDepth 100000
theorem procs_of {m : Mach} (hinc : m.pr.Pairwise fun p q => p.pid < q.pid) (hall : ∀ p ∈ m.pr, procB m p = true) : procsB m = true := by
  unfold procsB
  rw [List.all_eq_true]
  intro i hi
  have hi : i < m.pr.length := List.mem_range.1 hi
  rw [Bool.and_eq_true]
  refine ⟨?_, hall _ (getD_mem' hi)⟩
  by_cases h0 : 0 < i
  · have := (List.pairwise_iff_getElem.1 hinc) (i - 1) i (by omega) hi (by omega)
    rw [decide_eq_true h0, Bool.true_and, Bool.not_eq_true', decide_eq_false_iff_not]
    rw [List.getD_eq_getElem?_getD, List.getD_eq_getElem?_getD, List.getElem?_eq_getElem hi, List.getElem?_eq_getElem (show i - 1 < m.pr.length by omega)]
    show ¬(_ ≤ _)
    simp only [Option.getD_some]
    omega
  · rw [decide_eq_false h0]; rfl
theorem procs_each {m : Mach} (h : chkM m = 0) : ∀ p ∈ m.pr, procB m p = true := fun p hp => by
  obtain ⟨_, _, _, _, h5, _⟩ := chk_parts h
  obtain ⟨i, hi, rfl⟩ := List.mem_iff_getElem.1 hp
  have hq := (List.all_eq_true.1 h5) i (List.mem_range.2 hi)
  rw [Bool.and_eq_true] at hq
  have := hq.2
  rwa [List.getD_eq_getElem?_getD, List.getElem?_eq_getElem hi] at this
theorem chk_new {m : Mach} (h : chkM m = 0) (fr : Frames) (pr : List Pr) (next : Int) (hn : 1 ≤ next ∧ next ≤ 1000000000) (hf : fr.length = m.fr.length) (hfs : ∀ s ∈ fr, s.length = 128) (hl : pr.length ≤ 8)
    (hp : procsB { m with fr := fr, pr := pr, next := next } = true) : chkM { m with fr := fr, pr := pr, next := next } = 0 := by
  obtain ⟨h1, h2, h3, h4, h5, h6, h7, h8, h9, h10⟩ := chk_parts h
  have hN : numB { m with fr := fr, pr := pr, next := next } = false := by
    unfold numB at h1 ⊢
    have h1 := of_decide_eq_false h1
    refine decide_eq_false ?_
    show ¬(m.quantum < 1 ∨ 1000 < m.quantum ∨ m.left < 0 ∨ m.quantum < m.left ∨ m.cur < 0 ∨ next < 1 ∨ 1000000000 < next ∨ m.newp < 1 ∨ 1000000000 < m.newp)
    omega
  have hF : (fr.any fun s => decide (s.length ≠ 128)) = false := by
    rw [List.any_eq_false]
    intro s hs
    simpa using hfs s hs
  unfold chkM
  rw [if_neg (by rw [hN]; decide)]
  rw [if_neg (by show ¬(fr.length < 1 ∨ 64 < fr.length); omega)]
  rw [if_neg (by show ¬((fr.any fun s => decide (s.length ≠ 128)) = true); rw [hF]; decide)]
  rw [if_neg (by show ¬(8 < pr.length); omega)]
  rw [if_neg (by rw [hp]; decide)]
  rw [if_neg (by show ¬(64 < m.pipes.length); omega)]
  rw [if_neg (by show ¬(pipesB m = false); rw [h7]; decide)]
  rw [if_neg (by show ¬(65536 < m.inp.length ∨ 128 < m.init.length); omega)]
  exact h10
end Go.Proofs.Ytpdhdkpebbfnnaa.V
end
section
namespace Go.Proofs.Ytpdhdkpebbfnnaa.V
open Go
set_option maxRecDepth 100000
theorem livesB_mem {l : List Pr} {pid : Int} : livesB l pid = true ↔ ∃ p ∈ l, p.pid = pid ∧ livesP p = true := by
  unfold livesB
  rw [List.any_eq_true]
  constructor
  · rintro ⟨p, hp, h⟩
    rw [Bool.and_eq_true] at h
    exact ⟨p, hp, of_decide_eq_true h.1, h.2⟩
  · rintro ⟨p, hp, h1, h2⟩
    exact ⟨p, hp, by rw [decide_eq_true h1, h2]; rfl⟩
theorem procB_to {m m' : Mach} {p : Pr} (h : procB m p = true) (hn : m.next ≤ m'.next) (hl : livesB m.pr p.par = true → livesB m'.pr p.par = true) (hf : m'.fr.length = m.fr.length) (hu : ∀ x ∈ p.sp, x.is = true → usersN m'.pr x.fr = 1) (hpi : m'.pipes = m.pipes) : procB m' p = true := by
  unfold procB at h ⊢
  rw [Bool.and_eq_true, Bool.and_eq_true] at h ⊢
  obtain ⟨⟨h1, h2⟩, h3⟩ := h
  refine ⟨⟨?_, ?_⟩, ?_⟩
  · unfold procH at h1 ⊢
    split at h1
    · cases h1
    split at h1
    · cases h1
    split at h1
    · cases h1
    rename_i a1 a2 a3
    rw [if_neg (by omega), if_neg (fun hc => ?_), if_neg a3]
    refine a2 ⟨?_, hc.2⟩
    cases hb : livesB m.pr p.par with
    | false => rfl
    | true => rw [hl hb] at hc; cases hc.1
  · rw [List.all_eq_true] at h2 ⊢
    intro x hx
    have h0 := h2 x hx
    unfold pteB at h0 ⊢
    cases hi : x.is with
    | false => rw [hi] at h0; exact h0
    | true =>
      rw [hi] at h0
      simp only [if_true,decide_eq_true_eq] at h0 ⊢
      rw [hf, hu x hx hi]
      exact ⟨h0.1, h0.2.1, h0.2.2.1, rfl⟩
  · rw [List.all_eq_true] at h3 ⊢
    intro f hf
    have h0 := h3 f hf
    unfold fdsB at h0 ⊢
    rw [hpi]; exact h0
theorem procB_users {m : Mach} {p : Pr} (h : procB m p = true) {x : Pte} (hx : x ∈ p.sp) (hi : x.is = true) : usersN m.pr x.fr = 1 ∧ p.st ≠ 3 ∧ 0 ≤ x.fr ∧ x.fr < m.fr.length := by
  unfold procB at h
  rw [Bool.and_eq_true, Bool.and_eq_true] at h
  have h0 := List.all_eq_true.1 h.1.2 x hx
  unfold pteB at h0
  rw [hi] at h0
  simp only [if_true,decide_eq_true_eq] at h0
  exact ⟨h0.2.2.2, h0.1, h0.2.1, h0.2.2.1⟩
end Go.Proofs.Ytpdhdkpebbfnnaa.V
end
section
namespace Go.Proofs.Ytpdhdkpebbfnnaa.V
open Go
set_option maxRecDepth 100000
end Go.Proofs.Ytpdhdkpebbfnnaa.V
end
section
namespace Go.Proofs.Ytpdhdkpebbfnnaa.V
open Go
set_option maxRecDepth 100000
theorem usersS_set {s : List Pte} {i : Nat} (hi : i < s.length) (h0 : (s.getD i default).is = false) (x : Pte) (hx : x.is = true) (f : Int) : usersS f (s.set i x) = usersS f s + if x.fr = f then 1 else 0 := by
  induction s generalizing i with
  | nil => cases hi
  | cons a s ih =>
    cases i with
    | zero =>
      have ha : a.is = false := h0
      simp only [List.set_cons_zero,usersS,List.countP_cons,hx,ha,Bool.true_and,Bool.false_and,decide_eq_true_eq]
      simp
    | succ i =>
      have := ih (i := i) (by simpa using hi) h0
      simp only [List.set_cons_succ,usersS,List.countP_cons] at this ⊢
      omega
structure LaidOk (s : List Pte) (l : List Lay) : Prop where
  at0 : ∀ j, j < l.length → (l.getD j default).at_.toNat < s.length ∧ (s.getD (l.getD j default).at_.toNat default).is = false
  dis : ∀ i j, i < j → j < l.length → (l.getD i default).at_.toNat ≠ (l.getD j default).at_.toNat
theorem spK_off {s : List Pte} {F : List Nat} {l : List Lay} {i : Nat} : ∀ {k : Nat}, (∀ j, j < k → (l.getD j default).at_.toNat ≠ i) → (spK s F l k).getD i default = s.getD i default
  | 0, _ => rfl
  | k + 1, h => by
    rw [spK, List.getD_eq_getElem?_getD, List.getElem?_set_ne (h k (by omega)), ← List.getD_eq_getElem?_getD, spK_off fun j hj => h j (by omega)]
theorem usersS_spK {s : List Pte} {F : List Nat} {l : List Lay} (h : LaidOk s l) (f : Int) : ∀ {k : Nat}, k ≤ l.length → k ≤ F.length → usersS f (spK s F l k) = usersS f s + (F.take k).countP fun x : Nat => decide ((x : Int) = f)
  | 0, _, _ => by simp [spK]
  | k + 1, h1, h2 => by
    have ih := usersS_spK (F := F) h f (k := k) (by omega) (by omega)
    obtain ⟨a1, a2⟩ := h.at0 k (by omega)
    have e := spK_off (s := s) (F := F) (l := l) (i := (l.getD k default).at_.toNat) (k := k) fun j hj => h.dis j k hj (by omega)
    have e2 := usersS_set (s := spK s F l k) (i := (l.getD k default).at_.toNat) (by rw [spK_len]; exact a1) (by rw [e]; exact a2) ⟨true, (l.getD k default).w, ((F.getD k default : Nat) : Int)⟩ rfl f
    rw [spK, e2, ih]
    have e3 : F.take (k + 1) = F.take k ++ [F.getD k default] := by
      rw [List.take_add_one, List.getD_eq_getElem?_getD, List.getElem?_eq_getElem (by omega)]; rfl
    rw [e3, List.countP_append, Nat.add_assoc]
    congr 2
    simp only [List.countP_cons,List.countP_nil,Nat.zero_add,decide_eq_true_eq]
end Go.Proofs.Ytpdhdkpebbfnnaa.V
end
section
namespace Go.Proofs.Ytpdhdkpebbfnnaa.V
open Go
set_option maxRecDepth 100000
theorem spK_mem {s : List Pte} {F : List Nat} {l : List Lay} {x : Pte} : ∀ {k : Nat}, x ∈ spK s F l k → x ∈ s ∨ ∃ j, j < k ∧ x = ⟨true, (l.getD j default).w, ((F.getD j default : Nat) : Int)⟩
  | 0, h => .inl h
  | k + 1, h => by
    rw [spK] at h
    rcases List.mem_or_eq_of_mem_set h with h | rfl
    · rcases spK_mem h with h | ⟨j, hj, e⟩
      · exact .inl h
      · exact .inr ⟨j, by omega, e⟩
    · exact .inr ⟨k, by omega, rfl⟩
theorem freeK_in (l : List Pr) (n : Nat) : (freeK l n).Pairwise (· < ·) ∧ ∀ i ∈ freeK l n, i < n ∧ usersN l (i : Nat) = 0 := by
  unfold freeK
  refine ⟨List.Pairwise.filter _ List.pairwise_lt_range, fun i hi => ?_⟩
  obtain ⟨h1, h2⟩ := List.mem_filter.1 hi
  exact ⟨List.mem_range.1 h1, by simpa using h2⟩
theorem took_other {l : List Pr} {n k : Nat} {f : Int} (h : usersN l f ≠ 0) : ((freeK l n).take k).countP (fun x : Nat => decide ((x : Int) = f)) = 0 := by
  rw [List.countP_eq_zero]
  intro x hx
  have := ((freeK_in l n).2 x (List.mem_of_mem_take hx)).2
  rw [decide_eq_true_eq]
  intro e
  rw [e] at this
  exact h this
theorem took_once {l : List Pr} {n k j : Nat} (hj : j < k) (hk : k ≤ (freeK l n).length) : ((freeK l n).take k).countP (fun x : Nat => decide ((x : Int) = (((freeK l n).getD j default : Nat) : Int))) = 1 := by
  have hp := (freeK_in l n).1
  have hnd : ((freeK l n).take k).Nodup := (hp.imp fun h => Nat.ne_of_lt h).sublist (List.take_sublist _ _)
  have hm : (freeK l n).getD j default ∈ (freeK l n).take k := by
    rw [List.getD_eq_getElem?_getD, List.getElem?_eq_getElem (by omega)]
    exact List.mem_take_iff_getElem.2 ⟨j, by omega, rfl⟩
  generalize (freeK l n).getD j default = a at hm ⊢
  have e : (fun x : Nat => decide ((x : Int) = (a : Int))) = fun x => x == a := by
    funext x
    by_cases h : x = a
    · subst h; simp
    · have : ¬(x : Int) = (a : Int) := by omega
      simp [h, this]
  rw [e]
  have := hnd.count (a := a)
  rw [if_pos hm] at this
  exact this
end Go.Proofs.Ytpdhdkpebbfnnaa.V
end
section
namespace Go.Proofs.Ytpdhdkpebbfnnaa.V
open Go
set_option maxRecDepth 100000
theorem zSpace_at (j : Nat) : (zSpace.getD j default).is = false := by
  unfold zSpace
  rw [List.getD_eq_getElem?_getD]
  cases h : (List.replicate 16 (⟨false, false, 0⟩ : Pte))[j]? with
  | none => rfl
  | some x =>
    have := List.mem_of_getElem? h
    rw [List.eq_of_mem_replicate this]; rfl
theorem layE_ok (e : Exe) (h : okE e) : LaidOk zSpace (layE e) := by
  have h1 := layTo_len e h
  have hlen : (layE e).length = (layTo e).length + 1 := by rw [layE, List.length_append, List.length_singleton]
  have hat : ∀ j, j < (layTo e).length → ((layE e).getD j default).at_.toNat = j := fun j hj => by
    rw [layE, List.getD_eq_getElem?_getD, List.getElem?_append_left hj, List.getElem?_eq_getElem hj]
    show ((layTo e)[j]).at_.toNat = j
    rw [layTo_at e j hj]; omega
  have hlast : ((layE e).getD (layTo e).length default).at_.toNat = 15 := by
    rw [layE, List.getD_eq_getElem?_getD, List.getElem?_append_right (Nat.le_refl _), Nat.sub_self]; rfl
  refine ⟨fun j hj => ⟨?_, zSpace_at _⟩, fun i j hij hj => ?_⟩
  · rcases Nat.lt_or_ge j (layTo e).length with h2 | h2
    · rw [hat j h2]; show j < 16; omega
    · obtain rfl : j = (layTo e).length := by omega
      rw [hlast]; decide
  · rw [hat i (by omega)]
    rcases Nat.lt_or_ge j (layTo e).length with h2 | h2
    · rw [hat j h2]; omega
    · obtain rfl : j = (layTo e).length := by omega
      rw [hlast]; omega
theorem frK_each {fr : Frames} {F : List Nat} {l : List Lay} {P : List UInt8 → Prop} (h : ∀ s ∈ fr, P s) (hl : ∀ x ∈ l, P x.d) : ∀ {k : Nat}, k ≤ l.length → ∀ s ∈ frK fr F l k, P s
  | 0, _ => h
  | k + 1, hk => fun s hs => by
    rw [frK] at hs
    rcases List.mem_or_eq_of_mem_set hs with hs | rfl
    · exact frK_each h hl (by omega) s hs
    · exact hl _ (getD_mem' hk)
theorem took_users {m : Mach} {s : List Pte} {l : List Lay} (hl : LaidOk s l) (hn : l.length ≤ (freeK m.pr m.fr.length).length) {f : Int} (hf : usersN m.pr f ≠ 0) : usersS f (spK s (freeK m.pr m.fr.length) l l.length) = usersS f s := by
  rw [usersS_spK hl f (Nat.le_refl _) hn, took_other hf, Nat.add_zero]
theorem took_mine {m : Mach} {s : List Pte} {l : List Lay} (hl : LaidOk s l) (hn : l.length ≤ (freeK m.pr m.fr.length).length) {j : Nat} (hj : j < l.length) : usersS (((freeK m.pr m.fr.length).getD j default : Nat) : Int) (spK s (freeK m.pr m.fr.length) l l.length) = usersS (((freeK m.pr m.fr.length).getD j default : Nat) : Int) s + 1 := by
  rw [usersS_spK hl _ (Nat.le_refl _) hn, took_once hj hn]
theorem free_in {m : Mach} {j : Nat} (hj : j < (freeK m.pr m.fr.length).length) : (freeK m.pr m.fr.length).getD j default < m.fr.length ∧ usersN m.pr (((freeK m.pr m.fr.length).getD j default : Nat) : Int) = 0 :=
  (freeK_in m.pr m.fr.length).2 _ (getD_mem' hj)
def fdZ : Fdd := ⟨0, 0, 0⟩
theorem spawn_chk {m : Mach} {e : Exe} {par : Int} (h : chkM m = 0) (hpr : m.pr.length < 8) (hok : okE e) (hnx : m.next < 1000000000) (hfr : (layE e).length ≤ (freeK m.pr m.fr.length).length) (hpar : par = 0 ∨ livesB m.pr par = true) : chkM (spawnM m e par fdZ fdZ) = 0 := by
  have hall := procs_each h
  have hpo := chk_pids h
  obtain ⟨h1, h2, hfs, h4, _⟩ := chk_parts h
  have hn1 : 1 ≤ m.next ∧ m.next ≤ 1000000000 := by
    unfold numB at h1
    have := of_decide_eq_false h1
    omega
  have hlt : ∀ p ∈ m.pr, p.pid < m.next := fun p hp => by
    have := hall p hp
    unfold procB at this
    rw [Bool.and_eq_true, Bool.and_eq_true] at this
    have := this.1.1
    unfold procH at this
    split at this
    · cases this
    · omega
  have hL := layE_ok e hok
  obtain ⟨q, hq⟩ : ∃ q, q = tookP m (newPr m e par fdZ fdZ) (layE e) := ⟨_, rfl⟩
  have hqs : q.sp = spK zSpace (freeK m.pr m.fr.length) (layE e) (layE e).length := by rw [hq]; rfl
  have hz : ∀ f, usersS f zSpace = 0 := fun f => by unfold usersS zSpace; rw [List.countP_replicate]; rfl
  have e1 : ∀ f, usersN (m.pr ++ [q]) f = usersN m.pr f + usersS f q.sp := fun f => usersN_snoc m.pr q f
  have eS : spawnM m e par fdZ fdZ = { m with fr := frK m.fr (freeK m.pr m.fr.length) (layE e) (layE e).length, pr := m.pr ++ [q], next := m.next + 1 } := by rw [hq]; rfl
  rw [eS]
  have hfl := frK_len m.fr (freeK m.pr m.fr.length) (layE e) (layE e).length
  refine chk_new h _ _ _ ⟨by omega, by omega⟩ hfl (frK_each hfs (fun x hx => layE_d e x hx) (Nat.le_refl _)) (by rw [List.length_append, List.length_singleton]; omega) (procs_of ?_ ?_)
  · show (m.pr ++ [q]).Pairwise _
    rw [List.pairwise_append]
    refine ⟨hpo.inc, by simp, fun a ha b hb => ?_⟩
    rw [List.mem_singleton.1 hb, hq]
    exact hlt a ha
  · intro p hp
    rcases List.mem_append.1 hp with hp | hp
    · refine procB_to (hall p hp) (by show m.next ≤ m.next + 1; omega) (fun hl => ?_) hfl (fun x hx hi => ?_) rfl
      · obtain ⟨r, hr, hr1, hr2⟩ := livesB_mem.1 hl
        exact livesB_mem.2 ⟨r, List.mem_append_left _ hr, hr1, hr2⟩
      · have hu := (procB_users (hall p hp) hx hi).1
        show usersN (m.pr ++ [q]) x.fr = 1
        rw [e1, hqs, took_users hL hfr (by omega), hz, hu]
    · rw [List.mem_singleton.1 hp]
      unfold procB
      rw [Bool.and_eq_true, Bool.and_eq_true]
      refine ⟨⟨?_, ?_⟩, ?_⟩
      · unfold procH
        rw [if_neg, if_neg, if_neg]
        · rw [hq]
          show ¬(¬((1 : Int) = 2 ↔ (0 : Int) ≠ 0) ∨ (0 : Int) < 0 ∨ (5 : Int) < 0 ∨ ((1 : Int) ≠ 2 ∧ (0 : Int) ≠ 0) ∨ ((1 : Int) ≠ 3 ∧ (0 : Int) ≠ 0))
          omega
        · rw [hq]
          show ¬(livesB (m.pr ++ [_]) par = false ∧ ((1 : Int) = 3 ∨ par ≠ 0))
          rintro ⟨a1, a2⟩
          rcases hpar with hpar | hpar
          · omega
          · obtain ⟨r, hr, hr1, hr2⟩ := livesB_mem.1 hpar
            rw [livesB_mem.2 ⟨r, List.mem_append_left _ hr, hr1, hr2⟩] at a1
            cases a1
        · rw [hq]
          show ¬(m.next < 1 ∨ m.next + 1 ≤ m.next ∨ ((1 : Int) ≠ 1 ∧ (1 : Int) ≠ 2 ∧ (1 : Int) ≠ 3) ∨ ((List.replicate 16 (0 : Int)).set 15 2048).getD 0 0 ≠ 0)
          have : ((List.replicate 16 (0 : Int)).set 15 2048).getD 0 0 = 0 := rfl
          omega
      · rw [List.all_eq_true]
        intro x hx
        rw [hqs] at hx
        rcases spK_mem hx with hx | ⟨j, hj, rfl⟩
        · rw [List.eq_of_mem_replicate hx]; rfl
        · obtain ⟨f1, f2⟩ := free_in (m := m) (j := j) (by omega)
          have hu : usersN (m.pr ++ [q]) (((freeK m.pr m.fr.length).getD j default : Nat) : Int) = 1 := by rw [e1, f2, hqs, took_mine hL hfr hj, hz]
          unfold pteB
          simp only [if_true,decide_eq_true_eq]
          have hst : q.st = 1 := by rw [hq]; rfl
          refine ⟨by omega, by omega, ?_, hu⟩
          show _ < ((frK m.fr (freeK m.pr m.fr.length) (layE e) (layE e).length).length : Int)
          rw [hfl]; omega
      · rw [List.all_eq_true]
        intro f hf
        rw [hq] at hf
        have hf : f ∈ fdZ :: fdZ :: List.replicate 6 ⟨0, 0, 0⟩ := hf
        have hf0 : f = ⟨0, 0, 0⟩ := by
          simp only [List.mem_cons] at hf
          rcases hf with hf | hf | hf
          · exact hf
          · exact hf
          · exact List.eq_of_mem_replicate hf
        rw [hf0, hq]; rfl
end Go.Proofs.Ytpdhdkpebbfnnaa.V
end
section
namespace Go.Proofs.Ytpdhdkpebbfnnaa.V
open Go
set_option maxRecDepth 100000
set_option maxHeartbeats 8000000
end Go.Proofs.Ytpdhdkpebbfnnaa.V
end
section
namespace Go.Proofs.Ytpdhdkpebbfnnaa.V
open Go
set_option maxRecDepth 100000
set_option maxHeartbeats 8000000
end Go.Proofs.Ytpdhdkpebbfnnaa.V
end
section
namespace Go.Proofs.Ytpdhdkpebbfnnaa.V
open Go
set_option maxRecDepth 100000
end Go.Proofs.Ytpdhdkpebbfnnaa.V
end
section
namespace Go.Proofs.Ytpdhdkpebbfnnaa.V
open Go
set_option maxRecDepth 100000
set_option maxHeartbeats 4000000
end Go.Proofs.Ytpdhdkpebbfnnaa.V
end
section
namespace Go.Proofs.Ytpdhdkpebbfnnaa.V
open Go
set_option maxRecDepth 100000
set_option maxHeartbeats 4000000
end Go.Proofs.Ytpdhdkpebbfnnaa.V
end
section
namespace Go.Proofs.Ytpdhdkpebbfnnaa.V
open Go
set_option maxRecDepth 100000
set_option maxHeartbeats 8000000
end Go.Proofs.Ytpdhdkpebbfnnaa.V
end
section
namespace Go.Proofs.Ytpdhdkpebbfnnaa.V
open Go
set_option maxRecDepth 100000
set_option maxHeartbeats 4000000
end Go.Proofs.Ytpdhdkpebbfnnaa.V
end
section
namespace Go.Proofs.Ytpdhdkpebbfnnaa.V
open Go
set_option maxRecDepth 100000
set_option maxHeartbeats 4000000
end Go.Proofs.Ytpdhdkpebbfnnaa.V
end
section
namespace Go.Proofs.Ytpdhdkpebbfnnaa.V
open Go
set_option maxRecDepth 100000
set_option maxHeartbeats 4000000
end Go.Proofs.Ytpdhdkpebbfnnaa.V
end
section
namespace Go.Proofs.Ytpdhdkpebbfnnaa.V
open Go
set_option maxRecDepth 100000
set_option maxHeartbeats 4000000
end Go.Proofs.Ytpdhdkpebbfnnaa.V
end
section
namespace Go.Proofs.Ytpdhdkpebbfnnaa.V
open Go
set_option maxRecDepth 100000
set_option maxHeartbeats 8000000
def mayP (m : Mach) (a : Int) : Int := match findI m.pr a with
  | none => 0
  | some i => if (m.pr.getD i default).st = 3 then 0 else a
theorem mayP_R (m : Mach) {a : Int} (h : i64R a) : i64R (mayP m a) := by
  have z : i64R 0 := by unfold i64R; omega
  unfold mayP
  split
  · exact z
  · split
    · exact z
    · exact h
theorem fdZ_R : fdR fdZ := by
  have z : i64R 0 := by unfold i64R; omega
  exact ⟨z, z, z⟩
end Go.Proofs.Ytpdhdkpebbfnnaa.V
end
section
namespace Go.Proofs.Ytpdhdkpebbfnnaa.V
open Go
set_option maxRecDepth 100000
theorem getD_appL {α : Type} {l r : List α} {k : Nat} {d : α} (h : k < l.length) : (l ++ r).getD k d = l.getD k d := by
  rw [List.getD_eq_getElem?_getD, List.getD_eq_getElem?_getD, List.getElem?_append_left h]
theorem getD_mid {α : Type} {l r : List α} {x d : α} : (l ++ x :: r).getD l.length d = x := by
  rw [List.getD_eq_getElem?_getD, List.getElem?_append_right (Nat.le_refl _), Nat.sub_self]; rfl
theorem findI_mid {l r : List Pr} {q : Pr} {pid : Int} (hl : ∀ p ∈ l, p.pid ≠ pid) (hq : q.pid = pid) : findI (l ++ q :: r) pid = some l.length :=
  find_hit (by rw [List.length_append, List.length_cons]; omega) (fun j hj => by rw [getD_appL hj]; exact hl _ (getD_mem' hj)) (by rw [getD_mid]; exact hq)
structure Kin (m : Mach) : Prop where
  pid : ∀ p ∈ m.pr, 1 ≤ p.pid ∧ p.pid < m.next
  par : ∀ p ∈ m.pr, p.par < m.next
  dead : ∀ p ∈ m.pr, p.st = 3 → p.par ≠ 0 ∧ ∃ x ∈ m.pr, x.pid = p.par
  next : 1 ≤ m.next
theorem chk_kin {m : Mach} (h : chkM m = 0) : Kin m := by
  have hall := procs_each h
  obtain ⟨h1, _⟩ := chk_parts h
  have hn1 : 1 ≤ m.next ∧ m.next ≤ 1000000000 := by
    unfold numB at h1
    have := of_decide_eq_false h1
    omega
  have hpid : ∀ p ∈ m.pr, 1 ≤ p.pid ∧ p.pid < m.next := fun p hp => by
    have := hall p hp
    unfold procB at this
    rw [Bool.and_eq_true, Bool.and_eq_true] at this
    have := this.1.1
    unfold procH at this
    split at this
    · cases this
    · omega
  have hpar : ∀ p ∈ m.pr, (p.st = 3 ∨ p.par ≠ 0) → ∃ x ∈ m.pr, x.pid = p.par := fun p hp h0 => by
    have := hall p hp
    unfold procB at this
    rw [Bool.and_eq_true, Bool.and_eq_true] at this
    have := this.1.1
    unfold procH at this
    split at this
    · cases this
    split at this
    · cases this
    · rename_i a2
      cases hb : livesB m.pr p.par with
      | false => exact absurd ⟨hb, h0⟩ a2
      | true =>
        obtain ⟨x, hx, hx1, _⟩ := livesB_mem.1 hb
        exact ⟨x, hx, hx1⟩
  refine ⟨hpid, fun p hp => ?_, fun p hp h3 => ?_, hn1.1⟩
  · by_cases h0 : p.par = 0
    · omega
    · obtain ⟨x, hx, hx1⟩ := hpar p hp (.inr h0)
      have := hpid x hx
      omega
  · obtain ⟨x, hx, hx1⟩ := hpar p hp (.inl h3)
    have := hpid x hx
    exact ⟨by omega, x, hx, hx1⟩
end Go.Proofs.Ytpdhdkpebbfnnaa.V
end
section
namespace Go.Proofs.Ytpdhdkpebbfnnaa.V
open Go
set_option maxRecDepth 100000
set_option maxHeartbeats 8000000
def bornP (m : Mach) (e : Exe) (par : Int) (i o : Fdd) : Pr := tookP m (newPr m e par i o) (layE e)
end Go.Proofs.Ytpdhdkpebbfnnaa.V
end
section
namespace Go.Proofs.Ytpdhdkpebbfnnaa.V
open Go
set_option maxRecDepth 100000
set_option maxHeartbeats 8000000
def fullK (m : Mach) (e : Exe) : Nat → Mach
  | 0 => m
  | k + 1 => spawnM (fullK m e k) e 0 fdZ fdZ
def newL (m : Mach) (e : Exe) : Nat → List Pr
  | 0 => []
  | k + 1 => newL m e k ++ [bornP (fullK m e k) e 0 fdZ fdZ]
structure Ended (m : Mach) (e : Exe) (n j : Nat) (d : Mach) : Prop where
  fit : MFit 20000 d
  pr : d.pr = m.pr ++ (newL m e n).drop j
  fr : d.fr.length = m.fr.length
end Go.Proofs.Ytpdhdkpebbfnnaa.V
end
section
namespace Go.Proofs.Ytpdhdkpebbfnnaa.V
open Go
set_option maxRecDepth 100000
set_option maxHeartbeats 1000000
def copyN (fr : Frames) (s : List Pte) (a : Int) : Nat → Option (List UInt8)
  | 0 => some []
  | k + 1 => match copyN fr s a k with
    | some l => (byteO fr s (a + k)).map fun b => l ++ [b]
    | none => none
def strV : Option (List UInt8) → VV
  | some l => .tup [.str l, .bool true]
  | none => .tup [.str [], .bool false]
end Go.Proofs.Ytpdhdkpebbfnnaa.V
end
section
namespace Go.Proofs.Ytpdhdkpebbfnnaa.V
open Go
set_option maxRecDepth 100000
set_option maxHeartbeats 1000000
end Go.Proofs.Ytpdhdkpebbfnnaa.V
end
section
namespace Go.Proofs.Ytpdhdkpebbfnnaa.V
open Go
set_option maxRecDepth 100000
set_option maxHeartbeats 1000000
theorem clone_call (l : Frames) (hl : fits l) {H : Heap} {n : Nat} {K : VV → Heap → Nat → Prop} (h0 : l = [] → K (.sl none 0) H n)
    (h : K (.sl (some (n + 1, [], 0)) l.length) (upd (upd (upd H n (some (.row (.arr 0 .cell) (.agg [])))) n none) (n + 1) (some (.row (.arr l.length .cell) (.agg (l.map .str))))) (n + 2)) :
    vcall Try.prog 66 [encStrs l] H n K := by
  obtain ⟨hl1, hl2⟩ := hl
  refine ok_body Try.func66 rfl rfl (by kernel_rfl) (k := 1) rfl (by decide) ?_
  repeat' (first|(with_reducible first|refine yrl (by constructor) ?_|refine jk (fun M hM=>?_)|(refine hM _ ?_;clear hM M)|refine xb3 (by decide) ?_|refine yqa (by assumption) ?_ ?_|refine yqb (by assumption) ?_ ?_)|((with_reducible refine je ?_)<;>(first|rfl|assumption|(simp only [znl,jR];(first|done|fail))))|(with_reducible refine jf (by (simp only [↓reduceIte,zlk,Nat.reduceEqDiff,reduceCtorEq]);exact rfl) ?_)|((with_reducible first|refine jg (fun hc=>?_) (fun hc=>?_)|refine jh (fun hc=>?_) (fun hc=>?_))<;>(try simp (disch:=omega) only [zhb] at hc)<;>(try (exfalso;omega))<;>(try subst hc))|(with_reducible refine ji (by omega) ?_)|(simp (config := { maxSteps := 400000 }) only [↓jt,↓reduceIte,zvs,reduceCtorEq,seval,-List.reduceReplicate,tab,Try.results66, List.toList_toArray])|(simp (disch:=omega) only [ziw]))
  refine eithW_intro fun b hb => ?_
  repeat' (first|(with_reducible first|refine yrl (by constructor) ?_|refine jk (fun M hM=>?_)|(refine hM _ ?_;clear hM M)|refine xb3 (by decide) ?_|refine yqa (by assumption) ?_ ?_|refine yqb (by assumption) ?_ ?_)|((with_reducible refine je ?_)<;>(first|rfl|assumption|(simp only [znl,jR];(first|done|fail))))|(with_reducible refine jf (by (simp only [↓reduceIte,zlk,Nat.reduceEqDiff,reduceCtorEq]);exact rfl) ?_)|((with_reducible first|refine jg (fun hc=>?_) (fun hc=>?_)|refine jh (fun hc=>?_) (fun hc=>?_))<;>(try simp (disch:=omega) only [zhb] at hc)<;>(try (exfalso;omega))<;>(try subst hc))|(with_reducible refine ji (by omega) ?_)|(simp (config := { maxSteps := 400000 }) only [↓jt,↓reduceIte,zvs,reduceCtorEq,seval,-List.reduceReplicate,tab,Try.results66, List.toList_toArray])|(simp (disch:=omega) only [ziw]))
  · have e : l = [] := by
      cases l with
      | nil => rfl
      | cons x l => exact absurd (hb (by simp)) (by simp)
    exact h0 e
  · exact h
end Go.Proofs.Ytpdhdkpebbfnnaa.V
end
