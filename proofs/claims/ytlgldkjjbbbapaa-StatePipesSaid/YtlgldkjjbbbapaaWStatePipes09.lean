/-
  Parts of the proof of StatePipes: Q4, Q5, Q6, NU, M14.
  Conditions: none.
-/
import Derived.Test.YtlgldkjjbbbapaaWStatePipes08
import Derived.Test.YtlgldkjjbbbapaaWStatePipes07
import Derived.Test.YtlgldkjjbbbapaaWStatePipes06
import Derived.Test.YtlgldkjjbbbapaaWStatePipes04
section
/-
  PIPES, by the program.
-/
set_option linter.unusedVariables false
set_option linter.unusedSimpArgs false
namespace Go.Proofs.Ytlgldkjjbbbapaa.V
open Go
set_option maxRecDepth 100000
set_option linter.defProp false in
def znQ4 := And.intro @jO <| And.intro @jP <| And.intro @jQ <| And.intro @jR <| And.intro @jS <| And.intro @jT <| And.intro @jU <| True.intro
set_option maxHeartbeats 4000000
theorem sopen_spec (m : Mach) (hm : MFit 20000 m) (hn : m.newp < 4611686018427387904) : Spec Try.prog 28 [encM m] (.tup [encM (openM m), .int .i64 m.newp]) := by
  have hA := list_str m.fr hm.fr
  have hB := list_pr m.pr hm.pr
  have hD := own_drive m.dr hm.bl hm.pe
  have hE := list_wr m.dirty hm.dirty
  have hl := hm.pipes
  obtain ⟨n1, n2⟩ := hm.newp
  have hpi : List.map encPi m.pipes ++ [VV.agg [.int .i64 m.newp, .str []]] = List.map encPi (m.pipes ++ [⟨m.newp, []⟩]) := by rw [List.map_append]; rfl
  refine spec_ok Try.func28 rfl rfl (by kernel_rfl) (k := 1) rfl (by decide) ?_
  repeat' (first|(with_reducible first|refine yrl (by constructor) ?_|refine jk (fun M hM=>?_)|(refine hM _ ?_;clear hM M)|refine xb3 (by decide) ?_|refine yqa (by assumption) ?_ ?_|refine yqb (by assumption) ?_ ?_)|((with_reducible refine je ?_)<;>(first|rfl|assumption|(simp only [znl,znQ4];(first|done|fail))))|(with_reducible refine jf (by (simp only [↓reduceIte,zlk,Nat.reduceEqDiff,reduceCtorEq]);exact rfl) ?_)|((with_reducible first|refine jg (fun hc=>?_) (fun hc=>?_)|refine jh (fun hc=>?_) (fun hc=>?_))<;>(try simp (disch:=omega) only [zhb] at hc)<;>(try (exfalso;omega))<;>(try subst hc))|(with_reducible refine ji (by omega) ?_)|(simp (config := { maxSteps := 400000 }) only [↓jt,↓reduceIte,zvs,reduceCtorEq,Nat.reduceEqDiff,Nat.reduceAdd,Nat.reduceLeDiff,Nat.reduceMul,Int.reduceBNe,Int.reduceBEq,Int.reduceEq,Int.reduceNe,Int.reduceLT,Int.reduceLE,Int.reduceGT,Int.reduceGE,Int.reduceNeg,Int.reduceToNat,Nat.reduceLT,Nat.reduceSub,tab,Try.results28,List.toList_toArray])|(simp (disch:=omega) only [ziw]))
  refine ja (ok_body Try.func45 rfl rfl (by kernel_rfl) (k := 1) (by rfl) (by decide) ?_)
  repeat' (first|(with_reducible first|refine yrl (by constructor) ?_|refine jk (fun M hM=>?_)|(refine hM _ ?_;clear hM M)|refine xb3 (by decide) ?_|refine yqa (by assumption) ?_ ?_|refine yqb (by assumption) ?_ ?_)|((with_reducible refine je ?_)<;>(first|rfl|assumption|(simp only [znl,znQ4];(first|done|fail))))|(with_reducible refine jf (by (simp only [↓reduceIte,zlk,Nat.reduceEqDiff,reduceCtorEq]);exact rfl) ?_)|((with_reducible first|refine jg (fun hc=>?_) (fun hc=>?_)|refine jh (fun hc=>?_) (fun hc=>?_))<;>(try simp (disch:=omega) only [zhb] at hc)<;>(try (exfalso;omega))<;>(try subst hc))|(with_reducible refine ji (by omega) ?_)|(simp (config := { maxSteps := 400000 }) only [↓jt,↓reduceIte,zvs,reduceCtorEq,Nat.reduceEqDiff,Nat.reduceAdd,Nat.reduceLeDiff,Nat.reduceMul,Int.reduceBNe,Int.reduceBEq,Int.reduceEq,Int.reduceNe,Int.reduceLT,Int.reduceLE,Int.reduceGT,Int.reduceGE,Int.reduceNeg,Int.reduceToNat,Nat.reduceLT,Nat.reduceSub,tab,Try.results45,List.toList_toArray])|(simp (disch:=omega) only [ziw]))
  refine ja (ok_body Try.func75 rfl rfl (by kernel_rfl) (k := 1) (by rfl) (by decide) ?_)
  repeat' (first|(with_reducible first|refine yrl (by constructor) ?_|refine jk (fun M hM=>?_)|(refine hM _ ?_;clear hM M)|refine xb3 (by decide) ?_|refine yqa (by assumption) ?_ ?_|refine yqb (by assumption) ?_ ?_)|((with_reducible refine je ?_)<;>(first|rfl|assumption|(simp only [znl,znQ4];(first|done|fail))))|(with_reducible refine jf (by (simp only [↓reduceIte,zlk,Nat.reduceEqDiff,reduceCtorEq]);exact rfl) ?_)|((with_reducible first|refine jg (fun hc=>?_) (fun hc=>?_)|refine jh (fun hc=>?_) (fun hc=>?_))<;>(try simp (disch:=omega) only [zhb] at hc)<;>(try (exfalso;omega))<;>(try subst hc))|(with_reducible refine ji (by omega) ?_)|(simp (config := { maxSteps := 400000 }) only [↓jt,↓reduceIte,zvs,reduceCtorEq,Nat.reduceEqDiff,Nat.reduceAdd,Nat.reduceLeDiff,Nat.reduceMul,Int.reduceBNe,Int.reduceBEq,Int.reduceEq,Int.reduceNe,Int.reduceLT,Int.reduceLE,Int.reduceGT,Int.reduceGE,Int.reduceNeg,Int.reduceToNat,Nat.reduceLT,Nat.reduceSub,tab,Try.results75, Try.results45, Try.results28, List.toList_toArray])|(simp (disch:=omega) only [ziw]))
  all_goals (try (exfalso; omega))
  ((try simp only [openM,pipM,List.map_nil]); simp only [zrds]; (repeat' (first | exact rd_nil | exact Rd.refl _ _ (by first|rfl|assumption|(simp only [znl,znQ4];(first|done|fail))) | (refine And.intro ?_ ?_) | (refine rd_own (by (simp only [↓reduceIte,zlk,Nat.reduceEqDiff,reduceCtorEq]); exact rfl) ?_ ?_ ?_) | rfl | assumption | (simp only [znl,znQ4];(first|done|fail)) | (simp; done) | (simp; omega))))
theorem set_pi (l : List Pip) (i : Nat) (a : Int) (d : List UInt8) : (l.map encPi).set i (.agg [.int .i64 a, .str d]) = (l.set i ⟨a, d⟩).map encPi := by rw [List.map_set]; rfl
theorem sput_spec (m : Mach) (hm : MFit 20000 m) (hc : chkM m = 0) (id : Int) (hid : i64R id) (s : List UInt8) (hs : s.length ≤ 20000) : Spec Try.prog 30 [encM m, .int .i64 id, .str s] (.tup [encM (putM m id s), .int .i64 (putN m id s)]) := by
  have hA := list_str m.fr hm.fr
  have hB := list_pr m.pr hm.pr
  have hD := own_drive m.dr hm.bl hm.pe
  have hE := list_wr m.dirty hm.dirty
  have hl := hm.pipes
  have hPl := place_spec m hm id hid
  have hok := (pipesB_iff m).1 (chk_parts hc).2.2.2.2.2.2.1
  unfold putM putN
  rcases pipe_cases m.pipes id with ⟨h1, h2⟩ | ⟨k, hk, h1, h2, h3⟩
  · rw [h1] at hPl
    rw [h2]
    dsimp only
    refine spec_ok Try.func30 rfl rfl (by kernel_rfl) (k := 3) rfl (by decide) ?_
    repeat' (first|(with_reducible first|refine yrl (by constructor) ?_|refine jk (fun M hM=>?_)|(refine hM _ ?_;clear hM M)|refine xb3 (by decide) ?_|refine yqa (by assumption) ?_ ?_|refine yqb (by assumption) ?_ ?_)|((with_reducible refine je ?_)<;>(first|rfl|assumption|(simp only [znl,znQ4];(first|done|fail))))|(with_reducible refine jf (by (simp only [↓reduceIte,zlk,Nat.reduceEqDiff,reduceCtorEq]);exact rfl) ?_)|((with_reducible first|refine jg (fun hc=>?_) (fun hc=>?_)|refine jh (fun hc=>?_) (fun hc=>?_))<;>(try simp (disch:=omega) only [zhb] at hc)<;>(try (exfalso;omega))<;>(try subst hc))|(with_reducible refine ji (by omega) ?_)|(simp (config := { maxSteps := 400000 }) only [↓jt,↓reduceIte,zvs,reduceCtorEq,Nat.reduceEqDiff,Nat.reduceAdd,Nat.reduceLeDiff,Nat.reduceMul,Int.reduceBNe,Int.reduceBEq,Int.reduceEq,Int.reduceNe,Int.reduceLT,Int.reduceLE,Int.reduceGT,Int.reduceGE,Int.reduceNeg,Int.reduceToNat,Nat.reduceLT,Nat.reduceSub,tab,Try.results30,List.toList_toArray])|(simp (disch:=omega) only [ziw]))
    refine ja (ok_body Try.func45 rfl rfl (by kernel_rfl) (k := 1) (by rfl) (by decide) ?_)
    repeat' (first|(with_reducible first|refine yrl (by constructor) ?_|refine jk (fun M hM=>?_)|(refine hM _ ?_;clear hM M)|refine xb3 (by decide) ?_|refine yqa (by assumption) ?_ ?_|refine yqb (by assumption) ?_ ?_)|((with_reducible refine je ?_)<;>(first|rfl|assumption|(simp only [znl,znQ4];(first|done|fail))))|(with_reducible refine jf (by (simp only [↓reduceIte,zlk,Nat.reduceEqDiff,reduceCtorEq]);exact rfl) ?_)|((with_reducible first|refine jg (fun hc=>?_) (fun hc=>?_)|refine jh (fun hc=>?_) (fun hc=>?_))<;>(try simp (disch:=omega) only [zhb] at hc)<;>(try (exfalso;omega))<;>(try subst hc))|(with_reducible refine ji (by omega) ?_)|(simp (config := { maxSteps := 400000 }) only [↓jt,↓reduceIte,zvs,reduceCtorEq,Nat.reduceEqDiff,Nat.reduceAdd,Nat.reduceLeDiff,Nat.reduceMul,Int.reduceBNe,Int.reduceBEq,Int.reduceEq,Int.reduceNe,Int.reduceLT,Int.reduceLE,Int.reduceGT,Int.reduceGE,Int.reduceNeg,Int.reduceToNat,Nat.reduceLT,Nat.reduceSub,tab,Try.results45,List.toList_toArray])|(simp (disch:=omega) only [ziw]))
    refine ja (ok_body Try.func75 rfl rfl (by kernel_rfl) (k := 1) (by rfl) (by decide) ?_)
    repeat' (first|(with_reducible first|refine yrl (by constructor) ?_|refine jk (fun M hM=>?_)|(refine hM _ ?_;clear hM M)|refine xb3 (by decide) ?_|refine yqa (by assumption) ?_ ?_|refine yqb (by assumption) ?_ ?_)|((with_reducible refine je ?_)<;>(first|rfl|assumption|(simp only [znl,znQ4];(first|done|fail))))|(with_reducible refine jf (by (simp only [↓reduceIte,zlk,Nat.reduceEqDiff,reduceCtorEq]);exact rfl) ?_)|((with_reducible first|refine jg (fun hc=>?_) (fun hc=>?_)|refine jh (fun hc=>?_) (fun hc=>?_))<;>(try simp (disch:=omega) only [zhb] at hc)<;>(try (exfalso;omega))<;>(try subst hc))|(with_reducible refine ji (by omega) ?_)|(simp (config := { maxSteps := 400000 }) only [↓jt,↓reduceIte,zvs,reduceCtorEq,Nat.reduceEqDiff,Nat.reduceAdd,Nat.reduceLeDiff,Nat.reduceMul,Int.reduceBNe,Int.reduceBEq,Int.reduceEq,Int.reduceNe,Int.reduceLT,Int.reduceLE,Int.reduceGT,Int.reduceGE,Int.reduceNeg,Int.reduceToNat,Nat.reduceLT,Nat.reduceSub,tab,Try.results75, Try.results45, Try.results30, List.toList_toArray])|(simp (disch:=omega) only [ziw]))
    refine ja (call_plain (hPl) (by repeat (first | exact rdl_nil | refine rdl_cons ?_ ?_ | exact Rd.refl _ _ (by first|rfl|assumption|(simp only [znl,znQ4];(first|done|fail))) | (refine rd_own (by (simp only [↓reduceIte,zlk,Nat.reduceEqDiff,reduceCtorEq]); exact rfl) (by first | rfl | (simp; done) | (simp; omega)) rfl (by first|rfl|assumption|(simp only [znl,znQ4];(first|done|fail)))) | exact rd_nil | refine (rd_a _ _ _).mpr ?_)) rfl rfl ?_)
    repeat' (first|(with_reducible first|refine yrl (by constructor) ?_|refine jk (fun M hM=>?_)|(refine hM _ ?_;clear hM M)|refine xb3 (by decide) ?_|refine yqa (by assumption) ?_ ?_|refine yqb (by assumption) ?_ ?_)|((with_reducible refine je ?_)<;>(first|rfl|assumption|(simp only [znl,znQ4];(first|done|fail))))|(with_reducible refine jf (by (simp only [↓reduceIte,zlk,Nat.reduceEqDiff,reduceCtorEq]);exact rfl) ?_)|((with_reducible first|refine jg (fun hc=>?_) (fun hc=>?_)|refine jh (fun hc=>?_) (fun hc=>?_))<;>(try simp (disch:=omega) only [zhb] at hc)<;>(try (exfalso;omega))<;>(try subst hc))|(with_reducible refine ji (by omega) ?_)|(simp (config := { maxSteps := 400000 }) only [↓jt,↓reduceIte,zvs,reduceCtorEq,Nat.reduceEqDiff,Nat.reduceAdd,Nat.reduceLeDiff,Nat.reduceMul,Int.reduceBNe,Int.reduceBEq,Int.reduceEq,Int.reduceNe,Int.reduceLT,Int.reduceLE,Int.reduceGT,Int.reduceGE,Int.reduceNeg,Int.reduceToNat,Nat.reduceLT,Nat.reduceSub,tab,Try.results30,List.toList_toArray])|(simp (disch:=omega) only [ziw]))
    ((try simp only [encPi,List.map_nil]); simp only [zrds]; (repeat' (first | exact rd_nil | exact Rd.refl _ _ (by first|rfl|assumption|(simp only [znl,znQ4];(first|done|fail))) | (refine And.intro ?_ ?_) | (refine rd_own (by (simp only [↓reduceIte,zlk,Nat.reduceEqDiff,reduceCtorEq]); exact rfl) ?_ ?_ ?_) | rfl | assumption | (simp only [znl,znQ4];(first|done|fail)) | (simp; done) | (simp; omega))))
  · rw [h1] at hPl
    rw [h2]
    dsimp only
    have hx := hok.few _ (getD_mem' hk)
    have hw := withP_set hok.inc hk ((m.pipes.getD k default).d ++ s.take (min s.length (64 - (m.pipes.getD k default).d.length)))
    rw [h3] at hw
    rw [hw]
    obtain ⟨n, hn⟩ : ∃ n, n = min s.length (64 - (m.pipes.getD k default).d.length) := ⟨_, rfl⟩
    rw [← hn]
    have hn1 : min (s.length : Int) (max (64 - ((m.pipes.getD k default).d.length : Int)) 0) = (n : Int) := by omega
    have hn2 : (min (s.length : Int) (max (64 - ((m.pipes.getD k default).d.length : Int)) 0)).toNat = n := by rw [hn1]; rfl
    refine spec_ok Try.func30 rfl rfl (by kernel_rfl) (k := 3) rfl (by decide) ?_
    repeat' (first|(with_reducible first|refine yrl (by constructor) ?_|refine jk (fun M hM=>?_)|(refine hM _ ?_;clear hM M)|refine xb3 (by decide) ?_|refine yqa (by assumption) ?_ ?_|refine yqb (by assumption) ?_ ?_)|((with_reducible refine je ?_)<;>(first|rfl|assumption|(simp only [znl,znQ4];(first|done|fail))))|(with_reducible refine jf (by (simp only [↓reduceIte,zlk,Nat.reduceEqDiff,reduceCtorEq]);exact rfl) ?_)|((with_reducible first|refine jg (fun hc=>?_) (fun hc=>?_)|refine jh (fun hc=>?_) (fun hc=>?_))<;>(try simp (disch:=omega) only [zhb] at hc)<;>(try (exfalso;omega))<;>(try subst hc))|(with_reducible refine ji (by omega) ?_)|(simp (config := { maxSteps := 400000 }) only [↓jt,↓reduceIte,zvs,reduceCtorEq,Nat.reduceEqDiff,Nat.reduceAdd,Nat.reduceLeDiff,Nat.reduceMul,Int.reduceBNe,Int.reduceBEq,Int.reduceEq,Int.reduceNe,Int.reduceLT,Int.reduceLE,Int.reduceGT,Int.reduceGE,Int.reduceNeg,Int.reduceToNat,Nat.reduceLT,Nat.reduceSub,tab,Try.results30,List.toList_toArray])|(simp (disch:=omega) only [ziw]))
    refine ja (ok_body Try.func45 rfl rfl (by kernel_rfl) (k := 1) (by rfl) (by decide) ?_)
    repeat' (first|(with_reducible first|refine yrl (by constructor) ?_|refine jk (fun M hM=>?_)|(refine hM _ ?_;clear hM M)|refine xb3 (by decide) ?_|refine yqa (by assumption) ?_ ?_|refine yqb (by assumption) ?_ ?_)|((with_reducible refine je ?_)<;>(first|rfl|assumption|(simp only [znl,znQ4];(first|done|fail))))|(with_reducible refine jf (by (simp only [↓reduceIte,zlk,Nat.reduceEqDiff,reduceCtorEq]);exact rfl) ?_)|((with_reducible first|refine jg (fun hc=>?_) (fun hc=>?_)|refine jh (fun hc=>?_) (fun hc=>?_))<;>(try simp (disch:=omega) only [zhb] at hc)<;>(try (exfalso;omega))<;>(try subst hc))|(with_reducible refine ji (by omega) ?_)|(simp (config := { maxSteps := 400000 }) only [↓jt,↓reduceIte,zvs,reduceCtorEq,Nat.reduceEqDiff,Nat.reduceAdd,Nat.reduceLeDiff,Nat.reduceMul,Int.reduceBNe,Int.reduceBEq,Int.reduceEq,Int.reduceNe,Int.reduceLT,Int.reduceLE,Int.reduceGT,Int.reduceGE,Int.reduceNeg,Int.reduceToNat,Nat.reduceLT,Nat.reduceSub,tab,Try.results45,List.toList_toArray])|(simp (disch:=omega) only [ziw]))
    refine ja (ok_body Try.func75 rfl rfl (by kernel_rfl) (k := 1) (by rfl) (by decide) ?_)
    repeat' (first|(with_reducible first|refine yrl (by constructor) ?_|refine jk (fun M hM=>?_)|(refine hM _ ?_;clear hM M)|refine xb3 (by decide) ?_|refine yqa (by assumption) ?_ ?_|refine yqb (by assumption) ?_ ?_)|((with_reducible refine je ?_)<;>(first|rfl|assumption|(simp only [znl,znQ4];(first|done|fail))))|(with_reducible refine jf (by (simp only [↓reduceIte,zlk,Nat.reduceEqDiff,reduceCtorEq]);exact rfl) ?_)|((with_reducible first|refine jg (fun hc=>?_) (fun hc=>?_)|refine jh (fun hc=>?_) (fun hc=>?_))<;>(try simp (disch:=omega) only [zhb] at hc)<;>(try (exfalso;omega))<;>(try subst hc))|(with_reducible refine ji (by omega) ?_)|(simp (config := { maxSteps := 400000 }) only [↓jt,↓reduceIte,zvs,reduceCtorEq,Nat.reduceEqDiff,Nat.reduceAdd,Nat.reduceLeDiff,Nat.reduceMul,Int.reduceBNe,Int.reduceBEq,Int.reduceEq,Int.reduceNe,Int.reduceLT,Int.reduceLE,Int.reduceGT,Int.reduceGE,Int.reduceNeg,Int.reduceToNat,Nat.reduceLT,Nat.reduceSub,tab,Try.results75, Try.results45, Try.results30, List.toList_toArray])|(simp (disch:=omega) only [ziw]))
    refine ja (call_plain (hPl) (by repeat (first | exact rdl_nil | refine rdl_cons ?_ ?_ | exact Rd.refl _ _ (by first|rfl|assumption|(simp only [znl,znQ4];(first|done|fail))) | (refine rd_own (by (simp only [↓reduceIte,zlk,Nat.reduceEqDiff,reduceCtorEq]); exact rfl) (by first | rfl | (simp; done) | (simp; omega)) rfl (by first|rfl|assumption|(simp only [znl,znQ4];(first|done|fail)))) | exact rd_nil | refine (rd_a _ _ _).mpr ?_)) rfl rfl ?_)
    repeat' (first|(with_reducible first|refine yrl (by constructor) ?_|refine jk (fun M hM=>?_)|(refine hM _ ?_;clear hM M)|refine xb3 (by decide) ?_|refine yqa (by assumption) ?_ ?_|refine yqb (by assumption) ?_ ?_)|((with_reducible refine je ?_)<;>(first|rfl|assumption|(simp only [znl,znQ4];(first|done|fail))))|(with_reducible refine jf (by (simp only [↓reduceIte,zlk,Nat.reduceEqDiff,reduceCtorEq]);exact rfl) ?_)|((with_reducible first|refine jg (fun hc=>?_) (fun hc=>?_)|refine jh (fun hc=>?_) (fun hc=>?_))<;>(try simp (disch:=omega) only [zhb] at hc)<;>(try (exfalso;omega))<;>(try subst hc))|(with_reducible refine ji (by omega) ?_)|(simp (config := { maxSteps := 400000 }) only [↓jt,↓reduceIte,zvs,reduceCtorEq,Nat.reduceEqDiff,Nat.reduceAdd,Nat.reduceLeDiff,Nat.reduceMul,Int.reduceBNe,Int.reduceBEq,Int.reduceEq,Int.reduceNe,Int.reduceLT,Int.reduceLE,Int.reduceGT,Int.reduceGE,Int.reduceNeg,Int.reduceToNat,Nat.reduceLT,Nat.reduceSub,tab,encPi,Try.results30,List.toList_toArray])|(simp (disch:=omega) only [ziw]))
    all_goals (try (exfalso; omega))
    refine ok_draw 12 (by kernel_rfl) (by decide +kernel) (by intro m hm; simp only [upd_ap,rows_cons,rows_nil]; (repeat (first | rfl | rw [if_neg (by omega)]))) (fun M hM => ?_); simp only [List.take_succ_cons,List.take_zero,List.drop_succ_cons,List.drop_zero]
    repeat' (first|(with_reducible first|refine yrl (by constructor) ?_|refine jk (fun M hM=>?_)|(refine hM _ ?_;clear hM M)|refine xb3 (by decide) ?_|refine yqa (by assumption) ?_ ?_|refine yqb (by assumption) ?_ ?_)|((with_reducible refine je ?_)<;>(first|rfl|assumption|(simp only [znl,znQ4];(first|done|fail))))|(with_reducible refine jf (by (simp only [↓reduceIte,zlk,Nat.reduceEqDiff,reduceCtorEq]);exact rfl) ?_)|((with_reducible first|refine jg (fun hc=>?_) (fun hc=>?_)|refine jh (fun hc=>?_) (fun hc=>?_))<;>(try simp (disch:=omega) only [zhb] at hc)<;>(try (exfalso;omega))<;>(try subst hc))|(with_reducible refine ji (by omega) ?_)|(simp (config := { maxSteps := 400000 }) only [↓jt,↓reduceIte,zvs,reduceCtorEq,Nat.reduceEqDiff,Nat.reduceAdd,Nat.reduceLeDiff,Nat.reduceMul,Int.reduceBNe,Int.reduceBEq,Int.reduceEq,Int.reduceNe,Int.reduceLT,Int.reduceLE,Int.reduceGT,Int.reduceGE,Int.reduceNeg,Int.reduceToNat,Nat.reduceLT,Nat.reduceSub,tab,encPi,hn2,hn1,set_pi,Try.results30,List.toList_toArray])|(simp (disch:=omega) only [ziw]))
    all_goals (try (exfalso; omega))
    ((try simp only [pipM,h3,List.map_nil]); simp only [zrds]; (repeat' (first | exact rd_nil | exact Rd.refl _ _ (by first|rfl|assumption|(simp only [znl,znQ4];(first|done|fail))) | (refine And.intro ?_ ?_) | (refine rd_own (by (simp only [↓reduceIte,zlk,Nat.reduceEqDiff,reduceCtorEq]); exact rfl) ?_ ?_ ?_) | rfl | assumption | (simp only [znl,znQ4];(first|done|fail)) | (simp; done) | (simp; omega))))
theorem stake_spec (m : Mach) (hm : MFit 20000 m) (hc : chkM m = 0) (id : Int) (hid : i64R id) (a : Int) (ha : i64R a) : Spec Try.prog 31 [encM m, .int .i64 id, .int .i64 a] (.tup [encM (takeM m id a), .str (takeS m id a)]) := by
  have hA := list_str m.fr hm.fr
  have hB := list_pr m.pr hm.pr
  have hD := own_drive m.dr hm.bl hm.pe
  have hE := list_wr m.dirty hm.dirty
  have hl := hm.pipes
  have hPl := place_spec m hm id hid
  have hok := (pipesB_iff m).1 (chk_parts hc).2.2.2.2.2.2.1
  obtain ⟨a1, a2⟩ := ha
  unfold takeM takeS
  rcases pipe_cases m.pipes id with ⟨h1, h2⟩ | ⟨k, hk, h1, h2, h3⟩
  · rw [h1] at hPl
    rw [h2]
    dsimp only
    refine spec_ok Try.func31 rfl rfl (by kernel_rfl) (k := 3) rfl (by decide) ?_
    repeat' (first|(with_reducible first|refine yrl (by constructor) ?_|refine jk (fun M hM=>?_)|(refine hM _ ?_;clear hM M)|refine xb3 (by decide) ?_|refine yqa (by assumption) ?_ ?_|refine yqb (by assumption) ?_ ?_)|((with_reducible refine je ?_)<;>(first|rfl|assumption|(simp only [znl,znQ4];(first|done|fail))))|(with_reducible refine jf (by (simp only [↓reduceIte,zlk,Nat.reduceEqDiff,reduceCtorEq]);exact rfl) ?_)|((with_reducible first|refine jg (fun hc=>?_) (fun hc=>?_)|refine jh (fun hc=>?_) (fun hc=>?_))<;>(try simp (disch:=omega) only [zhb] at hc)<;>(try (exfalso;omega))<;>(try subst hc))|(with_reducible refine ji (by omega) ?_)|(simp (config := { maxSteps := 400000 }) only [↓jt,↓reduceIte,zvs,reduceCtorEq,Nat.reduceEqDiff,Nat.reduceAdd,Nat.reduceLeDiff,Nat.reduceMul,Int.reduceBNe,Int.reduceBEq,Int.reduceEq,Int.reduceNe,Int.reduceLT,Int.reduceLE,Int.reduceGT,Int.reduceGE,Int.reduceNeg,Int.reduceToNat,Nat.reduceLT,Nat.reduceSub,tab,Try.results31,List.toList_toArray])|(simp (disch:=omega) only [ziw]))
    refine ja (ok_body Try.func45 rfl rfl (by kernel_rfl) (k := 1) (by rfl) (by decide) ?_)
    repeat' (first|(with_reducible first|refine yrl (by constructor) ?_|refine jk (fun M hM=>?_)|(refine hM _ ?_;clear hM M)|refine xb3 (by decide) ?_|refine yqa (by assumption) ?_ ?_|refine yqb (by assumption) ?_ ?_)|((with_reducible refine je ?_)<;>(first|rfl|assumption|(simp only [znl,znQ4];(first|done|fail))))|(with_reducible refine jf (by (simp only [↓reduceIte,zlk,Nat.reduceEqDiff,reduceCtorEq]);exact rfl) ?_)|((with_reducible first|refine jg (fun hc=>?_) (fun hc=>?_)|refine jh (fun hc=>?_) (fun hc=>?_))<;>(try simp (disch:=omega) only [zhb] at hc)<;>(try (exfalso;omega))<;>(try subst hc))|(with_reducible refine ji (by omega) ?_)|(simp (config := { maxSteps := 400000 }) only [↓jt,↓reduceIte,zvs,reduceCtorEq,Nat.reduceEqDiff,Nat.reduceAdd,Nat.reduceLeDiff,Nat.reduceMul,Int.reduceBNe,Int.reduceBEq,Int.reduceEq,Int.reduceNe,Int.reduceLT,Int.reduceLE,Int.reduceGT,Int.reduceGE,Int.reduceNeg,Int.reduceToNat,Nat.reduceLT,Nat.reduceSub,tab,Try.results45,List.toList_toArray])|(simp (disch:=omega) only [ziw]))
    refine ja (ok_body Try.func75 rfl rfl (by kernel_rfl) (k := 1) (by rfl) (by decide) ?_)
    repeat' (first|(with_reducible first|refine yrl (by constructor) ?_|refine jk (fun M hM=>?_)|(refine hM _ ?_;clear hM M)|refine xb3 (by decide) ?_|refine yqa (by assumption) ?_ ?_|refine yqb (by assumption) ?_ ?_)|((with_reducible refine je ?_)<;>(first|rfl|assumption|(simp only [znl,znQ4];(first|done|fail))))|(with_reducible refine jf (by (simp only [↓reduceIte,zlk,Nat.reduceEqDiff,reduceCtorEq]);exact rfl) ?_)|((with_reducible first|refine jg (fun hc=>?_) (fun hc=>?_)|refine jh (fun hc=>?_) (fun hc=>?_))<;>(try simp (disch:=omega) only [zhb] at hc)<;>(try (exfalso;omega))<;>(try subst hc))|(with_reducible refine ji (by omega) ?_)|(simp (config := { maxSteps := 400000 }) only [↓jt,↓reduceIte,zvs,reduceCtorEq,Nat.reduceEqDiff,Nat.reduceAdd,Nat.reduceLeDiff,Nat.reduceMul,Int.reduceBNe,Int.reduceBEq,Int.reduceEq,Int.reduceNe,Int.reduceLT,Int.reduceLE,Int.reduceGT,Int.reduceGE,Int.reduceNeg,Int.reduceToNat,Nat.reduceLT,Nat.reduceSub,tab,Try.results75, Try.results45, Try.results31, List.toList_toArray])|(simp (disch:=omega) only [ziw]))
    refine ja (call_plain (hPl) (by repeat (first | exact rdl_nil | refine rdl_cons ?_ ?_ | exact Rd.refl _ _ (by first|rfl|assumption|(simp only [znl,znQ4];(first|done|fail))) | (refine rd_own (by (simp only [↓reduceIte,zlk,Nat.reduceEqDiff,reduceCtorEq]); exact rfl) (by first | rfl | (simp; done) | (simp; omega)) rfl (by first|rfl|assumption|(simp only [znl,znQ4];(first|done|fail)))) | exact rd_nil | refine (rd_a _ _ _).mpr ?_)) rfl rfl ?_)
    repeat' (first|(with_reducible first|refine yrl (by constructor) ?_|refine jk (fun M hM=>?_)|(refine hM _ ?_;clear hM M)|refine xb3 (by decide) ?_|refine yqa (by assumption) ?_ ?_|refine yqb (by assumption) ?_ ?_)|((with_reducible refine je ?_)<;>(first|rfl|assumption|(simp only [znl,znQ4];(first|done|fail))))|(with_reducible refine jf (by (simp only [↓reduceIte,zlk,Nat.reduceEqDiff,reduceCtorEq]);exact rfl) ?_)|((with_reducible first|refine jg (fun hc=>?_) (fun hc=>?_)|refine jh (fun hc=>?_) (fun hc=>?_))<;>(try simp (disch:=omega) only [zhb] at hc)<;>(try (exfalso;omega))<;>(try subst hc))|(with_reducible refine ji (by omega) ?_)|(simp (config := { maxSteps := 400000 }) only [↓jt,↓reduceIte,zvs,reduceCtorEq,Nat.reduceEqDiff,Nat.reduceAdd,Nat.reduceLeDiff,Nat.reduceMul,Int.reduceBNe,Int.reduceBEq,Int.reduceEq,Int.reduceNe,Int.reduceLT,Int.reduceLE,Int.reduceGT,Int.reduceGE,Int.reduceNeg,Int.reduceToNat,Nat.reduceLT,Nat.reduceSub,tab,Try.results31,List.toList_toArray])|(simp (disch:=omega) only [ziw]))
    ((try simp only [encPi,List.map_nil]); simp only [zrds]; (repeat' (first | exact rd_nil | exact Rd.refl _ _ (by first|rfl|assumption|(simp only [znl,znQ4];(first|done|fail))) | (refine And.intro ?_ ?_) | (refine rd_own (by (simp only [↓reduceIte,zlk,Nat.reduceEqDiff,reduceCtorEq]); exact rfl) ?_ ?_ ?_) | rfl | assumption | (simp only [znl,znQ4];(first|done|fail)) | (simp; done) | (simp; omega))))
  · rw [h1] at hPl
    rw [h2]
    dsimp only
    have hx := hok.few _ (getD_mem' hk)
    have hw := withP_set hok.inc hk ((m.pipes.getD k default).d.drop (takeN (m.pipes.getD k default) a))
    rw [h3] at hw
    rw [hw]
    obtain ⟨n, hn⟩ : ∃ n, n = takeN (m.pipes.getD k default) a := ⟨_, rfl⟩
    rw [← hn]
    unfold takeN at hn
    have hn1 : min (max a 0) ((m.pipes.getD k default).d.length : Int) = (n : Int) := by omega
    have hn2 : (min (max a 0) ((m.pipes.getD k default).d.length : Int)).toNat = n := by rw [hn1]; rfl
    have hnl : n ≤ (m.pipes.getD k default).d.length := by omega
    have hdr : List.take ((m.pipes.getD k default).d.length - n) (List.drop n (m.pipes.getD k default).d) = (m.pipes.getD k default).d.drop n := List.take_of_length_le (by rw [List.length_drop]; omega)
    refine spec_ok Try.func31 rfl rfl (by kernel_rfl) (k := 3) rfl (by decide) ?_
    repeat' (first|(with_reducible first|refine yrl (by constructor) ?_|refine jk (fun M hM=>?_)|(refine hM _ ?_;clear hM M)|refine xb3 (by decide) ?_|refine yqa (by assumption) ?_ ?_|refine yqb (by assumption) ?_ ?_)|((with_reducible refine je ?_)<;>(first|rfl|assumption|(simp only [znl,znQ4];(first|done|fail))))|(with_reducible refine jf (by (simp only [↓reduceIte,zlk,Nat.reduceEqDiff,reduceCtorEq]);exact rfl) ?_)|((with_reducible first|refine jg (fun hc=>?_) (fun hc=>?_)|refine jh (fun hc=>?_) (fun hc=>?_))<;>(try simp (disch:=omega) only [zhb] at hc)<;>(try (exfalso;omega))<;>(try subst hc))|(with_reducible refine ji (by omega) ?_)|(simp (config := { maxSteps := 400000 }) only [↓jt,↓reduceIte,zvs,reduceCtorEq,Nat.reduceEqDiff,Nat.reduceAdd,Nat.reduceLeDiff,Nat.reduceMul,Int.reduceBNe,Int.reduceBEq,Int.reduceEq,Int.reduceNe,Int.reduceLT,Int.reduceLE,Int.reduceGT,Int.reduceGE,Int.reduceNeg,Int.reduceToNat,Nat.reduceLT,Nat.reduceSub,tab,Try.results31,List.toList_toArray])|(simp (disch:=omega) only [ziw]))
    refine ja (ok_body Try.func45 rfl rfl (by kernel_rfl) (k := 1) (by rfl) (by decide) ?_)
    repeat' (first|(with_reducible first|refine yrl (by constructor) ?_|refine jk (fun M hM=>?_)|(refine hM _ ?_;clear hM M)|refine xb3 (by decide) ?_|refine yqa (by assumption) ?_ ?_|refine yqb (by assumption) ?_ ?_)|((with_reducible refine je ?_)<;>(first|rfl|assumption|(simp only [znl,znQ4];(first|done|fail))))|(with_reducible refine jf (by (simp only [↓reduceIte,zlk,Nat.reduceEqDiff,reduceCtorEq]);exact rfl) ?_)|((with_reducible first|refine jg (fun hc=>?_) (fun hc=>?_)|refine jh (fun hc=>?_) (fun hc=>?_))<;>(try simp (disch:=omega) only [zhb] at hc)<;>(try (exfalso;omega))<;>(try subst hc))|(with_reducible refine ji (by omega) ?_)|(simp (config := { maxSteps := 400000 }) only [↓jt,↓reduceIte,zvs,reduceCtorEq,Nat.reduceEqDiff,Nat.reduceAdd,Nat.reduceLeDiff,Nat.reduceMul,Int.reduceBNe,Int.reduceBEq,Int.reduceEq,Int.reduceNe,Int.reduceLT,Int.reduceLE,Int.reduceGT,Int.reduceGE,Int.reduceNeg,Int.reduceToNat,Nat.reduceLT,Nat.reduceSub,tab,Try.results45,List.toList_toArray])|(simp (disch:=omega) only [ziw]))
    refine ja (ok_body Try.func75 rfl rfl (by kernel_rfl) (k := 1) (by rfl) (by decide) ?_)
    repeat' (first|(with_reducible first|refine yrl (by constructor) ?_|refine jk (fun M hM=>?_)|(refine hM _ ?_;clear hM M)|refine xb3 (by decide) ?_|refine yqa (by assumption) ?_ ?_|refine yqb (by assumption) ?_ ?_)|((with_reducible refine je ?_)<;>(first|rfl|assumption|(simp only [znl,znQ4];(first|done|fail))))|(with_reducible refine jf (by (simp only [↓reduceIte,zlk,Nat.reduceEqDiff,reduceCtorEq]);exact rfl) ?_)|((with_reducible first|refine jg (fun hc=>?_) (fun hc=>?_)|refine jh (fun hc=>?_) (fun hc=>?_))<;>(try simp (disch:=omega) only [zhb] at hc)<;>(try (exfalso;omega))<;>(try subst hc))|(with_reducible refine ji (by omega) ?_)|(simp (config := { maxSteps := 400000 }) only [↓jt,↓reduceIte,zvs,reduceCtorEq,Nat.reduceEqDiff,Nat.reduceAdd,Nat.reduceLeDiff,Nat.reduceMul,Int.reduceBNe,Int.reduceBEq,Int.reduceEq,Int.reduceNe,Int.reduceLT,Int.reduceLE,Int.reduceGT,Int.reduceGE,Int.reduceNeg,Int.reduceToNat,Nat.reduceLT,Nat.reduceSub,tab,Try.results75, Try.results45, Try.results31, List.toList_toArray])|(simp (disch:=omega) only [ziw]))
    refine ja (call_plain (hPl) (by repeat (first | exact rdl_nil | refine rdl_cons ?_ ?_ | exact Rd.refl _ _ (by first|rfl|assumption|(simp only [znl,znQ4];(first|done|fail))) | (refine rd_own (by (simp only [↓reduceIte,zlk,Nat.reduceEqDiff,reduceCtorEq]); exact rfl) (by first | rfl | (simp; done) | (simp; omega)) rfl (by first|rfl|assumption|(simp only [znl,znQ4];(first|done|fail)))) | exact rd_nil | refine (rd_a _ _ _).mpr ?_)) rfl rfl ?_)
    repeat' (first|(with_reducible first|refine yrl (by constructor) ?_|refine jk (fun M hM=>?_)|(refine hM _ ?_;clear hM M)|refine xb3 (by decide) ?_|refine yqa (by assumption) ?_ ?_|refine yqb (by assumption) ?_ ?_)|((with_reducible refine je ?_)<;>(first|rfl|assumption|(simp only [znl,znQ4];(first|done|fail))))|(with_reducible refine jf (by (simp only [↓reduceIte,zlk,Nat.reduceEqDiff,reduceCtorEq]);exact rfl) ?_)|((with_reducible first|refine jg (fun hc=>?_) (fun hc=>?_)|refine jh (fun hc=>?_) (fun hc=>?_))<;>(try simp (disch:=omega) only [zhb] at hc)<;>(try (exfalso;omega))<;>(try subst hc))|(with_reducible refine ji (by omega) ?_)|(simp (config := { maxSteps := 400000 }) only [↓jt,↓reduceIte,zvs,reduceCtorEq,Nat.reduceEqDiff,Nat.reduceAdd,Nat.reduceLeDiff,Nat.reduceMul,Int.reduceBNe,Int.reduceBEq,Int.reduceEq,Int.reduceNe,Int.reduceLT,Int.reduceLE,Int.reduceGT,Int.reduceGE,Int.reduceNeg,Int.reduceToNat,Nat.reduceLT,Nat.reduceSub,tab,encPi,hn2,hn1,Try.results31,List.toList_toArray])|(simp (disch:=omega) only [ziw]))
    all_goals (try (exfalso; omega))
    refine ok_draw 8 (by kernel_rfl) (by decide +kernel) (by intro m hm; simp only [upd_ap,rows_cons,rows_nil]; (repeat (first | rfl | rw [if_neg (by omega)]))) (fun M hM => ?_); simp only [List.take_succ_cons,List.take_zero,List.drop_succ_cons,List.drop_zero]
    repeat' (first|(with_reducible first|refine yrl (by constructor) ?_|refine jk (fun M hM=>?_)|(refine hM _ ?_;clear hM M)|refine xb3 (by decide) ?_|refine yqa (by assumption) ?_ ?_|refine yqb (by assumption) ?_ ?_)|((with_reducible refine je ?_)<;>(first|rfl|assumption|(simp only [znl,znQ4];(first|done|fail))))|(with_reducible refine jf (by (simp only [↓reduceIte,zlk,Nat.reduceEqDiff,reduceCtorEq]);exact rfl) ?_)|((with_reducible first|refine jg (fun hc=>?_) (fun hc=>?_)|refine jh (fun hc=>?_) (fun hc=>?_))<;>(try simp (disch:=omega) only [zhb] at hc)<;>(try (exfalso;omega))<;>(try subst hc))|(with_reducible refine ji (by omega) ?_)|(simp (config := { maxSteps := 400000 }) only [↓jt,↓reduceIte,zvs,reduceCtorEq,Nat.reduceEqDiff,Nat.reduceAdd,Nat.reduceLeDiff,Nat.reduceMul,Int.reduceBNe,Int.reduceBEq,Int.reduceEq,Int.reduceNe,Int.reduceLT,Int.reduceLE,Int.reduceGT,Int.reduceGE,Int.reduceNeg,Int.reduceToNat,Nat.reduceLT,Nat.reduceSub,tab,encPi,hn2,hn1,hdr,set_pi,Try.results31,List.toList_toArray])|(simp (disch:=omega) only [ziw]))
    all_goals (try (exfalso; omega))
    refine ok_drawE 6 [0, 1, 2, 3, 5] 4 1 (by kernel_rfl) (by decide +kernel) (by decide) (by decide) (by (simp only [↓reduceIte,zlk,Nat.reduceEqDiff,reduceCtorEq]); exact rfl) (by intro m hm; simp only [upd_ap,rows_cons,rows_nil]; (repeat (first | rfl | rw [if_neg (by omega)]))) (fun M hM => ?_); simp only [picks,List.getElem?_cons_succ,List.getElem?_cons_zero,List.drop_succ_cons,List.drop_zero]
    repeat' (first|(with_reducible first|refine yrl (by constructor) ?_|refine jk (fun M hM=>?_)|(refine hM _ ?_;clear hM M)|refine xb3 (by decide) ?_|refine yqa (by assumption) ?_ ?_|refine yqb (by assumption) ?_ ?_)|((with_reducible refine je ?_)<;>(first|rfl|assumption|(simp only [znl,znQ4];(first|done|fail))))|(with_reducible refine jf (by (simp only [↓reduceIte,zlk,Nat.reduceEqDiff,reduceCtorEq]);exact rfl) ?_)|((with_reducible first|refine jg (fun hc=>?_) (fun hc=>?_)|refine jh (fun hc=>?_) (fun hc=>?_))<;>(try simp (disch:=omega) only [zhb] at hc)<;>(try (exfalso;omega))<;>(try subst hc))|(with_reducible refine ji (by omega) ?_)|(simp (config := { maxSteps := 400000 }) only [↓jt,↓reduceIte,zvs,reduceCtorEq,Nat.reduceEqDiff,Nat.reduceAdd,Nat.reduceLeDiff,Nat.reduceMul,Int.reduceBNe,Int.reduceBEq,Int.reduceEq,Int.reduceNe,Int.reduceLT,Int.reduceLE,Int.reduceGT,Int.reduceGE,Int.reduceNeg,Int.reduceToNat,Nat.reduceLT,Nat.reduceSub,tab,encPi,storeAt_go,isP_ptr,hn2,hn1,hdr,Try.results31,List.toList_toArray])|(simp (disch:=omega) only [ziw]))
    ((try simp only [pipM,h3,List.map_nil]); simp only [zrds]; (repeat' (first | exact rd_nil | exact Rd.refl _ _ (by first|rfl|assumption|(simp only [znl,znQ4];(first|done|fail))) | (refine And.intro ?_ ?_) | (refine rd_own (by (simp only [↓reduceIte,zlk,Nat.reduceEqDiff,reduceCtorEq]); exact rfl) ?_ ?_ ?_) | rfl | assumption | (simp only [znl,znQ4];(first|done|fail)) | (simp; done) | (simp; omega))))
end Go.Proofs.Ytlgldkjjbbbapaa.V
end
section
/-
  PIPES, by the document.
-/
set_option linter.unusedVariables false
set_option linter.unusedSimpArgs false
namespace Go.Proofs.Ytlgldkjjbbbapaa.V
open Go
set_option maxRecDepth 100000
set_option linter.defProp false in
def znQ5 := And.intro @jO <| And.intro @jP <| And.intro @jQ <| And.intro @jR <| And.intro @jS <| And.intro @jT <| And.intro @jU <| True.intro
set_option maxHeartbeats 4000000
abbrev nilPV : VV := .agg [.int .u64 0, .int .i64 0, .int .i64 0, .int .i64 0, .sl none 0, .sl none 0, .int .i64 0, .str [], .sl none 0, .int .i64 0, .str [], .bool false, .int .u64 0, .agg [.sl none 0, .sl none 0, .int .i64 0], .sl none 0]
theorem ropen_spec (m : Mach) (hm : MFit 20000 m) (hn : m.newp < 4611686018427387904) : Spec Try.prog 35 [encM m] (.tup [encM (openM m), .int .i64 m.newp]) := by
  have hl := hm.pipes
  obtain ⟨n1, n2⟩ := hm.newp
  have hpi : List.map encPi m.pipes ++ [VV.agg [.int .i64 m.newp, .str []]] = List.map encPi (m.pipes ++ [⟨m.newp, []⟩]) := by rw [List.map_append]; rfl
  refine spec_ok Try.func35 rfl rfl (by kernel_rfl) (k := 1) rfl (by decide) ?_
  repeat' (first|(with_reducible first|refine yrl (by constructor) ?_|refine jk (fun M hM=>?_)|(refine hM _ ?_;clear hM M)|refine xb3 (by decide) ?_|refine yqa (by assumption) ?_ ?_|refine yqb (by assumption) ?_ ?_)|((with_reducible refine je ?_)<;>(first|rfl|assumption|(simp only [znl,znQ5];(first|done|fail))))|(with_reducible refine jf (by (simp only [↓reduceIte,zlk,Nat.reduceEqDiff,reduceCtorEq]);exact rfl) ?_)|((with_reducible first|refine jg (fun hc=>?_) (fun hc=>?_)|refine jh (fun hc=>?_) (fun hc=>?_))<;>(try simp (disch:=omega) only [zhb] at hc)<;>(try (exfalso;omega))<;>(try subst hc))|(with_reducible refine ji (by omega) ?_)|(simp (config := { maxSteps := 400000 }) only [↓jt,↓reduceIte,zvs,reduceCtorEq,Nat.reduceEqDiff,Nat.reduceAdd,Nat.reduceLeDiff,Nat.reduceMul,Int.reduceBNe,Int.reduceBEq,Int.reduceEq,Int.reduceNe,Int.reduceLT,Int.reduceLE,Int.reduceGT,Int.reduceGE,Int.reduceNeg,Int.reduceToNat,Nat.reduceLT,Nat.reduceSub,tab,Try.results35,List.toList_toArray])|(simp (disch:=omega) only [ziw]))
  all_goals (try (exfalso; omega))
  ((try simp only [openM,pipM,List.map_nil]); simp only [zrds]; (repeat' (first | exact rd_nil | exact Rd.refl _ _ (by first|rfl|assumption|(simp only [znl,znQ5];(first|done|fail))) | (refine And.intro ?_ ?_) | (refine rd_own (by (simp only [↓reduceIte,zlk,Nat.reduceEqDiff,reduceCtorEq]); exact rfl) ?_ ?_ ?_) | rfl | assumption | (simp only [znl,znQ5];(first|done|fail)) | (simp; done) | (simp; omega))))
theorem withP_snoc (l : List Pip) (id : Int) (d : List UInt8) (k : Nat) (hk : k < l.length) : withP (l.take (k + 1)) id d = withP (l.take k) id d ++ [if (l.getD k default).id = id then ⟨(l.getD k default).id, d⟩ else l.getD k default] := by
  unfold withP
  rw [take_snoc l k hk, List.map_append]; rfl
theorem with_spec (m : Mach) (hm : MFit 20000 m) (id : Int) (hid : i64R id) (d : List UInt8) (hd : d.length ≤ 40000) : Spec Try.prog 67 [encM m, .int .i64 id, .str d] (encM (pipM m (withP m.pipes id d) m.newp)) := by
  have hl := hm.pipes
  have hpR := hm.pipesR
  obtain ⟨i1, i2⟩ := hid
  refine spec_ok Try.func67 rfl rfl (by kernel_rfl) (k := 3) rfl (by decide) ?_
  repeat' (first|(with_reducible first|refine yrl (by constructor) ?_|refine jk (fun M hM=>?_)|(refine hM _ ?_;clear hM M)|refine xb3 (by decide) ?_|refine yqa (by assumption) ?_ ?_|refine yqb (by assumption) ?_ ?_)|((with_reducible refine je ?_)<;>(first|rfl|assumption|(simp only [znl,znQ5];(first|done|fail))))|(with_reducible refine jf (by (simp only [↓reduceIte,zlk,Nat.reduceEqDiff,reduceCtorEq]);exact rfl) ?_)|((with_reducible first|refine jg (fun hc=>?_) (fun hc=>?_)|refine jh (fun hc=>?_) (fun hc=>?_))<;>(try simp (disch:=omega) only [zhb] at hc)<;>(try (exfalso;omega))<;>(try subst hc))|(with_reducible refine ji (by omega) ?_)|(simp (config := { maxSteps := 400000 }) only [↓jt,↓reduceIte,zvs,reduceCtorEq,Nat.reduceEqDiff,Nat.reduceAdd,Nat.reduceLeDiff,Nat.reduceMul,Int.reduceBNe,Int.reduceBEq,Int.reduceEq,Int.reduceNe,Int.reduceLT,Int.reduceLE,Int.reduceGT,Int.reduceGE,Int.reduceNeg,Int.reduceToNat,Nat.reduceLT,Nat.reduceSub,tab,Try.results67,List.toList_toArray])|(simp (disch:=omega) only [ziw]))
  refine ok_loop (fun k : Nat => ⟨slots [(1, .int .i64 id), (2, .str d), (3, .ptr 0 []), (6, .ptr 1 []), (7, .sl (some (2, [], 0)) k), (12, encPis m.pipes), (13, .int .i64 m.pipes.length), (14, .int .i64 k)], rows [(0, .row machSh (encM m)), (1, .row machSh nilPV), (2, .row (.arr k piSh) (.agg ((withP (m.pipes.take k) id d).map encPi)))], 3⟩) (fun k => k ≤ m.pipes.length) (fun k => m.pipes.length - k) 0 ?_ (Nat.zero_le _) (fun k hk => ?_)
  · (refine yrn [(0, 0), (1, 1), (2, 2)] false ?_ ?_<;>(repeat' (first|(with_reducible first|exact ya1|exact ya2|exact ya3|refine jx rfl (by first|rfl|assumption|(simp only [znl,znQ5];(first|done|fail)))|exact ya5|exact ya7|exact jy|exact jz|refine jA ?_|refine ya9 ?_ ?_ ?_|refine jC rfl (by first|rfl|assumption|(simp only [znl,znQ5];(first|done|fail)))|refine MR.agg (MRL.cons ?_ ?_)|refine MR.fn ?_|refine MRL.cons ?_ ?_|exact MRL.nil|refine jE ?_ ?_|exact jF|exact jG|refine yb1 ?_ ?_|refine MB.row ?_|refine jI ?_ ?_|exact ya8|refine jJ rfl (by first|rfl|assumption|(simp only [znl,znQ5];(first|done|fail)))|refine yb2 ?_|rfl)|(simp only [znl,znQ5];(first|done|fail))|(simp only [↓reduceIte,zlk,Nat.reduceEqDiff,reduceCtorEq])|(with_reducible first|refine jJ ?_ ?_|refine ya5 ?_|refine ju ?_|refine jv ?_|refine jw ?_|refine jx ?_ (by first|rfl|assumption|(simp only [znl,znQ5];(first|done|fail)))|refine jC ?_ (by first|rfl|assumption|(simp only [znl,znQ5];(first|done|fail)))))))
    all_goals (first | rfl | trace_state)
  have hwl : (withP (m.pipes.take k) id d).length = k := by rw [withP_len, List.length_take]; omega
  by_cases hlt : k < m.pipes.length
  · obtain ⟨⟨p1, p2⟩, p3⟩ := hpR _ (getD_mem' hlt)
    have e := withP_snoc m.pipes id d k hlt
    generalize withP (m.pipes.take k) id d = w at hwl e
    by_cases hq : (m.pipes.getD k default).id = id
    · rw [if_pos hq] at e
      repeat' (first|(with_reducible first|refine yrl (by constructor) ?_|refine jk (fun M hM=>?_)|(refine hM _ ?_;clear hM M)|refine xb3 (by decide) ?_|refine yqa (by assumption) ?_ ?_|refine yqb (by assumption) ?_ ?_)|((with_reducible refine je ?_)<;>(first|rfl|assumption|(simp only [znl,znQ5];(first|done|fail))))|(with_reducible refine jf (by (simp only [↓reduceIte,zlk,Nat.reduceEqDiff,reduceCtorEq]);exact rfl) ?_)|((with_reducible first|refine jg (fun hc=>?_) (fun hc=>?_)|refine jh (fun hc=>?_) (fun hc=>?_))<;>(try simp (disch:=omega) only [zhb] at hc)<;>(try (exfalso;omega))<;>(try subst hc))|(with_reducible refine ji (by omega) ?_)|(simp (config := { maxSteps := 400000 }) only [↓jt,↓reduceIte,zvs,reduceCtorEq,Nat.reduceEqDiff,Nat.reduceAdd,Nat.reduceLeDiff,Nat.reduceMul,Int.reduceBNe,Int.reduceBEq,Int.reduceEq,Int.reduceNe,Int.reduceLT,Int.reduceLE,Int.reduceGT,Int.reduceGE,Int.reduceNeg,Int.reduceToNat,Nat.reduceLT,Nat.reduceSub,tab,encPi,hwl,Try.results67,List.toList_toArray])|(simp (disch:=omega) only [ziw]))
      all_goals first
        | (exfalso; omega)
        | (refine xl1 (k + 1) ?_ (by show k + 1 ≤ m.pipes.length; omega) (by show m.pipes.length - (k + 1) < m.pipes.length - k; omega); (refine yrn [(0, 0), (1, 1), (2, 5)] false ?_ ?_<;>(repeat' (first|(with_reducible first|exact ya1|exact ya2|exact ya3|refine jx rfl (by first|rfl|assumption|(simp only [znl,znQ5];(first|done|fail)))|exact ya5|exact ya7|exact jy|exact jz|refine jA ?_|refine ya9 ?_ ?_ ?_|refine jC rfl (by first|rfl|assumption|(simp only [znl,znQ5];(first|done|fail)))|refine MR.agg (MRL.cons ?_ ?_)|refine MR.fn ?_|refine MRL.cons ?_ ?_|exact MRL.nil|refine jE ?_ ?_|exact jF|exact jG|refine yb1 ?_ ?_|refine MB.row ?_|refine jI ?_ ?_|exact ya8|refine jJ rfl (by first|rfl|assumption|(simp only [znl,znQ5];(first|done|fail)))|refine yb2 ?_|rfl)|(simp only [znl,znQ5];(first|done|fail))|(simp only [↓reduceIte,zlk,Nat.reduceEqDiff,reduceCtorEq])|(with_reducible first|refine jJ ?_ ?_|refine ya5 ?_|refine ju ?_|refine jv ?_|refine jw ?_|refine jx ?_ (by first|rfl|assumption|(simp only [znl,znQ5];(first|done|fail)))|refine jC ?_ (by first|rfl|assumption|(simp only [znl,znQ5];(first|done|fail))))))); all_goals (first | rfl | (rw [e, List.map_append]; rfl) | (rw [e, hq, List.map_append]; rfl) | trace_state))
        | trace_state
    · rw [if_neg hq] at e
      repeat' (first|(with_reducible first|refine yrl (by constructor) ?_|refine jk (fun M hM=>?_)|(refine hM _ ?_;clear hM M)|refine xb3 (by decide) ?_|refine yqa (by assumption) ?_ ?_|refine yqb (by assumption) ?_ ?_)|((with_reducible refine je ?_)<;>(first|rfl|assumption|(simp only [znl,znQ5];(first|done|fail))))|(with_reducible refine jf (by (simp only [↓reduceIte,zlk,Nat.reduceEqDiff,reduceCtorEq]);exact rfl) ?_)|((with_reducible first|refine jg (fun hc=>?_) (fun hc=>?_)|refine jh (fun hc=>?_) (fun hc=>?_))<;>(try simp (disch:=omega) only [zhb] at hc)<;>(try (exfalso;omega))<;>(try subst hc))|(with_reducible refine ji (by omega) ?_)|(simp (config := { maxSteps := 400000 }) only [↓jt,↓reduceIte,zvs,reduceCtorEq,Nat.reduceEqDiff,Nat.reduceAdd,Nat.reduceLeDiff,Nat.reduceMul,Int.reduceBNe,Int.reduceBEq,Int.reduceEq,Int.reduceNe,Int.reduceLT,Int.reduceLE,Int.reduceGT,Int.reduceGE,Int.reduceNeg,Int.reduceToNat,Nat.reduceLT,Nat.reduceSub,tab,encPi,hwl,Try.results67,List.toList_toArray])|(simp (disch:=omega) only [ziw]))
      all_goals first
        | (exfalso; omega)
        | (refine xl1 (k + 1) ?_ (by show k + 1 ≤ m.pipes.length; omega) (by show m.pipes.length - (k + 1) < m.pipes.length - k; omega); (refine yrn [(0, 0), (1, 1), (2, 5)] false ?_ ?_<;>(repeat' (first|(with_reducible first|exact ya1|exact ya2|exact ya3|refine jx rfl (by first|rfl|assumption|(simp only [znl,znQ5];(first|done|fail)))|exact ya5|exact ya7|exact jy|exact jz|refine jA ?_|refine ya9 ?_ ?_ ?_|refine jC rfl (by first|rfl|assumption|(simp only [znl,znQ5];(first|done|fail)))|refine MR.agg (MRL.cons ?_ ?_)|refine MR.fn ?_|refine MRL.cons ?_ ?_|exact MRL.nil|refine jE ?_ ?_|exact jF|exact jG|refine yb1 ?_ ?_|refine MB.row ?_|refine jI ?_ ?_|exact ya8|refine jJ rfl (by first|rfl|assumption|(simp only [znl,znQ5];(first|done|fail)))|refine yb2 ?_|rfl)|(simp only [znl,znQ5];(first|done|fail))|(simp only [↓reduceIte,zlk,Nat.reduceEqDiff,reduceCtorEq])|(with_reducible first|refine jJ ?_ ?_|refine ya5 ?_|refine ju ?_|refine jv ?_|refine jw ?_|refine jx ?_ (by first|rfl|assumption|(simp only [znl,znQ5];(first|done|fail)))|refine jC ?_ (by first|rfl|assumption|(simp only [znl,znQ5];(first|done|fail))))))); all_goals (first | rfl | (rw [e, List.map_append]; rfl) | trace_state))
        | trace_state
  · obtain rfl : k = m.pipes.length := by omega
    rw [List.take_length] at hwl ⊢
    repeat' (first|(with_reducible first|refine yrl (by constructor) ?_|refine jk (fun M hM=>?_)|(refine hM _ ?_;clear hM M)|refine xb3 (by decide) ?_|refine yqa (by assumption) ?_ ?_|refine yqb (by assumption) ?_ ?_)|((with_reducible refine je ?_)<;>(first|rfl|assumption|(simp only [znl,znQ5];(first|done|fail))))|(with_reducible refine jf (by (simp only [↓reduceIte,zlk,Nat.reduceEqDiff,reduceCtorEq]);exact rfl) ?_)|((with_reducible first|refine jg (fun hc=>?_) (fun hc=>?_)|refine jh (fun hc=>?_) (fun hc=>?_))<;>(try simp (disch:=omega) only [zhb] at hc)<;>(try (exfalso;omega))<;>(try subst hc))|(with_reducible refine ji (by omega) ?_)|(simp (config := { maxSteps := 400000 }) only [↓jt,↓reduceIte,zvs,reduceCtorEq,Nat.reduceEqDiff,Nat.reduceAdd,Nat.reduceLeDiff,Nat.reduceMul,Int.reduceBNe,Int.reduceBEq,Int.reduceEq,Int.reduceNe,Int.reduceLT,Int.reduceLE,Int.reduceGT,Int.reduceGE,Int.reduceNeg,Int.reduceToNat,Nat.reduceLT,Nat.reduceSub,tab,hwl,Try.results67,List.toList_toArray])|(simp (disch:=omega) only [ziw]))
    all_goals (try (exfalso; omega))
    ((try simp only [pipM,List.map_nil]); simp only [zrds]; (repeat' (first | exact rd_nil | exact Rd.refl _ _ (by first|rfl|assumption|(simp only [znl,znQ5];(first|done|fail))) | (refine And.intro ?_ ?_) | (refine rd_own (by (simp only [↓reduceIte,zlk,Nat.reduceEqDiff,reduceCtorEq]); exact rfl) ?_ ?_ ?_) | rfl | assumption | (simp only [znl,znQ5];(first|done|fail)) | (simp; done) | (simp; omega))))
theorem rput_spec (m : Mach) (hm : MFit 20000 m) (hc : chkM m = 0) (id : Int) (hid : i64R id) (s : List UInt8) (hs : s.length ≤ 20000) : Spec Try.prog 36 [encM m, .int .i64 id, .str s] (.tup [encM (putM m id s), .int .i64 (putN m id s)]) := by
  have hP := rpipe_spec m hm id hid
  unfold putM putN
  cases hx : pipeO m.pipes id with
  | none =>
    rw [hx] at hP
    simp only [pipeV] at hP
    dsimp only
    refine spec_ok Try.func36 rfl rfl (by kernel_rfl) (k := 3) rfl (by decide) ?_
    repeat' (first|(with_reducible first|refine yrl (by constructor) ?_|refine jk (fun M hM=>?_)|(refine hM _ ?_;clear hM M)|refine xb3 (by decide) ?_|refine yqa (by assumption) ?_ ?_|refine yqb (by assumption) ?_ ?_)|((with_reducible refine je ?_)<;>(first|rfl|assumption|(simp only [znl,znQ5];(first|done|fail))))|(with_reducible refine jf (by (simp only [↓reduceIte,zlk,Nat.reduceEqDiff,reduceCtorEq]);exact rfl) ?_)|((with_reducible first|refine jg (fun hc=>?_) (fun hc=>?_)|refine jh (fun hc=>?_) (fun hc=>?_))<;>(try simp (disch:=omega) only [zhb] at hc)<;>(try (exfalso;omega))<;>(try subst hc))|(with_reducible refine ji (by omega) ?_)|(simp (config := { maxSteps := 400000 }) only [↓jt,↓reduceIte,zvs,reduceCtorEq,Nat.reduceEqDiff,Nat.reduceAdd,Nat.reduceLeDiff,Nat.reduceMul,Int.reduceBNe,Int.reduceBEq,Int.reduceEq,Int.reduceNe,Int.reduceLT,Int.reduceLE,Int.reduceGT,Int.reduceGE,Int.reduceNeg,Int.reduceToNat,Nat.reduceLT,Nat.reduceSub,tab,Try.results36,List.toList_toArray])|(simp (disch:=omega) only [ziw]))
    ((try simp only [encPi,List.map_nil]); simp only [zrds]; (repeat' (first | exact rd_nil | exact Rd.refl _ _ (by first|rfl|assumption|(simp only [znl,znQ5];(first|done|fail))) | (refine And.intro ?_ ?_) | (refine rd_own (by (simp only [↓reduceIte,zlk,Nat.reduceEqDiff,reduceCtorEq]); exact rfl) ?_ ?_ ?_) | rfl | assumption | (simp only [znl,znQ5];(first|done|fail)) | (simp; done) | (simp; omega))))
  | some x =>
    rw [hx] at hP
    simp only [pipeV,encPi] at hP
    dsimp only
    have hxl := few_of hc hx
    obtain ⟨n, hn⟩ : ∃ n, n = min s.length (64 - x.d.length) := ⟨_, rfl⟩
    rw [← hn]
    have hW := with_spec m hm id hid (x.d ++ s.take n) (by rw [List.length_append, List.length_take]; omega)
    generalize pipM m (withP m.pipes id (x.d ++ s.take n)) m.newp = m2 at hW ⊢
    refine spec_ok Try.func36 rfl rfl (by kernel_rfl) (k := 3) rfl (by decide) ?_
    repeat' (first|(with_reducible first|refine yrl (by constructor) ?_|refine jk (fun M hM=>?_)|(refine hM _ ?_;clear hM M)|refine xb3 (by decide) ?_|refine yqa (by assumption) ?_ ?_|refine yqb (by assumption) ?_ ?_)|((with_reducible refine je ?_)<;>(first|rfl|assumption|(simp only [znl,znQ5];(first|done|fail))))|(with_reducible refine jf (by (simp only [↓reduceIte,zlk,Nat.reduceEqDiff,reduceCtorEq]);exact rfl) ?_)|((with_reducible first|refine jg (fun hc=>?_) (fun hc=>?_)|refine jh (fun hc=>?_) (fun hc=>?_))<;>(try simp (disch:=omega) only [zhb] at hc)<;>(try (exfalso;omega))<;>(try subst hc))|(with_reducible refine ji (by omega) ?_)|(simp (config := { maxSteps := 400000 }) only [↓jt,↓reduceIte,zvs,reduceCtorEq,Nat.reduceEqDiff,Nat.reduceAdd,Nat.reduceLeDiff,Nat.reduceMul,Int.reduceBNe,Int.reduceBEq,Int.reduceEq,Int.reduceNe,Int.reduceLT,Int.reduceLE,Int.reduceGT,Int.reduceGE,Int.reduceNeg,Int.reduceToNat,Nat.reduceLT,Nat.reduceSub,tab,Try.results36,List.toList_toArray])|(simp (disch:=omega) only [ziw]))
    refine ok_loop (fun k : Nat => ⟨slots [(1, .int .i64 id), (2, .str s), (3, .ptr 0 []), (6, .ptr 1 []), (7, .int .i64 0), (8, .ptr 2 []), (10, .int .i64 k)], rows [(0, .row machSh (encM m)), (1, .row machSh nilPV), (2, .row piSh (.agg [.int .i64 x.id, .str (x.d ++ s.take k)]))], 3⟩) (fun k => k ≤ n) (fun k => n - k) 0 ?_ (Nat.zero_le _) (fun k hk => ?_)
    · (refine yrn [(0, 0), (1, 1), (2, 2)] false ?_ ?_<;>(repeat' (first|(with_reducible first|exact ya1|exact ya2|exact ya3|refine jx rfl (by first|rfl|assumption|(simp only [znl,znQ5];(first|done|fail)))|exact ya5|exact ya7|exact jy|exact jz|refine jA ?_|refine ya9 ?_ ?_ ?_|refine jC rfl (by first|rfl|assumption|(simp only [znl,znQ5];(first|done|fail)))|refine MR.agg (MRL.cons ?_ ?_)|refine MR.fn ?_|refine MRL.cons ?_ ?_|exact MRL.nil|refine jE ?_ ?_|exact jF|exact jG|refine yb1 ?_ ?_|refine MB.row ?_|refine jI ?_ ?_|exact ya8|refine jJ rfl (by first|rfl|assumption|(simp only [znl,znQ5];(first|done|fail)))|refine yb2 ?_|rfl)|(simp only [znl,znQ5];(first|done|fail))|(simp only [↓reduceIte,zlk,Nat.reduceEqDiff,reduceCtorEq])|(with_reducible first|refine jJ ?_ ?_|refine ya5 ?_|refine ju ?_|refine jv ?_|refine jw ?_|refine jx ?_ (by first|rfl|assumption|(simp only [znl,znQ5];(first|done|fail)))|refine jC ?_ (by first|rfl|assumption|(simp only [znl,znQ5];(first|done|fail)))))))
      all_goals (first | rfl | (simp; done) | trace_state)
    have hkl : (s.take k).length = k := by rw [List.length_take]; omega
    by_cases hlt : k < n
    · have e1 : (s.drop k).take 1 = [s.getD k 0] := by
        rw [List.drop_eq_getElem_cons (by omega), List.take_succ_cons, List.take_zero]
        congr 1
        rw [List.getD_eq_getElem?_getD, List.getElem?_eq_getElem (by omega)]; rfl
      have e2 : x.d ++ s.take (k + 1) = x.d ++ s.take k ++ [s.getD k 0] := by
        rw [List.append_assoc, List.take_add_one, List.getElem?_eq_getElem (by omega), List.getD_eq_getElem?_getD, List.getElem?_eq_getElem (by omega)]; rfl
      have e3 : (k : Int) + 1 - k = 1 := by omega
      have e4 : k + 1 - k = 1 := by omega
      have e5 : ((k : Int) + 1).toNat = k + 1 := by omega
      generalize s.take k = sk at hkl e2
      repeat' (first|(with_reducible first|refine yrl (by constructor) ?_|refine jk (fun M hM=>?_)|(refine hM _ ?_;clear hM M)|refine xb3 (by decide) ?_|refine yqa (by assumption) ?_ ?_|refine yqb (by assumption) ?_ ?_)|((with_reducible refine je ?_)<;>(first|rfl|assumption|(simp only [znl,znQ5];(first|done|fail))))|(with_reducible refine jf (by (simp only [↓reduceIte,zlk,Nat.reduceEqDiff,reduceCtorEq]);exact rfl) ?_)|((with_reducible first|refine jg (fun hc=>?_) (fun hc=>?_)|refine jh (fun hc=>?_) (fun hc=>?_))<;>(try simp (disch:=omega) only [zhb] at hc)<;>(try (exfalso;omega))<;>(try subst hc))|(with_reducible refine ji (by omega) ?_)|(simp (config := { maxSteps := 400000 }) only [↓jt,↓reduceIte,zvs,reduceCtorEq,Nat.reduceEqDiff,Nat.reduceAdd,Nat.reduceLeDiff,Nat.reduceMul,Int.reduceBNe,Int.reduceBEq,Int.reduceEq,Int.reduceNe,Int.reduceLT,Int.reduceLE,Int.reduceGT,Int.reduceGE,Int.reduceNeg,Int.reduceToNat,Nat.reduceLT,Nat.reduceSub,tab,hkl,e1,e4,e5,Try.results36,List.toList_toArray])|(simp (disch:=omega) only [ziw]))
      all_goals (try (exfalso; omega))
      refine ok_drawC 7 (by kernel_rfl) (by decide +kernel) (by intro m hm; simp only [upd_ap,rows_cons,rows_nil]; (repeat (first | rfl | rw [if_neg (by omega)]))) (fun M hM => ?_); simp only [List.take_succ_cons,List.take_zero,List.drop_succ_cons,List.drop_zero]
      repeat' (first|(with_reducible first|refine yrl (by constructor) ?_|refine jk (fun M hM=>?_)|(refine hM _ ?_;clear hM M)|refine xb3 (by decide) ?_|refine yqa (by assumption) ?_ ?_|refine yqb (by assumption) ?_ ?_)|((with_reducible refine je ?_)<;>(first|rfl|assumption|(simp only [znl,znQ5];(first|done|fail))))|(with_reducible refine jf (by (simp only [↓reduceIte,zlk,Nat.reduceEqDiff,reduceCtorEq]);exact rfl) ?_)|((with_reducible first|refine jg (fun hc=>?_) (fun hc=>?_)|refine jh (fun hc=>?_) (fun hc=>?_))<;>(try simp (disch:=omega) only [zhb] at hc)<;>(try (exfalso;omega))<;>(try subst hc))|(with_reducible refine ji (by omega) ?_)|(simp (config := { maxSteps := 400000 }) only [↓jt,↓reduceIte,zvs,reduceCtorEq,Nat.reduceEqDiff,Nat.reduceAdd,Nat.reduceLeDiff,Nat.reduceMul,Int.reduceBNe,Int.reduceBEq,Int.reduceEq,Int.reduceNe,Int.reduceLT,Int.reduceLE,Int.reduceGT,Int.reduceGE,Int.reduceNeg,Int.reduceToNat,Nat.reduceLT,Nat.reduceSub,tab,hkl,e1,e4,e5,Try.results36,List.toList_toArray])|(simp (disch:=omega) only [ziw]))
      all_goals first
        | (exfalso; omega)
        | (refine xl1 (k + 1) ?_ (by show k + 1 ≤ n; omega) (by show n - (k + 1) < n - k; omega); (refine yrn [(0, 0), (1, 1), (2, 2)] false ?_ ?_<;>(repeat' (first|(with_reducible first|exact ya1|exact ya2|exact ya3|refine jx rfl (by first|rfl|assumption|(simp only [znl,znQ5];(first|done|fail)))|exact ya5|exact ya7|exact jy|exact jz|refine jA ?_|refine ya9 ?_ ?_ ?_|refine jC rfl (by first|rfl|assumption|(simp only [znl,znQ5];(first|done|fail)))|refine MR.agg (MRL.cons ?_ ?_)|refine MR.fn ?_|refine MRL.cons ?_ ?_|exact MRL.nil|refine jE ?_ ?_|exact jF|exact jG|refine yb1 ?_ ?_|refine MB.row ?_|refine jI ?_ ?_|exact ya8|refine jJ rfl (by first|rfl|assumption|(simp only [znl,znQ5];(first|done|fail)))|refine yb2 ?_|rfl)|(simp only [znl,znQ5];(first|done|fail))|(simp only [↓reduceIte,zlk,Nat.reduceEqDiff,reduceCtorEq])|(with_reducible first|refine jJ ?_ ?_|refine ya5 ?_|refine ju ?_|refine jv ?_|refine jw ?_|refine jx ?_ (by first|rfl|assumption|(simp only [znl,znQ5];(first|done|fail)))|refine jC ?_ (by first|rfl|assumption|(simp only [znl,znQ5];(first|done|fail))))))); all_goals (first | rfl | (rw [e2]; done) | trace_state))
        | trace_state
    · obtain rfl : k = n := by omega
      repeat' (first|(with_reducible first|refine yrl (by constructor) ?_|refine jk (fun M hM=>?_)|(refine hM _ ?_;clear hM M)|refine xb3 (by decide) ?_|refine yqa (by assumption) ?_ ?_|refine yqb (by assumption) ?_ ?_)|((with_reducible refine je ?_)<;>(first|rfl|assumption|(simp only [znl,znQ5];(first|done|fail))))|(with_reducible refine jf (by (simp only [↓reduceIte,zlk,Nat.reduceEqDiff,reduceCtorEq]);exact rfl) ?_)|((with_reducible first|refine jg (fun hc=>?_) (fun hc=>?_)|refine jh (fun hc=>?_) (fun hc=>?_))<;>(try simp (disch:=omega) only [zhb] at hc)<;>(try (exfalso;omega))<;>(try subst hc))|(with_reducible refine ji (by omega) ?_)|(simp (config := { maxSteps := 400000 }) only [↓jt,↓reduceIte,zvs,reduceCtorEq,Nat.reduceEqDiff,Nat.reduceAdd,Nat.reduceLeDiff,Nat.reduceMul,Int.reduceBNe,Int.reduceBEq,Int.reduceEq,Int.reduceNe,Int.reduceLT,Int.reduceLE,Int.reduceGT,Int.reduceGE,Int.reduceNeg,Int.reduceToNat,Nat.reduceLT,Nat.reduceSub,tab,hkl,Try.results36,List.toList_toArray])|(simp (disch:=omega) only [ziw]))
      all_goals (try (exfalso; omega))
      all_goals first
        | (((try simp only [encPi,List.map_nil]); simp only [zrds]; (repeat' (first | exact rd_nil | exact Rd.refl _ _ (by first|rfl|assumption|(simp only [znl,znQ5];(first|done|fail))) | (refine And.intro ?_ ?_) | (refine rd_own (by (simp only [↓reduceIte,zlk,Nat.reduceEqDiff,reduceCtorEq]); exact rfl) ?_ ?_ ?_) | rfl | assumption | (simp only [znl,znQ5];(first|done|fail)) | (simp; done) | (simp; omega)))); done)
        | trace_state
theorem rtake_spec (m : Mach) (hm : MFit 20000 m) (hc : chkM m = 0) (id : Int) (hid : i64R id) (a : Int) (ha : i64R a) : Spec Try.prog 37 [encM m, .int .i64 id, .int .i64 a] (.tup [encM (takeM m id a), .str (takeS m id a)]) := by
  have hP := rpipe_spec m hm id hid
  obtain ⟨a1, a2⟩ := ha
  unfold takeM takeS
  cases hx : pipeO m.pipes id with
  | none =>
    rw [hx] at hP
    simp only [pipeV] at hP
    dsimp only
    refine spec_ok Try.func37 rfl rfl (by kernel_rfl) (k := 3) rfl (by decide) ?_
    repeat' (first|(with_reducible first|refine yrl (by constructor) ?_|refine jk (fun M hM=>?_)|(refine hM _ ?_;clear hM M)|refine xb3 (by decide) ?_|refine yqa (by assumption) ?_ ?_|refine yqb (by assumption) ?_ ?_)|((with_reducible refine je ?_)<;>(first|rfl|assumption|(simp only [znl,znQ5];(first|done|fail))))|(with_reducible refine jf (by (simp only [↓reduceIte,zlk,Nat.reduceEqDiff,reduceCtorEq]);exact rfl) ?_)|((with_reducible first|refine jg (fun hc=>?_) (fun hc=>?_)|refine jh (fun hc=>?_) (fun hc=>?_))<;>(try simp (disch:=omega) only [zhb] at hc)<;>(try (exfalso;omega))<;>(try subst hc))|(with_reducible refine ji (by omega) ?_)|(simp (config := { maxSteps := 400000 }) only [↓jt,↓reduceIte,zvs,reduceCtorEq,Nat.reduceEqDiff,Nat.reduceAdd,Nat.reduceLeDiff,Nat.reduceMul,Int.reduceBNe,Int.reduceBEq,Int.reduceEq,Int.reduceNe,Int.reduceLT,Int.reduceLE,Int.reduceGT,Int.reduceGE,Int.reduceNeg,Int.reduceToNat,Nat.reduceLT,Nat.reduceSub,tab,Try.results37,List.toList_toArray])|(simp (disch:=omega) only [ziw]))
    all_goals (try (exfalso; omega))
    all_goals ((try simp only [encPi,List.map_nil]); simp only [zrds]; (repeat' (first | exact rd_nil | exact Rd.refl _ _ (by first|rfl|assumption|(simp only [znl,znQ5];(first|done|fail))) | (refine And.intro ?_ ?_) | (refine rd_own (by (simp only [↓reduceIte,zlk,Nat.reduceEqDiff,reduceCtorEq]); exact rfl) ?_ ?_ ?_) | rfl | assumption | (simp only [znl,znQ5];(first|done|fail)) | (simp; done) | (simp; omega))))
  | some x =>
    rw [hx] at hP
    simp only [pipeV,encPi] at hP
    dsimp only
    have hxl := few_of hc hx
    by_cases h0 : a < 0
    · have e0 : takeN x a = 0 := by unfold takeN; omega
      have hw : withP m.pipes id (x.d.drop 0) = m.pipes := by
        have hok := (pipesB_iff m).1 (chk_parts hc).2.2.2.2.2.2.1
        rcases pipe_cases m.pipes id with ⟨h1, h2⟩ | ⟨k, hk, h1, h2, h3⟩
        · rw [h2] at hx; cases hx
        · rw [h2] at hx
          injection hx with hx
          have := withP_set hok.inc hk (x.d.drop 0)
          rw [h3, List.drop_zero] at this
          rw [List.drop_zero, this]
          have e : (⟨id, x.d⟩ : Pip) = m.pipes.getD k default := by rw [hx, ← h3, hx]
          rw [e, List.getD_eq_getElem?_getD, List.getElem?_eq_getElem hk]
          exact List.set_getElem_self hk
      rw [e0, hw, List.take_zero]
      refine spec_ok Try.func37 rfl rfl (by kernel_rfl) (k := 3) rfl (by decide) ?_
      repeat' (first|(with_reducible first|refine yrl (by constructor) ?_|refine jk (fun M hM=>?_)|(refine hM _ ?_;clear hM M)|refine xb3 (by decide) ?_|refine yqa (by assumption) ?_ ?_|refine yqb (by assumption) ?_ ?_)|((with_reducible refine je ?_)<;>(first|rfl|assumption|(simp only [znl,znQ5];(first|done|fail))))|(with_reducible refine jf (by (simp only [↓reduceIte,zlk,Nat.reduceEqDiff,reduceCtorEq]);exact rfl) ?_)|((with_reducible first|refine jg (fun hc=>?_) (fun hc=>?_)|refine jh (fun hc=>?_) (fun hc=>?_))<;>(try simp (disch:=omega) only [zhb] at hc)<;>(try (exfalso;omega))<;>(try subst hc))|(with_reducible refine ji (by omega) ?_)|(simp (config := { maxSteps := 400000 }) only [↓jt,↓reduceIte,zvs,reduceCtorEq,Nat.reduceEqDiff,Nat.reduceAdd,Nat.reduceLeDiff,Nat.reduceMul,Int.reduceBNe,Int.reduceBEq,Int.reduceEq,Int.reduceNe,Int.reduceLT,Int.reduceLE,Int.reduceGT,Int.reduceGE,Int.reduceNeg,Int.reduceToNat,Nat.reduceLT,Nat.reduceSub,tab,Try.results37,List.toList_toArray])|(simp (disch:=omega) only [ziw]))
      all_goals (try (exfalso; omega))
      all_goals ((try simp only [encPi,pipM,List.map_nil]); simp only [zrds]; (repeat' (first | exact rd_nil | exact Rd.refl _ _ (by first|rfl|assumption|(simp only [znl,znQ5];(first|done|fail))) | (refine And.intro ?_ ?_) | (refine rd_own (by (simp only [↓reduceIte,zlk,Nat.reduceEqDiff,reduceCtorEq]); exact rfl) ?_ ?_ ?_) | rfl | assumption | (simp only [znl,znQ5];(first|done|fail)) | (simp; done) | (simp; omega))))
    · obtain ⟨n, hn⟩ : ∃ n, n = takeN x a := ⟨_, rfl⟩
      rw [← hn]
      unfold takeN at hn
      have hW := with_spec m hm id hid (x.d.drop n) (by rw [List.length_drop]; omega)
      generalize pipM m (withP m.pipes id (x.d.drop n)) m.newp = m2 at hW ⊢
      have hdr : List.take (x.d.length - n) (List.drop n x.d) = x.d.drop n := List.take_of_length_le (by rw [List.length_drop]; omega)
      refine spec_ok Try.func37 rfl rfl (by kernel_rfl) (k := 3) rfl (by decide) ?_
      by_cases hgt : (x.d.length : Int) < a
      · have hnl : n = x.d.length := by omega
        subst hnl
        repeat' (first|(with_reducible first|refine yrl (by constructor) ?_|refine jk (fun M hM=>?_)|(refine hM _ ?_;clear hM M)|refine xb3 (by decide) ?_|refine yqa (by assumption) ?_ ?_|refine yqb (by assumption) ?_ ?_)|((with_reducible refine je ?_)<;>(first|rfl|assumption|(simp only [znl,znQ5];(first|done|fail))))|(with_reducible refine jf (by (simp only [↓reduceIte,zlk,Nat.reduceEqDiff,reduceCtorEq]);exact rfl) ?_)|((with_reducible first|refine jg (fun hc=>?_) (fun hc=>?_)|refine jh (fun hc=>?_) (fun hc=>?_))<;>(try simp (disch:=omega) only [zhb] at hc)<;>(try (exfalso;omega))<;>(try subst hc))|(with_reducible refine ji (by omega) ?_)|(simp (config := { maxSteps := 400000 }) only [↓jt,↓reduceIte,zvs,reduceCtorEq,Nat.reduceEqDiff,Nat.reduceAdd,Nat.reduceLeDiff,Nat.reduceMul,Int.reduceBNe,Int.reduceBEq,Int.reduceEq,Int.reduceNe,Int.reduceLT,Int.reduceLE,Int.reduceGT,Int.reduceGE,Int.reduceNeg,Int.reduceToNat,Nat.reduceLT,Nat.reduceSub,tab,hdr,Try.results37,List.toList_toArray])|(simp (disch:=omega) only [ziw]))
        all_goals (try (exfalso; omega))
        all_goals
          refine ok_drawE 13 [0, 1, 2, 3, 4, 5, 6, 7, 8, 9, 10, 12] 11 1 (by kernel_rfl) (by decide +kernel) (by decide) (by decide) (by (simp only [↓reduceIte,zlk,Nat.reduceEqDiff,reduceCtorEq]); exact rfl) (by intro m hm; simp only [upd_ap,rows_cons,rows_nil]; (repeat (first | rfl | rw [if_neg (by omega)]))) (fun M hM => ?_); simp only [picks,List.getElem?_cons_succ,List.getElem?_cons_zero,List.drop_succ_cons,List.drop_zero]
          repeat' (first|(with_reducible first|refine yrl (by constructor) ?_|refine jk (fun M hM=>?_)|(refine hM _ ?_;clear hM M)|refine xb3 (by decide) ?_|refine yqa (by assumption) ?_ ?_|refine yqb (by assumption) ?_ ?_)|((with_reducible refine je ?_)<;>(first|rfl|assumption|(simp only [znl,znQ5];(first|done|fail))))|(with_reducible refine jf (by (simp only [↓reduceIte,zlk,Nat.reduceEqDiff,reduceCtorEq]);exact rfl) ?_)|((with_reducible first|refine jg (fun hc=>?_) (fun hc=>?_)|refine jh (fun hc=>?_) (fun hc=>?_))<;>(try simp (disch:=omega) only [zhb] at hc)<;>(try (exfalso;omega))<;>(try subst hc))|(with_reducible refine ji (by omega) ?_)|(simp (config := { maxSteps := 400000 }) only [↓jt,↓reduceIte,zvs,reduceCtorEq,Nat.reduceEqDiff,Nat.reduceAdd,Nat.reduceLeDiff,Nat.reduceMul,Int.reduceBNe,Int.reduceBEq,Int.reduceEq,Int.reduceNe,Int.reduceLT,Int.reduceLE,Int.reduceGT,Int.reduceGE,Int.reduceNeg,Int.reduceToNat,Nat.reduceLT,Nat.reduceSub,tab,hdr,storeAt_go,isP_ptr,Try.results37,List.toList_toArray])|(simp (disch:=omega) only [ziw]))
          all_goals (try (exfalso; omega))
          first | (((try simp only [encPi,List.map_nil]); simp only [zrds]; (repeat' (first | exact rd_nil | exact Rd.refl _ _ (by first|rfl|assumption|(simp only [znl,znQ5];(first|done|fail))) | (refine And.intro ?_ ?_) | (refine rd_own (by (simp only [↓reduceIte,zlk,Nat.reduceEqDiff,reduceCtorEq]); exact rfl) ?_ ?_ ?_) | rfl | assumption | (simp only [znl,znQ5];(first|done|fail)) | (simp; done) | (simp; omega)))); done) | trace_state
      · have ean : a = (n : Nat) := by omega
        subst ean
        repeat' (first|(with_reducible first|refine yrl (by constructor) ?_|refine jk (fun M hM=>?_)|(refine hM _ ?_;clear hM M)|refine xb3 (by decide) ?_|refine yqa (by assumption) ?_ ?_|refine yqb (by assumption) ?_ ?_)|((with_reducible refine je ?_)<;>(first|rfl|assumption|(simp only [znl,znQ5];(first|done|fail))))|(with_reducible refine jf (by (simp only [↓reduceIte,zlk,Nat.reduceEqDiff,reduceCtorEq]);exact rfl) ?_)|((with_reducible first|refine jg (fun hc=>?_) (fun hc=>?_)|refine jh (fun hc=>?_) (fun hc=>?_))<;>(try simp (disch:=omega) only [zhb] at hc)<;>(try (exfalso;omega))<;>(try subst hc))|(with_reducible refine ji (by omega) ?_)|(simp (config := { maxSteps := 400000 }) only [↓jt,↓reduceIte,zvs,reduceCtorEq,Nat.reduceEqDiff,Nat.reduceAdd,Nat.reduceLeDiff,Nat.reduceMul,Int.reduceBNe,Int.reduceBEq,Int.reduceEq,Int.reduceNe,Int.reduceLT,Int.reduceLE,Int.reduceGT,Int.reduceGE,Int.reduceNeg,Int.reduceToNat,Nat.reduceLT,Nat.reduceSub,tab,hdr,Try.results37,List.toList_toArray])|(simp (disch:=omega) only [ziw]))
        all_goals (try (exfalso; omega))
        all_goals
          refine ok_drawE 13 [0, 1, 2, 3, 4, 5, 6, 7, 8, 9, 10, 12] 11 1 (by kernel_rfl) (by decide +kernel) (by decide) (by decide) (by (simp only [↓reduceIte,zlk,Nat.reduceEqDiff,reduceCtorEq]); exact rfl) (by intro m hm; simp only [upd_ap,rows_cons,rows_nil]; (repeat (first | rfl | rw [if_neg (by omega)]))) (fun M hM => ?_); simp only [picks,List.getElem?_cons_succ,List.getElem?_cons_zero,List.drop_succ_cons,List.drop_zero]
          repeat' (first|(with_reducible first|refine yrl (by constructor) ?_|refine jk (fun M hM=>?_)|(refine hM _ ?_;clear hM M)|refine xb3 (by decide) ?_|refine yqa (by assumption) ?_ ?_|refine yqb (by assumption) ?_ ?_)|((with_reducible refine je ?_)<;>(first|rfl|assumption|(simp only [znl,znQ5];(first|done|fail))))|(with_reducible refine jf (by (simp only [↓reduceIte,zlk,Nat.reduceEqDiff,reduceCtorEq]);exact rfl) ?_)|((with_reducible first|refine jg (fun hc=>?_) (fun hc=>?_)|refine jh (fun hc=>?_) (fun hc=>?_))<;>(try simp (disch:=omega) only [zhb] at hc)<;>(try (exfalso;omega))<;>(try subst hc))|(with_reducible refine ji (by omega) ?_)|(simp (config := { maxSteps := 400000 }) only [↓jt,↓reduceIte,zvs,reduceCtorEq,Nat.reduceEqDiff,Nat.reduceAdd,Nat.reduceLeDiff,Nat.reduceMul,Int.reduceBNe,Int.reduceBEq,Int.reduceEq,Int.reduceNe,Int.reduceLT,Int.reduceLE,Int.reduceGT,Int.reduceGE,Int.reduceNeg,Int.reduceToNat,Nat.reduceLT,Nat.reduceSub,tab,hdr,storeAt_go,isP_ptr,Try.results37,List.toList_toArray])|(simp (disch:=omega) only [ziw]))
          all_goals (try (exfalso; omega))
          first | (((try simp only [encPi,List.map_nil]); simp only [zrds]; (repeat' (first | exact rd_nil | exact Rd.refl _ _ (by first|rfl|assumption|(simp only [znl,znQ5];(first|done|fail))) | (refine And.intro ?_ ?_) | (refine rd_own (by (simp only [↓reduceIte,zlk,Nat.reduceEqDiff,reduceCtorEq]); exact rfl) ?_ ?_ ?_) | rfl | assumption | (simp only [znl,znQ5];(first|done|fail)) | (simp; done) | (simp; omega)))); done) | trace_state
theorem filter_snoc {l : List Pip} {q : Pip → Bool} {k : Nat} (hk : k < l.length) : (l.take (k + 1)).filter q = (l.take k).filter q ++ if q (l.getD k default) = true then [l.getD k default] else [] := by
  rw [take_snoc l k hk, List.filter_append]
  congr 1
  by_cases h : q (l.getD k default) = true
  · rw [if_pos h, List.filter_cons_of_pos h]; rfl
  · rw [if_neg h, List.filter_cons_of_neg h]; rfl
theorem rsweep_spec (m : Mach) (hm : MFit 20000 m) : Spec Try.prog 39 [encM m] (encM (sweepM m)) := by
  have hl := hm.pipes
  have hpR := hm.pipesR
  refine spec_ok Try.func39 rfl rfl (by kernel_rfl) (k := 1) rfl (by decide) ?_
  repeat' (first|(with_reducible first|refine yrl (by constructor) ?_|refine jk (fun M hM=>?_)|(refine hM _ ?_;clear hM M)|refine xb3 (by decide) ?_|refine yqa (by assumption) ?_ ?_|refine yqb (by assumption) ?_ ?_)|((with_reducible refine je ?_)<;>(first|rfl|assumption|(simp only [znl,znQ5];(first|done|fail))))|(with_reducible refine jf (by (simp only [↓reduceIte,zlk,Nat.reduceEqDiff,reduceCtorEq]);exact rfl) ?_)|((with_reducible first|refine jg (fun hc=>?_) (fun hc=>?_)|refine jh (fun hc=>?_) (fun hc=>?_))<;>(try simp (disch:=omega) only [zhb] at hc)<;>(try (exfalso;omega))<;>(try subst hc))|(with_reducible refine ji (by omega) ?_)|(simp (config := { maxSteps := 400000 }) only [↓jt,↓reduceIte,zvs,reduceCtorEq,Nat.reduceEqDiff,Nat.reduceAdd,Nat.reduceLeDiff,Nat.reduceMul,Int.reduceBNe,Int.reduceBEq,Int.reduceEq,Int.reduceNe,Int.reduceLT,Int.reduceLE,Int.reduceGT,Int.reduceGE,Int.reduceNeg,Int.reduceToNat,Nat.reduceLT,Nat.reduceSub,tab,Try.results39,List.toList_toArray])|(simp (disch:=omega) only [ziw]))
  refine ok_loop (fun k : Nat => ⟨slots [(1, .ptr 0 []), (2, .ptr 1 []), (3, .sl (some (2, [], 0)) ((m.pipes.take k).filter (endB m)).length), (10, encPis m.pipes), (11, .int .i64 m.pipes.length), (12, .int .i64 k)], rows [(0, .row machSh (encM m)), (1, .row machSh nilPV), (2, .row (.arr ((m.pipes.take k).filter (endB m)).length piSh) (.agg (((m.pipes.take k).filter (endB m)).map encPi)))], 3⟩) (fun k => k ≤ m.pipes.length) (fun k => m.pipes.length - k) 0 ?_ (Nat.zero_le _) (fun k hk => ?_)
  · (refine yrn [(0, 0), (1, 1), (2, 2)] false ?_ ?_<;>(repeat' (first|(with_reducible first|exact ya1|exact ya2|exact ya3|refine jx rfl (by first|rfl|assumption|(simp only [znl,znQ5];(first|done|fail)))|exact ya5|exact ya7|exact jy|exact jz|refine jA ?_|refine ya9 ?_ ?_ ?_|refine jC rfl (by first|rfl|assumption|(simp only [znl,znQ5];(first|done|fail)))|refine MR.agg (MRL.cons ?_ ?_)|refine MR.fn ?_|refine MRL.cons ?_ ?_|exact MRL.nil|refine jE ?_ ?_|exact jF|exact jG|refine yb1 ?_ ?_|refine MB.row ?_|refine jI ?_ ?_|exact ya8|refine jJ rfl (by first|rfl|assumption|(simp only [znl,znQ5];(first|done|fail)))|refine yb2 ?_|rfl)|(simp only [znl,znQ5];(first|done|fail))|(simp only [↓reduceIte,zlk,Nat.reduceEqDiff,reduceCtorEq])|(with_reducible first|refine jJ ?_ ?_|refine ya5 ?_|refine ju ?_|refine jv ?_|refine jw ?_|refine jx ?_ (by first|rfl|assumption|(simp only [znl,znQ5];(first|done|fail)))|refine jC ?_ (by first|rfl|assumption|(simp only [znl,znQ5];(first|done|fail)))))))
    all_goals (first | rfl | trace_state)
  have hfl : ((m.pipes.take k).filter (endB m)).length ≤ k := by
    have := List.length_filter_le (endB m) (m.pipes.take k)
    rw [List.length_take] at this
    omega
  by_cases hlt : k < m.pipes.length
  · obtain ⟨⟨p1, p2⟩, p3⟩ := hpR _ (getD_mem' hlt)
    have e := filter_snoc (q := endB m) hlt
    have hE := rends_spec m hm (m.pipes.getD k default).id ⟨p1, p2⟩
    have hU : ∀ q, endsN m.pr q (m.pipes.getD k default).id ≤ 160000 := fun q => by
      have := endsN_le q (m.pipes.getD k default).id m.pr fun p hp => (hm.prR p hp).fds
      have := hm.pr
      omega
    have hU4 := hU 4
    have hU5 := hU 5
    have hB : endB m (m.pipes.getD k default) = decide (0 < endsN m.pr 4 (m.pipes.getD k default).id + endsN m.pr 5 (m.pipes.getD k default).id) := rfl
    generalize endsN m.pr 4 (m.pipes.getD k default).id = f4 at hE hU4 hB
    generalize endsN m.pr 5 (m.pipes.getD k default).id = f5 at hE hU5 hB
    rw [hB] at e
    generalize (m.pipes.take k).filter (endB m) = w at hfl e
    by_cases hq : 0 < f4 + f5
    · rw [decide_eq_true hq, if_pos rfl] at e
      repeat' (first|(with_reducible first|refine yrl (by constructor) ?_|refine jk (fun M hM=>?_)|(refine hM _ ?_;clear hM M)|refine xb3 (by decide) ?_|refine yqa (by assumption) ?_ ?_|refine yqb (by assumption) ?_ ?_)|((with_reducible refine je ?_)<;>(first|rfl|assumption|(simp only [znl,znQ5];(first|done|fail))))|(with_reducible refine jf (by (simp only [↓reduceIte,zlk,Nat.reduceEqDiff,reduceCtorEq]);exact rfl) ?_)|((with_reducible first|refine jg (fun hc=>?_) (fun hc=>?_)|refine jh (fun hc=>?_) (fun hc=>?_))<;>(try simp (disch:=omega) only [zhb] at hc)<;>(try (exfalso;omega))<;>(try subst hc))|(with_reducible refine ji (by omega) ?_)|(simp (config := { maxSteps := 400000 }) only [↓jt,↓reduceIte,zvs,reduceCtorEq,Nat.reduceEqDiff,Nat.reduceAdd,Nat.reduceLeDiff,Nat.reduceMul,Int.reduceBNe,Int.reduceBEq,Int.reduceEq,Int.reduceNe,Int.reduceLT,Int.reduceLE,Int.reduceGT,Int.reduceGE,Int.reduceNeg,Int.reduceToNat,Nat.reduceLT,Nat.reduceSub,tab,encPi,Try.results39,List.toList_toArray])|(simp (disch:=omega) only [ziw]))
      all_goals first
        | (exfalso; omega)
        | (refine xl1 (k + 1) ?_ (by show k + 1 ≤ m.pipes.length; omega) (by show m.pipes.length - (k + 1) < m.pipes.length - k; omega); (refine yrn [(0, 0), (1, 1), (2, 5)] false ?_ ?_<;>(repeat' (first|(with_reducible first|exact ya1|exact ya2|exact ya3|refine jx rfl (by first|rfl|assumption|(simp only [znl,znQ5];(first|done|fail)))|exact ya5|exact ya7|exact jy|exact jz|refine jA ?_|refine ya9 ?_ ?_ ?_|refine jC rfl (by first|rfl|assumption|(simp only [znl,znQ5];(first|done|fail)))|refine MR.agg (MRL.cons ?_ ?_)|refine MR.fn ?_|refine MRL.cons ?_ ?_|exact MRL.nil|refine jE ?_ ?_|exact jF|exact jG|refine yb1 ?_ ?_|refine MB.row ?_|refine jI ?_ ?_|exact ya8|refine jJ rfl (by first|rfl|assumption|(simp only [znl,znQ5];(first|done|fail)))|refine yb2 ?_|rfl)|(simp only [znl,znQ5];(first|done|fail))|(simp only [↓reduceIte,zlk,Nat.reduceEqDiff,reduceCtorEq])|(with_reducible first|refine jJ ?_ ?_|refine ya5 ?_|refine ju ?_|refine jv ?_|refine jw ?_|refine jx ?_ (by first|rfl|assumption|(simp only [znl,znQ5];(first|done|fail)))|refine jC ?_ (by first|rfl|assumption|(simp only [znl,znQ5];(first|done|fail))))))); all_goals (first | rfl | (rw [e, List.map_append]; rfl) | (rw [e]; simp; done) | trace_state))
        | trace_state
    · rw [decide_eq_false hq, if_neg (by simp), List.append_nil] at e
      repeat' (first|(with_reducible first|refine yrl (by constructor) ?_|refine jk (fun M hM=>?_)|(refine hM _ ?_;clear hM M)|refine xb3 (by decide) ?_|refine yqa (by assumption) ?_ ?_|refine yqb (by assumption) ?_ ?_)|((with_reducible refine je ?_)<;>(first|rfl|assumption|(simp only [znl,znQ5];(first|done|fail))))|(with_reducible refine jf (by (simp only [↓reduceIte,zlk,Nat.reduceEqDiff,reduceCtorEq]);exact rfl) ?_)|((with_reducible first|refine jg (fun hc=>?_) (fun hc=>?_)|refine jh (fun hc=>?_) (fun hc=>?_))<;>(try simp (disch:=omega) only [zhb] at hc)<;>(try (exfalso;omega))<;>(try subst hc))|(with_reducible refine ji (by omega) ?_)|(simp (config := { maxSteps := 400000 }) only [↓jt,↓reduceIte,zvs,reduceCtorEq,Nat.reduceEqDiff,Nat.reduceAdd,Nat.reduceLeDiff,Nat.reduceMul,Int.reduceBNe,Int.reduceBEq,Int.reduceEq,Int.reduceNe,Int.reduceLT,Int.reduceLE,Int.reduceGT,Int.reduceGE,Int.reduceNeg,Int.reduceToNat,Nat.reduceLT,Nat.reduceSub,tab,encPi,Try.results39,List.toList_toArray])|(simp (disch:=omega) only [ziw]))
      all_goals first
        | (exfalso; omega)
        | (refine xl1 (k + 1) ?_ (by show k + 1 ≤ m.pipes.length; omega) (by show m.pipes.length - (k + 1) < m.pipes.length - k; omega); (refine yrn [(0, 0), (1, 1), (2, 2)] false ?_ ?_<;>(repeat' (first|(with_reducible first|exact ya1|exact ya2|exact ya3|refine jx rfl (by first|rfl|assumption|(simp only [znl,znQ5];(first|done|fail)))|exact ya5|exact ya7|exact jy|exact jz|refine jA ?_|refine ya9 ?_ ?_ ?_|refine jC rfl (by first|rfl|assumption|(simp only [znl,znQ5];(first|done|fail)))|refine MR.agg (MRL.cons ?_ ?_)|refine MR.fn ?_|refine MRL.cons ?_ ?_|exact MRL.nil|refine jE ?_ ?_|exact jF|exact jG|refine yb1 ?_ ?_|refine MB.row ?_|refine jI ?_ ?_|exact ya8|refine jJ rfl (by first|rfl|assumption|(simp only [znl,znQ5];(first|done|fail)))|refine yb2 ?_|rfl)|(simp only [znl,znQ5];(first|done|fail))|(simp only [↓reduceIte,zlk,Nat.reduceEqDiff,reduceCtorEq])|(with_reducible first|refine jJ ?_ ?_|refine ya5 ?_|refine ju ?_|refine jv ?_|refine jw ?_|refine jx ?_ (by first|rfl|assumption|(simp only [znl,znQ5];(first|done|fail)))|refine jC ?_ (by first|rfl|assumption|(simp only [znl,znQ5];(first|done|fail))))))); all_goals (first | rfl | (rw [e]; done) | trace_state))
        | trace_state
  · obtain rfl : k = m.pipes.length := by omega
    rw [List.take_length] at hfl ⊢
    repeat' (first|(with_reducible first|refine yrl (by constructor) ?_|refine jk (fun M hM=>?_)|(refine hM _ ?_;clear hM M)|refine xb3 (by decide) ?_|refine yqa (by assumption) ?_ ?_|refine yqb (by assumption) ?_ ?_)|((with_reducible refine je ?_)<;>(first|rfl|assumption|(simp only [znl,znQ5];(first|done|fail))))|(with_reducible refine jf (by (simp only [↓reduceIte,zlk,Nat.reduceEqDiff,reduceCtorEq]);exact rfl) ?_)|((with_reducible first|refine jg (fun hc=>?_) (fun hc=>?_)|refine jh (fun hc=>?_) (fun hc=>?_))<;>(try simp (disch:=omega) only [zhb] at hc)<;>(try (exfalso;omega))<;>(try subst hc))|(with_reducible refine ji (by omega) ?_)|(simp (config := { maxSteps := 400000 }) only [↓jt,↓reduceIte,zvs,reduceCtorEq,Nat.reduceEqDiff,Nat.reduceAdd,Nat.reduceLeDiff,Nat.reduceMul,Int.reduceBNe,Int.reduceBEq,Int.reduceEq,Int.reduceNe,Int.reduceLT,Int.reduceLE,Int.reduceGT,Int.reduceGE,Int.reduceNeg,Int.reduceToNat,Nat.reduceLT,Nat.reduceSub,tab,Try.results39,List.toList_toArray])|(simp (disch:=omega) only [ziw]))
    all_goals (try (exfalso; omega))
    ((try simp only [sweepM,pipM,List.map_nil]); simp only [zrds]; (repeat' (first | exact rd_nil | exact Rd.refl _ _ (by first|rfl|assumption|(simp only [znl,znQ5];(first|done|fail))) | (refine And.intro ?_ ?_) | (refine rd_own (by (simp only [↓reduceIte,zlk,Nat.reduceEqDiff,reduceCtorEq]); exact rfl) ?_ ?_ ?_) | rfl | assumption | (simp only [znl,znQ5];(first|done|fail)) | (simp; done) | (simp; omega))))
end Go.Proofs.Ytlgldkjjbbbapaa.V
end
section
/-
  PIPES, by the program: what nobody holds goes.
-/
set_option linter.unusedVariables false
set_option linter.unusedSimpArgs false
namespace Go.Proofs.Ytlgldkjjbbbapaa.V
open Go
set_option maxRecDepth 100000
set_option linter.defProp false in
def znQ6 := And.intro @jO <| And.intro @jP <| And.intro @jQ <| And.intro @jR <| And.intro @jS <| And.intro @jT <| And.intro @jU <| True.intro
set_option maxHeartbeats 8000000
def sweepI (m : Mach) (j : Nat) : List Pip := (m.pipes.take j).filter (endB m)
theorem take_snoc' {l : List Pip} {j : Nat} (h : j < l.length) : l.take (j + 1) = l.take j ++ [l.getD j default] := by
  rw [List.take_add_one, List.getD_eq_getElem?_getD, List.getElem?_eq_getElem h]; rfl
theorem sweepI_keep {m : Mach} {j : Nat} (h : j < m.pipes.length) (hk : endB m (m.pipes.getD j default) = true) : sweepI m (j + 1) = sweepI m j ++ [m.pipes.getD j default] := by
  unfold sweepI
  rw [take_snoc' h, List.filter_append, List.filter_cons_of_pos hk, List.filter_nil]
theorem sweepI_drop {m : Mach} {j : Nat} (h : j < m.pipes.length) (hk : endB m (m.pipes.getD j default) = false) : sweepI m (j + 1) = sweepI m j := by
  unfold sweepI
  rw [take_snoc' h, List.filter_append, List.filter_cons_of_neg (by rw [hk]; decide), List.filter_nil, List.append_nil]
theorem sweepI_len (m : Mach) (j : Nat) : (sweepI m j).length ≤ j := by
  refine Nat.le_trans (List.length_filter_le _ _) ?_
  rw [List.length_take]; omega
theorem sweepI_all (m : Mach) (k : Nat) (hk : k ≤ m.pipes.length) (h : ∀ j, j < k → endB m (m.pipes.getD j default) = true) : sweepI m k = m.pipes.take k := by
  unfold sweepI
  refine List.filter_eq_self.2 fun p hp => ?_
  obtain ⟨j, hj, rfl⟩ := List.mem_iff_getElem.1 hp
  rw [List.length_take] at hj
  have := h j (by omega)
  rw [List.getD_eq_getElem?_getD, List.getElem?_eq_getElem (by omega)] at this
  rw [List.getElem_take]; exact this
structure Swp (m : Mach) (j : Nat) (X : List Pip) : Prop where
  len : X.length = m.pipes.length
  tk : X.take (sweepI m j).length = sweepI m j
  dr : X.drop j = m.pipes.drop j
theorem Swp.at {m : Mach} {j : Nat} {X : List Pip} (h : Swp m j X) (hj : j < m.pipes.length) : X.getD j default = m.pipes.getD j default := by
  have e := h.dr
  have h1 : (X.drop j)[0]? = (m.pipes.drop j)[0]? := by rw [e]
  rw [List.getElem?_drop, List.getElem?_drop, Nat.add_zero] at h1
  rw [List.getD_eq_getElem?_getD, List.getD_eq_getElem?_getD, h1]
theorem Swp.next {m : Mach} {j : Nat} {X : List Pip} (h : Swp m j X) (hj : j < m.pipes.length) (hk : endB m (m.pipes.getD j default) = false) : Swp m (j + 1) X := by
  refine ⟨h.len, by rw [sweepI_drop hj hk]; exact h.tk, ?_⟩
  rw [← List.drop_drop, ← List.drop_drop, h.dr]
theorem Swp.keep {m : Mach} {j : Nat} {X : List Pip} (h : Swp m j X) (hj : j < m.pipes.length) (hk : endB m (m.pipes.getD j default) = true) : Swp m (j + 1) (X.set (sweepI m j).length (m.pipes.getD j default)) := by
  have hl := sweepI_len m j
  have hx := h.len
  refine ⟨by rw [List.length_set]; exact h.len, ?_, ?_⟩
  · rw [sweepI_keep hj hk, List.length_append, List.length_singleton, take_snoc' (by rw [List.length_set]; omega), List.take_set_of_le (Nat.le_refl _), h.tk, List.getD_eq_getElem?_getD, List.getElem?_set_self (by omega)]
    rfl
  · rw [List.drop_set_of_lt (by omega), ← List.drop_drop, ← List.drop_drop, h.dr]
theorem Swp.start {m : Mach} {k : Nat} (hk : k < m.pipes.length) (h : ∀ j, j < k → endB m (m.pipes.getD j default) = true) (hq : endB m (m.pipes.getD k default) = false) : Swp m (k + 1) m.pipes ∧ (sweepI m (k + 1)).length = k := by
  have e : sweepI m (k + 1) = m.pipes.take k := by rw [sweepI_drop hk hq, sweepI_all m k (by omega) h]
  have el : (m.pipes.take k).length = k := by rw [List.length_take]; omega
  refine ⟨⟨rfl, by rw [e, el], rfl⟩, by rw [e, el]⟩
theorem Swp.fin {m : Mach} {X : List Pip} (h : Swp m m.pipes.length X) : X.take (sweepI m m.pipes.length).length = m.pipes.filter (endB m) := by
  rw [h.tk]; unfold sweepI; rw [List.take_length]
abbrev encMP (m : Mach) (ps : VV) : VV := .agg [.int .u64 m.clock, .int .i64 m.quantum, .int .i64 m.cur, .int .i64 m.left, encStrs m.fr, encPrs m.pr, .int .i64 m.next, .str m.init, ps, .int .i64 m.newp, .str m.inp, .bool m.fin, .int .u64 m.told, encDr m.dr, encWrs m.dirty]
abbrev nilMQ : VV := .agg [.int .u64 0, .int .i64 0, .int .i64 0, .int .i64 0, .sl none 0, .sl none 0, .int .i64 0, .str [], .sl none 0, .int .i64 0, .str [], .bool false, .int .u64 0, .agg [.sl none 0, .sl none 0, .int .i64 0], .sl none 0]
theorem swept_take {X F : List Pip} {Z D : List VV} (h : X.take F.length = F) : (List.take F.length (X.map encPi) ++ Z ++ D).take F.length = F.map encPi := by
  rw [← List.map_take, h, List.append_assoc, List.take_left' (List.length_map _)]
theorem rd_pre {H : Heap} {m k : Nat} {e : Sh} {els els' : List VV} {n : Nat} (h : H m = some (.row (.arr k e) (.agg els))) (hn : n ≤ els.length) (he : els.take n = els') (hl : nls els' = true) : Rd H (.sl (some (m, [], 0)) n) (.dat e els') := by
  subst he
  simp only [Rd]
  exact ⟨_, _, k, e, els, h, rfl, rfl, by omega, by simpa using hl, by simp⟩
theorem ssweep_spec (m : Mach) (hm : MFit 20000 m) : Spec Try.prog 38 [encM m] (encM (sweepM m)) := by
  have hA := list_str m.fr hm.fr
  have hB := list_pr m.pr hm.pr
  have hD := own_drive m.dr hm.bl hm.pe
  have hE := list_wr m.dirty hm.dirty
  have hl := hm.pipes
  have hpR := hm.pipesR
  obtain ⟨n, hn⟩ : ∃ n, n = m.pipes.length := ⟨_, rfl⟩
  refine spec_ok Try.func38 rfl rfl (by kernel_rfl) (k := 1) rfl (by decide) ?_
  repeat' (first|(with_reducible first|refine yrl (by constructor) ?_|refine jk (fun M hM=>?_)|(refine hM _ ?_;clear hM M)|refine xb3 (by decide) ?_|refine yqa (by assumption) ?_ ?_|refine yqb (by assumption) ?_ ?_)|((with_reducible refine je ?_)<;>(first|rfl|assumption|(simp only [znl,znQ6];(first|done|fail))))|(with_reducible refine jf (by (simp only [↓reduceIte,zlk,Nat.reduceEqDiff,reduceCtorEq]);exact rfl) ?_)|((with_reducible first|refine jg (fun hc=>?_) (fun hc=>?_)|refine jh (fun hc=>?_) (fun hc=>?_))<;>(try simp (disch:=omega) only [zhb] at hc)<;>(try (exfalso;omega))<;>(try subst hc))|(with_reducible refine ji (by omega) ?_)|(simp (config := { maxSteps := 400000 }) only [↓jt,↓reduceIte,zvs,reduceCtorEq,Nat.reduceEqDiff,Nat.reduceAdd,Nat.reduceLeDiff,Nat.reduceMul,Int.reduceBNe,Int.reduceBEq,Int.reduceEq,Int.reduceNe,Int.reduceLT,Int.reduceLE,Int.reduceGT,Int.reduceGE,Int.reduceNeg,Int.reduceToNat,Nat.reduceLT,Nat.reduceSub,tab,Try.results38,List.toList_toArray])|(simp (disch:=omega) only [ziw]))
  refine ja (ok_body Try.func45 rfl rfl (by kernel_rfl) (k := 1) (by rfl) (by decide) ?_)
  repeat' (first|(with_reducible first|refine yrl (by constructor) ?_|refine jk (fun M hM=>?_)|(refine hM _ ?_;clear hM M)|refine xb3 (by decide) ?_|refine yqa (by assumption) ?_ ?_|refine yqb (by assumption) ?_ ?_)|((with_reducible refine je ?_)<;>(first|rfl|assumption|(simp only [znl,znQ6];(first|done|fail))))|(with_reducible refine jf (by (simp only [↓reduceIte,zlk,Nat.reduceEqDiff,reduceCtorEq]);exact rfl) ?_)|((with_reducible first|refine jg (fun hc=>?_) (fun hc=>?_)|refine jh (fun hc=>?_) (fun hc=>?_))<;>(try simp (disch:=omega) only [zhb] at hc)<;>(try (exfalso;omega))<;>(try subst hc))|(with_reducible refine ji (by omega) ?_)|(simp (config := { maxSteps := 400000 }) only [↓jt,↓reduceIte,zvs,reduceCtorEq,Nat.reduceEqDiff,Nat.reduceAdd,Nat.reduceLeDiff,Nat.reduceMul,Int.reduceBNe,Int.reduceBEq,Int.reduceEq,Int.reduceNe,Int.reduceLT,Int.reduceLE,Int.reduceGT,Int.reduceGE,Int.reduceNeg,Int.reduceToNat,Nat.reduceLT,Nat.reduceSub,tab,Try.results45,List.toList_toArray])|(simp (disch:=omega) only [ziw]))
  refine ja (ok_body Try.func75 rfl rfl (by kernel_rfl) (k := 1) (by rfl) (by decide) ?_)
  repeat' (first|(with_reducible first|refine yrl (by constructor) ?_|refine jk (fun M hM=>?_)|(refine hM _ ?_;clear hM M)|refine xb3 (by decide) ?_|refine yqa (by assumption) ?_ ?_|refine yqb (by assumption) ?_ ?_)|((with_reducible refine je ?_)<;>(first|rfl|assumption|(simp only [znl,znQ6];(first|done|fail))))|(with_reducible refine jf (by (simp only [↓reduceIte,zlk,Nat.reduceEqDiff,reduceCtorEq]);exact rfl) ?_)|((with_reducible first|refine jg (fun hc=>?_) (fun hc=>?_)|refine jh (fun hc=>?_) (fun hc=>?_))<;>(try simp (disch:=omega) only [zhb] at hc)<;>(try (exfalso;omega))<;>(try subst hc))|(with_reducible refine ji (by omega) ?_)|(simp (config := { maxSteps := 400000 }) only [↓jt,↓reduceIte,zvs,reduceCtorEq,Nat.reduceEqDiff,Nat.reduceAdd,Nat.reduceLeDiff,Nat.reduceMul,Int.reduceBNe,Int.reduceBEq,Int.reduceEq,Int.reduceNe,Int.reduceLT,Int.reduceLE,Int.reduceGT,Int.reduceGE,Int.reduceNeg,Int.reduceToNat,Nat.reduceLT,Nat.reduceSub,tab,Try.results75, Try.results45, Try.results38, List.toList_toArray])|(simp (disch:=omega) only [ziw]))
  all_goals (try (exfalso; omega))
  refine ja (ok_body Try.func68 rfl rfl (by kernel_rfl) (k := 2) (by rfl) (by decide) ?_)
  repeat' (first|(with_reducible first|refine yrl (by constructor) ?_|refine jk (fun M hM=>?_)|(refine hM _ ?_;clear hM M)|refine xb3 (by decide) ?_|refine yqa (by assumption) ?_ ?_|refine yqb (by assumption) ?_ ?_)|((with_reducible refine je ?_)<;>(first|rfl|assumption|(simp only [znl,znQ6];(first|done|fail))))|(with_reducible refine jf (by (simp only [↓reduceIte,zlk,Nat.reduceEqDiff,reduceCtorEq]);exact rfl) ?_)|((with_reducible first|refine jg (fun hc=>?_) (fun hc=>?_)|refine jh (fun hc=>?_) (fun hc=>?_))<;>(try simp (disch:=omega) only [zhb] at hc)<;>(try (exfalso;omega))<;>(try subst hc))|(with_reducible refine ji (by omega) ?_)|(simp (config := { maxSteps := 400000 }) only [↓jt,↓reduceIte,zvs,reduceCtorEq,Nat.reduceEqDiff,Nat.reduceAdd,Nat.reduceLeDiff,Nat.reduceMul,Int.reduceBNe,Int.reduceBEq,Int.reduceEq,Int.reduceNe,Int.reduceLT,Int.reduceLE,Int.reduceGT,Int.reduceGE,Int.reduceNeg,Int.reduceToNat,Nat.reduceLT,Nat.reduceSub,tab,Try.results68, List.toList_toArray])|(simp (disch:=omega) only [ziw]))
  all_goals (try (exfalso; omega))
  refine ja (ok_body Try.func99 rfl rfl (by kernel_rfl) (k := 2) (by rfl) (by decide) ?_)
  repeat' (first|(with_reducible first|refine yrl (by constructor) ?_|refine jk (fun M hM=>?_)|(refine hM _ ?_;clear hM M)|refine xb3 (by decide) ?_|refine yqa (by assumption) ?_ ?_|refine yqb (by assumption) ?_ ?_)|((with_reducible refine je ?_)<;>(first|rfl|assumption|(simp only [znl,znQ6];(first|done|fail))))|(with_reducible refine jf (by (simp only [↓reduceIte,zlk,Nat.reduceEqDiff,reduceCtorEq]);exact rfl) ?_)|((with_reducible first|refine jg (fun hc=>?_) (fun hc=>?_)|refine jh (fun hc=>?_) (fun hc=>?_))<;>(try simp (disch:=omega) only [zhb] at hc)<;>(try (exfalso;omega))<;>(try subst hc))|(with_reducible refine ji (by omega) ?_)|(simp (config := { maxSteps := 400000 }) only [↓jt,↓reduceIte,zvs,reduceCtorEq,Nat.reduceEqDiff,Nat.reduceAdd,Nat.reduceLeDiff,Nat.reduceMul,Int.reduceBNe,Int.reduceBEq,Int.reduceEq,Int.reduceNe,Int.reduceLT,Int.reduceLE,Int.reduceGT,Int.reduceGE,Int.reduceNeg,Int.reduceToNat,Nat.reduceLT,Nat.reduceSub,tab,Try.results99, List.toList_toArray])|(simp (disch:=omega) only [ziw]))
  refine ok_loop (fun k : Nat => ⟨slots [(0, .sl (some (4, [], 0)) n), (1, .fn 69 [.ptr 0 []]), (6, .sl (some (4, [], 0)) n), (7, .int .i64 n), (8, .int .i64 k)], rows [(0, .row machSh (encM m)), (1, .row machSh nilMQ), (4, .row (.arr n piSh) (.agg (m.pipes.map encPi))), (5, .row machSh (encMP m (.sl (some (4, [], 0)) n)))], 6⟩) (fun k => k ≤ n ∧ ∀ j, j < k → endB m (m.pipes.getD j default) = true) (fun k => n - k) 0 ?_ ⟨Nat.zero_le _, fun j hj => by omega⟩ (fun k hk => ?_)
  · (refine yrn [] false ?_ ?_<;>(repeat' (first|(with_reducible first|exact ya1|exact ya2|exact ya3|refine jx rfl (by first|rfl|assumption|(simp only [znl,znQ6];(first|done|fail)))|exact ya5|exact ya7|exact jy|exact jz|refine jA ?_|refine ya9 ?_ ?_ ?_|refine jC rfl (by first|rfl|assumption|(simp only [znl,znQ6];(first|done|fail)))|refine MR.agg (MRL.cons ?_ ?_)|refine MR.fn ?_|refine MRL.cons ?_ ?_|exact MRL.nil|refine jE ?_ ?_|exact jF|exact jG|refine yb1 ?_ ?_|refine MB.row ?_|refine jI ?_ ?_|exact ya8|refine jJ rfl (by first|rfl|assumption|(simp only [znl,znQ6];(first|done|fail)))|refine yb2 ?_|rfl)|(simp only [znl,znQ6];(first|done|fail))|(simp only [↓reduceIte,zlk,Nat.reduceEqDiff,reduceCtorEq])|(with_reducible first|refine jJ ?_ ?_|refine ya5 ?_|refine ju ?_|refine jv ?_|refine jw ?_|refine jx ?_ (by first|rfl|assumption|(simp only [znl,znQ6];(first|done|fail)))|refine jC ?_ (by first|rfl|assumption|(simp only [znl,znQ6];(first|done|fail)))))))
    all_goals (first | rfl | omega | (simp [hn]; done) | trace_state)
  obtain ⟨hk, hall⟩ := hk
  by_cases hlt : k < n
  · have hkm : k < m.pipes.length := by omega
    have hS := sends_spec m hm (m.pipes.getD k default).id (hpR _ (getD_mem' hkm)).1
    have ha := endsN_le 4 (m.pipes.getD k default).id m.pr fun p hp => (hm.prR p hp).fds
    have hb := endsN_le 5 (m.pipes.getD k default).id m.pr fun p hp => (hm.prR p hp).fds
    have hpl := hm.pr
    by_cases hq : endB m (m.pipes.getD k default) = true
    · have hq2 := hq
      unfold endB at hq2
      have hq2 := of_decide_eq_true hq2
      have hst : ∀ j, j < k + 1 → endB m (m.pipes.getD j default) = true := fun j hj => by
        by_cases e : j = k
        · rw [e]; exact hq
        · exact hall j (by omega)
      generalize endsN m.pr 4 (m.pipes.getD k default).id = a at hS hq2 ha
      generalize endsN m.pr 5 (m.pipes.getD k default).id = b at hS hq2 hb
      repeat' (first|(with_reducible first|refine yrl (by constructor) ?_|refine jk (fun M hM=>?_)|(refine hM _ ?_;clear hM M)|refine xb3 (by decide) ?_|refine yqa (by assumption) ?_ ?_|refine yqb (by assumption) ?_ ?_)|((with_reducible refine je ?_)<;>(first|rfl|assumption|(simp only [znl,znQ6];(first|done|fail))))|(with_reducible refine jf (by (simp only [↓reduceIte,zlk,Nat.reduceEqDiff,reduceCtorEq]);exact rfl) ?_)|((with_reducible first|refine jg (fun hc=>?_) (fun hc=>?_)|refine jh (fun hc=>?_) (fun hc=>?_))<;>(try simp (disch:=omega) only [zhb] at hc)<;>(try (exfalso;omega))<;>(try subst hc))|(with_reducible refine ji (by omega) ?_)|(simp (config := { maxSteps := 400000 }) only [↓jt,↓reduceIte,zvs,reduceCtorEq,Nat.reduceEqDiff,Nat.reduceAdd,Nat.reduceLeDiff,Nat.reduceMul,Int.reduceBNe,Int.reduceBEq,Int.reduceEq,Int.reduceNe,Int.reduceLT,Int.reduceLE,Int.reduceGT,Int.reduceGE,Int.reduceNeg,Int.reduceToNat,Nat.reduceLT,Nat.reduceSub,tab,encPi,Try.results99, List.toList_toArray])|(simp (disch:=omega) only [ziw]))
      refine ja (ok_body Try.func69 rfl rfl (by kernel_rfl) (k := 2) (by rfl) (by decide) ?_)
      repeat' (first|(with_reducible first|refine yrl (by constructor) ?_|refine jk (fun M hM=>?_)|(refine hM _ ?_;clear hM M)|refine xb3 (by decide) ?_|refine yqa (by assumption) ?_ ?_|refine yqb (by assumption) ?_ ?_)|((with_reducible refine je ?_)<;>(first|rfl|assumption|(simp only [znl,znQ6];(first|done|fail))))|(with_reducible refine jf (by (simp only [↓reduceIte,zlk,Nat.reduceEqDiff,reduceCtorEq]);exact rfl) ?_)|((with_reducible first|refine jg (fun hc=>?_) (fun hc=>?_)|refine jh (fun hc=>?_) (fun hc=>?_))<;>(try simp (disch:=omega) only [zhb] at hc)<;>(try (exfalso;omega))<;>(try subst hc))|(with_reducible refine ji (by omega) ?_)|(simp (config := { maxSteps := 400000 }) only [↓jt,↓reduceIte,zvs,reduceCtorEq,Nat.reduceEqDiff,Nat.reduceAdd,Nat.reduceLeDiff,Nat.reduceMul,Int.reduceBNe,Int.reduceBEq,Int.reduceEq,Int.reduceNe,Int.reduceLT,Int.reduceLE,Int.reduceGT,Int.reduceGE,Int.reduceNeg,Int.reduceToNat,Nat.reduceLT,Nat.reduceSub,tab,encPi,Try.results69,Try.results99, Try.results68, Try.results38, List.toList_toArray])|(simp (disch:=omega) only [ziw]))
      all_goals first
        | (exfalso; omega)
        | (refine xl1 (k + 1) ?_ ⟨by omega, hst⟩ (by show n - (k + 1) < n - k; omega); (refine yrn [] false ?_ ?_<;>(repeat' (first|(with_reducible first|exact ya1|exact ya2|exact ya3|refine jx rfl (by first|rfl|assumption|(simp only [znl,znQ6];(first|done|fail)))|exact ya5|exact ya7|exact jy|exact jz|refine jA ?_|refine ya9 ?_ ?_ ?_|refine jC rfl (by first|rfl|assumption|(simp only [znl,znQ6];(first|done|fail)))|refine MR.agg (MRL.cons ?_ ?_)|refine MR.fn ?_|refine MRL.cons ?_ ?_|exact MRL.nil|refine jE ?_ ?_|exact jF|exact jG|refine yb1 ?_ ?_|refine MB.row ?_|refine jI ?_ ?_|exact ya8|refine jJ rfl (by first|rfl|assumption|(simp only [znl,znQ6];(first|done|fail)))|refine yb2 ?_|rfl)|(simp only [znl,znQ6];(first|done|fail))|(simp only [↓reduceIte,zlk,Nat.reduceEqDiff,reduceCtorEq])|(with_reducible first|refine jJ ?_ ?_|refine ya5 ?_|refine ju ?_|refine jv ?_|refine jw ?_|refine jx ?_ (by first|rfl|assumption|(simp only [znl,znQ6];(first|done|fail)))|refine jC ?_ (by first|rfl|assumption|(simp only [znl,znQ6];(first|done|fail))))))); done)
        | trace_state
    · have hq1 : endB m (m.pipes.getD k default) = false := Bool.not_eq_true _ ▸ hq
      have hq2 := hq1
      unfold endB at hq2
      have hq2 := of_decide_eq_false hq2
      obtain ⟨hs0, hsl⟩ := Swp.start hkm hall hq1
      generalize endsN m.pr 4 (m.pipes.getD k default).id = a at hS hq2 ha
      generalize endsN m.pr 5 (m.pipes.getD k default).id = b at hS hq2 hb
      repeat' (first|(with_reducible first|refine yrl (by constructor) ?_|refine jk (fun M hM=>?_)|(refine hM _ ?_;clear hM M)|refine xb3 (by decide) ?_|refine yqa (by assumption) ?_ ?_|refine yqb (by assumption) ?_ ?_)|((with_reducible refine je ?_)<;>(first|rfl|assumption|(simp only [znl,znQ6];(first|done|fail))))|(with_reducible refine jf (by (simp only [↓reduceIte,zlk,Nat.reduceEqDiff,reduceCtorEq]);exact rfl) ?_)|((with_reducible first|refine jg (fun hc=>?_) (fun hc=>?_)|refine jh (fun hc=>?_) (fun hc=>?_))<;>(try simp (disch:=omega) only [zhb] at hc)<;>(try (exfalso;omega))<;>(try subst hc))|(with_reducible refine ji (by omega) ?_)|(simp (config := { maxSteps := 400000 }) only [↓jt,↓reduceIte,zvs,reduceCtorEq,Nat.reduceEqDiff,Nat.reduceAdd,Nat.reduceLeDiff,Nat.reduceMul,Int.reduceBNe,Int.reduceBEq,Int.reduceEq,Int.reduceNe,Int.reduceLT,Int.reduceLE,Int.reduceGT,Int.reduceGE,Int.reduceNeg,Int.reduceToNat,Nat.reduceLT,Nat.reduceSub,tab,encPi,Try.results99, List.toList_toArray])|(simp (disch:=omega) only [ziw]))
      refine ja (ok_body Try.func69 rfl rfl (by kernel_rfl) (k := 2) (by rfl) (by decide) ?_)
      repeat' (first|(with_reducible first|refine yrl (by constructor) ?_|refine jk (fun M hM=>?_)|(refine hM _ ?_;clear hM M)|refine xb3 (by decide) ?_|refine yqa (by assumption) ?_ ?_|refine yqb (by assumption) ?_ ?_)|((with_reducible refine je ?_)<;>(first|rfl|assumption|(simp only [znl,znQ6];(first|done|fail))))|(with_reducible refine jf (by (simp only [↓reduceIte,zlk,Nat.reduceEqDiff,reduceCtorEq]);exact rfl) ?_)|((with_reducible first|refine jg (fun hc=>?_) (fun hc=>?_)|refine jh (fun hc=>?_) (fun hc=>?_))<;>(try simp (disch:=omega) only [zhb] at hc)<;>(try (exfalso;omega))<;>(try subst hc))|(with_reducible refine ji (by omega) ?_)|(simp (config := { maxSteps := 400000 }) only [↓jt,↓reduceIte,zvs,reduceCtorEq,Nat.reduceEqDiff,Nat.reduceAdd,Nat.reduceLeDiff,Nat.reduceMul,Int.reduceBNe,Int.reduceBEq,Int.reduceEq,Int.reduceNe,Int.reduceLT,Int.reduceLE,Int.reduceGT,Int.reduceGE,Int.reduceNeg,Int.reduceToNat,Nat.reduceLT,Nat.reduceSub,tab,encPi,Try.results69,Try.results99, Try.results68, Try.results38, List.toList_toArray])|(simp (disch:=omega) only [ziw]))
      all_goals (try (exfalso; omega))
      refine ok_loop (fun x : Nat × List Pip => ⟨slots [(0, .sl (some (4, [], 0)) n), (1, .fn 69 [.ptr 0 []]), (5, .int .i64 (sweepI m x.1).length), (6, .int .i64 x.1)], rows [(0, .row machSh (encM m)), (1, .row machSh nilMQ), (4, .row (.arr n piSh) (.agg (x.2.map encPi))), (5, .row machSh (encMP m (.sl (some (4, [], 0)) n)))], 6⟩) (fun x => x.1 ≤ n ∧ Swp m x.1 x.2) (fun x => n - x.1) (k + 1, m.pipes) ?_ ⟨by show k + 1 ≤ n; omega, hs0⟩ (fun x hx => ?_)
      · (refine yrn [] false ?_ ?_<;>(repeat' (first|(with_reducible first|exact ya1|exact ya2|exact ya3|refine jx rfl (by first|rfl|assumption|(simp only [znl,znQ6];(first|done|fail)))|exact ya5|exact ya7|exact jy|exact jz|refine jA ?_|refine ya9 ?_ ?_ ?_|refine jC rfl (by first|rfl|assumption|(simp only [znl,znQ6];(first|done|fail)))|refine MR.agg (MRL.cons ?_ ?_)|refine MR.fn ?_|refine MRL.cons ?_ ?_|exact MRL.nil|refine jE ?_ ?_|exact jF|exact jG|refine yb1 ?_ ?_|refine MB.row ?_|refine jI ?_ ?_|exact ya8|refine jJ rfl (by first|rfl|assumption|(simp only [znl,znQ6];(first|done|fail)))|refine yb2 ?_|rfl)|(simp only [znl,znQ6];(first|done|fail))|(simp only [↓reduceIte,zlk,Nat.reduceEqDiff,reduceCtorEq])|(with_reducible first|refine jJ ?_ ?_|refine ya5 ?_|refine ju ?_|refine jv ?_|refine jw ?_|refine jx ?_ (by first|rfl|assumption|(simp only [znl,znQ6];(first|done|fail)))|refine jC ?_ (by first|rfl|assumption|(simp only [znl,znQ6];(first|done|fail)))))))
        all_goals (first | rfl | omega | (simp [hn]; done) | (dsimp only; omega) | trace_state)
      clear hall hq hq1 hq2 hs0 hsl hS ha hb
      obtain ⟨j, X⟩ := x
      obtain ⟨hj, hX⟩ := hx
      dsimp only at hj hX ⊢
      have hXl := hX.len
      rw [← hn] at hXl
      have hsl := sweepI_len m j
      by_cases hjl : j < n
      · have hjm : j < m.pipes.length := by omega
        have hS := sends_spec m hm (m.pipes.getD j default).id (hpR _ (getD_mem' hjm)).1
        have ha := endsN_le 4 (m.pipes.getD j default).id m.pr fun p hp => (hm.prR p hp).fds
        have hb := endsN_le 5 (m.pipes.getD j default).id m.pr fun p hp => (hm.prR p hp).fds
        have hat := hX.at hjm
        by_cases hq : endB m (m.pipes.getD j default) = true
        · have hq2 := hq
          unfold endB at hq2
          have hq2 := of_decide_eq_true hq2
          have hX' := hX.keep hjm hq
          have hi' : ((sweepI m (j + 1)).length : Int) = (sweepI m j).length + 1 := by rw [sweepI_keep hjm hq, List.length_append]; rfl
          generalize endsN m.pr 4 (m.pipes.getD j default).id = a at hS hq2 ha
          generalize endsN m.pr 5 (m.pipes.getD j default).id = b at hS hq2 hb
          generalize (sweepI m j).length = i at hsl hX' hi'
          repeat' (first|(with_reducible first|refine yrl (by constructor) ?_|refine jk (fun M hM=>?_)|(refine hM _ ?_;clear hM M)|refine xb3 (by decide) ?_|refine yqa (by assumption) ?_ ?_|refine yqb (by assumption) ?_ ?_)|((with_reducible refine je ?_)<;>(first|rfl|assumption|(simp only [znl,znQ6];(first|done|fail))))|(with_reducible refine jf (by (simp only [↓reduceIte,zlk,Nat.reduceEqDiff,reduceCtorEq]);exact rfl) ?_)|((with_reducible first|refine jg (fun hc=>?_) (fun hc=>?_)|refine jh (fun hc=>?_) (fun hc=>?_))<;>(try simp (disch:=omega) only [zhb] at hc)<;>(try (exfalso;omega))<;>(try subst hc))|(with_reducible refine ji (by omega) ?_)|(simp (config := { maxSteps := 400000 }) only [↓jt,↓reduceIte,zvs,reduceCtorEq,Nat.reduceEqDiff,Nat.reduceAdd,Nat.reduceLeDiff,Nat.reduceMul,Int.reduceBNe,Int.reduceBEq,Int.reduceEq,Int.reduceNe,Int.reduceLT,Int.reduceLE,Int.reduceGT,Int.reduceGE,Int.reduceNeg,Int.reduceToNat,Nat.reduceLT,Nat.reduceSub,tab,hat,hXl,encPi,Try.results68, List.toList_toArray])|(simp (disch:=omega) only [ziw]))
          refine ja (ok_body Try.func69 rfl rfl (by kernel_rfl) (k := 2) (by rfl) (by decide) ?_)
          repeat' (first|(with_reducible first|refine yrl (by constructor) ?_|refine jk (fun M hM=>?_)|(refine hM _ ?_;clear hM M)|refine xb3 (by decide) ?_|refine yqa (by assumption) ?_ ?_|refine yqb (by assumption) ?_ ?_)|((with_reducible refine je ?_)<;>(first|rfl|assumption|(simp only [znl,znQ6];(first|done|fail))))|(with_reducible refine jf (by (simp only [↓reduceIte,zlk,Nat.reduceEqDiff,reduceCtorEq]);exact rfl) ?_)|((with_reducible first|refine jg (fun hc=>?_) (fun hc=>?_)|refine jh (fun hc=>?_) (fun hc=>?_))<;>(try simp (disch:=omega) only [zhb] at hc)<;>(try (exfalso;omega))<;>(try subst hc))|(with_reducible refine ji (by omega) ?_)|(simp (config := { maxSteps := 400000 }) only [↓jt,↓reduceIte,zvs,reduceCtorEq,Nat.reduceEqDiff,Nat.reduceAdd,Nat.reduceLeDiff,Nat.reduceMul,Int.reduceBNe,Int.reduceBEq,Int.reduceEq,Int.reduceNe,Int.reduceLT,Int.reduceLE,Int.reduceGT,Int.reduceGE,Int.reduceNeg,Int.reduceToNat,Nat.reduceLT,Nat.reduceSub,tab,hat,hXl,encPi,Try.results69,Try.results68, Try.results38, List.toList_toArray])|(simp (disch:=omega) only [ziw]))
          all_goals first
            | (exfalso; omega)
            | (refine xl1 (j + 1, X.set i (m.pipes.getD j default)) ?_ ⟨by show j + 1 ≤ n; omega, hX'⟩ (by show n - (j + 1) < n - j; omega); (refine yrn [] false ?_ ?_<;>(repeat' (first|(with_reducible first|exact ya1|exact ya2|exact ya3|refine jx rfl (by first|rfl|assumption|(simp only [znl,znQ6];(first|done|fail)))|exact ya5|exact ya7|exact jy|exact jz|refine jA ?_|refine ya9 ?_ ?_ ?_|refine jC rfl (by first|rfl|assumption|(simp only [znl,znQ6];(first|done|fail)))|refine MR.agg (MRL.cons ?_ ?_)|refine MR.fn ?_|refine MRL.cons ?_ ?_|exact MRL.nil|refine jE ?_ ?_|exact jF|exact jG|refine yb1 ?_ ?_|refine MB.row ?_|refine jI ?_ ?_|exact ya8|refine jJ rfl (by first|rfl|assumption|(simp only [znl,znQ6];(first|done|fail)))|refine yb2 ?_|rfl)|(simp only [znl,znQ6];(first|done|fail))|(simp only [↓reduceIte,zlk,Nat.reduceEqDiff,reduceCtorEq])|(with_reducible first|refine jJ ?_ ?_|refine ya5 ?_|refine ju ?_|refine jv ?_|refine jw ?_|refine jx ?_ (by first|rfl|assumption|(simp only [znl,znQ6];(first|done|fail)))|refine jC ?_ (by first|rfl|assumption|(simp only [znl,znQ6];(first|done|fail))))))); all_goals (first | rfl | exact hi'.symm | (rw [List.map_set]; rfl) | trace_state))
            | trace_state
        · have hq1 : endB m (m.pipes.getD j default) = false := Bool.not_eq_true _ ▸ hq
          have hq2 := hq1
          unfold endB at hq2
          have hq2 := of_decide_eq_false hq2
          have hX' := hX.next hjm hq1
          have hi' : (sweepI m j).length = (sweepI m (j + 1)).length := by rw [sweepI_drop hjm hq1]
          generalize endsN m.pr 4 (m.pipes.getD j default).id = a at hS hq2 ha
          generalize endsN m.pr 5 (m.pipes.getD j default).id = b at hS hq2 hb
          repeat' (first|(with_reducible first|refine yrl (by constructor) ?_|refine jk (fun M hM=>?_)|(refine hM _ ?_;clear hM M)|refine xb3 (by decide) ?_|refine yqa (by assumption) ?_ ?_|refine yqb (by assumption) ?_ ?_)|((with_reducible refine je ?_)<;>(first|rfl|assumption|(simp only [znl,znQ6];(first|done|fail))))|(with_reducible refine jf (by (simp only [↓reduceIte,zlk,Nat.reduceEqDiff,reduceCtorEq]);exact rfl) ?_)|((with_reducible first|refine jg (fun hc=>?_) (fun hc=>?_)|refine jh (fun hc=>?_) (fun hc=>?_))<;>(try simp (disch:=omega) only [zhb] at hc)<;>(try (exfalso;omega))<;>(try subst hc))|(with_reducible refine ji (by omega) ?_)|(simp (config := { maxSteps := 400000 }) only [↓jt,↓reduceIte,zvs,reduceCtorEq,Nat.reduceEqDiff,Nat.reduceAdd,Nat.reduceLeDiff,Nat.reduceMul,Int.reduceBNe,Int.reduceBEq,Int.reduceEq,Int.reduceNe,Int.reduceLT,Int.reduceLE,Int.reduceGT,Int.reduceGE,Int.reduceNeg,Int.reduceToNat,Nat.reduceLT,Nat.reduceSub,tab,hat,hXl,encPi,Try.results68, List.toList_toArray])|(simp (disch:=omega) only [ziw]))
          refine ja (ok_body Try.func69 rfl rfl (by kernel_rfl) (k := 2) (by rfl) (by decide) ?_)
          repeat' (first|(with_reducible first|refine yrl (by constructor) ?_|refine jk (fun M hM=>?_)|(refine hM _ ?_;clear hM M)|refine xb3 (by decide) ?_|refine yqa (by assumption) ?_ ?_|refine yqb (by assumption) ?_ ?_)|((with_reducible refine je ?_)<;>(first|rfl|assumption|(simp only [znl,znQ6];(first|done|fail))))|(with_reducible refine jf (by (simp only [↓reduceIte,zlk,Nat.reduceEqDiff,reduceCtorEq]);exact rfl) ?_)|((with_reducible first|refine jg (fun hc=>?_) (fun hc=>?_)|refine jh (fun hc=>?_) (fun hc=>?_))<;>(try simp (disch:=omega) only [zhb] at hc)<;>(try (exfalso;omega))<;>(try subst hc))|(with_reducible refine ji (by omega) ?_)|(simp (config := { maxSteps := 400000 }) only [↓jt,↓reduceIte,zvs,reduceCtorEq,Nat.reduceEqDiff,Nat.reduceAdd,Nat.reduceLeDiff,Nat.reduceMul,Int.reduceBNe,Int.reduceBEq,Int.reduceEq,Int.reduceNe,Int.reduceLT,Int.reduceLE,Int.reduceGT,Int.reduceGE,Int.reduceNeg,Int.reduceToNat,Nat.reduceLT,Nat.reduceSub,tab,hat,hXl,encPi,Try.results69,Try.results68, Try.results38, List.toList_toArray])|(simp (disch:=omega) only [ziw]))
          all_goals first
            | (exfalso; omega)
            | (refine xl1 (j + 1, X) ?_ ⟨by show j + 1 ≤ n; omega, hX'⟩ (by show n - (j + 1) < n - j; omega); (refine yrn [] false ?_ ?_<;>(repeat' (first|(with_reducible first|exact ya1|exact ya2|exact ya3|refine jx rfl (by first|rfl|assumption|(simp only [znl,znQ6];(first|done|fail)))|exact ya5|exact ya7|exact jy|exact jz|refine jA ?_|refine ya9 ?_ ?_ ?_|refine jC rfl (by first|rfl|assumption|(simp only [znl,znQ6];(first|done|fail)))|refine MR.agg (MRL.cons ?_ ?_)|refine MR.fn ?_|refine MRL.cons ?_ ?_|exact MRL.nil|refine jE ?_ ?_|exact jF|exact jG|refine yb1 ?_ ?_|refine MB.row ?_|refine jI ?_ ?_|exact ya8|refine jJ rfl (by first|rfl|assumption|(simp only [znl,znQ6];(first|done|fail)))|refine yb2 ?_|rfl)|(simp only [znl,znQ6];(first|done|fail))|(simp only [↓reduceIte,zlk,Nat.reduceEqDiff,reduceCtorEq])|(with_reducible first|refine jJ ?_ ?_|refine ya5 ?_|refine ju ?_|refine jv ?_|refine jw ?_|refine jx ?_ (by first|rfl|assumption|(simp only [znl,znQ6];(first|done|fail)))|refine jC ?_ (by first|rfl|assumption|(simp only [znl,znQ6];(first|done|fail))))))); all_goals (first | rfl | (rw [hi']; done) | trace_state))
            | trace_state
      · obtain rfl : j = n := by omega
        have hfin : X.take (sweepI m j).length = m.pipes.filter (endB m) := by
          have := hX
          rw [hn] at this ⊢
          exact this.fin
        have hfl : (sweepI m j).length = (m.pipes.filter (endB m)).length := by unfold sweepI; rw [hn, List.take_length]
        rw [hfl] at hfin hsl ⊢
        generalize hF : m.pipes.filter (endB m) = F at hfin hsl
        repeat' (first|(with_reducible first|refine yrl (by constructor) ?_|refine jk (fun M hM=>?_)|(refine hM _ ?_;clear hM M)|refine xb3 (by decide) ?_|refine yqa (by assumption) ?_ ?_|refine yqb (by assumption) ?_ ?_)|((with_reducible refine je ?_)<;>(first|rfl|assumption|(simp only [znl,znQ6];(first|done|fail))))|(with_reducible refine jf (by (simp only [↓reduceIte,zlk,Nat.reduceEqDiff,reduceCtorEq]);exact rfl) ?_)|((with_reducible first|refine jg (fun hc=>?_) (fun hc=>?_)|refine jh (fun hc=>?_) (fun hc=>?_))<;>(try simp (disch:=omega) only [zhb] at hc)<;>(try (exfalso;omega))<;>(try subst hc))|(with_reducible refine ji (by omega) ?_)|(simp (config := { maxSteps := 400000 }) only [↓jt,↓reduceIte,zvs,reduceCtorEq,Nat.reduceEqDiff,Nat.reduceAdd,Nat.reduceLeDiff,Nat.reduceMul,Int.reduceBNe,Int.reduceBEq,Int.reduceEq,Int.reduceNe,Int.reduceLT,Int.reduceLE,Int.reduceGT,Int.reduceGE,Int.reduceNeg,Int.reduceToNat,Nat.reduceLT,Nat.reduceSub,tab,hXl,Try.results69,Try.results68, Try.results38, List.toList_toArray])|(simp (disch:=omega) only [ziw]))
        all_goals (try (exfalso; omega))
        have hsw := fun Z D => swept_take (Z := Z) (D := D) hfin
        ((try simp only [sweepM,pipM,hF,List.map_nil]); simp only [zrds]; (repeat' (first | exact rd_nil | exact Rd.refl _ _ (by first|rfl|assumption|(simp only [znl,znQ6];(first|done|fail))) | (refine And.intro ?_ ?_) | (refine rd_pre (by (simp only [↓reduceIte,zlk,Nat.reduceEqDiff,reduceCtorEq]); exact rfl) ?_ ?_ ?_) | rfl | assumption | (simp only [znl,znQ6];(first|done|fail)) | (simp; done) | (simp; omega))))
        all_goals first
          | exact hsw _ _
          | trace_state
  · obtain rfl : k = n := by omega
    have hF : m.pipes.filter (endB m) = m.pipes := by
      have := sweepI_all m k (by omega) hall
      unfold sweepI at this
      rw [hn, List.take_length] at this; exact this
    repeat' (first|(with_reducible first|refine yrl (by constructor) ?_|refine jk (fun M hM=>?_)|(refine hM _ ?_;clear hM M)|refine xb3 (by decide) ?_|refine yqa (by assumption) ?_ ?_|refine yqb (by assumption) ?_ ?_)|((with_reducible refine je ?_)<;>(first|rfl|assumption|(simp only [znl,znQ6];(first|done|fail))))|(with_reducible refine jf (by (simp only [↓reduceIte,zlk,Nat.reduceEqDiff,reduceCtorEq]);exact rfl) ?_)|((with_reducible first|refine jg (fun hc=>?_) (fun hc=>?_)|refine jh (fun hc=>?_) (fun hc=>?_))<;>(try simp (disch:=omega) only [zhb] at hc)<;>(try (exfalso;omega))<;>(try subst hc))|(with_reducible refine ji (by omega) ?_)|(simp (config := { maxSteps := 400000 }) only [↓jt,↓reduceIte,zvs,reduceCtorEq,Nat.reduceEqDiff,Nat.reduceAdd,Nat.reduceLeDiff,Nat.reduceMul,Int.reduceBNe,Int.reduceBEq,Int.reduceEq,Int.reduceNe,Int.reduceLT,Int.reduceLE,Int.reduceGT,Int.reduceGE,Int.reduceNeg,Int.reduceToNat,Nat.reduceLT,Nat.reduceSub,tab,Try.results99, Try.results69, Try.results68, Try.results38, List.toList_toArray])|(simp (disch:=omega) only [ziw]))
    all_goals first
      | (exfalso; omega)
      | (((try simp only [sweepM,pipM,hF,List.map_nil]); simp only [zrds]; (repeat' (first | exact rd_nil | exact Rd.refl _ _ (by first|rfl|assumption|(simp only [znl,znQ6];(first|done|fail))) | (refine And.intro ?_ ?_) | (refine rd_own (by (simp only [↓reduceIte,zlk,Nat.reduceEqDiff,reduceCtorEq]); exact rfl) ?_ ?_ ?_) | rfl | assumption | (simp only [znl,znQ6];(first|done|fail)) | (simp; done) | (simp; omega)))); done)
      | trace_state
end Go.Proofs.Ytlgldkjjbbbapaa.V
end
section
/-
  MACHINES, part 27: the program's own test of a volume's first blocks.
-/
set_option linter.unusedVariables false
set_option linter.unusedSimpArgs false
namespace Go.Proofs.Ytlgldkjjbbbapaa.V
open Go
set_option maxRecDepth 100000
set_option linter.defProp false in
def znNU := And.intro @jO <| And.intro @jP <| And.intro @jQ <| And.intro @jR <| And.intro @jS <| And.intro @jT <| And.intro @jU <| True.intro
set_option maxHeartbeats 4000000
theorem gplan_spec (b i : Int) (hb : 0 ≤ b ∧ b ≤ 1000000) (hi : 0 ≤ i ∧ i ≤ 1000000) : Spec Try.prog 119 [.int .i64 b, .int .i64 i] (planV (planG b i)) := by
  unfold planG
  have h6 : ∀ a : VV, List.replicate 6 a = [a, a, a, a, a, a] := fun _ => rfl
  by_cases h1 : b < 16 ∨ 223 < b ∨ i < 4 ∨ 64 < i
  · rw [if_pos h1]
    refine spec_ok Try.func119 rfl rfl (by kernel_rfl) (k := 2) rfl (by decide) ?_
    repeat' (first|(with_reducible first|refine yrl (by constructor) ?_|refine jk (fun M hM=>?_)|(refine hM _ ?_;clear hM M)|refine xb3 (by decide) ?_|refine yqa (by assumption) ?_ ?_|refine yqb (by assumption) ?_ ?_)|((with_reducible refine je ?_)<;>(first|rfl|assumption|(simp only [znl,znNU];(first|done|fail))))|(with_reducible refine jf (by (simp only [↓reduceIte,zlk,Nat.reduceEqDiff,reduceCtorEq]);exact rfl) ?_)|((with_reducible first|refine jg (fun hc=>?_) (fun hc=>?_)|refine jh (fun hc=>?_) (fun hc=>?_))<;>(try simp (disch:=omega) only [zhb] at hc)<;>(try (exfalso;omega))<;>(try subst hc))|(with_reducible refine ji (by omega) ?_)|(simp (config := { maxSteps := 400000 }) only [↓jt,↓reduceIte,zvs,reduceCtorEq,Nat.reduceEqDiff,Nat.reduceAdd,Nat.reduceLeDiff,Nat.reduceMul,Int.reduceBNe,Int.reduceBEq,Int.reduceEq,Int.reduceNe,Int.reduceLT,Int.reduceLE,Int.reduceGT,Int.reduceGE,Int.reduceNeg,Int.reduceToNat,Nat.reduceLT,Nat.reduceSub,tab,h6,Try.results119,List.toList_toArray])|(simp (disch:=omega) only [ziw]))
    all_goals first
      | (exfalso; omega)
      | (simp only [planV,geoV]; simp only [zrds]; done)
      | trace_state
  · rw [if_neg h1]
    by_cases h2 : b ≤ 3 + (i + 1) / 2
    · rw [if_pos h2]
      refine spec_ok Try.func119 rfl rfl (by kernel_rfl) (k := 2) rfl (by decide) ?_
      repeat' (first|(with_reducible first|refine yrl (by constructor) ?_|refine jk (fun M hM=>?_)|(refine hM _ ?_;clear hM M)|refine xb3 (by decide) ?_|refine yqa (by assumption) ?_ ?_|refine yqb (by assumption) ?_ ?_)|((with_reducible refine je ?_)<;>(first|rfl|assumption|(simp only [znl,znNU];(first|done|fail))))|(with_reducible refine jf (by (simp only [↓reduceIte,zlk,Nat.reduceEqDiff,reduceCtorEq]);exact rfl) ?_)|((with_reducible first|refine jg (fun hc=>?_) (fun hc=>?_)|refine jh (fun hc=>?_) (fun hc=>?_))<;>(try simp (disch:=omega) only [zhb] at hc)<;>(try (exfalso;omega))<;>(try subst hc))|(with_reducible refine ji (by omega) ?_)|(simp (config := { maxSteps := 400000 }) only [↓jt,↓reduceIte,zvs,reduceCtorEq,Nat.reduceEqDiff,Nat.reduceAdd,Nat.reduceLeDiff,Nat.reduceMul,Int.reduceBNe,Int.reduceBEq,Int.reduceEq,Int.reduceNe,Int.reduceLT,Int.reduceLE,Int.reduceGT,Int.reduceGE,Int.reduceNeg,Int.reduceToNat,Nat.reduceLT,Nat.reduceSub,tab,h6,Try.results119,List.toList_toArray])|(simp (disch:=omega) only [ziw]))
      all_goals first
        | (exfalso; omega)
        | (simp only [planV,geoV]; simp only [zrds]; done)
        | trace_state
    · rw [if_neg h2]
      refine spec_ok Try.func119 rfl rfl (by kernel_rfl) (k := 2) rfl (by decide) ?_
      repeat' (first|(with_reducible first|refine yrl (by constructor) ?_|refine jk (fun M hM=>?_)|(refine hM _ ?_;clear hM M)|refine xb3 (by decide) ?_|refine yqa (by assumption) ?_ ?_|refine yqb (by assumption) ?_ ?_)|((with_reducible refine je ?_)<;>(first|rfl|assumption|(simp only [znl,znNU];(first|done|fail))))|(with_reducible refine jf (by (simp only [↓reduceIte,zlk,Nat.reduceEqDiff,reduceCtorEq]);exact rfl) ?_)|((with_reducible first|refine jg (fun hc=>?_) (fun hc=>?_)|refine jh (fun hc=>?_) (fun hc=>?_))<;>(try simp (disch:=omega) only [zhb] at hc)<;>(try (exfalso;omega))<;>(try subst hc))|(with_reducible refine ji (by omega) ?_)|(simp (config := { maxSteps := 400000 }) only [↓jt,↓reduceIte,zvs,reduceCtorEq,Nat.reduceEqDiff,Nat.reduceAdd,Nat.reduceLeDiff,Nat.reduceMul,Int.reduceBNe,Int.reduceBEq,Int.reduceEq,Int.reduceNe,Int.reduceLT,Int.reduceLE,Int.reduceGT,Int.reduceGE,Int.reduceNeg,Int.reduceToNat,Nat.reduceLT,Nat.reduceSub,tab,h6,Try.results119,List.toList_toArray])|(simp (disch:=omega) only [ziw]))
      all_goals first
        | (exfalso; omega)
        | (simp only [planV,geoV]; simp only [zrds]; done)
        | trace_state
theorem gfirst_spec (g : Geo) (h1 : 0 ≤ g.bl ∧ g.bl < 1000) (h2 : 0 ≤ g.ino ∧ g.ino < 1000) : Spec Try.prog 121 [geoV g] (.str (headG g.bl g.ino)) := by
  obtain ⟨b, i, q, mp, tb, da⟩ := g
  dsimp only at h1 h2
  obtain ⟨b, rfl⟩ := Int.eq_ofNat_of_zero_le h1.1
  obtain ⟨i, rfl⟩ := Int.eq_ofNat_of_zero_le h2.1
  have hA : Spec Try.prog 130 [.int .u64 b, .int .i64 2] (.str (putLE b 2)) := num_put_spec b (by omega) 2
  have hB : Spec Try.prog 130 [.int .u64 i, .int .i64 2] (.str (putLE i 2)) := num_put_spec i (by omega) 2
  have hC : Spec Try.prog 27 [.str [0], .int .i64 120] (.str (List.replicate 120 0)) := by
    have hr := repeat_spec [0] 120 (by decide) (by decide)
    rw [show (List.replicate 120 [(0 : UInt8)]).flatten = List.replicate 120 0 from by decide] at hr
    exact hr
  have l1 := putLE_len b 2
  have l2 := putLE_len i 2
  have z120 : (128 : Int) - ((8 : Nat) : Int) = 120 := rfl
  simp only [geoV,headG,Int.toNat_natCast]
  refine spec_ok Try.func121 rfl rfl (by kernel_rfl) (k := 1) rfl (by decide) ?_
  repeat' (first|(with_reducible first|refine yrl (by constructor) ?_|refine jk (fun M hM=>?_)|(refine hM _ ?_;clear hM M)|refine xb3 (by decide) ?_|refine yqa (by assumption) ?_ ?_|refine yqb (by assumption) ?_ ?_)|((with_reducible refine je ?_)<;>(first|rfl|assumption|(simp only [znl,znNU];(first|done|fail))))|(with_reducible refine jf (by (simp only [↓reduceIte,zlk,Nat.reduceEqDiff,reduceCtorEq]);exact rfl) ?_)|((with_reducible first|refine jg (fun hc=>?_) (fun hc=>?_)|refine jh (fun hc=>?_) (fun hc=>?_))<;>(try simp (disch:=omega) only [zhb] at hc)<;>(try (exfalso;omega))<;>(try subst hc))|(with_reducible refine ji (by omega) ?_)|(simp (config := { maxSteps := 400000 }) only [↓jt,↓reduceIte,zvs,reduceCtorEq,Nat.reduceEqDiff,Nat.reduceAdd,Nat.reduceLeDiff,Nat.reduceMul,Int.reduceBNe,Int.reduceBEq,Int.reduceEq,Int.reduceNe,Int.reduceLT,Int.reduceLE,Int.reduceGT,Int.reduceGE,Int.reduceNeg,Int.reduceToNat,Nat.reduceLT,Nat.reduceSub,tab,l1,l2,Try.results121,List.toList_toArray])|(simp (disch:=omega) only [ziw]))
  refine ok_draw 10 (by kernel_rfl) (by decide +kernel) (by intro m hm; simp only [upd_ap,rows_cons,rows_nil]; (repeat (first | rfl | rw [if_neg (by omega)]))) (fun M hM => ?_); simp only [List.take_succ_cons,List.take_zero,List.drop_succ_cons,List.drop_zero]
  repeat' (first|(with_reducible first|refine yrl (by constructor) ?_|refine jk (fun M hM=>?_)|(refine hM _ ?_;clear hM M)|refine xb3 (by decide) ?_|refine yqa (by assumption) ?_ ?_|refine yqb (by assumption) ?_ ?_)|((with_reducible refine je ?_)<;>(first|rfl|assumption|(simp only [znl,znNU];(first|done|fail))))|(with_reducible refine jf (by (simp only [↓reduceIte,zlk,Nat.reduceEqDiff,reduceCtorEq]);exact rfl) ?_)|((with_reducible first|refine jg (fun hc=>?_) (fun hc=>?_)|refine jh (fun hc=>?_) (fun hc=>?_))<;>(try simp (disch:=omega) only [zhb] at hc)<;>(try (exfalso;omega))<;>(try subst hc))|(with_reducible refine ji (by omega) ?_)|(simp (config := { maxSteps := 400000 }) only [↓jt,↓reduceIte,zvs,reduceCtorEq,Nat.reduceEqDiff,Nat.reduceAdd,Nat.reduceLeDiff,Nat.reduceMul,Int.reduceBNe,Int.reduceBEq,Int.reduceEq,Int.reduceNe,Int.reduceLT,Int.reduceLE,Int.reduceGT,Int.reduceGE,Int.reduceNeg,Int.reduceToNat,Nat.reduceLT,Nat.reduceSub,tab,l1,l2,z120,Try.results121,List.toList_toArray])|(simp (disch:=omega) only [ziw]))
  all_goals first
    | (simp only [zrds]; done)
    | trace_state
theorem gbit_spec (v : Frames) (hv : 3 ≤ v.length ∧ v.length ≤ 20000) (hs : (v.getD 2 []).length = 128) (i : Nat) (hi : i < 1024) : Spec Try.prog 122 [encStrs v, .int .i64 i] (.bool (bitB (v.getD 2 []) i)) := by
  refine spec_ok Try.func122 rfl rfl (by kernel_rfl) (k := 2) rfl (by decide) ?_
  repeat' (first|(with_reducible first|refine yrl (by constructor) ?_|refine jk (fun M hM=>?_)|(refine hM _ ?_;clear hM M)|refine xb3 (by decide) ?_|refine yqa (by assumption) ?_ ?_|refine yqb (by assumption) ?_ ?_)|((with_reducible refine je ?_)<;>(first|rfl|assumption|(simp only [znl,znNU];(first|done|fail))))|(with_reducible refine jf (by (simp only [↓reduceIte,zlk,Nat.reduceEqDiff,reduceCtorEq]);exact rfl) ?_)|((with_reducible first|refine jg (fun hc=>?_) (fun hc=>?_)|refine jh (fun hc=>?_) (fun hc=>?_))<;>(try simp (disch:=omega) only [zhb] at hc)<;>(try (exfalso;omega))<;>(try subst hc))|(with_reducible refine ji (by omega) ?_)|(simp (config := { maxSteps := 400000 }) only [↓jt,↓reduceIte,zvs,reduceCtorEq,Nat.reduceEqDiff,Nat.reduceAdd,Nat.reduceLeDiff,Nat.reduceMul,Int.reduceBNe,Int.reduceBEq,Int.reduceEq,Int.reduceNe,Int.reduceLT,Int.reduceLE,Int.reduceGT,Int.reduceGE,Int.reduceNeg,Int.reduceToNat,Nat.reduceLT,Nat.reduceSub,tab,hs,Try.results122,List.toList_toArray])|(simp (disch:=omega) only [ziw]))
  unfold bitB
  simp only [zrds]
theorem head_le {v : List UInt8} {b i : Nat} (hv : v = headG b i) (hb : b < 65536) (hi : i < 65536) : getLE ((v.drop 4).take 2) = b ∧ getLE ((v.drop 6).take 2) = i := by
  subst hv
  have e1 : ((headG b i).drop 4).take 2 = putLE b 2 := by
    simp only [headG,Int.toNat_natCast]
    simp [putLE]
  have e2 : ((headG b i).drop 6).take 2 = putLE i 2 := by
    simp only [headG,Int.toNat_natCast]
    simp [putLE]
  have key : ∀ n : Nat, n < 65536 → getLE (putLE n 2) = n := fun n hn => by
    simp only [putLE,List.nil_append,List.cons_append,getLE,Nat.pow_zero,Nat.div_one,Nat.pow_one,Nat.mul_zero,Nat.add_zero,UInt8.toNat_ofNat']
    omega
  rw [e1, e2]
  exact ⟨key b hb, key i hi⟩
theorem gof_ok (v : Frames) (hv : v.length ≤ 20000) (hs : ∀ s ∈ v, s.length ≤ 20000) (h0 : volE v = 0) : ∃ g, Spec Try.prog 88 [encStrs v] (.tup [geoV g, .int .i64 0]) := by
  have h6 : ∀ a : VV, List.replicate 6 a = [a, a, a, a, a, a] := fun _ => rfl
  unfold volE at h0
  dsimp only at h0
  split at h0
  · omega
  rename_i h16
  split at h0
  · omega
  rename_i hAny
  have hA : ∀ s ∈ v, s.length = 128 := fun s h => by
    refine Decidable.byContradiction fun hc => hAny ?_
    rw [List.any_eq_true]
    exact ⟨s, h, decide_eq_true hc⟩
  split at h0
  · omega
  rename_i hp
  split at h0
  · rename_i hbits
    have hl0 : (v.getD 0 []).length = 128 := by
      have := hA _ (getD_mem' (show 0 < v.length by omega))
      rw [default_str] at this
      exact this
    have hl2 : (v.getD 2 []).length = 128 := by
      have := hA _ (getD_mem' (show 2 < v.length by omega))
      rw [default_str] at this
      exact this
    have hb6 : ((v.getD 0 []).drop 6 |>.take 2).length = 2 := by rw [List.length_take, List.length_drop]; omega
    have hb4 : ((v.getD 0 []).drop 4 |>.take 2).length = 2 := by rw [List.length_take, List.length_drop]; omega
    have hN6 := num_get_spec (((v.getD 0 []).drop 6).take 2) (by omega)
    have hN4 := num_get_spec (((v.getD 0 []).drop 4).take 2) (by omega)
    rw [show List.take 8 (((v.getD 0 []).drop 6).take 2) = ((v.getD 0 []).drop 6).take 2 from List.take_of_length_le (by omega)] at hN6
    rw [show List.take 8 (((v.getD 0 []).drop 4).take 2) = ((v.getD 0 []).drop 4).take 2 from List.take_of_length_le (by omega)] at hN4
    have hNl := getLE_lt (((v.getD 0 []).drop 6).take 2)
    rw [hb6] at hNl
    have hd : v.getD 0 [] = headG v.length (getLE (((v.getD 0 []).drop 6).take 2)) := Decidable.byContradiction fun hc => hp (.inr hc)
    have hpl : (planG v.length (getLE (((v.getD 0 []).drop 6).take 2))).2 = 0 := Decidable.byContradiction fun hc => hp (.inl hc)
    have hlen : v.length ≤ 223 ∧ 4 ≤ getLE (((v.getD 0 []).drop 6).take 2) ∧ getLE (((v.getD 0 []).drop 6).take 2) ≤ 64 ∧ planG v.length (getLE (((v.getD 0 []).drop 6).take 2)) = (⟨v.length, getLE (((v.getD 0 []).drop 6).take 2), 1, 2, 3, 3 + ((getLE (((v.getD 0 []).drop 6).take 2) : Int) + 1) / 2⟩, 0) := by
      unfold planG at hpl ⊢
      split at hpl
      · simp at hpl
      · split at hpl
        · simp at hpl
        · rename_i q1 q2
          rw [if_neg q1, if_neg q2]
          exact ⟨by omega, by omega, by omega, rfl⟩
    have h4 := (head_le hd (by omega) (by omega)).1
    rw [h4] at hN4
    generalize getLE (((v.getD 0 []).drop 6).take 2) = ino at hN6 hNl hd hlen hbits hpl
    obtain ⟨q1, q2, q3, hq⟩ := hlen
    rw [hq] at hbits
    have hP := gplan_spec v.length ino (by omega) (by omega)
    rw [hq] at hP
    simp only [planV,geoV] at hP
    have hH := gfirst_spec ⟨v.length, ino, 1, 2, 3, 3 + ((ino : Int) + 1) / 2⟩ (by dsimp only; omega) (by dsimp only; omega)
    simp only [geoV] at hH
    rw [← hd] at hH
    have hQ : ∀ k : Nat, k < 1024 → (!((decide ((k : Int) < 3 + ((ino : Int) + 1) / 2) && !bitB (v.getD 2 []) k) || (decide ((v.length : Int) ≤ k) && bitB (v.getD 2 []) k))) = true := fun k hk => (List.all_eq_true.1 hbits) k (List.mem_range.2 hk)
    clear hbits hq hpl hp hAny
    refine ⟨⟨v.length, ino, 1, 2, 3, 3 + ((ino : Int) + 1) / 2⟩, spec_ok Try.func88 rfl rfl (by kernel_rfl) (k := 1) rfl (by decide) ?_⟩
    repeat' (first|(with_reducible first|refine yrl (by constructor) ?_|refine jk (fun M hM=>?_)|(refine hM _ ?_;clear hM M)|refine xb3 (by decide) ?_|refine yqa (by assumption) ?_ ?_|refine yqb (by assumption) ?_ ?_)|((with_reducible refine je ?_)<;>(first|rfl|assumption|(simp only [znl,znNU];(first|done|fail))))|(with_reducible refine jf (by (simp only [↓reduceIte,zlk,Nat.reduceEqDiff,reduceCtorEq]);exact rfl) ?_)|((with_reducible first|refine jg (fun hc=>?_) (fun hc=>?_)|refine jh (fun hc=>?_) (fun hc=>?_))<;>(try simp (disch:=omega) only [zhb] at hc)<;>(try (exfalso;omega))<;>(try subst hc))|(with_reducible refine ji (by omega) ?_)|(simp (config := { maxSteps := 400000 }) only [↓jt,↓reduceIte,zvs,reduceCtorEq,Nat.reduceEqDiff,Nat.reduceAdd,Nat.reduceLeDiff,Nat.reduceMul,Int.reduceBNe,Int.reduceBEq,Int.reduceEq,Int.reduceNe,Int.reduceLT,Int.reduceLE,Int.reduceGT,Int.reduceGE,Int.reduceNeg,Int.reduceToNat,Nat.reduceLT,Nat.reduceSub,tab,h6,Try.results88,List.toList_toArray])|(simp (disch:=omega) only [ziw]))
    refine ok_loop (fun k : Nat => ⟨slots [(0, encStrs v), (2, .ptr 0 []), (10, encStrs v), (11, .int .i64 v.length), (12, .int .i64 k)], rows [(0, .row geoSh (.agg [.int .i64 0, .int .i64 0, .int .i64 0, .int .i64 0, .int .i64 0, .int .i64 0]))], 1⟩) (fun k => k ≤ v.length) (fun k => v.length - k) 0 ?_ (Nat.zero_le _) (fun k hk => ?_)
    · (refine yrn [(0, 0)] false ?_ ?_<;>(repeat' (first|(with_reducible first|exact ya1|exact ya2|exact ya3|refine jx rfl (by first|rfl|assumption|(simp only [znl,znNU];(first|done|fail)))|exact ya5|exact ya7|exact jy|exact jz|refine jA ?_|refine ya9 ?_ ?_ ?_|refine jC rfl (by first|rfl|assumption|(simp only [znl,znNU];(first|done|fail)))|refine MR.agg (MRL.cons ?_ ?_)|refine MR.fn ?_|refine MRL.cons ?_ ?_|exact MRL.nil|refine jE ?_ ?_|exact jF|exact jG|refine yb1 ?_ ?_|refine MB.row ?_|refine jI ?_ ?_|exact ya8|refine jJ rfl (by first|rfl|assumption|(simp only [znl,znNU];(first|done|fail)))|refine yb2 ?_|rfl)|(simp only [znl,znNU];(first|done|fail))|(simp only [↓reduceIte,zlk,Nat.reduceEqDiff,reduceCtorEq])|(with_reducible first|refine jJ ?_ ?_|refine ya5 ?_|refine ju ?_|refine jv ?_|refine jw ?_|refine jx ?_ (by first|rfl|assumption|(simp only [znl,znNU];(first|done|fail)))|refine jC ?_ (by first|rfl|assumption|(simp only [znl,znNU];(first|done|fail)))))))
      all_goals (first | rfl | trace_state)
    by_cases hlt : k < v.length
    · have hsk := hA _ (getD_mem' hlt)
      rw [default_str] at hsk
      repeat' (first|(with_reducible first|refine yrl (by constructor) ?_|refine jk (fun M hM=>?_)|(refine hM _ ?_;clear hM M)|refine xb3 (by decide) ?_|refine yqa (by assumption) ?_ ?_|refine yqb (by assumption) ?_ ?_)|((with_reducible refine je ?_)<;>(first|rfl|assumption|(simp only [znl,znNU];(first|done|fail))))|(with_reducible refine jf (by (simp only [↓reduceIte,zlk,Nat.reduceEqDiff,reduceCtorEq]);exact rfl) ?_)|((with_reducible first|refine jg (fun hc=>?_) (fun hc=>?_)|refine jh (fun hc=>?_) (fun hc=>?_))<;>(try simp (disch:=omega) only [zhb] at hc)<;>(try (exfalso;omega))<;>(try subst hc))|(with_reducible refine ji (by omega) ?_)|(simp (config := { maxSteps := 400000 }) only [↓jt,↓reduceIte,zvs,reduceCtorEq,Nat.reduceEqDiff,Nat.reduceAdd,Nat.reduceLeDiff,Nat.reduceMul,Int.reduceBNe,Int.reduceBEq,Int.reduceEq,Int.reduceNe,Int.reduceLT,Int.reduceLE,Int.reduceGT,Int.reduceGE,Int.reduceNeg,Int.reduceToNat,Nat.reduceLT,Nat.reduceSub,tab,h6,hsk,Try.results88,List.toList_toArray])|(simp (disch:=omega) only [ziw]))
      all_goals first
        | (exfalso; omega)
        | (refine xl1 (k + 1) ?_ (by show k + 1 ≤ v.length; omega) (by show v.length - (k + 1) < v.length - k; omega); (refine yrn [(0, 0)] false ?_ ?_<;>(repeat' (first|(with_reducible first|exact ya1|exact ya2|exact ya3|refine jx rfl (by first|rfl|assumption|(simp only [znl,znNU];(first|done|fail)))|exact ya5|exact ya7|exact jy|exact jz|refine jA ?_|refine ya9 ?_ ?_ ?_|refine jC rfl (by first|rfl|assumption|(simp only [znl,znNU];(first|done|fail)))|refine MR.agg (MRL.cons ?_ ?_)|refine MR.fn ?_|refine MRL.cons ?_ ?_|exact MRL.nil|refine jE ?_ ?_|exact jF|exact jG|refine yb1 ?_ ?_|refine MB.row ?_|refine jI ?_ ?_|exact ya8|refine jJ rfl (by first|rfl|assumption|(simp only [znl,znNU];(first|done|fail)))|refine yb2 ?_|rfl)|(simp only [znl,znNU];(first|done|fail))|(simp only [↓reduceIte,zlk,Nat.reduceEqDiff,reduceCtorEq])|(with_reducible first|refine jJ ?_ ?_|refine ya5 ?_|refine ju ?_|refine jv ?_|refine jw ?_|refine jx ?_ (by first|rfl|assumption|(simp only [znl,znNU];(first|done|fail)))|refine jC ?_ (by first|rfl|assumption|(simp only [znl,znNU];(first|done|fail))))))); done)
        | trace_state
    obtain rfl : k = v.length := by omega
    repeat' (first|(with_reducible first|refine yrl (by constructor) ?_|refine jk (fun M hM=>?_)|(refine hM _ ?_;clear hM M)|refine xb3 (by decide) ?_|refine yqa (by assumption) ?_ ?_|refine yqb (by assumption) ?_ ?_)|((with_reducible refine je ?_)<;>(first|rfl|assumption|(simp only [znl,znNU];(first|done|fail))))|(with_reducible refine jf (by (simp only [↓reduceIte,zlk,Nat.reduceEqDiff,reduceCtorEq]);exact rfl) ?_)|((with_reducible first|refine jg (fun hc=>?_) (fun hc=>?_)|refine jh (fun hc=>?_) (fun hc=>?_))<;>(try simp (disch:=omega) only [zhb] at hc)<;>(try (exfalso;omega))<;>(try subst hc))|(with_reducible refine ji (by omega) ?_)|(simp (config := { maxSteps := 400000 }) only [↓jt,↓reduceIte,zvs,reduceCtorEq,Nat.reduceEqDiff,Nat.reduceAdd,Nat.reduceLeDiff,Nat.reduceMul,Int.reduceBNe,Int.reduceBEq,Int.reduceEq,Int.reduceNe,Int.reduceLT,Int.reduceLE,Int.reduceGT,Int.reduceGE,Int.reduceNeg,Int.reduceToNat,Nat.reduceLT,Nat.reduceSub,tab,h6,hl0,Try.results88,List.toList_toArray])|(simp (disch:=omega) only [ziw]))
    all_goals (try (exfalso; omega))
    refine ok_drawF 19 [0, 1, 2, 3, 4, 5, 6, 7, 8, 9, 10, 11, 12, 13, 14, 15, 18, 16] 17 17 1089 (by kernel_rfl) (by decide +kernel) (by decide) (by decide) (by intro m hm; simp only [upd_ap,rows_cons,rows_nil]; (repeat (first | rfl | rw [if_neg (by omega)]))) (fun M hM => ?_); simp only [picks,List.getElem?_cons_succ,List.getElem?_cons_zero,List.drop_succ_cons,List.drop_zero]
    repeat' (first|(with_reducible first|refine yrl (by constructor) ?_|refine jk (fun M hM=>?_)|(refine hM _ ?_;clear hM M)|refine xb3 (by decide) ?_|refine yqa (by assumption) ?_ ?_|refine yqb (by assumption) ?_ ?_)|((with_reducible refine je ?_)<;>(first|rfl|assumption|(simp only [znl,znNU];(first|done|fail))))|(with_reducible refine jf (by (simp only [↓reduceIte,zlk,Nat.reduceEqDiff,reduceCtorEq]);exact rfl) ?_)|((with_reducible first|refine jg (fun hc=>?_) (fun hc=>?_)|refine jh (fun hc=>?_) (fun hc=>?_))<;>(try simp (disch:=omega) only [zhb] at hc)<;>(try (exfalso;omega))<;>(try subst hc))|(with_reducible refine ji (by omega) ?_)|(simp (config := { maxSteps := 400000 }) only [↓jt,↓reduceIte,zvs,reduceCtorEq,Nat.reduceEqDiff,Nat.reduceAdd,Nat.reduceLeDiff,Nat.reduceMul,Int.reduceBNe,Int.reduceBEq,Int.reduceEq,Int.reduceNe,Int.reduceLT,Int.reduceLE,Int.reduceGT,Int.reduceGE,Int.reduceNeg,Int.reduceToNat,Nat.reduceLT,Nat.reduceSub,tab,h6,hl0,storeAt_go,isP_ptr,Try.results88,List.toList_toArray])|(simp (disch:=omega) only [ziw]))
    refine ok_drawC 16 (by kernel_rfl) (by decide +kernel) (by intro m hm; simp only [upd_ap,rows_cons,rows_nil]; (repeat (first | rfl | rw [if_neg (by omega)]))) (fun M hM => ?_); simp only [List.take_succ_cons,List.take_zero,List.drop_succ_cons,List.drop_zero]
    repeat' (first|(with_reducible first|refine yrl (by constructor) ?_|refine jk (fun M hM=>?_)|(refine hM _ ?_;clear hM M)|refine xb3 (by decide) ?_|refine yqa (by assumption) ?_ ?_|refine yqb (by assumption) ?_ ?_)|((with_reducible refine je ?_)<;>(first|rfl|assumption|(simp only [znl,znNU];(first|done|fail))))|(with_reducible refine jf (by (simp only [↓reduceIte,zlk,Nat.reduceEqDiff,reduceCtorEq]);exact rfl) ?_)|((with_reducible first|refine jg (fun hc=>?_) (fun hc=>?_)|refine jh (fun hc=>?_) (fun hc=>?_))<;>(try simp (disch:=omega) only [zhb] at hc)<;>(try (exfalso;omega))<;>(try subst hc))|(with_reducible refine ji (by omega) ?_)|(simp (config := { maxSteps := 400000 }) only [↓jt,↓reduceIte,zvs,reduceCtorEq,Nat.reduceEqDiff,Nat.reduceAdd,Nat.reduceLeDiff,Nat.reduceMul,Int.reduceBNe,Int.reduceBEq,Int.reduceEq,Int.reduceNe,Int.reduceLT,Int.reduceLE,Int.reduceGT,Int.reduceGE,Int.reduceNeg,Int.reduceToNat,Nat.reduceLT,Nat.reduceSub,tab,h6,hl0,Try.results88,List.toList_toArray])|(simp (disch:=omega) only [ziw]))
    all_goals (try (exfalso; omega))
    refine ok_loop (fun k : Nat => ⟨slots [(0, encStrs v), (2, .ptr 0 []), (6, .ptr 1 []), (59, .int .i64 k)], rows [(0, .row geoSh (.agg [.int .i64 0, .int .i64 0, .int .i64 0, .int .i64 0, .int .i64 0, .int .i64 0])), (1, .row geoSh (.agg [.int .i64 v.length, .int .i64 ino, .int .i64 1, .int .i64 2, .int .i64 3, .int .i64 (3 + ((ino : Int) + 1) / 2)]))], 2⟩) (fun k => k ≤ 1024) (fun k => 1024 - k) 0 ?_ (Nat.zero_le _) (fun k hk => ?_)
    · (refine yrn [(0, 0), (1, 1089)] false ?_ ?_<;>(repeat' (first|(with_reducible first|exact ya1|exact ya2|exact ya3|refine jx rfl (by first|rfl|assumption|(simp only [znl,znNU];(first|done|fail)))|exact ya5|exact ya7|exact jy|exact jz|refine jA ?_|refine ya9 ?_ ?_ ?_|refine jC rfl (by first|rfl|assumption|(simp only [znl,znNU];(first|done|fail)))|refine MR.agg (MRL.cons ?_ ?_)|refine MR.fn ?_|refine MRL.cons ?_ ?_|exact MRL.nil|refine jE ?_ ?_|exact jF|exact jG|refine yb1 ?_ ?_|refine MB.row ?_|refine jI ?_ ?_|exact ya8|refine jJ rfl (by first|rfl|assumption|(simp only [znl,znNU];(first|done|fail)))|refine yb2 ?_|rfl)|(simp only [znl,znNU];(first|done|fail))|(simp only [↓reduceIte,zlk,Nat.reduceEqDiff,reduceCtorEq])|(with_reducible first|refine jJ ?_ ?_|refine ya5 ?_|refine ju ?_|refine jv ?_|refine jw ?_|refine jx ?_ (by first|rfl|assumption|(simp only [znl,znNU];(first|done|fail)))|refine jC ?_ (by first|rfl|assumption|(simp only [znl,znNU];(first|done|fail)))))))
      all_goals (first | rfl | trace_state)
    by_cases hlt : k < 1024
    · have hB := gbit_spec v (by omega) hl2 k hlt
      have hQk := hQ k hlt
      generalize bitB (v.getD 2 []) k = b at hB hQk
      have hb1 : b = false → ¬(k : Int) < 3 + ((ino : Int) + 1) / 2 := fun e h => by
        rw [e, decide_eq_true h] at hQk; cases hQk
      have hb2 : b = true → ¬(v.length : Int) ≤ k := fun e h => by
        rw [e, decide_eq_true h, Bool.not_true, Bool.and_false] at hQk; cases hQk
      cases b
      all_goals
        first | have hb1 := hb1 rfl | have hb2 := hb2 rfl
        repeat' (first|(with_reducible first|refine yrl (by constructor) ?_|refine jk (fun M hM=>?_)|(refine hM _ ?_;clear hM M)|refine xb3 (by decide) ?_|refine yqa (by assumption) ?_ ?_|refine yqb (by assumption) ?_ ?_)|((with_reducible refine je ?_)<;>(first|rfl|assumption|(simp only [znl,znNU];(first|done|fail))))|(with_reducible refine jf (by (simp only [↓reduceIte,zlk,Nat.reduceEqDiff,reduceCtorEq]);exact rfl) ?_)|((with_reducible first|refine jg (fun hc=>?_) (fun hc=>?_)|refine jh (fun hc=>?_) (fun hc=>?_))<;>(try simp (disch:=omega) only [zhb] at hc)<;>(try (exfalso;omega))<;>(try subst hc))|(with_reducible refine ji (by omega) ?_)|(simp (config := { maxSteps := 400000 }) only [↓jt,↓reduceIte,zvs,reduceCtorEq,Nat.reduceEqDiff,Nat.reduceAdd,Nat.reduceLeDiff,Nat.reduceMul,Int.reduceBNe,Int.reduceBEq,Int.reduceEq,Int.reduceNe,Int.reduceLT,Int.reduceLE,Int.reduceGT,Int.reduceGE,Int.reduceNeg,Int.reduceToNat,Nat.reduceLT,Nat.reduceSub,tab,h6,hl2,Try.results88,List.toList_toArray])|(simp (disch:=omega) only [ziw]))
        all_goals first
          | (exfalso; omega)
          | (refine xl1 (k + 1) ?_ (by show k + 1 ≤ 1024; omega) (by show 1024 - (k + 1) < 1024 - k; omega); (refine yrn [(0, 0), (1, 1)] false ?_ ?_<;>(repeat' (first|(with_reducible first|exact ya1|exact ya2|exact ya3|refine jx rfl (by first|rfl|assumption|(simp only [znl,znNU];(first|done|fail)))|exact ya5|exact ya7|exact jy|exact jz|refine jA ?_|refine ya9 ?_ ?_ ?_|refine jC rfl (by first|rfl|assumption|(simp only [znl,znNU];(first|done|fail)))|refine MR.agg (MRL.cons ?_ ?_)|refine MR.fn ?_|refine MRL.cons ?_ ?_|exact MRL.nil|refine jE ?_ ?_|exact jF|exact jG|refine yb1 ?_ ?_|refine MB.row ?_|refine jI ?_ ?_|exact ya8|refine jJ rfl (by first|rfl|assumption|(simp only [znl,znNU];(first|done|fail)))|refine yb2 ?_|rfl)|(simp only [znl,znNU];(first|done|fail))|(simp only [↓reduceIte,zlk,Nat.reduceEqDiff,reduceCtorEq])|(with_reducible first|refine jJ ?_ ?_|refine ya5 ?_|refine ju ?_|refine jv ?_|refine jw ?_|refine jx ?_ (by first|rfl|assumption|(simp only [znl,znNU];(first|done|fail)))|refine jC ?_ (by first|rfl|assumption|(simp only [znl,znNU];(first|done|fail))))))); done)
          | trace_state
    · obtain rfl : k = 1024 := by omega
      repeat' (first|(with_reducible first|refine yrl (by constructor) ?_|refine jk (fun M hM=>?_)|(refine hM _ ?_;clear hM M)|refine xb3 (by decide) ?_|refine yqa (by assumption) ?_ ?_|refine yqb (by assumption) ?_ ?_)|((with_reducible refine je ?_)<;>(first|rfl|assumption|(simp only [znl,znNU];(first|done|fail))))|(with_reducible refine jf (by (simp only [↓reduceIte,zlk,Nat.reduceEqDiff,reduceCtorEq]);exact rfl) ?_)|((with_reducible first|refine jg (fun hc=>?_) (fun hc=>?_)|refine jh (fun hc=>?_) (fun hc=>?_))<;>(try simp (disch:=omega) only [zhb] at hc)<;>(try (exfalso;omega))<;>(try subst hc))|(with_reducible refine ji (by omega) ?_)|(simp (config := { maxSteps := 400000 }) only [↓jt,↓reduceIte,zvs,reduceCtorEq,Nat.reduceEqDiff,Nat.reduceAdd,Nat.reduceLeDiff,Nat.reduceMul,Int.reduceBNe,Int.reduceBEq,Int.reduceEq,Int.reduceNe,Int.reduceLT,Int.reduceLE,Int.reduceGT,Int.reduceGE,Int.reduceNeg,Int.reduceToNat,Nat.reduceLT,Nat.reduceSub,tab,h6,hl2,Try.results88,List.toList_toArray])|(simp (disch:=omega) only [ziw]))
      all_goals first
        | (exfalso; omega)
        | (simp only [geoV]; simp only [zrds]; done)
        | trace_state
  · omega
end Go.Proofs.Ytlgldkjjbbbapaa.V
end
section
/-
  MMU, part 14: has no page a frame that another one has?
-/
set_option linter.unusedVariables false
set_option linter.unusedSimpArgs false
namespace Go.Proofs.Ytlgldkjjbbbapaa.V
open Go
set_option maxRecDepth 100000
-- nlx: jR, jV
set_option maxHeartbeats 1000000
def setM (L : List Int) : List (VV × VV) := L.foldl (fun es f => mput es (.int .i64 f) (.bool true)) []
theorem mget_mput : ∀ (es : List (VV × VV)) (f g : Int), mget (mput es (.int .i64 f) (.bool true)) (.int .i64 g) = if g = f then some (.bool true) else mget es (.int .i64 g)
  | [], f, g => by
    simp only [mput,mget,keq,beq_iff_eq]
  | (k, v) :: es, f, g => by
    simp only [mput]
    by_cases h : keq (.int .i64 f) k = true
    · rw [if_pos h]
      simp only [mget]
      cases k <;> simp [keq] at h
      subst h
      simp only [keq,beq_iff_eq]
      split <;> rfl
    · rw [if_neg h]
      simp only [mget,mget_mput es f g]
      by_cases h2 : keq (.int .i64 g) k = true
      · rw [if_pos h2, if_pos h2]
        by_cases e : g = f
        · subst e; exact absurd h2 h
        · rw [if_neg e]
      · rw [if_neg h2, if_neg h2]
theorem setM_snoc (L : List Int) (f : Int) : mput (setM L) (.int .i64 f) (.bool true) = setM (L ++ [f]) := by
  simp [setM, List.foldl_append]
theorem mget_setM (f : Int) : ∀ (L : List Int) (es : List (VV × VV)), mget (L.foldl (fun es f => mput es (.int .i64 f) (.bool true)) es) (.int .i64 f) = if f ∈ L then some (.bool true) else mget es (.int .i64 f)
  | [], es => by simp
  | g :: L, es => by
    simp only [List.foldl_cons,mget_setM f L,mget_mput,List.mem_cons]
    by_cases h : f ∈ L
    · simp [h]
    · simp [h]
theorem look_setM (L : List Int) (f : Int) : (mget (setM L) (.int .i64 f)).getD (.bool false) = .bool (decide (f ∈ L)) := by
  rw [setM, mget_setM]
  by_cases h : f ∈ L <;> simp [h, mget]
theorem mput_keys : ∀ (es : List (VV × VV)) (f : Int), (es.all fun q => keyV (.int .i64) q.1) = true → ((mput es (.int .i64 f) (.bool true)).all fun q => keyV (.int .i64) q.1) = true
  | [], f, _ => by simp [mput, keyV]
  | (k, v) :: es, f, h => by
    simp only [List.all_cons,Bool.and_eq_true] at h
    simp only [mput]
    split
    · simp only [List.all_cons,Bool.and_eq_true]; exact h
    · simp only [List.all_cons,Bool.and_eq_true]; exact ⟨h.1, mput_keys es f h.2⟩
theorem keys_setM (L : List Int) : ((setM L).all fun q => keyV (.int .i64) q.1) = true := by
  have key : ∀ (L : List Int) (es : List (VV × VV)), (es.all fun q => keyV (.int .i64) q.1) = true → ((L.foldl (fun es f => mput es (.int .i64 f) (.bool true)) es).all fun q => keyV (.int .i64) q.1) = true := by
    intro L
    induction L with
    | nil => intro es h; exact h
    | cons g L ih => intro es h; exact ih _ (mput_keys es g h)
  exact key L [] rfl
theorem jV (L : List Int) : ((setM L).all fun q => nl q.1 && nl q.2) = true := by
  have hp : ∀ (es : List (VV × VV)) (f : Int), (es.all fun q => nl q.1 && nl q.2) = true → ((mput es (.int .i64 f) (.bool true)).all fun q => nl q.1 && nl q.2) = true := by
    intro es f
    induction es with
    | nil => intro _; simp [mput, nl]
    | cons x es ih =>
      obtain ⟨k, v⟩ := x
      intro h
      simp only [List.all_cons,Bool.and_eq_true] at h
      simp only [mput]
      split
      · simp only [List.all_cons,Bool.and_eq_true]; exact ⟨⟨h.1.1, by simp [nl]⟩, h.2⟩
      · simp only [List.all_cons,Bool.and_eq_true]; exact ⟨h.1, ih h.2⟩
  have key : ∀ (L : List Int) (es : List (VV × VV)), (es.all fun q => nl q.1 && nl q.2) = true → ((L.foldl (fun es f => mput es (.int .i64 f) (.bool true)) es).all fun q => nl q.1 && nl q.2) = true := by
    intro L
    induction L with
    | nil => intro es h; exact h
    | cons g L ih => intro es h; exact ih _ (hp es g h)
  exact key L [] rfl
def own (s : List Pte) (k : Nat) : List Int := ((s.take k).filter (·.is)).map (·.fr)
theorem own_succ (s : List Pte) (k : Nat) (h : k < s.length) : own s (k + 1) = own s k ++ if (s.getD k default).is = true then [(s.getD k default).fr] else [] := by
  have e : s.take (k + 1) = s.take k ++ [s.getD k default] := by
    rw [List.take_add_one, List.getElem?_eq_getElem h, List.getD_eq_getElem?_getD, List.getElem?_eq_getElem h]; rfl
  unfold own
  rw [e, List.filter_append, List.map_append]
  congr 1
  by_cases h2 : (s.getD k default).is = true
  · rw [if_pos h2, List.filter_cons_of_pos h2]; rfl
  · rw [if_neg h2, List.filter_cons_of_neg h2]; rfl
end Go.Proofs.Ytlgldkjjbbbapaa.V
end
