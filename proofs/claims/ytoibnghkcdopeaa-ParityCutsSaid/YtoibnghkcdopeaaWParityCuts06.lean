/-
  Parts of the proof of ParityCuts: A3, A4, A5, A6, Vrf.
  Conditions: none.
-/
import Derived.Test.YtoibnghkcdopeaaWParityCuts05
import Derived.Test.YtoibnghkcdopeaaWParityCuts04
import Derived.RangeFuncWrites
import Derived.RangeFuncLeaves
import Derived.RangeFuncCalls
set_option linter.unusedVariables false
set_option linter.unusedSimpArgs false
set_option linter.unusedSectionVars false
set_option linter.defProp false
section
namespace Go.Proofs.Ytoibnghkcdopeaa.V
open Go Go.Proofs.Ytoibnghkcdopeaa Go.Proofs.Ytoibnghkcdopeaa.Gf
set_option maxRecDepth 100000
def znA3 := And.intro @nls_u <| And.intro @nls_prt <| And.intro @nl_prt <| True.intro
set_option maxHeartbeats 4000000
def threeV (r : List Prt × Int) : VV := .tup [encPrts r.1, .int .i64 r.2]
theorem pick3_at (n : Int) (acc l : List Prt) (k : Nat) (h : k < l.length) : pick3 n acc (l.drop k) = (if acc.length = 3 then (acc, 0) else if (l.getD k default).i < 1 ∨ 5 < (l.getD k default).i then (acc, 1) else if hasI acc (l.getD k default).i then pick3 n acc (l.drop (k + 1)) else if ((l.getD k default).d.length : Int) ≠ n then (acc, 3) else pick3 n (acc ++ [l.getD k default]) (l.drop (k + 1))) := by
  have e : l.drop k = l.getD k default :: l.drop (k + 1) := by rw [List.getD_eq_getElem?_getD, List.getElem?_eq_getElem h]; exact List.drop_eq_getElem_cons h
  rw [e, pick3]
theorem rthree_spec (l : List Prt) (hl : l.length < 2 ^ 36) (hd : ∀ p ∈ l, p.d.length < 2 ^ 36) (n : Int) (hn : i64P n) : Spec Try.prog 27 [encPrts l, .int .i64 n] (threeV (pick3 n [] l)) := by
  obtain ⟨n1, n2⟩ := hn
  obtain ⟨R, hR⟩ : ∃ R, R = pick3 n [] l := ⟨_, rfl⟩
  rw [← hR]
  refine spec_ok Try.func27 rfl rfl (by kernel_rfl) (k := 2) rfl (by decide) ?_
  repeat' (first|(with_reducible first|refine yrl (by constructor) ?_|refine jk (fun M hM=>?_)|(refine hM _ ?_;clear hM M)|refine xb3 (by decide) ?_|refine yqa (by assumption) ?_ ?_|refine yqb (by assumption) ?_ ?_)|((with_reducible refine je ?_)<;>(first|rfl|assumption|(simp only [znl,znA3];(first|done|fail))))|(with_reducible refine jf (by (simp only [↓reduceIte,zlk,Nat.reduceEqDiff,reduceCtorEq]);exact rfl) ?_)|((with_reducible first|refine jg (fun hc=>?_) (fun hc=>?_)|refine jh (fun hc=>?_) (fun hc=>?_))<;>(try simp (disch:=omega) only [zhb] at hc)<;>(try (exfalso;omega))<;>(try subst hc))|(with_reducible refine ji (by omega) ?_)|(simp (config := { maxSteps := 400000 }) only [↓jt,↓reduceIte,zvs,reduceCtorEq,Nat.reduceEqDiff,Nat.reduceAdd,Nat.reduceLeDiff,Nat.reduceMul,Int.reduceBNe,Int.reduceBEq,Int.reduceEq,Int.reduceNe,Int.reduceLT,Int.reduceLE,Int.reduceGT,Int.reduceGE,Int.reduceNeg,Int.reduceToNat,Nat.reduceLT,Nat.reduceSub,tab,Try.results27,jTA])|(simp (disch:=omega) only [ziw]))
  refine ok_loop (fun x : Nat × List Prt => ⟨slots [(0, encPrts l), (1, .int .i64 n), (6, .sl (some (0, [], 0)) x.2.length), (7, .int .i64 x.1)], rows [(0, .row (.arr x.2.length prtSh) (.agg (x.2.map encPrt)))], 1⟩) (fun x => x.1 ≤ l.length ∧ x.2.length ≤ 3 ∧ pick3 n x.2 (l.drop x.1) = R) (fun x => l.length - x.1) (0, []) ?_ ⟨Nat.zero_le _, by decide, hR.symm⟩ (fun x hx => ?_)
  · (refine yrn [(0, 0)] false ?_ ?_<;>(repeat' (first|(with_reducible first|exact ya1|exact ya2|exact ya3|refine jx rfl (by first|rfl|assumption|(simp only [znl,znA3];(first|done|fail)))|exact ya5|exact ya7|exact jy|exact jz|refine jA ?_|refine ya9 ?_ ?_ ?_|refine jC rfl (by first|rfl|assumption|(simp only [znl,znA3];(first|done|fail)))|refine MR.agg (MRL.cons ?_ ?_)|refine MR.fn ?_|refine MRL.cons ?_ ?_|exact MRL.nil|refine jE ?_ ?_|exact jF|exact jG|refine yb1 ?_ ?_|refine MB.row ?_|refine jI ?_ ?_|exact ya8|refine jJ rfl (by first|rfl|assumption|(simp only [znl,znA3];(first|done|fail)))|refine yb2 ?_|rfl)|(simp only [znl,znA3];(first|done|fail))|(simp only [↓reduceIte,zlk,Nat.reduceEqDiff,reduceCtorEq])|(with_reducible first|refine jJ ?_ ?_|refine ya5 ?_|refine ju ?_|refine jv ?_|refine jw ?_|refine jx ?_ (by first|rfl|assumption|(simp only [znl,znA3];(first|done|fail)))|refine jC ?_ (by first|rfl|assumption|(simp only [znl,znA3];(first|done|fail)))))))
    all_goals (first | rfl)
  obtain ⟨k, acc⟩ := x
  obtain ⟨hk, ha, hp⟩ := hx
  dsimp only at hk ha hp ⊢
  by_cases hlt : k < l.length
  · have hg := getP hlt
    have hdl := hd (l.getD k default) (by rw [List.getD_eq_getElem?_getD, List.getElem?_eq_getElem hlt]; exact List.getElem_mem hlt)
    have hH := rhas_spec acc (by omega) (l.getD k default).i
    rw [pick3_at _ _ _ _ hlt] at hp
    have hse : acc.map encPrt ++ [encPrt (l.getD k default)] = (acc ++ [l.getD k default]).map encPrt := by rw [List.map_append]; rfl
    have hsl : (acc ++ [l.getD k default]).length = acc.length + 1 := by simp
    generalize hq : l.getD k default = q at hg hp hdl hH hse hsl
    simp only [encPrt] at hse
    by_cases h3 : acc.length = 3
    · rw [if_pos h3] at hp
      subst hp
      repeat' (first|(with_reducible first|refine yrl (by constructor) ?_|refine jk (fun M hM=>?_)|(refine hM _ ?_;clear hM M)|refine xb3 (by decide) ?_|refine yqa (by assumption) ?_ ?_|refine yqb (by assumption) ?_ ?_)|((with_reducible refine je ?_)<;>(first|rfl|assumption|(simp only [znl,znA3];(first|done|fail))))|(with_reducible refine jf (by (simp only [↓reduceIte,zlk,Nat.reduceEqDiff,reduceCtorEq]);exact rfl) ?_)|((with_reducible first|refine jg (fun hc=>?_) (fun hc=>?_)|refine jh (fun hc=>?_) (fun hc=>?_))<;>(try simp (disch:=omega) only [zhb] at hc)<;>(try (exfalso;omega))<;>(try subst hc))|(with_reducible refine ji (by omega) ?_)|(simp (config := { maxSteps := 400000 }) only [↓jt,↓reduceIte,zvs,reduceCtorEq,Nat.reduceEqDiff,Nat.reduceAdd,Nat.reduceLeDiff,Nat.reduceMul,Int.reduceBNe,Int.reduceBEq,Int.reduceEq,Int.reduceNe,Int.reduceLT,Int.reduceLE,Int.reduceGT,Int.reduceGE,Int.reduceNeg,Int.reduceToNat,Nat.reduceLT,Nat.reduceSub,tab,hg,Try.results27,jTA])|(simp (disch:=omega) only [ziw]))
      all_goals first
        | (exfalso; omega)
        | (((try simp only [threeV,List.map_nil]); simp only [zrds]; (repeat' (first | exact rd_nil | exact Rd.refl _ _ (by first|rfl|assumption|(simp only [znl,znA3];(first|done|fail))) | (refine And.intro ?_ ?_) | (refine rd_own (by (simp only [↓reduceIte,zlk,Nat.reduceEqDiff,reduceCtorEq]); exact rfl) ?_ ?_ ?_) | rfl | assumption | (simp only [znl,znA3];(first|done|fail)) | (simp; done) | (simp; omega)))); done)
    rw [if_neg h3] at hp
    by_cases h15 : q.i < 1 ∨ 5 < q.i
    · rw [if_pos h15] at hp
      subst hp
      repeat' (first|(with_reducible first|refine yrl (by constructor) ?_|refine jk (fun M hM=>?_)|(refine hM _ ?_;clear hM M)|refine xb3 (by decide) ?_|refine yqa (by assumption) ?_ ?_|refine yqb (by assumption) ?_ ?_)|((with_reducible refine je ?_)<;>(first|rfl|assumption|(simp only [znl,znA3];(first|done|fail))))|(with_reducible refine jf (by (simp only [↓reduceIte,zlk,Nat.reduceEqDiff,reduceCtorEq]);exact rfl) ?_)|((with_reducible first|refine jg (fun hc=>?_) (fun hc=>?_)|refine jh (fun hc=>?_) (fun hc=>?_))<;>(try simp (disch:=omega) only [zhb] at hc)<;>(try (exfalso;omega))<;>(try subst hc))|(with_reducible refine ji (by omega) ?_)|(simp (config := { maxSteps := 400000 }) only [↓jt,↓reduceIte,zvs,reduceCtorEq,Nat.reduceEqDiff,Nat.reduceAdd,Nat.reduceLeDiff,Nat.reduceMul,Int.reduceBNe,Int.reduceBEq,Int.reduceEq,Int.reduceNe,Int.reduceLT,Int.reduceLE,Int.reduceGT,Int.reduceGE,Int.reduceNeg,Int.reduceToNat,Nat.reduceLT,Nat.reduceSub,tab,hg,Try.results27,jTA])|(simp (disch:=omega) only [ziw]))
      all_goals first
        | (exfalso; omega)
        | (((try simp only [threeV,List.map_nil]); simp only [zrds]; (repeat' (first | exact rd_nil | exact Rd.refl _ _ (by first|rfl|assumption|(simp only [znl,znA3];(first|done|fail))) | (refine And.intro ?_ ?_) | (refine rd_own (by (simp only [↓reduceIte,zlk,Nat.reduceEqDiff,reduceCtorEq]); exact rfl) ?_ ?_ ?_) | rfl | assumption | (simp only [znl,znA3];(first|done|fail)) | (simp; done) | (simp; omega)))); done)
    rw [if_neg h15] at hp
    cases hh : hasI acc q.i with
    | true =>
      rw [hh, if_pos rfl] at hp
      rw [hh] at hH
      repeat' (first|(with_reducible first|refine yrl (by constructor) ?_|refine jk (fun M hM=>?_)|(refine hM _ ?_;clear hM M)|refine xb3 (by decide) ?_|refine yqa (by assumption) ?_ ?_|refine yqb (by assumption) ?_ ?_)|((with_reducible refine je ?_)<;>(first|rfl|assumption|(simp only [znl,znA3];(first|done|fail))))|(with_reducible refine jf (by (simp only [↓reduceIte,zlk,Nat.reduceEqDiff,reduceCtorEq]);exact rfl) ?_)|((with_reducible first|refine jg (fun hc=>?_) (fun hc=>?_)|refine jh (fun hc=>?_) (fun hc=>?_))<;>(try simp (disch:=omega) only [zhb] at hc)<;>(try (exfalso;omega))<;>(try subst hc))|(with_reducible refine ji (by omega) ?_)|(simp (config := { maxSteps := 400000 }) only [↓jt,↓reduceIte,zvs,reduceCtorEq,Nat.reduceEqDiff,Nat.reduceAdd,Nat.reduceLeDiff,Nat.reduceMul,Int.reduceBNe,Int.reduceBEq,Int.reduceEq,Int.reduceNe,Int.reduceLT,Int.reduceLE,Int.reduceGT,Int.reduceGE,Int.reduceNeg,Int.reduceToNat,Nat.reduceLT,Nat.reduceSub,tab,hg,Try.results27,jTA])|(simp (disch:=omega) only [ziw]))
      all_goals first
        | (exfalso; omega)
        | skip
      all_goals refine ja (call_plain (hH) (by repeat (first | exact rdl_nil | refine rdl_cons ?_ ?_ | exact Rd.refl _ _ (by first|rfl|assumption|(simp only [znl,znA3];(first|done|fail))) | (refine rd_own (by (simp only [↓reduceIte,zlk,Nat.reduceEqDiff,reduceCtorEq]); exact rfl) (by first | rfl | (simp; done) | (simp; omega)) rfl (by first|rfl|assumption|(simp only [znl,znA3];(first|done|fail)))) | exact rd_nil | refine (rd_a _ _ _).mpr ?_)) rfl rfl ?_)
      repeat' (first|(with_reducible first|refine yrl (by constructor) ?_|refine jk (fun M hM=>?_)|(refine hM _ ?_;clear hM M)|refine xb3 (by decide) ?_|refine yqa (by assumption) ?_ ?_|refine yqb (by assumption) ?_ ?_)|((with_reducible refine je ?_)<;>(first|rfl|assumption|(simp only [znl,znA3];(first|done|fail))))|(with_reducible refine jf (by (simp only [↓reduceIte,zlk,Nat.reduceEqDiff,reduceCtorEq]);exact rfl) ?_)|((with_reducible first|refine jg (fun hc=>?_) (fun hc=>?_)|refine jh (fun hc=>?_) (fun hc=>?_))<;>(try simp (disch:=omega) only [zhb] at hc)<;>(try (exfalso;omega))<;>(try subst hc))|(with_reducible refine ji (by omega) ?_)|(simp (config := { maxSteps := 400000 }) only [↓jt,↓reduceIte,zvs,reduceCtorEq,Nat.reduceEqDiff,Nat.reduceAdd,Nat.reduceLeDiff,Nat.reduceMul,Int.reduceBNe,Int.reduceBEq,Int.reduceEq,Int.reduceNe,Int.reduceLT,Int.reduceLE,Int.reduceGT,Int.reduceGE,Int.reduceNeg,Int.reduceToNat,Nat.reduceLT,Nat.reduceSub,tab,hg,Try.results27,jTA])|(simp (disch:=omega) only [ziw]))
      all_goals first
        | (exfalso; omega)
        | (refine xl1 (k + 1, acc) ?_ ⟨by show k + 1 ≤ l.length; omega, ha, hp⟩ (by show l.length - (k + 1) < l.length - k; omega); (refine yrn [(0, 0)] false ?_ ?_<;>(repeat' (first|(with_reducible first|exact ya1|exact ya2|exact ya3|refine jx rfl (by first|rfl|assumption|(simp only [znl,znA3];(first|done|fail)))|exact ya5|exact ya7|exact jy|exact jz|refine jA ?_|refine ya9 ?_ ?_ ?_|refine jC rfl (by first|rfl|assumption|(simp only [znl,znA3];(first|done|fail)))|refine MR.agg (MRL.cons ?_ ?_)|refine MR.fn ?_|refine MRL.cons ?_ ?_|exact MRL.nil|refine jE ?_ ?_|exact jF|exact jG|refine yb1 ?_ ?_|refine MB.row ?_|refine jI ?_ ?_|exact ya8|refine jJ rfl (by first|rfl|assumption|(simp only [znl,znA3];(first|done|fail)))|refine yb2 ?_|rfl)|(simp only [znl,znA3];(first|done|fail))|(simp only [↓reduceIte,zlk,Nat.reduceEqDiff,reduceCtorEq])|(with_reducible first|refine jJ ?_ ?_|refine ya5 ?_|refine ju ?_|refine jv ?_|refine jw ?_|refine jx ?_ (by first|rfl|assumption|(simp only [znl,znA3];(first|done|fail)))|refine jC ?_ (by first|rfl|assumption|(simp only [znl,znA3];(first|done|fail))))))); all_goals (first | rfl); done)
    | false =>
      rw [hh, if_neg (by decide)] at hp
      rw [hh] at hH
      by_cases hdn : (q.d.length : Int) = n
      · rw [if_neg (by simpa using hdn)] at hp
        repeat' (first|(with_reducible first|refine yrl (by constructor) ?_|refine jk (fun M hM=>?_)|(refine hM _ ?_;clear hM M)|refine xb3 (by decide) ?_|refine yqa (by assumption) ?_ ?_|refine yqb (by assumption) ?_ ?_)|((with_reducible refine je ?_)<;>(first|rfl|assumption|(simp only [znl,znA3];(first|done|fail))))|(with_reducible refine jf (by (simp only [↓reduceIte,zlk,Nat.reduceEqDiff,reduceCtorEq]);exact rfl) ?_)|((with_reducible first|refine jg (fun hc=>?_) (fun hc=>?_)|refine jh (fun hc=>?_) (fun hc=>?_))<;>(try simp (disch:=omega) only [zhb] at hc)<;>(try (exfalso;omega))<;>(try subst hc))|(with_reducible refine ji (by omega) ?_)|(simp (config := { maxSteps := 400000 }) only [↓jt,↓reduceIte,zvs,reduceCtorEq,Nat.reduceEqDiff,Nat.reduceAdd,Nat.reduceLeDiff,Nat.reduceMul,Int.reduceBNe,Int.reduceBEq,Int.reduceEq,Int.reduceNe,Int.reduceLT,Int.reduceLE,Int.reduceGT,Int.reduceGE,Int.reduceNeg,Int.reduceToNat,Nat.reduceLT,Nat.reduceSub,tab,hg,Try.results27,jTA])|(simp (disch:=omega) only [ziw]))
        all_goals first
          | (exfalso; omega)
          | skip
        all_goals refine ja (call_plain (hH) (by repeat (first | exact rdl_nil | refine rdl_cons ?_ ?_ | exact Rd.refl _ _ (by first|rfl|assumption|(simp only [znl,znA3];(first|done|fail))) | (refine rd_own (by (simp only [↓reduceIte,zlk,Nat.reduceEqDiff,reduceCtorEq]); exact rfl) (by first | rfl | (simp; done) | (simp; omega)) rfl (by first|rfl|assumption|(simp only [znl,znA3];(first|done|fail)))) | exact rd_nil | refine (rd_a _ _ _).mpr ?_)) rfl rfl ?_)
        repeat' (first|(with_reducible first|refine yrl (by constructor) ?_|refine jk (fun M hM=>?_)|(refine hM _ ?_;clear hM M)|refine xb3 (by decide) ?_|refine yqa (by assumption) ?_ ?_|refine yqb (by assumption) ?_ ?_)|((with_reducible refine je ?_)<;>(first|rfl|assumption|(simp only [znl,znA3];(first|done|fail))))|(with_reducible refine jf (by (simp only [↓reduceIte,zlk,Nat.reduceEqDiff,reduceCtorEq]);exact rfl) ?_)|((with_reducible first|refine jg (fun hc=>?_) (fun hc=>?_)|refine jh (fun hc=>?_) (fun hc=>?_))<;>(try simp (disch:=omega) only [zhb] at hc)<;>(try (exfalso;omega))<;>(try subst hc))|(with_reducible refine ji (by omega) ?_)|(simp (config := { maxSteps := 400000 }) only [↓jt,↓reduceIte,zvs,reduceCtorEq,Nat.reduceEqDiff,Nat.reduceAdd,Nat.reduceLeDiff,Nat.reduceMul,Int.reduceBNe,Int.reduceBEq,Int.reduceEq,Int.reduceNe,Int.reduceLT,Int.reduceLE,Int.reduceGT,Int.reduceGE,Int.reduceNeg,Int.reduceToNat,Nat.reduceLT,Nat.reduceSub,tab,hg,Try.results27,jTA])|(simp (disch:=omega) only [ziw]))
        all_goals first
          | (exfalso; omega)
          | (refine xl1 (k + 1, acc ++ [q]) ?_ ⟨by show k + 1 ≤ l.length; omega, by show (acc ++ [q]).length ≤ 3; rw [hsl]; omega, hp⟩ (by show l.length - (k + 1) < l.length - k; omega); (refine yrn [(0, 2)] false ?_ ?_<;>(repeat' (first|(with_reducible first|exact ya1|exact ya2|exact ya3|refine jx rfl (by first|rfl|assumption|(simp only [znl,znA3];(first|done|fail)))|exact ya5|exact ya7|exact jy|exact jz|refine jA ?_|refine ya9 ?_ ?_ ?_|refine jC rfl (by first|rfl|assumption|(simp only [znl,znA3];(first|done|fail)))|refine MR.agg (MRL.cons ?_ ?_)|refine MR.fn ?_|refine MRL.cons ?_ ?_|exact MRL.nil|refine jE ?_ ?_|exact jF|exact jG|refine yb1 ?_ ?_|refine MB.row ?_|refine jI ?_ ?_|exact ya8|refine jJ rfl (by first|rfl|assumption|(simp only [znl,znA3];(first|done|fail)))|refine yb2 ?_|rfl)|(simp only [znl,znA3];(first|done|fail))|(simp only [↓reduceIte,zlk,Nat.reduceEqDiff,reduceCtorEq])|(with_reducible first|refine jJ ?_ ?_|refine ya5 ?_|refine ju ?_|refine jv ?_|refine jw ?_|refine jx ?_ (by first|rfl|assumption|(simp only [znl,znA3];(first|done|fail)))|refine jC ?_ (by first|rfl|assumption|(simp only [znl,znA3];(first|done|fail))))))); all_goals (first | rfl | exact hse | (rw [hsl]; done) | (rw [hsl, List.length_map]; done)); done)
      · rw [if_pos hdn] at hp
        subst hp
        repeat' (first|(with_reducible first|refine yrl (by constructor) ?_|refine jk (fun M hM=>?_)|(refine hM _ ?_;clear hM M)|refine xb3 (by decide) ?_|refine yqa (by assumption) ?_ ?_|refine yqb (by assumption) ?_ ?_)|((with_reducible refine je ?_)<;>(first|rfl|assumption|(simp only [znl,znA3];(first|done|fail))))|(with_reducible refine jf (by (simp only [↓reduceIte,zlk,Nat.reduceEqDiff,reduceCtorEq]);exact rfl) ?_)|((with_reducible first|refine jg (fun hc=>?_) (fun hc=>?_)|refine jh (fun hc=>?_) (fun hc=>?_))<;>(try simp (disch:=omega) only [zhb] at hc)<;>(try (exfalso;omega))<;>(try subst hc))|(with_reducible refine ji (by omega) ?_)|(simp (config := { maxSteps := 400000 }) only [↓jt,↓reduceIte,zvs,reduceCtorEq,Nat.reduceEqDiff,Nat.reduceAdd,Nat.reduceLeDiff,Nat.reduceMul,Int.reduceBNe,Int.reduceBEq,Int.reduceEq,Int.reduceNe,Int.reduceLT,Int.reduceLE,Int.reduceGT,Int.reduceGE,Int.reduceNeg,Int.reduceToNat,Nat.reduceLT,Nat.reduceSub,tab,hg,Try.results27,jTA])|(simp (disch:=omega) only [ziw]))
        all_goals first
          | (exfalso; omega)
          | skip
        all_goals refine ja (call_plain (hH) (by repeat (first | exact rdl_nil | refine rdl_cons ?_ ?_ | exact Rd.refl _ _ (by first|rfl|assumption|(simp only [znl,znA3];(first|done|fail))) | (refine rd_own (by (simp only [↓reduceIte,zlk,Nat.reduceEqDiff,reduceCtorEq]); exact rfl) (by first | rfl | (simp; done) | (simp; omega)) rfl (by first|rfl|assumption|(simp only [znl,znA3];(first|done|fail)))) | exact rd_nil | refine (rd_a _ _ _).mpr ?_)) rfl rfl ?_)
        repeat' (first|(with_reducible first|refine yrl (by constructor) ?_|refine jk (fun M hM=>?_)|(refine hM _ ?_;clear hM M)|refine xb3 (by decide) ?_|refine yqa (by assumption) ?_ ?_|refine yqb (by assumption) ?_ ?_)|((with_reducible refine je ?_)<;>(first|rfl|assumption|(simp only [znl,znA3];(first|done|fail))))|(with_reducible refine jf (by (simp only [↓reduceIte,zlk,Nat.reduceEqDiff,reduceCtorEq]);exact rfl) ?_)|((with_reducible first|refine jg (fun hc=>?_) (fun hc=>?_)|refine jh (fun hc=>?_) (fun hc=>?_))<;>(try simp (disch:=omega) only [zhb] at hc)<;>(try (exfalso;omega))<;>(try subst hc))|(with_reducible refine ji (by omega) ?_)|(simp (config := { maxSteps := 400000 }) only [↓jt,↓reduceIte,zvs,reduceCtorEq,Nat.reduceEqDiff,Nat.reduceAdd,Nat.reduceLeDiff,Nat.reduceMul,Int.reduceBNe,Int.reduceBEq,Int.reduceEq,Int.reduceNe,Int.reduceLT,Int.reduceLE,Int.reduceGT,Int.reduceGE,Int.reduceNeg,Int.reduceToNat,Nat.reduceLT,Nat.reduceSub,tab,hg,Try.results27,jTA])|(simp (disch:=omega) only [ziw]))
        all_goals first
          | (exfalso; omega)
          | (((try simp only [threeV,List.map_nil]); simp only [zrds]; (repeat' (first | exact rd_nil | exact Rd.refl _ _ (by first|rfl|assumption|(simp only [znl,znA3];(first|done|fail))) | (refine And.intro ?_ ?_) | (refine rd_own (by (simp only [↓reduceIte,zlk,Nat.reduceEqDiff,reduceCtorEq]); exact rfl) ?_ ?_ ?_) | rfl | assumption | (simp only [znl,znA3];(first|done|fail)) | (simp; done) | (simp; omega)))); done)
  · obtain rfl : k = l.length := by omega
    rw [List.drop_length, pick3] at hp
    by_cases h3 : acc.length < 3
    · rw [if_pos h3] at hp
      subst hp
      repeat' (first|(with_reducible first|refine yrl (by constructor) ?_|refine jk (fun M hM=>?_)|(refine hM _ ?_;clear hM M)|refine xb3 (by decide) ?_|refine yqa (by assumption) ?_ ?_|refine yqb (by assumption) ?_ ?_)|((with_reducible refine je ?_)<;>(first|rfl|assumption|(simp only [znl,znA3];(first|done|fail))))|(with_reducible refine jf (by (simp only [↓reduceIte,zlk,Nat.reduceEqDiff,reduceCtorEq]);exact rfl) ?_)|((with_reducible first|refine jg (fun hc=>?_) (fun hc=>?_)|refine jh (fun hc=>?_) (fun hc=>?_))<;>(try simp (disch:=omega) only [zhb] at hc)<;>(try (exfalso;omega))<;>(try subst hc))|(with_reducible refine ji (by omega) ?_)|(simp (config := { maxSteps := 400000 }) only [↓jt,↓reduceIte,zvs,reduceCtorEq,Nat.reduceEqDiff,Nat.reduceAdd,Nat.reduceLeDiff,Nat.reduceMul,Int.reduceBNe,Int.reduceBEq,Int.reduceEq,Int.reduceNe,Int.reduceLT,Int.reduceLE,Int.reduceGT,Int.reduceGE,Int.reduceNeg,Int.reduceToNat,Nat.reduceLT,Nat.reduceSub,tab,Try.results27,jTA])|(simp (disch:=omega) only [ziw]))
      all_goals first
        | (exfalso; omega)
        | (((try simp only [threeV,List.map_nil]); simp only [zrds]; (repeat' (first | exact rd_nil | exact Rd.refl _ _ (by first|rfl|assumption|(simp only [znl,znA3];(first|done|fail))) | (refine And.intro ?_ ?_) | (refine rd_own (by (simp only [↓reduceIte,zlk,Nat.reduceEqDiff,reduceCtorEq]); exact rfl) ?_ ?_ ?_) | rfl | assumption | (simp only [znl,znA3];(first|done|fail)) | (simp; done) | (simp; omega)))); done)
    · rw [if_neg h3] at hp
      subst hp
      repeat' (first|(with_reducible first|refine yrl (by constructor) ?_|refine jk (fun M hM=>?_)|(refine hM _ ?_;clear hM M)|refine xb3 (by decide) ?_|refine yqa (by assumption) ?_ ?_|refine yqb (by assumption) ?_ ?_)|((with_reducible refine je ?_)<;>(first|rfl|assumption|(simp only [znl,znA3];(first|done|fail))))|(with_reducible refine jf (by (simp only [↓reduceIte,zlk,Nat.reduceEqDiff,reduceCtorEq]);exact rfl) ?_)|((with_reducible first|refine jg (fun hc=>?_) (fun hc=>?_)|refine jh (fun hc=>?_) (fun hc=>?_))<;>(try simp (disch:=omega) only [zhb] at hc)<;>(try (exfalso;omega))<;>(try subst hc))|(with_reducible refine ji (by omega) ?_)|(simp (config := { maxSteps := 400000 }) only [↓jt,↓reduceIte,zvs,reduceCtorEq,Nat.reduceEqDiff,Nat.reduceAdd,Nat.reduceLeDiff,Nat.reduceMul,Int.reduceBNe,Int.reduceBEq,Int.reduceEq,Int.reduceNe,Int.reduceLT,Int.reduceLE,Int.reduceGT,Int.reduceGE,Int.reduceNeg,Int.reduceToNat,Nat.reduceLT,Nat.reduceSub,tab,Try.results27,jTA])|(simp (disch:=omega) only [ziw]))
      all_goals first
        | (exfalso; omega)
        | (((try simp only [threeV,List.map_nil]); simp only [zrds]; (repeat' (first | exact rd_nil | exact Rd.refl _ _ (by first|rfl|assumption|(simp only [znl,znA3];(first|done|fail))) | (refine And.intro ?_ ?_) | (refine rd_own (by (simp only [↓reduceIte,zlk,Nat.reduceEqDiff,reduceCtorEq]); exact rfl) ?_ ?_ ?_) | rfl | assumption | (simp only [znl,znA3];(first|done|fail)) | (simp; done) | (simp; omega)))); done)
end Go.Proofs.Ytoibnghkcdopeaa.V
end
section
namespace Go.Proofs.Ytoibnghkcdopeaa.V
open Go Go.Proofs.Ytoibnghkcdopeaa Go.Proofs.Ytoibnghkcdopeaa.Gf
set_option maxRecDepth 100000
def znA4 := And.intro @nls_u <| And.intro @nls_prt <| And.intro @nl_prt <| True.intro
set_option maxHeartbeats 4000000
theorem val123 (a b c t : UInt8) : atVal [1, 2, 3] [a, b, c] t = lag [1, 2, 3] [a, b, c] t := by
  have h : atOk [1, 2, 3] [a, b, c] = true := by unfold atOk dis; simp
  rw [atVal, if_pos h]
def u8n (k : Nat) : UInt8 := UInt8.ofNat k
def cutTo (d : List UInt8) (k : Nat) : List Prt := (List.range k).map fun i : Nat => (⟨(i : Int) + 1, partOf d (u8n (i + 1))⟩ : Prt)
theorem cutTo_len (d : List UInt8) (k : Nat) : (cutTo d k).length = k := by simp [cutTo]
theorem cutTo_snoc (d : List UInt8) (k : Nat) : cutTo d (k + 1) = cutTo d k ++ [⟨k + 1, partOf d (u8n (k + 1))⟩] := by simp [cutTo, List.range_succ]
theorem cutTo_five (d : List UInt8) : cutTo d 5 = cutS d := rfl
theorem take_snocU (l : List UInt8) (k : Nat) (h : k < l.length) : l.take (k + 1) = l.take k ++ [nth l k] := by
  rw [List.take_add_one, nth, List.getD_eq_getElem?_getD, List.getElem?_eq_getElem h]; rfl
theorem partOf_at (d : List UInt8) (p : UInt8) (i : Nat) (h : i < rowsN d.length) : nth (partOf d p) i = atVal [1, 2, 3] [nth d i, nth d (rowsN d.length + i), nth d (2 * rowsN d.length + i)] p := by
  rw [val123, partOf_nth d p i h, third_nth, third_nth, third_nth, Nat.zero_mul, Nat.zero_add, Nat.one_mul]
theorem B8_u8n (k : Nat) (h : k < 256) : B8 (u8n k) = k := B8_of k h
theorem rcut_spec (d : List UInt8) (hd : d.length ≤ 100000) : Spec Try.prog 12 [.str d] (encPrts (cutS d)) := by
  obtain ⟨n, hn⟩ : ∃ n, n = rowsN d.length := ⟨_, rfl⟩
  have hnb : n ≤ 40000 := by rw [hn]; unfold rowsN; omega
  have hR := rrows_spec d.length (by unfold i64P; omega)
  rw [rowsI_nat, ← hn] at hR
  refine spec_ok Try.func12 rfl rfl (by kernel_rfl) (k := 1) rfl (by decide) ?_
  repeat' (first|(with_reducible first|refine yrl (by constructor) ?_|refine jk (fun M hM=>?_)|(refine hM _ ?_;clear hM M)|refine xb3 (by decide) ?_|refine yqa (by assumption) ?_ ?_|refine yqb (by assumption) ?_ ?_)|((with_reducible refine je ?_)<;>(first|rfl|assumption|(simp only [znl,znA4];(first|done|fail))))|(with_reducible refine jf (by (simp only [↓reduceIte,zlk,Nat.reduceEqDiff,reduceCtorEq]);exact rfl) ?_)|((with_reducible first|refine jg (fun hc=>?_) (fun hc=>?_)|refine jh (fun hc=>?_) (fun hc=>?_))<;>(try simp (disch:=omega) only [zhb] at hc)<;>(try (exfalso;omega))<;>(try subst hc))|(with_reducible refine ji (by omega) ?_)|(simp (config := { maxSteps := 400000 }) only [↓jt,↓reduceIte,zvs,reduceCtorEq,Nat.reduceEqDiff,Nat.reduceAdd,Nat.reduceLeDiff,Nat.reduceMul,Int.reduceBNe,Int.reduceBEq,Int.reduceEq,Int.reduceNe,Int.reduceLT,Int.reduceLE,Int.reduceGT,Int.reduceGE,Int.reduceNeg,Int.reduceToNat,Nat.reduceLT,Nat.reduceSub,tab,Try.results12,jTA])|(simp (disch:=omega) only [ziw]))
  refine ok_loop (fun k : Nat => ⟨slots [(0, .str d), (3, .int .i64 n), (4, .sl (some (0, [], 0)) k), (5, .int .i64 (k + 1))], rows [(0, .row (.arr k prtSh) (.agg ((cutTo d k).map encPrt)))], 1⟩) (fun k => k ≤ 5) (fun k => 5 - k) 0 ?_ (Nat.zero_le _) (fun k hk => ?_)
  · (refine yrn [(0, 0)] false ?_ ?_<;>(repeat' (first|(with_reducible first|exact ya1|exact ya2|exact ya3|refine jx rfl (by first|rfl|assumption|(simp only [znl,znA4];(first|done|fail)))|exact ya5|exact ya7|exact jy|exact jz|refine jA ?_|refine ya9 ?_ ?_ ?_|refine jC rfl (by first|rfl|assumption|(simp only [znl,znA4];(first|done|fail)))|refine MR.agg (MRL.cons ?_ ?_)|refine MR.fn ?_|refine MRL.cons ?_ ?_|exact MRL.nil|refine jE ?_ ?_|exact jF|exact jG|refine yb1 ?_ ?_|refine MB.row ?_|refine jI ?_ ?_|exact ya8|refine jJ rfl (by first|rfl|assumption|(simp only [znl,znA4];(first|done|fail)))|refine yb2 ?_|rfl)|(simp only [znl,znA4];(first|done|fail))|(simp only [↓reduceIte,zlk,Nat.reduceEqDiff,reduceCtorEq])|(with_reducible first|refine jJ ?_ ?_|refine ya5 ?_|refine ju ?_|refine jv ?_|refine jw ?_|refine jx ?_ (by first|rfl|assumption|(simp only [znl,znA4];(first|done|fail)))|refine jC ?_ (by first|rfl|assumption|(simp only [znl,znA4];(first|done|fail)))))))
    all_goals (first | rfl)
  have hcl := cutTo_len d k
  by_cases hlt : k < 5
  · have hs := cutTo_snoc d k
    have hb8 := B8_u8n (k + 1) (by omega)
    obtain ⟨p, hp⟩ : ∃ p, p = u8n (k + 1) := ⟨_, rfl⟩
    rw [← hp] at hs hb8
    have hat := fun i h => partOf_at d p i h
    have hpl := partOf_len d p
    rw [← hn] at hat hpl
    have hsn := fun i h => take_snocU (partOf d p) i h
    rw [hpl] at hsn
    have htl : (partOf d p).take n = partOf d p := by rw [← hpl]; exact List.take_length
    have hse : (cutTo d k).map encPrt ++ [encPrt ⟨k + 1, partOf d p⟩] = (cutTo d (k + 1)).map encPrt := by rw [hs, List.map_append]; rfl
    simp only [encPrt] at hse
    generalize cutTo d k = C at hse hcl ⊢
    generalize partOf d p = L at hat hpl hsn htl hse
    repeat' (first|(with_reducible first|refine yrl (by constructor) ?_|refine jk (fun M hM=>?_)|(refine hM _ ?_;clear hM M)|refine xb3 (by decide) ?_|refine yqa (by assumption) ?_ ?_|refine yqb (by assumption) ?_ ?_)|((with_reducible refine je ?_)<;>(first|rfl|assumption|(simp only [znl,znA4];(first|done|fail))))|(with_reducible refine jf (by (simp only [↓reduceIte,zlk,Nat.reduceEqDiff,reduceCtorEq]);exact rfl) ?_)|((with_reducible first|refine jg (fun hc=>?_) (fun hc=>?_)|refine jh (fun hc=>?_) (fun hc=>?_))<;>(try simp (disch:=omega) only [zhb] at hc)<;>(try (exfalso;omega))<;>(try subst hc))|(with_reducible refine ji (by omega) ?_)|(simp (config := { maxSteps := 400000 }) only [↓jt,↓reduceIte,zvs,reduceCtorEq,Nat.reduceEqDiff,Nat.reduceAdd,Nat.reduceLeDiff,Nat.reduceMul,Int.reduceBNe,Int.reduceBEq,Int.reduceEq,Int.reduceNe,Int.reduceLT,Int.reduceLE,Int.reduceGT,Int.reduceGE,Int.reduceNeg,Int.reduceToNat,Nat.reduceLT,Nat.reduceSub,tab,Try.results12,jTA])|(simp (disch:=omega) only [ziw]))
    refine ok_loop (fun i : Nat => ⟨slots [(0, .str d), (3, .int .i64 n), (4, .sl (some (0, [], 0)) k), (5, .int .i64 (k + 1)), (6, .sl (some (1, [], 0)) i), (7, .int .i64 i)], rows [(0, .row (.arr k prtSh) (.agg (C.map encPrt))), (1, .row (.arr i .cell) (.agg ((L.take i).map encU)))], 2⟩) (fun i => i ≤ n) (fun i => n - i) 0 ?_ (Nat.zero_le _) (fun i hi => ?_)
    · (refine yrn [(0, 0), (1, 1)] false ?_ ?_<;>(repeat' (first|(with_reducible first|exact ya1|exact ya2|exact ya3|refine jx rfl (by first|rfl|assumption|(simp only [znl,znA4];(first|done|fail)))|exact ya5|exact ya7|exact jy|exact jz|refine jA ?_|refine ya9 ?_ ?_ ?_|refine jC rfl (by first|rfl|assumption|(simp only [znl,znA4];(first|done|fail)))|refine MR.agg (MRL.cons ?_ ?_)|refine MR.fn ?_|refine MRL.cons ?_ ?_|exact MRL.nil|refine jE ?_ ?_|exact jF|exact jG|refine yb1 ?_ ?_|refine MB.row ?_|refine jI ?_ ?_|exact ya8|refine jJ rfl (by first|rfl|assumption|(simp only [znl,znA4];(first|done|fail)))|refine yb2 ?_|rfl)|(simp only [znl,znA4];(first|done|fail))|(simp only [↓reduceIte,zlk,Nat.reduceEqDiff,reduceCtorEq])|(with_reducible first|refine jJ ?_ ?_|refine ya5 ?_|refine ju ?_|refine jv ?_|refine jw ?_|refine jx ?_ (by first|rfl|assumption|(simp only [znl,znA4];(first|done|fail)))|refine jC ?_ (by first|rfl|assumption|(simp only [znl,znA4];(first|done|fail)))))))
      all_goals (first | rfl)
    have hil : (L.take i).length = i := by rw [List.length_take, hpl]; omega
    by_cases hli : i < n
    · have h1 := rat7_spec d (by omega) i (by omega)
      have h2 := rat7_spec d (by omega) (n + i) (by omega)
      have h3 := rat7_spec d (by omega) (2 * n + i) (by omega)
      have h4 := rat_spec [1, 2, 3] [nth d i, nth d (n + i), nth d (2 * n + i)] (by simp) (by simp) p
      rw [← hat i hli, hb8] at h4
      have hsi : (L.take i).map encU ++ [encU (nth L i)] = (L.take (i + 1)).map encU := by rw [hsn i hli, List.map_append]; rfl
      simp only [encU] at hsi
      push_cast at h2 h3 h4
      have e1 : ([1, 2, 3] : List UInt8).map encU = [.int .u8 1, .int .u8 2, .int .u8 3] := rfl
      have e2 : ∀ a b c : UInt8, [a, b, c].map encU = [.int .u8 (B8 a), .int .u8 (B8 b), .int .u8 (B8 c)] := fun _ _ _ => rfl
      simp only [encBs,e1,e2] at h4
      generalize L.take i = T at hil hsi ⊢
      generalize nth L i = v at hsi h4
      repeat' (first|(with_reducible first|refine yrl (by constructor) ?_|refine jk (fun M hM=>?_)|(refine hM _ ?_;clear hM M)|refine xb3 (by decide) ?_|refine yqa (by assumption) ?_ ?_|refine yqb (by assumption) ?_ ?_)|((with_reducible refine je ?_)<;>(first|rfl|assumption|(simp only [znl,znA4];(first|done|fail))))|(with_reducible refine jf (by (simp only [↓reduceIte,zlk,Nat.reduceEqDiff,reduceCtorEq]);exact rfl) ?_)|((with_reducible first|refine jg (fun hc=>?_) (fun hc=>?_)|refine jh (fun hc=>?_) (fun hc=>?_))<;>(try simp (disch:=omega) only [zhb] at hc)<;>(try (exfalso;omega))<;>(try subst hc))|(with_reducible refine ji (by omega) ?_)|(simp (config := { maxSteps := 400000 }) only [↓jt,↓reduceIte,zvs,reduceCtorEq,Nat.reduceEqDiff,Nat.reduceAdd,Nat.reduceLeDiff,Nat.reduceMul,Int.reduceBNe,Int.reduceBEq,Int.reduceEq,Int.reduceNe,Int.reduceLT,Int.reduceLE,Int.reduceGT,Int.reduceGE,Int.reduceNeg,Int.reduceToNat,Nat.reduceLT,Nat.reduceSub,tab,Try.results12,jTA])|(simp (disch:=omega) only [ziw]))
      all_goals (try (exfalso; omega))
      refine ja (call_plain (h4) (by repeat (first | exact rdl_nil | refine rdl_cons ?_ ?_ | exact Rd.refl _ _ (by first|rfl|assumption|(simp only [znl,znA4];(first|done|fail))) | (refine rd_own (by (simp only [↓reduceIte,zlk,Nat.reduceEqDiff,reduceCtorEq,setParts,rep_one,rep_two,rep_three,List.set_cons_zero,List.set_cons_succ,List.map_cons,List.map_nil]); exact rfl) (by first | rfl | (simp; done) | (simp; omega)) rfl (by first|rfl|assumption|(simp only [znl,znA4];(first|done|fail)))) | (refine rd_pre (by (simp only [↓reduceIte,zlk,Nat.reduceEqDiff,reduceCtorEq,setParts,rep_one,rep_two,rep_three,List.set_cons_zero,List.set_cons_succ,List.map_cons,List.map_nil]); exact rfl) (by first | (simp; done) | (simp; omega)) (by first | rfl | (simp; done)) (by first|rfl|assumption|(simp only [znl,znA4];(first|done|fail)))) | exact rd_nil | refine (rd_a _ _ _).mpr ?_)) rfl rfl ?_)
      repeat' (first|(with_reducible first|refine yrl (by constructor) ?_|refine jk (fun M hM=>?_)|(refine hM _ ?_;clear hM M)|refine xb3 (by decide) ?_|refine yqa (by assumption) ?_ ?_|refine yqb (by assumption) ?_ ?_)|((with_reducible refine je ?_)<;>(first|rfl|assumption|(simp only [znl,znA4];(first|done|fail))))|(with_reducible refine jf (by (simp only [↓reduceIte,zlk,Nat.reduceEqDiff,reduceCtorEq]);exact rfl) ?_)|((with_reducible first|refine jg (fun hc=>?_) (fun hc=>?_)|refine jh (fun hc=>?_) (fun hc=>?_))<;>(try simp (disch:=omega) only [zhb] at hc)<;>(try (exfalso;omega))<;>(try subst hc))|(with_reducible refine ji (by omega) ?_)|(simp (config := { maxSteps := 400000 }) only [↓jt,↓reduceIte,zvs,reduceCtorEq,Nat.reduceEqDiff,Nat.reduceAdd,Nat.reduceLeDiff,Nat.reduceMul,Int.reduceBNe,Int.reduceBEq,Int.reduceEq,Int.reduceNe,Int.reduceLT,Int.reduceLE,Int.reduceGT,Int.reduceGE,Int.reduceNeg,Int.reduceToNat,Nat.reduceLT,Nat.reduceSub,tab,Try.results12,jTA])|(simp (disch:=omega) only [ziw]))
      all_goals first
        | (exfalso; omega)
        | (refine xl1 (i + 1) ?_ (by show i + 1 ≤ n; omega) (by show n - (i + 1) < n - i; omega); (refine yrn [(0, 0), (1, 5)] false ?_ ?_<;>(repeat' (first|(with_reducible first|exact ya1|exact ya2|exact ya3|refine jx rfl (by first|rfl|assumption|(simp only [znl,znA4];(first|done|fail)))|exact ya5|exact ya7|exact jy|exact jz|refine jA ?_|refine ya9 ?_ ?_ ?_|refine jC rfl (by first|rfl|assumption|(simp only [znl,znA4];(first|done|fail)))|refine MR.agg (MRL.cons ?_ ?_)|refine MR.fn ?_|refine MRL.cons ?_ ?_|exact MRL.nil|refine jE ?_ ?_|exact jF|exact jG|refine yb1 ?_ ?_|refine MB.row ?_|refine jI ?_ ?_|exact ya8|refine jJ rfl (by first|rfl|assumption|(simp only [znl,znA4];(first|done|fail)))|refine yb2 ?_|rfl)|(simp only [znl,znA4];(first|done|fail))|(simp only [↓reduceIte,zlk,Nat.reduceEqDiff,reduceCtorEq])|(with_reducible first|refine jJ ?_ ?_|refine ya5 ?_|refine ju ?_|refine jv ?_|refine jw ?_|refine jx ?_ (by first|rfl|assumption|(simp only [znl,znA4];(first|done|fail)))|refine jC ?_ (by first|rfl|assumption|(simp only [znl,znA4];(first|done|fail))))))); all_goals (first | rfl | exact hsi); done)
    · obtain rfl : i = n := by omega
      rw [htl]
      have hbo := bytesOf_u L
      have htk : (L.map encU).take i = L.map encU := by rw [← List.map_take, htl]
      repeat' (first|(with_reducible first|refine yrl (by constructor) ?_|refine jk (fun M hM=>?_)|(refine hM _ ?_;clear hM M)|refine xb3 (by decide) ?_|refine yqa (by assumption) ?_ ?_|refine yqb (by assumption) ?_ ?_)|((with_reducible refine je ?_)<;>(first|rfl|assumption|(simp only [znl,znA4];(first|done|fail))))|(with_reducible refine jf (by (simp only [↓reduceIte,zlk,Nat.reduceEqDiff,reduceCtorEq]);exact rfl) ?_)|((with_reducible first|refine jg (fun hc=>?_) (fun hc=>?_)|refine jh (fun hc=>?_) (fun hc=>?_))<;>(try simp (disch:=omega) only [zhb] at hc)<;>(try (exfalso;omega))<;>(try subst hc))|(with_reducible refine ji (by omega) ?_)|(simp (config := { maxSteps := 400000 }) only [↓jt,↓reduceIte,zvs,reduceCtorEq,Nat.reduceEqDiff,Nat.reduceAdd,Nat.reduceLeDiff,Nat.reduceMul,Int.reduceBNe,Int.reduceBEq,Int.reduceEq,Int.reduceNe,Int.reduceLT,Int.reduceLE,Int.reduceGT,Int.reduceGE,Int.reduceNeg,Int.reduceToNat,Nat.reduceLT,Nat.reduceSub,tab,hbo,htk,hpl,Try.results12,jTA])|(simp (disch:=omega) only [ziw]))
      all_goals first
        | (exfalso; omega)
        | (refine xl1 (k + 1) ?_ (by show k + 1 ≤ 5; omega) (by show 5 - (k + 1) < 5 - k; omega); (refine yrn [(0, 3)] false ?_ ?_<;>(repeat' (first|(with_reducible first|exact ya1|exact ya2|exact ya3|refine jx rfl (by first|rfl|assumption|(simp only [znl,znA4];(first|done|fail)))|exact ya5|exact ya7|exact jy|exact jz|refine jA ?_|refine ya9 ?_ ?_ ?_|refine jC rfl (by first|rfl|assumption|(simp only [znl,znA4];(first|done|fail)))|refine MR.agg (MRL.cons ?_ ?_)|refine MR.fn ?_|refine MRL.cons ?_ ?_|exact MRL.nil|refine jE ?_ ?_|exact jF|exact jG|refine yb1 ?_ ?_|refine MB.row ?_|refine jI ?_ ?_|exact ya8|refine jJ rfl (by first|rfl|assumption|(simp only [znl,znA4];(first|done|fail)))|refine yb2 ?_|rfl)|(simp only [znl,znA4];(first|done|fail))|(simp only [↓reduceIte,zlk,Nat.reduceEqDiff,reduceCtorEq])|(with_reducible first|refine jJ ?_ ?_|refine ya5 ?_|refine ju ?_|refine jv ?_|refine jw ?_|refine jx ?_ (by first|rfl|assumption|(simp only [znl,znA4];(first|done|fail)))|refine jC ?_ (by first|rfl|assumption|(simp only [znl,znA4];(first|done|fail))))))); all_goals (first | rfl | exact hse | omega); done)
  · obtain rfl : k = 5 := by omega
    rw [cutTo_five]
    repeat' (first|(with_reducible first|refine yrl (by constructor) ?_|refine jk (fun M hM=>?_)|(refine hM _ ?_;clear hM M)|refine xb3 (by decide) ?_|refine yqa (by assumption) ?_ ?_|refine yqb (by assumption) ?_ ?_)|((with_reducible refine je ?_)<;>(first|rfl|assumption|(simp only [znl,znA4];(first|done|fail))))|(with_reducible refine jf (by (simp only [↓reduceIte,zlk,Nat.reduceEqDiff,reduceCtorEq]);exact rfl) ?_)|((with_reducible first|refine jg (fun hc=>?_) (fun hc=>?_)|refine jh (fun hc=>?_) (fun hc=>?_))<;>(try simp (disch:=omega) only [zhb] at hc)<;>(try (exfalso;omega))<;>(try subst hc))|(with_reducible refine ji (by omega) ?_)|(simp (config := { maxSteps := 400000 }) only [↓jt,↓reduceIte,zvs,reduceCtorEq,Nat.reduceEqDiff,Nat.reduceAdd,Nat.reduceLeDiff,Nat.reduceMul,Int.reduceBNe,Int.reduceBEq,Int.reduceEq,Int.reduceNe,Int.reduceLT,Int.reduceLE,Int.reduceGT,Int.reduceGE,Int.reduceNeg,Int.reduceToNat,Nat.reduceLT,Nat.reduceSub,tab,Try.results12,jTA])|(simp (disch:=omega) only [ziw]))
    all_goals first
      | (exfalso; omega)
      | ((refine rd_own (by (simp only [↓reduceIte,zlk,Nat.reduceEqDiff,reduceCtorEq]); exact rfl) ?_ ?_ ?_) <;> (first | rfl | assumption | (simp only [znl,znA4];(first|done|fail)) | (simp; done) | (simp; omega) | skip); done)
end Go.Proofs.Ytoibnghkcdopeaa.V
end
section
namespace Go.Proofs.Ytoibnghkcdopeaa.V
open Go Go.Proofs.Ytoibnghkcdopeaa Go.Proofs.Ytoibnghkcdopeaa.Gf
set_option maxRecDepth 100000
def znA5 := And.intro @nls_u <| And.intro @nls_prt <| And.intro @nl_prt <| True.intro
set_option maxHeartbeats 4000000
structure GoodP (n : Int) (l : List Prt) : Prop where
  nd : (l.map (·.i)).Nodup
  rg : ∀ p ∈ l, 1 ≤ p.i ∧ p.i ≤ 5
  ln : ∀ p ∈ l, (p.d.length : Int) = n
theorem GoodP.nil (n : Int) : GoodP n [] := ⟨List.nodup_nil, (fun p hp => by cases hp), (fun p hp => by cases hp)⟩
theorem hasI_mem {l : List Prt} {i : Int} : hasI l i = false → i ∉ l.map (·.i) := fun h hm => by
  obtain ⟨p, hp, rfl⟩ := List.mem_map.1 hm
  unfold hasI at h
  rw [List.any_eq_false] at h
  exact h p hp (beq_self_eq_true _)
theorem GoodP.snoc {n : Int} {l : List Prt} (h : GoodP n l) (p : Prt) (h1 : 1 ≤ p.i ∧ p.i ≤ 5) (h2 : (p.d.length : Int) = n) (h3 : hasI l p.i = false) : GoodP n (l ++ [p]) := by
  refine ⟨?_, fun q hq => ?_, fun q hq => ?_⟩
  · rw [List.map_append, List.nodup_append]
    refine ⟨h.nd, by simp, fun a ha b hb => ?_⟩
    rw [List.map_cons, List.map_nil, List.mem_singleton] at hb
    subst hb
    rintro rfl
    exact hasI_mem h3 ha
  · rcases List.mem_append.1 hq with hq | hq
    · exact h.rg q hq
    · rw [List.mem_singleton] at hq; subst hq; exact h1
  · rcases List.mem_append.1 hq with hq | hq
    · exact h.ln q hq
    · rw [List.mem_singleton] at hq; subst hq; exact h2
theorem pick3_good (n : Int) : ∀ (l acc : List Prt), GoodP n acc → acc.length ≤ 3 → GoodP n (pick3 n acc l).1 ∧ ((pick3 n acc l).2 = 0 → (pick3 n acc l).1.length = 3)
  | [], acc, h, hl => by
    rw [pick3]
    refine ⟨h, fun h0 => ?_⟩
    dsimp only at h0 ⊢
    split at h0
    · cases h0
    · omega
  | p :: l, acc, h, hl => by
    rw [pick3]
    split
    · exact ⟨h, fun _ => by assumption⟩
    split
    · exact ⟨h, fun h0 => by cases h0⟩
    split
    · exact pick3_good n l acc h hl
    split
    · exact ⟨h, fun h0 => by cases h0⟩
    · rename_i h3 h15 hh hn
      exact pick3_good n l _ (h.snoc p (by omega) (by simpa using hn) (by simpa using hh)) (by simp; omega)
theorem val3 {x y z : UInt8} (h : x ≠ y ∧ x ≠ z ∧ y ≠ z) (a b c t : UInt8) : atVal [x, y, z] [a, b, c] t = lag [x, y, z] [a, b, c] t := by
  have h : atOk [x, y, z] [a, b, c] = true := by unfold atOk dis; simp [h]
  rw [atVal, if_pos h]
def linesTo (x y z : UInt8) (a b c : List UInt8) (n : Nat) (k : Nat) : List UInt8 := ((List.range k).map fun j => lineP x y z a b c n (u8n (j + 1))).flatten
theorem linesTo_snoc (x y z : UInt8) (a b c : List UInt8) (n : Nat) (k : Nat) : linesTo x y z a b c n (k + 1) = linesTo x y z a b c n k ++ lineP x y z a b c n (u8n (k + 1)) := by simp [linesTo, List.range_succ]
theorem linesTo_len (x y z : UInt8) (a b c : List UInt8) (n : Nat) : ∀ k, (linesTo x y z a b c n k).length = k * n
  | 0 => by simp [linesTo]
  | k + 1 => by rw [linesTo_snoc, List.length_append, linesTo_len x y z a b c n k, lineP_len, Nat.add_mul, Nat.one_mul]
def joinR (l : List Prt) (size : Int) : List UInt8 × Int := if size < 0 ∨ 65536 < size then ([], 2) else match pick3 (rowsI size) [] l with
  | ([p, q, r], 0) => (joinP p q r (rowsN size.toNat) size.toNat, 0)
  | (_, e) => ([], e)
def joinRV (r : List UInt8 × Int) : VV := .tup [.str r.1, .int .i64 r.2]
theorem i_u8 {i : Int} (h : 1 ≤ i ∧ i ≤ 5) : B8 (u8 i) = i := by
  unfold u8
  rw [B8_of _ (by omega)]
  omega
theorem snocU (T : List UInt8) (v : UInt8) : (T ++ [v]).map encU = T.map encU ++ [.int .u8 (B8 v)] := by rw [List.map_append]; rfl
theorem snocL (T : List UInt8) (v : UInt8) : (T ++ [v]).length = T.length + 1 := by simp
theorem nthB (l : List UInt8) (i : Nat) : (((l.getD i 0).toNat : Nat) : Int) = B8 (nth l i) := rfl
theorem rjoin7_spec (l : List Prt) (hl : l.length < 2 ^ 36) (hd : ∀ p ∈ l, p.d.length < 2 ^ 36) (size : Int) (hs : i64P size) : Spec Try.prog 17 [encPrts l, .int .i64 size] (joinRV (joinR l size)) := by
  obtain ⟨s1, s2⟩ := hs
  by_cases hsz : size < 0 ∨ 65536 < size
  · have e : joinR l size = ([], 2) := by unfold joinR; rw [if_pos hsz]
    rw [e]
    refine spec_ok Try.func17 rfl rfl (by kernel_rfl) (k := 2) rfl (by decide) ?_
    repeat' (first|(with_reducible first|refine yrl (by constructor) ?_|refine jk (fun M hM=>?_)|(refine hM _ ?_;clear hM M)|refine xb3 (by decide) ?_|refine yqa (by assumption) ?_ ?_|refine yqb (by assumption) ?_ ?_)|((with_reducible refine je ?_)<;>(first|rfl|assumption|(simp only [znl,znA5];(first|done|fail))))|(with_reducible refine jf (by (simp only [↓reduceIte,zlk,Nat.reduceEqDiff,reduceCtorEq]);exact rfl) ?_)|((with_reducible first|refine jg (fun hc=>?_) (fun hc=>?_)|refine jh (fun hc=>?_) (fun hc=>?_))<;>(try simp (disch:=omega) only [zhb] at hc)<;>(try (exfalso;omega))<;>(try subst hc))|(with_reducible refine ji (by omega) ?_)|(simp (config := { maxSteps := 400000 }) only [↓jt,↓reduceIte,zvs,reduceCtorEq,Nat.reduceEqDiff,Nat.reduceAdd,Nat.reduceLeDiff,Nat.reduceMul,Int.reduceBNe,Int.reduceBEq,Int.reduceEq,Int.reduceNe,Int.reduceLT,Int.reduceLE,Int.reduceGT,Int.reduceGE,Int.reduceNeg,Int.reduceToNat,Nat.reduceLT,Nat.reduceSub,tab,Try.results17,jTA])|(simp (disch:=omega) only [ziw]))
    all_goals first
      | (exfalso; omega)
      | (((try simp only [joinRV,List.map_nil]); simp only [zrds]; (repeat' (first | exact rd_nil | exact Rd.refl _ _ (by first|rfl|assumption|(simp only [znl,znA5];(first|done|fail))) | (refine And.intro ?_ ?_) | (refine rd_own (by (simp only [↓reduceIte,zlk,Nat.reduceEqDiff,reduceCtorEq]); exact rfl) ?_ ?_ ?_) | rfl | assumption | (simp only [znl,znA5];(first|done|fail)) | (simp; done) | (simp; omega)))); done)
  obtain ⟨s, rfl⟩ := Int.eq_ofNat_of_zero_le (by omega : 0 ≤ size)
  have hR := rrows_spec s (by unfold i64P; omega)
  rw [rowsI_nat] at hR
  obtain ⟨n, hn⟩ : ∃ n, n = rowsN s := ⟨_, rfl⟩
  have hnb : s ≤ 3 * n ∧ 3 * n ≤ 65540 := by rw [hn]; unfold rowsN; omega
  rw [← hn] at hR
  have hT := rthree_spec l hl hd n (by constructor <;> omega)
  have hg := pick3_good n l [] (GoodP.nil _) (by decide)
  have ej : joinR l s = match pick3 n [] l with
    | ([p, q, r], 0) => (joinP p q r n s, 0)
    | (_, e) => ([], e) := by unfold joinR; rw [if_neg hsz, rowsI_nat, Int.toNat_natCast, ← hn]
  rw [ej]
  clear ej
  obtain ⟨⟨rs, e⟩, hp⟩ : ∃ r, r = pick3 n [] l := ⟨_, rfl⟩
  rw [← hp] at hT hg ⊢
  obtain ⟨hg1, hg2⟩ := hg
  dsimp only at hg1 hg2
  simp only [threeV] at hT
  by_cases he : e = 0
  · subst he
    have h3 := hg2 rfl
    match rs, h3, hg1, hT with
    | [p, q, r], _, hg1, hT =>
      try dsimp only
      clear hp hg2 h3
      obtain ⟨p1, pd⟩ := p
      obtain ⟨q1, qd⟩ := q
      obtain ⟨r1, rd⟩ := r
      have lp := hg1.ln _ (by simp : (⟨p1, pd⟩ : Prt) ∈ _)
      have lq := hg1.ln ⟨q1, qd⟩ (by simp)
      have lr := hg1.ln ⟨r1, rd⟩ (by simp)
      have bp := i_u8 (hg1.rg ⟨p1, pd⟩ (by simp))
      have bq := i_u8 (hg1.rg ⟨q1, qd⟩ (by simp))
      have br := i_u8 (hg1.rg ⟨r1, rd⟩ (by simp))
      have hnd := hg1.nd
      dsimp only at lp lq lr bp bq br
      simp only [joinP]
      obtain ⟨x, hx⟩ : ∃ x, x = u8 p1 := ⟨_, rfl⟩
      obtain ⟨y, hy⟩ : ∃ y, y = u8 q1 := ⟨_, rfl⟩
      obtain ⟨z, hz⟩ : ∃ z, z = u8 r1 := ⟨_, rfl⟩
      rw [← hx] at bp ⊢
      rw [← hy] at bq ⊢
      rw [← hz] at br ⊢
      clear hx hy hz
      subst bp bq br
      have hne : x ≠ y ∧ x ≠ z ∧ y ≠ z := by
        simp only [List.map_cons,List.map_nil,List.nodup_cons,List.mem_cons,List.not_mem_nil,or_false,not_or] at hnd
        exact ⟨fun h => hnd.1.1 (by rw [h]), fun h => hnd.1.2 (by rw [h]), fun h => hnd.2.1 (by rw [h])⟩
      have lpn : pd.length = n := by omega
      have lqn : qd.length = n := by omega
      have lrn : rd.length = n := by omega
      clear hg1 hnd lp lq lr
      have hx1 := B8_lo x
      have hx2 := B8_hi x
      have hy1 := B8_lo y
      have hy2 := B8_hi y
      have hz1 := B8_lo z
      have hz2 := B8_hi z
      have eJ : (lineP x y z pd qd rd n 1 ++ lineP x y z pd qd rd n 2) ++ lineP x y z pd qd rd n 3 = linesTo x y z pd qd rd n 3 := by simp [linesTo, List.range_succ, u8n]
      rw [eJ]
      have hJ := linesTo_len x y z pd qd rd n
      have hat := fun i h t => (lineP_nth x y z pd qd rd n t i h).trans (val3 hne _ _ _ t).symm
      refine spec_ok Try.func17 rfl rfl (by kernel_rfl) (k := 2) rfl (by decide) ?_
      repeat' (first|(with_reducible first|refine yrl (by constructor) ?_|refine jk (fun M hM=>?_)|(refine hM _ ?_;clear hM M)|refine xb3 (by decide) ?_|refine yqa (by assumption) ?_ ?_|refine yqb (by assumption) ?_ ?_)|((with_reducible refine je ?_)<;>(first|rfl|assumption|(simp only [znl,znA5];(first|done|fail))))|(with_reducible refine jf (by (simp only [↓reduceIte,zlk,Nat.reduceEqDiff,reduceCtorEq]);exact rfl) ?_)|((with_reducible first|refine jg (fun hc=>?_) (fun hc=>?_)|refine jh (fun hc=>?_) (fun hc=>?_))<;>(try simp (disch:=omega) only [zhb] at hc)<;>(try (exfalso;omega))<;>(try subst hc))|(with_reducible refine ji (by omega) ?_)|(simp (config := { maxSteps := 400000 }) only [↓jt,↓reduceIte,zvs,reduceCtorEq,Nat.reduceEqDiff,Nat.reduceAdd,Nat.reduceLeDiff,Nat.reduceMul,Int.reduceBNe,Int.reduceBEq,Int.reduceEq,Int.reduceNe,Int.reduceLT,Int.reduceLE,Int.reduceGT,Int.reduceGE,Int.reduceNeg,Int.reduceToNat,Nat.reduceLT,Nat.reduceSub,tab,encPrts,List.map_cons,List.map_nil,encPrt,Try.results17,jTA])|(simp (disch:=omega) only [ziw]))
      all_goals (try (exfalso; omega))
      refine ok_drawC 16 (by kernel_rfl) (by decide +kernel) (by intro m hm; simp only [upd_ap,rows_cons,rows_nil]; (repeat (first | rfl | rw [if_neg (by omega)]))) (fun M hM => ?_); simp only [List.take_succ_cons,List.take_zero,List.drop_succ_cons,List.drop_zero]
      repeat' (first|(with_reducible first|refine yrl (by constructor) ?_|refine jk (fun M hM=>?_)|(refine hM _ ?_;clear hM M)|refine xb3 (by decide) ?_|refine yqa (by assumption) ?_ ?_|refine yqb (by assumption) ?_ ?_)|((with_reducible refine je ?_)<;>(first|rfl|assumption|(simp only [znl,znA5];(first|done|fail))))|(with_reducible refine jf (by (simp only [↓reduceIte,zlk,Nat.reduceEqDiff,reduceCtorEq]);exact rfl) ?_)|((with_reducible first|refine jg (fun hc=>?_) (fun hc=>?_)|refine jh (fun hc=>?_) (fun hc=>?_))<;>(try simp (disch:=omega) only [zhb] at hc)<;>(try (exfalso;omega))<;>(try subst hc))|(with_reducible refine ji (by omega) ?_)|(simp (config := { maxSteps := 400000 }) only [↓jt,↓reduceIte,zvs,reduceCtorEq,Nat.reduceEqDiff,Nat.reduceAdd,Nat.reduceLeDiff,Nat.reduceMul,Int.reduceBNe,Int.reduceBEq,Int.reduceEq,Int.reduceNe,Int.reduceLT,Int.reduceLE,Int.reduceGT,Int.reduceGE,Int.reduceNeg,Int.reduceToNat,Nat.reduceLT,Nat.reduceSub,tab,Try.results17,jTA])|(simp (disch:=omega) only [ziw]))
      all_goals (try (exfalso; omega))
      refine ok_loop (fun k : Nat => ⟨slots [(1, .int .i64 s), (6, .int .i64 n), (7, .dat prtSh [.agg [.int .i64 (B8 x), .str pd], .agg [.int .i64 (B8 y), .str qd], .agg [.int .i64 (B8 z), .str rd]]), (9, .sl (some (0, [], 0)) 3), (10, .sl (some (1, [], 0)) (linesTo x y z pd qd rd n k).length), (11, .int .i64 (k + 1))], rows [(0, .row (.arr 3 .cell) (.agg [.int .u8 (B8 x), .int .u8 (B8 y), .int .u8 (B8 z)])), (1, .row (.arr (linesTo x y z pd qd rd n k).length .cell) (.agg ((linesTo x y z pd qd rd n k).map encU)))], 2⟩) (fun k => k ≤ 3) (fun k => 3 - k) 0 ?_ (Nat.zero_le _) (fun k hk => ?_)
      · (refine yrn [(0, 960), (1, 1024)] false ?_ ?_<;>(repeat' (first|(with_reducible first|exact ya1|exact ya2|exact ya3|refine jx rfl (by first|rfl|assumption|(simp only [znl,znA5];(first|done|fail)))|exact ya5|exact ya7|exact jy|exact jz|refine jA ?_|refine ya9 ?_ ?_ ?_|refine jC rfl (by first|rfl|assumption|(simp only [znl,znA5];(first|done|fail)))|refine MR.agg (MRL.cons ?_ ?_)|refine MR.fn ?_|refine MRL.cons ?_ ?_|exact MRL.nil|refine jE ?_ ?_|exact jF|exact jG|refine yb1 ?_ ?_|refine MB.row ?_|refine jI ?_ ?_|exact ya8|refine jJ rfl (by first|rfl|assumption|(simp only [znl,znA5];(first|done|fail)))|refine yb2 ?_|rfl)|(simp only [znl,znA5];(first|done|fail))|(simp only [↓reduceIte,zlk,Nat.reduceEqDiff,reduceCtorEq])|(with_reducible first|refine jJ ?_ ?_|refine ya5 ?_|refine ju ?_|refine jv ?_|refine jw ?_|refine jx ?_ (by first|rfl|assumption|(simp only [znl,znA5];(first|done|fail)))|refine jC ?_ (by first|rfl|assumption|(simp only [znl,znA5];(first|done|fail)))))))
        all_goals (first | rfl)
      by_cases hlt : k < 3
      · have hsn := linesTo_snoc x y z pd qd rd n k
        have hb8 := B8_u8n (k + 1) (by omega)
        obtain ⟨t, ht⟩ : ∃ t, t = u8n (k + 1) := ⟨_, rfl⟩
        rw [← ht] at hsn hb8
        have hv := fun i h => hat i h t
        have hLl := lineP_len x y z pd qd rd n t
        have hJk := hJ k
        have hJb : k * n ≤ 2 * n := Nat.mul_le_mul_right n (by omega)
        clear hJ hat eJ
        generalize lineP x y z pd qd rd n t = L at hsn hv hLl
        have htl : L.take n = L := by rw [← hLl]; exact List.take_length
        generalize linesTo x y z pd qd rd n k = J at hsn hJk ⊢
        repeat' (first|(with_reducible first|refine yrl (by constructor) ?_|refine jk (fun M hM=>?_)|(refine hM _ ?_;clear hM M)|refine xb3 (by decide) ?_|refine yqa (by assumption) ?_ ?_|refine yqb (by assumption) ?_ ?_)|((with_reducible refine je ?_)<;>(first|rfl|assumption|(simp only [znl,znA5];(first|done|fail))))|(with_reducible refine jf (by (simp only [↓reduceIte,zlk,Nat.reduceEqDiff,reduceCtorEq]);exact rfl) ?_)|((with_reducible first|refine jg (fun hc=>?_) (fun hc=>?_)|refine jh (fun hc=>?_) (fun hc=>?_))<;>(try simp (disch:=omega) only [zhb] at hc)<;>(try (exfalso;omega))<;>(try subst hc))|(with_reducible refine ji (by omega) ?_)|(simp (config := { maxSteps := 400000 }) only [↓jt,↓reduceIte,zvs,reduceCtorEq,Nat.reduceEqDiff,Nat.reduceAdd,Nat.reduceLeDiff,Nat.reduceMul,Int.reduceBNe,Int.reduceBEq,Int.reduceEq,Int.reduceNe,Int.reduceLT,Int.reduceLE,Int.reduceGT,Int.reduceGE,Int.reduceNeg,Int.reduceToNat,Nat.reduceLT,Nat.reduceSub,tab,Try.results17,jTA])|(simp (disch:=omega) only [ziw]))
        all_goals (try (exfalso; omega))
        refine ok_loop (fun i : Nat => ⟨slots [(1, .int .i64 s), (6, .int .i64 n), (7, .dat prtSh [.agg [.int .i64 (B8 x), .str pd], .agg [.int .i64 (B8 y), .str qd], .agg [.int .i64 (B8 z), .str rd]]), (9, .sl (some (0, [], 0)) 3), (10, .sl (some (1, [], 0)) (J ++ L.take i).length), (11, .int .i64 (k + 1)), (12, .int .i64 i)], rows [(0, .row (.arr 3 .cell) (.agg [.int .u8 (B8 x), .int .u8 (B8 y), .int .u8 (B8 z)])), (1, .row (.arr (J ++ L.take i).length .cell) (.agg ((J ++ L.take i).map encU)))], 2⟩) (fun i => i ≤ n) (fun i => n - i) 0 ?_ (Nat.zero_le _) (fun i hi => ?_)
        · rw [List.take_zero, List.append_nil]
          (refine yrn [(0, 0), (1, 1)] false ?_ ?_<;>(repeat' (first|(with_reducible first|exact ya1|exact ya2|exact ya3|refine jx rfl (by first|rfl|assumption|(simp only [znl,znA5];(first|done|fail)))|exact ya5|exact ya7|exact jy|exact jz|refine jA ?_|refine ya9 ?_ ?_ ?_|refine jC rfl (by first|rfl|assumption|(simp only [znl,znA5];(first|done|fail)))|refine MR.agg (MRL.cons ?_ ?_)|refine MR.fn ?_|refine MRL.cons ?_ ?_|exact MRL.nil|refine jE ?_ ?_|exact jF|exact jG|refine yb1 ?_ ?_|refine MB.row ?_|refine jI ?_ ?_|exact ya8|refine jJ rfl (by first|rfl|assumption|(simp only [znl,znA5];(first|done|fail)))|refine yb2 ?_|rfl)|(simp only [znl,znA5];(first|done|fail))|(simp only [↓reduceIte,zlk,Nat.reduceEqDiff,reduceCtorEq])|(with_reducible first|refine jJ ?_ ?_|refine ya5 ?_|refine ju ?_|refine jv ?_|refine jw ?_|refine jx ?_ (by first|rfl|assumption|(simp only [znl,znA5];(first|done|fail)))|refine jC ?_ (by first|rfl|assumption|(simp only [znl,znA5];(first|done|fail)))))))
          all_goals (first | rfl)
        by_cases hli : i < n
        · have hsi := take_snocU L i (by omega)
          have hll : (J ++ L.take i).length = k * n + i := by rw [List.length_append, hJk, List.length_take, hLl]; omega
          have h4 := rat_spec [x, y, z] [nth pd i, nth qd i, nth rd i] (by simp) (by simp) t
          rw [← hv i hli, hb8] at h4
          have e2 : ∀ a b c : UInt8, [a, b, c].map encU = [.int .u8 (B8 a), .int .u8 (B8 b), .int .u8 (B8 c)] := fun _ _ _ => rfl
          simp only [encBs,e2] at h4
          push_cast at h4
          have hJ2 : J ++ L.take (i + 1) = (J ++ L.take i) ++ [nth L i] := by rw [hsi, List.append_assoc]
          have hTv : (J ++ L.take i).map encU ++ [.int .u8 (B8 (nth L i))] = (J ++ L.take (i + 1)).map encU := by rw [hJ2]; exact (snocU _ _).symm
          have hTl : (J ++ L.take (i + 1)).length = (J ++ L.take i).length + 1 := by rw [hJ2]; exact snocL _ _
          clear hJ2
          generalize J ++ L.take i = T at hll hTv hTl ⊢
          generalize nth L i = v at h4 hTv
          repeat' (first|(with_reducible first|refine yrl (by constructor) ?_|refine jk (fun M hM=>?_)|(refine hM _ ?_;clear hM M)|refine xb3 (by decide) ?_|refine yqa (by assumption) ?_ ?_|refine yqb (by assumption) ?_ ?_)|((with_reducible refine je ?_)<;>(first|rfl|assumption|(simp only [znl,znA5];(first|done|fail))))|(with_reducible refine jf (by (simp only [↓reduceIte,zlk,Nat.reduceEqDiff,reduceCtorEq]);exact rfl) ?_)|((with_reducible first|refine jg (fun hc=>?_) (fun hc=>?_)|refine jh (fun hc=>?_) (fun hc=>?_))<;>(try simp (disch:=omega) only [zhb] at hc)<;>(try (exfalso;omega))<;>(try subst hc))|(with_reducible refine ji (by omega) ?_)|(simp (config := { maxSteps := 400000 }) only [↓jt,↓reduceIte,zvs,reduceCtorEq,Nat.reduceEqDiff,Nat.reduceAdd,Nat.reduceLeDiff,Nat.reduceMul,Int.reduceBNe,Int.reduceBEq,Int.reduceEq,Int.reduceNe,Int.reduceLT,Int.reduceLE,Int.reduceGT,Int.reduceGE,Int.reduceNeg,Int.reduceToNat,Nat.reduceLT,Nat.reduceSub,tab,Try.results17,jTA])|(simp (disch:=omega) only [ziw]))
          all_goals (try (exfalso; omega))
          refine ok_drawC 27 (by kernel_rfl) (by decide +kernel) (by intro m hm; simp only [upd_ap,rows_cons,rows_nil]; (repeat (first | rfl | rw [if_neg (by omega)]))) (fun M hM => ?_); simp only [List.take_succ_cons,List.take_zero,List.drop_succ_cons,List.drop_zero]
          repeat' (first|(with_reducible first|refine yrl (by constructor) ?_|refine jk (fun M hM=>?_)|(refine hM _ ?_;clear hM M)|refine xb3 (by decide) ?_|refine yqa (by assumption) ?_ ?_|refine yqb (by assumption) ?_ ?_)|((with_reducible refine je ?_)<;>(first|rfl|assumption|(simp only [znl,znA5];(first|done|fail))))|(with_reducible refine jf (by (simp only [↓reduceIte,zlk,Nat.reduceEqDiff,reduceCtorEq]);exact rfl) ?_)|((with_reducible first|refine jg (fun hc=>?_) (fun hc=>?_)|refine jh (fun hc=>?_) (fun hc=>?_))<;>(try simp (disch:=omega) only [zhb] at hc)<;>(try (exfalso;omega))<;>(try subst hc))|(with_reducible refine ji (by omega) ?_)|(simp (config := { maxSteps := 400000 }) only [↓jt,↓reduceIte,zvs,reduceCtorEq,Nat.reduceEqDiff,Nat.reduceAdd,Nat.reduceLeDiff,Nat.reduceMul,Int.reduceBNe,Int.reduceBEq,Int.reduceEq,Int.reduceNe,Int.reduceLT,Int.reduceLE,Int.reduceGT,Int.reduceGE,Int.reduceNeg,Int.reduceToNat,Nat.reduceLT,Nat.reduceSub,tab,nthB,Try.results17,jTA])|(simp (disch:=omega) only [ziw]))
          refine jb (hcall_read (h4) rfl (by repeat (first | exact rdl_nil | refine rdl_cons ?_ ?_ | exact Rd.refl _ _ (by first|rfl|assumption|(simp only [znl,znA5];(first|done|fail))) | (refine rd_own (by (simp only [↓reduceIte,zlk,Nat.reduceEqDiff,reduceCtorEq,setParts,rep_one,rep_two,rep_three,List.set_cons_zero,List.set_cons_succ,List.map_cons,List.map_nil]); exact rfl) (by first | rfl | (simp; done) | (simp; omega)) rfl (by first|rfl|assumption|(simp only [znl,znA5];(first|done|fail)))) | (refine rd_pre (by (simp only [↓reduceIte,zlk,Nat.reduceEqDiff,reduceCtorEq,setParts,rep_one,rep_two,rep_three,List.set_cons_zero,List.set_cons_succ,List.map_cons,List.map_nil]); exact rfl) (by first | (simp; done) | (simp; omega)) (by first | rfl | (simp; done)) (by first|rfl|assumption|(simp only [znl,znA5];(first|done|fail)))) | exact rd_nil | refine (rd_a _ _ _).mpr ?_)) rfl) ?_
          repeat' (first|(with_reducible first|refine yrl (by constructor) ?_|refine jk (fun M hM=>?_)|(refine hM _ ?_;clear hM M)|refine xb3 (by decide) ?_|refine yqa (by assumption) ?_ ?_|refine yqb (by assumption) ?_ ?_)|((with_reducible refine je ?_)<;>(first|rfl|assumption|(simp only [znl,znA5];(first|done|fail))))|(with_reducible refine jf (by (simp only [↓reduceIte,zlk,Nat.reduceEqDiff,reduceCtorEq]);exact rfl) ?_)|((with_reducible first|refine jg (fun hc=>?_) (fun hc=>?_)|refine jh (fun hc=>?_) (fun hc=>?_))<;>(try simp (disch:=omega) only [zhb] at hc)<;>(try (exfalso;omega))<;>(try subst hc))|(with_reducible refine ji (by omega) ?_)|(simp (config := { maxSteps := 400000 }) only [↓jt,↓reduceIte,zvs,reduceCtorEq,Nat.reduceEqDiff,Nat.reduceAdd,Nat.reduceLeDiff,Nat.reduceMul,Int.reduceBNe,Int.reduceBEq,Int.reduceEq,Int.reduceNe,Int.reduceLT,Int.reduceLE,Int.reduceGT,Int.reduceGE,Int.reduceNeg,Int.reduceToNat,Nat.reduceLT,Nat.reduceSub,tab,nthB,Try.results17,jTA])|(simp (disch:=omega) only [ziw]))
          refine xl1 (i + 1) ?_ (by show i + 1 ≤ n; omega) (by show n - (i + 1) < n - i; omega)
          (refine yrn [(0, 0), (1, 1731)] false ?_ ?_<;>(repeat' (first|(with_reducible first|exact ya1|exact ya2|exact ya3|refine jx rfl (by first|rfl|assumption|(simp only [znl,znA5];(first|done|fail)))|exact ya5|exact ya7|exact jy|exact jz|refine jA ?_|refine ya9 ?_ ?_ ?_|refine jC rfl (by first|rfl|assumption|(simp only [znl,znA5];(first|done|fail)))|refine MR.agg (MRL.cons ?_ ?_)|refine MR.fn ?_|refine MRL.cons ?_ ?_|exact MRL.nil|refine jE ?_ ?_|exact jF|exact jG|refine yb1 ?_ ?_|refine MB.row ?_|refine jI ?_ ?_|exact ya8|refine jJ rfl (by first|rfl|assumption|(simp only [znl,znA5];(first|done|fail)))|refine yb2 ?_|rfl)|(simp only [znl,znA5];(first|done|fail))|(simp only [↓reduceIte,zlk,Nat.reduceEqDiff,reduceCtorEq])|(with_reducible first|refine jJ ?_ ?_|refine ya5 ?_|refine ju ?_|refine jv ?_|refine jw ?_|refine jx ?_ (by first|rfl|assumption|(simp only [znl,znA5];(first|done|fail)))|refine jC ?_ (by first|rfl|assumption|(simp only [znl,znA5];(first|done|fail)))))))
          all_goals (first | rfl | exact hTv | omega)
        · obtain rfl : i = n := by omega
          rw [htl]
          repeat' (first|(with_reducible first|refine yrl (by constructor) ?_|refine jk (fun M hM=>?_)|(refine hM _ ?_;clear hM M)|refine xb3 (by decide) ?_|refine yqa (by assumption) ?_ ?_|refine yqb (by assumption) ?_ ?_)|((with_reducible refine je ?_)<;>(first|rfl|assumption|(simp only [znl,znA5];(first|done|fail))))|(with_reducible refine jf (by (simp only [↓reduceIte,zlk,Nat.reduceEqDiff,reduceCtorEq]);exact rfl) ?_)|((with_reducible first|refine jg (fun hc=>?_) (fun hc=>?_)|refine jh (fun hc=>?_) (fun hc=>?_))<;>(try simp (disch:=omega) only [zhb] at hc)<;>(try (exfalso;omega))<;>(try subst hc))|(with_reducible refine ji (by omega) ?_)|(simp (config := { maxSteps := 400000 }) only [↓jt,↓reduceIte,zvs,reduceCtorEq,Nat.reduceEqDiff,Nat.reduceAdd,Nat.reduceLeDiff,Nat.reduceMul,Int.reduceBNe,Int.reduceBEq,Int.reduceEq,Int.reduceNe,Int.reduceLT,Int.reduceLE,Int.reduceGT,Int.reduceGE,Int.reduceNeg,Int.reduceToNat,Nat.reduceLT,Nat.reduceSub,tab,Try.results17,jTA])|(simp (disch:=omega) only [ziw]))
          all_goals first
            | (exfalso; omega)
            | (refine xl1 (k + 1) ?_ (by show k + 1 ≤ 3; omega) (by show 3 - (k + 1) < 3 - k; omega); (refine yrn [(0, 0), (1, 1)] false ?_ ?_<;>(repeat' (first|(with_reducible first|exact ya1|exact ya2|exact ya3|refine jx rfl (by first|rfl|assumption|(simp only [znl,znA5];(first|done|fail)))|exact ya5|exact ya7|exact jy|exact jz|refine jA ?_|refine ya9 ?_ ?_ ?_|refine jC rfl (by first|rfl|assumption|(simp only [znl,znA5];(first|done|fail)))|refine MR.agg (MRL.cons ?_ ?_)|refine MR.fn ?_|refine MRL.cons ?_ ?_|exact MRL.nil|refine jE ?_ ?_|exact jF|exact jG|refine yb1 ?_ ?_|refine MB.row ?_|refine jI ?_ ?_|exact ya8|refine jJ rfl (by first|rfl|assumption|(simp only [znl,znA5];(first|done|fail)))|refine yb2 ?_|rfl)|(simp only [znl,znA5];(first|done|fail))|(simp only [↓reduceIte,zlk,Nat.reduceEqDiff,reduceCtorEq])|(with_reducible first|refine jJ ?_ ?_|refine ya5 ?_|refine ju ?_|refine jv ?_|refine jw ?_|refine jx ?_ (by first|rfl|assumption|(simp only [znl,znA5];(first|done|fail)))|refine jC ?_ (by first|rfl|assumption|(simp only [znl,znA5];(first|done|fail))))))); all_goals (first | rfl | omega | (rw [hsn]; done) | (rw [hsn, List.length_append]; done)); done)
      · obtain rfl : k = 3 := by omega
        have hJ3 := hJ 3
        generalize linesTo x y z pd qd rd n 3 = J at hJ3 ⊢
        have hbo := bytesOf_u (J.take s)
        have htk : (J.map encU).take s = (J.take s).map encU := List.map_take.symm
        repeat' (first|(with_reducible first|refine yrl (by constructor) ?_|refine jk (fun M hM=>?_)|(refine hM _ ?_;clear hM M)|refine xb3 (by decide) ?_|refine yqa (by assumption) ?_ ?_|refine yqb (by assumption) ?_ ?_)|((with_reducible refine je ?_)<;>(first|rfl|assumption|(simp only [znl,znA5];(first|done|fail))))|(with_reducible refine jf (by (simp only [↓reduceIte,zlk,Nat.reduceEqDiff,reduceCtorEq]);exact rfl) ?_)|((with_reducible first|refine jg (fun hc=>?_) (fun hc=>?_)|refine jh (fun hc=>?_) (fun hc=>?_))<;>(try simp (disch:=omega) only [zhb] at hc)<;>(try (exfalso;omega))<;>(try subst hc))|(with_reducible refine ji (by omega) ?_)|(simp (config := { maxSteps := 400000 }) only [↓jt,↓reduceIte,zvs,reduceCtorEq,Nat.reduceEqDiff,Nat.reduceAdd,Nat.reduceLeDiff,Nat.reduceMul,Int.reduceBNe,Int.reduceBEq,Int.reduceEq,Int.reduceNe,Int.reduceLT,Int.reduceLE,Int.reduceGT,Int.reduceGE,Int.reduceNeg,Int.reduceToNat,Nat.reduceLT,Nat.reduceSub,tab,hbo,htk,Try.results17,jTA])|(simp (disch:=omega) only [ziw]))
        all_goals first
          | (exfalso; omega)
          | (((try simp only [joinRV,List.map_nil]); simp only [zrds]; (repeat' (first | exact rd_nil | exact Rd.refl _ _ (by first|rfl|assumption|(simp only [znl,znA5];(first|done|fail))) | (refine And.intro ?_ ?_) | (refine rd_own (by (simp only [↓reduceIte,zlk,Nat.reduceEqDiff,reduceCtorEq]); exact rfl) ?_ ?_ ?_) | rfl | assumption | (simp only [znl,znA5];(first|done|fail)) | (simp; done) | (simp; omega)))); done)
    | [], h3, _, _ => cases h3
    | [_], h3, _, _ => cases h3
    | [_, _], h3, _, _ => cases h3
    | _ :: _ :: _ :: _ :: _, h3, _, _ => simp at h3
  · have eE : (match (rs, e) with
      | ([p, q, r], 0) => (joinP p q r n s, (0 : Int))
      | (_, e) => ([], e)) = ([], e) := by
      split
      · rename_i h; injection h with _ h; exact absurd h he
      · rename_i h; injection h with _ h; rw [h]
    rw [eE]
    refine spec_ok Try.func17 rfl rfl (by kernel_rfl) (k := 2) rfl (by decide) ?_
    repeat' (first|(with_reducible first|refine yrl (by constructor) ?_|refine jk (fun M hM=>?_)|(refine hM _ ?_;clear hM M)|refine xb3 (by decide) ?_|refine yqa (by assumption) ?_ ?_|refine yqb (by assumption) ?_ ?_)|((with_reducible refine je ?_)<;>(first|rfl|assumption|(simp only [znl,znA5];(first|done|fail))))|(with_reducible refine jf (by (simp only [↓reduceIte,zlk,Nat.reduceEqDiff,reduceCtorEq]);exact rfl) ?_)|((with_reducible first|refine jg (fun hc=>?_) (fun hc=>?_)|refine jh (fun hc=>?_) (fun hc=>?_))<;>(try simp (disch:=omega) only [zhb] at hc)<;>(try (exfalso;omega))<;>(try subst hc))|(with_reducible refine ji (by omega) ?_)|(simp (config := { maxSteps := 400000 }) only [↓jt,↓reduceIte,zvs,reduceCtorEq,Nat.reduceEqDiff,Nat.reduceAdd,Nat.reduceLeDiff,Nat.reduceMul,Int.reduceBNe,Int.reduceBEq,Int.reduceEq,Int.reduceNe,Int.reduceLT,Int.reduceLE,Int.reduceGT,Int.reduceGE,Int.reduceNeg,Int.reduceToNat,Nat.reduceLT,Nat.reduceSub,tab,Try.results17,jTA])|(simp (disch:=omega) only [ziw]))
    all_goals first
      | (exfalso; omega)
      | (((try simp only [joinRV,List.map_nil]); simp only [zrds]; (repeat' (first | exact rd_nil | exact Rd.refl _ _ (by first|rfl|assumption|(simp only [znl,znA5];(first|done|fail))) | (refine And.intro ?_ ?_) | (refine rd_own (by (simp only [↓reduceIte,zlk,Nat.reduceEqDiff,reduceCtorEq]); exact rfl) ?_ ?_ ?_) | rfl | assumption | (simp only [znl,znA5];(first|done|fail)) | (simp; done) | (simp; omega)))); done)
theorem rsame7_spec (l : List Prt) (hl : l.length < 2 ^ 36) : Spec Try.prog 10 [encPrts l, encPrts l] (.bool true) := by
  have hv : ∀ (a : Int) (s : List UInt8), veq (.agg [.int .i64 a, .str s]) (.agg [.int .i64 a, .str s]) = true := fun a s => by simp [veq, veqs]
  have hf : ∀ (a : Int) (s : List UInt8), Fit (.st [.int .i64, .str]) (.agg [.int .i64 a, .str s]) := fun a s => by simp [Fit, FitL]
  refine spec_ok Try.func10 rfl rfl (by kernel_rfl) (k := 2) rfl (by decide) ?_
  repeat' (first|(with_reducible first|refine yrl (by constructor) ?_|refine jk (fun M hM=>?_)|(refine hM _ ?_;clear hM M)|refine xb3 (by decide) ?_|refine yqa (by assumption) ?_ ?_|refine yqb (by assumption) ?_ ?_)|((with_reducible refine je ?_)<;>(first|rfl|assumption|(simp only [znl,znA5];(first|done|fail))))|(with_reducible refine jf (by (simp only [↓reduceIte,zlk,Nat.reduceEqDiff,reduceCtorEq]);exact rfl) ?_)|((with_reducible first|refine jg (fun hc=>?_) (fun hc=>?_)|refine jh (fun hc=>?_) (fun hc=>?_))<;>(try simp (disch:=omega) only [zhb] at hc)<;>(try (exfalso;omega))<;>(try subst hc))|(with_reducible refine ji (by omega) ?_)|(simp (config := { maxSteps := 400000 }) only [↓jt,↓reduceIte,zvs,reduceCtorEq,Nat.reduceEqDiff,Nat.reduceAdd,Nat.reduceLeDiff,Nat.reduceMul,Int.reduceBNe,Int.reduceBEq,Int.reduceEq,Int.reduceNe,Int.reduceLT,Int.reduceLE,Int.reduceGT,Int.reduceGE,Int.reduceNeg,Int.reduceToNat,Nat.reduceLT,Nat.reduceSub,tab,Try.results10,jTA])|(simp (disch:=omega) only [ziw]))
  refine ok_loop (fun k : Nat => ⟨slots [(0, encPrts l), (1, encPrts l), (5, .int .i64 k)], rows [], 0⟩) (fun k => k ≤ l.length) (fun k => l.length - k) 0 ?_ (Nat.zero_le _) (fun k hk => ?_)
  · (refine yrn [] false ?_ ?_<;>(repeat' (first|(with_reducible first|exact ya1|exact ya2|exact ya3|refine jx rfl (by first|rfl|assumption|(simp only [znl,znA5];(first|done|fail)))|exact ya5|exact ya7|exact jy|exact jz|refine jA ?_|refine ya9 ?_ ?_ ?_|refine jC rfl (by first|rfl|assumption|(simp only [znl,znA5];(first|done|fail)))|refine MR.agg (MRL.cons ?_ ?_)|refine MR.fn ?_|refine MRL.cons ?_ ?_|exact MRL.nil|refine jE ?_ ?_|exact jF|exact jG|refine yb1 ?_ ?_|refine MB.row ?_|refine jI ?_ ?_|exact ya8|refine jJ rfl (by first|rfl|assumption|(simp only [znl,znA5];(first|done|fail)))|refine yb2 ?_|rfl)|(simp only [znl,znA5];(first|done|fail))|(simp only [↓reduceIte,zlk,Nat.reduceEqDiff,reduceCtorEq])|(with_reducible first|refine jJ ?_ ?_|refine ya5 ?_|refine ju ?_|refine jv ?_|refine jw ?_|refine jx ?_ (by first|rfl|assumption|(simp only [znl,znA5];(first|done|fail)))|refine jC ?_ (by first|rfl|assumption|(simp only [znl,znA5];(first|done|fail)))))))
    all_goals (first | rfl)
  by_cases hlt : k < l.length
  · have hg := getP hlt
    repeat' (first|(with_reducible first|refine yrl (by constructor) ?_|refine jk (fun M hM=>?_)|(refine hM _ ?_;clear hM M)|refine xb3 (by decide) ?_|refine yqa (by assumption) ?_ ?_|refine yqb (by assumption) ?_ ?_)|((with_reducible refine je ?_)<;>(first|rfl|assumption|(simp only [znl,znA5];(first|done|fail))))|(with_reducible refine jf (by (simp only [↓reduceIte,zlk,Nat.reduceEqDiff,reduceCtorEq]);exact rfl) ?_)|((with_reducible first|refine jg (fun hc=>?_) (fun hc=>?_)|refine jh (fun hc=>?_) (fun hc=>?_))<;>(try simp (disch:=omega) only [zhb] at hc)<;>(try (exfalso;omega))<;>(try subst hc))|(with_reducible refine ji (by omega) ?_)|(simp (config := { maxSteps := 400000 }) only [↓jt,↓reduceIte,zvs,reduceCtorEq,Nat.reduceEqDiff,Nat.reduceAdd,Nat.reduceLeDiff,Nat.reduceMul,Int.reduceBNe,Int.reduceBEq,Int.reduceEq,Int.reduceNe,Int.reduceLT,Int.reduceLE,Int.reduceGT,Int.reduceGE,Int.reduceNeg,Int.reduceToNat,Nat.reduceLT,Nat.reduceSub,tab,hg,Try.results10,jTA])|(simp (disch:=omega) only [ziw]))
    all_goals (try (exfalso; omega))
    refine ok_drawC 8 (by kernel_rfl) (by decide +kernel) (by intro m hm; simp only [upd_ap,rows_cons,rows_nil]; (repeat (first | rfl | rw [if_neg (by omega)]))) (fun M hM => ?_); simp only [List.take_succ_cons,List.take_zero,List.drop_succ_cons,List.drop_zero]
    repeat' (first|(with_reducible first|refine yrl (by constructor) ?_|refine jk (fun M hM=>?_)|(refine hM _ ?_;clear hM M)|refine xb3 (by decide) ?_|refine yqa (by assumption) ?_ ?_|refine yqb (by assumption) ?_ ?_)|((with_reducible refine je ?_)<;>(first|rfl|assumption|(simp only [znl,znA5];(first|done|fail))))|(with_reducible refine jf (by (simp only [↓reduceIte,zlk,Nat.reduceEqDiff,reduceCtorEq]);exact rfl) ?_)|((with_reducible first|refine jg (fun hc=>?_) (fun hc=>?_)|refine jh (fun hc=>?_) (fun hc=>?_))<;>(try simp (disch:=omega) only [zhb] at hc)<;>(try (exfalso;omega))<;>(try subst hc))|(with_reducible refine ji (by omega) ?_)|(simp (config := { maxSteps := 400000 }) only [↓jt,↓reduceIte,zvs,reduceCtorEq,Nat.reduceEqDiff,Nat.reduceAdd,Nat.reduceLeDiff,Nat.reduceMul,Int.reduceBNe,Int.reduceBEq,Int.reduceEq,Int.reduceNe,Int.reduceLT,Int.reduceLE,Int.reduceGT,Int.reduceGE,Int.reduceNeg,Int.reduceToNat,Nat.reduceLT,Nat.reduceSub,tab,hg,hv,hf,Try.results10,jTA])|(simp (disch:=omega) only [ziw]))
    all_goals first
      | (exfalso; omega)
      | (refine xl1 (k + 1) ?_ (by show k + 1 ≤ l.length; omega) (by show l.length - (k + 1) < l.length - k; omega); (refine yrn [] false ?_ ?_<;>(repeat' (first|(with_reducible first|exact ya1|exact ya2|exact ya3|refine jx rfl (by first|rfl|assumption|(simp only [znl,znA5];(first|done|fail)))|exact ya5|exact ya7|exact jy|exact jz|refine jA ?_|refine ya9 ?_ ?_ ?_|refine jC rfl (by first|rfl|assumption|(simp only [znl,znA5];(first|done|fail)))|refine MR.agg (MRL.cons ?_ ?_)|refine MR.fn ?_|refine MRL.cons ?_ ?_|exact MRL.nil|refine jE ?_ ?_|exact jF|exact jG|refine yb1 ?_ ?_|refine MB.row ?_|refine jI ?_ ?_|exact ya8|refine jJ rfl (by first|rfl|assumption|(simp only [znl,znA5];(first|done|fail)))|refine yb2 ?_|rfl)|(simp only [znl,znA5];(first|done|fail))|(simp only [↓reduceIte,zlk,Nat.reduceEqDiff,reduceCtorEq])|(with_reducible first|refine jJ ?_ ?_|refine ya5 ?_|refine ju ?_|refine jv ?_|refine jw ?_|refine jx ?_ (by first|rfl|assumption|(simp only [znl,znA5];(first|done|fail)))|refine jC ?_ (by first|rfl|assumption|(simp only [znl,znA5];(first|done|fail))))))); all_goals (first | rfl); done)
  · obtain rfl : k = l.length := by omega
    repeat' (first|(with_reducible first|refine yrl (by constructor) ?_|refine jk (fun M hM=>?_)|(refine hM _ ?_;clear hM M)|refine xb3 (by decide) ?_|refine yqa (by assumption) ?_ ?_|refine yqb (by assumption) ?_ ?_)|((with_reducible refine je ?_)<;>(first|rfl|assumption|(simp only [znl,znA5];(first|done|fail))))|(with_reducible refine jf (by (simp only [↓reduceIte,zlk,Nat.reduceEqDiff,reduceCtorEq]);exact rfl) ?_)|((with_reducible first|refine jg (fun hc=>?_) (fun hc=>?_)|refine jh (fun hc=>?_) (fun hc=>?_))<;>(try simp (disch:=omega) only [zhb] at hc)<;>(try (exfalso;omega))<;>(try subst hc))|(with_reducible refine ji (by omega) ?_)|(simp (config := { maxSteps := 400000 }) only [↓jt,↓reduceIte,zvs,reduceCtorEq,Nat.reduceEqDiff,Nat.reduceAdd,Nat.reduceLeDiff,Nat.reduceMul,Int.reduceBNe,Int.reduceBEq,Int.reduceEq,Int.reduceNe,Int.reduceLT,Int.reduceLE,Int.reduceGT,Int.reduceGE,Int.reduceNeg,Int.reduceToNat,Nat.reduceLT,Nat.reduceSub,tab,Try.results10,jTA])|(simp (disch:=omega) only [ziw]))
    all_goals first
      | (exfalso; omega)
      | (simp only [zrds]; done)
end Go.Proofs.Ytoibnghkcdopeaa.V
end
section
namespace Go.Proofs.Ytoibnghkcdopeaa.V
open Go Go.Proofs.Ytoibnghkcdopeaa Go.Proofs.Ytoibnghkcdopeaa.Gf
set_option maxRecDepth 100000
def znA6 := And.intro @nls_u <| And.intro @nls_prt <| And.intro @nl_prt <| True.intro
set_option maxHeartbeats 4000000
def wts (w0 w1 w2 : UInt8) : Nat → List UInt8
  | 0 => [0, 0, 0]
  | 1 => [w0, 0, 0]
  | 2 => [w0, w1, 0]
  | _ => [w0, w1, w2]
def prt3 (p0 p1 p2 : UInt8) : Nat → UInt8
  | 0 => 0
  | 1 => p0
  | 2 => p0 ^^^ p1
  | _ => (p0 ^^^ p1) ^^^ p2
theorem fillU_same (n k : Nat) (f : Nat → UInt8) (h : k < n) : (fillU n k f).set k 0 = fillU n k f := by
  unfold fillU
  rw [List.set_append_right _ _ (by rw [tabU_len]; exact Nat.le_refl _), tabU_len, Nat.sub_self, show n - k = (n - (k + 1)) + 1 by omega, List.replicate_succ, List.set_cons_zero]
theorem line_spec (x y z : UInt8) (hne : x ≠ y ∧ x ≠ z ∧ y ≠ z) (a b c : List UInt8) (n : Nat) (hn : n ≤ 100000) (ha : a.length = n) (hb : b.length = n) (hc : c.length = n) (t : UInt8) :
    Spec Try.prog 33 [.agg [.int .u8 (B8 x), .int .u8 (B8 y), .int .u8 (B8 z)], .agg [.str a, .str b, .str c], .int .u8 (B8 t)] (.str (lineP x y z a b c n t)) := by
  obtain ⟨f, hf⟩ : ∃ f : Nat → UInt8, f = fun i => lag [x, y, z] [nth a i, nth b i, nth c i] t := ⟨_, rfl⟩
  have hL : lineP x y z a b c n t = tabU n f := by rw [hf]; rfl
  rw [hL]
  obtain ⟨w0, h0⟩ : ∃ w, w = lag [x, y, z] [1, 0, 0] t := ⟨_, rfl⟩
  obtain ⟨w1, h1⟩ : ∃ w, w = lag [x, y, z] [0, 1, 0] t := ⟨_, rfl⟩
  obtain ⟨w2, h2⟩ : ∃ w, w = lag [x, y, z] [0, 0, 1] t := ⟨_, rfl⟩
  have A0 := at_spec [x, y, z] [1, 0, 0] (by simp) (by simp) t
  have A1 := at_spec [x, y, z] [0, 1, 0] (by simp) (by simp) t
  have A2 := at_spec [x, y, z] [0, 0, 1] (by simp) (by simp) t
  rw [val3 hne, ← h0] at A0
  rw [val3 hne, ← h1] at A1
  rw [val3 hne, ← h2] at A2
  have hfi : ∀ i, (mul w0 (nth a i) ^^^ mul w1 (nth b i)) ^^^ mul w2 (nth c i) = f i := fun i => by
    rw [h0, h1, h2, hf]; exact lag3_lin hne.1 hne.2.1 hne.2.2 _ _ _ _
  have e2 : ∀ a b c : UInt8, [a, b, c].map encU = [.int .u8 (B8 a), .int .u8 (B8 b), .int .u8 (B8 c)] := fun _ _ _ => rfl
  have b0 : B8 0 = 0 := rfl
  have b1 : B8 1 = 1 := rfl
  simp only [encBs,e2,b0,b1] at A0 A1 A2
  clear h0 h1 h2 hf hL
  have hX : Has (.arr 3 .cell) (.agg [.int .u8 (B8 x), .int .u8 (B8 y), .int .u8 (B8 z)]) := by simp [Has, VV.leaf]
  have hF : Has (.arr 3 .cell) (.agg [.str a, .str b, .str c]) := by simp [Has, VV.leaf]
  refine spec_ok Try.func33 rfl rfl (by kernel_rfl) (k := 3) rfl (by decide) ?_
  repeat' (first|(with_reducible first|refine yrl (by constructor) ?_|refine jk (fun M hM=>?_)|(refine hM _ ?_;clear hM M)|refine xb3 (by decide) ?_|refine yqa (by assumption) ?_ ?_|refine yqb (by assumption) ?_ ?_)|((with_reducible refine je ?_)<;>(first|rfl|assumption|(simp only [znl,znA6];(first|done|fail))))|(with_reducible refine jf (by (simp only [↓reduceIte,zlk,Nat.reduceEqDiff,reduceCtorEq]);exact rfl) ?_)|((with_reducible first|refine jg (fun hc=>?_) (fun hc=>?_)|refine jh (fun hc=>?_) (fun hc=>?_))<;>(try simp (disch:=omega) only [zhb] at hc)<;>(try (exfalso;omega))<;>(try subst hc))|(with_reducible refine ji (by omega) ?_)|(simp (config := { maxSteps := 400000 }) only [↓jt,↓reduceIte,zvs,reduceCtorEq,Nat.reduceEqDiff,Nat.reduceAdd,Nat.reduceLeDiff,Nat.reduceMul,Int.reduceBNe,Int.reduceBEq,Int.reduceEq,Int.reduceNe,Int.reduceLT,Int.reduceLE,Int.reduceGT,Int.reduceGE,Int.reduceNeg,Int.reduceToNat,Nat.reduceLT,Nat.reduceSub,tab,hX,hF,Try.results33,jTA])|(simp (disch:=omega) only [ziw]))
  refine ok_loop (fun k : Nat => ⟨slots [(2, .int .u8 (B8 t)), (3, .ptr 0 []), (4, .ptr 1 []), (6, .str []), (7, .ptr 2 []), (14, .int .i64 k)], rows [(0, .row (.arr 3 .cell) (.agg [.int .u8 (B8 x), .int .u8 (B8 y), .int .u8 (B8 z)])), (1, .row (.arr 3 .cell) (.agg [.str a, .str b, .str c])), (2, .row (.arr 3 .cell) (.agg ((wts w0 w1 w2 k).map encU)))], 3⟩) (fun k => k ≤ 3) (fun k => 3 - k) 0 ?_ (Nat.zero_le _) (fun k hk => ?_)
  · (refine yrn [(0, 0), (1, 1), (2, 2)] false ?_ ?_<;>(repeat' (first|(with_reducible first|exact ya1|exact ya2|exact ya3|refine jx rfl (by first|rfl|assumption|(simp only [znl,znA6];(first|done|fail)))|exact ya5|exact ya7|exact jy|exact jz|refine jA ?_|refine ya9 ?_ ?_ ?_|refine jC rfl (by first|rfl|assumption|(simp only [znl,znA6];(first|done|fail)))|refine MR.agg (MRL.cons ?_ ?_)|refine MR.fn ?_|refine MRL.cons ?_ ?_|exact MRL.nil|refine jE ?_ ?_|exact jF|exact jG|refine yb1 ?_ ?_|refine MB.row ?_|refine jI ?_ ?_|exact ya8|refine jJ rfl (by first|rfl|assumption|(simp only [znl,znA6];(first|done|fail)))|refine yb2 ?_|rfl)|(simp only [znl,znA6];(first|done|fail))|(simp only [↓reduceIte,zlk,Nat.reduceEqDiff,reduceCtorEq])|(with_reducible first|refine jJ ?_ ?_|refine ya5 ?_|refine ju ?_|refine jv ?_|refine jw ?_|refine jx ?_ (by first|rfl|assumption|(simp only [znl,znA6];(first|done|fail)))|refine jC ?_ (by first|rfl|assumption|(simp only [znl,znA6];(first|done|fail)))))))
    all_goals (first | rfl)
  have u0 : (wts w0 w1 w2 0).map encU = [.int .u8 0, .int .u8 0, .int .u8 0] := rfl
  have u1 : (wts w0 w1 w2 1).map encU = [.int .u8 (B8 w0), .int .u8 0, .int .u8 0] := rfl
  have u2 : (wts w0 w1 w2 2).map encU = [.int .u8 (B8 w0), .int .u8 (B8 w1), .int .u8 0] := rfl
  have u3 : (wts w0 w1 w2 3).map encU = [.int .u8 (B8 w0), .int .u8 (B8 w1), .int .u8 (B8 w2)] := rfl
  by_cases hlt : k < 3
  · have hk3 : k = 0 ∨ k = 1 ∨ k = 2 := by omega
    rcases hk3 with rfl | rfl | rfl
    · rw [u0]
      repeat' (first|(with_reducible first|refine yrl (by constructor) ?_|refine jk (fun M hM=>?_)|(refine hM _ ?_;clear hM M)|refine xb3 (by decide) ?_|refine yqa (by assumption) ?_ ?_|refine yqb (by assumption) ?_ ?_)|((with_reducible refine je ?_)<;>(first|rfl|assumption|(simp only [znl,znA6];(first|done|fail))))|(with_reducible refine jf (by (simp only [↓reduceIte,zlk,Nat.reduceEqDiff,reduceCtorEq]);exact rfl) ?_)|((with_reducible first|refine jg (fun hc=>?_) (fun hc=>?_)|refine jh (fun hc=>?_) (fun hc=>?_))<;>(try simp (disch:=omega) only [zhb] at hc)<;>(try (exfalso;omega))<;>(try subst hc))|(with_reducible refine ji (by omega) ?_)|(simp (config := { maxSteps := 400000 }) only [↓jt,↓reduceIte,zvs,reduceCtorEq,Nat.reduceEqDiff,Nat.reduceAdd,Nat.reduceLeDiff,Nat.reduceMul,Int.reduceBNe,Int.reduceBEq,Int.reduceEq,Int.reduceNe,Int.reduceLT,Int.reduceLE,Int.reduceGT,Int.reduceGE,Int.reduceNeg,Int.reduceToNat,Nat.reduceLT,Nat.reduceSub,tab,Try.results33,jTA])|(simp (disch:=omega) only [ziw]))
      all_goals (try (exfalso; omega))
      refine ok_drawM 10 [0, 1, 2, 3, 4, 5, 6, 7, 8] [9] 2 (by kernel_rfl) (by decide +kernel) (by decide) (by intro m hm; simp only [upd_ap,rows_cons,rows_nil]; (repeat (first | rfl | rw [if_neg (by omega)]))) (fun M hM => ?_); simp only [picks,hdM_nil,hdM_cons,List.getElem?_cons_succ,List.getElem?_cons_zero,List.drop_succ_cons,List.drop_zero]
      repeat' (first|(with_reducible first|refine yrl (by constructor) ?_|refine jk (fun M hM=>?_)|(refine hM _ ?_;clear hM M)|refine xb3 (by decide) ?_|refine yqa (by assumption) ?_ ?_|refine yqb (by assumption) ?_ ?_)|((with_reducible refine je ?_)<;>(first|rfl|assumption|(simp only [znl,znA6];(first|done|fail))))|(with_reducible refine jf (by (simp only [↓reduceIte,zlk,Nat.reduceEqDiff,reduceCtorEq]);exact rfl) ?_)|((with_reducible first|refine jg (fun hc=>?_) (fun hc=>?_)|refine jh (fun hc=>?_) (fun hc=>?_))<;>(try simp (disch:=omega) only [zhb] at hc)<;>(try (exfalso;omega))<;>(try subst hc))|(with_reducible refine ji (by omega) ?_)|(simp (config := { maxSteps := 400000 }) only [↓jt,↓reduceIte,zvs,reduceCtorEq,Nat.reduceEqDiff,Nat.reduceAdd,Nat.reduceLeDiff,Nat.reduceMul,Int.reduceBNe,Int.reduceBEq,Int.reduceEq,Int.reduceNe,Int.reduceLT,Int.reduceLE,Int.reduceGT,Int.reduceGE,Int.reduceNeg,Int.reduceToNat,Nat.reduceLT,Nat.reduceSub,tab,storeAt_go,isP_ptr,Try.results33,jTA])|(simp (disch:=omega) only [ziw]))
      all_goals (try (exfalso; omega))
      refine jb (hcall_read (A0) rfl (by repeat (first | exact rdl_nil | refine rdl_cons ?_ ?_ | exact Rd.refl _ _ (by first|rfl|assumption|(simp only [znl,znA6];(first|done|fail))) | (refine rd_own (by (simp only [↓reduceIte,zlk,Nat.reduceEqDiff,reduceCtorEq]); exact rfl) (by first | rfl | (simp; done) | (simp; omega)) rfl (by first|rfl|assumption|(simp only [znl,znA6];(first|done|fail)))) | exact rd_nil | refine (rd_a _ _ _).mpr ?_)) rfl) ?_
      repeat' (first|(with_reducible first|refine yrl (by constructor) ?_|refine jk (fun M hM=>?_)|(refine hM _ ?_;clear hM M)|refine xb3 (by decide) ?_|refine yqa (by assumption) ?_ ?_|refine yqb (by assumption) ?_ ?_)|((with_reducible refine je ?_)<;>(first|rfl|assumption|(simp only [znl,znA6];(first|done|fail))))|(with_reducible refine jf (by (simp only [↓reduceIte,zlk,Nat.reduceEqDiff,reduceCtorEq]);exact rfl) ?_)|((with_reducible first|refine jg (fun hc=>?_) (fun hc=>?_)|refine jh (fun hc=>?_) (fun hc=>?_))<;>(try simp (disch:=omega) only [zhb] at hc)<;>(try (exfalso;omega))<;>(try subst hc))|(with_reducible refine ji (by omega) ?_)|(simp (config := { maxSteps := 400000 }) only [↓jt,↓reduceIte,zvs,reduceCtorEq,Nat.reduceEqDiff,Nat.reduceAdd,Nat.reduceLeDiff,Nat.reduceMul,Int.reduceBNe,Int.reduceBEq,Int.reduceEq,Int.reduceNe,Int.reduceLT,Int.reduceLE,Int.reduceGT,Int.reduceGE,Int.reduceNeg,Int.reduceToNat,Nat.reduceLT,Nat.reduceSub,tab,storeAt_go,isP_ptr,Try.results33,jTA])|(simp (disch:=omega) only [ziw]))
      refine jb (hcall_read (A0) rfl (by repeat (first | exact rdl_nil | refine rdl_cons ?_ ?_ | exact Rd.refl _ _ (by first|rfl|assumption|(simp only [znl,znA6];(first|done|fail))) | (refine rd_own (by (simp only [↓reduceIte,zlk,Nat.reduceEqDiff,reduceCtorEq]); exact rfl) (by first | rfl | (simp; done) | (simp; omega)) rfl (by first|rfl|assumption|(simp only [znl,znA6];(first|done|fail)))) | exact rd_nil | refine (rd_a _ _ _).mpr ?_)) rfl) ?_
      repeat' (first|(with_reducible first|refine yrl (by constructor) ?_|refine jk (fun M hM=>?_)|(refine hM _ ?_;clear hM M)|refine xb3 (by decide) ?_|refine yqa (by assumption) ?_ ?_|refine yqb (by assumption) ?_ ?_)|((with_reducible refine je ?_)<;>(first|rfl|assumption|(simp only [znl,znA6];(first|done|fail))))|(with_reducible refine jf (by (simp only [↓reduceIte,zlk,Nat.reduceEqDiff,reduceCtorEq]);exact rfl) ?_)|((with_reducible first|refine jg (fun hc=>?_) (fun hc=>?_)|refine jh (fun hc=>?_) (fun hc=>?_))<;>(try simp (disch:=omega) only [zhb] at hc)<;>(try (exfalso;omega))<;>(try subst hc))|(with_reducible refine ji (by omega) ?_)|(simp (config := { maxSteps := 400000 }) only [↓jt,↓reduceIte,zvs,reduceCtorEq,Nat.reduceEqDiff,Nat.reduceAdd,Nat.reduceLeDiff,Nat.reduceMul,Int.reduceBNe,Int.reduceBEq,Int.reduceEq,Int.reduceNe,Int.reduceLT,Int.reduceLE,Int.reduceGT,Int.reduceGE,Int.reduceNeg,Int.reduceToNat,Nat.reduceLT,Nat.reduceSub,tab,storeAt_go,isP_ptr,Try.results33,jTA])|(simp (disch:=omega) only [ziw]))
      all_goals first
        | (exfalso; omega)
        | (refine xl1 1 ?_ (by decide) (by decide); (refine yrn [(0, 0), (1, 1), (2, 2)] false ?_ ?_<;>(repeat' (first|(with_reducible first|exact ya1|exact ya2|exact ya3|refine jx rfl (by first|rfl|assumption|(simp only [znl,znA6];(first|done|fail)))|exact ya5|exact ya7|exact jy|exact jz|refine jA ?_|refine ya9 ?_ ?_ ?_|refine jC rfl (by first|rfl|assumption|(simp only [znl,znA6];(first|done|fail)))|refine MR.agg (MRL.cons ?_ ?_)|refine MR.fn ?_|refine MRL.cons ?_ ?_|exact MRL.nil|refine jE ?_ ?_|exact jF|exact jG|refine yb1 ?_ ?_|refine MB.row ?_|refine jI ?_ ?_|exact ya8|refine jJ rfl (by first|rfl|assumption|(simp only [znl,znA6];(first|done|fail)))|refine yb2 ?_|rfl)|(simp only [znl,znA6];(first|done|fail))|(simp only [↓reduceIte,zlk,Nat.reduceEqDiff,reduceCtorEq])|(with_reducible first|refine jJ ?_ ?_|refine ya5 ?_|refine ju ?_|refine jv ?_|refine jw ?_|refine jx ?_ (by first|rfl|assumption|(simp only [znl,znA6];(first|done|fail)))|refine jC ?_ (by first|rfl|assumption|(simp only [znl,znA6];(first|done|fail))))))); all_goals (first | rfl | exact u1.symm); done)
    · rw [u1]
      repeat' (first|(with_reducible first|refine yrl (by constructor) ?_|refine jk (fun M hM=>?_)|(refine hM _ ?_;clear hM M)|refine xb3 (by decide) ?_|refine yqa (by assumption) ?_ ?_|refine yqb (by assumption) ?_ ?_)|((with_reducible refine je ?_)<;>(first|rfl|assumption|(simp only [znl,znA6];(first|done|fail))))|(with_reducible refine jf (by (simp only [↓reduceIte,zlk,Nat.reduceEqDiff,reduceCtorEq]);exact rfl) ?_)|((with_reducible first|refine jg (fun hc=>?_) (fun hc=>?_)|refine jh (fun hc=>?_) (fun hc=>?_))<;>(try simp (disch:=omega) only [zhb] at hc)<;>(try (exfalso;omega))<;>(try subst hc))|(with_reducible refine ji (by omega) ?_)|(simp (config := { maxSteps := 400000 }) only [↓jt,↓reduceIte,zvs,reduceCtorEq,Nat.reduceEqDiff,Nat.reduceAdd,Nat.reduceLeDiff,Nat.reduceMul,Int.reduceBNe,Int.reduceBEq,Int.reduceEq,Int.reduceNe,Int.reduceLT,Int.reduceLE,Int.reduceGT,Int.reduceGE,Int.reduceNeg,Int.reduceToNat,Nat.reduceLT,Nat.reduceSub,tab,Try.results33,jTA])|(simp (disch:=omega) only [ziw]))
      all_goals (try (exfalso; omega))
      refine ok_drawM 10 [0, 1, 2, 3, 4, 5, 6, 7, 8] [9] 2 (by kernel_rfl) (by decide +kernel) (by decide) (by intro m hm; simp only [upd_ap,rows_cons,rows_nil]; (repeat (first | rfl | rw [if_neg (by omega)]))) (fun M hM => ?_); simp only [picks,hdM_nil,hdM_cons,List.getElem?_cons_succ,List.getElem?_cons_zero,List.drop_succ_cons,List.drop_zero]
      repeat' (first|(with_reducible first|refine yrl (by constructor) ?_|refine jk (fun M hM=>?_)|(refine hM _ ?_;clear hM M)|refine xb3 (by decide) ?_|refine yqa (by assumption) ?_ ?_|refine yqb (by assumption) ?_ ?_)|((with_reducible refine je ?_)<;>(first|rfl|assumption|(simp only [znl,znA6];(first|done|fail))))|(with_reducible refine jf (by (simp only [↓reduceIte,zlk,Nat.reduceEqDiff,reduceCtorEq]);exact rfl) ?_)|((with_reducible first|refine jg (fun hc=>?_) (fun hc=>?_)|refine jh (fun hc=>?_) (fun hc=>?_))<;>(try simp (disch:=omega) only [zhb] at hc)<;>(try (exfalso;omega))<;>(try subst hc))|(with_reducible refine ji (by omega) ?_)|(simp (config := { maxSteps := 400000 }) only [↓jt,↓reduceIte,zvs,reduceCtorEq,Nat.reduceEqDiff,Nat.reduceAdd,Nat.reduceLeDiff,Nat.reduceMul,Int.reduceBNe,Int.reduceBEq,Int.reduceEq,Int.reduceNe,Int.reduceLT,Int.reduceLE,Int.reduceGT,Int.reduceGE,Int.reduceNeg,Int.reduceToNat,Nat.reduceLT,Nat.reduceSub,tab,storeAt_go,isP_ptr,Try.results33,jTA])|(simp (disch:=omega) only [ziw]))
      all_goals (try (exfalso; omega))
      refine jb (hcall_read (A1) rfl (by repeat (first | exact rdl_nil | refine rdl_cons ?_ ?_ | exact Rd.refl _ _ (by first|rfl|assumption|(simp only [znl,znA6];(first|done|fail))) | (refine rd_own (by (simp only [↓reduceIte,zlk,Nat.reduceEqDiff,reduceCtorEq]); exact rfl) (by first | rfl | (simp; done) | (simp; omega)) rfl (by first|rfl|assumption|(simp only [znl,znA6];(first|done|fail)))) | exact rd_nil | refine (rd_a _ _ _).mpr ?_)) rfl) ?_
      repeat' (first|(with_reducible first|refine yrl (by constructor) ?_|refine jk (fun M hM=>?_)|(refine hM _ ?_;clear hM M)|refine xb3 (by decide) ?_|refine yqa (by assumption) ?_ ?_|refine yqb (by assumption) ?_ ?_)|((with_reducible refine je ?_)<;>(first|rfl|assumption|(simp only [znl,znA6];(first|done|fail))))|(with_reducible refine jf (by (simp only [↓reduceIte,zlk,Nat.reduceEqDiff,reduceCtorEq]);exact rfl) ?_)|((with_reducible first|refine jg (fun hc=>?_) (fun hc=>?_)|refine jh (fun hc=>?_) (fun hc=>?_))<;>(try simp (disch:=omega) only [zhb] at hc)<;>(try (exfalso;omega))<;>(try subst hc))|(with_reducible refine ji (by omega) ?_)|(simp (config := { maxSteps := 400000 }) only [↓jt,↓reduceIte,zvs,reduceCtorEq,Nat.reduceEqDiff,Nat.reduceAdd,Nat.reduceLeDiff,Nat.reduceMul,Int.reduceBNe,Int.reduceBEq,Int.reduceEq,Int.reduceNe,Int.reduceLT,Int.reduceLE,Int.reduceGT,Int.reduceGE,Int.reduceNeg,Int.reduceToNat,Nat.reduceLT,Nat.reduceSub,tab,storeAt_go,isP_ptr,Try.results33,jTA])|(simp (disch:=omega) only [ziw]))
      refine jb (hcall_read (A1) rfl (by repeat (first | exact rdl_nil | refine rdl_cons ?_ ?_ | exact Rd.refl _ _ (by first|rfl|assumption|(simp only [znl,znA6];(first|done|fail))) | (refine rd_own (by (simp only [↓reduceIte,zlk,Nat.reduceEqDiff,reduceCtorEq]); exact rfl) (by first | rfl | (simp; done) | (simp; omega)) rfl (by first|rfl|assumption|(simp only [znl,znA6];(first|done|fail)))) | exact rd_nil | refine (rd_a _ _ _).mpr ?_)) rfl) ?_
      repeat' (first|(with_reducible first|refine yrl (by constructor) ?_|refine jk (fun M hM=>?_)|(refine hM _ ?_;clear hM M)|refine xb3 (by decide) ?_|refine yqa (by assumption) ?_ ?_|refine yqb (by assumption) ?_ ?_)|((with_reducible refine je ?_)<;>(first|rfl|assumption|(simp only [znl,znA6];(first|done|fail))))|(with_reducible refine jf (by (simp only [↓reduceIte,zlk,Nat.reduceEqDiff,reduceCtorEq]);exact rfl) ?_)|((with_reducible first|refine jg (fun hc=>?_) (fun hc=>?_)|refine jh (fun hc=>?_) (fun hc=>?_))<;>(try simp (disch:=omega) only [zhb] at hc)<;>(try (exfalso;omega))<;>(try subst hc))|(with_reducible refine ji (by omega) ?_)|(simp (config := { maxSteps := 400000 }) only [↓jt,↓reduceIte,zvs,reduceCtorEq,Nat.reduceEqDiff,Nat.reduceAdd,Nat.reduceLeDiff,Nat.reduceMul,Int.reduceBNe,Int.reduceBEq,Int.reduceEq,Int.reduceNe,Int.reduceLT,Int.reduceLE,Int.reduceGT,Int.reduceGE,Int.reduceNeg,Int.reduceToNat,Nat.reduceLT,Nat.reduceSub,tab,storeAt_go,isP_ptr,Try.results33,jTA])|(simp (disch:=omega) only [ziw]))
      all_goals first
        | (exfalso; omega)
        | (refine xl1 2 ?_ (by decide) (by decide); (refine yrn [(0, 0), (1, 1), (2, 2)] false ?_ ?_<;>(repeat' (first|(with_reducible first|exact ya1|exact ya2|exact ya3|refine jx rfl (by first|rfl|assumption|(simp only [znl,znA6];(first|done|fail)))|exact ya5|exact ya7|exact jy|exact jz|refine jA ?_|refine ya9 ?_ ?_ ?_|refine jC rfl (by first|rfl|assumption|(simp only [znl,znA6];(first|done|fail)))|refine MR.agg (MRL.cons ?_ ?_)|refine MR.fn ?_|refine MRL.cons ?_ ?_|exact MRL.nil|refine jE ?_ ?_|exact jF|exact jG|refine yb1 ?_ ?_|refine MB.row ?_|refine jI ?_ ?_|exact ya8|refine jJ rfl (by first|rfl|assumption|(simp only [znl,znA6];(first|done|fail)))|refine yb2 ?_|rfl)|(simp only [znl,znA6];(first|done|fail))|(simp only [↓reduceIte,zlk,Nat.reduceEqDiff,reduceCtorEq])|(with_reducible first|refine jJ ?_ ?_|refine ya5 ?_|refine ju ?_|refine jv ?_|refine jw ?_|refine jx ?_ (by first|rfl|assumption|(simp only [znl,znA6];(first|done|fail)))|refine jC ?_ (by first|rfl|assumption|(simp only [znl,znA6];(first|done|fail))))))); all_goals (first | rfl | exact u2.symm); done)
    · rw [u2]
      repeat' (first|(with_reducible first|refine yrl (by constructor) ?_|refine jk (fun M hM=>?_)|(refine hM _ ?_;clear hM M)|refine xb3 (by decide) ?_|refine yqa (by assumption) ?_ ?_|refine yqb (by assumption) ?_ ?_)|((with_reducible refine je ?_)<;>(first|rfl|assumption|(simp only [znl,znA6];(first|done|fail))))|(with_reducible refine jf (by (simp only [↓reduceIte,zlk,Nat.reduceEqDiff,reduceCtorEq]);exact rfl) ?_)|((with_reducible first|refine jg (fun hc=>?_) (fun hc=>?_)|refine jh (fun hc=>?_) (fun hc=>?_))<;>(try simp (disch:=omega) only [zhb] at hc)<;>(try (exfalso;omega))<;>(try subst hc))|(with_reducible refine ji (by omega) ?_)|(simp (config := { maxSteps := 400000 }) only [↓jt,↓reduceIte,zvs,reduceCtorEq,Nat.reduceEqDiff,Nat.reduceAdd,Nat.reduceLeDiff,Nat.reduceMul,Int.reduceBNe,Int.reduceBEq,Int.reduceEq,Int.reduceNe,Int.reduceLT,Int.reduceLE,Int.reduceGT,Int.reduceGE,Int.reduceNeg,Int.reduceToNat,Nat.reduceLT,Nat.reduceSub,tab,Try.results33,jTA])|(simp (disch:=omega) only [ziw]))
      all_goals (try (exfalso; omega))
      refine ok_drawM 10 [0, 1, 2, 3, 4, 5, 6, 7, 8] [9] 2 (by kernel_rfl) (by decide +kernel) (by decide) (by intro m hm; simp only [upd_ap,rows_cons,rows_nil]; (repeat (first | rfl | rw [if_neg (by omega)]))) (fun M hM => ?_); simp only [picks,hdM_nil,hdM_cons,List.getElem?_cons_succ,List.getElem?_cons_zero,List.drop_succ_cons,List.drop_zero]
      repeat' (first|(with_reducible first|refine yrl (by constructor) ?_|refine jk (fun M hM=>?_)|(refine hM _ ?_;clear hM M)|refine xb3 (by decide) ?_|refine yqa (by assumption) ?_ ?_|refine yqb (by assumption) ?_ ?_)|((with_reducible refine je ?_)<;>(first|rfl|assumption|(simp only [znl,znA6];(first|done|fail))))|(with_reducible refine jf (by (simp only [↓reduceIte,zlk,Nat.reduceEqDiff,reduceCtorEq]);exact rfl) ?_)|((with_reducible first|refine jg (fun hc=>?_) (fun hc=>?_)|refine jh (fun hc=>?_) (fun hc=>?_))<;>(try simp (disch:=omega) only [zhb] at hc)<;>(try (exfalso;omega))<;>(try subst hc))|(with_reducible refine ji (by omega) ?_)|(simp (config := { maxSteps := 400000 }) only [↓jt,↓reduceIte,zvs,reduceCtorEq,Nat.reduceEqDiff,Nat.reduceAdd,Nat.reduceLeDiff,Nat.reduceMul,Int.reduceBNe,Int.reduceBEq,Int.reduceEq,Int.reduceNe,Int.reduceLT,Int.reduceLE,Int.reduceGT,Int.reduceGE,Int.reduceNeg,Int.reduceToNat,Nat.reduceLT,Nat.reduceSub,tab,storeAt_go,isP_ptr,Try.results33,jTA])|(simp (disch:=omega) only [ziw]))
      all_goals (try (exfalso; omega))
      refine jb (hcall_read (A2) rfl (by repeat (first | exact rdl_nil | refine rdl_cons ?_ ?_ | exact Rd.refl _ _ (by first|rfl|assumption|(simp only [znl,znA6];(first|done|fail))) | (refine rd_own (by (simp only [↓reduceIte,zlk,Nat.reduceEqDiff,reduceCtorEq]); exact rfl) (by first | rfl | (simp; done) | (simp; omega)) rfl (by first|rfl|assumption|(simp only [znl,znA6];(first|done|fail)))) | exact rd_nil | refine (rd_a _ _ _).mpr ?_)) rfl) ?_
      repeat' (first|(with_reducible first|refine yrl (by constructor) ?_|refine jk (fun M hM=>?_)|(refine hM _ ?_;clear hM M)|refine xb3 (by decide) ?_|refine yqa (by assumption) ?_ ?_|refine yqb (by assumption) ?_ ?_)|((with_reducible refine je ?_)<;>(first|rfl|assumption|(simp only [znl,znA6];(first|done|fail))))|(with_reducible refine jf (by (simp only [↓reduceIte,zlk,Nat.reduceEqDiff,reduceCtorEq]);exact rfl) ?_)|((with_reducible first|refine jg (fun hc=>?_) (fun hc=>?_)|refine jh (fun hc=>?_) (fun hc=>?_))<;>(try simp (disch:=omega) only [zhb] at hc)<;>(try (exfalso;omega))<;>(try subst hc))|(with_reducible refine ji (by omega) ?_)|(simp (config := { maxSteps := 400000 }) only [↓jt,↓reduceIte,zvs,reduceCtorEq,Nat.reduceEqDiff,Nat.reduceAdd,Nat.reduceLeDiff,Nat.reduceMul,Int.reduceBNe,Int.reduceBEq,Int.reduceEq,Int.reduceNe,Int.reduceLT,Int.reduceLE,Int.reduceGT,Int.reduceGE,Int.reduceNeg,Int.reduceToNat,Nat.reduceLT,Nat.reduceSub,tab,storeAt_go,isP_ptr,Try.results33,jTA])|(simp (disch:=omega) only [ziw]))
      refine jb (hcall_read (A2) rfl (by repeat (first | exact rdl_nil | refine rdl_cons ?_ ?_ | exact Rd.refl _ _ (by first|rfl|assumption|(simp only [znl,znA6];(first|done|fail))) | (refine rd_own (by (simp only [↓reduceIte,zlk,Nat.reduceEqDiff,reduceCtorEq]); exact rfl) (by first | rfl | (simp; done) | (simp; omega)) rfl (by first|rfl|assumption|(simp only [znl,znA6];(first|done|fail)))) | exact rd_nil | refine (rd_a _ _ _).mpr ?_)) rfl) ?_
      repeat' (first|(with_reducible first|refine yrl (by constructor) ?_|refine jk (fun M hM=>?_)|(refine hM _ ?_;clear hM M)|refine xb3 (by decide) ?_|refine yqa (by assumption) ?_ ?_|refine yqb (by assumption) ?_ ?_)|((with_reducible refine je ?_)<;>(first|rfl|assumption|(simp only [znl,znA6];(first|done|fail))))|(with_reducible refine jf (by (simp only [↓reduceIte,zlk,Nat.reduceEqDiff,reduceCtorEq]);exact rfl) ?_)|((with_reducible first|refine jg (fun hc=>?_) (fun hc=>?_)|refine jh (fun hc=>?_) (fun hc=>?_))<;>(try simp (disch:=omega) only [zhb] at hc)<;>(try (exfalso;omega))<;>(try subst hc))|(with_reducible refine ji (by omega) ?_)|(simp (config := { maxSteps := 400000 }) only [↓jt,↓reduceIte,zvs,reduceCtorEq,Nat.reduceEqDiff,Nat.reduceAdd,Nat.reduceLeDiff,Nat.reduceMul,Int.reduceBNe,Int.reduceBEq,Int.reduceEq,Int.reduceNe,Int.reduceLT,Int.reduceLE,Int.reduceGT,Int.reduceGE,Int.reduceNeg,Int.reduceToNat,Nat.reduceLT,Nat.reduceSub,tab,storeAt_go,isP_ptr,Try.results33,jTA])|(simp (disch:=omega) only [ziw]))
      all_goals first
        | (exfalso; omega)
        | (refine xl1 3 ?_ (by decide) (by decide); (refine yrn [(0, 0), (1, 1), (2, 2)] false ?_ ?_<;>(repeat' (first|(with_reducible first|exact ya1|exact ya2|exact ya3|refine jx rfl (by first|rfl|assumption|(simp only [znl,znA6];(first|done|fail)))|exact ya5|exact ya7|exact jy|exact jz|refine jA ?_|refine ya9 ?_ ?_ ?_|refine jC rfl (by first|rfl|assumption|(simp only [znl,znA6];(first|done|fail)))|refine MR.agg (MRL.cons ?_ ?_)|refine MR.fn ?_|refine MRL.cons ?_ ?_|exact MRL.nil|refine jE ?_ ?_|exact jF|exact jG|refine yb1 ?_ ?_|refine MB.row ?_|refine jI ?_ ?_|exact ya8|refine jJ rfl (by first|rfl|assumption|(simp only [znl,znA6];(first|done|fail)))|refine yb2 ?_|rfl)|(simp only [znl,znA6];(first|done|fail))|(simp only [↓reduceIte,zlk,Nat.reduceEqDiff,reduceCtorEq])|(with_reducible first|refine jJ ?_ ?_|refine ya5 ?_|refine ju ?_|refine jv ?_|refine jw ?_|refine jx ?_ (by first|rfl|assumption|(simp only [znl,znA6];(first|done|fail)))|refine jC ?_ (by first|rfl|assumption|(simp only [znl,znA6];(first|done|fail))))))); all_goals (first | rfl | exact u3.symm); done)
  · obtain rfl : k = 3 := by omega
    rw [u3]
    clear A0 A1 A2 u0 u1 u2
    repeat' (first|(with_reducible first|refine yrl (by constructor) ?_|refine jk (fun M hM=>?_)|(refine hM _ ?_;clear hM M)|refine xb3 (by decide) ?_|refine yqa (by assumption) ?_ ?_|refine yqb (by assumption) ?_ ?_)|((with_reducible refine je ?_)<;>(first|rfl|assumption|(simp only [znl,znA6];(first|done|fail))))|(with_reducible refine jf (by (simp only [↓reduceIte,zlk,Nat.reduceEqDiff,reduceCtorEq]);exact rfl) ?_)|((with_reducible first|refine jg (fun hc=>?_) (fun hc=>?_)|refine jh (fun hc=>?_) (fun hc=>?_))<;>(try simp (disch:=omega) only [zhb] at hc)<;>(try (exfalso;omega))<;>(try subst hc))|(with_reducible refine ji (by omega) ?_)|(simp (config := { maxSteps := 400000 }) only [↓jt,↓reduceIte,zvs,reduceCtorEq,Nat.reduceEqDiff,Nat.reduceAdd,Nat.reduceLeDiff,Nat.reduceMul,Int.reduceBNe,Int.reduceBEq,Int.reduceEq,Int.reduceNe,Int.reduceLT,Int.reduceLE,Int.reduceGT,Int.reduceGE,Int.reduceNeg,Int.reduceToNat,Nat.reduceLT,Nat.reduceSub,tab,Try.results33,jTA])|(simp (disch:=omega) only [ziw]))
    all_goals (try (exfalso; omega))
    have hrep : List.replicate n (VV.int .u8 0) = (fillU n 0 f).map encU := by rw [fillU_zero, List.map_replicate]; rfl
    refine ok_loop (fun i : Nat => ⟨slots [(2, .int .u8 (B8 t)), (3, .ptr 0 []), (4, .ptr 1 []), (6, .str []), (7, .ptr 2 []), (10, .sl (some (3, [], 0)) n), (34, .int .i64 n), (35, .int .i64 i)], rows [(0, .row (.arr 3 .cell) (.agg [.int .u8 (B8 x), .int .u8 (B8 y), .int .u8 (B8 z)])), (1, .row (.arr 3 .cell) (.agg [.str a, .str b, .str c])), (2, .row (.arr 3 .cell) (.agg [.int .u8 (B8 w0), .int .u8 (B8 w1), .int .u8 (B8 w2)])), (3, .row (.arr n .cell) (.agg ((fillU n i f).map encU)))], 4⟩) (fun i => i ≤ n) (fun i => n - i) 0 ?_ (Nat.zero_le _) (fun i hi => ?_)
    · (refine yrn [(0, 0), (1, 1), (2, 2), (3, 3)] false ?_ ?_<;>(repeat' (first|(with_reducible first|exact ya1|exact ya2|exact ya3|refine jx rfl (by first|rfl|assumption|(simp only [znl,znA6];(first|done|fail)))|exact ya5|exact ya7|exact jy|exact jz|refine jA ?_|refine ya9 ?_ ?_ ?_|refine jC rfl (by first|rfl|assumption|(simp only [znl,znA6];(first|done|fail)))|refine MR.agg (MRL.cons ?_ ?_)|refine MR.fn ?_|refine MRL.cons ?_ ?_|exact MRL.nil|refine jE ?_ ?_|exact jF|exact jG|refine yb1 ?_ ?_|refine MB.row ?_|refine jI ?_ ?_|exact ya8|refine jJ rfl (by first|rfl|assumption|(simp only [znl,znA6];(first|done|fail)))|refine yb2 ?_|rfl)|(simp only [znl,znA6];(first|done|fail))|(simp only [↓reduceIte,zlk,Nat.reduceEqDiff,reduceCtorEq])|(with_reducible first|refine jJ ?_ ?_|refine ya5 ?_|refine ju ?_|refine jv ?_|refine jw ?_|refine jx ?_ (by first|rfl|assumption|(simp only [znl,znA6];(first|done|fail)))|refine jC ?_ (by first|rfl|assumption|(simp only [znl,znA6];(first|done|fail)))))))
      all_goals (first | rfl | exact hrep | (rw [ha]; done) | (rw [ha]; exact hrep))
    by_cases hli : i < n
    · have hfs := fillU_set n i f hli
      have hfz := fillU_same n i f hli
      have hfl := fillU_len n i f (by omega)
      have hfi := hfi i
      obtain ⟨F, hF2⟩ : ∃ F, F = fillU n i f := ⟨_, rfl⟩
      rw [← hF2] at hfs hfz hfl ⊢
      have gat : ∀ v, ((F.set i v).map encU)[i]? = some (.int .u8 (B8 v)) := fun v => by rw [List.getElem?_map, List.getElem?_set_self (by omega)]; rfl
      have sat : ∀ v v', ((F.set i v).map encU).set i (.int .u8 (B8 v')) = (F.set i v').map encU := fun v v' => by
        have e : VV.int .u8 (B8 v') = encU v' := rfl
        rw [e, ← List.map_set, List.set_set]
      have q0 : prt3 (mul w0 (nth a i)) (mul w1 (nth b i)) (mul w2 (nth c i)) 0 = 0 := rfl
      have q1 : prt3 (mul w0 (nth a i)) (mul w1 (nth b i)) (mul w2 (nth c i)) 1 = 0 ^^^ mul w0 (nth a i) := by rw [UInt8.zero_xor]; rfl
      have q2 : prt3 (mul w0 (nth a i)) (mul w1 (nth b i)) (mul w2 (nth c i)) 2 = (0 ^^^ mul w0 (nth a i)) ^^^ mul w1 (nth b i) := by rw [UInt8.zero_xor]; rfl
      have q3 : prt3 (mul w0 (nth a i)) (mul w1 (nth b i)) (mul w2 (nth c i)) 3 = ((0 ^^^ mul w0 (nth a i)) ^^^ mul w1 (nth b i)) ^^^ mul w2 (nth c i) := by rw [UInt8.zero_xor]; rfl
      rw [← UInt8.zero_xor (a := mul w0 (nth a i))] at hfi
      rw [← q3] at hfi
      repeat' (first|(with_reducible first|refine yrl (by constructor) ?_|refine jk (fun M hM=>?_)|(refine hM _ ?_;clear hM M)|refine xb3 (by decide) ?_|refine yqa (by assumption) ?_ ?_|refine yqb (by assumption) ?_ ?_)|((with_reducible refine je ?_)<;>(first|rfl|assumption|(simp only [znl,znA6];(first|done|fail))))|(with_reducible refine jf (by (simp only [↓reduceIte,zlk,Nat.reduceEqDiff,reduceCtorEq]);exact rfl) ?_)|((with_reducible first|refine jg (fun hc=>?_) (fun hc=>?_)|refine jh (fun hc=>?_) (fun hc=>?_))<;>(try simp (disch:=omega) only [zhb] at hc)<;>(try (exfalso;omega))<;>(try subst hc))|(with_reducible refine ji (by omega) ?_)|(simp (config := { maxSteps := 400000 }) only [↓jt,↓reduceIte,zvs,reduceCtorEq,Nat.reduceEqDiff,Nat.reduceAdd,Nat.reduceLeDiff,Nat.reduceMul,Int.reduceBNe,Int.reduceBEq,Int.reduceEq,Int.reduceNe,Int.reduceLT,Int.reduceLE,Int.reduceGT,Int.reduceGE,Int.reduceNeg,Int.reduceToNat,Nat.reduceLT,Nat.reduceSub,tab,Try.results33,jTA])|(simp (disch:=omega) only [ziw]))
      all_goals (try (exfalso; omega))
      refine ok_loop (fun j : Nat => ⟨slots [(2, .int .u8 (B8 t)), (3, .ptr 0 []), (4, .ptr 1 []), (6, .str []), (7, .ptr 2 []), (10, .sl (some (3, [], 0)) n), (34, .int .i64 n), (35, .int .i64 i), (11, .int .i64 i), (38, .agg [.int .u8 (B8 w0), .int .u8 (B8 w1), .int .u8 (B8 w2)]), (39, .int .i64 j)], rows [(0, .row (.arr 3 .cell) (.agg [.int .u8 (B8 x), .int .u8 (B8 y), .int .u8 (B8 z)])), (1, .row (.arr 3 .cell) (.agg [.str a, .str b, .str c])), (2, .row (.arr 3 .cell) (.agg [.int .u8 (B8 w0), .int .u8 (B8 w1), .int .u8 (B8 w2)])), (3, .row (.arr n .cell) (.agg ((F.set i (prt3 (mul w0 (nth a i)) (mul w1 (nth b i)) (mul w2 (nth c i)) j)).map encU)))], 4⟩) (fun j => j ≤ 3) (fun j => 3 - j) 0 ?_ (Nat.zero_le _) (fun j hj => ?_)
      · (refine yrn [(0, 0), (1, 1), (2, 2), (3, 3)] false ?_ ?_<;>(repeat' (first|(with_reducible first|exact ya1|exact ya2|exact ya3|refine jx rfl (by first|rfl|assumption|(simp only [znl,znA6];(first|done|fail)))|exact ya5|exact ya7|exact jy|exact jz|refine jA ?_|refine ya9 ?_ ?_ ?_|refine jC rfl (by first|rfl|assumption|(simp only [znl,znA6];(first|done|fail)))|refine MR.agg (MRL.cons ?_ ?_)|refine MR.fn ?_|refine MRL.cons ?_ ?_|exact MRL.nil|refine jE ?_ ?_|exact jF|exact jG|refine yb1 ?_ ?_|refine MB.row ?_|refine jI ?_ ?_|exact ya8|refine jJ rfl (by first|rfl|assumption|(simp only [znl,znA6];(first|done|fail)))|refine yb2 ?_|rfl)|(simp only [znl,znA6];(first|done|fail))|(simp only [↓reduceIte,zlk,Nat.reduceEqDiff,reduceCtorEq])|(with_reducible first|refine jJ ?_ ?_|refine ya5 ?_|refine ju ?_|refine jv ?_|refine jw ?_|refine jx ?_ (by first|rfl|assumption|(simp only [znl,znA6];(first|done|fail)))|refine jC ?_ (by first|rfl|assumption|(simp only [znl,znA6];(first|done|fail)))))))
        all_goals (first | rfl | (rw [q0, hfz]; done))
      by_cases hlj : j < 3
      · have hj3 : j = 0 ∨ j = 1 ∨ j = 2 := by omega
        have hWg : Has (.arr 3 .cell) (.agg [.int .u8 (B8 w0), .int .u8 (B8 w1), .int .u8 (B8 w2)]) := by simp [Has, VV.leaf]
        have hx0 : bits .xor .u8 0 = bits .xor .u8 (B8 0) := rfl
        rcases hj3 with rfl | rfl | rfl
        · have hM := mul_spec w0 (nth a i)
          rw [q0]
          have hgj := gat (prt3 (mul w0 (nth a i)) (mul w1 (nth b i)) (mul w2 (nth c i)) 0)
          have hsj := sat (prt3 (mul w0 (nth a i)) (mul w1 (nth b i)) (mul w2 (nth c i)) 0) (prt3 (mul w0 (nth a i)) (mul w1 (nth b i)) (mul w2 (nth c i)) 1)
          rw [q0] at hgj hsj
          rw [q1] at hsj
          repeat' (first|(with_reducible first|refine yrl (by constructor) ?_|refine jk (fun M hM=>?_)|(refine hM _ ?_;clear hM M)|refine xb3 (by decide) ?_|refine yqa (by assumption) ?_ ?_|refine yqb (by assumption) ?_ ?_)|((with_reducible refine je ?_)<;>(first|rfl|assumption|(simp only [znl,znA6];(first|done|fail))))|(with_reducible refine jf (by (simp only [↓reduceIte,zlk,Nat.reduceEqDiff,reduceCtorEq]);exact rfl) ?_)|((with_reducible first|refine jg (fun hc=>?_) (fun hc=>?_)|refine jh (fun hc=>?_) (fun hc=>?_))<;>(try simp (disch:=omega) only [zhb] at hc)<;>(try (exfalso;omega))<;>(try subst hc))|(with_reducible refine ji (by omega) ?_)|(simp (config := { maxSteps := 400000 }) only [↓jt,↓reduceIte,zvs,reduceCtorEq,Nat.reduceEqDiff,Nat.reduceAdd,Nat.reduceLeDiff,Nat.reduceMul,Int.reduceBNe,Int.reduceBEq,Int.reduceEq,Int.reduceNe,Int.reduceLT,Int.reduceLE,Int.reduceGT,Int.reduceGE,Int.reduceNeg,Int.reduceToNat,Nat.reduceLT,Nat.reduceSub,tab,Try.results33,jTA])|(simp (disch:=omega) only [ziw]))
          all_goals (try (exfalso; omega))
          refine ok_drawC 13 (by kernel_rfl) (by decide +kernel) (by intro m hm; simp only [upd_ap,rows_cons,rows_nil]; (repeat (first | rfl | rw [if_neg (by omega)]))) (fun M hM => ?_); simp only [List.take_succ_cons,List.take_zero,List.drop_succ_cons,List.drop_zero]
          repeat' (first|(with_reducible first|refine yrl (by constructor) ?_|refine jk (fun M hM=>?_)|(refine hM _ ?_;clear hM M)|refine xb3 (by decide) ?_|refine yqa (by assumption) ?_ ?_|refine yqb (by assumption) ?_ ?_)|((with_reducible refine je ?_)<;>(first|rfl|assumption|(simp only [znl,znA6];(first|done|fail))))|(with_reducible refine jf (by (simp only [↓reduceIte,zlk,Nat.reduceEqDiff,reduceCtorEq]);exact rfl) ?_)|((with_reducible first|refine jg (fun hc=>?_) (fun hc=>?_)|refine jh (fun hc=>?_) (fun hc=>?_))<;>(try simp (disch:=omega) only [zhb] at hc)<;>(try (exfalso;omega))<;>(try subst hc))|(with_reducible refine ji (by omega) ?_)|(simp (config := { maxSteps := 400000 }) only [↓jt,↓reduceIte,zvs,reduceCtorEq,Nat.reduceEqDiff,Nat.reduceAdd,Nat.reduceLeDiff,Nat.reduceMul,Int.reduceBNe,Int.reduceBEq,Int.reduceEq,Int.reduceNe,Int.reduceLT,Int.reduceLE,Int.reduceGT,Int.reduceGE,Int.reduceNeg,Int.reduceToNat,Nat.reduceLT,Nat.reduceSub,tab,nthB,hgj,bits_xor8,Int.toNat_natCast,Try.results33,jTA])|(simp (disch:=omega) only [ziw]))
          all_goals first
            | (exfalso; omega)
            | (refine xl1 1 ?_ (by decide) (by decide); (refine yrn [(0, 0), (1, 1), (2, 2), (3, 3)] false ?_ ?_<;>(repeat' (first|(with_reducible first|exact ya1|exact ya2|exact ya3|refine jx rfl (by first|rfl|assumption|(simp only [znl,znA6];(first|done|fail)))|exact ya5|exact ya7|exact jy|exact jz|refine jA ?_|refine ya9 ?_ ?_ ?_|refine jC rfl (by first|rfl|assumption|(simp only [znl,znA6];(first|done|fail)))|refine MR.agg (MRL.cons ?_ ?_)|refine MR.fn ?_|refine MRL.cons ?_ ?_|exact MRL.nil|refine jE ?_ ?_|exact jF|exact jG|refine yb1 ?_ ?_|refine MB.row ?_|refine jI ?_ ?_|exact ya8|refine jJ rfl (by first|rfl|assumption|(simp only [znl,znA6];(first|done|fail)))|refine yb2 ?_|rfl)|(simp only [znl,znA6];(first|done|fail))|(simp only [↓reduceIte,zlk,Nat.reduceEqDiff,reduceCtorEq])|(with_reducible first|refine jJ ?_ ?_|refine ya5 ?_|refine ju ?_|refine jv ?_|refine jw ?_|refine jx ?_ (by first|rfl|assumption|(simp only [znl,znA6];(first|done|fail)))|refine jC ?_ (by first|rfl|assumption|(simp only [znl,znA6];(first|done|fail))))))); all_goals (first | rfl | (rw [q1]; exact hsj)); done)
        · have hM := mul_spec w1 (nth b i)
          rw [q1]
          have hgj := gat (prt3 (mul w0 (nth a i)) (mul w1 (nth b i)) (mul w2 (nth c i)) 1)
          have hsj := sat (prt3 (mul w0 (nth a i)) (mul w1 (nth b i)) (mul w2 (nth c i)) 1) (prt3 (mul w0 (nth a i)) (mul w1 (nth b i)) (mul w2 (nth c i)) 2)
          rw [q1] at hgj hsj
          rw [q2] at hsj
          repeat' (first|(with_reducible first|refine yrl (by constructor) ?_|refine jk (fun M hM=>?_)|(refine hM _ ?_;clear hM M)|refine xb3 (by decide) ?_|refine yqa (by assumption) ?_ ?_|refine yqb (by assumption) ?_ ?_)|((with_reducible refine je ?_)<;>(first|rfl|assumption|(simp only [znl,znA6];(first|done|fail))))|(with_reducible refine jf (by (simp only [↓reduceIte,zlk,Nat.reduceEqDiff,reduceCtorEq]);exact rfl) ?_)|((with_reducible first|refine jg (fun hc=>?_) (fun hc=>?_)|refine jh (fun hc=>?_) (fun hc=>?_))<;>(try simp (disch:=omega) only [zhb] at hc)<;>(try (exfalso;omega))<;>(try subst hc))|(with_reducible refine ji (by omega) ?_)|(simp (config := { maxSteps := 400000 }) only [↓jt,↓reduceIte,zvs,reduceCtorEq,Nat.reduceEqDiff,Nat.reduceAdd,Nat.reduceLeDiff,Nat.reduceMul,Int.reduceBNe,Int.reduceBEq,Int.reduceEq,Int.reduceNe,Int.reduceLT,Int.reduceLE,Int.reduceGT,Int.reduceGE,Int.reduceNeg,Int.reduceToNat,Nat.reduceLT,Nat.reduceSub,tab,Try.results33,jTA])|(simp (disch:=omega) only [ziw]))
          all_goals (try (exfalso; omega))
          refine ok_drawC 13 (by kernel_rfl) (by decide +kernel) (by intro m hm; simp only [upd_ap,rows_cons,rows_nil]; (repeat (first | rfl | rw [if_neg (by omega)]))) (fun M hM => ?_); simp only [List.take_succ_cons,List.take_zero,List.drop_succ_cons,List.drop_zero]
          repeat' (first|(with_reducible first|refine yrl (by constructor) ?_|refine jk (fun M hM=>?_)|(refine hM _ ?_;clear hM M)|refine xb3 (by decide) ?_|refine yqa (by assumption) ?_ ?_|refine yqb (by assumption) ?_ ?_)|((with_reducible refine je ?_)<;>(first|rfl|assumption|(simp only [znl,znA6];(first|done|fail))))|(with_reducible refine jf (by (simp only [↓reduceIte,zlk,Nat.reduceEqDiff,reduceCtorEq]);exact rfl) ?_)|((with_reducible first|refine jg (fun hc=>?_) (fun hc=>?_)|refine jh (fun hc=>?_) (fun hc=>?_))<;>(try simp (disch:=omega) only [zhb] at hc)<;>(try (exfalso;omega))<;>(try subst hc))|(with_reducible refine ji (by omega) ?_)|(simp (config := { maxSteps := 400000 }) only [↓jt,↓reduceIte,zvs,reduceCtorEq,Nat.reduceEqDiff,Nat.reduceAdd,Nat.reduceLeDiff,Nat.reduceMul,Int.reduceBNe,Int.reduceBEq,Int.reduceEq,Int.reduceNe,Int.reduceLT,Int.reduceLE,Int.reduceGT,Int.reduceGE,Int.reduceNeg,Int.reduceToNat,Nat.reduceLT,Nat.reduceSub,tab,nthB,hgj,bits_xor8,Int.toNat_natCast,Try.results33,jTA])|(simp (disch:=omega) only [ziw]))
          all_goals first
            | (exfalso; omega)
            | (refine xl1 2 ?_ (by decide) (by decide); (refine yrn [(0, 0), (1, 1), (2, 2), (3, 3)] false ?_ ?_<;>(repeat' (first|(with_reducible first|exact ya1|exact ya2|exact ya3|refine jx rfl (by first|rfl|assumption|(simp only [znl,znA6];(first|done|fail)))|exact ya5|exact ya7|exact jy|exact jz|refine jA ?_|refine ya9 ?_ ?_ ?_|refine jC rfl (by first|rfl|assumption|(simp only [znl,znA6];(first|done|fail)))|refine MR.agg (MRL.cons ?_ ?_)|refine MR.fn ?_|refine MRL.cons ?_ ?_|exact MRL.nil|refine jE ?_ ?_|exact jF|exact jG|refine yb1 ?_ ?_|refine MB.row ?_|refine jI ?_ ?_|exact ya8|refine jJ rfl (by first|rfl|assumption|(simp only [znl,znA6];(first|done|fail)))|refine yb2 ?_|rfl)|(simp only [znl,znA6];(first|done|fail))|(simp only [↓reduceIte,zlk,Nat.reduceEqDiff,reduceCtorEq])|(with_reducible first|refine jJ ?_ ?_|refine ya5 ?_|refine ju ?_|refine jv ?_|refine jw ?_|refine jx ?_ (by first|rfl|assumption|(simp only [znl,znA6];(first|done|fail)))|refine jC ?_ (by first|rfl|assumption|(simp only [znl,znA6];(first|done|fail))))))); all_goals (first | rfl | (rw [q2]; exact hsj)); done)
        · have hM := mul_spec w2 (nth c i)
          rw [q2]
          have hgj := gat (prt3 (mul w0 (nth a i)) (mul w1 (nth b i)) (mul w2 (nth c i)) 2)
          have hsj := sat (prt3 (mul w0 (nth a i)) (mul w1 (nth b i)) (mul w2 (nth c i)) 2) (prt3 (mul w0 (nth a i)) (mul w1 (nth b i)) (mul w2 (nth c i)) 3)
          rw [q2] at hgj hsj
          rw [q3] at hsj
          repeat' (first|(with_reducible first|refine yrl (by constructor) ?_|refine jk (fun M hM=>?_)|(refine hM _ ?_;clear hM M)|refine xb3 (by decide) ?_|refine yqa (by assumption) ?_ ?_|refine yqb (by assumption) ?_ ?_)|((with_reducible refine je ?_)<;>(first|rfl|assumption|(simp only [znl,znA6];(first|done|fail))))|(with_reducible refine jf (by (simp only [↓reduceIte,zlk,Nat.reduceEqDiff,reduceCtorEq]);exact rfl) ?_)|((with_reducible first|refine jg (fun hc=>?_) (fun hc=>?_)|refine jh (fun hc=>?_) (fun hc=>?_))<;>(try simp (disch:=omega) only [zhb] at hc)<;>(try (exfalso;omega))<;>(try subst hc))|(with_reducible refine ji (by omega) ?_)|(simp (config := { maxSteps := 400000 }) only [↓jt,↓reduceIte,zvs,reduceCtorEq,Nat.reduceEqDiff,Nat.reduceAdd,Nat.reduceLeDiff,Nat.reduceMul,Int.reduceBNe,Int.reduceBEq,Int.reduceEq,Int.reduceNe,Int.reduceLT,Int.reduceLE,Int.reduceGT,Int.reduceGE,Int.reduceNeg,Int.reduceToNat,Nat.reduceLT,Nat.reduceSub,tab,Try.results33,jTA])|(simp (disch:=omega) only [ziw]))
          all_goals (try (exfalso; omega))
          refine ok_drawC 13 (by kernel_rfl) (by decide +kernel) (by intro m hm; simp only [upd_ap,rows_cons,rows_nil]; (repeat (first | rfl | rw [if_neg (by omega)]))) (fun M hM => ?_); simp only [List.take_succ_cons,List.take_zero,List.drop_succ_cons,List.drop_zero]
          repeat' (first|(with_reducible first|refine yrl (by constructor) ?_|refine jk (fun M hM=>?_)|(refine hM _ ?_;clear hM M)|refine xb3 (by decide) ?_|refine yqa (by assumption) ?_ ?_|refine yqb (by assumption) ?_ ?_)|((with_reducible refine je ?_)<;>(first|rfl|assumption|(simp only [znl,znA6];(first|done|fail))))|(with_reducible refine jf (by (simp only [↓reduceIte,zlk,Nat.reduceEqDiff,reduceCtorEq]);exact rfl) ?_)|((with_reducible first|refine jg (fun hc=>?_) (fun hc=>?_)|refine jh (fun hc=>?_) (fun hc=>?_))<;>(try simp (disch:=omega) only [zhb] at hc)<;>(try (exfalso;omega))<;>(try subst hc))|(with_reducible refine ji (by omega) ?_)|(simp (config := { maxSteps := 400000 }) only [↓jt,↓reduceIte,zvs,reduceCtorEq,Nat.reduceEqDiff,Nat.reduceAdd,Nat.reduceLeDiff,Nat.reduceMul,Int.reduceBNe,Int.reduceBEq,Int.reduceEq,Int.reduceNe,Int.reduceLT,Int.reduceLE,Int.reduceGT,Int.reduceGE,Int.reduceNeg,Int.reduceToNat,Nat.reduceLT,Nat.reduceSub,tab,nthB,hgj,bits_xor8,Int.toNat_natCast,Try.results33,jTA])|(simp (disch:=omega) only [ziw]))
          all_goals first
            | (exfalso; omega)
            | (refine xl1 3 ?_ (by decide) (by decide); (refine yrn [(0, 0), (1, 1), (2, 2), (3, 3)] false ?_ ?_<;>(repeat' (first|(with_reducible first|exact ya1|exact ya2|exact ya3|refine jx rfl (by first|rfl|assumption|(simp only [znl,znA6];(first|done|fail)))|exact ya5|exact ya7|exact jy|exact jz|refine jA ?_|refine ya9 ?_ ?_ ?_|refine jC rfl (by first|rfl|assumption|(simp only [znl,znA6];(first|done|fail)))|refine MR.agg (MRL.cons ?_ ?_)|refine MR.fn ?_|refine MRL.cons ?_ ?_|exact MRL.nil|refine jE ?_ ?_|exact jF|exact jG|refine yb1 ?_ ?_|refine MB.row ?_|refine jI ?_ ?_|exact ya8|refine jJ rfl (by first|rfl|assumption|(simp only [znl,znA6];(first|done|fail)))|refine yb2 ?_|rfl)|(simp only [znl,znA6];(first|done|fail))|(simp only [↓reduceIte,zlk,Nat.reduceEqDiff,reduceCtorEq])|(with_reducible first|refine jJ ?_ ?_|refine ya5 ?_|refine ju ?_|refine jv ?_|refine jw ?_|refine jx ?_ (by first|rfl|assumption|(simp only [znl,znA6];(first|done|fail)))|refine jC ?_ (by first|rfl|assumption|(simp only [znl,znA6];(first|done|fail))))))); all_goals (first | rfl | (rw [q3]; exact hsj)); done)
      · obtain rfl : j = 3 := by omega
        rw [hfi, hfs]
        repeat' (first|(with_reducible first|refine yrl (by constructor) ?_|refine jk (fun M hM=>?_)|(refine hM _ ?_;clear hM M)|refine xb3 (by decide) ?_|refine yqa (by assumption) ?_ ?_|refine yqb (by assumption) ?_ ?_)|((with_reducible refine je ?_)<;>(first|rfl|assumption|(simp only [znl,znA6];(first|done|fail))))|(with_reducible refine jf (by (simp only [↓reduceIte,zlk,Nat.reduceEqDiff,reduceCtorEq]);exact rfl) ?_)|((with_reducible first|refine jg (fun hc=>?_) (fun hc=>?_)|refine jh (fun hc=>?_) (fun hc=>?_))<;>(try simp (disch:=omega) only [zhb] at hc)<;>(try (exfalso;omega))<;>(try subst hc))|(with_reducible refine ji (by omega) ?_)|(simp (config := { maxSteps := 400000 }) only [↓jt,↓reduceIte,zvs,reduceCtorEq,Nat.reduceEqDiff,Nat.reduceAdd,Nat.reduceLeDiff,Nat.reduceMul,Int.reduceBNe,Int.reduceBEq,Int.reduceEq,Int.reduceNe,Int.reduceLT,Int.reduceLE,Int.reduceGT,Int.reduceGE,Int.reduceNeg,Int.reduceToNat,Nat.reduceLT,Nat.reduceSub,tab,Try.results33,jTA])|(simp (disch:=omega) only [ziw]))
        all_goals first
          | (exfalso; omega)
          | (refine xl1 (i + 1) ?_ (by show i + 1 ≤ n; omega) (by show n - (i + 1) < n - i; omega); (refine yrn [(0, 0), (1, 1), (2, 2), (3, 3)] false ?_ ?_<;>(repeat' (first|(with_reducible first|exact ya1|exact ya2|exact ya3|refine jx rfl (by first|rfl|assumption|(simp only [znl,znA6];(first|done|fail)))|exact ya5|exact ya7|exact jy|exact jz|refine jA ?_|refine ya9 ?_ ?_ ?_|refine jC rfl (by first|rfl|assumption|(simp only [znl,znA6];(first|done|fail)))|refine MR.agg (MRL.cons ?_ ?_)|refine MR.fn ?_|refine MRL.cons ?_ ?_|exact MRL.nil|refine jE ?_ ?_|exact jF|exact jG|refine yb1 ?_ ?_|refine MB.row ?_|refine jI ?_ ?_|exact ya8|refine jJ rfl (by first|rfl|assumption|(simp only [znl,znA6];(first|done|fail)))|refine yb2 ?_|rfl)|(simp only [znl,znA6];(first|done|fail))|(simp only [↓reduceIte,zlk,Nat.reduceEqDiff,reduceCtorEq])|(with_reducible first|refine jJ ?_ ?_|refine ya5 ?_|refine ju ?_|refine jv ?_|refine jw ?_|refine jx ?_ (by first|rfl|assumption|(simp only [znl,znA6];(first|done|fail)))|refine jC ?_ (by first|rfl|assumption|(simp only [znl,znA6];(first|done|fail))))))); all_goals (first | rfl); done)
    · obtain rfl : i = n := by omega
      rw [fillU_all]
      have hbo := bytesOf_u (tabU i f)
      have htl := tabU_len i f
      have htk : ((tabU i f).map encU).take i = (tabU i f).map encU := by rw [← List.map_take]; congr 1; exact List.take_of_length_le (by omega)
      repeat' (first|(with_reducible first|refine yrl (by constructor) ?_|refine jk (fun M hM=>?_)|(refine hM _ ?_;clear hM M)|refine xb3 (by decide) ?_|refine yqa (by assumption) ?_ ?_|refine yqb (by assumption) ?_ ?_)|((with_reducible refine je ?_)<;>(first|rfl|assumption|(simp only [znl,znA6];(first|done|fail))))|(with_reducible refine jf (by (simp only [↓reduceIte,zlk,Nat.reduceEqDiff,reduceCtorEq]);exact rfl) ?_)|((with_reducible first|refine jg (fun hc=>?_) (fun hc=>?_)|refine jh (fun hc=>?_) (fun hc=>?_))<;>(try simp (disch:=omega) only [zhb] at hc)<;>(try (exfalso;omega))<;>(try subst hc))|(with_reducible refine ji (by omega) ?_)|(simp (config := { maxSteps := 400000 }) only [↓jt,↓reduceIte,zvs,reduceCtorEq,Nat.reduceEqDiff,Nat.reduceAdd,Nat.reduceLeDiff,Nat.reduceMul,Int.reduceBNe,Int.reduceBEq,Int.reduceEq,Int.reduceNe,Int.reduceLT,Int.reduceLE,Int.reduceGT,Int.reduceGE,Int.reduceNeg,Int.reduceToNat,Nat.reduceLT,Nat.reduceSub,tab,hbo,htk,htl,Try.results33,jTA])|(simp (disch:=omega) only [ziw]))
      all_goals first
        | (exfalso; omega)
        | (simp only [zrds]; done)
end Go.Proofs.Ytoibnghkcdopeaa.V
end
section
namespace Go.Proofs.Ytoibnghkcdopeaa.V
open Go Go.RowKit

def fen : Option Nat → Fence
  | none => Fence.wide
  | some l => Fence.wide.inRound l
theorem fen_fn (ro : Option Nat) (f : FuncId) : (fen ro).fn f := by cases ro <;> trivial
theorem fen_depth (ro : Option Nat) (n : Nat) : (fen ro).depth.isSome = true → 1 ≤ n := by cases ro <;> (intro h; cases h)
theorem callsIn_fen {P : Program} {f : FuncId} {args : Array Value} {w : World} {R : Ending → World → Prop} (ro : Option Nat) (n : Nat) (h : Calls P f args w R) : CallsIn (fen ro) n P f args w R := by
  cases ro with
  | none => exact callsIn_wide.2 h
  | some l => exact (callsIn_wide.2 h).inRound l
theorem rowsIn_fen {P : Program} {row : String} {args : Array Value} {w : World} {R : Value → World → Prop} (ro : Option Nat) (n : Nat) (h : Rows P row args w R) : RowsIn (fen ro) n P row args w R := fun c cs _ => by
  obtain ⟨v, w', hR, hs⟩ := h c cs
  cases ro with
  | none => exact ⟨v, w', hR, stepsIn_wide.2 hs⟩
  | some l => exact ⟨v, w', hR, stepsIn_wide.2 hs⟩
def noDefer (o : Oper) : Bool := match o.op with
  | .defer _ => false
  | _ => true
theorem opIn_of_wp {P : Program} {o : Oper} {a : Act} {w : World} {Nx : Act → World → Prop} {Q : Exit → Act → World → Prop} (ro : Option Nat) (n : Nat) (hnd : noDefer o = true) (h : o.wp P a w Nx Q) : o.wpIn (fen ro) n P a w Nx Q := by
  refine ⟨fun f _ => fen_fn ro f, ?_⟩
  have hsem : o.semAt (fen ro).round a.eval = execOp a.eval o := by
    cases ro with
    | none => rfl
    | some l => exact Oper.semAt_some l _ _ (fun c e => by simp [noDefer, e] at hnd)
  rw [hsem]
  unfold Oper.wp at h
  generalize (execOp a.eval o).run P w = r at h ⊢
  cases r with
  | ok x w' =>
    cases x <;> first
      | exact h
      | exact ⟨fen_depth ro n, callsIn_fen ro (n - 1) h⟩
      | exact ⟨fen_depth ro n, rowsIn_fen ro (n - 1) h⟩
      | exact h.elim
  | halt x w' => cases x <;> first | exact h | exact h.elim
section
variable {P : Program} {N : NN} {B : Nat} {ρ0 : Names} {w0 : World} {ops : Array Oper} {Q : Exit → Act → World → Prop} {K : VS → Prop}
theorem vlist_soundI (ro : Option Nat) (n : Nat) (rest : List Oper) : ∀ (l : List Oper) (S : VS) (a : Act) (w : World) (ρ : Names), (∀ o ∈ l, (∀ t, o.dst = some t → t < N) ∧ noDefer o = true) → vlist P ops.toList l S K → SR N B ρ0 w0 S a w ρ →
    (∀ S' a' w' ρ', K S' → SR N B ρ0 w0 S' a' w' ρ' → wpListIn (fen ro) n P ops Q rest a' w') → wpListIn (fen ro) n P ops Q (l ++ rest) a w
  | [], S, a, w, ρ, _, h, hS, next => next S a w ρ h hS
  | o :: l, S, a, w, ρ, hd, h, hS, next => by
    obtain ⟨hd1, hd2⟩ := hd o (by simp)
    show wpListIn (fen ro) n P ops Q (o :: (l ++ rest)) a w
    refine wpListIn_step fun Kx hKx => ?_
    have := vstep_sound (Nx := Kx) (Q := Q) hd1 h hS fun S' a' w' ρ' hk hS' => hKx _ _ (vlist_soundI ro n rest l S' a' w' ρ' (fun o ho => hd o (by simp [ho])) hk hS' next)
    split at this
    · rename_i hw; rw [if_pos hw]; exact opIn_of_wp ro n hd2 this
    · rename_i hw; rw [if_neg hw]; exact ⟨fun f _ => fen_fn ro f, this⟩
end
def listOk (N : Nat) (l : List Oper) : Bool := l.all fun o => (match o.dst with | some d => decide (d < N) | none => true) && noDefer o
theorem region_soundI {P : Program} {N : NN} {B : Nat} {ρ0 : Names} {w0 : World} {Q : Exit → Act → World → Prop} {K : VS → Prop} {ro : Option Nat} {n id : Nat} {l : List Oper} {S : VS} {a : Act} {w : World} {ρ : Names} (hok : listOk N l = true)
    (h : vl P l l S K) (hS : SR N B ρ0 w0 S a w ρ) (next : ∀ S' a' w' ρ', K S' → SR N B ρ0 w0 S' a' w' ρ' → Q .normal a' w') : (Code.region id l.toArray false).wpIn (fen ro) n P Q a w := by
  refine wpIn_region_lit ?_
  have hx : ∀ o ∈ l, (∀ t, o.dst = some t → t < N) ∧ noDefer o = true := fun o ho => by
    have := List.all_eq_true.1 hok o ho
    simp only [Bool.and_eq_true] at this
    exact ⟨fun t ht => by have := this.1; rw [ht] at this; simpa using this, this.2⟩
  have := vlist_soundI (ops := l.toArray) (Q := Q) (K := K) (P := P) ro n [] l S a w ρ hx (by rw [← vl_def]; simpa using h) hS (fun S' a' w' ρ' hk hs => wpListIn_nil (next S' a' w' ρ' hk hs))
  simpa using this

structure Gr (w w' : World) : Prop where
  size : w.heap.size ≤ w'.heap.size
  same : ∀ (b : Nat) (o : Obj), w.heap[b]? = some o → o.isCells = true → w'.heap[b]? = some o
theorem Gr.of {w w' : World} {row : Option Nat} (hg : w.grownBy w' row) (hr : ∀ r, row = some r → ∃ o : Obj, w.heap[r]? = some o ∧ o.isCells = false) : Gr w w' := by
  refine ⟨hg.size, fun b o hb ho => ?_⟩
  rw [hg.block b (Array.getElem?_eq_some_iff.1 hb).1 (fun e => ?_)]
  · exact hb
  · obtain ⟨o', h1, h2⟩ := hr b e.symm
    rw [hb] at h1
    injection h1 with h1
    subst h1
    rw [ho] at h2; cases h2
theorem cells_of {w : World} {b o : Nat} {v : Value} (h : w.cell? ⟨b, o, none⟩ = some v) : ∃ x : Obj, w.heap[b]? = some x ∧ x.isCells = true := by
  unfold World.cell? at h
  dsimp only at h
  split at h
  · rename_i c e f hb; exact ⟨_, hb, rfl⟩
  · cases h
theorem Gr.at {w w' : World} (h : Gr w w') {b o : Nat} {v : Value} (hc : w.cell? ⟨b, o, none⟩ = some v) : w'.heap[b]? = w.heap[b]? := by
  obtain ⟨x, h1, h2⟩ := cells_of hc
  rw [h1, h.same b x h1 h2]
theorem Gr.cell {w w' : World} (h : Gr w w') {b o : Nat} {v : Value} (hc : w.cell? ⟨b, o, none⟩ = some v) : w'.cell? ⟨b, o, none⟩ = some v := by
  rw [cell_of_block (h.at hc)]; exact hc
theorem Gr.range {w w' : World} (h : Gr w w') {b o : Nat} {cs : List Value} (hr : w.rangeAt b o cs) : w'.rangeAt b o cs := fun j v hv => h.cell (hr j v hv)
theorem Gr.there {w w' : World} (h : Gr w w') {b o n : Nat} (hr : w.there b o n) : w'.there b o n := fun j hj => by
  obtain ⟨h1, h2⟩ := hr j hj
  obtain ⟨v, hv⟩ := Option.isSome_iff_exists.1 h1
  rw [h.cell hv, frozen_of_block (h.at hv)]
  exact ⟨rfl, h2⟩
section
variable {ρ : Names} {w w' : World}
mutual
theorem C1.gr (h : Gr w w') : ∀ (v : VV) (cs : List Value), C1 ρ w v cs → C1 ρ w' v cs
  | .int _ _, _, hc => by simpa only [C1] using hc
  | .bool _, _, hc => by simpa only [C1] using hc
  | .str _, _, hc => by simpa only [C1] using hc
  | .agg vs, cs, hc => by simp only [C1] at hc ⊢; exact CR.gr h vs cs hc
  | .tup _, _, hc => by simp only [C1] at hc
  | .sl none _, _, hc => by simpa only [C1] using hc
  | .sl (some (m, p, i)) n, cs, hc => by simpa only [C1] using hc
  | .ptr m p, cs, hc => by simpa only [C1] using hc
  | .fn f caps, cs, hc => by
    simp only [C1] at hc ⊢
    obtain ⟨xs, h1, h2⟩ := hc
    exact ⟨xs, h1, CV.gr h caps _ h2⟩
  | .map m, cs, hc => by simpa only [C1] using hc
  | .dat s els, cs, hc => by
    simp only [C1] at hc ⊢
    obtain ⟨A, c, h1, h2, h3⟩ := hc
    refine ⟨A, c, h1, h2, fun hne => ?_⟩
    obtain ⟨b, o, ecs, g1, g2, g3, g4, g5, g6⟩ := h3 hne
    exact ⟨b, o, ecs, g1, CR.gr h els ecs g2, g3, h.range g4, g5, Nat.lt_of_lt_of_le g6 h.size⟩
  | .pd s v, cs, hc => by
    simp only [C1] at hc ⊢
    obtain ⟨b, o, ecs, g1, g2, g3, g4, g5, g6⟩ := hc
    exact ⟨b, o, ecs, g1, C1.gr h v ecs g2, g3, h.range g4, g5, Nat.lt_of_lt_of_le g6 h.size⟩
  | .vec _ _, _, hc => by simp only [C1] at hc
  | .any, _, hc => by simpa only [C1] using hc
  | .raw _, _, hc => by simpa only [C1] using hc
theorem CR.gr (h : Gr w w') : ∀ (vs : List VV) (cs : List Value), CR ρ w vs cs → CR ρ w' vs cs
  | [], _, hc => by simpa only [CR] using hc
  | v :: vs, cs, hc => by
    simp only [CR] at hc ⊢
    obtain ⟨c1, c2, h1, h2, h3⟩ := hc
    exact ⟨c1, c2, h1, C1.gr h v c1 h2, CR.gr h vs c2 h3⟩
theorem CV.gr (h : Gr w w') : ∀ (vs : List VV) (cs : List Value), CV ρ w vs cs → CV ρ w' vs cs
  | [], _, hc => by simpa only [CV] using hc
  | v :: vs, cs, hc => by
    simp only [CV] at hc ⊢
    obtain ⟨c1, c2, h1, h2, h3, h4⟩ := hc
    exact ⟨c1, c2, h1, h2, C1.gr h v [c1] h3, CV.gr h vs c2 h4⟩
end
theorem VR1.gr (h : Gr w w') (v : VV) (x : Value) (hc : VR1 ρ w v x) : VR1 ρ w' v x := by
  cases v with
  | agg vs => obtain ⟨cs, h1, h2⟩ := hc; exact ⟨cs, h1, CR.gr h vs _ h2⟩
  | any => trivial
  | _ => exact C1.gr h _ _ hc
theorem VRs.gr (h : Gr w w') : ∀ (vs : List VV) (xs : List Value), VRs ρ w vs xs → VRs ρ w' vs xs
  | [], _, hc => hc
  | v :: vs, xs, hc => by
    obtain ⟨x, ys, h1, h2, h3⟩ := hc
    exact ⟨x, ys, h1, VR1.gr h v x h2, VRs.gr h vs ys h3⟩
theorem VR.gr (h : Gr w w') (v : VV) (x : Value) (hc : VR ρ w v x) : VR ρ w' v x := by
  cases v with
  | tup vs => obtain ⟨cs, h1, h2⟩ := hc; exact ⟨cs, h1, VRs.gr h vs _ h2⟩
  | _ => simp only [VR] at hc ⊢; exact VR1.gr h _ _ hc
end
theorem HR.gr {Z : Nat → Nat → Prop} [Zone Z] {B n : Nat} {ρ : Names} {w w' : World} {H : Heap} (hm : ∀ m es, H m ≠ some (.map es)) (h : HR Z B ρ H n w) (g : Gr w w') : HR Z B ρ H n w' :=
  ⟨Nat.le_trans h.base g.size, h.fresh, fun m l hl => ⟨(h.lt m l hl).1, Nat.lt_of_lt_of_le (h.lt m l hl).2 g.size⟩, h.apart, fun m s v l h1 h2 => by
    have hr := h.row m s v l h1 h2
    obtain ⟨cs, c1, c2, c3⟩ := hr.cells
    exact ⟨hr.sh, hr.has, ⟨cs, C1.gr g v cs c1, c2, g.range c3⟩, g.there hr.room⟩, fun m es l h1 _ => absurd h1 (hm m es)⟩
theorem SR.gr {N : NN} {B : Nat} {ρ0 ρ : Names} {w0 w w' : World} {S : VS} {a : Act} (hm : ∀ m es, S.hp m ≠ some (.map es)) (hB : B ≤ w0.heap.size) (h : SR N B ρ0 w0 S a w ρ) {row : Option Nat} (hg : w.grownBy w' row)
    (hr : ∀ r, row = some r → w0.heap.size ≤ r ∧ ∃ o : Obj, w.heap[r]? = some o ∧ o.isCells = false) : SR N B ρ0 w0 S a w' ρ := by
  have g : Gr w w' := Gr.of hg fun r e => (hr r e).2
  refine ⟨fun t => VR.gr g _ _ (h.tm t), h.defers, h.size, h.heap.gr hm g, h.below.trans ⟨hg.os, hg.tape, hg.output, hg.size, fun k hk => hg.block k (Nat.lt_of_lt_of_le hk h.heap.base) fun e => ?_⟩, ⟨h.ext.names, Nat.le_trans h.ext.size hg.size, fun b hb hu => ?_, h.ext.fresh, h.ext.im, h.ext.imb⟩⟩
  · have := (hr k e.symm).1; omega
  · rw [hg.block b (Nat.lt_of_lt_of_le hb h.ext.size) (fun e => ?_)]
    · exact h.ext.block b hb hu
    · have := (hr b e.symm).1; omega
def moreIm (ρ : Names) (X : Nat → Prop) : Names := ⟨ρ.nm, fun b => ρ.im b ∨ X b⟩
theorem moreIm_un {ρ : Names} {X : Nat → Prop} {b : Nat} (h : Unnamed ρ b) : Unnamed (moreIm ρ X) b := ⟨.inl h.1, h.2⟩
theorem SR.more {N : NN} {B : Nat} {ρ0 ρ : Names} {w0 w : World} {S : VS} {a : Act} (X : Nat → Prop) (hX : ∀ b, X b → w0.heap.size ≤ b) (h : SR N B ρ0 w0 S a w ρ) : SR N B ρ0 w0 S a w (moreIm ρ X) := by
  have hN : ∀ m l, ρ m = some l → (moreIm ρ X) m = some l := fun _ _ h => h
  have hU : ∀ b, b < w.heap.size → Unnamed ρ b → Unnamed (moreIm ρ X) b := fun _ _ h => moreIm_un h
  refine ⟨fun t => VR.mono hN hU (h.tm t), h.defers, h.size, ⟨h.heap.base, h.heap.fresh, h.heap.lt, h.heap.apart, fun m s v l h1 h2 => ?_, fun m es l h1 h2 => ?_⟩, h.below, ⟨h.ext.names, h.ext.size, h.ext.block, h.ext.fresh, fun b hb => .inl (h.ext.im b hb), fun b hb => hb.elim (h.ext.imb b) fun hx => .inr (hX b hx)⟩⟩
  · have hr := h.heap.row m s v l h1 h2
    obtain ⟨cs, c1, c2, c3⟩ := hr.cells
    exact ⟨hr.sh, hr.has, ⟨cs, C1.mono hN hU v cs c1, c2, c3⟩, hr.room⟩
  · have hr := h.heap.map m es l h1 h2
    obtain ⟨xs, c, m1, m2⟩ := hr.obj
    have key : ∀ (es : List (VV × VV)) (xs : List MapEntry), ME ρ w es xs → ME (moreIm ρ X) w es xs := by
      intro es
      induction es with
      | nil => exact fun _ h => h
      | cons x es ih =>
        intro xs h
        obtain ⟨y, ys, g1, g2, g3, g4, g5⟩ := h
        exact ⟨y, ys, g1, g2, VR1.mono hN hU g3, VR1.mono hN hU g4, ih ys g5⟩
    exact ⟨⟨xs, c, m1, key _ _ m2⟩, hr.born⟩
theorem SR.here {N : NN} {B : Nat} {ρ0 ρ : Names} {w0 w : World} {S : VS} {a : Act} (h : SR N B ρ0 w0 S a w ρ) : SR N B ρ w S a w ρ := ⟨h.tm, h.defers, h.size, h.heap, Below.refl _ _, Ext.refl _ _⟩

def Cont (P : Program) (N : NN) (B : Nat) (ρ0 : Names) (w0 : World) (Q : Exit → Act → World → Prop) (c : Code) (S : VS) : Prop := ∀ a w ρ, SR N B ρ0 w0 S a w ρ → c.wp P Q a w
section
variable {P : Program} {N : NN} {B : Nat} {ρ0 : Names} {w0 : World} {Q : Exit → Act → World → Prop} {S T : VS} {x y z : Code} {n0 : Nat}
theorem cont_seq (h0 : ∀ m, n0 ≤ m → ρ0 m = none) (hok : codeOk N x = true) (h : Ok P n0 x S fun e S' => e = .normal ∧ Cont P N B ρ0 w0 Q y S') : Cont P N B ρ0 w0 Q (.seq x y) S := fun a w ρ hs =>
  wp_seq (h N B ρ0 w0 _ a w ρ h0 hok hs fun e S' a' w' ρ' ⟨he, hk⟩ hs' => by subst he; exact hk a' w' ρ' hs')
theorem cont_ren (h0 : ∀ m, n0 ≤ m → ρ0 m = none) (h : Ren n0 S T) (hT : Cont P N B ρ0 w0 Q x T) : Cont P N B ρ0 w0 Q x S := fun a w ρ hs => by
  obtain ⟨ρ', h'⟩ := h N B ρ0 w0 a w ρ h0 hs
  exact hT a w ρ' h'
theorem cont_left (h : Cont P N B ρ0 w0 (Exit.then (y.wp P Q) Q) x S) : Cont P N B ρ0 w0 Q (.seq x y) S := fun a w ρ hs => wp_seq (h a w ρ hs)
end
section
variable {P : Program} {N : NN} {B : Nat} {ρ0 : Names} {w0 : World} {Q : Exit → Act → World → Prop} {S T : VS} {x y z : Code} {n0 : Nat} {rs : List ResultVar} {Kf : VV → Heap → Nat → Prop}
end
theorem sr_enter {fn : Func} {args : List VV} {k : Nat} (hl : args.length = k) (hlen : k ≤ fn.ntmps) {B : Nat} {ρ : Names} {w : World} {xs : List Value} {H : Heap} {n : Nat} (hh : HR ZT B ρ H n w) (ha : VRA ρ w args xs) :
    SR ⟨fn.ntmps, []⟩ B ρ w ⟨argsF 0 args (fun _ => .any), H, n⟩ { tmps := xs.toArray ++ Array.replicate (fn.ntmps - xs.toArray.size) undef, defers := [] } w ρ := by
  have hxl := ha.len
  refine ⟨?_, rfl, by simp; omega, hh, Below.refl _ _, Ext.refl _ _⟩
  intro t
  show VR ρ w (argsF 0 args (fun _ => .any) t) _
  rw [argsF_at]
  split
  · rename_i ht
    have ht' : t < xs.length := by omega
    have key : ∀ (vs : List VV) (xs : List Value) (t : Nat), VRA ρ w vs xs → t < xs.length → VR ρ w (vs.getD t .any) (xs.getD t undef) := by
      intro vs
      induction vs with
      | nil => intro xs t h ht; have h : xs = [] := h; subst h; simp at ht
      | cons v vs ih =>
        intro xs t h ht
        obtain ⟨x, ys, rfl, h1, h2⟩ := h
        cases t with
        | zero => simpa using h1
        | succ t => simpa using ih ys t h2 (by simpa using ht)
    have := key args xs t ha ht'
    simpa [Array.getD_eq_getD_getElem?, Array.getElem?_append, ht', List.getD_eq_getElem?_getD] using this
  · simp [VR, VR1]
theorem hr_bare (U : Nat → Prop) (w : World) : HR ZT w.heap.size (.bare U) (fun _ => none) 0 w := ⟨Nat.le_refl _, fun _ _ => rfl, fun m l h => (by cases h), fun m m' l l' h => (by cases h), fun m s v l h => (by cases h), fun m es l h => (by cases h)⟩
theorem in_assign {r k : Nat} {P : Program} {ops : Array Oper} {Q : Exit → Act → World → Prop} {rest : List Oper} {a : Act} {w : World} {d : Nat} {x : Operand} {ty : TypeId} {pos : String} {aft : Array Edge}
    (h : wpListIn (Fence.wide.inRound r) k P ops Q rest (a.put (some d) (a.eval x)) w) : wpListIn (Fence.wide.inRound r) k P ops Q ({ dst := some d, op := .assign x, type := ty, pos := pos, after := aft, guard := none } :: rest) a w :=
  wpListIn_plain rfl fun K hK => opIn_of_wp (some r) k rfl (by
    unfold Oper.wp
    simp only [execOp]
    exact hK _ _ h)
theorem wp_range {α : Type} {P : Program} {g : Operand} {ps : Array Tmp} {assign : Code} {bid rid : Nat} {l : List Oper} {Q : Exit → Act → World → Prop} {a : Act} {w1 w0 : World} {N : NN} {B : Nat} {ρ0 ρ : Names} {n0 : Nat}
    (m : Nat) {gf : Nat} {lb : Array Value} {encs : α → Array Value} {S : List α → Prop} {M : Nat} (fr : List α → VS) (h0 : ∀ m, n0 ≤ m → ρ0 m = none) (hB : B ≤ w0.heap.size) (hS : SR N B ρ0 w0 (fr []) a w1 ρ)
    (hg : a.eval g = .func (.func gf) #[] lb) (eg : ∀ args w, (callFunc gf args).run P w = .ok (.enter gf args) w) (Hd : World → Prop)
    (hseq : SeqStopsK Fence.wide m P gf lb encs (fun W W' => Hd W → Hd W') S (fun _ => True) M w1) (hHd : ∀ pre W ρ', SR N B ρ0 w0 (fr pre) a W ρ' → Hd W) (hHg : ∀ W W', Gr W W' → Hd W → Hd W') (hps : ∀ x, (encs x).size = ps.size)
    (hmaps : ∀ pre k es, (fr pre).hp k ≠ some (.map es)) (hnew : ∀ pre x k, k < (fr (pre ++ [x])).nx → ∃ s v, (fr (pre ++ [x])).hp k = some (.row s v) ∧ 0 < s.size)
    (a₁ : α → Act) (tm₁ : List α → α → Nat → VV)
    (hassign : ∀ (r : Nat) (x : α) (W : World) (K : Act → World → Prop), K (a₁ x) W → assign.wpIn (Fence.wide.inRound r) (m - 1) P (Exit.then K (fun _ _ _ => False)) { tmps := (ps.zip (encs x)).foldl (fun t (p, v) => t.setIfInBounds p v) a.tmps, defers := [] } W)
    (hpar : ∀ pre x W ρ', SR N B ρ0 w0 (fr pre) a W ρ' → TM ρ' W (tm₁ pre x) (a₁ x)) (hsz : ∀ x, (a₁ x).tmps.size = N.n) (hdf : ∀ x, (a₁ x).defers = []) (hok : listOk N.n l = true)
    (hbody : ∀ pre x, pre.length < M → ∀ Mm : VS → Prop, (∀ S', Ren n0 ⟨(fr pre).tm, S'.hp, S'.nx⟩ (fr (pre ++ [x])) → Mm S') → vl P l l ⟨tm₁ pre x, (fr pre).hp, (fr pre).nx⟩ Mm)
    (hdone : ∀ (D : Nat) (xs : List α) (W : World) (ρ' : Names), w1.heap.size ≤ D → S xs → SR N B ρ0 w0 (fr xs) a W ρ' → (∀ m l, ρ' m = some l → l.block ≠ D) → W.heap[D]? = some (.deferred (some [])) → Q .normal { a with defers := { target := .collected D, args := #[] } :: a.defers } W) :
    (Code.rangeFunc g ps assign (.block bid (.region rid l.toArray false))).wp P Q a w1 := by
  have h01 : w0.heap.size ≤ w1.heap.size := hS.ext.size
  let NC : Names → World → Prop := fun ρ' W => ∀ m l, ρ' m = some l → l.block < w1.heap.size ∨ ∃ o : Obj, W.heap[l.block]? = some o ∧ o.isCells = true
  let I : List α → World → Prop := fun pre W => ∃ ρ', SR N B ρ0 w0 (fr pre) a W ρ' ∧ NC ρ' W
  refine (wpIn_wide (n := m + 1)).1 ?_
  refine wpIn_rangeFunc_ownG (w0 := w1) rfl (by omega) hg trivial eg hseq (fun {A B C} h k x => k (h x)) (fun W l o o' _ hl ho _ => hHg _ _ (Gr.of (grownBy_putObj' W l o') fun r e => by cases e; exact ⟨o, hl, ho⟩)) (Below.refl _ _) hps
    I (fun _ _ _ => False) ?_ (fun _ _ _ _ _ h => h.elim) ⟨ρ, hS, fun m l hm => .inl (hS.heap.lt m l hm).2⟩ a₁ hassign ?_ ?_ (fun _ _ _ _ _ _ h => h.elim)
  · rintro pre W W' row ⟨ρ', h, hnc⟩ hg hr
    refine ⟨ρ', h.gr (hmaps pre) hB hg (fun r e => ⟨Nat.le_trans h01 (hr r e).1, (hr r e).2⟩), fun m l hm => ?_⟩
    rcases hnc m l hm with h1 | ⟨o, h1, h2⟩
    · exact .inl h1
    · exact .inr ⟨o, (Gr.of hg fun r e => (hr r e).2).same _ o h1 h2, h2⟩
  · rintro r pre x W ⟨ρ', h, hnc⟩ hlen
    let X : Nat → Prop := fun k => w1.heap.size ≤ k ∧ ∃ o : Obj, W.heap[k]? = some o ∧ o.isCells = false
    have hb := h.more X (fun b hb => Nat.le_trans h01 hb.1)
    have hr : SR ⟨N.n, []⟩ B (moreIm ρ' X) W ⟨tm₁ pre x, (fr pre).hp, (fr pre).nx⟩ (a₁ x) W (moreIm ρ' X) := ⟨hpar _ _ _ _ hb, hdf x, hsz x, hb.heap, Below.refl _ _, Ext.refl _ _⟩
    refine wpIn_block (region_soundI (N := ⟨N.n, []⟩) (ro := some r) hok (hbody pre x hlen _ fun S' h => h) hr fun S' a' W' ρ2 hk hs => ?_)
    have hU : SR N B ρ0 w0 ⟨(fr pre).tm, S'.hp, S'.nx⟩ a W' ρ2 := ⟨hb.tm.ext hs.ext, hb.defers, hb.size, hs.heap, hb.below.trans hs.below, hb.ext.trans hs.ext⟩
    obtain ⟨ρ3, h3⟩ := hk N B ρ0 w0 a W' ρ2 h0 hU
    refine ⟨⟨hs.ext.size, fun k o hk1 hk2 ho => ?_⟩, fun _ => hHd _ _ _ h3, ρ3, h3, fun m l hm => ?_⟩
    · have hlt : k < W.heap.size := (Array.getElem?_eq_some_iff.1 hk2).1
      rw [hs.ext.block k hlt ⟨.inr ⟨hk1, o, hk2, ho⟩, fun n l hn e => ?_⟩]
      · exact hk2
      · rcases hnc n l hn with h1 | ⟨o', h1, h2⟩
        · omega
        · rw [e, hk2] at h1; injection h1 with h1; subst h1; rw [ho] at h2; cases h2
    · have hmn : m < (fr (pre ++ [x])).nx := by
        rcases Nat.lt_or_ge m (fr (pre ++ [x])).nx with h | h
        · exact h
        · rw [h3.heap.fresh m h] at hm; cases hm
      obtain ⟨s, v, g1, g2⟩ := hnew pre x m hmn
      have hrow := h3.heap.row m s v l g1 hm
      obtain ⟨cs, c1, c2, c3⟩ := hrow.cells
      have hlen := Has.len s v cs hrow.has c1
      cases cs with
      | nil => simp at hlen; omega
      | cons y ys => exact .inr (cells_of (c3 0 y rfl))
  · rintro D xs W hD hs ⟨ρ', h, hnc⟩ hK
    refine hdone D xs W ρ' hD hs h (fun m l hm e => ?_) hK
    rcases hnc m l hm with h1 | ⟨o, h1, h2⟩
    · omega
    · rw [e, hK] at h1; injection h1 with h1; subst h1; cases h2
end Go.Proofs.Ytoibnghkcdopeaa.V
end
