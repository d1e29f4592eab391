/-
  Parts of the proof of StateChecks: P6, P7, O1, VregW, O2, NJ, Q2.
  Conditions: none.
-/
import Derived.Test.YtlgldkjjbbbapaaWStateChecks10
import Derived.Test.YtlgldkjjbbbapaaWStateChecks08
import Derived.Test.YtlgldkjjbbbapaaWStateChecks06
import Derived.Test.YtlgldkjjbbbapaaWStateChecks07
import Derived.Test.YtlgldkjjbbbapaaWStateChecks05
import Derived.Test.YtlgldkjjbbbapaaWStateChecks09
section
/-
  THE PROGRAM'S TESTS, part 6: a machine's volume; any machine.
-/
set_option linter.unusedVariables false
set_option linter.unusedSimpArgs false
namespace Go.Proofs.Ytlgldkjjbbbapaa.V
open Go
set_option maxRecDepth 100000
-- nlx: jO, jP, jQ, jR, jS, jT, jU
set_option maxHeartbeats 4000000
theorem journaled_ex (d : Dr) (hd : dfit d) : Spec Try.prog 118 [encDr d] (.int .i64 (badD d)) := by
  have hC := check_spec d hd
  obtain ⟨⟨hf1, hf2⟩, hf3, hf4⟩ := hd
  unfold badD
  by_cases h0 : checkD d = 0
  · rw [if_neg (by omega)]
    rw [h0] at hC
    by_cases h1 : d.bl.length ≤ 33
    · rw [if_pos h1]
      refine spec_ok Try.func118 rfl rfl (by kernel_rfl) (k := 1) rfl (by decide) ?_
      repeat' (first|(with_reducible first|refine yrl (by constructor) ?_|refine jk (fun M hM=>?_)|(refine hM _ ?_;clear hM M)|refine xb3 (by decide) ?_|refine yqa (by assumption) ?_ ?_|refine yqb (by assumption) ?_ ?_)|((with_reducible refine je ?_)<;>(first|rfl|assumption|(simp only [znl,jO,jP,jQ,jR,jS,jT,jU];(first|done|fail))))|(with_reducible refine jf (by (simp only [↓reduceIte,zlk,Nat.reduceEqDiff,reduceCtorEq]);exact rfl) ?_)|((with_reducible first|refine jg (fun hc=>?_) (fun hc=>?_)|refine jh (fun hc=>?_) (fun hc=>?_))<;>(try simp (disch:=omega) only [zhb] at hc)<;>(try (exfalso;omega))<;>(try subst hc))|(with_reducible refine ji (by omega) ?_)|(simp (config := { maxSteps := 400000 }) only [↓jt,↓reduceIte,zvs,reduceCtorEq,Nat.reduceEqDiff,Nat.reduceAdd,Nat.reduceLeDiff,Nat.reduceMul,Int.reduceBNe,Int.reduceBEq,Int.reduceEq,Int.reduceNe,Int.reduceLT,Int.reduceLE,Int.reduceGT,Int.reduceGE,Int.reduceNeg,Int.reduceToNat,Nat.reduceLT,Nat.reduceSub,tab,Try.results118,List.toList_toArray])|(simp (disch:=omega) only [ziw]))
      all_goals first
        | (exfalso; omega)
        | (simp only [zrds]; done)
        | trace_state
    · rw [if_neg h1]
      refine spec_ok Try.func118 rfl rfl (by kernel_rfl) (k := 1) rfl (by decide) ?_
      repeat' (first|(with_reducible first|refine yrl (by constructor) ?_|refine jk (fun M hM=>?_)|(refine hM _ ?_;clear hM M)|refine xb3 (by decide) ?_|refine yqa (by assumption) ?_ ?_|refine yqb (by assumption) ?_ ?_)|((with_reducible refine je ?_)<;>(first|rfl|assumption|(simp only [znl,jO,jP,jQ,jR,jS,jT,jU];(first|done|fail))))|(with_reducible refine jf (by (simp only [↓reduceIte,zlk,Nat.reduceEqDiff,reduceCtorEq]);exact rfl) ?_)|((with_reducible first|refine jg (fun hc=>?_) (fun hc=>?_)|refine jh (fun hc=>?_) (fun hc=>?_))<;>(try simp (disch:=omega) only [zhb] at hc)<;>(try (exfalso;omega))<;>(try subst hc))|(with_reducible refine ji (by omega) ?_)|(simp (config := { maxSteps := 400000 }) only [↓jt,↓reduceIte,zvs,reduceCtorEq,Nat.reduceEqDiff,Nat.reduceAdd,Nat.reduceLeDiff,Nat.reduceMul,Int.reduceBNe,Int.reduceBEq,Int.reduceEq,Int.reduceNe,Int.reduceLT,Int.reduceLE,Int.reduceGT,Int.reduceGE,Int.reduceNeg,Int.reduceToNat,Nat.reduceLT,Nat.reduceSub,tab,Try.results118,List.toList_toArray])|(simp (disch:=omega) only [ziw]))
      all_goals first
        | (exfalso; omega)
        | (simp only [zrds]; done)
        | trace_state
  · rw [if_pos h0]
    refine spec_ok Try.func118 rfl rfl (by kernel_rfl) (k := 1) rfl (by decide) ?_
    repeat' (first|(with_reducible first|refine yrl (by constructor) ?_|refine jk (fun M hM=>?_)|(refine hM _ ?_;clear hM M)|refine xb3 (by decide) ?_|refine yqa (by assumption) ?_ ?_|refine yqb (by assumption) ?_ ?_)|((with_reducible refine je ?_)<;>(first|rfl|assumption|(simp only [znl,jO,jP,jQ,jR,jS,jT,jU];(first|done|fail))))|(with_reducible refine jf (by (simp only [↓reduceIte,zlk,Nat.reduceEqDiff,reduceCtorEq]);exact rfl) ?_)|((with_reducible first|refine jg (fun hc=>?_) (fun hc=>?_)|refine jh (fun hc=>?_) (fun hc=>?_))<;>(try simp (disch:=omega) only [zhb] at hc)<;>(try (exfalso;omega))<;>(try subst hc))|(with_reducible refine ji (by omega) ?_)|(simp (config := { maxSteps := 400000 }) only [↓jt,↓reduceIte,zvs,reduceCtorEq,Nat.reduceEqDiff,Nat.reduceAdd,Nat.reduceLeDiff,Nat.reduceMul,Int.reduceBNe,Int.reduceBEq,Int.reduceEq,Int.reduceNe,Int.reduceLT,Int.reduceLE,Int.reduceGT,Int.reduceGE,Int.reduceNeg,Int.reduceToNat,Nat.reduceLT,Nat.reduceSub,tab,Try.results118,List.toList_toArray])|(simp (disch:=omega) only [ziw]))
    all_goals first
      | (exfalso; omega)
      | (simp only [zrds]; done)
      | trace_state
theorem volume_a (m : Mach) (hm : MFit 20000 m) (h : checkD m.dr ≠ 0) : Spec Try.prog 55 [encM m] (.int .i64 (checkD m.dr)) := by
  have hC := check_spec m.dr (dfit_of hm)
  generalize checkD m.dr = c at hC h
  refine spec_ok Try.func55 rfl rfl (by kernel_rfl) (k := 1) rfl (by decide) ?_
  repeat' (first|(with_reducible first|refine yrl (by constructor) ?_|refine jk (fun M hM=>?_)|(refine hM _ ?_;clear hM M)|refine xb3 (by decide) ?_|refine yqa (by assumption) ?_ ?_|refine yqb (by assumption) ?_ ?_)|((with_reducible refine je ?_)<;>(first|rfl|assumption|(simp only [znl,jO,jP,jQ,jR,jS,jT,jU];(first|done|fail))))|(with_reducible refine jf (by (simp only [↓reduceIte,zlk,Nat.reduceEqDiff,reduceCtorEq]);exact rfl) ?_)|((with_reducible first|refine jg (fun hc=>?_) (fun hc=>?_)|refine jh (fun hc=>?_) (fun hc=>?_))<;>(try simp (disch:=omega) only [zhb] at hc)<;>(try (exfalso;omega))<;>(try subst hc))|(with_reducible refine ji (by omega) ?_)|(simp (config := { maxSteps := 400000 }) only [↓jt,↓reduceIte,zvs,reduceCtorEq,Nat.reduceEqDiff,Nat.reduceAdd,Nat.reduceLeDiff,Nat.reduceMul,Int.reduceBNe,Int.reduceBEq,Int.reduceEq,Int.reduceNe,Int.reduceLT,Int.reduceLE,Int.reduceGT,Int.reduceGE,Int.reduceNeg,Int.reduceToNat,Nat.reduceLT,Nat.reduceSub,tab,Try.results55,List.toList_toArray])|(simp (disch:=omega) only [ziw]))
  all_goals first
    | (exfalso; omega)
    | (simp only [zrds]; done)
    | trace_state
theorem volume_b (m : Mach) (hm : MFit 20000 m) (hc : checkD m.dr = 0) (h33 : m.dr.bl.length ≤ 33) : Spec Try.prog 55 [encM m] (.int .i64 3) := by
  have hC := check_spec m.dr (dfit_of hm)
  rw [hc] at hC
  have hJ := journaled_ex m.dr (dfit_of hm)
  rw [badD, if_neg (by omega), if_pos h33] at hJ
  refine spec_ok Try.func55 rfl rfl (by kernel_rfl) (k := 1) rfl (by decide) ?_
  repeat' (first|(with_reducible first|refine yrl (by constructor) ?_|refine jk (fun M hM=>?_)|(refine hM _ ?_;clear hM M)|refine xb3 (by decide) ?_|refine yqa (by assumption) ?_ ?_|refine yqb (by assumption) ?_ ?_)|((with_reducible refine je ?_)<;>(first|rfl|assumption|(simp only [znl,jO,jP,jQ,jR,jS,jT,jU];(first|done|fail))))|(with_reducible refine jf (by (simp only [↓reduceIte,zlk,Nat.reduceEqDiff,reduceCtorEq]);exact rfl) ?_)|((with_reducible first|refine jg (fun hc=>?_) (fun hc=>?_)|refine jh (fun hc=>?_) (fun hc=>?_))<;>(try simp (disch:=omega) only [zhb] at hc)<;>(try (exfalso;omega))<;>(try subst hc))|(with_reducible refine ji (by omega) ?_)|(simp (config := { maxSteps := 400000 }) only [↓jt,↓reduceIte,zvs,reduceCtorEq,Nat.reduceEqDiff,Nat.reduceAdd,Nat.reduceLeDiff,Nat.reduceMul,Int.reduceBNe,Int.reduceBEq,Int.reduceEq,Int.reduceNe,Int.reduceLT,Int.reduceLE,Int.reduceGT,Int.reduceGE,Int.reduceNeg,Int.reduceToNat,Nat.reduceLT,Nat.reduceSub,tab,Try.results55,List.toList_toArray])|(simp (disch:=omega) only [ziw]))
  refine ja (ok_body Try.func87 rfl rfl (by kernel_rfl) (k := 1) (by rfl) (by decide) ?_)
  repeat' (first|(with_reducible first|refine yrl (by constructor) ?_|refine jk (fun M hM=>?_)|(refine hM _ ?_;clear hM M)|refine xb3 (by decide) ?_|refine yqa (by assumption) ?_ ?_|refine yqb (by assumption) ?_ ?_)|((with_reducible refine je ?_)<;>(first|rfl|assumption|(simp only [znl,jO,jP,jQ,jR,jS,jT,jU];(first|done|fail))))|(with_reducible refine jf (by (simp only [↓reduceIte,zlk,Nat.reduceEqDiff,reduceCtorEq]);exact rfl) ?_)|((with_reducible first|refine jg (fun hc=>?_) (fun hc=>?_)|refine jh (fun hc=>?_) (fun hc=>?_))<;>(try simp (disch:=omega) only [zhb] at hc)<;>(try (exfalso;omega))<;>(try subst hc))|(with_reducible refine ji (by omega) ?_)|(simp (config := { maxSteps := 400000 }) only [↓jt,↓reduceIte,zvs,reduceCtorEq,Nat.reduceEqDiff,Nat.reduceAdd,Nat.reduceLeDiff,Nat.reduceMul,Int.reduceBNe,Int.reduceBEq,Int.reduceEq,Int.reduceNe,Int.reduceLT,Int.reduceLE,Int.reduceGT,Int.reduceGE,Int.reduceNeg,Int.reduceToNat,Nat.reduceLT,Nat.reduceSub,tab,Try.results87,Try.results55,List.toList_toArray])|(simp (disch:=omega) only [ziw]))
  all_goals first
    | (exfalso; omega)
    | (simp only [zrds]; done)
    | trace_state
theorem volume_c (m : Mach) (hm : MFit 20000 m) (hc : checkD m.dr = 0) (h33 : 33 < m.dr.bl.length) : Spec Try.prog 55 [encM m] (.int .i64 (diskE m)) := by
  have hd := dfit_of hm
  have hhl0 : (homeD m.dr).length = m.dr.bl.length - 33 := by
    unfold homeD
    rw [if_pos ⟨hc, h33⟩]
    simp
  have hne : homeD m.dr ≠ [] := fun e => by rw [e] at hhl0; simp at hhl0; omega
  obtain ⟨R, hR⟩ : ∃ R, R = diskE m := ⟨_, rfl⟩
  rw [← hR]
  unfold diskE at hR
  rw [if_neg (by omega), if_neg hne] at hR
  have hbl := checkD_le hc
  have hC := check_spec m.dr hd
  rw [hc] at hC
  have hJ := journaled_ok m.dr hd hc h33
  have hrng := checkD_rng hc
  have hE := home_eq hc h33 fun w hw => (hrng w hw).2
  have hvf := volM_fit hm
  obtain ⟨g, hO⟩ := gof_ex (volM m) hvf.1 hvf.2
  have hpeL := hm.pe
  have hpeS := hm.peS
  have hdS := hm.dirtyS
  have hhl : (homeD m.dr).length = m.dr.bl.length - 33 := by rw [← hE, hwF_all_len, List.length_drop]
  obtain ⟨n, hn⟩ : ∃ n, n = m.dr.bl.length - 33 := ⟨_, rfl⟩
  refine spec_ok Try.func55 rfl rfl (by kernel_rfl) (k := 1) rfl (by decide) ?_
  repeat' (first|(with_reducible first|refine yrl (by constructor) ?_|refine jk (fun M hM=>?_)|(refine hM _ ?_;clear hM M)|refine xb3 (by decide) ?_|refine yqa (by assumption) ?_ ?_|refine yqb (by assumption) ?_ ?_)|((with_reducible refine je ?_)<;>(first|rfl|assumption|(simp only [znl,jO,jP,jQ,jR,jS,jT,jU];(first|done|fail))))|(with_reducible refine jf (by (simp only [↓reduceIte,zlk,Nat.reduceEqDiff,reduceCtorEq]);exact rfl) ?_)|((with_reducible first|refine jg (fun hc=>?_) (fun hc=>?_)|refine jh (fun hc=>?_) (fun hc=>?_))<;>(try simp (disch:=omega) only [zhb] at hc)<;>(try (exfalso;omega))<;>(try subst hc))|(with_reducible refine ji (by omega) ?_)|(simp (config := { maxSteps := 400000 }) only [↓jt,↓reduceIte,zvs,reduceCtorEq,Nat.reduceEqDiff,Nat.reduceAdd,Nat.reduceLeDiff,Nat.reduceMul,Int.reduceBNe,Int.reduceBEq,Int.reduceEq,Int.reduceNe,Int.reduceLT,Int.reduceLE,Int.reduceGT,Int.reduceGE,Int.reduceNeg,Int.reduceToNat,Nat.reduceLT,Nat.reduceSub,tab,Try.results55,List.toList_toArray])|(simp (disch:=omega) only [ziw]))
  refine ja (ok_body Try.func87 rfl rfl (by kernel_rfl) (k := 1) (by rfl) (by decide) ?_)
  repeat' (first|(with_reducible first|refine yrl (by constructor) ?_|refine jk (fun M hM=>?_)|(refine hM _ ?_;clear hM M)|refine xb3 (by decide) ?_|refine yqa (by assumption) ?_ ?_|refine yqb (by assumption) ?_ ?_)|((with_reducible refine je ?_)<;>(first|rfl|assumption|(simp only [znl,jO,jP,jQ,jR,jS,jT,jU];(first|done|fail))))|(with_reducible refine jf (by (simp only [↓reduceIte,zlk,Nat.reduceEqDiff,reduceCtorEq]);exact rfl) ?_)|((with_reducible first|refine jg (fun hc=>?_) (fun hc=>?_)|refine jh (fun hc=>?_) (fun hc=>?_))<;>(try simp (disch:=omega) only [zhb] at hc)<;>(try (exfalso;omega))<;>(try subst hc))|(with_reducible refine ji (by omega) ?_)|(simp (config := { maxSteps := 400000 }) only [↓jt,↓reduceIte,zvs,reduceCtorEq,Nat.reduceEqDiff,Nat.reduceAdd,Nat.reduceLeDiff,Nat.reduceMul,Int.reduceBNe,Int.reduceBEq,Int.reduceEq,Int.reduceNe,Int.reduceLT,Int.reduceLE,Int.reduceGT,Int.reduceGE,Int.reduceNeg,Int.reduceToNat,Nat.reduceLT,Nat.reduceSub,tab,Try.results87,List.toList_toArray])|(simp (disch:=omega) only [ziw]))
  refine ok_loop (fun k : Nat => ⟨slots [(1, .ptr 1 []), (3, .sl (some (2, [], 0)) n), (14, encWrs m.dr.pe), (15, .int .i64 m.dr.pe.length), (16, .int .i64 k)], rows [(0, .row machSh (encM m)), (1, .row (.st [.cell, .cell, .cell]) (encDr m.dr)), (2, .row (.arr n .cell) (.agg (((m.dr.pe.take k).foldl hwF (m.dr.bl.drop 33)).map .str)))], 3⟩) (fun k => k ≤ m.dr.pe.length) (fun k => m.dr.pe.length - k) 0 ?_ (Nat.zero_le _) (fun k hk => ?_)
  · (refine yrn [(1, 1), (2, 2)] false ?_ ?_<;>(repeat' (first|(with_reducible first|exact ya1|exact ya2|exact ya3|refine jx rfl (by first|rfl|assumption|(simp only [znl,jO,jP,jQ,jR,jS,jT,jU];(first|done|fail)))|exact ya5|exact ya7|exact jy|exact jz|refine jA ?_|refine ya9 ?_ ?_ ?_|refine jC rfl (by first|rfl|assumption|(simp only [znl,jO,jP,jQ,jR,jS,jT,jU];(first|done|fail)))|refine MR.agg (MRL.cons ?_ ?_)|refine MR.fn ?_|refine MRL.cons ?_ ?_|exact MRL.nil|refine jE ?_ ?_|exact jF|exact jG|refine yb1 ?_ ?_|refine MB.row ?_|refine jI ?_ ?_|exact ya8|refine jJ rfl (by first|rfl|assumption|(simp only [znl,jO,jP,jQ,jR,jS,jT,jU];(first|done|fail)))|refine yb2 ?_|rfl)|(simp only [znl,jO,jP,jQ,jR,jS,jT,jU];(first|done|fail))|(simp only [↓reduceIte,zlk,Nat.reduceEqDiff,reduceCtorEq])|(with_reducible first|refine jJ ?_ ?_|refine ya5 ?_|refine ju ?_|refine jv ?_|refine jw ?_|refine jx ?_ (by first|rfl|assumption|(simp only [znl,jO,jP,jQ,jR,jS,jT,jU];(first|done|fail)))|refine jC ?_ (by first|rfl|assumption|(simp only [znl,jO,jP,jQ,jR,jS,jT,jU];(first|done|fail)))))))
    all_goals (first | rfl | omega | (rw [List.take_of_length_le (by simp), List.take_zero, List.foldl_nil, List.map_drop]; done) | (rw [hn]; simp; done) | (simp; done) | trace_state)
  have hvl := hwF_all_len (m.dr.pe.take k) (m.dr.bl.drop 33)
  rw [List.length_drop, ← hn] at hvl
  by_cases hlt : k < m.dr.pe.length
  · obtain ⟨⟨w1, w2⟩, w3⟩ := hpeS _ (getD_mem' hlt)
    obtain ⟨w4, w5⟩ := hrng _ (getD_mem' hlt)
    have e1 : (m.dr.pe.take (k + 1)).foldl hwF (m.dr.bl.drop 33) = hwF ((m.dr.pe.take k).foldl hwF (m.dr.bl.drop 33)) (m.dr.pe.getD k default) := by
      rw [take_snoc m.dr.pe k hlt, List.foldl_append]; rfl
    generalize (m.dr.pe.take k).foldl hwF (m.dr.bl.drop 33) = v at hvl e1 ⊢
    have hset : ∀ (i : Nat) (s : List UInt8), (v.map VV.str).set i (.str s) = (v.set i s).map VV.str := fun i s => (List.map_set ..).symm
    by_cases hq33 : 33 ≤ (m.dr.pe.getD k default).b
    · have e1 := e1.trans (show hwF v (m.dr.pe.getD k default) = v.set ((m.dr.pe.getD k default).b - 33).toNat (m.dr.pe.getD k default).d from if_pos hq33)
      repeat' (first|(with_reducible first|refine yrl (by constructor) ?_|refine jk (fun M hM=>?_)|(refine hM _ ?_;clear hM M)|refine xb3 (by decide) ?_|refine yqa (by assumption) ?_ ?_|refine yqb (by assumption) ?_ ?_)|((with_reducible refine je ?_)<;>(first|rfl|assumption|(simp only [znl,jO,jP,jQ,jR,jS,jT,jU];(first|done|fail))))|(with_reducible refine jf (by (simp only [↓reduceIte,zlk,Nat.reduceEqDiff,reduceCtorEq]);exact rfl) ?_)|((with_reducible first|refine jg (fun hc=>?_) (fun hc=>?_)|refine jh (fun hc=>?_) (fun hc=>?_))<;>(try simp (disch:=omega) only [zhb] at hc)<;>(try (exfalso;omega))<;>(try subst hc))|(with_reducible refine ji (by omega) ?_)|(simp (config := { maxSteps := 400000 }) only [↓jt,↓reduceIte,zvs,reduceCtorEq,Nat.reduceEqDiff,Nat.reduceAdd,Nat.reduceLeDiff,Nat.reduceMul,Int.reduceBNe,Int.reduceBEq,Int.reduceEq,Int.reduceNe,Int.reduceLT,Int.reduceLE,Int.reduceGT,Int.reduceGE,Int.reduceNeg,Int.reduceToNat,Nat.reduceLT,Nat.reduceSub,tab,encWr,hvl,hset,Try.results87,List.toList_toArray])|(simp (disch:=omega) only [ziw]))
      all_goals first
        | (exfalso; omega)
        | (refine xl1 (k + 1) ?_ (by show k + 1 ≤ m.dr.pe.length; omega) (by show m.dr.pe.length - (k + 1) < m.dr.pe.length - k; omega); (refine yrn [(1, 1), (2, 2)] false ?_ ?_<;>(repeat' (first|(with_reducible first|exact ya1|exact ya2|exact ya3|refine jx rfl (by first|rfl|assumption|(simp only [znl,jO,jP,jQ,jR,jS,jT,jU];(first|done|fail)))|exact ya5|exact ya7|exact jy|exact jz|refine jA ?_|refine ya9 ?_ ?_ ?_|refine jC rfl (by first|rfl|assumption|(simp only [znl,jO,jP,jQ,jR,jS,jT,jU];(first|done|fail)))|refine MR.agg (MRL.cons ?_ ?_)|refine MR.fn ?_|refine MRL.cons ?_ ?_|exact MRL.nil|refine jE ?_ ?_|exact jF|exact jG|refine yb1 ?_ ?_|refine MB.row ?_|refine jI ?_ ?_|exact ya8|refine jJ rfl (by first|rfl|assumption|(simp only [znl,jO,jP,jQ,jR,jS,jT,jU];(first|done|fail)))|refine yb2 ?_|rfl)|(simp only [znl,jO,jP,jQ,jR,jS,jT,jU];(first|done|fail))|(simp only [↓reduceIte,zlk,Nat.reduceEqDiff,reduceCtorEq])|(with_reducible first|refine jJ ?_ ?_|refine ya5 ?_|refine ju ?_|refine jv ?_|refine jw ?_|refine jx ?_ (by first|rfl|assumption|(simp only [znl,jO,jP,jQ,jR,jS,jT,jU];(first|done|fail)))|refine jC ?_ (by first|rfl|assumption|(simp only [znl,jO,jP,jQ,jR,jS,jT,jU];(first|done|fail))))))); all_goals (first | rfl | (rw [e1]; done)))
        | trace_state
    · have e1 := e1.trans (show hwF v (m.dr.pe.getD k default) = v from if_neg hq33)
      repeat' (first|(with_reducible first|refine yrl (by constructor) ?_|refine jk (fun M hM=>?_)|(refine hM _ ?_;clear hM M)|refine xb3 (by decide) ?_|refine yqa (by assumption) ?_ ?_|refine yqb (by assumption) ?_ ?_)|((with_reducible refine je ?_)<;>(first|rfl|assumption|(simp only [znl,jO,jP,jQ,jR,jS,jT,jU];(first|done|fail))))|(with_reducible refine jf (by (simp only [↓reduceIte,zlk,Nat.reduceEqDiff,reduceCtorEq]);exact rfl) ?_)|((with_reducible first|refine jg (fun hc=>?_) (fun hc=>?_)|refine jh (fun hc=>?_) (fun hc=>?_))<;>(try simp (disch:=omega) only [zhb] at hc)<;>(try (exfalso;omega))<;>(try subst hc))|(with_reducible refine ji (by omega) ?_)|(simp (config := { maxSteps := 400000 }) only [↓jt,↓reduceIte,zvs,reduceCtorEq,Nat.reduceEqDiff,Nat.reduceAdd,Nat.reduceLeDiff,Nat.reduceMul,Int.reduceBNe,Int.reduceBEq,Int.reduceEq,Int.reduceNe,Int.reduceLT,Int.reduceLE,Int.reduceGT,Int.reduceGE,Int.reduceNeg,Int.reduceToNat,Nat.reduceLT,Nat.reduceSub,tab,encWr,hvl,hset,Try.results87,List.toList_toArray])|(simp (disch:=omega) only [ziw]))
      all_goals first
        | (exfalso; omega)
        | (refine xl1 (k + 1) ?_ (by show k + 1 ≤ m.dr.pe.length; omega) (by show m.dr.pe.length - (k + 1) < m.dr.pe.length - k; omega); (refine yrn [(1, 1), (2, 2)] false ?_ ?_<;>(repeat' (first|(with_reducible first|exact ya1|exact ya2|exact ya3|refine jx rfl (by first|rfl|assumption|(simp only [znl,jO,jP,jQ,jR,jS,jT,jU];(first|done|fail)))|exact ya5|exact ya7|exact jy|exact jz|refine jA ?_|refine ya9 ?_ ?_ ?_|refine jC rfl (by first|rfl|assumption|(simp only [znl,jO,jP,jQ,jR,jS,jT,jU];(first|done|fail)))|refine MR.agg (MRL.cons ?_ ?_)|refine MR.fn ?_|refine MRL.cons ?_ ?_|exact MRL.nil|refine jE ?_ ?_|exact jF|exact jG|refine yb1 ?_ ?_|refine MB.row ?_|refine jI ?_ ?_|exact ya8|refine jJ rfl (by first|rfl|assumption|(simp only [znl,jO,jP,jQ,jR,jS,jT,jU];(first|done|fail)))|refine yb2 ?_|rfl)|(simp only [znl,jO,jP,jQ,jR,jS,jT,jU];(first|done|fail))|(simp only [↓reduceIte,zlk,Nat.reduceEqDiff,reduceCtorEq])|(with_reducible first|refine jJ ?_ ?_|refine ya5 ?_|refine ju ?_|refine jv ?_|refine jw ?_|refine jx ?_ (by first|rfl|assumption|(simp only [znl,jO,jP,jQ,jR,jS,jT,jU];(first|done|fail)))|refine jC ?_ (by first|rfl|assumption|(simp only [znl,jO,jP,jQ,jR,jS,jT,jU];(first|done|fail))))))); all_goals (first | rfl | (rw [e1]; done)))
        | trace_state
  obtain rfl : k = m.dr.pe.length := by omega
  rw [List.take_length, hE] at *
  have hnh : n = (homeD m.dr).length := by rw [hhl]; exact hn
  have hn0 : 0 < n := by omega
  clear hE hne hhl0
  unfold volM at hO hR
  generalize homeD m.dr = h0 at hnh hO hhl hR ⊢
  by_cases h32 : 32 < m.dirty.length
  · rw [if_pos h32] at hR
    repeat' (first|(with_reducible first|refine yrl (by constructor) ?_|refine jk (fun M hM=>?_)|(refine hM _ ?_;clear hM M)|refine xb3 (by decide) ?_|refine yqa (by assumption) ?_ ?_|refine yqb (by assumption) ?_ ?_)|((with_reducible refine je ?_)<;>(first|rfl|assumption|(simp only [znl,jO,jP,jQ,jR,jS,jT,jU];(first|done|fail))))|(with_reducible refine jf (by (simp only [↓reduceIte,zlk,Nat.reduceEqDiff,reduceCtorEq]);exact rfl) ?_)|((with_reducible first|refine jg (fun hc=>?_) (fun hc=>?_)|refine jh (fun hc=>?_) (fun hc=>?_))<;>(try simp (disch:=omega) only [zhb] at hc)<;>(try (exfalso;omega))<;>(try subst hc))|(with_reducible refine ji (by omega) ?_)|(simp (config := { maxSteps := 400000 }) only [↓jt,↓reduceIte,zvs,reduceCtorEq,Nat.reduceEqDiff,Nat.reduceAdd,Nat.reduceLeDiff,Nat.reduceMul,Int.reduceBNe,Int.reduceBEq,Int.reduceEq,Int.reduceNe,Int.reduceLT,Int.reduceLE,Int.reduceGT,Int.reduceGE,Int.reduceNeg,Int.reduceToNat,Nat.reduceLT,Nat.reduceSub,tab,List.take_length,Try.results87,Try.results55,List.toList_toArray])|(simp (disch:=omega) only [ziw]))
    all_goals first
      | (exfalso; omega)
      | (rw [hR]; simp only [zrds]; done)
      | trace_state
  rw [if_neg h32] at hR
  have hF : ∀ k, k < m.dirty.length → dirtyQ h0 m.dirty k = false → R = 3 := fun k hk h => by
    rw [hR, if_pos]
    unfold dirtyE
    rw [List.all_eq_false]
    exact ⟨k, List.mem_range.2 hk, by show ¬(dirtyQ h0 m.dirty k = true); rw [h]; simp⟩
  have hT : (∀ k, k < m.dirty.length → dirtyQ h0 m.dirty k = true) → R = volE (m.dirty.foldl wrV h0) := fun h => by
    have hE : dirtyE h0 m.dirty = true := by
      unfold dirtyE
      rw [List.all_eq_true]
      intro i hi
      exact h i (List.mem_range.1 hi)
    rw [hE, if_neg (by simp)] at hR
    exact hR
  clear hR
  repeat' (first|(with_reducible first|refine yrl (by constructor) ?_|refine jk (fun M hM=>?_)|(refine hM _ ?_;clear hM M)|refine xb3 (by decide) ?_|refine yqa (by assumption) ?_ ?_|refine yqb (by assumption) ?_ ?_)|((with_reducible refine je ?_)<;>(first|rfl|assumption|(simp only [znl,jO,jP,jQ,jR,jS,jT,jU];(first|done|fail))))|(with_reducible refine jf (by (simp only [↓reduceIte,zlk,Nat.reduceEqDiff,reduceCtorEq]);exact rfl) ?_)|((with_reducible first|refine jg (fun hc=>?_) (fun hc=>?_)|refine jh (fun hc=>?_) (fun hc=>?_))<;>(try simp (disch:=omega) only [zhb] at hc)<;>(try (exfalso;omega))<;>(try subst hc))|(with_reducible refine ji (by omega) ?_)|(simp (config := { maxSteps := 400000 }) only [↓jt,↓reduceIte,zvs,reduceCtorEq,Nat.reduceEqDiff,Nat.reduceAdd,Nat.reduceLeDiff,Nat.reduceMul,Int.reduceBNe,Int.reduceBEq,Int.reduceEq,Int.reduceNe,Int.reduceLT,Int.reduceLE,Int.reduceGT,Int.reduceGE,Int.reduceNeg,Int.reduceToNat,Nat.reduceLT,Nat.reduceSub,tab,List.take_length,Try.results87,Try.results55,List.toList_toArray])|(simp (disch:=omega) only [ziw]))
  all_goals (try (exfalso; omega))
  refine ok_loop (fun k : Nat => ⟨slots [(1, .ptr 0 []), (4, .sl (some (2, [], 0)) n), (5, .int .i64 (lastW m.dirty k)), (27, encWrs m.dirty), (28, .int .i64 m.dirty.length), (29, .int .i64 k)], rows [(0, .row machSh (encM m)), (2, .row (.arr n .cell) (.agg (((m.dirty.take k).foldl wrV h0).map .str)))], 3⟩) (fun k => k ≤ m.dirty.length ∧ ∀ j, j < k → dirtyQ h0 m.dirty j = true) (fun k => m.dirty.length - k) 0 ?_ ⟨Nat.zero_le _, fun j hj => by omega⟩ (fun k hk => ?_)
  · (refine yrn [(0, 0), (2, 2)] false ?_ ?_<;>(repeat' (first|(with_reducible first|exact ya1|exact ya2|exact ya3|refine jx rfl (by first|rfl|assumption|(simp only [znl,jO,jP,jQ,jR,jS,jT,jU];(first|done|fail)))|exact ya5|exact ya7|exact jy|exact jz|refine jA ?_|refine ya9 ?_ ?_ ?_|refine jC rfl (by first|rfl|assumption|(simp only [znl,jO,jP,jQ,jR,jS,jT,jU];(first|done|fail)))|refine MR.agg (MRL.cons ?_ ?_)|refine MR.fn ?_|refine MRL.cons ?_ ?_|exact MRL.nil|refine jE ?_ ?_|exact jF|exact jG|refine yb1 ?_ ?_|refine MB.row ?_|refine jI ?_ ?_|exact ya8|refine jJ rfl (by first|rfl|assumption|(simp only [znl,jO,jP,jQ,jR,jS,jT,jU];(first|done|fail)))|refine yb2 ?_|rfl)|(simp only [znl,jO,jP,jQ,jR,jS,jT,jU];(first|done|fail))|(simp only [↓reduceIte,zlk,Nat.reduceEqDiff,reduceCtorEq])|(with_reducible first|refine jJ ?_ ?_|refine ya5 ?_|refine ju ?_|refine jv ?_|refine jw ?_|refine jx ?_ (by first|rfl|assumption|(simp only [znl,jO,jP,jQ,jR,jS,jT,jU];(first|done|fail)))|refine jC ?_ (by first|rfl|assumption|(simp only [znl,jO,jP,jQ,jR,jS,jT,jU];(first|done|fail)))))))
    all_goals (first | rfl | omega | trace_state)
  obtain ⟨hk, hq⟩ := hk
  have hvl := foldl_wrV_len (m.dirty.take k) h0
  rw [← hnh] at hvl
  by_cases hlt : k < m.dirty.length
  · obtain ⟨⟨w1, w2⟩, w3⟩ := hdS _ (getD_mem' hlt)
    have hl1 : -1 ≤ lastW m.dirty k ∧ lastW m.dirty k ≤ 9223372036854775807 := by
      cases k with
      | zero => exact ⟨Int.le_refl _, by show (-1 : Int) ≤ 9223372036854775807; omega⟩
      | succ k =>
        have := (dirtyQ_facts (hq k (by omega))).1
        have h2 := (hdS _ (getD_mem' (show k < m.dirty.length by omega))).1.2
        exact ⟨by show -1 ≤ (m.dirty.getD k default).b; omega, h2⟩
    have hQ : dirtyQ h0 m.dirty k = true ↔ (lastW m.dirty k < (m.dirty.getD k default).b ∧ (m.dirty.getD k default).b < h0.length ∧ (m.dirty.getD k default).d.length = 128) := by
      constructor
      · intro h
        obtain ⟨d1, d2, d3, d4⟩ := dirtyQ_facts h
        exact ⟨d4, d2, d3⟩
      · rintro ⟨d1, d2, d3⟩
        unfold dirtyQ
        cases k with
        | zero =>
          have d1 : (-1 : Int) < (m.dirty.getD 0 default).b := d1
          simp only [Nat.lt_irrefl,decide_false,Bool.false_and,Bool.or_false,Bool.not_eq_true',Bool.or_eq_false_iff,decide_eq_false_iff_not,ne_eq,Decidable.not_not]
          omega
        | succ k =>
          have d1 : (m.dirty.getD k default).b < (m.dirty.getD (k + 1) default).b := d1
          have := (dirtyQ_facts (hq k (by omega))).1
          rw [Nat.add_sub_cancel, decide_eq_true (Nat.succ_pos k)]
          simp only [Bool.true_and,Bool.not_eq_true',Bool.or_eq_false_iff,decide_eq_false_iff_not,ne_eq,Decidable.not_not]
          omega
    have hst := step_all (k := k) hq
    have hF := hF k hlt
    have dn : lastW m.dirty (k + 1) = (m.dirty.getD k default).b := rfl
    have e1 : (m.dirty.take (k + 1)).foldl wrV h0 = wrV ((m.dirty.take k).foldl wrV h0) (m.dirty.getD k default) := by
      rw [take_snoc m.dirty k hlt, List.foldl_append]; rfl
    generalize (m.dirty.take k).foldl wrV h0 = v at hvl e1 ⊢
    have hset : ∀ (i : Nat) (s : List UInt8), (v.map VV.str).set i (.str s) = (v.set i s).map VV.str := fun i s => (List.map_set ..).symm
    generalize lastW m.dirty k = lw at hl1 hQ ⊢
    by_cases hQt : dirtyQ h0 m.dirty k = true
    · obtain ⟨d1, d2, d3⟩ := hQ.1 hQt
      have e1 := e1.trans (show wrV v (m.dirty.getD k default) = v.set (m.dirty.getD k default).b.toNat (m.dirty.getD k default).d from if_pos ⟨by omega, by omega⟩)
      repeat' (first|(with_reducible first|refine yrl (by constructor) ?_|refine jk (fun M hM=>?_)|(refine hM _ ?_;clear hM M)|refine xb3 (by decide) ?_|refine yqa (by assumption) ?_ ?_|refine yqb (by assumption) ?_ ?_)|((with_reducible refine je ?_)<;>(first|rfl|assumption|(simp only [znl,jO,jP,jQ,jR,jS,jT,jU];(first|done|fail))))|(with_reducible refine jf (by (simp only [↓reduceIte,zlk,Nat.reduceEqDiff,reduceCtorEq]);exact rfl) ?_)|((with_reducible first|refine jg (fun hc=>?_) (fun hc=>?_)|refine jh (fun hc=>?_) (fun hc=>?_))<;>(try simp (disch:=omega) only [zhb] at hc)<;>(try (exfalso;omega))<;>(try subst hc))|(with_reducible refine ji (by omega) ?_)|(simp (config := { maxSteps := 400000 }) only [↓jt,↓reduceIte,zvs,reduceCtorEq,Nat.reduceEqDiff,Nat.reduceAdd,Nat.reduceLeDiff,Nat.reduceMul,Int.reduceBNe,Int.reduceBEq,Int.reduceEq,Int.reduceNe,Int.reduceLT,Int.reduceLE,Int.reduceGT,Int.reduceGE,Int.reduceNeg,Int.reduceToNat,Nat.reduceLT,Nat.reduceSub,tab,encWr,hvl,hset,Try.results55,List.toList_toArray])|(simp (disch:=omega) only [ziw]))
      all_goals first
        | (exfalso; omega)
        | (refine xl1 (k + 1) ?_ ⟨by omega, hst hQt⟩ (by show m.dirty.length - (k + 1) < m.dirty.length - k; omega); (refine yrn [(0, 0), (2, 2)] false ?_ ?_<;>(repeat' (first|(with_reducible first|exact ya1|exact ya2|exact ya3|refine jx rfl (by first|rfl|assumption|(simp only [znl,jO,jP,jQ,jR,jS,jT,jU];(first|done|fail)))|exact ya5|exact ya7|exact jy|exact jz|refine jA ?_|refine ya9 ?_ ?_ ?_|refine jC rfl (by first|rfl|assumption|(simp only [znl,jO,jP,jQ,jR,jS,jT,jU];(first|done|fail)))|refine MR.agg (MRL.cons ?_ ?_)|refine MR.fn ?_|refine MRL.cons ?_ ?_|exact MRL.nil|refine jE ?_ ?_|exact jF|exact jG|refine yb1 ?_ ?_|refine MB.row ?_|refine jI ?_ ?_|exact ya8|refine jJ rfl (by first|rfl|assumption|(simp only [znl,jO,jP,jQ,jR,jS,jT,jU];(first|done|fail)))|refine yb2 ?_|rfl)|(simp only [znl,jO,jP,jQ,jR,jS,jT,jU];(first|done|fail))|(simp only [↓reduceIte,zlk,Nat.reduceEqDiff,reduceCtorEq])|(with_reducible first|refine jJ ?_ ?_|refine ya5 ?_|refine ju ?_|refine jv ?_|refine jw ?_|refine jx ?_ (by first|rfl|assumption|(simp only [znl,jO,jP,jQ,jR,jS,jT,jU];(first|done|fail)))|refine jC ?_ (by first|rfl|assumption|(simp only [znl,jO,jP,jQ,jR,jS,jT,jU];(first|done|fail))))))); all_goals (first | rfl | omega | (rw [e1]; done)))
        | trace_state
    · have hno := mt hQ.2 hQt
      have hF := hF (by simpa using hQt)
      repeat' (first|(with_reducible first|refine yrl (by constructor) ?_|refine jk (fun M hM=>?_)|(refine hM _ ?_;clear hM M)|refine xb3 (by decide) ?_|refine yqa (by assumption) ?_ ?_|refine yqb (by assumption) ?_ ?_)|((with_reducible refine je ?_)<;>(first|rfl|assumption|(simp only [znl,jO,jP,jQ,jR,jS,jT,jU];(first|done|fail))))|(with_reducible refine jf (by (simp only [↓reduceIte,zlk,Nat.reduceEqDiff,reduceCtorEq]);exact rfl) ?_)|((with_reducible first|refine jg (fun hc=>?_) (fun hc=>?_)|refine jh (fun hc=>?_) (fun hc=>?_))<;>(try simp (disch:=omega) only [zhb] at hc)<;>(try (exfalso;omega))<;>(try subst hc))|(with_reducible refine ji (by omega) ?_)|(simp (config := { maxSteps := 400000 }) only [↓jt,↓reduceIte,zvs,reduceCtorEq,Nat.reduceEqDiff,Nat.reduceAdd,Nat.reduceLeDiff,Nat.reduceMul,Int.reduceBNe,Int.reduceBEq,Int.reduceEq,Int.reduceNe,Int.reduceLT,Int.reduceLE,Int.reduceGT,Int.reduceGE,Int.reduceNeg,Int.reduceToNat,Nat.reduceLT,Nat.reduceSub,tab,encWr,hvl,hset,Try.results55,List.toList_toArray])|(simp (disch:=omega) only [ziw]))
      all_goals first
        | (exfalso; omega)
        | (rw [hF]; simp only [zrds]; done)
        | trace_state
  obtain rfl : k = m.dirty.length := by omega
  have hT := hT hq
  rw [List.take_length] at *
  simp only [geoV] at hO
  generalize volE (m.dirty.foldl wrV h0) = e at hO hT
  repeat' (first|(with_reducible first|refine yrl (by constructor) ?_|refine jk (fun M hM=>?_)|(refine hM _ ?_;clear hM M)|refine xb3 (by decide) ?_|refine yqa (by assumption) ?_ ?_|refine yqb (by assumption) ?_ ?_)|((with_reducible refine je ?_)<;>(first|rfl|assumption|(simp only [znl,jO,jP,jQ,jR,jS,jT,jU];(first|done|fail))))|(with_reducible refine jf (by (simp only [↓reduceIte,zlk,Nat.reduceEqDiff,reduceCtorEq]);exact rfl) ?_)|((with_reducible first|refine jg (fun hc=>?_) (fun hc=>?_)|refine jh (fun hc=>?_) (fun hc=>?_))<;>(try simp (disch:=omega) only [zhb] at hc)<;>(try (exfalso;omega))<;>(try subst hc))|(with_reducible refine ji (by omega) ?_)|(simp (config := { maxSteps := 400000 }) only [↓jt,↓reduceIte,zvs,reduceCtorEq,Nat.reduceEqDiff,Nat.reduceAdd,Nat.reduceLeDiff,Nat.reduceMul,Int.reduceBNe,Int.reduceBEq,Int.reduceEq,Int.reduceNe,Int.reduceLT,Int.reduceLE,Int.reduceGT,Int.reduceGE,Int.reduceNeg,Int.reduceToNat,Nat.reduceLT,Nat.reduceSub,tab,List.take_length,Try.results55,List.toList_toArray])|(simp (disch:=omega) only [ziw]))
  all_goals (try (exfalso; omega))
  refine ja (call_plain (hO) (by repeat (first | exact rdl_nil | refine rdl_cons ?_ ?_ | exact Rd.refl _ _ (by first|rfl|assumption|(simp only [znl,jO,jP,jQ,jR,jS,jT,jU];(first|done|fail))) | (refine rd_own (by (simp only [↓reduceIte,zlk,Nat.reduceEqDiff,reduceCtorEq]); exact rfl) (by first | rfl | (simp; done) | (simp; omega)) rfl (by first|rfl|assumption|(simp only [znl,jO,jP,jQ,jR,jS,jT,jU];(first|done|fail)))) | exact rd_nil | refine (rd_a _ _ _).mpr ?_)) rfl rfl ?_)
  repeat' (first|(with_reducible first|refine yrl (by constructor) ?_|refine jk (fun M hM=>?_)|(refine hM _ ?_;clear hM M)|refine xb3 (by decide) ?_|refine yqa (by assumption) ?_ ?_|refine yqb (by assumption) ?_ ?_)|((with_reducible refine je ?_)<;>(first|rfl|assumption|(simp only [znl,jO,jP,jQ,jR,jS,jT,jU];(first|done|fail))))|(with_reducible refine jf (by (simp only [↓reduceIte,zlk,Nat.reduceEqDiff,reduceCtorEq]);exact rfl) ?_)|((with_reducible first|refine jg (fun hc=>?_) (fun hc=>?_)|refine jh (fun hc=>?_) (fun hc=>?_))<;>(try simp (disch:=omega) only [zhb] at hc)<;>(try (exfalso;omega))<;>(try subst hc))|(with_reducible refine ji (by omega) ?_)|(simp (config := { maxSteps := 400000 }) only [↓jt,↓reduceIte,zvs,reduceCtorEq,Nat.reduceEqDiff,Nat.reduceAdd,Nat.reduceLeDiff,Nat.reduceMul,Int.reduceBNe,Int.reduceBEq,Int.reduceEq,Int.reduceNe,Int.reduceLT,Int.reduceLE,Int.reduceGT,Int.reduceGE,Int.reduceNeg,Int.reduceToNat,Nat.reduceLT,Nat.reduceSub,tab,Try.results55,List.toList_toArray])|(simp (disch:=omega) only [ziw]))
  all_goals first
    | (exfalso; omega)
    | (rw [hT]; simp only [zrds]; done)
    | trace_state
theorem volume_ex (m : Mach) (hm : MFit 20000 m) : Spec Try.prog 55 [encM m] (.int .i64 (diskE m)) := by
  by_cases h0 : checkD m.dr = 0
  · by_cases h33 : 33 < m.dr.bl.length
    · exact volume_c m hm h0 h33
    · have e : diskE m = 3 := by
        unfold diskE
        rw [if_neg (by omega), if_pos]
        unfold homeD
        rw [if_neg fun y => h33 y.2]
      rw [e]
      exact volume_b m hm h0 (by omega)
  · have e : diskE m = checkD m.dr := by
      unfold diskE
      rw [if_pos h0]
    rw [e]
    exact volume_a m hm h0
end Go.Proofs.Ytlgldkjjbbbapaa.V
end
section
/-
  THE PROGRAM'S TESTS, part 7: why a machine may not be.
-/
set_option linter.unusedVariables false
set_option linter.unusedSimpArgs false
namespace Go.Proofs.Ytlgldkjjbbbapaa.V
open Go
set_option maxRecDepth 100000
-- nlx: jO, jP, jQ, jR, jS, jT, jU
set_option maxHeartbeats 4000000
theorem procs_many (m : Mach) (hm : MFit 20000 m) (h : 8 < m.pr.length) : Spec Try.prog 52 [encM m] (.int .i64 6) := by
  have hl := hm.pr
  refine spec_ok Try.func52 rfl rfl (by kernel_rfl) (k := 1) rfl (by decide) ?_
  repeat' (first|(with_reducible first|refine yrl (by constructor) ?_|refine jk (fun M hM=>?_)|(refine hM _ ?_;clear hM M)|refine xb3 (by decide) ?_|refine yqa (by assumption) ?_ ?_|refine yqb (by assumption) ?_ ?_)|((with_reducible refine je ?_)<;>(first|rfl|assumption|(simp only [znl,jO,jP,jQ,jR,jS,jT,jU];(first|done|fail))))|(with_reducible refine jf (by (simp only [↓reduceIte,zlk,Nat.reduceEqDiff,reduceCtorEq]);exact rfl) ?_)|((with_reducible first|refine jg (fun hc=>?_) (fun hc=>?_)|refine jh (fun hc=>?_) (fun hc=>?_))<;>(try simp (disch:=omega) only [zhb] at hc)<;>(try (exfalso;omega))<;>(try subst hc))|(with_reducible refine ji (by omega) ?_)|(simp (config := { maxSteps := 400000 }) only [↓jt,↓reduceIte,zvs,reduceCtorEq,Nat.reduceEqDiff,Nat.reduceAdd,Nat.reduceLeDiff,Nat.reduceMul,Int.reduceBNe,Int.reduceBEq,Int.reduceEq,Int.reduceNe,Int.reduceLT,Int.reduceLE,Int.reduceGT,Int.reduceGE,Int.reduceNeg,Int.reduceToNat,Nat.reduceLT,Nat.reduceSub,tab,Try.results52,List.toList_toArray])|(simp (disch:=omega) only [ziw]))
  all_goals first
    | (exfalso; omega)
    | (simp only [zrds]; done)
    | trace_state
def firstE (e1 e2 e3 e4 e5 e6 : Int) : Int := if e1 ≠ 0 then e1 else if e2 ≠ 0 then e2 else if e3 ≠ 0 then e3 else if e4 ≠ 0 then e4 else if e5 ≠ 0 then e5 else e6
theorem scheck_gen (m : Mach) (e1 e2 e3 e4 e5 e6 : Int) (c1 : Spec Try.prog 50 [encM m] (.int .i64 e1)) (c2 : Spec Try.prog 51 [encM m] (.int .i64 e2)) (c3 : Spec Try.prog 52 [encM m] (.int .i64 e3)) (c4 : Spec Try.prog 53 [encM m] (.int .i64 e4)) (c5 : Spec Try.prog 54 [encM m] (.int .i64 e5)) (c6 : Spec Try.prog 55 [encM m] (.int .i64 e6)) : Spec Try.prog 24 [encM m] (.int .i64 (firstE e1 e2 e3 e4 e5 e6)) := by
  have z0 : ((0 : Nat) : Int) = 0 := rfl
  have z1 : ((1 : Nat) : Int) = 1 := rfl
  have z2 : ((2 : Nat) : Int) = 2 := rfl
  have z3 : ((3 : Nat) : Int) = 3 := rfl
  have z4 : ((4 : Nat) : Int) = 4 := rfl
  have z5 : ((5 : Nat) : Int) = 5 := rfl
  have z6 : ((6 : Nat) : Int) = 6 := rfl
  have r6 : ∀ a : VV, List.replicate 6 a = [a, a, a, a, a, a] := fun _ => rfl
  obtain ⟨R, hR⟩ : ∃ R, R = firstE e1 e2 e3 e4 e5 e6 := ⟨_, rfl⟩
  rw [← hR]
  unfold firstE at hR
  refine spec_ok Try.func24 rfl rfl (by kernel_rfl) (k := 1) rfl (by decide) ?_
  repeat' (first|(with_reducible first|refine yrl (by constructor) ?_|refine jk (fun M hM=>?_)|(refine hM _ ?_;clear hM M)|refine xb3 (by decide) ?_|refine yqa (by assumption) ?_ ?_|refine yqb (by assumption) ?_ ?_)|((with_reducible refine je ?_)<;>(first|rfl|assumption|(simp only [znl,jO,jP,jQ,jR,jS,jT,jU];(first|done|fail))))|(with_reducible refine jf (by (simp only [↓reduceIte,zlk,Nat.reduceEqDiff,reduceCtorEq]);exact rfl) ?_)|((with_reducible first|refine jg (fun hc=>?_) (fun hc=>?_)|refine jh (fun hc=>?_) (fun hc=>?_))<;>(try simp (disch:=omega) only [zhb] at hc)<;>(try (exfalso;omega))<;>(try subst hc))|(with_reducible refine ji (by omega) ?_)|(simp (config := { maxSteps := 400000 }) only [↓jt,↓reduceIte,zvs,reduceCtorEq,Nat.reduceEqDiff,Nat.reduceAdd,Nat.reduceLeDiff,Nat.reduceMul,Int.reduceBNe,Int.reduceBEq,Int.reduceEq,Int.reduceNe,Int.reduceLT,Int.reduceLE,Int.reduceGT,Int.reduceGE,Int.reduceNeg,Int.reduceToNat,Nat.reduceLT,Nat.reduceSub,tab,tabF,r6,z6,Try.results24,List.toList_toArray])|(simp (disch:=omega) only [ziw]))
  refine ok_loop (fun k : Nat => ⟨slots [(1, .ptr 0 []), (6, .sl (some (1, [], 0)) 6), (7, .int .i64 6), (8, .int .i64 k)], rows [(0, .row machSh (encM m)), (1, .row (.arr 6 .cell) (.agg [.fn 50 [], .fn 51 [], .fn 52 [], .fn 53 [], .fn 54 [], .fn 55 []]))], 2⟩) (fun k => k ≤ 6 ∧ (k < 1 ∨ e1 = 0) ∧ (k < 2 ∨ e2 = 0) ∧ (k < 3 ∨ e3 = 0) ∧ (k < 4 ∨ e4 = 0) ∧ (k < 5 ∨ e5 = 0) ∧ (k < 6 ∨ e6 = 0)) (fun k => 6 - k) 0 ?_ ⟨Nat.zero_le _, by omega, by omega, by omega, by omega, by omega, by omega⟩ (fun k hk => ?_)
  · (refine yrn [(0, 0), (1, 1)] false ?_ ?_<;>(repeat' (first|(with_reducible first|exact ya1|exact ya2|exact ya3|refine jx rfl (by first|rfl|assumption|(simp only [znl,jO,jP,jQ,jR,jS,jT,jU];(first|done|fail)))|exact ya5|exact ya7|exact jy|exact jz|refine jA ?_|refine ya9 ?_ ?_ ?_|refine jC rfl (by first|rfl|assumption|(simp only [znl,jO,jP,jQ,jR,jS,jT,jU];(first|done|fail)))|refine MR.agg (MRL.cons ?_ ?_)|refine MR.fn ?_|refine MRL.cons ?_ ?_|exact MRL.nil|refine jE ?_ ?_|exact jF|exact jG|refine yb1 ?_ ?_|refine MB.row ?_|refine jI ?_ ?_|exact ya8|refine jJ rfl (by first|rfl|assumption|(simp only [znl,jO,jP,jQ,jR,jS,jT,jU];(first|done|fail)))|refine yb2 ?_|rfl)|(simp only [znl,jO,jP,jQ,jR,jS,jT,jU];(first|done|fail))|(simp only [↓reduceIte,zlk,Nat.reduceEqDiff,reduceCtorEq])|(with_reducible first|refine jJ ?_ ?_|refine ya5 ?_|refine ju ?_|refine jv ?_|refine jw ?_|refine jx ?_ (by first|rfl|assumption|(simp only [znl,jO,jP,jQ,jR,jS,jT,jU];(first|done|fail)))|refine jC ?_ (by first|rfl|assumption|(simp only [znl,jO,jP,jQ,jR,jS,jT,jU];(first|done|fail)))))))
    all_goals (first | rfl | trace_state)
  obtain ⟨hk, i1, i2, i3, i4, i5, i6⟩ := hk
  by_cases hlt : k < 6
  · rcases (show k = 0 ∨ k = 1 ∨ k = 2 ∨ k = 3 ∨ k = 4 ∨ k = 5 by omega) with rfl | rfl | rfl | rfl | rfl | rfl
    · repeat' (first|(with_reducible first|refine yrl (by constructor) ?_|refine jk (fun M hM=>?_)|(refine hM _ ?_;clear hM M)|refine xb3 (by decide) ?_|refine yqa (by assumption) ?_ ?_|refine yqb (by assumption) ?_ ?_)|((with_reducible refine je ?_)<;>(first|rfl|assumption|(simp only [znl,jO,jP,jQ,jR,jS,jT,jU];(first|done|fail))))|(with_reducible refine jf (by (simp only [↓reduceIte,zlk,Nat.reduceEqDiff,reduceCtorEq]);exact rfl) ?_)|((with_reducible first|refine jg (fun hc=>?_) (fun hc=>?_)|refine jh (fun hc=>?_) (fun hc=>?_))<;>(try simp (disch:=omega) only [zhb] at hc)<;>(try (exfalso;omega))<;>(try subst hc))|(with_reducible refine ji (by omega) ?_)|(simp (config := { maxSteps := 400000 }) only [↓jt,↓reduceIte,zvs,reduceCtorEq,Nat.reduceEqDiff,Nat.reduceAdd,Nat.reduceLeDiff,Nat.reduceMul,Int.reduceBNe,Int.reduceBEq,Int.reduceEq,Int.reduceNe,Int.reduceLT,Int.reduceLE,Int.reduceGT,Int.reduceGE,Int.reduceNeg,Int.reduceToNat,Nat.reduceLT,Nat.reduceSub,tab,tabF,z0,z1,z2,z3,z4,z5,Try.results24,List.toList_toArray])|(simp (disch:=omega) only [ziw]))
      · have hRe : R = e1 := by
          rw [hR]
          rw [if_pos (by omega)]
        rw [hRe]
        simp only [zrds]
      · refine xl1 1 ?_ ⟨by omega, by first | omega | (simp; done), by first | omega | (simp; done), by first | omega | (simp; done), by first | omega | (simp; done), by first | omega | (simp; done), by first | omega | (simp; done)⟩ (by show 6 - 1 < 6 - 0; omega)
        (refine yrn [(0, 0), (1, 1)] false ?_ ?_<;>(repeat' (first|(with_reducible first|exact ya1|exact ya2|exact ya3|refine jx rfl (by first|rfl|assumption|(simp only [znl,jO,jP,jQ,jR,jS,jT,jU];(first|done|fail)))|exact ya5|exact ya7|exact jy|exact jz|refine jA ?_|refine ya9 ?_ ?_ ?_|refine jC rfl (by first|rfl|assumption|(simp only [znl,jO,jP,jQ,jR,jS,jT,jU];(first|done|fail)))|refine MR.agg (MRL.cons ?_ ?_)|refine MR.fn ?_|refine MRL.cons ?_ ?_|exact MRL.nil|refine jE ?_ ?_|exact jF|exact jG|refine yb1 ?_ ?_|refine MB.row ?_|refine jI ?_ ?_|exact ya8|refine jJ rfl (by first|rfl|assumption|(simp only [znl,jO,jP,jQ,jR,jS,jT,jU];(first|done|fail)))|refine yb2 ?_|rfl)|(simp only [znl,jO,jP,jQ,jR,jS,jT,jU];(first|done|fail))|(simp only [↓reduceIte,zlk,Nat.reduceEqDiff,reduceCtorEq])|(with_reducible first|refine jJ ?_ ?_|refine ya5 ?_|refine ju ?_|refine jv ?_|refine jw ?_|refine jx ?_ (by first|rfl|assumption|(simp only [znl,jO,jP,jQ,jR,jS,jT,jU];(first|done|fail)))|refine jC ?_ (by first|rfl|assumption|(simp only [znl,jO,jP,jQ,jR,jS,jT,jU];(first|done|fail)))))))
        all_goals trace_state
    · repeat' (first|(with_reducible first|refine yrl (by constructor) ?_|refine jk (fun M hM=>?_)|(refine hM _ ?_;clear hM M)|refine xb3 (by decide) ?_|refine yqa (by assumption) ?_ ?_|refine yqb (by assumption) ?_ ?_)|((with_reducible refine je ?_)<;>(first|rfl|assumption|(simp only [znl,jO,jP,jQ,jR,jS,jT,jU];(first|done|fail))))|(with_reducible refine jf (by (simp only [↓reduceIte,zlk,Nat.reduceEqDiff,reduceCtorEq]);exact rfl) ?_)|((with_reducible first|refine jg (fun hc=>?_) (fun hc=>?_)|refine jh (fun hc=>?_) (fun hc=>?_))<;>(try simp (disch:=omega) only [zhb] at hc)<;>(try (exfalso;omega))<;>(try subst hc))|(with_reducible refine ji (by omega) ?_)|(simp (config := { maxSteps := 400000 }) only [↓jt,↓reduceIte,zvs,reduceCtorEq,Nat.reduceEqDiff,Nat.reduceAdd,Nat.reduceLeDiff,Nat.reduceMul,Int.reduceBNe,Int.reduceBEq,Int.reduceEq,Int.reduceNe,Int.reduceLT,Int.reduceLE,Int.reduceGT,Int.reduceGE,Int.reduceNeg,Int.reduceToNat,Nat.reduceLT,Nat.reduceSub,tab,tabF,z0,z1,z2,z3,z4,z5,Try.results24,List.toList_toArray])|(simp (disch:=omega) only [ziw]))
      · have hRe : R = e2 := by
          rw [hR]
          rw [if_neg (by omega)]; rw [if_pos (by omega)]
        rw [hRe]
        simp only [zrds]
      · refine xl1 2 ?_ ⟨by omega, by first | omega | (simp; done), by first | omega | (simp; done), by first | omega | (simp; done), by first | omega | (simp; done), by first | omega | (simp; done), by first | omega | (simp; done)⟩ (by show 6 - 2 < 6 - 1; omega)
        (refine yrn [(0, 0), (1, 1)] false ?_ ?_<;>(repeat' (first|(with_reducible first|exact ya1|exact ya2|exact ya3|refine jx rfl (by first|rfl|assumption|(simp only [znl,jO,jP,jQ,jR,jS,jT,jU];(first|done|fail)))|exact ya5|exact ya7|exact jy|exact jz|refine jA ?_|refine ya9 ?_ ?_ ?_|refine jC rfl (by first|rfl|assumption|(simp only [znl,jO,jP,jQ,jR,jS,jT,jU];(first|done|fail)))|refine MR.agg (MRL.cons ?_ ?_)|refine MR.fn ?_|refine MRL.cons ?_ ?_|exact MRL.nil|refine jE ?_ ?_|exact jF|exact jG|refine yb1 ?_ ?_|refine MB.row ?_|refine jI ?_ ?_|exact ya8|refine jJ rfl (by first|rfl|assumption|(simp only [znl,jO,jP,jQ,jR,jS,jT,jU];(first|done|fail)))|refine yb2 ?_|rfl)|(simp only [znl,jO,jP,jQ,jR,jS,jT,jU];(first|done|fail))|(simp only [↓reduceIte,zlk,Nat.reduceEqDiff,reduceCtorEq])|(with_reducible first|refine jJ ?_ ?_|refine ya5 ?_|refine ju ?_|refine jv ?_|refine jw ?_|refine jx ?_ (by first|rfl|assumption|(simp only [znl,jO,jP,jQ,jR,jS,jT,jU];(first|done|fail)))|refine jC ?_ (by first|rfl|assumption|(simp only [znl,jO,jP,jQ,jR,jS,jT,jU];(first|done|fail)))))))
        all_goals trace_state
    · repeat' (first|(with_reducible first|refine yrl (by constructor) ?_|refine jk (fun M hM=>?_)|(refine hM _ ?_;clear hM M)|refine xb3 (by decide) ?_|refine yqa (by assumption) ?_ ?_|refine yqb (by assumption) ?_ ?_)|((with_reducible refine je ?_)<;>(first|rfl|assumption|(simp only [znl,jO,jP,jQ,jR,jS,jT,jU];(first|done|fail))))|(with_reducible refine jf (by (simp only [↓reduceIte,zlk,Nat.reduceEqDiff,reduceCtorEq]);exact rfl) ?_)|((with_reducible first|refine jg (fun hc=>?_) (fun hc=>?_)|refine jh (fun hc=>?_) (fun hc=>?_))<;>(try simp (disch:=omega) only [zhb] at hc)<;>(try (exfalso;omega))<;>(try subst hc))|(with_reducible refine ji (by omega) ?_)|(simp (config := { maxSteps := 400000 }) only [↓jt,↓reduceIte,zvs,reduceCtorEq,Nat.reduceEqDiff,Nat.reduceAdd,Nat.reduceLeDiff,Nat.reduceMul,Int.reduceBNe,Int.reduceBEq,Int.reduceEq,Int.reduceNe,Int.reduceLT,Int.reduceLE,Int.reduceGT,Int.reduceGE,Int.reduceNeg,Int.reduceToNat,Nat.reduceLT,Nat.reduceSub,tab,tabF,z0,z1,z2,z3,z4,z5,Try.results24,List.toList_toArray])|(simp (disch:=omega) only [ziw]))
      · have hRe : R = e3 := by
          rw [hR]
          rw [if_neg (by omega)]; rw [if_neg (by omega)]; rw [if_pos (by omega)]
        rw [hRe]
        simp only [zrds]
      · refine xl1 3 ?_ ⟨by omega, by first | omega | (simp; done), by first | omega | (simp; done), by first | omega | (simp; done), by first | omega | (simp; done), by first | omega | (simp; done), by first | omega | (simp; done)⟩ (by show 6 - 3 < 6 - 2; omega)
        (refine yrn [(0, 0), (1, 1)] false ?_ ?_<;>(repeat' (first|(with_reducible first|exact ya1|exact ya2|exact ya3|refine jx rfl (by first|rfl|assumption|(simp only [znl,jO,jP,jQ,jR,jS,jT,jU];(first|done|fail)))|exact ya5|exact ya7|exact jy|exact jz|refine jA ?_|refine ya9 ?_ ?_ ?_|refine jC rfl (by first|rfl|assumption|(simp only [znl,jO,jP,jQ,jR,jS,jT,jU];(first|done|fail)))|refine MR.agg (MRL.cons ?_ ?_)|refine MR.fn ?_|refine MRL.cons ?_ ?_|exact MRL.nil|refine jE ?_ ?_|exact jF|exact jG|refine yb1 ?_ ?_|refine MB.row ?_|refine jI ?_ ?_|exact ya8|refine jJ rfl (by first|rfl|assumption|(simp only [znl,jO,jP,jQ,jR,jS,jT,jU];(first|done|fail)))|refine yb2 ?_|rfl)|(simp only [znl,jO,jP,jQ,jR,jS,jT,jU];(first|done|fail))|(simp only [↓reduceIte,zlk,Nat.reduceEqDiff,reduceCtorEq])|(with_reducible first|refine jJ ?_ ?_|refine ya5 ?_|refine ju ?_|refine jv ?_|refine jw ?_|refine jx ?_ (by first|rfl|assumption|(simp only [znl,jO,jP,jQ,jR,jS,jT,jU];(first|done|fail)))|refine jC ?_ (by first|rfl|assumption|(simp only [znl,jO,jP,jQ,jR,jS,jT,jU];(first|done|fail)))))))
        all_goals trace_state
    · repeat' (first|(with_reducible first|refine yrl (by constructor) ?_|refine jk (fun M hM=>?_)|(refine hM _ ?_;clear hM M)|refine xb3 (by decide) ?_|refine yqa (by assumption) ?_ ?_|refine yqb (by assumption) ?_ ?_)|((with_reducible refine je ?_)<;>(first|rfl|assumption|(simp only [znl,jO,jP,jQ,jR,jS,jT,jU];(first|done|fail))))|(with_reducible refine jf (by (simp only [↓reduceIte,zlk,Nat.reduceEqDiff,reduceCtorEq]);exact rfl) ?_)|((with_reducible first|refine jg (fun hc=>?_) (fun hc=>?_)|refine jh (fun hc=>?_) (fun hc=>?_))<;>(try simp (disch:=omega) only [zhb] at hc)<;>(try (exfalso;omega))<;>(try subst hc))|(with_reducible refine ji (by omega) ?_)|(simp (config := { maxSteps := 400000 }) only [↓jt,↓reduceIte,zvs,reduceCtorEq,Nat.reduceEqDiff,Nat.reduceAdd,Nat.reduceLeDiff,Nat.reduceMul,Int.reduceBNe,Int.reduceBEq,Int.reduceEq,Int.reduceNe,Int.reduceLT,Int.reduceLE,Int.reduceGT,Int.reduceGE,Int.reduceNeg,Int.reduceToNat,Nat.reduceLT,Nat.reduceSub,tab,tabF,z0,z1,z2,z3,z4,z5,Try.results24,List.toList_toArray])|(simp (disch:=omega) only [ziw]))
      · have hRe : R = e4 := by
          rw [hR]
          rw [if_neg (by omega)]; rw [if_neg (by omega)]; rw [if_neg (by omega)]; rw [if_pos (by omega)]
        rw [hRe]
        simp only [zrds]
      · refine xl1 4 ?_ ⟨by omega, by first | omega | (simp; done), by first | omega | (simp; done), by first | omega | (simp; done), by first | omega | (simp; done), by first | omega | (simp; done), by first | omega | (simp; done)⟩ (by show 6 - 4 < 6 - 3; omega)
        (refine yrn [(0, 0), (1, 1)] false ?_ ?_<;>(repeat' (first|(with_reducible first|exact ya1|exact ya2|exact ya3|refine jx rfl (by first|rfl|assumption|(simp only [znl,jO,jP,jQ,jR,jS,jT,jU];(first|done|fail)))|exact ya5|exact ya7|exact jy|exact jz|refine jA ?_|refine ya9 ?_ ?_ ?_|refine jC rfl (by first|rfl|assumption|(simp only [znl,jO,jP,jQ,jR,jS,jT,jU];(first|done|fail)))|refine MR.agg (MRL.cons ?_ ?_)|refine MR.fn ?_|refine MRL.cons ?_ ?_|exact MRL.nil|refine jE ?_ ?_|exact jF|exact jG|refine yb1 ?_ ?_|refine MB.row ?_|refine jI ?_ ?_|exact ya8|refine jJ rfl (by first|rfl|assumption|(simp only [znl,jO,jP,jQ,jR,jS,jT,jU];(first|done|fail)))|refine yb2 ?_|rfl)|(simp only [znl,jO,jP,jQ,jR,jS,jT,jU];(first|done|fail))|(simp only [↓reduceIte,zlk,Nat.reduceEqDiff,reduceCtorEq])|(with_reducible first|refine jJ ?_ ?_|refine ya5 ?_|refine ju ?_|refine jv ?_|refine jw ?_|refine jx ?_ (by first|rfl|assumption|(simp only [znl,jO,jP,jQ,jR,jS,jT,jU];(first|done|fail)))|refine jC ?_ (by first|rfl|assumption|(simp only [znl,jO,jP,jQ,jR,jS,jT,jU];(first|done|fail)))))))
        all_goals trace_state
    · repeat' (first|(with_reducible first|refine yrl (by constructor) ?_|refine jk (fun M hM=>?_)|(refine hM _ ?_;clear hM M)|refine xb3 (by decide) ?_|refine yqa (by assumption) ?_ ?_|refine yqb (by assumption) ?_ ?_)|((with_reducible refine je ?_)<;>(first|rfl|assumption|(simp only [znl,jO,jP,jQ,jR,jS,jT,jU];(first|done|fail))))|(with_reducible refine jf (by (simp only [↓reduceIte,zlk,Nat.reduceEqDiff,reduceCtorEq]);exact rfl) ?_)|((with_reducible first|refine jg (fun hc=>?_) (fun hc=>?_)|refine jh (fun hc=>?_) (fun hc=>?_))<;>(try simp (disch:=omega) only [zhb] at hc)<;>(try (exfalso;omega))<;>(try subst hc))|(with_reducible refine ji (by omega) ?_)|(simp (config := { maxSteps := 400000 }) only [↓jt,↓reduceIte,zvs,reduceCtorEq,Nat.reduceEqDiff,Nat.reduceAdd,Nat.reduceLeDiff,Nat.reduceMul,Int.reduceBNe,Int.reduceBEq,Int.reduceEq,Int.reduceNe,Int.reduceLT,Int.reduceLE,Int.reduceGT,Int.reduceGE,Int.reduceNeg,Int.reduceToNat,Nat.reduceLT,Nat.reduceSub,tab,tabF,z0,z1,z2,z3,z4,z5,Try.results24,List.toList_toArray])|(simp (disch:=omega) only [ziw]))
      · have hRe : R = e5 := by
          rw [hR]
          rw [if_neg (by omega)]; rw [if_neg (by omega)]; rw [if_neg (by omega)]; rw [if_neg (by omega)]; rw [if_pos (by omega)]
        rw [hRe]
        simp only [zrds]
      · refine xl1 5 ?_ ⟨by omega, by first | omega | (simp; done), by first | omega | (simp; done), by first | omega | (simp; done), by first | omega | (simp; done), by first | omega | (simp; done), by first | omega | (simp; done)⟩ (by show 6 - 5 < 6 - 4; omega)
        (refine yrn [(0, 0), (1, 1)] false ?_ ?_<;>(repeat' (first|(with_reducible first|exact ya1|exact ya2|exact ya3|refine jx rfl (by first|rfl|assumption|(simp only [znl,jO,jP,jQ,jR,jS,jT,jU];(first|done|fail)))|exact ya5|exact ya7|exact jy|exact jz|refine jA ?_|refine ya9 ?_ ?_ ?_|refine jC rfl (by first|rfl|assumption|(simp only [znl,jO,jP,jQ,jR,jS,jT,jU];(first|done|fail)))|refine MR.agg (MRL.cons ?_ ?_)|refine MR.fn ?_|refine MRL.cons ?_ ?_|exact MRL.nil|refine jE ?_ ?_|exact jF|exact jG|refine yb1 ?_ ?_|refine MB.row ?_|refine jI ?_ ?_|exact ya8|refine jJ rfl (by first|rfl|assumption|(simp only [znl,jO,jP,jQ,jR,jS,jT,jU];(first|done|fail)))|refine yb2 ?_|rfl)|(simp only [znl,jO,jP,jQ,jR,jS,jT,jU];(first|done|fail))|(simp only [↓reduceIte,zlk,Nat.reduceEqDiff,reduceCtorEq])|(with_reducible first|refine jJ ?_ ?_|refine ya5 ?_|refine ju ?_|refine jv ?_|refine jw ?_|refine jx ?_ (by first|rfl|assumption|(simp only [znl,jO,jP,jQ,jR,jS,jT,jU];(first|done|fail)))|refine jC ?_ (by first|rfl|assumption|(simp only [znl,jO,jP,jQ,jR,jS,jT,jU];(first|done|fail)))))))
        all_goals trace_state
    · repeat' (first|(with_reducible first|refine yrl (by constructor) ?_|refine jk (fun M hM=>?_)|(refine hM _ ?_;clear hM M)|refine xb3 (by decide) ?_|refine yqa (by assumption) ?_ ?_|refine yqb (by assumption) ?_ ?_)|((with_reducible refine je ?_)<;>(first|rfl|assumption|(simp only [znl,jO,jP,jQ,jR,jS,jT,jU];(first|done|fail))))|(with_reducible refine jf (by (simp only [↓reduceIte,zlk,Nat.reduceEqDiff,reduceCtorEq]);exact rfl) ?_)|((with_reducible first|refine jg (fun hc=>?_) (fun hc=>?_)|refine jh (fun hc=>?_) (fun hc=>?_))<;>(try simp (disch:=omega) only [zhb] at hc)<;>(try (exfalso;omega))<;>(try subst hc))|(with_reducible refine ji (by omega) ?_)|(simp (config := { maxSteps := 400000 }) only [↓jt,↓reduceIte,zvs,reduceCtorEq,Nat.reduceEqDiff,Nat.reduceAdd,Nat.reduceLeDiff,Nat.reduceMul,Int.reduceBNe,Int.reduceBEq,Int.reduceEq,Int.reduceNe,Int.reduceLT,Int.reduceLE,Int.reduceGT,Int.reduceGE,Int.reduceNeg,Int.reduceToNat,Nat.reduceLT,Nat.reduceSub,tab,tabF,z0,z1,z2,z3,z4,z5,Try.results24,List.toList_toArray])|(simp (disch:=omega) only [ziw]))
      · have hRe : R = e6 := by
          rw [hR]
          rw [if_neg (by omega)]; rw [if_neg (by omega)]; rw [if_neg (by omega)]; rw [if_neg (by omega)]; rw [if_neg (by omega)]
        rw [hRe]
        simp only [zrds]
      · refine xl1 6 ?_ ⟨by omega, by first | omega | (simp; done), by first | omega | (simp; done), by first | omega | (simp; done), by first | omega | (simp; done), by first | omega | (simp; done), by first | omega | (simp; done)⟩ (by show 6 - 6 < 6 - 5; omega)
        (refine yrn [(0, 0), (1, 1)] false ?_ ?_<;>(repeat' (first|(with_reducible first|exact ya1|exact ya2|exact ya3|refine jx rfl (by first|rfl|assumption|(simp only [znl,jO,jP,jQ,jR,jS,jT,jU];(first|done|fail)))|exact ya5|exact ya7|exact jy|exact jz|refine jA ?_|refine ya9 ?_ ?_ ?_|refine jC rfl (by first|rfl|assumption|(simp only [znl,jO,jP,jQ,jR,jS,jT,jU];(first|done|fail)))|refine MR.agg (MRL.cons ?_ ?_)|refine MR.fn ?_|refine MRL.cons ?_ ?_|exact MRL.nil|refine jE ?_ ?_|exact jF|exact jG|refine yb1 ?_ ?_|refine MB.row ?_|refine jI ?_ ?_|exact ya8|refine jJ rfl (by first|rfl|assumption|(simp only [znl,jO,jP,jQ,jR,jS,jT,jU];(first|done|fail)))|refine yb2 ?_|rfl)|(simp only [znl,jO,jP,jQ,jR,jS,jT,jU];(first|done|fail))|(simp only [↓reduceIte,zlk,Nat.reduceEqDiff,reduceCtorEq])|(with_reducible first|refine jJ ?_ ?_|refine ya5 ?_|refine ju ?_|refine jv ?_|refine jw ?_|refine jx ?_ (by first|rfl|assumption|(simp only [znl,jO,jP,jQ,jR,jS,jT,jU];(first|done|fail)))|refine jC ?_ (by first|rfl|assumption|(simp only [znl,jO,jP,jQ,jR,jS,jT,jU];(first|done|fail)))))))
        all_goals trace_state
  · obtain rfl : k = 6 := by omega
    have hRe : R = 0 := by
      rw [hR, if_neg (by omega), if_neg (by omega), if_neg (by omega), if_neg (by omega), if_neg (by omega)]
      omega
    rw [hRe]
    repeat' (first|(with_reducible first|refine yrl (by constructor) ?_|refine jk (fun M hM=>?_)|(refine hM _ ?_;clear hM M)|refine xb3 (by decide) ?_|refine yqa (by assumption) ?_ ?_|refine yqb (by assumption) ?_ ?_)|((with_reducible refine je ?_)<;>(first|rfl|assumption|(simp only [znl,jO,jP,jQ,jR,jS,jT,jU];(first|done|fail))))|(with_reducible refine jf (by (simp only [↓reduceIte,zlk,Nat.reduceEqDiff,reduceCtorEq]);exact rfl) ?_)|((with_reducible first|refine jg (fun hc=>?_) (fun hc=>?_)|refine jh (fun hc=>?_) (fun hc=>?_))<;>(try simp (disch:=omega) only [zhb] at hc)<;>(try (exfalso;omega))<;>(try subst hc))|(with_reducible refine ji (by omega) ?_)|(simp (config := { maxSteps := 400000 }) only [↓jt,↓reduceIte,zvs,reduceCtorEq,Nat.reduceEqDiff,Nat.reduceAdd,Nat.reduceLeDiff,Nat.reduceMul,Int.reduceBNe,Int.reduceBEq,Int.reduceEq,Int.reduceNe,Int.reduceLT,Int.reduceLE,Int.reduceGT,Int.reduceGE,Int.reduceNeg,Int.reduceToNat,Nat.reduceLT,Nat.reduceSub,tab,tabF,z6,Try.results24,List.toList_toArray])|(simp (disch:=omega) only [ziw]))
    all_goals first
      | (exfalso; omega)
      | (simp only [zrds]; done)
      | trace_state
theorem scheck_ex (m : Mach) (hm : MFit 20000 m) : Spec Try.prog 24 [encM m] (.int .i64 (chkM m)) := by
  have c1 := numbers_ex m hm
  have c5 := texts_ex m hm
  have c6 := volume_ex m hm
  obtain ⟨e2, q2, c2⟩ : ∃ e2 : Int, e2 = (if m.fr.length < 1 ∨ 64 < m.fr.length then 6 else if (m.fr.any fun s => decide (s.length ≠ 128)) = true then 3 else 0) ∧ Spec Try.prog 51 [encM m] (.int .i64 e2) := by
    refine ⟨_, rfl, ?_⟩
    by_cases h1 : m.fr.length < 1 ∨ 64 < m.fr.length
    · rw [if_pos h1]; exact frames_many m hm h1
    · rw [if_neg h1]
      by_cases h2 : (m.fr.any fun s => decide (s.length ≠ 128)) = true
      · rw [if_pos h2]
        rw [List.any_eq_true] at h2
        obtain ⟨s, hs1, hs2⟩ := h2
        obtain ⟨i, hi, rfl⟩ := List.mem_iff_getElem.1 hs1
        refine frames_bad m hm (by omega) i hi ?_
        rw [List.getD_eq_getElem?_getD, List.getElem?_eq_getElem hi]
        exact of_decide_eq_true hs2
      · rw [if_neg h2]
        refine frames_ok m (by omega) fun s hs => Decidable.byContradiction fun hc => h2 ?_
        rw [List.any_eq_true]
        exact ⟨s, hs, decide_eq_true hc⟩
  obtain ⟨e3, q3, c3⟩ : ∃ e3 : Int, e3 = (if 8 < m.pr.length then 6 else if procsB m = false then 3 else 0) ∧ Spec Try.prog 52 [encM m] (.int .i64 e3) := by
    refine ⟨_, rfl, ?_⟩
    by_cases h1 : 8 < m.pr.length
    · rw [if_pos h1]; exact procs_many m hm h1
    · rw [if_neg h1]
      by_cases h2 : procsB m = false
      · rw [if_pos h2]; exact procs_bad m hm (by omega) h2
      · rw [if_neg h2]; exact procs_ok m hm (by omega) (by simpa using h2)
  obtain ⟨e4, q4, c4⟩ : ∃ e4 : Int, e4 = (if 64 < m.pipes.length then 6 else if pipesB m = false then 3 else 0) ∧ Spec Try.prog 53 [encM m] (.int .i64 e4) := by
    refine ⟨_, rfl, ?_⟩
    by_cases h1 : 64 < m.pipes.length
    · rw [if_pos h1]; exact spipes_many m hm h1
    · rw [if_neg h1]
      by_cases h2 : pipesB m = false
      · rw [if_pos h2]; exact spipes_bad m hm (by omega) h2
      · rw [if_neg h2]; exact spipes_ok m hm (by omega) (by simpa using h2)
  have h := scheck_gen m _ _ _ _ _ _ c1 c2 c3 c4 c5 c6
  have e : firstE (if numB m = true then 2 else 0) e2 e3 e4 (if 65536 < m.inp.length ∨ 128 < m.init.length then 6 else 0) (diskE m) = chkM m := by
    rw [q2, q3, q4]
    unfold firstE chkM
    repeat' split
    all_goals first | rfl | omega | (exfalso; simp_all; done)
  rw [← e]
  exact h
end Go.Proofs.Ytlgldkjjbbbapaa.V
end
section
/-
  PIPES, part 1: a pipe opened, bytes put and taken, on the small machine.
-/
set_option linter.unusedVariables false
set_option linter.unusedSimpArgs false
namespace Go.Proofs.Ytlgldkjjbbbapaa.V
open Go
set_option maxRecDepth 100000
-- nlx: jO, jP, jQ, jR, jS, jT, jU
set_option maxHeartbeats 4000000
abbrev exF (f : List UInt8) (d : Dr) (ps : List Pip) (nx : Int) : VV := .agg [.int .u64 0, .int .i64 3, .int .i64 0, .int .i64 0, encStrs [f, f, f, f], encPrs [], .int .i64 1, .str [], encPis ps, .int .i64 nx, .str [], .bool false, .int .u64 0, encDr d, encWrs []]
def flM (f : List UInt8) (d : Dr) (ps : List Pip) (nx : Int) : Mach := ⟨0, 3, 0, 0, [f, f, f, f], [], 1, [], ps, nx, [], false, 0, d, []⟩
theorem open_spec (f : List UInt8) (d : Dr) (h1 : d.bl.length ≤ 20000) (h2 : d.pe.length ≤ 20000) : Spec Try.prog 28 [exF f d [] 1] (.tup [exF f d [⟨1, []⟩] 2, .int .i64 1]) := by
  have hA := list_str [f, f, f, f] (by simp)
  have hB := list_pr [] (by simp)
  have hD := own_drive d h1 h2
  have hE := list_wr [] (by simp)
  refine spec_ok Try.func28 rfl rfl (by kernel_rfl) (k := 1) rfl (by decide) ?_
  repeat' (first|(with_reducible first|refine yrl (by constructor) ?_|refine jk (fun M hM=>?_)|(refine hM _ ?_;clear hM M)|refine xb3 (by decide) ?_|refine yqa (by assumption) ?_ ?_|refine yqb (by assumption) ?_ ?_)|((with_reducible refine je ?_)<;>(first|rfl|assumption|(simp only [znl,jO,jP,jQ,jR,jS,jT,jU];(first|done|fail))))|(with_reducible refine jf (by (simp only [↓reduceIte,zlk,Nat.reduceEqDiff,reduceCtorEq]);exact rfl) ?_)|((with_reducible first|refine jg (fun hc=>?_) (fun hc=>?_)|refine jh (fun hc=>?_) (fun hc=>?_))<;>(try simp (disch:=omega) only [zhb] at hc)<;>(try (exfalso;omega))<;>(try subst hc))|(with_reducible refine ji (by omega) ?_)|(simp (config := { maxSteps := 400000 }) only [↓jt,↓reduceIte,zvs,reduceCtorEq,Nat.reduceEqDiff,Nat.reduceAdd,Nat.reduceLeDiff,Nat.reduceMul,Int.reduceBNe,Int.reduceBEq,Int.reduceEq,Int.reduceNe,Int.reduceLT,Int.reduceLE,Int.reduceGT,Int.reduceGE,Int.reduceNeg,Int.reduceToNat,Nat.reduceLT,Nat.reduceSub,tab,Try.results28,List.toList_toArray])|(simp (disch:=omega) only [ziw]))
  refine ja (ok_body Try.func45 rfl rfl (by kernel_rfl) (k := 1) (by rfl) (by decide) ?_)
  repeat' (first|(with_reducible first|refine yrl (by constructor) ?_|refine jk (fun M hM=>?_)|(refine hM _ ?_;clear hM M)|refine xb3 (by decide) ?_|refine yqa (by assumption) ?_ ?_|refine yqb (by assumption) ?_ ?_)|((with_reducible refine je ?_)<;>(first|rfl|assumption|(simp only [znl,jO,jP,jQ,jR,jS,jT,jU];(first|done|fail))))|(with_reducible refine jf (by (simp only [↓reduceIte,zlk,Nat.reduceEqDiff,reduceCtorEq]);exact rfl) ?_)|((with_reducible first|refine jg (fun hc=>?_) (fun hc=>?_)|refine jh (fun hc=>?_) (fun hc=>?_))<;>(try simp (disch:=omega) only [zhb] at hc)<;>(try (exfalso;omega))<;>(try subst hc))|(with_reducible refine ji (by omega) ?_)|(simp (config := { maxSteps := 400000 }) only [↓jt,↓reduceIte,zvs,reduceCtorEq,Nat.reduceEqDiff,Nat.reduceAdd,Nat.reduceLeDiff,Nat.reduceMul,Int.reduceBNe,Int.reduceBEq,Int.reduceEq,Int.reduceNe,Int.reduceLT,Int.reduceLE,Int.reduceGT,Int.reduceGE,Int.reduceNeg,Int.reduceToNat,Nat.reduceLT,Nat.reduceSub,tab,Try.results45,List.toList_toArray])|(simp (disch:=omega) only [ziw]))
  refine ja (ok_body Try.func75 rfl rfl (by kernel_rfl) (k := 1) (by rfl) (by decide) ?_)
  repeat' (first|(with_reducible first|refine yrl (by constructor) ?_|refine jk (fun M hM=>?_)|(refine hM _ ?_;clear hM M)|refine xb3 (by decide) ?_|refine yqa (by assumption) ?_ ?_|refine yqb (by assumption) ?_ ?_)|((with_reducible refine je ?_)<;>(first|rfl|assumption|(simp only [znl,jO,jP,jQ,jR,jS,jT,jU];(first|done|fail))))|(with_reducible refine jf (by (simp only [↓reduceIte,zlk,Nat.reduceEqDiff,reduceCtorEq]);exact rfl) ?_)|((with_reducible first|refine jg (fun hc=>?_) (fun hc=>?_)|refine jh (fun hc=>?_) (fun hc=>?_))<;>(try simp (disch:=omega) only [zhb] at hc)<;>(try (exfalso;omega))<;>(try subst hc))|(with_reducible refine ji (by omega) ?_)|(simp (config := { maxSteps := 400000 }) only [↓jt,↓reduceIte,zvs,reduceCtorEq,Nat.reduceEqDiff,Nat.reduceAdd,Nat.reduceLeDiff,Nat.reduceMul,Int.reduceBNe,Int.reduceBEq,Int.reduceEq,Int.reduceNe,Int.reduceLT,Int.reduceLE,Int.reduceGT,Int.reduceGE,Int.reduceNeg,Int.reduceToNat,Nat.reduceLT,Nat.reduceSub,tab,Try.results75, Try.results45, Try.results28, List.toList_toArray])|(simp (disch:=omega) only [ziw]))
  ((try simp only [encPi,List.map_cons,List.map_nil]); simp only [zrds]; (repeat' (first | exact rd_nil | exact Rd.refl _ _ (by first|rfl|assumption|(simp only [znl,jO,jP,jQ,jR,jS,jT,jU];(first|done|fail))) | (refine And.intro ?_ ?_) | (refine rd_own (by (simp only [↓reduceIte,zlk,Nat.reduceEqDiff,reduceCtorEq]); exact rfl) ?_ ?_ ?_) | rfl | assumption | (simp only [znl,jO,jP,jQ,jR,jS,jT,jU];(first|done|fail)) | (simp; done) | (simp; omega))))
theorem flM_fit (f : List UInt8) (d : Dr) (ps : List Pip) (nx : Int) (hf : f.length = 128) (h1 : d.bl.length = 57) (h2 : ∀ s ∈ d.bl, s.length = 128) (h3 : d.pe = []) (h4 : d.left = -1) (hp : ps.length ≤ 20000) (hpS : ∀ p ∈ ps, i64R p.id ∧ p.d.length ≤ 20000) (hn : 0 ≤ nx ∧ nx ≤ 10) : MFit 20000 (flM f d ps nx) where
  clock := ⟨show (0 : Int) ≤ 0 by omega, show (0 : Int) ≤ 18446744073709551615 by omega⟩
  quantum := ⟨show (-9223372036854775808 : Int) ≤ 3 by omega, show (3 : Int) ≤ 9223372036854775807 by omega⟩
  cur := ⟨show (-9223372036854775808 : Int) ≤ 0 by omega, show (0 : Int) ≤ 9223372036854775807 by omega⟩
  left := ⟨show (-9223372036854775808 : Int) ≤ 0 by omega, show (0 : Int) ≤ 9223372036854775807 by omega⟩
  fr := show 4 ≤ 20000 by omega
  frS := fun s hs => by
    simp only [flM,List.mem_cons,List.not_mem_nil,or_false] at hs
    rcases hs with rfl | rfl | rfl | rfl <;> omega
  pr := show 0 ≤ 20000 by omega
  prR := fun p hp => by cases hp
  next := ⟨show (-9223372036854775808 : Int) ≤ 1 by omega, show (1 : Int) ≤ 9223372036854775807 by omega⟩
  init := show 0 ≤ 20000 by omega
  pipes := hp
  pipesR := hpS
  newp := ⟨show -9223372036854775808 ≤ nx by omega, show nx ≤ 9223372036854775807 by omega⟩
  inp := show 0 ≤ 20000 by omega
  told := ⟨show (0 : Int) ≤ 0 by omega, show (0 : Int) ≤ 18446744073709551615 by omega⟩
  bl := show d.bl.length ≤ 20000 by omega
  blS := fun s hs => by have := h2 s hs; omega
  pe := by show d.pe.length ≤ 20000; rw [h3]; exact Nat.zero_le _
  peS := fun w hw => by
    exfalso
    rw [show (flM f d ps nx).dr.pe = [] from h3] at hw
    cases hw
  dleft := by show i64R d.left; rw [h4]; exact ⟨by omega, by omega⟩
  dirty := show 0 ≤ 20000 by omega
  dirtyS := fun w hw => by cases hw
theorem place_one (f : List UInt8) (d : Dr) (hf : f.length = 128) (h1 : d.bl.length = 57) (h2 : ∀ s ∈ d.bl, s.length = 128) (h3 : d.pe = []) (h4 : d.left = -1) (x : List UInt8) (hx : x.length ≤ 20000) : Spec Try.prog 64 [exF f d [⟨1, x⟩] 2, .int .i64 1] (.int .i64 0) := by
  have hp := place_spec (flM f d [⟨1, x⟩] 2) (flM_fit f d _ 2 hf h1 h2 h3 h4 (by simp) (fun p hp => by
    rw [List.mem_singleton] at hp
    subst hp
    exact ⟨⟨by show (-9223372036854775808 : Int) ≤ 1; omega, by show (1 : Int) ≤ 9223372036854775807; omega⟩, hx⟩) (by omega)) 1 ⟨by omega, by omega⟩
  rw [show placeI (flM f d [⟨1, x⟩] 2).pipes 1 = 0 from rfl] at hp
  exact hp
theorem put_spec (f : List UInt8) (d : Dr) (hf : f.length = 128) (h1 : d.bl.length = 57) (h2 : ∀ s ∈ d.bl, s.length = 128) (h3 : d.pe = []) (h4 : d.left = -1) (x s : List UInt8) (hx : x.length ≤ 64) (hs : s.length ≤ 20000) (n : Nat) (hn : n = min s.length (64 - x.length)) : Spec Try.prog 30 [exF f d [⟨1, x⟩] 2, .int .i64 1, .str s] (.tup [exF f d [⟨1, x ++ s.take n⟩] 2, .int .i64 n]) := by
  have hA := list_str [f, f, f, f] (by simp)
  have hB := list_pr [] (by simp)
  have hD := own_drive d (by omega) (by rw [h3]; simp)
  have hE := list_wr [] (by simp)
  have hPl := place_one f d hf h1 h2 h3 h4 x (by omega)
  refine spec_ok Try.func30 rfl rfl (by kernel_rfl) (k := 3) rfl (by decide) ?_
  repeat' (first|(with_reducible first|refine yrl (by constructor) ?_|refine jk (fun M hM=>?_)|(refine hM _ ?_;clear hM M)|refine xb3 (by decide) ?_|refine yqa (by assumption) ?_ ?_|refine yqb (by assumption) ?_ ?_)|((with_reducible refine je ?_)<;>(first|rfl|assumption|(simp only [znl,jO,jP,jQ,jR,jS,jT,jU];(first|done|fail))))|(with_reducible refine jf (by (simp only [↓reduceIte,zlk,Nat.reduceEqDiff,reduceCtorEq]);exact rfl) ?_)|((with_reducible first|refine jg (fun hc=>?_) (fun hc=>?_)|refine jh (fun hc=>?_) (fun hc=>?_))<;>(try simp (disch:=omega) only [zhb] at hc)<;>(try (exfalso;omega))<;>(try subst hc))|(with_reducible refine ji (by omega) ?_)|(simp (config := { maxSteps := 400000 }) only [↓jt,↓reduceIte,zvs,reduceCtorEq,Nat.reduceEqDiff,Nat.reduceAdd,Nat.reduceLeDiff,Nat.reduceMul,Int.reduceBNe,Int.reduceBEq,Int.reduceEq,Int.reduceNe,Int.reduceLT,Int.reduceLE,Int.reduceGT,Int.reduceGE,Int.reduceNeg,Int.reduceToNat,Nat.reduceLT,Nat.reduceSub,tab,Try.results30,List.toList_toArray])|(simp (disch:=omega) only [ziw]))
  refine ja (ok_body Try.func45 rfl rfl (by kernel_rfl) (k := 1) (by rfl) (by decide) ?_)
  repeat' (first|(with_reducible first|refine yrl (by constructor) ?_|refine jk (fun M hM=>?_)|(refine hM _ ?_;clear hM M)|refine xb3 (by decide) ?_|refine yqa (by assumption) ?_ ?_|refine yqb (by assumption) ?_ ?_)|((with_reducible refine je ?_)<;>(first|rfl|assumption|(simp only [znl,jO,jP,jQ,jR,jS,jT,jU];(first|done|fail))))|(with_reducible refine jf (by (simp only [↓reduceIte,zlk,Nat.reduceEqDiff,reduceCtorEq]);exact rfl) ?_)|((with_reducible first|refine jg (fun hc=>?_) (fun hc=>?_)|refine jh (fun hc=>?_) (fun hc=>?_))<;>(try simp (disch:=omega) only [zhb] at hc)<;>(try (exfalso;omega))<;>(try subst hc))|(with_reducible refine ji (by omega) ?_)|(simp (config := { maxSteps := 400000 }) only [↓jt,↓reduceIte,zvs,reduceCtorEq,Nat.reduceEqDiff,Nat.reduceAdd,Nat.reduceLeDiff,Nat.reduceMul,Int.reduceBNe,Int.reduceBEq,Int.reduceEq,Int.reduceNe,Int.reduceLT,Int.reduceLE,Int.reduceGT,Int.reduceGE,Int.reduceNeg,Int.reduceToNat,Nat.reduceLT,Nat.reduceSub,tab,Try.results45,List.toList_toArray])|(simp (disch:=omega) only [ziw]))
  refine ja (ok_body Try.func75 rfl rfl (by kernel_rfl) (k := 1) (by rfl) (by decide) ?_)
  repeat' (first|(with_reducible first|refine yrl (by constructor) ?_|refine jk (fun M hM=>?_)|(refine hM _ ?_;clear hM M)|refine xb3 (by decide) ?_|refine yqa (by assumption) ?_ ?_|refine yqb (by assumption) ?_ ?_)|((with_reducible refine je ?_)<;>(first|rfl|assumption|(simp only [znl,jO,jP,jQ,jR,jS,jT,jU];(first|done|fail))))|(with_reducible refine jf (by (simp only [↓reduceIte,zlk,Nat.reduceEqDiff,reduceCtorEq]);exact rfl) ?_)|((with_reducible first|refine jg (fun hc=>?_) (fun hc=>?_)|refine jh (fun hc=>?_) (fun hc=>?_))<;>(try simp (disch:=omega) only [zhb] at hc)<;>(try (exfalso;omega))<;>(try subst hc))|(with_reducible refine ji (by omega) ?_)|(simp (config := { maxSteps := 400000 }) only [↓jt,↓reduceIte,zvs,reduceCtorEq,Nat.reduceEqDiff,Nat.reduceAdd,Nat.reduceLeDiff,Nat.reduceMul,Int.reduceBNe,Int.reduceBEq,Int.reduceEq,Int.reduceNe,Int.reduceLT,Int.reduceLE,Int.reduceGT,Int.reduceGE,Int.reduceNeg,Int.reduceToNat,Nat.reduceLT,Nat.reduceSub,tab,encPi,Try.results75, Try.results45, Try.results30, List.toList_toArray])|(simp (disch:=omega) only [ziw]))
  refine ja (call_plain (hPl) (by repeat (first | exact rdl_nil | refine rdl_cons ?_ ?_ | exact Rd.refl _ _ (by first|rfl|assumption|(simp only [znl,jO,jP,jQ,jR,jS,jT,jU];(first|done|fail))) | (refine rd_own (by (simp only [↓reduceIte,zlk,Nat.reduceEqDiff,reduceCtorEq]); exact rfl) (by first | rfl | (simp; done) | (simp; omega)) rfl (by first|rfl|assumption|(simp only [znl,jO,jP,jQ,jR,jS,jT,jU];(first|done|fail)))) | exact rd_nil | refine (rd_a _ _ _).mpr ?_)) rfl rfl ?_)
  repeat' (first|(with_reducible first|refine yrl (by constructor) ?_|refine jk (fun M hM=>?_)|(refine hM _ ?_;clear hM M)|refine xb3 (by decide) ?_|refine yqa (by assumption) ?_ ?_|refine yqb (by assumption) ?_ ?_)|((with_reducible refine je ?_)<;>(first|rfl|assumption|(simp only [znl,jO,jP,jQ,jR,jS,jT,jU];(first|done|fail))))|(with_reducible refine jf (by (simp only [↓reduceIte,zlk,Nat.reduceEqDiff,reduceCtorEq]);exact rfl) ?_)|((with_reducible first|refine jg (fun hc=>?_) (fun hc=>?_)|refine jh (fun hc=>?_) (fun hc=>?_))<;>(try simp (disch:=omega) only [zhb] at hc)<;>(try (exfalso;omega))<;>(try subst hc))|(with_reducible refine ji (by omega) ?_)|(simp (config := { maxSteps := 400000 }) only [↓jt,↓reduceIte,zvs,reduceCtorEq,Nat.reduceEqDiff,Nat.reduceAdd,Nat.reduceLeDiff,Nat.reduceMul,Int.reduceBNe,Int.reduceBEq,Int.reduceEq,Int.reduceNe,Int.reduceLT,Int.reduceLE,Int.reduceGT,Int.reduceGE,Int.reduceNeg,Int.reduceToNat,Nat.reduceLT,Nat.reduceSub,tab,encPi,Try.results30,List.toList_toArray])|(simp (disch:=omega) only [ziw]))
  refine ok_draw 12 (by kernel_rfl) (by decide +kernel) (by intro m hm; simp only [upd_ap,rows_cons,rows_nil]; (repeat (first | rfl | rw [if_neg (by omega)]))) (fun M hM => ?_); simp only [List.take_succ_cons,List.take_zero,List.drop_succ_cons,List.drop_zero]
  have hn1 : min (s.length : Int) (max (64 - (x.length : Int)) 0) = (n : Int) := by omega
  have hn2 : (min (s.length : Int) (max (64 - (x.length : Int)) 0)).toNat = n := by rw [hn1]; rfl
  repeat' (first|(with_reducible first|refine yrl (by constructor) ?_|refine jk (fun M hM=>?_)|(refine hM _ ?_;clear hM M)|refine xb3 (by decide) ?_|refine yqa (by assumption) ?_ ?_|refine yqb (by assumption) ?_ ?_)|((with_reducible refine je ?_)<;>(first|rfl|assumption|(simp only [znl,jO,jP,jQ,jR,jS,jT,jU];(first|done|fail))))|(with_reducible refine jf (by (simp only [↓reduceIte,zlk,Nat.reduceEqDiff,reduceCtorEq]);exact rfl) ?_)|((with_reducible first|refine jg (fun hc=>?_) (fun hc=>?_)|refine jh (fun hc=>?_) (fun hc=>?_))<;>(try simp (disch:=omega) only [zhb] at hc)<;>(try (exfalso;omega))<;>(try subst hc))|(with_reducible refine ji (by omega) ?_)|(simp (config := { maxSteps := 400000 }) only [↓jt,↓reduceIte,zvs,reduceCtorEq,Nat.reduceEqDiff,Nat.reduceAdd,Nat.reduceLeDiff,Nat.reduceMul,Int.reduceBNe,Int.reduceBEq,Int.reduceEq,Int.reduceNe,Int.reduceLT,Int.reduceLE,Int.reduceGT,Int.reduceGE,Int.reduceNeg,Int.reduceToNat,Nat.reduceLT,Nat.reduceSub,tab,encPi,hn2,hn1,Try.results30,List.toList_toArray])|(simp (disch:=omega) only [ziw]))
  ((try simp only [encPi,List.map_cons,List.map_nil]); simp only [zrds]; (repeat' (first | exact rd_nil | exact Rd.refl _ _ (by first|rfl|assumption|(simp only [znl,jO,jP,jQ,jR,jS,jT,jU];(first|done|fail))) | (refine And.intro ?_ ?_) | (refine rd_own (by (simp only [↓reduceIte,zlk,Nat.reduceEqDiff,reduceCtorEq]); exact rfl) ?_ ?_ ?_) | rfl | assumption | (simp only [znl,jO,jP,jQ,jR,jS,jT,jU];(first|done|fail)) | (simp; done) | (simp; omega))))
theorem take_spec (f : List UInt8) (d : Dr) (hf : f.length = 128) (h1 : d.bl.length = 57) (h2 : ∀ s ∈ d.bl, s.length = 128) (h3 : d.pe = []) (h4 : d.left = -1) (x : List UInt8) (hx : x.length ≤ 64) (k : Nat) (hk : k ≤ 20000) (n : Nat) (hn : n = min k x.length) : Spec Try.prog 31 [exF f d [⟨1, x⟩] 2, .int .i64 1, .int .i64 k] (.tup [exF f d [⟨1, x.drop n⟩] 2, .str (x.take n)]) := by
  have hA := list_str [f, f, f, f] (by simp)
  have hB := list_pr [] (by simp)
  have hD := own_drive d (by omega) (by rw [h3]; simp)
  have hE := list_wr [] (by simp)
  have hPl := place_one f d hf h1 h2 h3 h4 x (by omega)
  have hn1 : min (max (k : Int) 0) (x.length : Int) = (n : Int) := by omega
  have hn2 : (min (max (k : Int) 0) (x.length : Int)).toNat = n := by rw [hn1]; rfl
  have hnl : n ≤ x.length := by omega
  have hdr : List.take (x.length - n) (List.drop n x) = x.drop n := List.take_of_length_le (by rw [List.length_drop]; omega)
  refine spec_ok Try.func31 rfl rfl (by kernel_rfl) (k := 3) rfl (by decide) ?_
  repeat' (first|(with_reducible first|refine yrl (by constructor) ?_|refine jk (fun M hM=>?_)|(refine hM _ ?_;clear hM M)|refine xb3 (by decide) ?_|refine yqa (by assumption) ?_ ?_|refine yqb (by assumption) ?_ ?_)|((with_reducible refine je ?_)<;>(first|rfl|assumption|(simp only [znl,jO,jP,jQ,jR,jS,jT,jU];(first|done|fail))))|(with_reducible refine jf (by (simp only [↓reduceIte,zlk,Nat.reduceEqDiff,reduceCtorEq]);exact rfl) ?_)|((with_reducible first|refine jg (fun hc=>?_) (fun hc=>?_)|refine jh (fun hc=>?_) (fun hc=>?_))<;>(try simp (disch:=omega) only [zhb] at hc)<;>(try (exfalso;omega))<;>(try subst hc))|(with_reducible refine ji (by omega) ?_)|(simp (config := { maxSteps := 400000 }) only [↓jt,↓reduceIte,zvs,reduceCtorEq,Nat.reduceEqDiff,Nat.reduceAdd,Nat.reduceLeDiff,Nat.reduceMul,Int.reduceBNe,Int.reduceBEq,Int.reduceEq,Int.reduceNe,Int.reduceLT,Int.reduceLE,Int.reduceGT,Int.reduceGE,Int.reduceNeg,Int.reduceToNat,Nat.reduceLT,Nat.reduceSub,tab,Try.results31,List.toList_toArray])|(simp (disch:=omega) only [ziw]))
  refine ja (ok_body Try.func45 rfl rfl (by kernel_rfl) (k := 1) (by rfl) (by decide) ?_)
  repeat' (first|(with_reducible first|refine yrl (by constructor) ?_|refine jk (fun M hM=>?_)|(refine hM _ ?_;clear hM M)|refine xb3 (by decide) ?_|refine yqa (by assumption) ?_ ?_|refine yqb (by assumption) ?_ ?_)|((with_reducible refine je ?_)<;>(first|rfl|assumption|(simp only [znl,jO,jP,jQ,jR,jS,jT,jU];(first|done|fail))))|(with_reducible refine jf (by (simp only [↓reduceIte,zlk,Nat.reduceEqDiff,reduceCtorEq]);exact rfl) ?_)|((with_reducible first|refine jg (fun hc=>?_) (fun hc=>?_)|refine jh (fun hc=>?_) (fun hc=>?_))<;>(try simp (disch:=omega) only [zhb] at hc)<;>(try (exfalso;omega))<;>(try subst hc))|(with_reducible refine ji (by omega) ?_)|(simp (config := { maxSteps := 400000 }) only [↓jt,↓reduceIte,zvs,reduceCtorEq,Nat.reduceEqDiff,Nat.reduceAdd,Nat.reduceLeDiff,Nat.reduceMul,Int.reduceBNe,Int.reduceBEq,Int.reduceEq,Int.reduceNe,Int.reduceLT,Int.reduceLE,Int.reduceGT,Int.reduceGE,Int.reduceNeg,Int.reduceToNat,Nat.reduceLT,Nat.reduceSub,tab,Try.results45,List.toList_toArray])|(simp (disch:=omega) only [ziw]))
  refine ja (ok_body Try.func75 rfl rfl (by kernel_rfl) (k := 1) (by rfl) (by decide) ?_)
  repeat' (first|(with_reducible first|refine yrl (by constructor) ?_|refine jk (fun M hM=>?_)|(refine hM _ ?_;clear hM M)|refine xb3 (by decide) ?_|refine yqa (by assumption) ?_ ?_|refine yqb (by assumption) ?_ ?_)|((with_reducible refine je ?_)<;>(first|rfl|assumption|(simp only [znl,jO,jP,jQ,jR,jS,jT,jU];(first|done|fail))))|(with_reducible refine jf (by (simp only [↓reduceIte,zlk,Nat.reduceEqDiff,reduceCtorEq]);exact rfl) ?_)|((with_reducible first|refine jg (fun hc=>?_) (fun hc=>?_)|refine jh (fun hc=>?_) (fun hc=>?_))<;>(try simp (disch:=omega) only [zhb] at hc)<;>(try (exfalso;omega))<;>(try subst hc))|(with_reducible refine ji (by omega) ?_)|(simp (config := { maxSteps := 400000 }) only [↓jt,↓reduceIte,zvs,reduceCtorEq,Nat.reduceEqDiff,Nat.reduceAdd,Nat.reduceLeDiff,Nat.reduceMul,Int.reduceBNe,Int.reduceBEq,Int.reduceEq,Int.reduceNe,Int.reduceLT,Int.reduceLE,Int.reduceGT,Int.reduceGE,Int.reduceNeg,Int.reduceToNat,Nat.reduceLT,Nat.reduceSub,tab,encPi,Try.results75, Try.results45, Try.results31, List.toList_toArray])|(simp (disch:=omega) only [ziw]))
  refine ja (call_plain (hPl) (by repeat (first | exact rdl_nil | refine rdl_cons ?_ ?_ | exact Rd.refl _ _ (by first|rfl|assumption|(simp only [znl,jO,jP,jQ,jR,jS,jT,jU];(first|done|fail))) | (refine rd_own (by (simp only [↓reduceIte,zlk,Nat.reduceEqDiff,reduceCtorEq]); exact rfl) (by first | rfl | (simp; done) | (simp; omega)) rfl (by first|rfl|assumption|(simp only [znl,jO,jP,jQ,jR,jS,jT,jU];(first|done|fail)))) | exact rd_nil | refine (rd_a _ _ _).mpr ?_)) rfl rfl ?_)
  repeat' (first|(with_reducible first|refine yrl (by constructor) ?_|refine jk (fun M hM=>?_)|(refine hM _ ?_;clear hM M)|refine xb3 (by decide) ?_|refine yqa (by assumption) ?_ ?_|refine yqb (by assumption) ?_ ?_)|((with_reducible refine je ?_)<;>(first|rfl|assumption|(simp only [znl,jO,jP,jQ,jR,jS,jT,jU];(first|done|fail))))|(with_reducible refine jf (by (simp only [↓reduceIte,zlk,Nat.reduceEqDiff,reduceCtorEq]);exact rfl) ?_)|((with_reducible first|refine jg (fun hc=>?_) (fun hc=>?_)|refine jh (fun hc=>?_) (fun hc=>?_))<;>(try simp (disch:=omega) only [zhb] at hc)<;>(try (exfalso;omega))<;>(try subst hc))|(with_reducible refine ji (by omega) ?_)|(simp (config := { maxSteps := 400000 }) only [↓jt,↓reduceIte,zvs,reduceCtorEq,Nat.reduceEqDiff,Nat.reduceAdd,Nat.reduceLeDiff,Nat.reduceMul,Int.reduceBNe,Int.reduceBEq,Int.reduceEq,Int.reduceNe,Int.reduceLT,Int.reduceLE,Int.reduceGT,Int.reduceGE,Int.reduceNeg,Int.reduceToNat,Nat.reduceLT,Nat.reduceSub,tab,encPi,hn2,hn1,Try.results31,List.toList_toArray])|(simp (disch:=omega) only [ziw]))
  refine ok_draw 8 (by kernel_rfl) (by decide +kernel) (by intro m hm; simp only [upd_ap,rows_cons,rows_nil]; (repeat (first | rfl | rw [if_neg (by omega)]))) (fun M hM => ?_); simp only [List.take_succ_cons,List.take_zero,List.drop_succ_cons,List.drop_zero]
  repeat' (first|(with_reducible first|refine yrl (by constructor) ?_|refine jk (fun M hM=>?_)|(refine hM _ ?_;clear hM M)|refine xb3 (by decide) ?_|refine yqa (by assumption) ?_ ?_|refine yqb (by assumption) ?_ ?_)|((with_reducible refine je ?_)<;>(first|rfl|assumption|(simp only [znl,jO,jP,jQ,jR,jS,jT,jU];(first|done|fail))))|(with_reducible refine jf (by (simp only [↓reduceIte,zlk,Nat.reduceEqDiff,reduceCtorEq]);exact rfl) ?_)|((with_reducible first|refine jg (fun hc=>?_) (fun hc=>?_)|refine jh (fun hc=>?_) (fun hc=>?_))<;>(try simp (disch:=omega) only [zhb] at hc)<;>(try (exfalso;omega))<;>(try subst hc))|(with_reducible refine ji (by omega) ?_)|(simp (config := { maxSteps := 400000 }) only [↓jt,↓reduceIte,zvs,reduceCtorEq,Nat.reduceEqDiff,Nat.reduceAdd,Nat.reduceLeDiff,Nat.reduceMul,Int.reduceBNe,Int.reduceBEq,Int.reduceEq,Int.reduceNe,Int.reduceLT,Int.reduceLE,Int.reduceGT,Int.reduceGE,Int.reduceNeg,Int.reduceToNat,Nat.reduceLT,Nat.reduceSub,tab,encPi,hn2,hn1,hdr,Try.results31,List.toList_toArray])|(simp (disch:=omega) only [ziw]))
  refine ok_drawE 6 [0, 1, 2, 3, 5] 4 1 (by kernel_rfl) (by decide +kernel) (by decide) (by decide) (by (simp only [↓reduceIte,zlk,Nat.reduceEqDiff,reduceCtorEq]); exact rfl) (by intro m hm; simp only [upd_ap,rows_cons,rows_nil]; (repeat (first | rfl | rw [if_neg (by omega)]))) (fun M hM => ?_); simp only [picks,List.getElem?_cons_succ,List.getElem?_cons_zero,List.drop_succ_cons,List.drop_zero]
  repeat' (first|(with_reducible first|refine yrl (by constructor) ?_|refine jk (fun M hM=>?_)|(refine hM _ ?_;clear hM M)|refine xb3 (by decide) ?_|refine yqa (by assumption) ?_ ?_|refine yqb (by assumption) ?_ ?_)|((with_reducible refine je ?_)<;>(first|rfl|assumption|(simp only [znl,jO,jP,jQ,jR,jS,jT,jU];(first|done|fail))))|(with_reducible refine jf (by (simp only [↓reduceIte,zlk,Nat.reduceEqDiff,reduceCtorEq]);exact rfl) ?_)|((with_reducible first|refine jg (fun hc=>?_) (fun hc=>?_)|refine jh (fun hc=>?_) (fun hc=>?_))<;>(try simp (disch:=omega) only [zhb] at hc)<;>(try (exfalso;omega))<;>(try subst hc))|(with_reducible refine ji (by omega) ?_)|(simp (config := { maxSteps := 400000 }) only [↓jt,↓reduceIte,zvs,reduceCtorEq,Nat.reduceEqDiff,Nat.reduceAdd,Nat.reduceLeDiff,Nat.reduceMul,Int.reduceBNe,Int.reduceBEq,Int.reduceEq,Int.reduceNe,Int.reduceLT,Int.reduceLE,Int.reduceGT,Int.reduceGE,Int.reduceNeg,Int.reduceToNat,Nat.reduceLT,Nat.reduceSub,tab,encPi,storeAt_go,isP_ptr,hn2,hn1,hdr,Try.results31,List.toList_toArray])|(simp (disch:=omega) only [ziw]))
  ((try simp only [encPi,List.map_cons,List.map_nil]); simp only [zrds]; (repeat' (first | exact rd_nil | exact Rd.refl _ _ (by first|rfl|assumption|(simp only [znl,jO,jP,jQ,jR,jS,jT,jU];(first|done|fail))) | (refine And.intro ?_ ?_) | (refine rd_own (by (simp only [↓reduceIte,zlk,Nat.reduceEqDiff,reduceCtorEq]); exact rfl) ?_ ?_ ?_) | rfl | assumption | (simp only [znl,jO,jP,jQ,jR,jS,jT,jU];(first|done|fail)) | (simp; done) | (simp; omega))))
end Go.Proofs.Ytlgldkjjbbbapaa.V
end
section
/-
  A MACHINE OF VALUES: a drawn region with one store into a block that was there; what the store does not wait for only moves values.
-/
set_option linter.unusedVariables false
set_option linter.unusedSectionVars false
set_option linter.unusedSimpArgs false
namespace Go.Proofs.Ytlgldkjjbbbapaa.V
open Go Go.RowKit
def isMv (o : Oper) : Bool := o.guard == none && match o.op with
  | .move _ => true
  | .assign _ => true
  | .extract _ _ => true
  | _ => false
theorem fact_mv {P : Program} {ops : List Oper} {env tmF : Nat → VV} {GA : Heap} {n : Nat} {o : Oper} (GB : Heap) (h : isMv o = true) (hA : Fact2 P ops env tmF GA n o) : Fact2 P ops env tmF GB n o := by
  unfold isMv at h
  rw [Bool.and_eq_true, beq_iff_eq] at h
  obtain ⟨hg, h⟩ := h
  rcases hA with ⟨h1, v, n', h2, h3, h4, h5⟩ | ⟨g, w, d, h1, _⟩
  · refine .inl ⟨hg, ?_⟩
    have h6 := h5 (ev env) (fun v' _ m => v' = v ∧ m = n') (fun _ _ => rfl) ⟨rfl, rfl⟩
    refine ⟨v, n', h2, h3, h4, fun e' K' he hK => ?_⟩
    cases hop : o.op <;> rw [hop] at h <;> try (cases h; done)
    · rename_i x
      rw [hop] at he
      unfold vopH at h6 ⊢
      simp only [hop] at h6 ⊢
      obtain ⟨e1, e2⟩ := h6
      have hx := he x (by simp [Op.operands])
      rw [hx, e1, e2]; exact hK
    · rename_i x
      rw [hop] at he
      unfold vopH at h6 ⊢
      simp only [hop] at h6 ⊢
      obtain ⟨e1, e2⟩ := h6
      have hx := he x (by simp [Op.operands])
      rw [hx, e1, e2]; exact hK
    · rename_i x i
      rw [hop] at he
      unfold vopH at h6 ⊢
      simp only [hop] at h6 ⊢
      unfold vExtract onV at h6 ⊢
      have hx := he x (by simp [Op.operands])
      rw [hx]
      cases hv : ev env x <;> rw [hv] at h6 <;> try exact h6.elim
      dsimp only at h6 ⊢
      obtain ⟨u, hu, e1, e2⟩ := bnd_iff.1 h6
      exact bnd_intro hu (by rw [e1, e2]; exact hK)
  · rw [hg] at h1; cases h1
section
variable {P : Program} {ops : Array Oper} {k js : Nat} {perm : List Nat} {K : VS → Prop}
def mvOk (ops : Array Oper) (perm : List Nat) (js : Nat) : Bool := (List.range perm.length).all fun q => opD ops js (fun s => reachB ops ops.size s (perm.getD q 0)) || opD ops (perm.getD q 0) isMv
theorem regionK {S : VS} (hm : P.follows .mixedOrders = true) (hfr : ∀ m, S.nx ≤ m → S.hp m = none) (hok : drawOk2 ops k perm js perm.length = true) (hmv : mvOk ops perm js = true) (hjk : js < k) (m : Nat) (hmn : m < S.nx)
    (h : vheld P ops.toList (picks ops.toList perm) S.tm S.hp S.nx fun tm H _ => storeAt P m (ev tm) H (fun G => vlist P ops.toList (ops.toList.drop k) ⟨tm, G, S.nx + 64 * k⟩ K) ops[js]?) : vdraw P ops S K := by
  have hok' := hok
  unfold drawOk2 at hok'
  simp only [Bool.and_eq_true,decide_eq_true_eq] at hok'
  obtain ⟨⟨⟨⟨⟨⟨⟨⟨⟨hk, hpl⟩, hone⟩, hpk⟩, hun⟩, hall⟩, hbk⟩, hrd⟩, hst⟩, htl⟩ := hok'
  obtain ⟨tmF, G, k1, k2, k3, k4⟩ := held2 (ops := ops) _ S.tm S.hp S.nx hone hfr h
  have hst' : opD ops js (fun o => isSt o.op) = true := by
    simp only [Bool.or_eq_true,decide_eq_true_eq] at hst
    rcases hst with h | h
    · omega
    · obtain ⟨o, ho, h⟩ := opD_some h
      simp only [Bool.and_eq_true] at h
      unfold opD
      rw [ho]
      exact h.1.1.2
  obtain ⟨o, ho, hs⟩ := opD_some hst'
  rw [ho] at k1
  cases hop : o.op <;> rw [hop] at hs <;> simp only [isSt,Bool.false_eq_true] at hs
  rename_i t y x
  obtain ⟨b, g1, g2⟩ := storeAt_some hop k1
  have key : ∀ (q : Nat) o, (picks ops.toList perm)[q]? = some o → Fact2 P ops.toList (rd2 (picks ops.toList perm) q S.tm tmF) tmF G (S.nx + 64 * q) o := fun q o ho => by
    obtain ⟨Hq, q1, q2, q3, q4⟩ := k4 q o ho
    exact q4 _ q3
  have hlt : ∀ i ∈ perm, i < ops.toList.length := fun i hi => by
    have := (List.all_eq_true.1 hpk) i hi
    simp only [Bool.and_eq_true,decide_eq_true_eq] at this
    rw [Array.length_toList]; omega
  refine region2p hm hfr hok (GA := G) (GB := upd G m (some b)) k2 (fun m' hm' => k3.2 m' hm') key (fun q o hq hql hnp => ?_) (fun h => by omega) (fun _ o' t' y' x' ho' hop' => ?_) g1
  · have h1 := (List.all_eq_true.1 hmv) q (List.mem_range.2 hql)
    rw [hnp hjk, Bool.false_or] at h1
    obtain ⟨o2, ho2, h2⟩ := opD_some h1
    have e : o2 = o := by
      rw [picks_get _ _ hlt, List.getElem?_eq_getElem hql] at hq
      rw [List.getD_eq_getElem?_getD, List.getElem?_eq_getElem hql] at ho2
      simp only [Option.getD_some,Option.bind_some] at ho2 hq
      rw [Array.getElem?_toList, ho2] at hq
      injection hq
    rw [e] at h2
    exact fact_mv _ h2 (key q o hq)
  · rw [ho] at ho'; injection ho' with ho'; subst ho'
    rw [hop] at hop'; injection hop' with e1 e2 e3
    subst e1 e2 e3
    exact g2
end
section
variable {P : Program} {n0 : Nat} {K : VX → VS → Prop}
theorem ok_drawK {id : Nat} {l : List Oper} {tm : Nat → VV} {H : Heap} {n : Nat} (k : Nat) (perm : List Nat) (js m : Nat) (hm : P.follows .mixedOrders = true) (hd : (drawOk2 l.toArray k perm js perm.length && mvOk l.toArray perm js) = true) (hjk : js < k) (hmn : m < n) (hfr : ∀ m, n ≤ m → H m = none)
    (h : ∀ M : VS → Prop, (∀ S, K .normal S → M S) → vh P l (picks l perm) tm H n fun tm2 H2 _ => storeAt P m (ev tm2) H2 (fun G => vl P l (l.drop k) ⟨tm2, G, n + 64 * k⟩ M) l[js]?) : Ok P n0 (.region id l.toArray true) ⟨tm, H, n⟩ K := fun N B ρ0 w0 Q a w ρ h0 hok hS next => by
  simp only [codeOk,List.all_eq_true] at hok
  rw [Bool.and_eq_true] at hd
  exact regionK (S := ⟨tm, H, n⟩) hm hfr hd.1 hd.2 hjk m hmn (by simpa only [vh_def,vl_def,List.getElem?_toArray] using h _ fun _ h => h) id N B ρ0 w0 Q a w ρ (fun o ho t ht => by have := hok o ho; rw [ht] at this; simpa using this) hS.tm hS.defers hS.size hS.heap hS.below hS.ext
    fun S' a' w' ρ' hk h1 h2 h3 h4 h5 h6 => next .normal S' a' w' ρ' hk ⟨h1, h2, h3, h4, h5, h6⟩
end
end Go.Proofs.Ytlgldkjjbbbapaa.V
end
section
/-
  PIPES, part 2: the chapter's example holds.
-/
set_option linter.unusedVariables false
set_option linter.unusedSimpArgs false
namespace Go.Proofs.Ytlgldkjjbbbapaa.V
open Go
set_option maxRecDepth 100000
-- nlx: jO, jP, jQ, jR, jS, jT, jU
set_option maxHeartbeats 4000000
abbrev zMV : VV := .agg [.int .u64 0, .int .i64 0, .int .i64 0, .int .i64 0, .sl none 0, .sl none 0, .int .i64 0, .str [], .sl none 0, .int .i64 0, .str [], .bool false, .int .u64 0, .agg [.sl none 0, .sl none 0, .int .i64 0], .sl none 0]
theorem numbers_zero : Spec Try.prog 50 [zMV] (.int .i64 2) := by
  refine spec_ok Try.func50 rfl rfl (by kernel_rfl) (k := 1) rfl (by decide) ?_
  repeat' (first|(with_reducible first|refine yrl (by constructor) ?_|refine jk (fun M hM=>?_)|(refine hM _ ?_;clear hM M)|refine xb3 (by decide) ?_|refine yqa (by assumption) ?_ ?_|refine yqb (by assumption) ?_ ?_)|((with_reducible refine je ?_)<;>(first|rfl|assumption|(simp only [znl,jO,jP,jQ,jR,jS,jT,jU];(first|done|fail))))|(with_reducible refine jf (by (simp only [↓reduceIte,zlk,Nat.reduceEqDiff,reduceCtorEq]);exact rfl) ?_)|((with_reducible first|refine jg (fun hc=>?_) (fun hc=>?_)|refine jh (fun hc=>?_) (fun hc=>?_))<;>(try simp (disch:=omega) only [zhb] at hc)<;>(try (exfalso;omega))<;>(try subst hc))|(with_reducible refine ji (by omega) ?_)|(simp (config := { maxSteps := 400000 }) only [↓jt,↓reduceIte,zvs,reduceCtorEq,Nat.reduceEqDiff,Nat.reduceAdd,Nat.reduceLeDiff,Nat.reduceMul,Int.reduceBNe,Int.reduceBEq,Int.reduceEq,Int.reduceNe,Int.reduceLT,Int.reduceLE,Int.reduceGT,Int.reduceGE,Int.reduceNeg,Int.reduceToNat,Nat.reduceLT,Nat.reduceSub,tab,Try.results50,List.toList_toArray])|(simp (disch:=omega) only [ziw]))
  all_goals first
    | (exfalso; omega)
    | (simp only [zrds]; done)
    | trace_state
theorem scheck_zero : Spec Try.prog 24 [zMV] (.int .i64 2) := by
  have c1 := numbers_zero
  have z0 : ((0 : Nat) : Int) = 0 := rfl
  have z6 : ((6 : Nat) : Int) = 6 := rfl
  have r6 : ∀ a : VV, List.replicate 6 a = [a, a, a, a, a, a] := fun _ => rfl
  refine spec_ok Try.func24 rfl rfl (by kernel_rfl) (k := 1) rfl (by decide) ?_
  repeat' (first|(with_reducible first|refine yrl (by constructor) ?_|refine jk (fun M hM=>?_)|(refine hM _ ?_;clear hM M)|refine xb3 (by decide) ?_|refine yqa (by assumption) ?_ ?_|refine yqb (by assumption) ?_ ?_)|((with_reducible refine je ?_)<;>(first|rfl|assumption|(simp only [znl,jO,jP,jQ,jR,jS,jT,jU];(first|done|fail))))|(with_reducible refine jf (by (simp only [↓reduceIte,zlk,Nat.reduceEqDiff,reduceCtorEq]);exact rfl) ?_)|((with_reducible first|refine jg (fun hc=>?_) (fun hc=>?_)|refine jh (fun hc=>?_) (fun hc=>?_))<;>(try simp (disch:=omega) only [zhb] at hc)<;>(try (exfalso;omega))<;>(try subst hc))|(with_reducible refine ji (by omega) ?_)|(simp (config := { maxSteps := 400000 }) only [↓jt,↓reduceIte,zvs,reduceCtorEq,Nat.reduceEqDiff,Nat.reduceAdd,Nat.reduceLeDiff,Nat.reduceMul,Int.reduceBNe,Int.reduceBEq,Int.reduceEq,Int.reduceNe,Int.reduceLT,Int.reduceLE,Int.reduceGT,Int.reduceGE,Int.reduceNeg,Int.reduceToNat,Nat.reduceLT,Nat.reduceSub,tab,tabF,r6,z6,Try.results24,List.toList_toArray])|(simp (disch:=omega) only [ziw]))
  refine ok_loop (fun k : Nat => ⟨slots [(1, .ptr 0 []), (6, .sl (some (1, [], 0)) 6), (7, .int .i64 6), (8, .int .i64 k)], rows [(0, .row machSh zMV), (1, .row (.arr 6 .cell) (.agg [.fn 50 [], .fn 51 [], .fn 52 [], .fn 53 [], .fn 54 [], .fn 55 []]))], 2⟩) (fun k => k = 0) (fun k => 6 - k) 0 ?_ rfl (fun k hk => ?_)
  · (refine yrn [(0, 0), (1, 1)] false ?_ ?_<;>(repeat' (first|(with_reducible first|exact ya1|exact ya2|exact ya3|refine jx rfl (by first|rfl|assumption|(simp only [znl,jO,jP,jQ,jR,jS,jT,jU];(first|done|fail)))|exact ya5|exact ya7|exact jy|exact jz|refine jA ?_|refine ya9 ?_ ?_ ?_|refine jC rfl (by first|rfl|assumption|(simp only [znl,jO,jP,jQ,jR,jS,jT,jU];(first|done|fail)))|refine MR.agg (MRL.cons ?_ ?_)|refine MR.fn ?_|refine MRL.cons ?_ ?_|exact MRL.nil|refine jE ?_ ?_|exact jF|exact jG|refine yb1 ?_ ?_|refine MB.row ?_|refine jI ?_ ?_|exact ya8|refine jJ rfl (by first|rfl|assumption|(simp only [znl,jO,jP,jQ,jR,jS,jT,jU];(first|done|fail)))|refine yb2 ?_|rfl)|(simp only [znl,jO,jP,jQ,jR,jS,jT,jU];(first|done|fail))|(simp only [↓reduceIte,zlk,Nat.reduceEqDiff,reduceCtorEq])|(with_reducible first|refine jJ ?_ ?_|refine ya5 ?_|refine ju ?_|refine jv ?_|refine jw ?_|refine jx ?_ (by first|rfl|assumption|(simp only [znl,jO,jP,jQ,jR,jS,jT,jU];(first|done|fail)))|refine jC ?_ (by first|rfl|assumption|(simp only [znl,jO,jP,jQ,jR,jS,jT,jU];(first|done|fail)))))))
    all_goals (first | rfl | trace_state)
  subst hk
  repeat' (first|(with_reducible first|refine yrl (by constructor) ?_|refine jk (fun M hM=>?_)|(refine hM _ ?_;clear hM M)|refine xb3 (by decide) ?_|refine yqa (by assumption) ?_ ?_|refine yqb (by assumption) ?_ ?_)|((with_reducible refine je ?_)<;>(first|rfl|assumption|(simp only [znl,jO,jP,jQ,jR,jS,jT,jU];(first|done|fail))))|(with_reducible refine jf (by (simp only [↓reduceIte,zlk,Nat.reduceEqDiff,reduceCtorEq]);exact rfl) ?_)|((with_reducible first|refine jg (fun hc=>?_) (fun hc=>?_)|refine jh (fun hc=>?_) (fun hc=>?_))<;>(try simp (disch:=omega) only [zhb] at hc)<;>(try (exfalso;omega))<;>(try subst hc))|(with_reducible refine ji (by omega) ?_)|(simp (config := { maxSteps := 400000 }) only [↓jt,↓reduceIte,zvs,reduceCtorEq,Nat.reduceEqDiff,Nat.reduceAdd,Nat.reduceLeDiff,Nat.reduceMul,Int.reduceBNe,Int.reduceBEq,Int.reduceEq,Int.reduceNe,Int.reduceLT,Int.reduceLE,Int.reduceGT,Int.reduceGE,Int.reduceNeg,Int.reduceToNat,Nat.reduceLT,Nat.reduceSub,tab,tabF,z0,Try.results24,List.toList_toArray])|(simp (disch:=omega) only [ziw]))
  all_goals first
    | (exfalso; omega)
    | (simp only [zrds]; done)
    | trace_state
theorem flM_chk (f : List UInt8) (d : Dr) (x : List UInt8) (hf : f.length = 128) (hx : x.length ≤ 64) (hc : checkD d = 0) (hh : homeD d = vol0) : chkM (flM f d [⟨1, x⟩] 2) = 0 := by
  have e1 : numB (flM f d [⟨1, x⟩] 2) = false := rfl
  have e2 : procsB (flM f d [⟨1, x⟩] 2) = true := rfl
  have e3 : pipesB (flM f d [⟨1, x⟩] 2) = true := by
    refine List.all_eq_true.2 fun i hi => ?_
    have hi := List.mem_range.1 hi
    obtain rfl : i = 0 := by have : (flM f d [⟨1, x⟩] 2).pipes.length = 1 := rfl; omega
    show (!(false || false || (false && decide ((1 : Int) ≤ 1)) || longB 64 x)) = true
    unfold longB
    rw [show decide (64 < x.length) = false from decide_eq_false (by omega)]
    rfl
  have e4 : diskE (flM f d [⟨1, x⟩] 2) = 0 := by
    unfold diskE
    rw [show (flM f d [⟨1, x⟩] 2).dr = d from rfl, if_neg (by rw [hc]; simp), hh, if_neg (by intro h; have := congrArg List.length h; rw [vol0_len] at this; cases this), if_neg (by show ¬32 < 0; omega)]
    rw [show dirtyE vol0 (flM f d [⟨1, x⟩] 2).dirty = true from rfl, if_neg (by simp), show volM (flM f d [⟨1, x⟩] 2) = homeD d from rfl, hh]
    exact vol0_ok
  unfold chkM
  rw [if_neg (by rw [e1]; simp), if_neg (by show ¬(4 < 1 ∨ 64 < 4); omega), if_neg (by show ¬(([f, f, f, f].any fun s => decide (s.length ≠ 128)) = true); simp [hf]), if_neg (by show ¬(8 < 0); omega), if_neg (by rw [e2]; simp), if_neg (by show ¬(64 < 1); omega), if_neg (by rw [e3]; simp), if_neg (by show ¬(65536 < 0 ∨ 128 < 0); omega), e4]
theorem salive_spec : Spec Try.prog 25 [] (.bool true) := by
  obtain ⟨f, d, hf, h1, h2, h3, h4, hc, hh, hB⟩ := bare_specX
  have hB : Spec Try.prog 29 [] (exF f d [] 1) := hB
  have hO := open_spec f d (by omega) (by rw [h3]; simp)
  obtain ⟨A, eA, lA⟩ : ∃ A : List UInt8, A = (List.replicate 35 [97, 98]).flatten ∧ A.length = 70 := ⟨_, rfl, rfl⟩
  obtain ⟨C, eC, lC⟩ : ∃ A : List UInt8, A = (List.replicate 70 [99]).flatten ∧ A.length = 70 := ⟨_, rfl, rfl⟩
  have hR1 : Spec Try.prog 27 [.str [97, 98], .int .i64 35] (.str A) := by
    have hr := repeat_spec [97, 98] 35 (by decide) (by decide)
    rw [← eA] at hr
    exact hr
  have hR2 : Spec Try.prog 27 [.str [99], .int .i64 70] (.str C) := by
    have hr := repeat_spec [99] 70 (by decide) (by decide)
    rw [← eC] at hr
    exact hr
  have hP1 := put_spec f d hf h1 h2 h3 h4 [] A (by simp) (by omega) 64 (by rw [lA]; rfl)
  rw [List.nil_append] at hP1
  have lX : (A.take 64).length = 64 := by rw [List.length_take, lA]; rfl
  have hT := take_spec f d hf h1 h2 h3 h4 (A.take 64) (by omega) 3 (by omega) 3 (by rw [lX]; rfl)
  rw [show (A.take 64).take 3 = [97, 98, 97] from by rw [eA]; rfl] at hT
  have lY : ((A.take 64).drop 3).length = 61 := by rw [List.length_drop, lX]
  have hC1 := scheck_ok (flM f d [⟨1, (A.take 64).drop 3⟩] 2) (flM_fit f d _ 2 hf h1 h2 h3 h4 (by simp) (fun p hp => by
    rw [List.mem_singleton] at hp
    subst hp
    exact ⟨⟨by show (-9223372036854775808 : Int) ≤ 1; omega, by show (1 : Int) ≤ 9223372036854775807; omega⟩, by show ((A.take 64).drop 3).length ≤ 20000; omega⟩) (by omega)) (flM_chk f d _ hf (by omega) hc hh)
  have hC1 : Spec Try.prog 24 [exF f d [⟨1, (A.take 64).drop 3⟩] 2] (.int .i64 0) := hC1
  have hP2 := put_spec f d hf h1 h2 h3 h4 ((A.take 64).drop 3) C (by omega) (by omega) 3 (by rw [lC, lY]; rfl)
  have hC2 := scheck_zero
  rw [show ((3 : Nat) : Int) = 3 from rfl] at hT hP2
  rw [show ((64 : Nat) : Int) = 64 from rfl] at hP1
  generalize A.take 64 = X at *
  generalize X.drop 3 = Y at *
  generalize C.take 3 = D at *
  clear eA eC h1 h2 h3 h4 hc hh
  refine spec_ok Try.func25 rfl rfl (by kernel_rfl) (k := 0) rfl (by decide) ?_
  repeat' (first|(with_reducible first|refine yrl (by constructor) ?_|refine jk (fun M hM=>?_)|(refine hM _ ?_;clear hM M)|refine xb3 (by decide) ?_|refine yqa (by assumption) ?_ ?_|refine yqb (by assumption) ?_ ?_)|((with_reducible refine je ?_)<;>(first|rfl|assumption|(simp only [znl,jO,jP,jQ,jR,jS,jT,jU];(first|done|fail))))|(with_reducible refine jf (by (simp only [↓reduceIte,zlk,Nat.reduceEqDiff,reduceCtorEq]);exact rfl) ?_)|((with_reducible first|refine jg (fun hc=>?_) (fun hc=>?_)|refine jh (fun hc=>?_) (fun hc=>?_))<;>(try simp (disch:=omega) only [zhb] at hc)<;>(try (exfalso;omega))<;>(try subst hc))|(with_reducible refine ji (by omega) ?_)|(simp (config := { maxSteps := 400000 }) only [↓jt,↓reduceIte,zvs,reduceCtorEq,Nat.reduceEqDiff,Nat.reduceAdd,Nat.reduceLeDiff,Nat.reduceMul,Int.reduceBNe,Int.reduceBEq,Int.reduceEq,Int.reduceNe,Int.reduceLT,Int.reduceLE,Int.reduceGT,Int.reduceGE,Int.reduceNeg,Int.reduceToNat,Nat.reduceLT,Nat.reduceSub,tab,Try.results25,List.toList_toArray])|(simp (disch:=omega) only [ziw]))
  refine ok_drawK 9 [0, 1, 2, 3, 4, 5, 6, 8] 7 0 (by kernel_rfl) (by decide +kernel) (by decide) (by decide) (by intro m hm; simp only [upd_ap,rows_cons,rows_nil]; (repeat (first | rfl | rw [if_neg (by omega)]))) (fun M hM => ?_); simp only [picks,List.getElem?_cons_succ,List.getElem?_cons_zero,List.drop_succ_cons,List.drop_zero]
  repeat' (first|(with_reducible first|refine yrl (by constructor) ?_|refine jk (fun M hM=>?_)|(refine hM _ ?_;clear hM M)|refine xb3 (by decide) ?_|refine yqa (by assumption) ?_ ?_|refine yqb (by assumption) ?_ ?_)|((with_reducible refine je ?_)<;>(first|rfl|assumption|(simp only [znl,jO,jP,jQ,jR,jS,jT,jU];(first|done|fail))))|(with_reducible refine jf (by (simp only [↓reduceIte,zlk,Nat.reduceEqDiff,reduceCtorEq]);exact rfl) ?_)|((with_reducible first|refine jg (fun hc=>?_) (fun hc=>?_)|refine jh (fun hc=>?_) (fun hc=>?_))<;>(try simp (disch:=omega) only [zhb] at hc)<;>(try (exfalso;omega))<;>(try subst hc))|(with_reducible refine ji (by omega) ?_)|(simp (config := { maxSteps := 400000 }) only [↓jt,↓reduceIte,zvs,reduceCtorEq,Nat.reduceEqDiff,Nat.reduceAdd,Nat.reduceLeDiff,Nat.reduceMul,Int.reduceBNe,Int.reduceBEq,Int.reduceEq,Int.reduceNe,Int.reduceLT,Int.reduceLE,Int.reduceGT,Int.reduceGE,Int.reduceNeg,Int.reduceToNat,Nat.reduceLT,Nat.reduceSub,tab,storeAt_go,isP_ptr,Try.results25,List.toList_toArray])|(simp (disch:=omega) only [ziw]))
  refine ok_drawF 10 [0, 1, 2, 3, 4, 5, 6, 9, 7] 8 8 1089 (by kernel_rfl) (by decide +kernel) (by decide) (by decide) (by intro m hm; simp only [upd_ap,rows_cons,rows_nil]; (repeat (first | rfl | rw [if_neg (by omega)]))) (fun M hM => ?_); simp only [picks,List.getElem?_cons_succ,List.getElem?_cons_zero,List.drop_succ_cons,List.drop_zero]
  repeat' (first|(with_reducible first|refine yrl (by constructor) ?_|refine jk (fun M hM=>?_)|(refine hM _ ?_;clear hM M)|refine xb3 (by decide) ?_|refine yqa (by assumption) ?_ ?_|refine yqb (by assumption) ?_ ?_)|((with_reducible refine je ?_)<;>(first|rfl|assumption|(simp only [znl,jO,jP,jQ,jR,jS,jT,jU];(first|done|fail))))|(with_reducible refine jf (by (simp only [↓reduceIte,zlk,Nat.reduceEqDiff,reduceCtorEq]);exact rfl) ?_)|((with_reducible first|refine jg (fun hc=>?_) (fun hc=>?_)|refine jh (fun hc=>?_) (fun hc=>?_))<;>(try simp (disch:=omega) only [zhb] at hc)<;>(try (exfalso;omega))<;>(try subst hc))|(with_reducible refine ji (by omega) ?_)|(simp (config := { maxSteps := 400000 }) only [↓jt,↓reduceIte,zvs,reduceCtorEq,Nat.reduceEqDiff,Nat.reduceAdd,Nat.reduceLeDiff,Nat.reduceMul,Int.reduceBNe,Int.reduceBEq,Int.reduceEq,Int.reduceNe,Int.reduceLT,Int.reduceLE,Int.reduceGT,Int.reduceGE,Int.reduceNeg,Int.reduceToNat,Nat.reduceLT,Nat.reduceSub,tab,storeAt_go,isP_ptr,Try.results25,List.toList_toArray])|(simp (disch:=omega) only [ziw]))
  all_goals first
    | (simp only [zrds]; done)
    | trace_state
end Go.Proofs.Ytlgldkjjbbbapaa.V
end
section
/-
  MACHINES, part 19: a machine is the same as itself.
-/
set_option linter.unusedVariables false
set_option linter.unusedSimpArgs false
namespace Go.Proofs.Ytlgldkjjbbbapaa.V
open Go
set_option maxRecDepth 100000
-- nlx: jO, jP, jQ, jR, jS, jT, jU
set_option maxHeartbeats 4000000
theorem fit_pi (a : Int) (s : List UInt8) : Fit (EQ.st [EQ.int .i64, EQ.str]) (.agg [.int .i64 a, .str s]) := by simp [Fit, FitL]
end Go.Proofs.Ytlgldkjjbbbapaa.V
end
section
/-
  THE LAW StateChecks.
-/
set_option linter.unusedVariables false
set_option linter.unusedSimpArgs false
namespace Go.Proofs.Ytlgldkjjbbbapaa.V
open Go
set_option maxRecDepth 100000
-- nlx: jO, jP, jQ, jR, jS, jT, jU, jV, nls_nats
set_option maxHeartbeats 4000000
def pipA (m : Mach) (id : Int) : Pip := (pipeO m.pipes id).getD ⟨0, []⟩
theorem pipeV_eq (m : Mach) (id : Int) : pipeV (pipeO m.pipes id) = .tup [.agg [.int .i64 (pipA m id).id, .str (pipA m id).d], .bool (pipeO m.pipes id).isSome] := by
  unfold pipA
  cases pipeO m.pipes id <;> rfl
theorem checks_law (x0 : MachD) (x1 : Int) (g0 : good machT x0) (g1 : good (.int .i64) x1) (l0 : Ty.lite machT x0) (l1 : Ty.lite (.int .i64) x1) : Spec Try.prog 14 [toV machT x0, toV (.int .i64) x1] (.bool true) := by
  have hm := mach_good x0 g0 l0
  have hid : i64R x1 := bounds_i64 g1
  rw [toV_mach]
  simp only [toV]
  generalize mMach x0 = m at hm
  clear g0 l0 x0 g1 l1
  have hA := salive_spec
  have hG := great_spec m hm
  cases hg : greatM m with
  | true =>
    rw [hg, if_pos rfl] at hG
    refine spec_ok Try.func14 rfl rfl (by kernel_rfl) (k := 2) rfl (by decide) ?_
    repeat' (first|(with_reducible first|refine yrl (by constructor) ?_|refine jk (fun M hM=>?_)|(refine hM _ ?_;clear hM M)|refine xb3 (by decide) ?_|refine yqa (by assumption) ?_ ?_|refine yqb (by assumption) ?_ ?_)|((with_reducible refine je ?_)<;>(first|rfl|assumption|(simp only [znl,jO,jP,jQ,jR,jS,jT,jU,jV,nls_nats];(first|done|fail))))|(with_reducible refine jf (by (simp only [↓reduceIte,zlk,Nat.reduceEqDiff,reduceCtorEq]);exact rfl) ?_)|((with_reducible first|refine jg (fun hc=>?_) (fun hc=>?_)|refine jh (fun hc=>?_) (fun hc=>?_))<;>(try simp (disch:=omega) only [zhb] at hc)<;>(try (exfalso;omega))<;>(try subst hc))|(with_reducible refine ji (by omega) ?_)|(simp (config := { maxSteps := 400000 }) only [↓jt,↓reduceIte,zvs,reduceCtorEq,Nat.reduceEqDiff,Nat.reduceAdd,Nat.reduceLeDiff,Nat.reduceMul,Int.reduceBNe,Int.reduceBEq,Int.reduceEq,Int.reduceNe,Int.reduceLT,Int.reduceLE,Int.reduceGT,Int.reduceGE,Int.reduceNeg,Int.reduceToNat,Nat.reduceLT,Nat.reduceSub,tab,Try.results14,List.toList_toArray])|(simp (disch:=omega) only [ziw]))
    all_goals first
      | (exfalso; omega)
      | (simp only [zrds]; done)
      | trace_state
  | false =>
    rw [hg, if_neg (by simp)] at hG
    have hfit := (hm.small hg).1
    have hC := rcheckM_spec m hfit
    have hD := scheck_ex m hfit
    by_cases h0 : chkM m = 0
    · rw [h0] at hC hD
      have hF := sfree_spec m hfit
      have hF2 := rfree_spec m hfit
      have hP := spipe_spec m hfit x1 hid
      have hP2 := rpipe_spec m hfit x1 hid
      rw [pipeV_eq] at hP hP2
      have hE := sends_spec m hfit x1 hid
      have hE2 := rends_spec m hfit x1 hid
      have hlen := freeK_le m.pr m.fr.length
      have hfr := hfit.fr
      have hbe : ∀ a : Int, (a != a) = false := fun a => bne_self_eq_false a
      have hbb : ∀ a : Bool, veq (.bool a) (.bool a) = true := fun a => by cases a <;> rfl
      have hv : ∀ (a : Int) (s : List UInt8), veq (.agg [.int .i64 a, .str s]) (.agg [.int .i64 a, .str s]) = true := fun a s => by simp [veq, veqs]
      unfold freeV at hF hF2
      generalize freeK m.pr m.fr.length = L at hF hF2 hlen
      generalize pipA m x1 = pp at hP hP2
      generalize (pipeO m.pipes x1).isSome = pb at hP hP2
      refine spec_ok Try.func14 rfl rfl (by kernel_rfl) (k := 2) rfl (by decide) ?_
      repeat' (first|(with_reducible first|refine yrl (by constructor) ?_|refine jk (fun M hM=>?_)|(refine hM _ ?_;clear hM M)|refine xb3 (by decide) ?_|refine yqa (by assumption) ?_ ?_|refine yqb (by assumption) ?_ ?_)|((with_reducible refine je ?_)<;>(first|rfl|assumption|(simp only [znl,jO,jP,jQ,jR,jS,jT,jU,jV,nls_nats];(first|done|fail))))|(with_reducible refine jf (by (simp only [↓reduceIte,zlk,Nat.reduceEqDiff,reduceCtorEq]);exact rfl) ?_)|((with_reducible first|refine jg (fun hc=>?_) (fun hc=>?_)|refine jh (fun hc=>?_) (fun hc=>?_))<;>(try simp (disch:=omega) only [zhb] at hc)<;>(try (exfalso;omega))<;>(try subst hc))|(with_reducible refine ji (by omega) ?_)|(simp (config := { maxSteps := 400000 }) only [↓jt,↓reduceIte,zvs,reduceCtorEq,Nat.reduceEqDiff,Nat.reduceAdd,Nat.reduceLeDiff,Nat.reduceMul,Int.reduceBNe,Int.reduceBEq,Int.reduceEq,Int.reduceNe,Int.reduceLT,Int.reduceLE,Int.reduceGT,Int.reduceGE,Int.reduceNeg,Int.reduceToNat,Nat.reduceLT,Nat.reduceSub,tab,hbe,Try.results14,List.toList_toArray])|(simp (disch:=omega) only [ziw]))
      refine ok_drawC 3 (by kernel_rfl) (by decide +kernel) (by intro m hm; simp only [upd_ap,rows_cons,rows_nil]; (repeat (first | rfl | rw [if_neg (by omega)]))) (fun M hM => ?_); simp only [List.take_succ_cons,List.take_zero,List.drop_succ_cons,List.drop_zero]
      repeat' (first|(with_reducible first|refine yrl (by constructor) ?_|refine jk (fun M hM=>?_)|(refine hM _ ?_;clear hM M)|refine xb3 (by decide) ?_|refine yqa (by assumption) ?_ ?_|refine yqb (by assumption) ?_ ?_)|((with_reducible refine je ?_)<;>(first|rfl|assumption|(simp only [znl,jO,jP,jQ,jR,jS,jT,jU,jV,nls_nats];(first|done|fail))))|(with_reducible refine jf (by (simp only [↓reduceIte,zlk,Nat.reduceEqDiff,reduceCtorEq]);exact rfl) ?_)|((with_reducible first|refine jg (fun hc=>?_) (fun hc=>?_)|refine jh (fun hc=>?_) (fun hc=>?_))<;>(try simp (disch:=omega) only [zhb] at hc)<;>(try (exfalso;omega))<;>(try subst hc))|(with_reducible refine ji (by omega) ?_)|(simp (config := { maxSteps := 400000 }) only [↓jt,↓reduceIte,zvs,reduceCtorEq,Nat.reduceEqDiff,Nat.reduceAdd,Nat.reduceLeDiff,Nat.reduceMul,Int.reduceBNe,Int.reduceBEq,Int.reduceEq,Int.reduceNe,Int.reduceLT,Int.reduceLE,Int.reduceGT,Int.reduceGE,Int.reduceNeg,Int.reduceToNat,Nat.reduceLT,Nat.reduceSub,tab,hbe,encNats,Try.results14,List.toList_toArray])|(simp (disch:=omega) only [ziw]))
      refine ok_loop (fun k : Nat => ⟨slots [(1, .int .i64 x1), (2, .ptr 0 []), (4, .bool false), (6, .dat .cell (encNats L)), (7, .dat .cell (encNats L)), (40, .int .i64 L.length), (41, .int .i64 k)], rows [(0, .row machSh (encM m))], 1⟩) (fun k => k ≤ L.length) (fun k => L.length - k) 0 ?_ (Nat.zero_le _) (fun k hk => ?_)
      · (refine yrn [(0, 0)] false ?_ ?_<;>(repeat' (first|(with_reducible first|exact ya1|exact ya2|exact ya3|refine jx rfl (by first|rfl|assumption|(simp only [znl,jO,jP,jQ,jR,jS,jT,jU,jV,nls_nats];(first|done|fail)))|exact ya5|exact ya7|exact jy|exact jz|refine jA ?_|refine ya9 ?_ ?_ ?_|refine jC rfl (by first|rfl|assumption|(simp only [znl,jO,jP,jQ,jR,jS,jT,jU,jV,nls_nats];(first|done|fail)))|refine MR.agg (MRL.cons ?_ ?_)|refine MR.fn ?_|refine MRL.cons ?_ ?_|exact MRL.nil|refine jE ?_ ?_|exact jF|exact jG|refine yb1 ?_ ?_|refine MB.row ?_|refine jI ?_ ?_|exact ya8|refine jJ rfl (by first|rfl|assumption|(simp only [znl,jO,jP,jQ,jR,jS,jT,jU,jV,nls_nats];(first|done|fail)))|refine yb2 ?_|rfl)|(simp only [znl,jO,jP,jQ,jR,jS,jT,jU,jV,nls_nats];(first|done|fail))|(simp only [↓reduceIte,zlk,Nat.reduceEqDiff,reduceCtorEq])|(with_reducible first|refine jJ ?_ ?_|refine ya5 ?_|refine ju ?_|refine jv ?_|refine jw ?_|refine jx ?_ (by first|rfl|assumption|(simp only [znl,jO,jP,jQ,jR,jS,jT,jU,jV,nls_nats];(first|done|fail)))|refine jC ?_ (by first|rfl|assumption|(simp only [znl,jO,jP,jQ,jR,jS,jT,jU,jV,nls_nats];(first|done|fail)))))))
        all_goals (first | rfl | trace_state)
      by_cases hlt : k < L.length
      · repeat' (first|(with_reducible first|refine yrl (by constructor) ?_|refine jk (fun M hM=>?_)|(refine hM _ ?_;clear hM M)|refine xb3 (by decide) ?_|refine yqa (by assumption) ?_ ?_|refine yqb (by assumption) ?_ ?_)|((with_reducible refine je ?_)<;>(first|rfl|assumption|(simp only [znl,jO,jP,jQ,jR,jS,jT,jU,jV,nls_nats];(first|done|fail))))|(with_reducible refine jf (by (simp only [↓reduceIte,zlk,Nat.reduceEqDiff,reduceCtorEq]);exact rfl) ?_)|((with_reducible first|refine jg (fun hc=>?_) (fun hc=>?_)|refine jh (fun hc=>?_) (fun hc=>?_))<;>(try simp (disch:=omega) only [zhb] at hc)<;>(try (exfalso;omega))<;>(try subst hc))|(with_reducible refine ji (by omega) ?_)|(simp (config := { maxSteps := 400000 }) only [↓jt,↓reduceIte,zvs,reduceCtorEq,Nat.reduceEqDiff,Nat.reduceAdd,Nat.reduceLeDiff,Nat.reduceMul,Int.reduceBNe,Int.reduceBEq,Int.reduceEq,Int.reduceNe,Int.reduceLT,Int.reduceLE,Int.reduceGT,Int.reduceGE,Int.reduceNeg,Int.reduceToNat,Nat.reduceLT,Nat.reduceSub,tab,hbe,encNats,Try.results14,List.toList_toArray])|(simp (disch:=omega) only [ziw]))
        refine ok_drawC 8 (by kernel_rfl) (by decide +kernel) (by intro m hm; simp only [upd_ap,rows_cons,rows_nil]; (repeat (first | rfl | rw [if_neg (by omega)]))) (fun M hM => ?_); simp only [List.take_succ_cons,List.take_zero,List.drop_succ_cons,List.drop_zero]
        repeat' (first|(with_reducible first|refine yrl (by constructor) ?_|refine jk (fun M hM=>?_)|(refine hM _ ?_;clear hM M)|refine xb3 (by decide) ?_|refine yqa (by assumption) ?_ ?_|refine yqb (by assumption) ?_ ?_)|((with_reducible refine je ?_)<;>(first|rfl|assumption|(simp only [znl,jO,jP,jQ,jR,jS,jT,jU,jV,nls_nats];(first|done|fail))))|(with_reducible refine jf (by (simp only [↓reduceIte,zlk,Nat.reduceEqDiff,reduceCtorEq]);exact rfl) ?_)|((with_reducible first|refine jg (fun hc=>?_) (fun hc=>?_)|refine jh (fun hc=>?_) (fun hc=>?_))<;>(try simp (disch:=omega) only [zhb] at hc)<;>(try (exfalso;omega))<;>(try subst hc))|(with_reducible refine ji (by omega) ?_)|(simp (config := { maxSteps := 400000 }) only [↓jt,↓reduceIte,zvs,reduceCtorEq,Nat.reduceEqDiff,Nat.reduceAdd,Nat.reduceLeDiff,Nat.reduceMul,Int.reduceBNe,Int.reduceBEq,Int.reduceEq,Int.reduceNe,Int.reduceLT,Int.reduceLE,Int.reduceGT,Int.reduceGE,Int.reduceNeg,Int.reduceToNat,Nat.reduceLT,Nat.reduceSub,tab,hbe,encNats,Try.results14,List.toList_toArray])|(simp (disch:=omega) only [ziw]))
        all_goals first
          | (exfalso; omega)
          | (refine xl1 (k + 1) ?_ (by show k + 1 ≤ L.length; omega) (by show L.length - (k + 1) < L.length - k; omega); (refine yrn [(0, 0)] false ?_ ?_<;>(repeat' (first|(with_reducible first|exact ya1|exact ya2|exact ya3|refine jx rfl (by first|rfl|assumption|(simp only [znl,jO,jP,jQ,jR,jS,jT,jU,jV,nls_nats];(first|done|fail)))|exact ya5|exact ya7|exact jy|exact jz|refine jA ?_|refine ya9 ?_ ?_ ?_|refine jC rfl (by first|rfl|assumption|(simp only [znl,jO,jP,jQ,jR,jS,jT,jU,jV,nls_nats];(first|done|fail)))|refine MR.agg (MRL.cons ?_ ?_)|refine MR.fn ?_|refine MRL.cons ?_ ?_|exact MRL.nil|refine jE ?_ ?_|exact jF|exact jG|refine yb1 ?_ ?_|refine MB.row ?_|refine jI ?_ ?_|exact ya8|refine jJ rfl (by first|rfl|assumption|(simp only [znl,jO,jP,jQ,jR,jS,jT,jU,jV,nls_nats];(first|done|fail)))|refine yb2 ?_|rfl)|(simp only [znl,jO,jP,jQ,jR,jS,jT,jU,jV,nls_nats];(first|done|fail))|(simp only [↓reduceIte,zlk,Nat.reduceEqDiff,reduceCtorEq])|(with_reducible first|refine jJ ?_ ?_|refine ya5 ?_|refine ju ?_|refine jv ?_|refine jw ?_|refine jx ?_ (by first|rfl|assumption|(simp only [znl,jO,jP,jQ,jR,jS,jT,jU,jV,nls_nats];(first|done|fail)))|refine jC ?_ (by first|rfl|assumption|(simp only [znl,jO,jP,jQ,jR,jS,jT,jU,jV,nls_nats];(first|done|fail))))))); done)
          | trace_state
      obtain rfl : k = L.length := by omega
      repeat' (first|(with_reducible first|refine yrl (by constructor) ?_|refine jk (fun M hM=>?_)|(refine hM _ ?_;clear hM M)|refine xb3 (by decide) ?_|refine yqa (by assumption) ?_ ?_|refine yqb (by assumption) ?_ ?_)|((with_reducible refine je ?_)<;>(first|rfl|assumption|(simp only [znl,jO,jP,jQ,jR,jS,jT,jU,jV,nls_nats];(first|done|fail))))|(with_reducible refine jf (by (simp only [↓reduceIte,zlk,Nat.reduceEqDiff,reduceCtorEq]);exact rfl) ?_)|((with_reducible first|refine jg (fun hc=>?_) (fun hc=>?_)|refine jh (fun hc=>?_) (fun hc=>?_))<;>(try simp (disch:=omega) only [zhb] at hc)<;>(try (exfalso;omega))<;>(try subst hc))|(with_reducible refine ji (by omega) ?_)|(simp (config := { maxSteps := 400000 }) only [↓jt,↓reduceIte,zvs,reduceCtorEq,Nat.reduceEqDiff,Nat.reduceAdd,Nat.reduceLeDiff,Nat.reduceMul,Int.reduceBNe,Int.reduceBEq,Int.reduceEq,Int.reduceNe,Int.reduceLT,Int.reduceLE,Int.reduceGT,Int.reduceGE,Int.reduceNeg,Int.reduceToNat,Nat.reduceLT,Nat.reduceSub,tab,hbe,hbb,hv,fit_pi,encNats,Try.results14,List.toList_toArray])|(simp (disch:=omega) only [ziw]))
      all_goals first
        | (exfalso; omega)
        | (simp only [zrds]; done)
        | (simp only [zrds]; simp; done)
        | trace_state
    · generalize chkM m = c at hC hD h0
      have hbe : (c != c) = false := bne_self_eq_false c
      refine spec_ok Try.func14 rfl rfl (by kernel_rfl) (k := 2) rfl (by decide) ?_
      repeat' (first|(with_reducible first|refine yrl (by constructor) ?_|refine jk (fun M hM=>?_)|(refine hM _ ?_;clear hM M)|refine xb3 (by decide) ?_|refine yqa (by assumption) ?_ ?_|refine yqb (by assumption) ?_ ?_)|((with_reducible refine je ?_)<;>(first|rfl|assumption|(simp only [znl,jO,jP,jQ,jR,jS,jT,jU,jV,nls_nats];(first|done|fail))))|(with_reducible refine jf (by (simp only [↓reduceIte,zlk,Nat.reduceEqDiff,reduceCtorEq]);exact rfl) ?_)|((with_reducible first|refine jg (fun hc=>?_) (fun hc=>?_)|refine jh (fun hc=>?_) (fun hc=>?_))<;>(try simp (disch:=omega) only [zhb] at hc)<;>(try (exfalso;omega))<;>(try subst hc))|(with_reducible refine ji (by omega) ?_)|(simp (config := { maxSteps := 400000 }) only [↓jt,↓reduceIte,zvs,reduceCtorEq,Nat.reduceEqDiff,Nat.reduceAdd,Nat.reduceLeDiff,Nat.reduceMul,Int.reduceBNe,Int.reduceBEq,Int.reduceEq,Int.reduceNe,Int.reduceLT,Int.reduceLE,Int.reduceGT,Int.reduceGE,Int.reduceNeg,Int.reduceToNat,Nat.reduceLT,Nat.reduceSub,tab,hbe,Try.results14,List.toList_toArray])|(simp (disch:=omega) only [ziw]))
      all_goals first
        | (exfalso; omega)
        | (simp only [zrds]; done)
        | trace_state
end Go.Proofs.Ytlgldkjjbbbapaa.V
end
