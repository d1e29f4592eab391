/-
  SHARES, part 6: a secret is split, and joined.
-/
import Derived.Test.YtndbfphmjmhkjaaS5
set_option linter.unusedVariables false
set_option linter.unusedSimpArgs false
namespace Go.Proofs.Ytndbfphmjmhkjaa.V
open Go Go.Proofs.Ytndbfphmjmhkjaa
set_option maxRecDepth 100000
-- nlx: nls_u, nls_shr, nl_shr
set_option maxHeartbeats 1000000
def sec3 : List UInt8 := 1 :: 2 :: 3 :: List.replicate 29 0
theorem splits_spec : Spec Try.prog 21 [] (.bool true) := by
  have hS := split_spec sec3 (List.replicate 64 0) rfl 5 (by omega) (by decide)
  rw [if_neg (by decide)] at hS
  have e : splitS sec3 (List.replicate 64 0) (5 : Int).toNat = [shareAt sec3 (List.replicate 64 0) 1, shareAt sec3 (List.replicate 64 0) 2, shareAt sec3 (List.replicate 64 0) 3, shareAt sec3 (List.replicate 64 0) 4, shareAt sec3 (List.replicate 64 0) 5] := rfl
  rw [e] at hS
  have hj := join_any sec3 (List.replicate 64 0) rfl (x := 5) (y := 1) (z := 3) (by decide) (by decide) (by decide) (by decide) (by decide) (by decide)
  have hJ := join_spec [shareAt sec3 (List.replicate 64 0) 5, shareAt sec3 (List.replicate 64 0) 1, shareAt sec3 (List.replicate 64 0) 3] (by simp) (fun s hs' => by
    rcases List.mem_cons.1 hs' with rfl | hs'
    · exact shareAt_len _ _ _
    · rcases List.mem_cons.1 hs' with rfl | hs'
      · exact shareAt_len _ _ _
      · rw [List.mem_singleton] at hs'; subst hs'; exact shareAt_len _ _ _)
  have hA := hasShr (shareAt sec3 (List.replicate 64 0) 5) (shareAt_len _ _ _)
  have hB := hasShr (shareAt sec3 (List.replicate 64 0) 1) (shareAt_len _ _ _)
  have hC := hasShr (shareAt sec3 (List.replicate 64 0) 3) (shareAt_len _ _ _)
  generalize shareAt sec3 (List.replicate 64 0) 1 = s1 at *
  generalize shareAt sec3 (List.replicate 64 0) 2 = s2 at *
  generalize shareAt sec3 (List.replicate 64 0) 3 = s3 at *
  generalize shareAt sec3 (List.replicate 64 0) 4 = s4 at *
  generalize shareAt sec3 (List.replicate 64 0) 5 = s5 at *
  have hpl := pl_join (joinS [s5, s1, s3])
  rw [hj] at hJ hpl
  simp only [joinV] at hJ hpl
  have hK := hasKey sec3 rfl
  have hfk := fit_key sec3 rfl
  have vq := veq_key sec3 sec3
  have ek : ((((List.replicate 32 (VV.int .u8 0)).set 0 (.int .u8 1)).set 1 (.int .u8 2)).set 2 (.int .u8 3)) = sec3.map encU := rfl
  have hb : bytesOf (List.take 64 (List.replicate 64 (VV.int .u8 0))) = some (List.replicate 64 0) := by rfl
  have hb2 : bytesOf (List.replicate 64 (VV.int .u8 0)) = some (List.replicate 64 0) := by rfl
  generalize sec3 = sec at *
  clear e hj
  refine spec_ok Try.func21 rfl rfl (by kernel_rfl) (k := 0) rfl (by decide) ?_
  repeat' (first | (with_reducible first | refine ok_seq ?_ | refine xs1 ?_ | refine xs2 ?_ | refine xs3 ?_ | refine xb1 ?_ | refine xb2 ?_ | refine xb3 (by decide) ?_ | refine xb4 ?_ | refine xl2 ?_ | refine xl3 ?_ | refine xc2 ?_ | refine xc3 ?_ | refine ok_block ?_ | refine ok_scope ?_ | refine ok_skip ?_ | refine ok_label ?_ | refine ok_exit ?_ | refine ok_ret ?_ | refine ok_region (fun M hM => ?_) | refine vif_t ?_ | refine vif_f ?_ | refine fin_normal ?_ | refine fin_ret ?_ | (refine hM _ ?_; clear hM M) | refine vcallW_intro (call_data (by assumption) ?_ rfl ?_) | refine vcallHW_intro (hcall_data (by assumption) rfl ?_) ?_) | ((with_reducible refine nls_q ?_) <;> (first | rfl | assumption | (simp only [znl,nls_u,nls_shr,nl_shr]; (first | done | fail)))) | (with_reducible refine ok_cond (by (simp only [↓reduceIte,zlk,Nat.reduceEqDiff,reduceCtorEq]); exact rfl) ?_) | ((with_reducible first | refine vif_intro (fun hc => ?_) (fun hc => ?_) | refine vifW_intro (fun hc => ?_) (fun hc => ?_)) <;> (try simp (disch := omega) only [zhb] at hc) <;> (try (exfalso; omega)) <;> (try subst hc)) | (with_reducible refine cndW_intro (by omega) ?_) | (simp (config := { maxSteps := 400000 }) only [↓zvs_pre,↓reduceIte,zvs,reduceCtorEq,Nat.reduceEqDiff,Nat.reduceAdd,Nat.reduceLeDiff,Nat.reduceMul,Int.reduceBNe,Int.reduceBEq,Int.reduceEq,Int.reduceNe,Int.reduceLT,Int.reduceLE,Int.reduceGT,Int.reduceGE,Int.reduceNeg,Int.reduceToNat,Nat.reduceLT,Nat.reduceSub,tab,ek,hb,hb2,Try.results21,List.toList_toArray]) | (simp (disch := omega) only [ziw]))
  refine ok_drawF 17 [0, 1, 2, 3, 4, 5, 6, 7, 8, 9, 10, 11, 12, 13, 16, 14] 15 15 961 (by kernel_rfl) (by decide +kernel) (by decide) (by decide) (by intro m hm; simp only [upd_ap,rows_cons,rows_nil]; (repeat (first | rfl | rw [if_neg (by omega)]))) (fun M hM => ?_); simp only [picks,List.getElem?_cons_succ,List.getElem?_cons_zero,List.drop_succ_cons,List.drop_zero]
  repeat' (first | (with_reducible first | refine ok_seq ?_ | refine xs1 ?_ | refine xs2 ?_ | refine xs3 ?_ | refine xb1 ?_ | refine xb2 ?_ | refine xb3 (by decide) ?_ | refine xb4 ?_ | refine xl2 ?_ | refine xl3 ?_ | refine xc2 ?_ | refine xc3 ?_ | refine ok_block ?_ | refine ok_scope ?_ | refine ok_skip ?_ | refine ok_label ?_ | refine ok_exit ?_ | refine ok_ret ?_ | refine ok_region (fun M hM => ?_) | refine vif_t ?_ | refine vif_f ?_ | refine fin_normal ?_ | refine fin_ret ?_ | (refine hM _ ?_; clear hM M) | refine vcallW_intro (call_data (by assumption) ?_ rfl ?_) | refine vcallHW_intro (hcall_data (by assumption) rfl ?_) ?_) | ((with_reducible refine nls_q ?_) <;> (first | rfl | assumption | (simp only [znl,nls_u,nls_shr,nl_shr]; (first | done | fail)))) | (with_reducible refine ok_cond (by (simp only [↓reduceIte,zlk,Nat.reduceEqDiff,reduceCtorEq]); exact rfl) ?_) | ((with_reducible first | refine vif_intro (fun hc => ?_) (fun hc => ?_) | refine vifW_intro (fun hc => ?_) (fun hc => ?_)) <;> (try simp (disch := omega) only [zhb] at hc) <;> (try (exfalso; omega)) <;> (try subst hc)) | (with_reducible refine cndW_intro (by omega) ?_) | (simp (config := { maxSteps := 400000 }) only [↓zvs_pre,↓reduceIte,zvs,reduceCtorEq,Nat.reduceEqDiff,Nat.reduceAdd,Nat.reduceLeDiff,Nat.reduceMul,Int.reduceBNe,Int.reduceBEq,Int.reduceEq,Int.reduceNe,Int.reduceLT,Int.reduceLE,Int.reduceGT,Int.reduceGE,Int.reduceNeg,Int.reduceToNat,Nat.reduceLT,Nat.reduceSub,tab,encShr,hA,hB,hC,Try.results21,List.toList_toArray]) | (simp (disch := omega) only [ziw]))
  refine vcallHW_intro (hcall_read hJ rfl (rd_three (by (simp only [↓reduceIte,zlk,Nat.reduceEqDiff,reduceCtorEq]); exact rfl)) hpl) ?_
  repeat' (first | (with_reducible first | refine ok_seq ?_ | refine xs1 ?_ | refine xs2 ?_ | refine xs3 ?_ | refine xb1 ?_ | refine xb2 ?_ | refine xb3 (by decide) ?_ | refine xb4 ?_ | refine xl2 ?_ | refine xl3 ?_ | refine xc2 ?_ | refine xc3 ?_ | refine ok_block ?_ | refine ok_scope ?_ | refine ok_skip ?_ | refine ok_label ?_ | refine ok_exit ?_ | refine ok_ret ?_ | refine ok_region (fun M hM => ?_) | refine vif_t ?_ | refine vif_f ?_ | refine fin_normal ?_ | refine fin_ret ?_ | (refine hM _ ?_; clear hM M) | refine vcallW_intro (call_data (by assumption) ?_ rfl ?_) | refine vcallHW_intro (hcall_data (by assumption) rfl ?_) ?_) | ((with_reducible refine nls_q ?_) <;> (first | rfl | assumption | (simp only [znl,nls_u,nls_shr,nl_shr]; (first | done | fail)))) | (with_reducible refine ok_cond (by (simp only [↓reduceIte,zlk,Nat.reduceEqDiff,reduceCtorEq]); exact rfl) ?_) | ((with_reducible first | refine vif_intro (fun hc => ?_) (fun hc => ?_) | refine vifW_intro (fun hc => ?_) (fun hc => ?_)) <;> (try simp (disch := omega) only [zhb] at hc) <;> (try (exfalso; omega)) <;> (try subst hc)) | (with_reducible refine cndW_intro (by omega) ?_) | (simp (config := { maxSteps := 400000 }) only [↓zvs_pre,↓reduceIte,zvs,reduceCtorEq,Nat.reduceEqDiff,Nat.reduceAdd,Nat.reduceLeDiff,Nat.reduceMul,Int.reduceBNe,Int.reduceBEq,Int.reduceEq,Int.reduceNe,Int.reduceLT,Int.reduceLE,Int.reduceGT,Int.reduceGE,Int.reduceNeg,Int.reduceToNat,Nat.reduceLT,Nat.reduceSub,tab,ek,hK,hfk,vq,storeAt_go,isP_ptr,Try.results21,List.toList_toArray]) | (simp (disch := omega) only [ziw]))
  all_goals simp only [zrds]
end Go.Proofs.Ytndbfphmjmhkjaa.V
