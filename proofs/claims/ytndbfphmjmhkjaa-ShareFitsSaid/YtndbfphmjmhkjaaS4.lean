/-
  SHARES, part 4: the chapter's examples; three shares as an argument.
-/
import Derived.Test.YtndbfphmjmhkjaaS3
import Derived.Test.YtndbfphmjmhkjaaVregY
import Derived.Test.YtndbfphmjmhkjaaVty
set_option linter.unusedVariables false
set_option linter.unusedSimpArgs false
namespace Go.Proofs.Ytndbfphmjmhkjaa.V
open Go Go.Proofs.Ytndbfphmjmhkjaa
set_option maxRecDepth 100000
-- nlx: nls_u, nls_shr, nl_shr
set_option maxHeartbeats 1000000
theorem none_spec : Spec Try.prog 33 [] (.str (List.replicate 64 0)) := by
  have hb : bytesOf (List.take 64 (List.replicate 64 (VV.int .u8 0))) = some (List.replicate 64 0) := by rfl
  have hb2 : bytesOf (List.replicate 64 (VV.int .u8 0)) = some (List.replicate 64 0) := by rfl
  refine spec_ok Try.func33 rfl rfl (by kernel_rfl) (k := 0) rfl (by decide) ?_
  repeat' (first | (with_reducible first | refine ok_seq ?_ | refine xs1 ?_ | refine xs2 ?_ | refine xs3 ?_ | refine xb1 ?_ | refine xb2 ?_ | refine xb3 (by decide) ?_ | refine xb4 ?_ | refine xl2 ?_ | refine xl3 ?_ | refine xc2 ?_ | refine xc3 ?_ | refine ok_block ?_ | refine ok_scope ?_ | refine ok_skip ?_ | refine ok_label ?_ | refine ok_exit ?_ | refine ok_ret ?_ | refine ok_region (fun M hM => ?_) | refine vif_t ?_ | refine vif_f ?_ | refine fin_normal ?_ | refine fin_ret ?_ | (refine hM _ ?_; clear hM M) | refine vcallW_intro (call_data (by assumption) ?_ rfl ?_) | refine vcallHW_intro (hcall_data (by assumption) rfl ?_) ?_) | ((with_reducible refine nls_q ?_) <;> (first | rfl | assumption | (simp only [znl,nls_u,nls_shr,nl_shr]; (first | done | fail)))) | (with_reducible refine ok_cond (by (simp only [↓reduceIte,zlk,Nat.reduceEqDiff,reduceCtorEq]); exact rfl) ?_) | ((with_reducible first | refine vif_intro (fun hc => ?_) (fun hc => ?_) | refine vifW_intro (fun hc => ?_) (fun hc => ?_)) <;> (try simp (disch := omega) only [zhb] at hc) <;> (try (exfalso; omega)) <;> (try subst hc)) | (with_reducible refine cndW_intro (by omega) ?_) | (simp (config := { maxSteps := 400000 }) only [↓zvs_pre,↓reduceIte,zvs,reduceCtorEq,Nat.reduceEqDiff,Nat.reduceAdd,Nat.reduceLeDiff,Nat.reduceMul,Int.reduceBNe,Int.reduceBEq,Int.reduceEq,Int.reduceNe,Int.reduceLT,Int.reduceLE,Int.reduceGT,Int.reduceGE,Int.reduceNeg,Int.reduceToNat,Nat.reduceLT,Nat.reduceSub,tab,hb,hb2,Try.results33,List.toList_toArray]) | (simp (disch := omega) only [ziw]))
  simp only [zrds]
def sec1 : List UInt8 := 1 :: List.replicate 31 0
def noise1 : List UInt8 := 1 :: List.replicate 63 0
theorem alive6_spec : Spec Try.prog 15 [] (.bool true) := by
  have hN := none_spec
  have hS := split_spec sec1 noise1 rfl 3 (by omega) (by decide)
  rw [if_neg (by decide)] at hS
  obtain ⟨s1, h1⟩ : ∃ s, s = shareAt sec1 noise1 1 := ⟨_, rfl⟩
  obtain ⟨s2, h2⟩ : ∃ s, s = shareAt sec1 noise1 2 := ⟨_, rfl⟩
  obtain ⟨s3, h3⟩ : ∃ s, s = shareAt sec1 noise1 3 := ⟨_, rfl⟩
  have e : splitS sec1 noise1 (3 : Int).toNat = [s1, s2, s3] := by rw [h1, h2, h3]; rfl
  rw [e] at hS
  have l1 : s1.d.length = 32 := by rw [h1]; exact tabU_len _ _
  have l2 : s2.d.length = 32 := by rw [h2]; exact tabU_len _ _
  have l3 : s3.d.length = 32 := by rw [h3]; exact tabU_len _ _
  have g1 := get_u s1.d 0 (by omega)
  have g2 := get_u s2.d 0 (by omega)
  have g3 := get_u s3.d 0 (by omega)
  rw [show Gf.nth s1.d 0 = 0 by rw [h1]; decide +kernel] at g1
  rw [show Gf.nth s2.d 0 = 3 by rw [h2]; decide +kernel] at g2
  rw [show Gf.nth s3.d 0 = 2 by rw [h3]; decide +kernel] at g3
  have x3 : B8 s3.x = 3 := by rw [h3]; rfl
  have b0 : B8 0 = 0 := rfl
  have b3 : B8 3 = 3 := rfl
  have b2 : B8 2 = 2 := rfl
  rw [b0] at g1
  rw [b3] at g2
  rw [b2] at g3
  have ek : (VV.agg ((List.replicate 32 (VV.int .u8 0)).set 0 (.int .u8 1))) = encKey sec1 := rfl
  have en : (1 : UInt8) :: List.take 63 (List.drop 1 (List.replicate 64 (0 : UInt8))) = noise1 := by decide
  clear h1 h2 h3 e
  refine spec_ok Try.func15 rfl rfl (by kernel_rfl) (k := 0) rfl (by decide) ?_
  repeat' (first | (with_reducible first | refine ok_seq ?_ | refine xs1 ?_ | refine xs2 ?_ | refine xs3 ?_ | refine xb1 ?_ | refine xb2 ?_ | refine xb3 (by decide) ?_ | refine xb4 ?_ | refine xl2 ?_ | refine xl3 ?_ | refine xc2 ?_ | refine xc3 ?_ | refine ok_block ?_ | refine ok_scope ?_ | refine ok_skip ?_ | refine ok_label ?_ | refine ok_exit ?_ | refine ok_ret ?_ | refine ok_region (fun M hM => ?_) | refine vif_t ?_ | refine vif_f ?_ | refine fin_normal ?_ | refine fin_ret ?_ | (refine hM _ ?_; clear hM M) | refine vcallW_intro (call_data (by assumption) ?_ rfl ?_) | refine vcallHW_intro (hcall_data (by assumption) rfl ?_) ?_) | ((with_reducible refine nls_q ?_) <;> (first | rfl | assumption | (simp only [znl,nls_u,nls_shr,nl_shr]; (first | done | fail)))) | (with_reducible refine ok_cond (by (simp only [↓reduceIte,zlk,Nat.reduceEqDiff,reduceCtorEq]); exact rfl) ?_) | ((with_reducible first | refine vif_intro (fun hc => ?_) (fun hc => ?_) | refine vifW_intro (fun hc => ?_) (fun hc => ?_)) <;> (try simp (disch := omega) only [zhb] at hc) <;> (try (exfalso; omega)) <;> (try subst hc)) | (with_reducible refine cndW_intro (by omega) ?_) | (simp (config := { maxSteps := 400000 }) only [↓zvs_pre,↓reduceIte,zvs,reduceCtorEq,Nat.reduceEqDiff,Nat.reduceAdd,Nat.reduceLeDiff,Nat.reduceMul,Int.reduceBNe,Int.reduceBEq,Int.reduceEq,Int.reduceNe,Int.reduceLT,Int.reduceLE,Int.reduceGT,Int.reduceGE,Int.reduceNeg,Int.reduceToNat,Nat.reduceLT,Nat.reduceSub,tab,ek,en,encShr,g1,g2,g3,x3,Try.results15,List.toList_toArray]) | (simp (disch := omega) only [ziw]))
  all_goals simp only [zrds]
theorem pls_u (l : List UInt8) : pls (l.map encU) = true := by
  induction l with
  | nil => rfl
  | cons x l ih => simp only [List.map_cons,pls,ih,encU,pl,Bool.and_self]
theorem pl_join (r : List UInt8 × Int) : pl (joinV r) = true := by simp only [joinV,pl,pls,pls_u,Bool.and_self]
/-- three shares of the call's own -/
theorem rd_three {H : Heap} {m : Nat} {a b c : Shr} (h : H m = some (.row (.arr 3 shrSh) (.agg [.agg [.int .u8 (B8 a.x), encKey a.d], .agg [.int .u8 (B8 b.x), encKey b.d], .agg [.int .u8 (B8 c.x), encKey c.d]]))) :
    RdL H [.sl (some (m, [], 0)) 3] [encShrs [a, b, c]] := rdl_cons (rd_own h rfl rfl (nls_shr [a, b, c])) rdl_nil
end Go.Proofs.Ytndbfphmjmhkjaa.V
