/-
  SHARES, part B: the document's Join; the law ShareJoins.
-/
import Derived.Test.YtndbfphmjmhkjaaSA
import Derived.Test.YtndbfphmjmhkjaaS9
set_option linter.unusedVariables false
set_option linter.unusedSimpArgs false
namespace Go.Proofs.Ytndbfphmjmhkjaa.V
open Go Go.Proofs.Ytndbfphmjmhkjaa
set_option maxRecDepth 100000
-- nlx: nls_u, nls_shr, nl_shr
set_option maxHeartbeats 1000000
theorem right_three {l : List Shr} (h : rightS l = true) : ∃ a b c, l = [a, b, c] ∧ a.x ≠ 0 ∧ b.x ≠ 0 ∧ c.x ≠ 0 ∧ a.x ≠ b.x ∧ a.x ≠ c.x ∧ b.x ≠ c.x := by
  unfold rightS at h
  split at h
  · rename_i a b c
    exact ⟨a, b, c, rfl, of_decide_eq_true h⟩
  · cases h
theorem joinS_right (l : List Shr) (h : rightS l = true) : joinS l = (keyAt (l.getD 0 default) (l.getD 1 default) (l.getD 2 default) 0, 0) := by
  obtain ⟨a, b, c, rfl, _⟩ := right_three h
  simp only [joinS]
  rw [if_pos h]
  rfl
theorem joinS_wrong (l : List Shr) (h : rightS l = false) : joinS l = (List.replicate 32 0, 1) := by
  unfold joinS
  split
  · rw [h, if_neg (by simp)]
  · rfl
theorem valAt_lag (a b c : Shr) (t : UInt8) (h : a.x ≠ b.x ∧ a.x ≠ c.x ∧ b.x ≠ c.x) : tabU 32 (valAt a b c t) = keyAt a b c t :=
  tabU_eq fun i _ => by rw [valAt, atVal, atOk3, if_pos (decide_eq_true h)]
theorem rjoin_spec (l : List Shr) (hl : l.length < 2 ^ 36) (hd : ∀ s ∈ l, s.d.length = 32) : Spec Try.prog 20 [encShrs l] (joinV (joinS l)) := by
  have hr := right_spec l hl hd
  have hK0 := hasKey (List.replicate 32 0) (by simp)
  rw [key0] at hK0
  by_cases h : rightS l = true
  · rw [joinS_right l h]
    rw [h] at hr
    obtain ⟨a, b, c, rfl, _, _, _, h3⟩ := right_three h
    have hk := kat_spec a b c (hd a (by simp)) (hd b (by simp)) (hd c (by simp)) 0
    rw [valAt_lag a b c 0 h3] at hk
    have hK := hasKey (keyAt a b c 0) (tabU_len _ _)
    have b0 : B8 0 = 0 := rfl
    rw [b0] at hk
    refine spec_ok Try.func20 rfl rfl (by kernel_rfl) (k := 1) rfl (by decide) ?_
    repeat' (first | (with_reducible first | refine ok_seq ?_ | refine xs1 ?_ | refine xs2 ?_ | refine xs3 ?_ | refine xb1 ?_ | refine xb2 ?_ | refine xb3 (by decide) ?_ | refine xb4 ?_ | refine xl2 ?_ | refine xl3 ?_ | refine xc2 ?_ | refine xc3 ?_ | refine ok_block ?_ | refine ok_scope ?_ | refine ok_skip ?_ | refine ok_label ?_ | refine ok_exit ?_ | refine ok_ret ?_ | refine ok_region (fun M hM => ?_) | refine vif_t ?_ | refine vif_f ?_ | refine fin_normal ?_ | refine fin_ret ?_ | (refine hM _ ?_; clear hM M) | refine vcallW_intro (call_data (by assumption) ?_ rfl ?_) | refine vcallHW_intro (hcall_data (by assumption) rfl ?_) ?_) | ((with_reducible refine nls_q ?_) <;> (first | rfl | assumption | (simp only [znl,nls_u,nls_shr,nl_shr]; (first | done | fail)))) | (with_reducible refine ok_cond (by (simp only [↓reduceIte,zlk,Nat.reduceEqDiff,reduceCtorEq]); exact rfl) ?_) | ((with_reducible first | refine vif_intro (fun hc => ?_) (fun hc => ?_) | refine vifW_intro (fun hc => ?_) (fun hc => ?_)) <;> (try simp (disch := omega) only [zhb] at hc) <;> (try (exfalso; omega)) <;> (try subst hc)) | (with_reducible refine cndW_intro (by omega) ?_) | (simp (config := { maxSteps := 400000 }) only [↓zvs_pre,↓reduceIte,zvs,reduceCtorEq,Nat.reduceEqDiff,Nat.reduceAdd,Nat.reduceLeDiff,Nat.reduceMul,Int.reduceBNe,Int.reduceBEq,Int.reduceEq,Int.reduceNe,Int.reduceLT,Int.reduceLE,Int.reduceGT,Int.reduceGE,Int.reduceNeg,Int.reduceToNat,Nat.reduceLT,Nat.reduceSub,tab,hK0,hK,Try.results20,List.toList_toArray]) | (simp (disch := omega) only [ziw]))
    simp only [joinV]
    ((try simp only [List.map_nil]); simp only [zrds]; (repeat' (first | exact rd_nil | exact Rd.refl _ _ (by first | rfl | assumption | (simp only [znl,nls_u,nls_shr,nl_shr]; (first | done | fail))) | (refine And.intro ?_ ?_) | (refine rd_own (by (simp only [↓reduceIte,zlk,Nat.reduceEqDiff,reduceCtorEq]); exact rfl) ?_ ?_ ?_) | rfl | assumption | (simp only [znl,nls_u,nls_shr,nl_shr]; (first | done | fail)) | (simp; done) | (simp; omega))))
    all_goals exact rdl_same (by first | rfl | assumption | (simp only [znl,nls_u,nls_shr,nl_shr]; (first | done | fail)))
  · have h : rightS l = false := by simpa using h
    rw [joinS_wrong l h]
    rw [h] at hr
    refine spec_ok Try.func20 rfl rfl (by kernel_rfl) (k := 1) rfl (by decide) ?_
    repeat' (first | (with_reducible first | refine ok_seq ?_ | refine xs1 ?_ | refine xs2 ?_ | refine xs3 ?_ | refine xb1 ?_ | refine xb2 ?_ | refine xb3 (by decide) ?_ | refine xb4 ?_ | refine xl2 ?_ | refine xl3 ?_ | refine xc2 ?_ | refine xc3 ?_ | refine ok_block ?_ | refine ok_scope ?_ | refine ok_skip ?_ | refine ok_label ?_ | refine ok_exit ?_ | refine ok_ret ?_ | refine ok_region (fun M hM => ?_) | refine vif_t ?_ | refine vif_f ?_ | refine fin_normal ?_ | refine fin_ret ?_ | (refine hM _ ?_; clear hM M) | refine vcallW_intro (call_data (by assumption) ?_ rfl ?_) | refine vcallHW_intro (hcall_data (by assumption) rfl ?_) ?_) | ((with_reducible refine nls_q ?_) <;> (first | rfl | assumption | (simp only [znl,nls_u,nls_shr,nl_shr]; (first | done | fail)))) | (with_reducible refine ok_cond (by (simp only [↓reduceIte,zlk,Nat.reduceEqDiff,reduceCtorEq]); exact rfl) ?_) | ((with_reducible first | refine vif_intro (fun hc => ?_) (fun hc => ?_) | refine vifW_intro (fun hc => ?_) (fun hc => ?_)) <;> (try simp (disch := omega) only [zhb] at hc) <;> (try (exfalso; omega)) <;> (try subst hc)) | (with_reducible refine cndW_intro (by omega) ?_) | (simp (config := { maxSteps := 400000 }) only [↓zvs_pre,↓reduceIte,zvs,reduceCtorEq,Nat.reduceEqDiff,Nat.reduceAdd,Nat.reduceLeDiff,Nat.reduceMul,Int.reduceBNe,Int.reduceBEq,Int.reduceEq,Int.reduceNe,Int.reduceLT,Int.reduceLE,Int.reduceGT,Int.reduceGE,Int.reduceNeg,Int.reduceToNat,Nat.reduceLT,Nat.reduceSub,tab,hK0,Try.results20,List.toList_toArray]) | (simp (disch := omega) only [ziw]))
    simp only [joinV,encKey,key0]
    ((try simp only [List.map_nil]); simp only [zrds]; (repeat' (first | exact rd_nil | exact Rd.refl _ _ (by first | rfl | assumption | (simp only [znl,nls_u,nls_shr,nl_shr]; (first | done | fail))) | (refine And.intro ?_ ?_) | (refine rd_own (by (simp only [↓reduceIte,zlk,Nat.reduceEqDiff,reduceCtorEq]); exact rfl) ?_ ?_ ?_) | rfl | assumption | (simp only [znl,nls_u,nls_shr,nl_shr]; (first | done | fail)) | (simp; done) | (simp; omega))))
    all_goals exact rdl_same (by first | rfl | assumption | (simp only [znl,nls_u,nls_shr,nl_shr]; (first | done | fail)))
theorem join_turned (a b c : Shr) (h : rightS [a, b, c] = true) : joinS [c, a, b] = joinS [a, b, c] ∧ joinS [b, a, c] = joinS [a, b, c] := by
  have hx := of_decide_eq_true (show decide (a.x ≠ 0 ∧ b.x ≠ 0 ∧ c.x ≠ 0 ∧ a.x ≠ b.x ∧ a.x ≠ c.x ∧ b.x ≠ c.x) = true from h)
  obtain ⟨h1, h2, h3, h4, h5, h6⟩ := hx
  have r1 : rightS [c, a, b] = true := decide_eq_true (show c.x ≠ 0 ∧ a.x ≠ 0 ∧ b.x ≠ 0 ∧ c.x ≠ a.x ∧ c.x ≠ b.x ∧ a.x ≠ b.x from ⟨h3, h1, h2, Ne.symm h5, Ne.symm h6, h4⟩)
  have r2 : rightS [b, a, c] = true := decide_eq_true (show b.x ≠ 0 ∧ a.x ≠ 0 ∧ c.x ≠ 0 ∧ b.x ≠ a.x ∧ b.x ≠ c.x ∧ a.x ≠ c.x from ⟨h2, h1, h3, Ne.symm h4, h6, h5⟩)
  rw [joinS_right _ h, joinS_right _ r1, joinS_right _ r2]
  constructor
  · refine congrArg (fun k => (k, (0 : Int))) ?_
    exact tabU_eq fun i _ => Gf.lag3_turn h4 h5 h6 _ _ _ _
  · refine congrArg (fun k => (k, (0 : Int))) ?_
    exact tabU_eq fun i _ => Gf.lag3_swap h4 h5 h6 _ _ _ _
theorem toV_shrs (x : List (UInt8 × List UInt8 × Unit)) : toV (.sl shrT) x = encShrs (x.map mkShr) := by
  have e : toV (.sl shrT) x = .dat shrSh (x.map (toV shrT)) := rfl
  rw [e, encShrs, List.map_map]
  refine congrArg (VV.dat shrSh) ?_
  exact List.map_congr_left fun s _ => toV_shr s
theorem joins_law (x0 : List (UInt8 × List UInt8 × Unit)) (g0 : good (.sl shrT) x0) (l0 : Ty.lite (.sl shrT) x0) :
    Spec Try.prog 4 [toV (.sl shrT) x0] (.bool true) := by
  rw [toV_shrs]
  have hd : ∀ s ∈ x0.map mkShr, s.d.length = 32 := fun s hs => by
    obtain ⟨y, hy, rfl⟩ := List.mem_map.1 hs
    exact (g0 y hy).2.1.1
  have hlen : (x0.map mkShr).length < 2 ^ 47 := by rw [List.length_map]; exact Nat.lt_of_le_of_lt (show x0.length ≤ reachBytes from l0.1) (by decide)
  generalize x0.map mkShr = l at *
  clear g0 l0
  have hAl := alive6_spec
  refine spec_ok Try.func4 rfl rfl (by kernel_rfl) (k := 1) rfl (by decide) ?_
  by_cases h10 : l.length ≤ 10
  · have hJ := join_spec l (by omega) hd
    have hR := rjoin_spec l (by omega) hd
    by_cases h : rightS l = true
    · have hjr := joinS_right l h
      obtain ⟨a, b, c, rfl, _, _, _, h3⟩ := right_three h
      obtain ⟨t1, t2⟩ := join_turned a b c h
      have hA := hasShr a (hd a (by simp))
      have hB := hasShr b (hd b (by simp))
      have hC := hasShr c (hd c (by simp))
      have J1 := join_spec [c, a, b] (by simp) (fun s hs => hd s (by simp at hs ⊢; rcases hs with rfl | rfl | rfl <;> simp))
      have J2 := join_spec [b, a, c] (by simp) (fun s hs => hd s (by simp at hs ⊢; rcases hs with rfl | rfl | rfl <;> simp))
      have p1 := pl_join (joinS [c, a, b])
      have p2 := pl_join (joinS [b, a, c])
      rw [t1, hjr] at J1 p1
      rw [t2, hjr] at J2 p2
      rw [hjr] at hJ hR
      simp only [joinV] at hJ hR J1 J2 p1 p2
      obtain ⟨k, hk⟩ : ∃ k, k = keyAt ([a, b, c].getD 0 default) ([a, b, c].getD 1 default) ([a, b, c].getD 2 default) 0 := ⟨_, rfl⟩
      have hkl : k.length = 32 := by rw [hk]; exact tabU_len _ _
      rw [← hk] at hJ hR J1 J2 p1 p2
      clear hk hjr t1 t2
      have hK := hasKey k hkl
      have fk := fit_key k hkl
      have vk := veq_key k k
      rw [decide_eq_true rfl] at vk
      repeat' (first | (with_reducible first | refine ok_seq ?_ | refine xs1 ?_ | refine xs2 ?_ | refine xs3 ?_ | refine xb1 ?_ | refine xb2 ?_ | refine xb3 (by decide) ?_ | refine xb4 ?_ | refine xl2 ?_ | refine xl3 ?_ | refine xc2 ?_ | refine xc3 ?_ | refine ok_block ?_ | refine ok_scope ?_ | refine ok_skip ?_ | refine ok_label ?_ | refine ok_exit ?_ | refine ok_ret ?_ | refine ok_region (fun M hM => ?_) | refine vif_t ?_ | refine vif_f ?_ | refine fin_normal ?_ | refine fin_ret ?_ | (refine hM _ ?_; clear hM M) | refine vcallW_intro (call_data (by assumption) ?_ rfl ?_) | refine vcallHW_intro (hcall_data (by assumption) rfl ?_) ?_) | ((with_reducible refine nls_q ?_) <;> (first | rfl | assumption | (simp only [znl,nls_u,nls_shr,nl_shr]; (first | done | fail)))) | (with_reducible refine ok_cond (by (simp only [↓reduceIte,zlk,Nat.reduceEqDiff,reduceCtorEq]); exact rfl) ?_) | ((with_reducible first | refine vif_intro (fun hc => ?_) (fun hc => ?_) | refine vifW_intro (fun hc => ?_) (fun hc => ?_)) <;> (try simp (disch := omega) only [zhb] at hc) <;> (try (exfalso; omega)) <;> (try subst hc)) | (with_reducible refine cndW_intro (by omega) ?_) | (simp (config := { maxSteps := 400000 }) only [↓zvs_pre,↓reduceIte,zvs,reduceCtorEq,Nat.reduceEqDiff,Nat.reduceAdd,Nat.reduceLeDiff,Nat.reduceMul,Int.reduceBNe,Int.reduceBEq,Int.reduceEq,Int.reduceNe,Int.reduceLT,Int.reduceLE,Int.reduceGT,Int.reduceGE,Int.reduceNeg,Int.reduceToNat,Nat.reduceLT,Nat.reduceSub,tab,hK,fk,vk,Try.results4,List.toList_toArray]) | (simp (disch := omega) only [ziw]))
      all_goals first
        | (exfalso; omega)
        | skip
      refine ok_drawF 16 [0, 1, 2, 3, 4, 5, 6, 7, 8, 9, 10, 11, 12, 13, 14] 15 14 898 (by kernel_rfl) (by decide +kernel) (by decide) (by decide) (by intro m hm; simp only [upd_ap,rows_cons,rows_nil]; (repeat (first | rfl | rw [if_neg (by omega)]))) (fun M hM => ?_); simp only [picks,List.getElem?_cons_succ,List.getElem?_cons_zero,List.drop_succ_cons,List.drop_zero]
      repeat' (first | (with_reducible first | refine ok_seq ?_ | refine xs1 ?_ | refine xs2 ?_ | refine xs3 ?_ | refine xb1 ?_ | refine xb2 ?_ | refine xb3 (by decide) ?_ | refine xb4 ?_ | refine xl2 ?_ | refine xl3 ?_ | refine xc2 ?_ | refine xc3 ?_ | refine ok_block ?_ | refine ok_scope ?_ | refine ok_skip ?_ | refine ok_label ?_ | refine ok_exit ?_ | refine ok_ret ?_ | refine ok_region (fun M hM => ?_) | refine vif_t ?_ | refine vif_f ?_ | refine fin_normal ?_ | refine fin_ret ?_ | (refine hM _ ?_; clear hM M) | refine vcallW_intro (call_data (by assumption) ?_ rfl ?_) | refine vcallHW_intro (hcall_data (by assumption) rfl ?_) ?_) | ((with_reducible refine nls_q ?_) <;> (first | rfl | assumption | (simp only [znl,nls_u,nls_shr,nl_shr]; (first | done | fail)))) | (with_reducible refine ok_cond (by (simp only [↓reduceIte,zlk,Nat.reduceEqDiff,reduceCtorEq]); exact rfl) ?_) | ((with_reducible first | refine vif_intro (fun hc => ?_) (fun hc => ?_) | refine vifW_intro (fun hc => ?_) (fun hc => ?_)) <;> (try simp (disch := omega) only [zhb] at hc) <;> (try (exfalso; omega)) <;> (try subst hc)) | (with_reducible refine cndW_intro (by omega) ?_) | (simp (config := { maxSteps := 400000 }) only [↓zvs_pre,↓reduceIte,zvs,reduceCtorEq,Nat.reduceEqDiff,Nat.reduceAdd,Nat.reduceLeDiff,Nat.reduceMul,Int.reduceBNe,Int.reduceBEq,Int.reduceEq,Int.reduceNe,Int.reduceLT,Int.reduceLE,Int.reduceGT,Int.reduceGE,Int.reduceNeg,Int.reduceToNat,Nat.reduceLT,Nat.reduceSub,tab,encShr,hA,hB,hC,setParts,Try.results4,List.toList_toArray]) | (simp (disch := omega) only [ziw]))
      refine vcallHW_intro (hcall_read J1 rfl (rd_three (by (simp only [↓reduceIte,zlk,Nat.reduceEqDiff,reduceCtorEq]); exact rfl)) p1) ?_
      repeat' (first | (with_reducible first | refine ok_seq ?_ | refine xs1 ?_ | refine xs2 ?_ | refine xs3 ?_ | refine xb1 ?_ | refine xb2 ?_ | refine xb3 (by decide) ?_ | refine xb4 ?_ | refine xl2 ?_ | refine xl3 ?_ | refine xc2 ?_ | refine xc3 ?_ | refine ok_block ?_ | refine ok_scope ?_ | refine ok_skip ?_ | refine ok_label ?_ | refine ok_exit ?_ | refine ok_ret ?_ | refine ok_region (fun M hM => ?_) | refine vif_t ?_ | refine vif_f ?_ | refine fin_normal ?_ | refine fin_ret ?_ | (refine hM _ ?_; clear hM M) | refine vcallW_intro (call_data (by assumption) ?_ rfl ?_) | refine vcallHW_intro (hcall_data (by assumption) rfl ?_) ?_) | ((with_reducible refine nls_q ?_) <;> (first | rfl | assumption | (simp only [znl,nls_u,nls_shr,nl_shr]; (first | done | fail)))) | (with_reducible refine ok_cond (by (simp only [↓reduceIte,zlk,Nat.reduceEqDiff,reduceCtorEq]); exact rfl) ?_) | ((with_reducible first | refine vif_intro (fun hc => ?_) (fun hc => ?_) | refine vifW_intro (fun hc => ?_) (fun hc => ?_)) <;> (try simp (disch := omega) only [zhb] at hc) <;> (try (exfalso; omega)) <;> (try subst hc)) | (with_reducible refine cndW_intro (by omega) ?_) | (simp (config := { maxSteps := 400000 }) only [↓zvs_pre,↓reduceIte,zvs,reduceCtorEq,Nat.reduceEqDiff,Nat.reduceAdd,Nat.reduceLeDiff,Nat.reduceMul,Int.reduceBNe,Int.reduceBEq,Int.reduceEq,Int.reduceNe,Int.reduceLT,Int.reduceLE,Int.reduceGT,Int.reduceGE,Int.reduceNeg,Int.reduceToNat,Nat.reduceLT,Nat.reduceSub,tab,hK,storeAt_go,isP_ptr,Try.results4,List.toList_toArray]) | (simp (disch := omega) only [ziw]))
      refine ok_drawF 16 [0, 1, 2, 3, 4, 5, 6, 7, 8, 9, 10, 11, 12, 13, 14] 15 14 1922 (by kernel_rfl) (by decide +kernel) (by decide) (by decide) (by intro m hm; simp only [upd_ap,rows_cons,rows_nil]; (repeat (first | rfl | rw [if_neg (by omega)]))) (fun M hM => ?_); simp only [picks,List.getElem?_cons_succ,List.getElem?_cons_zero,List.drop_succ_cons,List.drop_zero]
      repeat' (first | (with_reducible first | refine ok_seq ?_ | refine xs1 ?_ | refine xs2 ?_ | refine xs3 ?_ | refine xb1 ?_ | refine xb2 ?_ | refine xb3 (by decide) ?_ | refine xb4 ?_ | refine xl2 ?_ | refine xl3 ?_ | refine xc2 ?_ | refine xc3 ?_ | refine ok_block ?_ | refine ok_scope ?_ | refine ok_skip ?_ | refine ok_label ?_ | refine ok_exit ?_ | refine ok_ret ?_ | refine ok_region (fun M hM => ?_) | refine vif_t ?_ | refine vif_f ?_ | refine fin_normal ?_ | refine fin_ret ?_ | (refine hM _ ?_; clear hM M) | refine vcallW_intro (call_data (by assumption) ?_ rfl ?_) | refine vcallHW_intro (hcall_data (by assumption) rfl ?_) ?_) | ((with_reducible refine nls_q ?_) <;> (first | rfl | assumption | (simp only [znl,nls_u,nls_shr,nl_shr]; (first | done | fail)))) | (with_reducible refine ok_cond (by (simp only [↓reduceIte,zlk,Nat.reduceEqDiff,reduceCtorEq]); exact rfl) ?_) | ((with_reducible first | refine vif_intro (fun hc => ?_) (fun hc => ?_) | refine vifW_intro (fun hc => ?_) (fun hc => ?_)) <;> (try simp (disch := omega) only [zhb] at hc) <;> (try (exfalso; omega)) <;> (try subst hc)) | (with_reducible refine cndW_intro (by omega) ?_) | (simp (config := { maxSteps := 400000 }) only [↓zvs_pre,↓reduceIte,zvs,reduceCtorEq,Nat.reduceEqDiff,Nat.reduceAdd,Nat.reduceLeDiff,Nat.reduceMul,Int.reduceBNe,Int.reduceBEq,Int.reduceEq,Int.reduceNe,Int.reduceLT,Int.reduceLE,Int.reduceGT,Int.reduceGE,Int.reduceNeg,Int.reduceToNat,Nat.reduceLT,Nat.reduceSub,tab,encShr,hA,hB,hC,setParts,Try.results4,List.toList_toArray]) | (simp (disch := omega) only [ziw]))
      refine vcallHW_intro (hcall_read J2 rfl (rd_three (by (simp only [↓reduceIte,zlk,Nat.reduceEqDiff,reduceCtorEq]); exact rfl)) p2) ?_
      repeat' (first | (with_reducible first | refine ok_seq ?_ | refine xs1 ?_ | refine xs2 ?_ | refine xs3 ?_ | refine xb1 ?_ | refine xb2 ?_ | refine xb3 (by decide) ?_ | refine xb4 ?_ | refine xl2 ?_ | refine xl3 ?_ | refine xc2 ?_ | refine xc3 ?_ | refine ok_block ?_ | refine ok_scope ?_ | refine ok_skip ?_ | refine ok_label ?_ | refine ok_exit ?_ | refine ok_ret ?_ | refine ok_region (fun M hM => ?_) | refine vif_t ?_ | refine vif_f ?_ | refine fin_normal ?_ | refine fin_ret ?_ | (refine hM _ ?_; clear hM M) | refine vcallW_intro (call_data (by assumption) ?_ rfl ?_) | refine vcallHW_intro (hcall_data (by assumption) rfl ?_) ?_) | ((with_reducible refine nls_q ?_) <;> (first | rfl | assumption | (simp only [znl,nls_u,nls_shr,nl_shr]; (first | done | fail)))) | (with_reducible refine ok_cond (by (simp only [↓reduceIte,zlk,Nat.reduceEqDiff,reduceCtorEq]); exact rfl) ?_) | ((with_reducible first | refine vif_intro (fun hc => ?_) (fun hc => ?_) | refine vifW_intro (fun hc => ?_) (fun hc => ?_)) <;> (try simp (disch := omega) only [zhb] at hc) <;> (try (exfalso; omega)) <;> (try subst hc)) | (with_reducible refine cndW_intro (by omega) ?_) | (simp (config := { maxSteps := 400000 }) only [↓zvs_pre,↓reduceIte,zvs,reduceCtorEq,Nat.reduceEqDiff,Nat.reduceAdd,Nat.reduceLeDiff,Nat.reduceMul,Int.reduceBNe,Int.reduceBEq,Int.reduceEq,Int.reduceNe,Int.reduceLT,Int.reduceLE,Int.reduceGT,Int.reduceGE,Int.reduceNeg,Int.reduceToNat,Nat.reduceLT,Nat.reduceSub,tab,hK,fk,vk,storeAt_go,isP_ptr,Try.results4,List.toList_toArray]) | (simp (disch := omega) only [ziw]))
      all_goals first
        | (exfalso; omega)
        | (simp only [zrds]; done)
        | trace_state
    · have hw := joinS_wrong l (by simpa using h)
      rw [hw] at hJ hR
      simp only [joinV] at hJ hR
      have hK := hasKey (List.replicate 32 0) (by simp)
      have fk := fit_key (List.replicate 32 0) (by simp)
      have vk := veq_key (List.replicate 32 0) (List.replicate 32 0)
      rw [decide_eq_true rfl] at vk
      generalize List.replicate 32 (0 : UInt8) = k at *
      repeat' (first | (with_reducible first | refine ok_seq ?_ | refine xs1 ?_ | refine xs2 ?_ | refine xs3 ?_ | refine xb1 ?_ | refine xb2 ?_ | refine xb3 (by decide) ?_ | refine xb4 ?_ | refine xl2 ?_ | refine xl3 ?_ | refine xc2 ?_ | refine xc3 ?_ | refine ok_block ?_ | refine ok_scope ?_ | refine ok_skip ?_ | refine ok_label ?_ | refine ok_exit ?_ | refine ok_ret ?_ | refine ok_region (fun M hM => ?_) | refine vif_t ?_ | refine vif_f ?_ | refine fin_normal ?_ | refine fin_ret ?_ | (refine hM _ ?_; clear hM M) | refine vcallW_intro (call_data (by assumption) ?_ rfl ?_) | refine vcallHW_intro (hcall_data (by assumption) rfl ?_) ?_) | ((with_reducible refine nls_q ?_) <;> (first | rfl | assumption | (simp only [znl,nls_u,nls_shr,nl_shr]; (first | done | fail)))) | (with_reducible refine ok_cond (by (simp only [↓reduceIte,zlk,Nat.reduceEqDiff,reduceCtorEq]); exact rfl) ?_) | ((with_reducible first | refine vif_intro (fun hc => ?_) (fun hc => ?_) | refine vifW_intro (fun hc => ?_) (fun hc => ?_)) <;> (try simp (disch := omega) only [zhb] at hc) <;> (try (exfalso; omega)) <;> (try subst hc)) | (with_reducible refine cndW_intro (by omega) ?_) | (simp (config := { maxSteps := 400000 }) only [↓zvs_pre,↓reduceIte,zvs,reduceCtorEq,Nat.reduceEqDiff,Nat.reduceAdd,Nat.reduceLeDiff,Nat.reduceMul,Int.reduceBNe,Int.reduceBEq,Int.reduceEq,Int.reduceNe,Int.reduceLT,Int.reduceLE,Int.reduceGT,Int.reduceGE,Int.reduceNeg,Int.reduceToNat,Nat.reduceLT,Nat.reduceSub,tab,hK,fk,vk,Try.results4,List.toList_toArray]) | (simp (disch := omega) only [ziw]))
      all_goals first
        | (exfalso; omega)
        | (simp only [zrds]; done)
        | trace_state
  · repeat' (first | (with_reducible first | refine ok_seq ?_ | refine xs1 ?_ | refine xs2 ?_ | refine xs3 ?_ | refine xb1 ?_ | refine xb2 ?_ | refine xb3 (by decide) ?_ | refine xb4 ?_ | refine xl2 ?_ | refine xl3 ?_ | refine xc2 ?_ | refine xc3 ?_ | refine ok_block ?_ | refine ok_scope ?_ | refine ok_skip ?_ | refine ok_label ?_ | refine ok_exit ?_ | refine ok_ret ?_ | refine ok_region (fun M hM => ?_) | refine vif_t ?_ | refine vif_f ?_ | refine fin_normal ?_ | refine fin_ret ?_ | (refine hM _ ?_; clear hM M) | refine vcallW_intro (call_data (by assumption) ?_ rfl ?_) | refine vcallHW_intro (hcall_data (by assumption) rfl ?_) ?_) | ((with_reducible refine nls_q ?_) <;> (first | rfl | assumption | (simp only [znl,nls_u,nls_shr,nl_shr]; (first | done | fail)))) | (with_reducible refine ok_cond (by (simp only [↓reduceIte,zlk,Nat.reduceEqDiff,reduceCtorEq]); exact rfl) ?_) | ((with_reducible first | refine vif_intro (fun hc => ?_) (fun hc => ?_) | refine vifW_intro (fun hc => ?_) (fun hc => ?_)) <;> (try simp (disch := omega) only [zhb] at hc) <;> (try (exfalso; omega)) <;> (try subst hc)) | (with_reducible refine cndW_intro (by omega) ?_) | (simp (config := { maxSteps := 400000 }) only [↓zvs_pre,↓reduceIte,zvs,reduceCtorEq,Nat.reduceEqDiff,Nat.reduceAdd,Nat.reduceLeDiff,Nat.reduceMul,Int.reduceBNe,Int.reduceBEq,Int.reduceEq,Int.reduceNe,Int.reduceLT,Int.reduceLE,Int.reduceGT,Int.reduceGE,Int.reduceNeg,Int.reduceToNat,Nat.reduceLT,Nat.reduceSub,tab,Try.results4,List.toList_toArray]) | (simp (disch := omega) only [ziw]))
    all_goals first
      | (exfalso; omega)
      | (simp only [zrds]; done)
      | trace_state
end Go.Proofs.Ytndbfphmjmhkjaa.V
