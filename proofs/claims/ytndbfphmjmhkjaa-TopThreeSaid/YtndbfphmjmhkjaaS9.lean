/-
  SHARES, part 9: the law ShareBlind.
-/
import Derived.Test.YtndbfphmjmhkjaaS8
set_option linter.unusedVariables false
set_option linter.unusedSimpArgs false
namespace Go.Proofs.Ytndbfphmjmhkjaa.V
open Go Go.Proofs.Ytndbfphmjmhkjaa
set_option maxRecDepth 100000
-- nlx: nls_u, nls_shr, nl_shr
set_option maxHeartbeats 1000000
abbrev shrT : Ty := .fcons .u8 (.fcons (.arr 32 .u8) .fnil)
def mkShr (x : UInt8 × List UInt8 × Unit) : Shr := ⟨x.1, x.2.1⟩
theorem toV_shr (x : UInt8 × List UInt8 × Unit) : toV shrT x = .agg [.int .u8 (B8 (mkShr x).x), encKey (mkShr x).d] := by
  obtain ⟨a, d, u⟩ := x
  have e : toV shrT (a, d, u) = .agg [.int .u8 (B8 a), toV (.arr 32 .u8) d] := rfl
  exact e.trans (by rw [toV_bytes]; rfl)
theorem blind_join (sec : List UInt8) (hs : sec.length = 32) (a b : Shr) {x : UInt8} (ha : a.x ≠ 0) (hb : b.x ≠ 0) (hab : a.x ≠ b.x) (hx : x ≠ 0) (hxa : x ≠ a.x) (hxb : x ≠ b.x) : joinS [a, b, thirdS sec a b x] = (sec, 0) := by
  have hr : rightS [a, b, thirdS sec a b x] = true := decide_eq_true (show a.x ≠ 0 ∧ b.x ≠ 0 ∧ x ≠ 0 ∧ a.x ≠ b.x ∧ a.x ≠ x ∧ b.x ≠ x from ⟨ha, hb, hx, hab, Ne.symm hxa, Ne.symm hxb⟩)
  simp only [joinS]
  rw [if_pos hr]
  congr 1
  refine ext_nth (tabU_len _ _) hs fun i hi => ?_
  rw [keyAt, tabU_nth _ _ _ hi]
  simp only [thirdS]
  rw [tabU_nth _ _ _ hi, atVal, atOk3, if_pos (decide_eq_true ⟨Ne.symm ha, Ne.symm hb, hab⟩)]
  exact Gf.blind _ _ _ ha hb hab hx hxa hxb
theorem B8_ne {x y : UInt8} (h : x ≠ y) : ¬ B8 x = B8 y := fun e => h (B8_inj e)
theorem blind_law (x0 x1 : UInt8 × List UInt8 × Unit) (x2 x3 : List UInt8) (x4 : UInt8) (g0 : good shrT x0) (g1 : good shrT x1) (g2 : good (.arr 32 .u8) x2) (g3 : good (.arr 32 .u8) x3) (g4 : good .u8 x4) (l0 : Ty.lite shrT x0) (l1 : Ty.lite shrT x1) (l2 : Ty.lite (.arr 32 .u8) x2) (l3 : Ty.lite (.arr 32 .u8) x3) (l4 : Ty.lite .u8 x4) :
    Spec Try.prog 6 [toV shrT x0, toV shrT x1, toV (.arr 32 .u8) x2, toV (.arr 32 .u8) x3, toV .u8 x4] (.bool true) := by
  have ha : (mkShr x0).d.length = 32 := g0.2.1.1
  have hb : (mkShr x1).d.length = 32 := g1.2.1.1
  have hs : x2.length = 32 := g2.1
  have ho : x3.length = 32 := g3.1
  rw [toV_shr, toV_shr, toV_bytes, toV_bytes]
  have e4 : toV .u8 x4 = .int .u8 (B8 x4) := rfl
  rw [e4]
  generalize mkShr x0 = a at ha
  generalize mkShr x1 = b at hb
  have hAl := alive6_spec
  have hA := hasShr a ha
  have hB := hasShr b hb
  have hK := hasKey x2 hs
  have hO := hasKey x3 ho
  clear g0 g1 l0 l1
  refine spec_ok Try.func6 rfl rfl (by kernel_rfl) (k := 5) rfl (by decide) ?_
  by_cases hg : a.x ≠ 0 ∧ b.x ≠ 0 ∧ a.x ≠ b.x ∧ x4 ≠ 0 ∧ x4 ≠ a.x ∧ x4 ≠ b.x
  · obtain ⟨h1, h2, h3, h4, h5, h6⟩ := hg
    have n1 : ¬ B8 a.x = 0 := fun h => h1 ((B8_zero_iff _).1 h)
    have n2 : ¬ B8 b.x = 0 := fun h => h2 ((B8_zero_iff _).1 h)
    have n3 := B8_ne h3
    have n4 : ¬ B8 x4 = 0 := fun h => h4 ((B8_zero_iff _).1 h)
    have n5 := B8_ne h5
    have n6 := B8_ne h6
    have t1 := third_spec x2 hs a b ha hb x4
    have t2 := third_spec x3 ho a b ha hb x4
    have j1 := blind_join x2 hs a b h1 h2 h3 h4 h5 h6
    have j2 := blind_join x3 ho a b h1 h2 h3 h4 h5 h6
    obtain ⟨C, hC⟩ : ∃ C, C = thirdS x2 a b x4 := ⟨_, rfl⟩
    obtain ⟨D, hD⟩ : ∃ D, D = thirdS x3 a b x4 := ⟨_, rfl⟩
    have hcx : C.x = x4 := by rw [hC]; rfl
    have hdx : D.x = x4 := by rw [hD]; rfl
    have hcl : C.d.length = 32 := by rw [hC]; exact tabU_len _ _
    have hdl : D.d.length = 32 := by rw [hD]; exact tabU_len _ _
    have hcd : (x4 = x4 ∧ C.d = D.d) ↔ x2 = x3 := by
      constructor
      · rintro ⟨_, h⟩
        have : C = D := by cases C; cases D; simp_all
        rw [← hC, this, hD] at j1
        rw [j1] at j2
        exact congrArg Prod.fst j2
      · rintro rfl
        exact ⟨rfl, by rw [hC, hD]⟩
    rw [← hC] at t1 j1
    rw [← hD] at t2 j2
    have J1 := join_spec [a, b, C] (by simp) (fun s hs' => by
      rcases List.mem_cons.1 hs' with rfl | hs'
      · exact ha
      · rcases List.mem_cons.1 hs' with rfl | hs'
        · exact hb
        · rw [List.mem_singleton] at hs'; subst hs'; exact hcl)
    have J2 := join_spec [a, b, D] (by simp) (fun s hs' => by
      rcases List.mem_cons.1 hs' with rfl | hs'
      · exact ha
      · rcases List.mem_cons.1 hs' with rfl | hs'
        · exact hb
        · rw [List.mem_singleton] at hs'; subst hs'; exact hdl)
    have p1 := pl_join (joinS [a, b, C])
    have p2 := pl_join (joinS [a, b, D])
    rw [j1] at J1 p1
    rw [j2] at J2 p2
    simp only [joinV] at J1 J2 p1 p2
    have hCs := hasShr C hcl
    have hDs := hasShr D hdl
    rw [hcx] at hCs
    rw [hdx] at hDs
    have fk2 := fit_key x2 hs
    have fk3 := fit_key x3 ho
    have fC := fit_shr x4 C.d hcl
    have fD := fit_shr x4 D.d hdl
    have vs := veq_shr x4 x4 C.d D.d
    have v22 := veq_key x2 x2
    have v33 := veq_key x3 x3
    have v23 := veq_key x2 x3
    rw [decide_eq_true rfl] at v22 v33
    rw [show decide (x4 = x4 ∧ C.d = D.d) = decide (x2 = x3) from decide_eq_decide.2 hcd] at vs
    clear hC hD hcd j1 j2
    obtain ⟨C, Cd⟩ := C
    obtain ⟨D, Dd⟩ := D
    dsimp only at *
    subst hcx
    subst hdx
    repeat' (first | (with_reducible first | refine ok_seq ?_ | refine xs1 ?_ | refine xs2 ?_ | refine xs3 ?_ | refine xb1 ?_ | refine xb2 ?_ | refine xb3 (by decide) ?_ | refine xb4 ?_ | refine xl2 ?_ | refine xl3 ?_ | refine xc2 ?_ | refine xc3 ?_ | refine ok_block ?_ | refine ok_scope ?_ | refine ok_skip ?_ | refine ok_label ?_ | refine ok_exit ?_ | refine ok_ret ?_ | refine ok_region (fun M hM => ?_) | refine vif_t ?_ | refine vif_f ?_ | refine fin_normal ?_ | refine fin_ret ?_ | (refine hM _ ?_; clear hM M) | refine vcallW_intro (call_data (by assumption) ?_ rfl ?_) | refine vcallHW_intro (hcall_data (by assumption) rfl ?_) ?_) | ((with_reducible refine nls_q ?_) <;> (first | rfl | assumption | (simp only [znl,nls_u,nls_shr,nl_shr]; (first | done | fail)))) | (with_reducible refine ok_cond (by (simp only [↓reduceIte,zlk,Nat.reduceEqDiff,reduceCtorEq]); exact rfl) ?_) | ((with_reducible first | refine vif_intro (fun hc => ?_) (fun hc => ?_) | refine vifW_intro (fun hc => ?_) (fun hc => ?_)) <;> (try simp (disch := omega) only [zhb] at hc) <;> (try (exfalso; omega)) <;> (try subst hc)) | (with_reducible refine cndW_intro (by omega) ?_) | (simp (config := { maxSteps := 400000 }) only [↓zvs_pre,↓reduceIte,zvs,reduceCtorEq,Nat.reduceEqDiff,Nat.reduceAdd,Nat.reduceLeDiff,Nat.reduceMul,Int.reduceBNe,Int.reduceBEq,Int.reduceEq,Int.reduceNe,Int.reduceLT,Int.reduceLE,Int.reduceGT,Int.reduceGE,Int.reduceNeg,Int.reduceToNat,Nat.reduceLT,Nat.reduceSub,tab,hA,hB,hK,hO,Try.results6,List.toList_toArray]) | (simp (disch := omega) only [ziw]))
    all_goals first
      | (exfalso; omega)
      | skip
    refine ok_drawF 13 [0, 1, 2, 3, 4, 5, 6, 7, 8, 9, 11, 10] 12 11 708 (by kernel_rfl) (by decide +kernel) (by decide) (by decide) (by intro m hm; simp only [upd_ap,rows_cons,rows_nil]; (repeat (first | rfl | rw [if_neg (by omega)]))) (fun M hM => ?_); simp only [picks,List.getElem?_cons_succ,List.getElem?_cons_zero,List.drop_succ_cons,List.drop_zero]
    repeat' (first | (with_reducible first | refine ok_seq ?_ | refine xs1 ?_ | refine xs2 ?_ | refine xs3 ?_ | refine xb1 ?_ | refine xb2 ?_ | refine xb3 (by decide) ?_ | refine xb4 ?_ | refine xl2 ?_ | refine xl3 ?_ | refine xc2 ?_ | refine xc3 ?_ | refine ok_block ?_ | refine ok_scope ?_ | refine ok_skip ?_ | refine ok_label ?_ | refine ok_exit ?_ | refine ok_ret ?_ | refine ok_region (fun M hM => ?_) | refine vif_t ?_ | refine vif_f ?_ | refine fin_normal ?_ | refine fin_ret ?_ | (refine hM _ ?_; clear hM M) | refine vcallW_intro (call_data (by assumption) ?_ rfl ?_) | refine vcallHW_intro (hcall_data (by assumption) rfl ?_) ?_) | ((with_reducible refine nls_q ?_) <;> (first | rfl | assumption | (simp only [znl,nls_u,nls_shr,nl_shr]; (first | done | fail)))) | (with_reducible refine ok_cond (by (simp only [↓reduceIte,zlk,Nat.reduceEqDiff,reduceCtorEq]); exact rfl) ?_) | ((with_reducible first | refine vif_intro (fun hc => ?_) (fun hc => ?_) | refine vifW_intro (fun hc => ?_) (fun hc => ?_)) <;> (try simp (disch := omega) only [zhb] at hc) <;> (try (exfalso; omega)) <;> (try subst hc)) | (with_reducible refine cndW_intro (by omega) ?_) | (simp (config := { maxSteps := 400000 }) only [↓zvs_pre,↓reduceIte,zvs,reduceCtorEq,Nat.reduceEqDiff,Nat.reduceAdd,Nat.reduceLeDiff,Nat.reduceMul,Int.reduceBNe,Int.reduceBEq,Int.reduceEq,Int.reduceNe,Int.reduceLT,Int.reduceLE,Int.reduceGT,Int.reduceGE,Int.reduceNeg,Int.reduceToNat,Nat.reduceLT,Nat.reduceSub,tab,hA,hB,hK,hO,hCs,hDs,setParts,storeAt_go,isP_ptr,Try.results6,List.toList_toArray]) | (simp (disch := omega) only [ziw]))
    refine vcallW_intro (call_plain J1 (rd_three (by (simp only [↓reduceIte,zlk,Nat.reduceEqDiff,reduceCtorEq]); exact rfl)) rfl p1 ?_)
    repeat' (first | (with_reducible first | refine ok_seq ?_ | refine xs1 ?_ | refine xs2 ?_ | refine xs3 ?_ | refine xb1 ?_ | refine xb2 ?_ | refine xb3 (by decide) ?_ | refine xb4 ?_ | refine xl2 ?_ | refine xl3 ?_ | refine xc2 ?_ | refine xc3 ?_ | refine ok_block ?_ | refine ok_scope ?_ | refine ok_skip ?_ | refine ok_label ?_ | refine ok_exit ?_ | refine ok_ret ?_ | refine ok_region (fun M hM => ?_) | refine vif_t ?_ | refine vif_f ?_ | refine fin_normal ?_ | refine fin_ret ?_ | (refine hM _ ?_; clear hM M) | refine vcallW_intro (call_data (by assumption) ?_ rfl ?_) | refine vcallHW_intro (hcall_data (by assumption) rfl ?_) ?_) | ((with_reducible refine nls_q ?_) <;> (first | rfl | assumption | (simp only [znl,nls_u,nls_shr,nl_shr]; (first | done | fail)))) | (with_reducible refine ok_cond (by (simp only [↓reduceIte,zlk,Nat.reduceEqDiff,reduceCtorEq]); exact rfl) ?_) | ((with_reducible first | refine vif_intro (fun hc => ?_) (fun hc => ?_) | refine vifW_intro (fun hc => ?_) (fun hc => ?_)) <;> (try simp (disch := omega) only [zhb] at hc) <;> (try (exfalso; omega)) <;> (try subst hc)) | (with_reducible refine cndW_intro (by omega) ?_) | (simp (config := { maxSteps := 400000 }) only [↓zvs_pre,↓reduceIte,zvs,reduceCtorEq,Nat.reduceEqDiff,Nat.reduceAdd,Nat.reduceLeDiff,Nat.reduceMul,Int.reduceBNe,Int.reduceBEq,Int.reduceEq,Int.reduceNe,Int.reduceLT,Int.reduceLE,Int.reduceGT,Int.reduceGE,Int.reduceNeg,Int.reduceToNat,Nat.reduceLT,Nat.reduceSub,tab,hA,hB,hK,hO,hCs,hDs,setParts,Try.results6,List.toList_toArray]) | (simp (disch := omega) only [ziw]))
    refine vcallW_intro (call_plain J2 (rd_three (by (simp only [↓reduceIte,zlk,Nat.reduceEqDiff,reduceCtorEq]); exact rfl)) rfl p2 ?_)
    repeat' (first | (with_reducible first | refine ok_seq ?_ | refine xs1 ?_ | refine xs2 ?_ | refine xs3 ?_ | refine xb1 ?_ | refine xb2 ?_ | refine xb3 (by decide) ?_ | refine xb4 ?_ | refine xl2 ?_ | refine xl3 ?_ | refine xc2 ?_ | refine xc3 ?_ | refine ok_block ?_ | refine ok_scope ?_ | refine ok_skip ?_ | refine ok_label ?_ | refine ok_exit ?_ | refine ok_ret ?_ | refine ok_region (fun M hM => ?_) | refine vif_t ?_ | refine vif_f ?_ | refine fin_normal ?_ | refine fin_ret ?_ | (refine hM _ ?_; clear hM M) | refine vcallW_intro (call_data (by assumption) ?_ rfl ?_) | refine vcallHW_intro (hcall_data (by assumption) rfl ?_) ?_) | ((with_reducible refine nls_q ?_) <;> (first | rfl | assumption | (simp only [znl,nls_u,nls_shr,nl_shr]; (first | done | fail)))) | (with_reducible refine ok_cond (by (simp only [↓reduceIte,zlk,Nat.reduceEqDiff,reduceCtorEq]); exact rfl) ?_) | ((with_reducible first | refine vif_intro (fun hc => ?_) (fun hc => ?_) | refine vifW_intro (fun hc => ?_) (fun hc => ?_)) <;> (try simp (disch := omega) only [zhb] at hc) <;> (try (exfalso; omega)) <;> (try subst hc)) | (with_reducible refine cndW_intro (by omega) ?_) | (simp (config := { maxSteps := 400000 }) only [↓zvs_pre,↓reduceIte,zvs,reduceCtorEq,Nat.reduceEqDiff,Nat.reduceAdd,Nat.reduceLeDiff,Nat.reduceMul,Int.reduceBNe,Int.reduceBEq,Int.reduceEq,Int.reduceNe,Int.reduceLT,Int.reduceLE,Int.reduceGT,Int.reduceGE,Int.reduceNeg,Int.reduceToNat,Nat.reduceLT,Nat.reduceSub,tab,hA,hB,hK,hO,hCs,hDs,setParts,Try.results6,List.toList_toArray]) | (simp (disch := omega) only [ziw]))
    refine ok_draw 23 (by kernel_rfl) (by decide +kernel) (by intro m hm; simp only [upd_ap,rows_cons,rows_nil]; (repeat (first | rfl | rw [if_neg (by omega)]))) (fun M hM => ?_); simp only [List.take_succ_cons,List.take_zero,List.drop_succ_cons,List.drop_zero]
    repeat' (first | (with_reducible first | refine ok_seq ?_ | refine xs1 ?_ | refine xs2 ?_ | refine xs3 ?_ | refine xb1 ?_ | refine xb2 ?_ | refine xb3 (by decide) ?_ | refine xb4 ?_ | refine xl2 ?_ | refine xl3 ?_ | refine xc2 ?_ | refine xc3 ?_ | refine ok_block ?_ | refine ok_scope ?_ | refine ok_skip ?_ | refine ok_label ?_ | refine ok_exit ?_ | refine ok_ret ?_ | refine ok_region (fun M hM => ?_) | refine vif_t ?_ | refine vif_f ?_ | refine fin_normal ?_ | refine fin_ret ?_ | (refine hM _ ?_; clear hM M) | refine vcallW_intro (call_data (by assumption) ?_ rfl ?_) | refine vcallHW_intro (hcall_data (by assumption) rfl ?_) ?_) | ((with_reducible refine nls_q ?_) <;> (first | rfl | assumption | (simp only [znl,nls_u,nls_shr,nl_shr]; (first | done | fail)))) | (with_reducible refine ok_cond (by (simp only [↓reduceIte,zlk,Nat.reduceEqDiff,reduceCtorEq]); exact rfl) ?_) | ((with_reducible first | refine vif_intro (fun hc => ?_) (fun hc => ?_) | refine vifW_intro (fun hc => ?_) (fun hc => ?_)) <;> (try simp (disch := omega) only [zhb] at hc) <;> (try (exfalso; omega)) <;> (try subst hc)) | (with_reducible refine cndW_intro (by omega) ?_) | (simp (config := { maxSteps := 400000 }) only [↓zvs_pre,↓reduceIte,zvs,reduceCtorEq,Nat.reduceEqDiff,Nat.reduceAdd,Nat.reduceLeDiff,Nat.reduceMul,Int.reduceBNe,Int.reduceBEq,Int.reduceEq,Int.reduceNe,Int.reduceLT,Int.reduceLE,Int.reduceGT,Int.reduceGE,Int.reduceNeg,Int.reduceToNat,Nat.reduceLT,Nat.reduceSub,tab,fk2,fk3,fC,fD,vs,v22,v33,v23,Try.results6,List.toList_toArray]) | (simp (disch := omega) only [ziw]))
    all_goals first
      | (exfalso; omega)
      | (simp only [zrds]; done)
      | trace_state
  · have z1 := B8_zero_iff a.x
    have z2 := B8_zero_iff b.x
    have z3 := B8_dec a.x b.x
    have z4 := B8_zero_iff x4
    have z5 := B8_dec x4 a.x
    have z6 := B8_dec x4 b.x
    repeat' (first | (with_reducible first | refine ok_seq ?_ | refine xs1 ?_ | refine xs2 ?_ | refine xs3 ?_ | refine xb1 ?_ | refine xb2 ?_ | refine xb3 (by decide) ?_ | refine xb4 ?_ | refine xl2 ?_ | refine xl3 ?_ | refine xc2 ?_ | refine xc3 ?_ | refine ok_block ?_ | refine ok_scope ?_ | refine ok_skip ?_ | refine ok_label ?_ | refine ok_exit ?_ | refine ok_ret ?_ | refine ok_region (fun M hM => ?_) | refine vif_t ?_ | refine vif_f ?_ | refine fin_normal ?_ | refine fin_ret ?_ | (refine hM _ ?_; clear hM M) | refine vcallW_intro (call_data (by assumption) ?_ rfl ?_) | refine vcallHW_intro (hcall_data (by assumption) rfl ?_) ?_) | ((with_reducible refine nls_q ?_) <;> (first | rfl | assumption | (simp only [znl,nls_u,nls_shr,nl_shr]; (first | done | fail)))) | (with_reducible refine ok_cond (by (simp only [↓reduceIte,zlk,Nat.reduceEqDiff,reduceCtorEq]); exact rfl) ?_) | ((with_reducible first | refine vif_intro (fun hc => ?_) (fun hc => ?_) | refine vifW_intro (fun hc => ?_) (fun hc => ?_)) <;> (try simp (disch := omega) only [zhb] at hc) <;> (try (exfalso; omega)) <;> (try subst hc)) | (with_reducible refine cndW_intro (by omega) ?_) | (simp (config := { maxSteps := 400000 }) only [↓zvs_pre,↓reduceIte,zvs,reduceCtorEq,Nat.reduceEqDiff,Nat.reduceAdd,Nat.reduceLeDiff,Nat.reduceMul,Int.reduceBNe,Int.reduceBEq,Int.reduceEq,Int.reduceNe,Int.reduceLT,Int.reduceLE,Int.reduceGT,Int.reduceGE,Int.reduceNeg,Int.reduceToNat,Nat.reduceLT,Nat.reduceSub,tab,hA,hB,hK,hO,Try.results6,List.toList_toArray]) | (simp (disch := omega) only [ziw]))
    all_goals first
      | (simp only [zrds]; done)
      | (exfalso; exact hg ⟨fun h => by have := z1.2 h; contradiction, fun h => by have := z2.2 h; contradiction, fun h => by have := congrArg B8 h; contradiction, fun h => by have := z4.2 h; contradiction, fun h => by have := congrArg B8 h; contradiction, fun h => by have := congrArg B8 h; contradiction⟩)
      | trace_state
end Go.Proofs.Ytndbfphmjmhkjaa.V
