/-
  SHARES, part 5: the law ShareAny.
-/
import Derived.Test.YtndbfphmjmhkjaaS4
set_option linter.unusedVariables false
set_option linter.unusedSimpArgs false
namespace Go.Proofs.Ytndbfphmjmhkjaa.V
open Go Go.Proofs.Ytndbfphmjmhkjaa
set_option maxRecDepth 100000
-- nlx: nls_u, nls_shr, nl_shr
set_option maxHeartbeats 1000000
theorem toV_bytes (n : Nat) (x : List UInt8) : toV (.arr n .u8) x = encKey x := by
  have e : toV (.arr n .u8) x = .agg (x.map (toV .u8)) := rfl
  rw [e]
  rfl
theorem x_ne {a b : Nat} (ha : a < 255) (hb : b < 255) (h : a ≠ b) : UInt8.ofNat (a + 1) ≠ UInt8.ofNat (b + 1) := fun e => by
  have := congrArg UInt8.toNat e
  rw [UInt8.toNat_ofNat', UInt8.toNat_ofNat', Nat.mod_eq_of_lt (by omega), Nat.mod_eq_of_lt (by omega)] at this
  omega
theorem x_nz {a : Nat} (ha : a < 255) : UInt8.ofNat (a + 1) ≠ 0 := fun e => by
  have := congrArg UInt8.toNat e
  rw [UInt8.toNat_ofNat', Nat.mod_eq_of_lt (by omega)] at this
  have h0 : (0 : UInt8).toNat = 0 := rfl
  omega
theorem split_get (sec noise : List UInt8) (m i : Nat) (h : i < m) : (splitS sec noise m).getD i default = shareAt sec noise (UInt8.ofNat (i + 1)) := by
  simp [splitS, h]
theorem split_len (sec noise : List UInt8) (m : Nat) : (splitS sec noise m).length = m := by simp [splitS]
theorem shareAt_len (sec noise : List UInt8) (x : UInt8) : (shareAt sec noise x).d.length = 32 := tabU_len _ _
theorem join_any (sec noise : List UInt8) (hs : sec.length = 32) {x y z : UInt8} (hx : x ≠ 0) (hy : y ≠ 0) (hz : z ≠ 0) (h1 : x ≠ y) (h2 : x ≠ z) (h3 : y ≠ z) :
    joinS [shareAt sec noise x, shareAt sec noise y, shareAt sec noise z] = (sec, 0) := by
  have hr : rightS [shareAt sec noise x, shareAt sec noise y, shareAt sec noise z] = true := by
    exact decide_eq_true (show x ≠ 0 ∧ y ≠ 0 ∧ z ≠ 0 ∧ x ≠ y ∧ x ≠ z ∧ y ≠ z from ⟨hx, hy, hz, h1, h2, h3⟩)
  simp only [joinS]
  rw [if_pos hr]
  congr 1
  refine ext_nth (tabU_len _ _) hs fun i hi => ?_
  rw [keyAt, tabU_nth _ _ _ hi]
  simp only [shareAt]
  rw [tabU_nth _ _ _ hi, tabU_nth _ _ _ hi, tabU_nth _ _ _ hi]
  exact Gf.any_three _ _ _ h1 h2 h3
theorem join_same (a b c : Shr) (h : a.x = b.x ∨ a.x = c.x ∨ b.x = c.x) : joinS [a, b, c] = (List.replicate 32 0, 1) := by
  have hr : ¬ rightS [a, b, c] = true := by
    simp only [rightS,decide_eq_true_eq]
    rintro ⟨_, _, _, h1, h2, h3⟩
    rcases h with h | h | h <;> contradiction
  simp only [joinS]
  rw [if_neg hr]
theorem any_law (x0 : List UInt8) (x1 : List UInt8) (x2 : UInt8) (x3 : List UInt8) (g0 : good (.arr 32 .u8) x0) (g1 : good (.arr 64 .u8) x1) (g2 : good .u8 x2) (g3 : good (.arr 3 .u8) x3) (l0 : Ty.lite (.arr 32 .u8) x0) (l1 : Ty.lite (.arr 64 .u8) x1) (l2 : Ty.lite .u8 x2) (l3 : Ty.lite (.arr 3 .u8) x3) :
    Spec Try.prog 5 [toV (.arr 32 .u8) x0, toV (.arr 64 .u8) x1, toV .u8 x2, toV (.arr 3 .u8) x3] (.bool true) := by
  have hs : x0.length = 32 := g0.1
  have hn : x1.length = 64 := g1.1
  have h3 : x3.length = 3 := g3.1
  rw [toV_bytes, toV_bytes, toV_bytes]
  obtain ⟨p, q, r, rfl⟩ : ∃ p q r, x3 = [p, q, r] := by
    match x3, h3 with
    | [p, q, r], _ => exact ⟨p, q, r, rfl⟩
  have hA := alive6_spec
  have hK := hasKey x0 hs
  have hN := hasKey64 x1 hn
  have hP := has_b3 (B8 p) (B8 q) (B8 r)
  have hbt : bytesOf (List.take 64 (x1.map encU)) = some x1 := by rw [List.take_of_length_le (by rw [List.length_map]; omega)]; exact bytesOf_u x1
  have hb64 := bytesOf_u x1
  have e2 : toV .u8 x2 = .int .u8 (B8 x2) := rfl
  have e3 : encKey [p, q, r] = .agg [.int .u8 (B8 p), .int .u8 (B8 q), .int .u8 (B8 r)] := rfl
  rw [e2, e3]
  have hp0 := B8_lo p
  have hq0 := B8_lo q
  have hr0 := B8_lo r
  have hp1 := B8_hi p
  have hq1 := B8_hi q
  have hr1 := B8_hi r
  have hx0 := B8_lo x2
  have hx1 := B8_hi x2
  obtain ⟨M, hM⟩ : ∃ M : Nat, M = 3 + x2.toNat % 20 := ⟨_, rfl⟩
  have hM2 : 3 ≤ M ∧ M ≤ 22 := by omega
  have eM : (3 : Int) + B8 x2 % 20 = (M : Int) := by rw [hM]; unfold B8; omega
  have idx : ∀ p : UInt8, ∃ a : Nat, a < M ∧ (B8 p).tmod (M : Int) = (a : Int) ∧ B8 p % (M : Int) = (a : Int) := fun p => by
    refine ⟨p.toNat % M, Nat.mod_lt _ (by omega), ?_, ?_⟩
    · rw [Int.tmod_eq_emod_of_nonneg (B8_lo p)]; unfold B8; push_cast; rfl
    · unfold B8; push_cast; rfl
  obtain ⟨a, ha, ta, ea⟩ := idx p
  obtain ⟨b, hb, tb, eb⟩ := idx q
  obtain ⟨c, hc, tc, ec⟩ := idx r
  have hS := split_spec x0 x1 hs M (by omega) (by omega)
  rw [if_neg (by omega), Int.toNat_natCast] at hS
  obtain ⟨L, hL⟩ : ∃ L, L = splitS x0 x1 M := ⟨_, rfl⟩
  have hLl : L.length = M := by rw [hL]; exact split_len _ _ _
  have sa := split_get x0 x1 M a ha
  have sb := split_get x0 x1 M b hb
  have sc := split_get x0 x1 M c hc
  rw [← hL] at hS sa sb sc
  have ga := map_getD encShr L a (by omega)
  have gb := map_getD encShr L b (by omega)
  have gc := map_getD encShr L c (by omega)
  rw [sa] at ga
  rw [sb] at gb
  rw [sc] at gc
  have hJ := join_spec [shareAt x0 x1 (UInt8.ofNat (a + 1)), shareAt x0 x1 (UInt8.ofNat (b + 1)), shareAt x0 x1 (UInt8.ofNat (c + 1))] (by simp) (fun s hs' => by
    rcases List.mem_cons.1 hs' with rfl | hs'
    · exact shareAt_len _ _ _
    · rcases List.mem_cons.1 hs' with rfl | hs'
      · exact shareAt_len _ _ _
      · rw [List.mem_singleton] at hs'; subst hs'; exact shareAt_len _ _ _)
  have hA1 := hasShr (shareAt x0 x1 (UInt8.ofNat (a + 1))) (shareAt_len _ _ _)
  have hB1 := hasShr (shareAt x0 x1 (UInt8.ofNat (b + 1))) (shareAt_len _ _ _)
  have hC1 := hasShr (shareAt x0 x1 (UInt8.ofNat (c + 1))) (shareAt_len _ _ _)
  obtain ⟨k, e, hke, hkl, hres⟩ : ∃ k e, joinS [shareAt x0 x1 (UInt8.ofNat (a + 1)), shareAt x0 x1 (UInt8.ofNat (b + 1)), shareAt x0 x1 (UInt8.ofNat (c + 1))] = (k, e) ∧ k.length = 32 ∧ (((a = b ∨ a = c ∨ b = c) ∧ e = 1 ∧ k = List.replicate 32 0) ∨ (a ≠ b ∧ a ≠ c ∧ b ≠ c ∧ e = 0 ∧ k = x0)) := by
    by_cases hd : a = b ∨ a = c ∨ b = c
    · refine ⟨_, _, join_same _ _ _ ?_, by simp, .inl ⟨hd, rfl, rfl⟩⟩
      rcases hd with rfl | rfl | rfl
      · exact .inl rfl
      · exact .inr (.inl rfl)
      · exact .inr (.inr rfl)
    · have h1 : a ≠ b := fun h => hd (.inl h)
      have h2 : a ≠ c := fun h => hd (.inr (.inl h))
      have h3 : b ≠ c := fun h => hd (.inr (.inr h))
      exact ⟨_, _, join_any x0 x1 hs (x_nz (by omega)) (x_nz (by omega)) (x_nz (by omega)) (x_ne (by omega) (by omega) h1) (x_ne (by omega) (by omega) h2) (x_ne (by omega) (by omega) h3), hs, .inr ⟨h1, h2, h3, rfl, rfl⟩⟩
  generalize shareAt x0 x1 (UInt8.ofNat (a + 1)) = A at *
  generalize shareAt x0 x1 (UInt8.ofNat (b + 1)) = B at *
  generalize shareAt x0 x1 (UInt8.ofNat (c + 1)) = C at *
  clear sa sb sc hL
  have hpl := pl_join (joinS [A, B, C])
  rw [hke] at hJ hpl
  simp only [joinV] at hJ hpl
  have hfk := fit_key k hkl
  have hf0 := fit_key x0 hs
  have hKk := hasKey k hkl
  have vq := veq_key k x0
  have z0 : (VV.agg (List.replicate 32 (.int .u8 0))) = encKey (List.replicate 32 0) := rfl
  have hfz := fit_key (List.replicate 32 0) (by simp)
  have vz := veq_key k (List.replicate 32 0)
  simp only [encShr] at ga gb gc
  refine spec_ok Try.func5 rfl rfl (by kernel_rfl) (k := 4) rfl (by decide) ?_
  repeat' (first | (with_reducible first | refine ok_seq ?_ | refine xs1 ?_ | refine xs2 ?_ | refine xs3 ?_ | refine xb1 ?_ | refine xb2 ?_ | refine xb3 (by decide) ?_ | refine xb4 ?_ | refine xl2 ?_ | refine xl3 ?_ | refine xc2 ?_ | refine xc3 ?_ | refine ok_block ?_ | refine ok_scope ?_ | refine ok_skip ?_ | refine ok_label ?_ | refine ok_exit ?_ | refine ok_ret ?_ | refine ok_region (fun M hM => ?_) | refine vif_t ?_ | refine vif_f ?_ | refine fin_normal ?_ | refine fin_ret ?_ | (refine hM _ ?_; clear hM M) | refine vcallW_intro (call_data (by assumption) ?_ rfl ?_) | refine vcallHW_intro (hcall_data (by assumption) rfl ?_) ?_) | ((with_reducible refine nls_q ?_) <;> (first | rfl | assumption | (simp only [znl,nls_u,nls_shr,nl_shr]; (first | done | fail)))) | (with_reducible refine ok_cond (by (simp only [↓reduceIte,zlk,Nat.reduceEqDiff,reduceCtorEq]); exact rfl) ?_) | ((with_reducible first | refine vif_intro (fun hc => ?_) (fun hc => ?_) | refine vifW_intro (fun hc => ?_) (fun hc => ?_)) <;> (try simp (disch := omega) only [zhb] at hc) <;> (try (exfalso; omega)) <;> (try subst hc)) | (with_reducible refine cndW_intro (by omega) ?_) | (simp (config := { maxSteps := 400000 }) only [↓zvs_pre,↓reduceIte,zvs,reduceCtorEq,Nat.reduceEqDiff,Nat.reduceAdd,Nat.reduceLeDiff,Nat.reduceMul,Int.reduceBNe,Int.reduceBEq,Int.reduceEq,Int.reduceNe,Int.reduceLT,Int.reduceLE,Int.reduceGT,Int.reduceGE,Int.reduceNeg,Int.reduceToNat,Nat.reduceLT,Nat.reduceSub,tab,hK,hN,hP,encU,eM,Try.results5,List.toList_toArray]) | (simp (disch := omega) only [ziw]))
  refine ok_draw 10 (by kernel_rfl) (by decide +kernel) (by intro m hm; simp only [upd_ap,rows_cons,rows_nil]; (repeat (first | rfl | rw [if_neg (by omega)]))) (fun M hM => ?_); simp only [List.take_succ_cons,List.take_zero,List.drop_succ_cons,List.drop_zero]
  repeat' (first | (with_reducible first | refine ok_seq ?_ | refine xs1 ?_ | refine xs2 ?_ | refine xs3 ?_ | refine xb1 ?_ | refine xb2 ?_ | refine xb3 (by decide) ?_ | refine xb4 ?_ | refine xl2 ?_ | refine xl3 ?_ | refine xc2 ?_ | refine xc3 ?_ | refine ok_block ?_ | refine ok_scope ?_ | refine ok_skip ?_ | refine ok_label ?_ | refine ok_exit ?_ | refine ok_ret ?_ | refine ok_region (fun M hM => ?_) | refine vif_t ?_ | refine vif_f ?_ | refine fin_normal ?_ | refine fin_ret ?_ | (refine hM _ ?_; clear hM M) | refine vcallW_intro (call_data (by assumption) ?_ rfl ?_) | refine vcallHW_intro (hcall_data (by assumption) rfl ?_) ?_) | ((with_reducible refine nls_q ?_) <;> (first | rfl | assumption | (simp only [znl,nls_u,nls_shr,nl_shr]; (first | done | fail)))) | (with_reducible refine ok_cond (by (simp only [↓reduceIte,zlk,Nat.reduceEqDiff,reduceCtorEq]); exact rfl) ?_) | ((with_reducible first | refine vif_intro (fun hc => ?_) (fun hc => ?_) | refine vifW_intro (fun hc => ?_) (fun hc => ?_)) <;> (try simp (disch := omega) only [zhb] at hc) <;> (try (exfalso; omega)) <;> (try subst hc)) | (with_reducible refine cndW_intro (by omega) ?_) | (simp (config := { maxSteps := 400000 }) only [↓zvs_pre,↓reduceIte,zvs,reduceCtorEq,Nat.reduceEqDiff,Nat.reduceAdd,Nat.reduceLeDiff,Nat.reduceMul,Int.reduceBNe,Int.reduceBEq,Int.reduceEq,Int.reduceNe,Int.reduceLT,Int.reduceLE,Int.reduceGT,Int.reduceGE,Int.reduceNeg,Int.reduceToNat,Nat.reduceLT,Nat.reduceSub,tab,hK,hN,hbt,hb64,hn,Try.results5,List.toList_toArray]) | (simp (disch := omega) only [ziw]))
  refine ok_draw 18 (by kernel_rfl) (by decide +kernel) (by intro m hm; simp only [upd_ap,rows_cons,rows_nil]; (repeat (first | rfl | rw [if_neg (by omega)]))) (fun M hM => ?_); simp only [List.take_succ_cons,List.take_zero,List.drop_succ_cons,List.drop_zero]
  repeat' (first | (with_reducible first | refine ok_seq ?_ | refine xs1 ?_ | refine xs2 ?_ | refine xs3 ?_ | refine xb1 ?_ | refine xb2 ?_ | refine xb3 (by decide) ?_ | refine xb4 ?_ | refine xl2 ?_ | refine xl3 ?_ | refine xc2 ?_ | refine xc3 ?_ | refine ok_block ?_ | refine ok_scope ?_ | refine ok_skip ?_ | refine ok_label ?_ | refine ok_exit ?_ | refine ok_ret ?_ | refine ok_region (fun M hM => ?_) | refine vif_t ?_ | refine vif_f ?_ | refine fin_normal ?_ | refine fin_ret ?_ | (refine hM _ ?_; clear hM M) | refine vcallW_intro (call_data (by assumption) ?_ rfl ?_) | refine vcallHW_intro (hcall_data (by assumption) rfl ?_) ?_) | ((with_reducible refine nls_q ?_) <;> (first | rfl | assumption | (simp only [znl,nls_u,nls_shr,nl_shr]; (first | done | fail)))) | (with_reducible refine ok_cond (by (simp only [↓reduceIte,zlk,Nat.reduceEqDiff,reduceCtorEq]); exact rfl) ?_) | ((with_reducible first | refine vif_intro (fun hc => ?_) (fun hc => ?_) | refine vifW_intro (fun hc => ?_) (fun hc => ?_)) <;> (try simp (disch := omega) only [zhb] at hc) <;> (try (exfalso; omega)) <;> (try subst hc)) | (with_reducible refine cndW_intro (by omega) ?_) | (simp (config := { maxSteps := 400000 }) only [↓zvs_pre,↓reduceIte,zvs,reduceCtorEq,Nat.reduceEqDiff,Nat.reduceAdd,Nat.reduceLeDiff,Nat.reduceMul,Int.reduceBNe,Int.reduceBEq,Int.reduceEq,Int.reduceNe,Int.reduceLT,Int.reduceLE,Int.reduceGT,Int.reduceGE,Int.reduceNeg,Int.reduceToNat,Nat.reduceLT,Nat.reduceSub,tab,ta,tb,tc,ea,eb,ec,Try.results5,List.toList_toArray]) | (simp (disch := omega) only [ziw]))
  refine ok_drawF 20 [0, 1, 2, 3, 4, 5, 6, 7, 8, 9, 10, 11, 12, 13, 14, 15, 16, 19, 17] 18 18 2947 (by kernel_rfl) (by decide +kernel) (by decide) (by decide) (by intro m hm; simp only [upd_ap,rows_cons,rows_nil]; (repeat (first | rfl | rw [if_neg (by omega)]))) (fun M hM => ?_); simp only [picks,List.getElem?_cons_succ,List.getElem?_cons_zero,List.drop_succ_cons,List.drop_zero]
  repeat' (first | (with_reducible first | refine ok_seq ?_ | refine xs1 ?_ | refine xs2 ?_ | refine xs3 ?_ | refine xb1 ?_ | refine xb2 ?_ | refine xb3 (by decide) ?_ | refine xb4 ?_ | refine xl2 ?_ | refine xl3 ?_ | refine xc2 ?_ | refine xc3 ?_ | refine ok_block ?_ | refine ok_scope ?_ | refine ok_skip ?_ | refine ok_label ?_ | refine ok_exit ?_ | refine ok_ret ?_ | refine ok_region (fun M hM => ?_) | refine vif_t ?_ | refine vif_f ?_ | refine fin_normal ?_ | refine fin_ret ?_ | (refine hM _ ?_; clear hM M) | refine vcallW_intro (call_data (by assumption) ?_ rfl ?_) | refine vcallHW_intro (hcall_data (by assumption) rfl ?_) ?_) | ((with_reducible refine nls_q ?_) <;> (first | rfl | assumption | (simp only [znl,nls_u,nls_shr,nl_shr]; (first | done | fail)))) | (with_reducible refine ok_cond (by (simp only [↓reduceIte,zlk,Nat.reduceEqDiff,reduceCtorEq]); exact rfl) ?_) | ((with_reducible first | refine vif_intro (fun hc => ?_) (fun hc => ?_) | refine vifW_intro (fun hc => ?_) (fun hc => ?_)) <;> (try simp (disch := omega) only [zhb] at hc) <;> (try (exfalso; omega)) <;> (try subst hc)) | (with_reducible refine cndW_intro (by omega) ?_) | (simp (config := { maxSteps := 400000 }) only [↓zvs_pre,↓reduceIte,zvs,reduceCtorEq,Nat.reduceEqDiff,Nat.reduceAdd,Nat.reduceLeDiff,Nat.reduceMul,Int.reduceBNe,Int.reduceBEq,Int.reduceEq,Int.reduceNe,Int.reduceLT,Int.reduceLE,Int.reduceGT,Int.reduceGE,Int.reduceNeg,Int.reduceToNat,Nat.reduceLT,Nat.reduceSub,tab,ta,tb,tc,ea,eb,ec,ga,gb,gc,hA1,hB1,hC1,setParts,Try.results5,List.toList_toArray]) | (simp (disch := omega) only [ziw]))
  refine vcallHW_intro (hcall_read hJ rfl (rd_three (by (simp only [↓reduceIte,zlk,Nat.reduceEqDiff,reduceCtorEq]); exact rfl)) hpl) ?_
  rcases hres with ⟨hd, rfl, rfl⟩ | ⟨n1, n2, n3, rfl, rfl⟩
  · repeat' (first | (with_reducible first | refine ok_seq ?_ | refine xs1 ?_ | refine xs2 ?_ | refine xs3 ?_ | refine xb1 ?_ | refine xb2 ?_ | refine xb3 (by decide) ?_ | refine xb4 ?_ | refine xl2 ?_ | refine xl3 ?_ | refine xc2 ?_ | refine xc3 ?_ | refine ok_block ?_ | refine ok_scope ?_ | refine ok_skip ?_ | refine ok_label ?_ | refine ok_exit ?_ | refine ok_ret ?_ | refine ok_region (fun M hM => ?_) | refine vif_t ?_ | refine vif_f ?_ | refine fin_normal ?_ | refine fin_ret ?_ | (refine hM _ ?_; clear hM M) | refine vcallW_intro (call_data (by assumption) ?_ rfl ?_) | refine vcallHW_intro (hcall_data (by assumption) rfl ?_) ?_) | ((with_reducible refine nls_q ?_) <;> (first | rfl | assumption | (simp only [znl,nls_u,nls_shr,nl_shr]; (first | done | fail)))) | (with_reducible refine ok_cond (by (simp only [↓reduceIte,zlk,Nat.reduceEqDiff,reduceCtorEq]); exact rfl) ?_) | ((with_reducible first | refine vif_intro (fun hc => ?_) (fun hc => ?_) | refine vifW_intro (fun hc => ?_) (fun hc => ?_)) <;> (try simp (disch := omega) only [zhb] at hc) <;> (try (exfalso; omega)) <;> (try subst hc)) | (with_reducible refine cndW_intro (by omega) ?_) | (simp (config := { maxSteps := 400000 }) only [↓zvs_pre,↓reduceIte,zvs,reduceCtorEq,Nat.reduceEqDiff,Nat.reduceAdd,Nat.reduceLeDiff,Nat.reduceMul,Int.reduceBNe,Int.reduceBEq,Int.reduceEq,Int.reduceNe,Int.reduceLT,Int.reduceLE,Int.reduceGT,Int.reduceGE,Int.reduceNeg,Int.reduceToNat,Nat.reduceLT,Nat.reduceSub,tab,hKk,hfk,hfz,z0,vz,storeAt_go,isP_ptr,Try.results5,List.toList_toArray]) | (simp (disch := omega) only [ziw]))
    all_goals simp only [zrds]
  · repeat' (first | (with_reducible first | refine ok_seq ?_ | refine xs1 ?_ | refine xs2 ?_ | refine xs3 ?_ | refine xb1 ?_ | refine xb2 ?_ | refine xb3 (by decide) ?_ | refine xb4 ?_ | refine xl2 ?_ | refine xl3 ?_ | refine xc2 ?_ | refine xc3 ?_ | refine ok_block ?_ | refine ok_scope ?_ | refine ok_skip ?_ | refine ok_label ?_ | refine ok_exit ?_ | refine ok_ret ?_ | refine ok_region (fun M hM => ?_) | refine vif_t ?_ | refine vif_f ?_ | refine fin_normal ?_ | refine fin_ret ?_ | (refine hM _ ?_; clear hM M) | refine vcallW_intro (call_data (by assumption) ?_ rfl ?_) | refine vcallHW_intro (hcall_data (by assumption) rfl ?_) ?_) | ((with_reducible refine nls_q ?_) <;> (first | rfl | assumption | (simp only [znl,nls_u,nls_shr,nl_shr]; (first | done | fail)))) | (with_reducible refine ok_cond (by (simp only [↓reduceIte,zlk,Nat.reduceEqDiff,reduceCtorEq]); exact rfl) ?_) | ((with_reducible first | refine vif_intro (fun hc => ?_) (fun hc => ?_) | refine vifW_intro (fun hc => ?_) (fun hc => ?_)) <;> (try simp (disch := omega) only [zhb] at hc) <;> (try (exfalso; omega)) <;> (try subst hc)) | (with_reducible refine cndW_intro (by omega) ?_) | (simp (config := { maxSteps := 400000 }) only [↓zvs_pre,↓reduceIte,zvs,reduceCtorEq,Nat.reduceEqDiff,Nat.reduceAdd,Nat.reduceLeDiff,Nat.reduceMul,Int.reduceBNe,Int.reduceBEq,Int.reduceEq,Int.reduceNe,Int.reduceLT,Int.reduceLE,Int.reduceGT,Int.reduceGE,Int.reduceNeg,Int.reduceToNat,Nat.reduceLT,Nat.reduceSub,tab,hKk,hfk,vq,storeAt_go,isP_ptr,Try.results5,List.toList_toArray]) | (simp (disch := omega) only [ziw]))
    all_goals simp only [zrds]
end Go.Proofs.Ytndbfphmjmhkjaa.V
