/-
  SHARES, part D: the law TopThree.
-/
import Derived.Test.YtndbfphmjmhkjaaS6
import Derived.Test.YtndbfphmjmhkjaaS7
import Derived.Test.YtndbfphmjmhkjaaSB
import Derived.Test.YtndbfphmjmhkjaaVregS
set_option linter.unusedVariables false
set_option linter.unusedSimpArgs false
namespace Go.Proofs.Ytndbfphmjmhkjaa.V
open Go Go.Proofs.Ytndbfphmjmhkjaa
set_option maxRecDepth 100000
-- nlx: nls_u, nls_shr, nl_shr
set_option maxHeartbeats 1000000
theorem B8_succ (v : UInt8) : IntKind.u8.wrap (B8 v + 1) = B8 (v + 1) := by
  have h : (v + 1).toNat = (v.toNat + 1) % 256 := by rw [UInt8.toNat_add]; rfl
  have h2 := v.toNat_lt
  unfold B8 IntKind.wrap
  rw [h]
  simp [IntKind.signed, IntKind.bits]
/-- the share of which the first byte is one more -/
def bent (s : Shr) : Shr := ⟨s.x, s.d.set 0 (Gf.nth s.d 0 + 1)⟩
theorem bent_len (s : Shr) : (bent s).d.length = s.d.length := by simp [bent]
theorem succ_ne (v : UInt8) : v ≠ v + 1 := by
  intro h
  have h3 := congrArg UInt8.toNat h
  rw [UInt8.toNat_add] at h3
  have h2 := v.toNat_lt
  have h1 : (1 : UInt8).toNat = 1 := rfl
  rw [h1] at h3
  omega
theorem join_bent (a b c : Shr) (hc : c.d.length = 32) (h : rightS [a, b, c] = true) : ∃ k, joinS [a, b, bent c] = (k, 0) ∧ k.length = 32 ∧ k ≠ keyAt a b c 0 := by
  have hx := of_decide_eq_true (show decide (a.x ≠ 0 ∧ b.x ≠ 0 ∧ c.x ≠ 0 ∧ a.x ≠ b.x ∧ a.x ≠ c.x ∧ b.x ≠ c.x) = true from h)
  obtain ⟨h1, h2, h3, h4, h5, h6⟩ := hx
  have hr : rightS [a, b, bent c] = true := decide_eq_true (show a.x ≠ 0 ∧ b.x ≠ 0 ∧ c.x ≠ 0 ∧ a.x ≠ b.x ∧ a.x ≠ c.x ∧ b.x ≠ c.x from ⟨h1, h2, h3, h4, h5, h6⟩)
  refine ⟨keyAt a b (bent c) 0, ?_, tabU_len _ _, fun e => ?_⟩
  · simp only [joinS]
    rw [if_pos hr]
  · have e0 := congrArg (fun l => Gf.nth l 0) e
    simp only [keyAt] at e0
    rw [tabU_nth _ _ _ (by omega), tabU_nth _ _ _ (by omega)] at e0
    have hn : Gf.nth (bent c).d 0 = Gf.nth c.d 0 + 1 := by
      simp [bent, Gf.nth, List.getD_eq_getElem?_getD, List.getElem?_set, hc]
    rw [hn] at e0
    exact Gf.other_secret h4 h5 h6 h1 h2 (Ne.symm (succ_ne _)) e0
theorem topthree_law (x0 x1 : List UInt8) (x2 x3 x4 x5 : UInt8) (g0 : good (.arr 32 .u8) x0) (g1 : good (.arr 64 .u8) x1) (g2 : good .u8 x2) (g3 : good .u8 x3) (g4 : good .u8 x4) (g5 : good .u8 x5) (l0 : Ty.lite (.arr 32 .u8) x0) (l1 : Ty.lite (.arr 64 .u8) x1) (l2 : Ty.lite .u8 x2) (l3 : Ty.lite .u8 x3) (l4 : Ty.lite .u8 x4) (l5 : Ty.lite .u8 x5) :
    Spec Try.prog 8 [toV (.arr 32 .u8) x0, toV (.arr 64 .u8) x1, toV .u8 x2, toV .u8 x3, toV .u8 x4, toV .u8 x5] (.bool true) := by
  have hs : x0.length = 32 := g0.1
  have hn : x1.length = 64 := g1.1
  rw [toV_bytes, toV_bytes]
  have hZ := splits_spec
  have hK := hasKey x0 hs
  have hN := hasKey64 x1 hn
  have hbt : bytesOf (List.take 64 (x1.map encU)) = some x1 := by rw [List.take_of_length_le (by rw [List.length_map]; omega)]; exact bytesOf_u x1
  have hb64 := bytesOf_u x1
  have e2 : toV .u8 x2 = .int .u8 (B8 x2) := rfl
  have e3 : toV .u8 x3 = .int .u8 (B8 x3) := rfl
  have e4 : toV .u8 x4 = .int .u8 (B8 x4) := rfl
  have e5 : toV .u8 x5 = .int .u8 (B8 x5) := rfl
  rw [e2, e3, e4, e5]
  have hp0 := B8_lo x3
  have hp1 := B8_hi x3
  have hq0 := B8_lo x4
  have hq1 := B8_hi x4
  have hr0 := B8_lo x5
  have hr1 := B8_hi x5
  have hx0 := B8_lo x2
  have hx1 := B8_hi x2
  obtain ⟨M, hM⟩ : ∃ M : Nat, M = 3 + x2.toNat % 200 := ⟨_, rfl⟩
  have hM2 : 3 ≤ M ∧ M ≤ 202 := by omega
  have eM : (3 : Int) + B8 x2 % 200 = (M : Int) := by rw [hM]; unfold B8; omega
  have idx : ∀ p : UInt8, ∃ a : Nat, a < M ∧ (B8 p).tmod (M : Int) = (a : Int) ∧ B8 p % (M : Int) = (a : Int) := fun p => by
    refine ⟨p.toNat % M, Nat.mod_lt _ (by omega), ?_, ?_⟩
    · rw [Int.tmod_eq_emod_of_nonneg (B8_lo p)]; unfold B8; push_cast; rfl
    · unfold B8; push_cast; rfl
  obtain ⟨a, ha, ta, ea⟩ := idx x3
  obtain ⟨b, hb, tb, eb⟩ := idx x4
  obtain ⟨c, hc, tc, ec⟩ := idx x5
  have hS := split_spec x0 x1 hs M (by omega) (by omega)
  rw [if_neg (by omega), Int.toNat_natCast] at hS
  obtain ⟨L, hL⟩ : ∃ L, L = splitS x0 x1 M := ⟨_, rfl⟩
  have hLl : L.length = M := by rw [hL]; exact split_len _ _ _
  have sa := split_get x0 x1 M a ha
  have sb := split_get x0 x1 M b hb
  have sc := split_get x0 x1 M c hc
  rw [← hL] at hS sa sb sc
  have ga := map_getD encShr L a (by omega)
  have gb := map_getD encShr L b (by omega)
  have gc := map_getD encShr L c (by omega)
  rw [sa] at ga
  rw [sb] at gb
  rw [sc] at gc
  obtain ⟨A, hAe⟩ : ∃ A, A = shareAt x0 x1 (UInt8.ofNat (a + 1)) := ⟨_, rfl⟩
  obtain ⟨B, hBe⟩ : ∃ B, B = shareAt x0 x1 (UInt8.ofNat (b + 1)) := ⟨_, rfl⟩
  obtain ⟨C, hCe⟩ : ∃ C, C = shareAt x0 x1 (UInt8.ofNat (c + 1)) := ⟨_, rfl⟩
  have hla : A.d.length = 32 := by rw [hAe]; exact shareAt_len _ _ _
  have hlb : B.d.length = 32 := by rw [hBe]; exact shareAt_len _ _ _
  have hlc : C.d.length = 32 := by rw [hCe]; exact shareAt_len _ _ _
  have nA : A.x ≠ 0 := by rw [hAe]; exact x_nz (by omega)
  have nB : B.x ≠ 0 := by rw [hBe]; exact x_nz (by omega)
  have nC : C.x ≠ 0 := by rw [hCe]; exact x_nz (by omega)
  have three : ∀ {s : Shr}, s ∈ [A, B, C] → s.d.length = 32 := fun hs' => by
    rcases List.mem_cons.1 hs' with rfl | hs'
    · exact hla
    · rcases List.mem_cons.1 hs' with rfl | hs'
      · exact hlb
      · rw [List.mem_singleton] at hs'; subst hs'; exact hlc
  have hJ := join_spec [A, B, C] (by simp) (fun s h => three h)
  have pJ := pl_join (joinS [A, B, C])
  have hA1 := hasShr A hla
  have hB1 := hasShr B hlb
  have hC1 := hasShr C hlc
  have hall : (A.x = B.x ∨ A.x = C.x ∨ B.x = C.x) ∨ (A.x ≠ B.x ∧ A.x ≠ C.x ∧ B.x ≠ C.x) := by
    by_cases h1 : A.x = B.x
    · exact .inl (.inl h1)
    · by_cases h2 : A.x = C.x
      · exact .inl (.inr (.inl h2))
      · by_cases h3 : B.x = C.x
        · exact .inl (.inr (.inr h3))
        · exact .inr ⟨h1, h2, h3⟩
  have hany : (A.x ≠ B.x ∧ A.x ≠ C.x ∧ B.x ≠ C.x) → joinS [A, B, C] = (x0, 0) := fun ⟨h1, h2, h3⟩ => by
    have := join_any x0 x1 hs (x := A.x) (y := B.x) (z := C.x) nA nB nC h1 h2 h3
    have eA : shareAt x0 x1 A.x = A := by rw [hAe]; rfl
    have eB : shareAt x0 x1 B.x = B := by rw [hBe]; rfl
    have eC : shareAt x0 x1 C.x = C := by rw [hCe]; rfl
    rwa [eA, eB, eC] at this
  rw [← hAe] at sa ga
  rw [← hBe] at sb gb
  rw [← hCe] at sc gc
  simp only [encShr] at ga gb gc
  clear hL hAe hBe hCe
  rcases hall with hd | hd
  · rw [join_same A B C hd] at hJ pJ
    simp only [joinV] at hJ pJ
    have hfz := fit_key (List.replicate 32 0) (by simp)
    have hKz := hasKey (List.replicate 32 0) (by simp)
    have vz := veq_key (List.replicate 32 0) (List.replicate 32 0)
    rw [decide_eq_true rfl] at vz
    have z0 : (VV.agg (List.replicate 32 (.int .u8 0))) = encKey (List.replicate 32 0) := rfl
    have hd8 : B8 A.x = B8 B.x ∨ B8 A.x = B8 C.x ∨ B8 B.x = B8 C.x := by
      rcases hd with h | h | h
      · exact .inl (by rw [h])
      · exact .inr (.inl (by rw [h]))
      · exact .inr (.inr (by rw [h]))
    clear hany
    generalize List.replicate 32 (0 : UInt8) = kz at *
    refine spec_ok Try.func8 rfl rfl (by kernel_rfl) (k := 6) rfl (by decide) ?_
    repeat' (first | (with_reducible first | refine ok_seq ?_ | refine xs1 ?_ | refine xs2 ?_ | refine xs3 ?_ | refine xb1 ?_ | refine xb2 ?_ | refine xb3 (by decide) ?_ | refine xb4 ?_ | refine xl2 ?_ | refine xl3 ?_ | refine xc2 ?_ | refine xc3 ?_ | refine ok_block ?_ | refine ok_scope ?_ | refine ok_skip ?_ | refine ok_label ?_ | refine ok_exit ?_ | refine ok_ret ?_ | refine ok_region (fun M hM => ?_) | refine vif_t ?_ | refine vif_f ?_ | refine fin_normal ?_ | refine fin_ret ?_ | (refine hM _ ?_; clear hM M) | refine vcallW_intro (call_data (by assumption) ?_ rfl ?_) | refine vcallHW_intro (hcall_data (by assumption) rfl ?_) ?_) | ((with_reducible refine nls_q ?_) <;> (first | rfl | assumption | (simp only [znl,nls_u,nls_shr,nl_shr]; (first | done | fail)))) | (with_reducible refine ok_cond (by (simp only [↓reduceIte,zlk,Nat.reduceEqDiff,reduceCtorEq]); exact rfl) ?_) | ((with_reducible first | refine vif_intro (fun hc => ?_) (fun hc => ?_) | refine vifW_intro (fun hc => ?_) (fun hc => ?_)) <;> (try simp (disch := omega) only [zhb] at hc) <;> (try (exfalso; omega)) <;> (try subst hc)) | (with_reducible refine cndW_intro (by omega) ?_) | (simp (config := { maxSteps := 400000 }) only [↓zvs_pre,↓reduceIte,zvs,reduceCtorEq,Nat.reduceEqDiff,Nat.reduceAdd,Nat.reduceLeDiff,Nat.reduceMul,Int.reduceBNe,Int.reduceBEq,Int.reduceEq,Int.reduceNe,Int.reduceLT,Int.reduceLE,Int.reduceGT,Int.reduceGE,Int.reduceNeg,Int.reduceToNat,Nat.reduceLT,Nat.reduceSub,tab,hK,hN,eM,Try.results8,List.toList_toArray]) | (simp (disch := omega) only [ziw]))
    refine ok_draw 10 (by kernel_rfl) (by decide +kernel) (by intro m hm; simp only [upd_ap,rows_cons,rows_nil]; (repeat (first | rfl | rw [if_neg (by omega)]))) (fun M hM => ?_); simp only [List.take_succ_cons,List.take_zero,List.drop_succ_cons,List.drop_zero]
    repeat' (first | (with_reducible first | refine ok_seq ?_ | refine xs1 ?_ | refine xs2 ?_ | refine xs3 ?_ | refine xb1 ?_ | refine xb2 ?_ | refine xb3 (by decide) ?_ | refine xb4 ?_ | refine xl2 ?_ | refine xl3 ?_ | refine xc2 ?_ | refine xc3 ?_ | refine ok_block ?_ | refine ok_scope ?_ | refine ok_skip ?_ | refine ok_label ?_ | refine ok_exit ?_ | refine ok_ret ?_ | refine ok_region (fun M hM => ?_) | refine vif_t ?_ | refine vif_f ?_ | refine fin_normal ?_ | refine fin_ret ?_ | (refine hM _ ?_; clear hM M) | refine vcallW_intro (call_data (by assumption) ?_ rfl ?_) | refine vcallHW_intro (hcall_data (by assumption) rfl ?_) ?_) | ((with_reducible refine nls_q ?_) <;> (first | rfl | assumption | (simp only [znl,nls_u,nls_shr,nl_shr]; (first | done | fail)))) | (with_reducible refine ok_cond (by (simp only [↓reduceIte,zlk,Nat.reduceEqDiff,reduceCtorEq]); exact rfl) ?_) | ((with_reducible first | refine vif_intro (fun hc => ?_) (fun hc => ?_) | refine vifW_intro (fun hc => ?_) (fun hc => ?_)) <;> (try simp (disch := omega) only [zhb] at hc) <;> (try (exfalso; omega)) <;> (try subst hc)) | (with_reducible refine cndW_intro (by omega) ?_) | (simp (config := { maxSteps := 400000 }) only [↓zvs_pre,↓reduceIte,zvs,reduceCtorEq,Nat.reduceEqDiff,Nat.reduceAdd,Nat.reduceLeDiff,Nat.reduceMul,Int.reduceBNe,Int.reduceBEq,Int.reduceEq,Int.reduceNe,Int.reduceLT,Int.reduceLE,Int.reduceGT,Int.reduceGE,Int.reduceNeg,Int.reduceToNat,Nat.reduceLT,Nat.reduceSub,tab,hK,hN,hbt,hb64,hn,Try.results8,List.toList_toArray]) | (simp (disch := omega) only [ziw]))
    all_goals first
      | (exfalso; omega)
      | skip
    refine ok_drawS 27 [0, 1, 2, 3, 4, 5, 6, 7, 8, 9, 10, 11, 12, 13, 14, 15, 16, 17, 18, 19, 20, 21, 22, 23] [(24, 21, 1986), (25, 22, 2050), (26, 23, 2114)] [] [] (by kernel_rfl) (by decide +kernel) (by decide) (by decide) (by decide) olds_nil (by intro m hm; simp only [upd_ap,rows_cons,rows_nil]; (repeat (first | rfl | rw [if_neg (by omega)]))) (fun M hM => ?_); simp only [picks,storesAt_nil,storesAt_cons,hides_nil,hides_cons,shows_nil,shows_cons,List.getElem?_cons_succ,List.getElem?_cons_zero,List.drop_succ_cons,List.drop_zero]
    repeat' (first | (with_reducible first | refine ok_seq ?_ | refine xs1 ?_ | refine xs2 ?_ | refine xs3 ?_ | refine xb1 ?_ | refine xb2 ?_ | refine xb3 (by decide) ?_ | refine xb4 ?_ | refine xl2 ?_ | refine xl3 ?_ | refine xc2 ?_ | refine xc3 ?_ | refine ok_block ?_ | refine ok_scope ?_ | refine ok_skip ?_ | refine ok_label ?_ | refine ok_exit ?_ | refine ok_ret ?_ | refine ok_region (fun M hM => ?_) | refine vif_t ?_ | refine vif_f ?_ | refine fin_normal ?_ | refine fin_ret ?_ | (refine hM _ ?_; clear hM M) | refine vcallW_intro (call_data (by assumption) ?_ rfl ?_) | refine vcallHW_intro (hcall_data (by assumption) rfl ?_) ?_) | ((with_reducible refine nls_q ?_) <;> (first | rfl | assumption | (simp only [znl,nls_u,nls_shr,nl_shr]; (first | done | fail)))) | (with_reducible refine ok_cond (by (simp only [↓reduceIte,zlk,Nat.reduceEqDiff,reduceCtorEq]); exact rfl) ?_) | ((with_reducible first | refine vif_intro (fun hc => ?_) (fun hc => ?_) | refine vifW_intro (fun hc => ?_) (fun hc => ?_)) <;> (try simp (disch := omega) only [zhb] at hc) <;> (try (exfalso; omega)) <;> (try subst hc)) | (with_reducible refine cndW_intro (by omega) ?_) | (simp (config := { maxSteps := 400000 }) only [↓zvs_pre,↓reduceIte,zvs,reduceCtorEq,Nat.reduceEqDiff,Nat.reduceAdd,Nat.reduceLeDiff,Nat.reduceMul,Int.reduceBNe,Int.reduceBEq,Int.reduceEq,Int.reduceNe,Int.reduceLT,Int.reduceLE,Int.reduceGT,Int.reduceGE,Int.reduceNeg,Int.reduceToNat,Nat.reduceLT,Nat.reduceSub,tab,ta,tb,tc,ea,eb,ec,sa,sb,sc,encShr,hA1,hB1,hC1,storeAt_go,isP_ptr,setParts,Try.results8,List.toList_toArray]) | (simp (disch := omega) only [ziw]))
    refine vcallW_intro (call_plain hJ (rd_three (by (simp only [↓reduceIte,zlk,Nat.reduceEqDiff,reduceCtorEq]); exact rfl)) rfl pJ ?_)
    repeat' (first | (with_reducible first | refine ok_seq ?_ | refine xs1 ?_ | refine xs2 ?_ | refine xs3 ?_ | refine xb1 ?_ | refine xb2 ?_ | refine xb3 (by decide) ?_ | refine xb4 ?_ | refine xl2 ?_ | refine xl3 ?_ | refine xc2 ?_ | refine xc3 ?_ | refine ok_block ?_ | refine ok_scope ?_ | refine ok_skip ?_ | refine ok_label ?_ | refine ok_exit ?_ | refine ok_ret ?_ | refine ok_region (fun M hM => ?_) | refine vif_t ?_ | refine vif_f ?_ | refine fin_normal ?_ | refine fin_ret ?_ | (refine hM _ ?_; clear hM M) | refine vcallW_intro (call_data (by assumption) ?_ rfl ?_) | refine vcallHW_intro (hcall_data (by assumption) rfl ?_) ?_) | ((with_reducible refine nls_q ?_) <;> (first | rfl | assumption | (simp only [znl,nls_u,nls_shr,nl_shr]; (first | done | fail)))) | (with_reducible refine ok_cond (by (simp only [↓reduceIte,zlk,Nat.reduceEqDiff,reduceCtorEq]); exact rfl) ?_) | ((with_reducible first | refine vif_intro (fun hc => ?_) (fun hc => ?_) | refine vifW_intro (fun hc => ?_) (fun hc => ?_)) <;> (try simp (disch := omega) only [zhb] at hc) <;> (try (exfalso; omega)) <;> (try subst hc)) | (with_reducible refine cndW_intro (by omega) ?_) | (simp (config := { maxSteps := 400000 }) only [↓zvs_pre,↓reduceIte,zvs,reduceCtorEq,Nat.reduceEqDiff,Nat.reduceAdd,Nat.reduceLeDiff,Nat.reduceMul,Int.reduceBNe,Int.reduceBEq,Int.reduceEq,Int.reduceNe,Int.reduceLT,Int.reduceLE,Int.reduceGT,Int.reduceGE,Int.reduceNeg,Int.reduceToNat,Nat.reduceLT,Nat.reduceSub,tab,hfz,hKz,vz,z0,encShr,hA1,hB1,hC1,Try.results8,List.toList_toArray]) | (simp (disch := omega) only [ziw]))
    all_goals first
      | (exfalso; omega)
      | (simp only [zrds]; done)
      | trace_state
  · have hke := hany hd
    rw [hke] at hJ pJ
    simp only [joinV] at hJ pJ
    have hr : rightS [A, B, C] = true := decide_eq_true (show A.x ≠ 0 ∧ B.x ≠ 0 ∧ C.x ≠ 0 ∧ A.x ≠ B.x ∧ A.x ≠ C.x ∧ B.x ≠ C.x from ⟨nA, nB, nC, hd⟩)
    obtain ⟨k, hk, hkl, hkn⟩ := join_bent A B C hlc hr
    rw [joinS_right _ hr] at hke
    have hkx : keyAt A B C 0 = x0 := congrArg Prod.fst hke
    rw [hkx] at hkn
    have hJ2 := join_spec [A, B, bent C] (by simp) (fun s h => by
      rcases List.mem_cons.1 h with rfl | h
      · exact hla
      · rcases List.mem_cons.1 h with rfl | h
        · exact hlb
        · rw [List.mem_singleton] at h; subst h; rw [bent_len]; exact hlc)
    have pJ2 := pl_join (joinS [A, B, bent C])
    rw [hk] at hJ2 pJ2
    simp only [joinV] at hJ2 pJ2
    have hfz := fit_key x0 hs
    have hfk := fit_key k hkl
    have hKk := hasKey k hkl
    have vz := veq_key x0 x0
    rw [decide_eq_true rfl] at vz
    have vk := veq_key k x0
    rw [decide_eq_false hkn] at vk
    have n1 := B8_ne hd.1
    have n2 := B8_ne hd.2.1
    have n3 := B8_ne hd.2.2
    have hbl := bent_len C
    have hD1 := hasShr (bent C) (by rw [hbl]; exact hlc)
    have hKb := hasKey (bent C).d (by rw [hbl]; exact hlc)
    have hg0 := get_u C.d 0 (by omega)
    have hset : (C.d.map encU).set 0 (.int .u8 (B8 (Gf.nth C.d 0 + 1))) = (bent C).d.map encU := by rw [bent, List.map_set]; rfl
    clear hany hke hk hkx hkn
    refine spec_ok Try.func8 rfl rfl (by kernel_rfl) (k := 6) rfl (by decide) ?_
    repeat' (first | (with_reducible first | refine ok_seq ?_ | refine xs1 ?_ | refine xs2 ?_ | refine xs3 ?_ | refine xb1 ?_ | refine xb2 ?_ | refine xb3 (by decide) ?_ | refine xb4 ?_ | refine xl2 ?_ | refine xl3 ?_ | refine xc2 ?_ | refine xc3 ?_ | refine ok_block ?_ | refine ok_scope ?_ | refine ok_skip ?_ | refine ok_label ?_ | refine ok_exit ?_ | refine ok_ret ?_ | refine ok_region (fun M hM => ?_) | refine vif_t ?_ | refine vif_f ?_ | refine fin_normal ?_ | refine fin_ret ?_ | (refine hM _ ?_; clear hM M) | refine vcallW_intro (call_data (by assumption) ?_ rfl ?_) | refine vcallHW_intro (hcall_data (by assumption) rfl ?_) ?_) | ((with_reducible refine nls_q ?_) <;> (first | rfl | assumption | (simp only [znl,nls_u,nls_shr,nl_shr]; (first | done | fail)))) | (with_reducible refine ok_cond (by (simp only [↓reduceIte,zlk,Nat.reduceEqDiff,reduceCtorEq]); exact rfl) ?_) | ((with_reducible first | refine vif_intro (fun hc => ?_) (fun hc => ?_) | refine vifW_intro (fun hc => ?_) (fun hc => ?_)) <;> (try simp (disch := omega) only [zhb] at hc) <;> (try (exfalso; omega)) <;> (try subst hc)) | (with_reducible refine cndW_intro (by omega) ?_) | (simp (config := { maxSteps := 400000 }) only [↓zvs_pre,↓reduceIte,zvs,reduceCtorEq,Nat.reduceEqDiff,Nat.reduceAdd,Nat.reduceLeDiff,Nat.reduceMul,Int.reduceBNe,Int.reduceBEq,Int.reduceEq,Int.reduceNe,Int.reduceLT,Int.reduceLE,Int.reduceGT,Int.reduceGE,Int.reduceNeg,Int.reduceToNat,Nat.reduceLT,Nat.reduceSub,tab,hK,hN,eM,Try.results8,List.toList_toArray]) | (simp (disch := omega) only [ziw]))
    refine ok_draw 10 (by kernel_rfl) (by decide +kernel) (by intro m hm; simp only [upd_ap,rows_cons,rows_nil]; (repeat (first | rfl | rw [if_neg (by omega)]))) (fun M hM => ?_); simp only [List.take_succ_cons,List.take_zero,List.drop_succ_cons,List.drop_zero]
    repeat' (first | (with_reducible first | refine ok_seq ?_ | refine xs1 ?_ | refine xs2 ?_ | refine xs3 ?_ | refine xb1 ?_ | refine xb2 ?_ | refine xb3 (by decide) ?_ | refine xb4 ?_ | refine xl2 ?_ | refine xl3 ?_ | refine xc2 ?_ | refine xc3 ?_ | refine ok_block ?_ | refine ok_scope ?_ | refine ok_skip ?_ | refine ok_label ?_ | refine ok_exit ?_ | refine ok_ret ?_ | refine ok_region (fun M hM => ?_) | refine vif_t ?_ | refine vif_f ?_ | refine fin_normal ?_ | refine fin_ret ?_ | (refine hM _ ?_; clear hM M) | refine vcallW_intro (call_data (by assumption) ?_ rfl ?_) | refine vcallHW_intro (hcall_data (by assumption) rfl ?_) ?_) | ((with_reducible refine nls_q ?_) <;> (first | rfl | assumption | (simp only [znl,nls_u,nls_shr,nl_shr]; (first | done | fail)))) | (with_reducible refine ok_cond (by (simp only [↓reduceIte,zlk,Nat.reduceEqDiff,reduceCtorEq]); exact rfl) ?_) | ((with_reducible first | refine vif_intro (fun hc => ?_) (fun hc => ?_) | refine vifW_intro (fun hc => ?_) (fun hc => ?_)) <;> (try simp (disch := omega) only [zhb] at hc) <;> (try (exfalso; omega)) <;> (try subst hc)) | (with_reducible refine cndW_intro (by omega) ?_) | (simp (config := { maxSteps := 400000 }) only [↓zvs_pre,↓reduceIte,zvs,reduceCtorEq,Nat.reduceEqDiff,Nat.reduceAdd,Nat.reduceLeDiff,Nat.reduceMul,Int.reduceBNe,Int.reduceBEq,Int.reduceEq,Int.reduceNe,Int.reduceLT,Int.reduceLE,Int.reduceGT,Int.reduceGE,Int.reduceNeg,Int.reduceToNat,Nat.reduceLT,Nat.reduceSub,tab,hK,hN,hbt,hb64,hn,Try.results8,List.toList_toArray]) | (simp (disch := omega) only [ziw]))
    all_goals first
      | (exfalso; omega)
      | skip
    refine ok_drawS 27 [0, 1, 2, 3, 4, 5, 6, 7, 8, 9, 10, 11, 12, 13, 14, 15, 16, 17, 18, 19, 20, 21, 22, 23] [(24, 21, 1986), (25, 22, 2050), (26, 23, 2114)] [] [] (by kernel_rfl) (by decide +kernel) (by decide) (by decide) (by decide) olds_nil (by intro m hm; simp only [upd_ap,rows_cons,rows_nil]; (repeat (first | rfl | rw [if_neg (by omega)]))) (fun M hM => ?_); simp only [picks,storesAt_nil,storesAt_cons,hides_nil,hides_cons,shows_nil,shows_cons,List.getElem?_cons_succ,List.getElem?_cons_zero,List.drop_succ_cons,List.drop_zero]
    repeat' (first | (with_reducible first | refine ok_seq ?_ | refine xs1 ?_ | refine xs2 ?_ | refine xs3 ?_ | refine xb1 ?_ | refine xb2 ?_ | refine xb3 (by decide) ?_ | refine xb4 ?_ | refine xl2 ?_ | refine xl3 ?_ | refine xc2 ?_ | refine xc3 ?_ | refine ok_block ?_ | refine ok_scope ?_ | refine ok_skip ?_ | refine ok_label ?_ | refine ok_exit ?_ | refine ok_ret ?_ | refine ok_region (fun M hM => ?_) | refine vif_t ?_ | refine vif_f ?_ | refine fin_normal ?_ | refine fin_ret ?_ | (refine hM _ ?_; clear hM M) | refine vcallW_intro (call_data (by assumption) ?_ rfl ?_) | refine vcallHW_intro (hcall_data (by assumption) rfl ?_) ?_) | ((with_reducible refine nls_q ?_) <;> (first | rfl | assumption | (simp only [znl,nls_u,nls_shr,nl_shr]; (first | done | fail)))) | (with_reducible refine ok_cond (by (simp only [↓reduceIte,zlk,Nat.reduceEqDiff,reduceCtorEq]); exact rfl) ?_) | ((with_reducible first | refine vif_intro (fun hc => ?_) (fun hc => ?_) | refine vifW_intro (fun hc => ?_) (fun hc => ?_)) <;> (try simp (disch := omega) only [zhb] at hc) <;> (try (exfalso; omega)) <;> (try subst hc)) | (with_reducible refine cndW_intro (by omega) ?_) | (simp (config := { maxSteps := 400000 }) only [↓zvs_pre,↓reduceIte,zvs,reduceCtorEq,Nat.reduceEqDiff,Nat.reduceAdd,Nat.reduceLeDiff,Nat.reduceMul,Int.reduceBNe,Int.reduceBEq,Int.reduceEq,Int.reduceNe,Int.reduceLT,Int.reduceLE,Int.reduceGT,Int.reduceGE,Int.reduceNeg,Int.reduceToNat,Nat.reduceLT,Nat.reduceSub,tab,ta,tb,tc,ea,eb,ec,sa,sb,sc,encShr,hA1,hB1,hC1,storeAt_go,isP_ptr,setParts,Try.results8,List.toList_toArray]) | (simp (disch := omega) only [ziw]))
    refine vcallW_intro (call_plain hJ (rd_three (by (simp only [↓reduceIte,zlk,Nat.reduceEqDiff,reduceCtorEq]); exact rfl)) rfl pJ ?_)
    repeat' (first | (with_reducible first | refine ok_seq ?_ | refine xs1 ?_ | refine xs2 ?_ | refine xs3 ?_ | refine xb1 ?_ | refine xb2 ?_ | refine xb3 (by decide) ?_ | refine xb4 ?_ | refine xl2 ?_ | refine xl3 ?_ | refine xc2 ?_ | refine xc3 ?_ | refine ok_block ?_ | refine ok_scope ?_ | refine ok_skip ?_ | refine ok_label ?_ | refine ok_exit ?_ | refine ok_ret ?_ | refine ok_region (fun M hM => ?_) | refine vif_t ?_ | refine vif_f ?_ | refine fin_normal ?_ | refine fin_ret ?_ | (refine hM _ ?_; clear hM M) | refine vcallW_intro (call_data (by assumption) ?_ rfl ?_) | refine vcallHW_intro (hcall_data (by assumption) rfl ?_) ?_) | ((with_reducible refine nls_q ?_) <;> (first | rfl | assumption | (simp only [znl,nls_u,nls_shr,nl_shr]; (first | done | fail)))) | (with_reducible refine ok_cond (by (simp only [↓reduceIte,zlk,Nat.reduceEqDiff,reduceCtorEq]); exact rfl) ?_) | ((with_reducible first | refine vif_intro (fun hc => ?_) (fun hc => ?_) | refine vifW_intro (fun hc => ?_) (fun hc => ?_)) <;> (try simp (disch := omega) only [zhb] at hc) <;> (try (exfalso; omega)) <;> (try subst hc)) | (with_reducible refine cndW_intro (by omega) ?_) | (simp (config := { maxSteps := 400000 }) only [↓zvs_pre,↓reduceIte,zvs,reduceCtorEq,Nat.reduceEqDiff,Nat.reduceAdd,Nat.reduceLeDiff,Nat.reduceMul,Int.reduceBNe,Int.reduceBEq,Int.reduceEq,Int.reduceNe,Int.reduceLT,Int.reduceLE,Int.reduceGT,Int.reduceGE,Int.reduceNeg,Int.reduceToNat,Nat.reduceLT,Nat.reduceSub,tab,hK,hKk,hfz,hfk,vz,vk,hKb,encShr,hA1,hB1,hC1,hg0,hset,hD1,B8_succ,Try.results8,List.toList_toArray]) | (simp (disch := omega) only [ziw]))
    all_goals first
      | (exfalso; omega)
      | skip
    refine vcallW_intro (call_plain hJ2 (rd_three (c := bent C) (by (simp only [↓reduceIte,zlk,Nat.reduceEqDiff,reduceCtorEq]); exact rfl)) rfl pJ2 ?_)
    repeat' (first | (with_reducible first | refine ok_seq ?_ | refine xs1 ?_ | refine xs2 ?_ | refine xs3 ?_ | refine xb1 ?_ | refine xb2 ?_ | refine xb3 (by decide) ?_ | refine xb4 ?_ | refine xl2 ?_ | refine xl3 ?_ | refine xc2 ?_ | refine xc3 ?_ | refine ok_block ?_ | refine ok_scope ?_ | refine ok_skip ?_ | refine ok_label ?_ | refine ok_exit ?_ | refine ok_ret ?_ | refine ok_region (fun M hM => ?_) | refine vif_t ?_ | refine vif_f ?_ | refine fin_normal ?_ | refine fin_ret ?_ | (refine hM _ ?_; clear hM M) | refine vcallW_intro (call_data (by assumption) ?_ rfl ?_) | refine vcallHW_intro (hcall_data (by assumption) rfl ?_) ?_) | ((with_reducible refine nls_q ?_) <;> (first | rfl | assumption | (simp only [znl,nls_u,nls_shr,nl_shr]; (first | done | fail)))) | (with_reducible refine ok_cond (by (simp only [↓reduceIte,zlk,Nat.reduceEqDiff,reduceCtorEq]); exact rfl) ?_) | ((with_reducible first | refine vif_intro (fun hc => ?_) (fun hc => ?_) | refine vifW_intro (fun hc => ?_) (fun hc => ?_)) <;> (try simp (disch := omega) only [zhb] at hc) <;> (try (exfalso; omega)) <;> (try subst hc)) | (with_reducible refine cndW_intro (by omega) ?_) | (simp (config := { maxSteps := 400000 }) only [↓zvs_pre,↓reduceIte,zvs,reduceCtorEq,Nat.reduceEqDiff,Nat.reduceAdd,Nat.reduceLeDiff,Nat.reduceMul,Int.reduceBNe,Int.reduceBEq,Int.reduceEq,Int.reduceNe,Int.reduceLT,Int.reduceLE,Int.reduceGT,Int.reduceGE,Int.reduceNeg,Int.reduceToNat,Nat.reduceLT,Nat.reduceSub,tab,hK,hKk,hfz,hfk,vz,vk,hKb,encShr,hA1,hB1,hC1,hD1,Try.results8,List.toList_toArray]) | (simp (disch := omega) only [ziw]))
    all_goals first
      | (exfalso; omega)
      | (simp only [zrds]; done)
      | trace_state
end Go.Proofs.Ytndbfphmjmhkjaa.V
