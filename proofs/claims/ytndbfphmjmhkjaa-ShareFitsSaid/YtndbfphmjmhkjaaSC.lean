/-
  SHARES, part C: the coefficients; the law ShareFits.
-/
import Derived.Test.YtndbfphmjmhkjaaSA
import Derived.Test.YtndbfphmjmhkjaaS9
import Derived.Test.YtndbfphmjmhkjaaS7
set_option linter.unusedVariables false
set_option linter.unusedSimpArgs false
namespace Go.Proofs.Ytndbfphmjmhkjaa.V
open Go Go.Proofs.Ytndbfphmjmhkjaa
set_option maxRecDepth 100000
-- nlx: nls_u, nls_shr, nl_shr
set_option maxHeartbeats 1000000
def coQ (sec : List UInt8) (a b c : Shr) (i : Nat) : UInt8 := Gf.mul ((valAt a b c 1 i ^^^ Gf.nth sec i) ^^^ Gf.mul (valAt a b c 2 i ^^^ Gf.nth sec i) (Gf.inv 2)) (Gf.inv 3)
def coP (sec : List UInt8) (a b c : Shr) (i : Nat) : UInt8 := (valAt a b c 1 i ^^^ Gf.nth sec i) ^^^ coQ sec a b c i
/-- two rows of 32, filled from the front -/
def twoN (f g : Nat → UInt8) (i : Nat) : List UInt8 := fillU 32 i f ++ fillU 32 i g
theorem twoN_len (f g : Nat → UInt8) (i : Nat) (h : i ≤ 32) : (twoN f g i).length = 64 := by
  rw [twoN, List.length_append, fillU_len _ _ _ h, fillU_len _ _ _ h]
theorem twoN_zero (f g : Nat → UInt8) : (twoN f g 0).map encU = List.replicate 64 (.int .u8 0) := by
  rw [twoN, fillU_zero, fillU_zero]; rfl
theorem twoN_set1 (f g : Nat → UInt8) (i : Nat) (h : i < 32) : ((twoN f g i).map encU).set i (.int .u8 (B8 (f i))) = (fillU 32 (i + 1) f ++ fillU 32 i g).map encU := by
  rw [twoN, List.map_append, List.set_append_left _ _ (by rw [List.length_map, fillU_len _ _ _ (by omega)]; omega), fillU_setV _ _ _ h, List.map_append]
theorem twoN_set2 (f g : Nat → UInt8) (i : Nat) (h : i < 32) : ((fillU 32 (i + 1) f ++ fillU 32 i g).map encU).set (32 + i) (.int .u8 (B8 (g i))) = (twoN f g (i + 1)).map encU := by
  rw [twoN, List.map_append, List.set_append_right _ _ (by rw [List.length_map, fillU_len _ _ _ (by omega)]; omega), List.length_map, fillU_len _ _ _ (by omega), show 32 + i - 32 = i by omega, fillU_setV _ _ _ h, List.map_append]
theorem fit_third (o : List UInt8) {A B : Shr} (hA : A.d.length = 32) (hB : B.d.length = 32) {x : UInt8} (ha : A.x ≠ 0) (hb : B.x ≠ 0) (hab : A.x ≠ B.x) (hx : x ≠ 0) (hxa : x ≠ A.x) (hxb : x ≠ B.x) :
    shareAt o (twoN (coP o A B (thirdS o A B x)) (coQ o A B (thirdS o A B x)) 32) A.x = A ∧ shareAt o (twoN (coP o A B (thirdS o A B x)) (coQ o A B (thirdS o A B x)) 32) B.x = B := by
  obtain ⟨C, hC⟩ : ∃ C, C = thirdS o A B x := ⟨_, rfl⟩
  rw [← hC]
  have hcx : C.x = x := by rw [hC]; rfl
  have key : ∀ j, j < 32 → Gf.nth (twoN (coP o A B C) (coQ o A B C) 32) j = coP o A B C j ∧ Gf.nth (twoN (coP o A B C) (coQ o A B C) 32) (32 + j) = coQ o A B C j := fun j hj => by
    rw [twoN, fillU_all, fillU_all]
    exact ⟨by rw [nth_app_left (by rw [tabU_len]; exact hj), tabU_nth _ _ _ hj], by rw [nth_app_right (tabU_len _ _), tabU_nth _ _ _ hj]⟩
  have hdis : A.x ≠ B.x ∧ A.x ≠ C.x ∧ B.x ≠ C.x := by rw [hcx]; exact ⟨hab, Ne.symm hxa, Ne.symm hxb⟩
  have val : ∀ t j, valAt A B C t j = Gf.lag [A.x, B.x, C.x] [Gf.nth A.d j, Gf.nth B.d j, Gf.nth C.d j] t := fun t j => by
    rw [valAt, atVal, atOk3, if_pos (decide_eq_true hdis)]
  have zero : ∀ j, j < 32 → Gf.lag [A.x, B.x, C.x] [Gf.nth A.d j, Gf.nth B.d j, Gf.nth C.d j] 0 = Gf.nth o j := fun j hj => by
    have e : Gf.nth C.d j = Gf.lag [0, A.x, B.x] [Gf.nth o j, Gf.nth A.d j, Gf.nth B.d j] x := by
      rw [hC]; simp only [thirdS]
      rw [tabU_nth _ _ _ hj, atVal, atOk3, if_pos (decide_eq_true ⟨Ne.symm ha, Ne.symm hb, hab⟩)]
    rw [e, hcx]
    exact Gf.blind _ _ _ ha hb hab hx hxa hxb
  have ev : ∀ j, j < 32 → ∀ y, Gf.eval [Gf.nth o j, coP o A B C j, coQ o A B C j] y = Gf.lag [A.x, B.x, C.x] [Gf.nth A.d j, Gf.nth B.d j, Gf.nth C.d j] y := fun j hj y => by
    have h := Gf.coeffs (Gf.deg3 A.x B.x C.x (Gf.nth A.d j) (Gf.nth B.d j) (Gf.nth C.d j)) y
    rw [zero j hj] at h
    rw [coP, coQ, val, val]
    exact h
  have pts := fun j => Gf.lag3_at hdis.1 hdis.2.1 hdis.2.2 (Gf.nth A.d j) (Gf.nth B.d j) (Gf.nth C.d j)
  constructor
  · have e : shareAt o (twoN (coP o A B C) (coQ o A B C) 32) A.x = ⟨A.x, A.d⟩ := by
      simp only [shareAt]
      congr 1
      refine ext_nth (tabU_len _ _) hA fun j hj => ?_
      rw [tabU_nth _ _ _ hj, (key j hj).1, (key j hj).2, ev j hj]
      exact (pts j).1
    exact e
  · have e : shareAt o (twoN (coP o A B C) (coQ o A B C) 32) B.x = ⟨B.x, B.d⟩ := by
      simp only [shareAt]
      congr 1
      refine ext_nth (tabU_len _ _) hB fun j hj => ?_
      rw [tabU_nth _ _ _ hj, (key j hj).1, (key j hj).2, ev j hj]
      exact (pts j).2.1
    exact e
theorem coeff_spec (sec : List UInt8) (hs : sec.length = 32) (a b c : Shr) (ha : a.d.length = 32) (hb : b.d.length = 32) (hc : c.d.length = 32) (i : Nat) (hi : i < 32) :
    Spec Try.prog 18 [encShrs [a, b, c], encKey sec, .int .i64 i] (.tup [.int .u8 (B8 (coP sec a b c i)), .int .u8 (B8 (coQ sec a b c i))]) := by
  have hK := hasKey sec hs
  have k1 := kat_spec a b c ha hb hc 1
  have k2 := kat_spec a b c ha hb hc 2
  have b1 : B8 1 = 1 := rfl
  have b2 : B8 2 = 2 := rfl
  have b3 : B8 3 = 3 := rfl
  rw [b1] at k1
  rw [b2] at k2
  have g1 := get_u (tabU 32 (valAt a b c 1)) i (by rw [tabU_len]; exact hi)
  have g2 := get_u (tabU 32 (valAt a b c 2)) i (by rw [tabU_len]; exact hi)
  have gs := get_u sec i (by omega)
  rw [tabU_nth _ _ _ hi] at g1 g2
  have hl1 := tabU_len 32 (valAt a b c 1)
  have hl2 := tabU_len 32 (valAt a b c 2)
  have hk1 := hasKey _ hl1
  have hk2 := hasKey _ hl2
  have i2 := rinv_spec 2
  have i3 := rinv_spec 3
  rw [b2] at i2
  rw [b3] at i3
  have m1 := rmul_spec (valAt a b c 2 i ^^^ Gf.nth sec i) (Gf.inv 2)
  have m2 := rmul_spec ((valAt a b c 1 i ^^^ Gf.nth sec i) ^^^ Gf.mul (valAt a b c 2 i ^^^ Gf.nth sec i) (Gf.inv 2)) (Gf.inv 3)
  obtain ⟨q, hq⟩ : ∃ q, q = coQ sec a b c i := ⟨_, rfl⟩
  have hp : coP sec a b c i = (valAt a b c 1 i ^^^ Gf.nth sec i) ^^^ q := by rw [hq]; rfl
  rw [hp, ← hq]
  rw [show Gf.mul ((valAt a b c 1 i ^^^ Gf.nth sec i) ^^^ Gf.mul (valAt a b c 2 i ^^^ Gf.nth sec i) (Gf.inv 2)) (Gf.inv 3) = q from hq.symm] at m2
  clear hq hp
  generalize tabU 32 (valAt a b c 1) = t1 at *
  generalize tabU 32 (valAt a b c 2) = t2 at *
  generalize valAt a b c 1 i = v1 at *
  generalize valAt a b c 2 i = v2 at *
  refine spec_ok Try.func18 rfl rfl (by kernel_rfl) (k := 3) rfl (by decide) ?_
  repeat' (first | (with_reducible first | refine ok_seq ?_ | refine xs1 ?_ | refine xs2 ?_ | refine xs3 ?_ | refine xb1 ?_ | refine xb2 ?_ | refine xb3 (by decide) ?_ | refine xb4 ?_ | refine xl2 ?_ | refine xl3 ?_ | refine xc2 ?_ | refine xc3 ?_ | refine ok_block ?_ | refine ok_scope ?_ | refine ok_skip ?_ | refine ok_label ?_ | refine ok_exit ?_ | refine ok_ret ?_ | refine ok_region (fun M hM => ?_) | refine vif_t ?_ | refine vif_f ?_ | refine fin_normal ?_ | refine fin_ret ?_ | (refine hM _ ?_; clear hM M) | refine vcallW_intro (call_data (by assumption) ?_ rfl ?_) | refine vcallHW_intro (hcall_data (by assumption) rfl ?_) ?_) | ((with_reducible refine nls_q ?_) <;> (first | rfl | assumption | (simp only [znl,nls_u,nls_shr,nl_shr]; (first | done | fail)))) | (with_reducible refine ok_cond (by (simp only [↓reduceIte,zlk,Nat.reduceEqDiff,reduceCtorEq]); exact rfl) ?_) | ((with_reducible first | refine vif_intro (fun hc => ?_) (fun hc => ?_) | refine vifW_intro (fun hc => ?_) (fun hc => ?_)) <;> (try simp (disch := omega) only [zhb] at hc) <;> (try (exfalso; omega)) <;> (try subst hc)) | (with_reducible refine cndW_intro (by omega) ?_) | (simp (config := { maxSteps := 400000 }) only [↓zvs_pre,↓reduceIte,zvs,reduceCtorEq,Nat.reduceEqDiff,Nat.reduceAdd,Nat.reduceLeDiff,Nat.reduceMul,Int.reduceBNe,Int.reduceBEq,Int.reduceEq,Int.reduceNe,Int.reduceLT,Int.reduceLE,Int.reduceGT,Int.reduceGE,Int.reduceNeg,Int.reduceToNat,Nat.reduceLT,Nat.reduceSub,tab,hK,gs,g1,g2,bits_xor8,Try.results18,List.toList_toArray]) | (simp (disch := omega) only [ziw]))
  refine ok_draw 7 (by kernel_rfl) (by decide +kernel) (by intro m hm; simp only [upd_ap,rows_cons,rows_nil]; (repeat (first | rfl | rw [if_neg (by omega)]))) (fun M hM => ?_); simp only [List.take_succ_cons,List.take_zero,List.drop_succ_cons,List.drop_zero]
  repeat' (first | (with_reducible first | refine ok_seq ?_ | refine xs1 ?_ | refine xs2 ?_ | refine xs3 ?_ | refine xb1 ?_ | refine xb2 ?_ | refine xb3 (by decide) ?_ | refine xb4 ?_ | refine xl2 ?_ | refine xl3 ?_ | refine xc2 ?_ | refine xc3 ?_ | refine ok_block ?_ | refine ok_scope ?_ | refine ok_skip ?_ | refine ok_label ?_ | refine ok_exit ?_ | refine ok_ret ?_ | refine ok_region (fun M hM => ?_) | refine vif_t ?_ | refine vif_f ?_ | refine fin_normal ?_ | refine fin_ret ?_ | (refine hM _ ?_; clear hM M) | refine vcallW_intro (call_data (by assumption) ?_ rfl ?_) | refine vcallHW_intro (hcall_data (by assumption) rfl ?_) ?_) | ((with_reducible refine nls_q ?_) <;> (first | rfl | assumption | (simp only [znl,nls_u,nls_shr,nl_shr]; (first | done | fail)))) | (with_reducible refine ok_cond (by (simp only [↓reduceIte,zlk,Nat.reduceEqDiff,reduceCtorEq]); exact rfl) ?_) | ((with_reducible first | refine vif_intro (fun hc => ?_) (fun hc => ?_) | refine vifW_intro (fun hc => ?_) (fun hc => ?_)) <;> (try simp (disch := omega) only [zhb] at hc) <;> (try (exfalso; omega)) <;> (try subst hc)) | (with_reducible refine cndW_intro (by omega) ?_) | (simp (config := { maxSteps := 400000 }) only [↓zvs_pre,↓reduceIte,zvs,reduceCtorEq,Nat.reduceEqDiff,Nat.reduceAdd,Nat.reduceLeDiff,Nat.reduceMul,Int.reduceBNe,Int.reduceBEq,Int.reduceEq,Int.reduceNe,Int.reduceLT,Int.reduceLE,Int.reduceGT,Int.reduceGE,Int.reduceNeg,Int.reduceToNat,Nat.reduceLT,Nat.reduceSub,tab,hK,hk1,hk2,gs,g1,g2,bits_xor8,Try.results18,List.toList_toArray]) | (simp (disch := omega) only [ziw]))
  refine ok_draw 9 (by kernel_rfl) (by decide +kernel) (by intro m hm; simp only [upd_ap,rows_cons,rows_nil]; (repeat (first | rfl | rw [if_neg (by omega)]))) (fun M hM => ?_); simp only [List.take_succ_cons,List.take_zero,List.drop_succ_cons,List.drop_zero]
  repeat' (first | (with_reducible first | refine ok_seq ?_ | refine xs1 ?_ | refine xs2 ?_ | refine xs3 ?_ | refine xb1 ?_ | refine xb2 ?_ | refine xb3 (by decide) ?_ | refine xb4 ?_ | refine xl2 ?_ | refine xl3 ?_ | refine xc2 ?_ | refine xc3 ?_ | refine ok_block ?_ | refine ok_scope ?_ | refine ok_skip ?_ | refine ok_label ?_ | refine ok_exit ?_ | refine ok_ret ?_ | refine ok_region (fun M hM => ?_) | refine vif_t ?_ | refine vif_f ?_ | refine fin_normal ?_ | refine fin_ret ?_ | (refine hM _ ?_; clear hM M) | refine vcallW_intro (call_data (by assumption) ?_ rfl ?_) | refine vcallHW_intro (hcall_data (by assumption) rfl ?_) ?_) | ((with_reducible refine nls_q ?_) <;> (first | rfl | assumption | (simp only [znl,nls_u,nls_shr,nl_shr]; (first | done | fail)))) | (with_reducible refine ok_cond (by (simp only [↓reduceIte,zlk,Nat.reduceEqDiff,reduceCtorEq]); exact rfl) ?_) | ((with_reducible first | refine vif_intro (fun hc => ?_) (fun hc => ?_) | refine vifW_intro (fun hc => ?_) (fun hc => ?_)) <;> (try simp (disch := omega) only [zhb] at hc) <;> (try (exfalso; omega)) <;> (try subst hc)) | (with_reducible refine cndW_intro (by omega) ?_) | (simp (config := { maxSteps := 400000 }) only [↓zvs_pre,↓reduceIte,zvs,reduceCtorEq,Nat.reduceEqDiff,Nat.reduceAdd,Nat.reduceLeDiff,Nat.reduceMul,Int.reduceBNe,Int.reduceBEq,Int.reduceEq,Int.reduceNe,Int.reduceLT,Int.reduceLE,Int.reduceGT,Int.reduceGE,Int.reduceNeg,Int.reduceToNat,Nat.reduceLT,Nat.reduceSub,tab,hK,hk1,hk2,gs,g1,g2,bits_xor8,Try.results18,List.toList_toArray]) | (simp (disch := omega) only [ziw]))
  all_goals first
    | (exfalso; omega)
    | (simp only [zrds]; done)
    | trace_state
/-- the greatest place below k that is neither a nor b -/
def thirdTo (a b : Nat) : Nat → Nat
  | 0 => 0
  | k + 1 => if k ≠ a ∧ k ≠ b then k else thirdTo a b k
theorem third_ok : ∀ a, a < 5 → ∀ b, b < 5 → thirdTo a b 5 ≠ a ∧ thirdTo a b 5 ≠ b ∧ thirdTo a b 5 < 5 := by decide
theorem thirdTo_le (a b : Nat) : ∀ k, thirdTo a b k ≤ k
  | 0 => Nat.le_refl _
  | k + 1 => by
    have := thirdTo_le a b k
    simp only [thirdTo]
    split <;> omega
theorem shareC (o : List UInt8) (A B : Shr) (x : UInt8) : (thirdS o A B x).d.length = 32 := tabU_len _ _
theorem fits_law (x0 x1 x2 : List UInt8) (x3 x4 : UInt8) (g0 : good (.arr 32 .u8) x0) (g1 : good (.arr 32 .u8) x1) (g2 : good (.arr 64 .u8) x2) (g3 : good .u8 x3) (g4 : good .u8 x4) (l0 : Ty.lite (.arr 32 .u8) x0) (l1 : Ty.lite (.arr 32 .u8) x1) (l2 : Ty.lite (.arr 64 .u8) x2) (l3 : Ty.lite .u8 x3) (l4 : Ty.lite .u8 x4) :
    Spec Try.prog 3 [toV (.arr 32 .u8) x0, toV (.arr 32 .u8) x1, toV (.arr 64 .u8) x2, toV .u8 x3, toV .u8 x4] (.bool true) := by
  have hs : x0.length = 32 := g0.1
  have ho : x1.length = 32 := g1.1
  have hn : x2.length = 64 := g2.1
  rw [toV_bytes, toV_bytes, toV_bytes]
  have hAl := alive6_spec
  have hK := hasKey x0 hs
  have hO := hasKey x1 ho
  have hN := hasKey64 x2 hn
  have hbt : bytesOf (List.take 64 (x2.map encU)) = some x2 := by rw [List.take_of_length_le (by rw [List.length_map]; omega)]; exact bytesOf_u x2
  have hb64 := bytesOf_u x2
  have e3 : toV .u8 x3 = .int .u8 (B8 x3) := rfl
  have e4 : toV .u8 x4 = .int .u8 (B8 x4) := rfl
  rw [e3, e4]
  have hp0 := B8_lo x3
  have hp1 := B8_hi x3
  have hq0 := B8_lo x4
  have hq1 := B8_hi x4
  have idx : ∀ p : UInt8, ∃ a : Nat, a < 5 ∧ (B8 p).tmod 5 = (a : Int) ∧ B8 p % 5 = (a : Int) := fun p => by
    refine ⟨p.toNat % 5, Nat.mod_lt _ (by omega), ?_, ?_⟩
    · rw [Int.tmod_eq_emod_of_nonneg (B8_lo p)]; unfold B8; push_cast; rfl
    · unfold B8; push_cast; rfl
  obtain ⟨a, ha, ta, ea⟩ := idx x3
  obtain ⟨b, hb, tb, eb⟩ := idx x4
  have hS := split_spec x0 x2 hs 5 (by omega) (by omega)
  rw [if_neg (by omega)] at hS
  obtain ⟨L, hL⟩ : ∃ L, L = splitS x0 x2 (5 : Int).toNat := ⟨_, rfl⟩
  have hLl : L.length = 5 := by rw [hL]; exact split_len _ _ _
  have sa := split_get x0 x2 5 a ha
  have sb := split_get x0 x2 5 b hb
  have h5 : (5 : Int).toNat = 5 := rfl
  rw [h5] at hL hS
  rw [← hL] at hS sa sb
  have ga := map_getD encShr L a (by omega)
  have gb := map_getD encShr L b (by omega)
  rw [sa] at ga
  rw [sb] at gb
  have hxa : (shareAt x0 x2 (UInt8.ofNat (a + 1))).x = UInt8.ofNat (a + 1) := rfl
  have hxb : (shareAt x0 x2 (UInt8.ofNat (b + 1))).x = UInt8.ofNat (b + 1) := rfl
  have hla := shareAt_len x0 x2 (UInt8.ofNat (a + 1))
  have hlb := shareAt_len x0 x2 (UInt8.ofNat (b + 1))
  generalize shareAt x0 x2 (UInt8.ofNat (a + 1)) = A at *
  generalize shareAt x0 x2 (UInt8.ofNat (b + 1)) = B at *
  have hA1 := hasShr A hla
  have hB1 := hasShr B hlb
  simp only [encShr] at ga gb
  clear hL
  refine spec_ok Try.func3 rfl rfl (by kernel_rfl) (k := 5) rfl (by decide) ?_
  repeat' (first | (with_reducible first | refine ok_seq ?_ | refine xs1 ?_ | refine xs2 ?_ | refine xs3 ?_ | refine xb1 ?_ | refine xb2 ?_ | refine xb3 (by decide) ?_ | refine xb4 ?_ | refine xl2 ?_ | refine xl3 ?_ | refine xc2 ?_ | refine xc3 ?_ | refine ok_block ?_ | refine ok_scope ?_ | refine ok_skip ?_ | refine ok_label ?_ | refine ok_exit ?_ | refine ok_ret ?_ | refine ok_region (fun M hM => ?_) | refine vif_t ?_ | refine vif_f ?_ | refine fin_normal ?_ | refine fin_ret ?_ | (refine hM _ ?_; clear hM M) | refine vcallW_intro (call_data (by assumption) ?_ rfl ?_) | refine vcallHW_intro (hcall_data (by assumption) rfl ?_) ?_) | ((with_reducible refine nls_q ?_) <;> (first | rfl | assumption | (simp only [znl,nls_u,nls_shr,nl_shr]; (first | done | fail)))) | (with_reducible refine ok_cond (by (simp only [↓reduceIte,zlk,Nat.reduceEqDiff,reduceCtorEq]); exact rfl) ?_) | ((with_reducible first | refine vif_intro (fun hc => ?_) (fun hc => ?_) | refine vifW_intro (fun hc => ?_) (fun hc => ?_)) <;> (try simp (disch := omega) only [zhb] at hc) <;> (try (exfalso; omega)) <;> (try subst hc)) | (with_reducible refine cndW_intro (by omega) ?_) | (simp (config := { maxSteps := 400000 }) only [↓zvs_pre,↓reduceIte,zvs,reduceCtorEq,Nat.reduceEqDiff,Nat.reduceAdd,Nat.reduceLeDiff,Nat.reduceMul,Int.reduceBNe,Int.reduceBEq,Int.reduceEq,Int.reduceNe,Int.reduceLT,Int.reduceLE,Int.reduceGT,Int.reduceGE,Int.reduceNeg,Int.reduceToNat,Nat.reduceLT,Nat.reduceSub,tab,hK,hO,hN,ta,tb,ea,eb,Try.results3,List.toList_toArray]) | (simp (disch := omega) only [ziw]))
  refine ok_draw 8 (by kernel_rfl) (by decide +kernel) (by intro m hm; simp only [upd_ap,rows_cons,rows_nil]; (repeat (first | rfl | rw [if_neg (by omega)]))) (fun M hM => ?_); simp only [List.take_succ_cons,List.take_zero,List.drop_succ_cons,List.drop_zero]
  repeat' (first | (with_reducible first | refine ok_seq ?_ | refine xs1 ?_ | refine xs2 ?_ | refine xs3 ?_ | refine xb1 ?_ | refine xb2 ?_ | refine xb3 (by decide) ?_ | refine xb4 ?_ | refine xl2 ?_ | refine xl3 ?_ | refine xc2 ?_ | refine xc3 ?_ | refine ok_block ?_ | refine ok_scope ?_ | refine ok_skip ?_ | refine ok_label ?_ | refine ok_exit ?_ | refine ok_ret ?_ | refine ok_region (fun M hM => ?_) | refine vif_t ?_ | refine vif_f ?_ | refine fin_normal ?_ | refine fin_ret ?_ | (refine hM _ ?_; clear hM M) | refine vcallW_intro (call_data (by assumption) ?_ rfl ?_) | refine vcallHW_intro (hcall_data (by assumption) rfl ?_) ?_) | ((with_reducible refine nls_q ?_) <;> (first | rfl | assumption | (simp only [znl,nls_u,nls_shr,nl_shr]; (first | done | fail)))) | (with_reducible refine ok_cond (by (simp only [↓reduceIte,zlk,Nat.reduceEqDiff,reduceCtorEq]); exact rfl) ?_) | ((with_reducible first | refine vif_intro (fun hc => ?_) (fun hc => ?_) | refine vifW_intro (fun hc => ?_) (fun hc => ?_)) <;> (try simp (disch := omega) only [zhb] at hc) <;> (try (exfalso; omega)) <;> (try subst hc)) | (with_reducible refine cndW_intro (by omega) ?_) | (simp (config := { maxSteps := 400000 }) only [↓zvs_pre,↓reduceIte,zvs,reduceCtorEq,Nat.reduceEqDiff,Nat.reduceAdd,Nat.reduceLeDiff,Nat.reduceMul,Int.reduceBNe,Int.reduceBEq,Int.reduceEq,Int.reduceNe,Int.reduceLT,Int.reduceLE,Int.reduceGT,Int.reduceGE,Int.reduceNeg,Int.reduceToNat,Nat.reduceLT,Nat.reduceSub,tab,hK,hN,hbt,hb64,hn,Try.results3,List.toList_toArray]) | (simp (disch := omega) only [ziw]))
  all_goals first
    | (exfalso; omega)
    | (simp only [zrds]; done)
    | skip
  have hab : a ≠ b := by omega
  refine ok_loop (fun i : Nat => ⟨slots [(6, .ptr 0 []), (10, .bool false), (11, .int .i64 a), (12, .int .i64 b), (13, encShrs L), (15, .int .i64 (thirdTo a b i)), (16, .int .i64 i)], rows [(0, .row (.arr 32 .cell) (encKey x1))], 1⟩) (fun i => i ≤ 5) (fun i => 5 - i) 0 ?_ (Nat.zero_le _) (fun i hi => ?_)
  · (refine Ren.mk [(0, 1)] false (by first | (intro h; cases h; done) | exact fun _ => rfl) (by first | decide | rfl | (simp [turnOk]; done)) (by decide) ?_ ?_ <;> (repeat' (first | (with_reducible first | refine mr_int (by first | rfl | omega) | refine mr_str rfl | refine mr_bool rfl | refine mr_dat rfl (by first | rfl | assumption | (simp only [znl,nls_u,nls_shr,nl_shr]; (first | done | fail))) | refine mr_sl ?_ ?_ (by first | rfl | omega) | refine MR.ptr ?_ ?_ | refine mr_raw | refine mr_slnil | refine mr_empty ?_ | refine mr_row rfl (by (simp only [↓reduceIte,zlk,Nat.reduceEqDiff,reduceCtorEq]); exact rfl) ?_ ?_ ?_ (by decide) | refine mr_aggD rfl (by first | rfl | assumption | (simp only [znl,nls_u,nls_shr,nl_shr]; (first | done | fail))) | refine MR.agg (MRL.cons ?_ ?_) | refine mr_aggD ?_ (by first | rfl | assumption | (simp only [znl,nls_u,nls_shr,nl_shr]; (first | done | fail))) | refine MR.fn ?_ | refine MRL.cons ?_ ?_ | refine MRL.nil | refine alls_cons ?_ ?_ | refine alls_nil | refine allb_nil | refine allb_cons ?_ (by (simp only [↓reduceIte,zlk,Nat.reduceEqDiff,reduceCtorEq]); exact rfl) ?_ ?_ | refine MB.row ?_ | refine mb_arr ?_ ?_ | refine MR.map ?_ ?_ | refine mb_map rfl (by first | rfl | assumption | (simp only [znl,nls_u,nls_shr,nl_shr]; (first | done | fail))) | rfl) | (simp only [znl,nls_u,nls_shr,nl_shr]; (first | done | fail)) | (refine allb_ghost rfl ?_) | exact known_in rfl | exact known_lt rfl | ((with_reducible refine turn_ok ?_) <;> rfl) | (simp only [↓reduceIte,zlk,Nat.reduceEqDiff,reduceCtorEq]) | (with_reducible first | refine mb_map ?_ ?_ | refine mr_sl ?_ ?_ ?_ | refine mr_int ?_ | refine mr_str ?_ | refine mr_bool ?_ | refine mr_dat ?_ (by first | rfl | assumption | (simp only [znl,nls_u,nls_shr,nl_shr]; (first | done | fail))) | refine mr_aggD ?_ ?_))))
    all_goals (first | rfl | trace_state)
  by_cases hli : i < 5
  · by_cases hc : i ≠ a ∧ i ≠ b
    · have e1 : thirdTo a b (i + 1) = i := by rw [thirdTo, if_pos hc]
      obtain ⟨hc1, hc2⟩ := hc
      repeat' (first | (with_reducible first | refine ok_seq ?_ | refine xs1 ?_ | refine xs2 ?_ | refine xs3 ?_ | refine xb1 ?_ | refine xb2 ?_ | refine xb3 (by decide) ?_ | refine xb4 ?_ | refine xl2 ?_ | refine xl3 ?_ | refine xc2 ?_ | refine xc3 ?_ | refine ok_block ?_ | refine ok_scope ?_ | refine ok_skip ?_ | refine ok_label ?_ | refine ok_exit ?_ | refine ok_ret ?_ | refine ok_region (fun M hM => ?_) | refine vif_t ?_ | refine vif_f ?_ | refine fin_normal ?_ | refine fin_ret ?_ | (refine hM _ ?_; clear hM M) | refine vcallW_intro (call_data (by assumption) ?_ rfl ?_) | refine vcallHW_intro (hcall_data (by assumption) rfl ?_) ?_) | ((with_reducible refine nls_q ?_) <;> (first | rfl | assumption | (simp only [znl,nls_u,nls_shr,nl_shr]; (first | done | fail)))) | (with_reducible refine ok_cond (by (simp only [↓reduceIte,zlk,Nat.reduceEqDiff,reduceCtorEq]); exact rfl) ?_) | ((with_reducible first | refine vif_intro (fun hc => ?_) (fun hc => ?_) | refine vifW_intro (fun hc => ?_) (fun hc => ?_)) <;> (try simp (disch := omega) only [zhb] at hc) <;> (try (exfalso; omega)) <;> (try subst hc)) | (with_reducible refine cndW_intro (by omega) ?_) | (simp (config := { maxSteps := 400000 }) only [↓zvs_pre,↓reduceIte,zvs,reduceCtorEq,Nat.reduceEqDiff,Nat.reduceAdd,Nat.reduceLeDiff,Nat.reduceMul,Int.reduceBNe,Int.reduceBEq,Int.reduceEq,Int.reduceNe,Int.reduceLT,Int.reduceLE,Int.reduceGT,Int.reduceGE,Int.reduceNeg,Int.reduceToNat,Nat.reduceLT,Nat.reduceSub,tab,Try.results3,List.toList_toArray]) | (simp (disch := omega) only [ziw]))
      all_goals first
        | (exfalso; omega)
        | skip
      refine xl1 (i + 1) ?_ (by show i + 1 ≤ 5; omega) (by show 5 - (i + 1) < 5 - i; omega)
      rw [e1]
      (refine Ren.mk [(0, 0)] false (by first | (intro h; cases h; done) | exact fun _ => rfl) (by first | decide | rfl | (simp [turnOk]; done)) (by decide) ?_ ?_ <;> (repeat' (first | (with_reducible first | refine mr_int (by first | rfl | omega) | refine mr_str rfl | refine mr_bool rfl | refine mr_dat rfl (by first | rfl | assumption | (simp only [znl,nls_u,nls_shr,nl_shr]; (first | done | fail))) | refine mr_sl ?_ ?_ (by first | rfl | omega) | refine MR.ptr ?_ ?_ | refine mr_raw | refine mr_slnil | refine mr_empty ?_ | refine mr_row rfl (by (simp only [↓reduceIte,zlk,Nat.reduceEqDiff,reduceCtorEq]); exact rfl) ?_ ?_ ?_ (by decide) | refine mr_aggD rfl (by first | rfl | assumption | (simp only [znl,nls_u,nls_shr,nl_shr]; (first | done | fail))) | refine MR.agg (MRL.cons ?_ ?_) | refine mr_aggD ?_ (by first | rfl | assumption | (simp only [znl,nls_u,nls_shr,nl_shr]; (first | done | fail))) | refine MR.fn ?_ | refine MRL.cons ?_ ?_ | refine MRL.nil | refine alls_cons ?_ ?_ | refine alls_nil | refine allb_nil | refine allb_cons ?_ (by (simp only [↓reduceIte,zlk,Nat.reduceEqDiff,reduceCtorEq]); exact rfl) ?_ ?_ | refine MB.row ?_ | refine mb_arr ?_ ?_ | refine MR.map ?_ ?_ | refine mb_map rfl (by first | rfl | assumption | (simp only [znl,nls_u,nls_shr,nl_shr]; (first | done | fail))) | rfl) | (simp only [znl,nls_u,nls_shr,nl_shr]; (first | done | fail)) | (refine allb_ghost rfl ?_) | exact known_in rfl | exact known_lt rfl | ((with_reducible refine turn_ok ?_) <;> rfl) | (simp only [↓reduceIte,zlk,Nat.reduceEqDiff,reduceCtorEq]) | (with_reducible first | refine mb_map ?_ ?_ | refine mr_sl ?_ ?_ ?_ | refine mr_int ?_ | refine mr_str ?_ | refine mr_bool ?_ | refine mr_dat ?_ (by first | rfl | assumption | (simp only [znl,nls_u,nls_shr,nl_shr]; (first | done | fail))) | refine mr_aggD ?_ ?_))))
      all_goals (first | rfl | trace_state)
    · have e1 : thirdTo a b (i + 1) = thirdTo a b i := by rw [thirdTo, if_neg hc]
      repeat' (first | (with_reducible first | refine ok_seq ?_ | refine xs1 ?_ | refine xs2 ?_ | refine xs3 ?_ | refine xb1 ?_ | refine xb2 ?_ | refine xb3 (by decide) ?_ | refine xb4 ?_ | refine xl2 ?_ | refine xl3 ?_ | refine xc2 ?_ | refine xc3 ?_ | refine ok_block ?_ | refine ok_scope ?_ | refine ok_skip ?_ | refine ok_label ?_ | refine ok_exit ?_ | refine ok_ret ?_ | refine ok_region (fun M hM => ?_) | refine vif_t ?_ | refine vif_f ?_ | refine fin_normal ?_ | refine fin_ret ?_ | (refine hM _ ?_; clear hM M) | refine vcallW_intro (call_data (by assumption) ?_ rfl ?_) | refine vcallHW_intro (hcall_data (by assumption) rfl ?_) ?_) | ((with_reducible refine nls_q ?_) <;> (first | rfl | assumption | (simp only [znl,nls_u,nls_shr,nl_shr]; (first | done | fail)))) | (with_reducible refine ok_cond (by (simp only [↓reduceIte,zlk,Nat.reduceEqDiff,reduceCtorEq]); exact rfl) ?_) | ((with_reducible first | refine vif_intro (fun hc => ?_) (fun hc => ?_) | refine vifW_intro (fun hc => ?_) (fun hc => ?_)) <;> (try simp (disch := omega) only [zhb] at hc) <;> (try (exfalso; omega)) <;> (try subst hc)) | (with_reducible refine cndW_intro (by omega) ?_) | (simp (config := { maxSteps := 400000 }) only [↓zvs_pre,↓reduceIte,zvs,reduceCtorEq,Nat.reduceEqDiff,Nat.reduceAdd,Nat.reduceLeDiff,Nat.reduceMul,Int.reduceBNe,Int.reduceBEq,Int.reduceEq,Int.reduceNe,Int.reduceLT,Int.reduceLE,Int.reduceGT,Int.reduceGE,Int.reduceNeg,Int.reduceToNat,Nat.reduceLT,Nat.reduceSub,tab,Try.results3,List.toList_toArray]) | (simp (disch := omega) only [ziw]))
      all_goals first
        | (exfalso; omega)
        | skip
      all_goals
        refine xl1 (i + 1) ?_ (by show i + 1 ≤ 5; omega) (by show 5 - (i + 1) < 5 - i; omega)
        rw [e1]
        (refine Ren.mk [(0, 0)] false (by first | (intro h; cases h; done) | exact fun _ => rfl) (by first | decide | rfl | (simp [turnOk]; done)) (by decide) ?_ ?_ <;> (repeat' (first | (with_reducible first | refine mr_int (by first | rfl | omega) | refine mr_str rfl | refine mr_bool rfl | refine mr_dat rfl (by first | rfl | assumption | (simp only [znl,nls_u,nls_shr,nl_shr]; (first | done | fail))) | refine mr_sl ?_ ?_ (by first | rfl | omega) | refine MR.ptr ?_ ?_ | refine mr_raw | refine mr_slnil | refine mr_empty ?_ | refine mr_row rfl (by (simp only [↓reduceIte,zlk,Nat.reduceEqDiff,reduceCtorEq]); exact rfl) ?_ ?_ ?_ (by decide) | refine mr_aggD rfl (by first | rfl | assumption | (simp only [znl,nls_u,nls_shr,nl_shr]; (first | done | fail))) | refine MR.agg (MRL.cons ?_ ?_) | refine mr_aggD ?_ (by first | rfl | assumption | (simp only [znl,nls_u,nls_shr,nl_shr]; (first | done | fail))) | refine MR.fn ?_ | refine MRL.cons ?_ ?_ | refine MRL.nil | refine alls_cons ?_ ?_ | refine alls_nil | refine allb_nil | refine allb_cons ?_ (by (simp only [↓reduceIte,zlk,Nat.reduceEqDiff,reduceCtorEq]); exact rfl) ?_ ?_ | refine MB.row ?_ | refine mb_arr ?_ ?_ | refine MR.map ?_ ?_ | refine mb_map rfl (by first | rfl | assumption | (simp only [znl,nls_u,nls_shr,nl_shr]; (first | done | fail))) | rfl) | (simp only [znl,nls_u,nls_shr,nl_shr]; (first | done | fail)) | (refine allb_ghost rfl ?_) | exact known_in rfl | exact known_lt rfl | ((with_reducible refine turn_ok ?_) <;> rfl) | (simp only [↓reduceIte,zlk,Nat.reduceEqDiff,reduceCtorEq]) | (with_reducible first | refine mb_map ?_ ?_ | refine mr_sl ?_ ?_ ?_ | refine mr_int ?_ | refine mr_str ?_ | refine mr_bool ?_ | refine mr_dat ?_ (by first | rfl | assumption | (simp only [znl,nls_u,nls_shr,nl_shr]; (first | done | fail))) | refine mr_aggD ?_ ?_))))
        all_goals (first | rfl | trace_state)
  · obtain rfl : i = 5 := by omega
    obtain ⟨t1, t2, t3⟩ := third_ok a ha b hb
    generalize thirdTo a b 5 = T at *
    have eT : IntKind.u8.wrap ((T : Int) + 1) = B8 (UInt8.ofNat (T + 1)) := by
      have := wrap_u8_nat (T + 1)
      push_cast at this
      exact this
    have eT2 : (T : Int) + 1 = B8 (UInt8.ofNat (T + 1)) := by
      rw [← eT, wrap_u8 _ (by omega) (by omega)]
    have hT := third_spec x1 ho A B hla hlb (UInt8.ofNat (T + 1))
    have hCd := shareC x1 A B (UInt8.ofNat (T + 1))
    have hres := fit_third x1 hla hlb (A := A) (B := B) (x := UInt8.ofNat (T + 1)) (by rw [hxa]; exact x_nz (by omega)) (by rw [hxb]; exact x_nz (by omega)) (by rw [hxa, hxb]; exact x_ne (by omega) (by omega) hab) (x_nz (by omega)) (by rw [hxa]; exact x_ne (by omega) (by omega) t1) (by rw [hxb]; exact x_ne (by omega) (by omega) t2)
    obtain ⟨C, hC⟩ : ∃ C, C = thirdS x1 A B (UInt8.ofNat (T + 1)) := ⟨_, rfl⟩
    have hCx : C.x = UInt8.ofNat (T + 1) := by rw [hC]; rfl
    rw [← hC] at hT hCd hres
    rw [← hCx] at hT eT eT2
    have hC1 := hasShr C hCd
    have hKC := hasKey C.d hCd
    clear hC
    repeat' (first | (with_reducible first | refine ok_seq ?_ | refine xs1 ?_ | refine xs2 ?_ | refine xs3 ?_ | refine xb1 ?_ | refine xb2 ?_ | refine xb3 (by decide) ?_ | refine xb4 ?_ | refine xl2 ?_ | refine xl3 ?_ | refine xc2 ?_ | refine xc3 ?_ | refine ok_block ?_ | refine ok_scope ?_ | refine ok_skip ?_ | refine ok_label ?_ | refine ok_exit ?_ | refine ok_ret ?_ | refine ok_region (fun M hM => ?_) | refine vif_t ?_ | refine vif_f ?_ | refine fin_normal ?_ | refine fin_ret ?_ | (refine hM _ ?_; clear hM M) | refine vcallW_intro (call_data (by assumption) ?_ rfl ?_) | refine vcallHW_intro (hcall_data (by assumption) rfl ?_) ?_) | ((with_reducible refine nls_q ?_) <;> (first | rfl | assumption | (simp only [znl,nls_u,nls_shr,nl_shr]; (first | done | fail)))) | (with_reducible refine ok_cond (by (simp only [↓reduceIte,zlk,Nat.reduceEqDiff,reduceCtorEq]); exact rfl) ?_) | ((with_reducible first | refine vif_intro (fun hc => ?_) (fun hc => ?_) | refine vifW_intro (fun hc => ?_) (fun hc => ?_)) <;> (try simp (disch := omega) only [zhb] at hc) <;> (try (exfalso; omega)) <;> (try subst hc)) | (with_reducible refine cndW_intro (by omega) ?_) | (simp (config := { maxSteps := 400000 }) only [↓zvs_pre,↓reduceIte,zvs,reduceCtorEq,Nat.reduceEqDiff,Nat.reduceAdd,Nat.reduceLeDiff,Nat.reduceMul,Int.reduceBNe,Int.reduceBEq,Int.reduceEq,Int.reduceNe,Int.reduceLT,Int.reduceLE,Int.reduceGT,Int.reduceGE,Int.reduceNeg,Int.reduceToNat,Nat.reduceLT,Nat.reduceSub,tab,Try.results3,List.toList_toArray]) | (simp (disch := omega) only [ziw]))
    refine ok_draw 21 (by kernel_rfl) (by decide +kernel) (by intro m hm; simp only [upd_ap,rows_cons,rows_nil]; (repeat (first | rfl | rw [if_neg (by omega)]))) (fun M hM => ?_); simp only [List.take_succ_cons,List.take_zero,List.drop_succ_cons,List.drop_zero]
    repeat' (first | (with_reducible first | refine ok_seq ?_ | refine xs1 ?_ | refine xs2 ?_ | refine xs3 ?_ | refine xb1 ?_ | refine xb2 ?_ | refine xb3 (by decide) ?_ | refine xb4 ?_ | refine xl2 ?_ | refine xl3 ?_ | refine xc2 ?_ | refine xc3 ?_ | refine ok_block ?_ | refine ok_scope ?_ | refine ok_skip ?_ | refine ok_label ?_ | refine ok_exit ?_ | refine ok_ret ?_ | refine ok_region (fun M hM => ?_) | refine vif_t ?_ | refine vif_f ?_ | refine fin_normal ?_ | refine fin_ret ?_ | (refine hM _ ?_; clear hM M) | refine vcallW_intro (call_data (by assumption) ?_ rfl ?_) | refine vcallHW_intro (hcall_data (by assumption) rfl ?_) ?_) | ((with_reducible refine nls_q ?_) <;> (first | rfl | assumption | (simp only [znl,nls_u,nls_shr,nl_shr]; (first | done | fail)))) | (with_reducible refine ok_cond (by (simp only [↓reduceIte,zlk,Nat.reduceEqDiff,reduceCtorEq]); exact rfl) ?_) | ((with_reducible first | refine vif_intro (fun hc => ?_) (fun hc => ?_) | refine vifW_intro (fun hc => ?_) (fun hc => ?_)) <;> (try simp (disch := omega) only [zhb] at hc) <;> (try (exfalso; omega)) <;> (try subst hc)) | (with_reducible refine cndW_intro (by omega) ?_) | (simp (config := { maxSteps := 400000 }) only [↓zvs_pre,↓reduceIte,zvs,reduceCtorEq,Nat.reduceEqDiff,Nat.reduceAdd,Nat.reduceLeDiff,Nat.reduceMul,Int.reduceBNe,Int.reduceBEq,Int.reduceEq,Int.reduceNe,Int.reduceLT,Int.reduceLE,Int.reduceGT,Int.reduceGE,Int.reduceNeg,Int.reduceToNat,Nat.reduceLT,Nat.reduceSub,tab,hO,hA1,hB1,hC1,hKC,encShr,ga,gb,eT,eT2,setParts,Try.results3,List.toList_toArray]) | (simp (disch := omega) only [ziw]))
    obtain ⟨f, hf⟩ : ∃ f, f = coP x1 A B C := ⟨_, rfl⟩
    obtain ⟨g, hg⟩ : ∃ g, g = coQ x1 A B C := ⟨_, rfl⟩
    rw [← hf, ← hg] at hres
    have hcf := fun (j : Nat) (hj : j < 32) => coeff_spec x1 ho A B C hla hlb hCd j hj
    rw [← hf, ← hg] at hcf
    refine ok_loop (fun i : Nat => ⟨slots [(6, .ptr 0 []), (10, .bool false), (11, .int .i64 a), (12, .int .i64 b), (13, encShrs L), (17, .sl (some (1, [], 0)) 3), (18, .sl (some (2, [], 0)) 64), (19, .int .i64 i)], rows [(0, .row (.arr 32 .cell) (encKey x1)), (1, .row (.arr 3 shrSh) (.agg [.agg [.int .u8 (B8 A.x), encKey A.d], .agg [.int .u8 (B8 B.x), encKey B.d], .agg [.int .u8 (B8 C.x), encKey C.d]])), (2, .row (.arr 64 .cell) (.agg ((twoN f g i).map encU)))], 3⟩) (fun i => i ≤ 32) (fun i => 32 - i) 0 ?_ (Nat.zero_le _) (fun i hi => ?_)
    · rw [twoN_zero]
      (refine Ren.mk [(0, 0), (1, 1345), (2, 1346)] false (by first | (intro h; cases h; done) | exact fun _ => rfl) (by first | decide | rfl | (simp [turnOk]; done)) (by decide) ?_ ?_ <;> (repeat' (first | (with_reducible first | refine mr_int (by first | rfl | omega) | refine mr_str rfl | refine mr_bool rfl | refine mr_dat rfl (by first | rfl | assumption | (simp only [znl,nls_u,nls_shr,nl_shr]; (first | done | fail))) | refine mr_sl ?_ ?_ (by first | rfl | omega) | refine MR.ptr ?_ ?_ | refine mr_raw | refine mr_slnil | refine mr_empty ?_ | refine mr_row rfl (by (simp only [↓reduceIte,zlk,Nat.reduceEqDiff,reduceCtorEq]); exact rfl) ?_ ?_ ?_ (by decide) | refine mr_aggD rfl (by first | rfl | assumption | (simp only [znl,nls_u,nls_shr,nl_shr]; (first | done | fail))) | refine MR.agg (MRL.cons ?_ ?_) | refine mr_aggD ?_ (by first | rfl | assumption | (simp only [znl,nls_u,nls_shr,nl_shr]; (first | done | fail))) | refine MR.fn ?_ | refine MRL.cons ?_ ?_ | refine MRL.nil | refine alls_cons ?_ ?_ | refine alls_nil | refine allb_nil | refine allb_cons ?_ (by (simp only [↓reduceIte,zlk,Nat.reduceEqDiff,reduceCtorEq]); exact rfl) ?_ ?_ | refine MB.row ?_ | refine mb_arr ?_ ?_ | refine MR.map ?_ ?_ | refine mb_map rfl (by first | rfl | assumption | (simp only [znl,nls_u,nls_shr,nl_shr]; (first | done | fail))) | rfl) | (simp only [znl,nls_u,nls_shr,nl_shr]; (first | done | fail)) | (refine allb_ghost rfl ?_) | exact known_in rfl | exact known_lt rfl | ((with_reducible refine turn_ok ?_) <;> rfl) | (simp only [↓reduceIte,zlk,Nat.reduceEqDiff,reduceCtorEq]) | (with_reducible first | refine mb_map ?_ ?_ | refine mr_sl ?_ ?_ ?_ | refine mr_int ?_ | refine mr_str ?_ | refine mr_bool ?_ | refine mr_dat ?_ (by first | rfl | assumption | (simp only [znl,nls_u,nls_shr,nl_shr]; (first | done | fail))) | refine mr_aggD ?_ ?_))))
      all_goals (first | rfl | trace_state)
    by_cases hli : i < 32
    · have hci := hcf i hli
      have ei : ((32 : Int) + (i : Int)).toNat = 32 + i := by omega
      have hl1 := twoN_len f g i hi
      have hg1 := get_u (twoN f g i) i (by omega)
      have hs1 := twoN_set1 f g i hli
      have hl2 : (fillU 32 (i + 1) f ++ fillU 32 i g).length = 64 := by rw [List.length_append, fillU_len _ _ _ hi, fillU_len _ _ _ (by omega)]
      have hg2 := get_u (fillU 32 (i + 1) f ++ fillU 32 i g) (32 + i) (by omega)
      have hs2 := twoN_set2 f g i hli
      repeat' (first | (with_reducible first | refine ok_seq ?_ | refine xs1 ?_ | refine xs2 ?_ | refine xs3 ?_ | refine xb1 ?_ | refine xb2 ?_ | refine xb3 (by decide) ?_ | refine xb4 ?_ | refine xl2 ?_ | refine xl3 ?_ | refine xc2 ?_ | refine xc3 ?_ | refine ok_block ?_ | refine ok_scope ?_ | refine ok_skip ?_ | refine ok_label ?_ | refine ok_exit ?_ | refine ok_ret ?_ | refine ok_region (fun M hM => ?_) | refine vif_t ?_ | refine vif_f ?_ | refine fin_normal ?_ | refine fin_ret ?_ | (refine hM _ ?_; clear hM M) | refine vcallW_intro (call_data (by assumption) ?_ rfl ?_) | refine vcallHW_intro (hcall_data (by assumption) rfl ?_) ?_) | ((with_reducible refine nls_q ?_) <;> (first | rfl | assumption | (simp only [znl,nls_u,nls_shr,nl_shr]; (first | done | fail)))) | (with_reducible refine ok_cond (by (simp only [↓reduceIte,zlk,Nat.reduceEqDiff,reduceCtorEq]); exact rfl) ?_) | ((with_reducible first | refine vif_intro (fun hc => ?_) (fun hc => ?_) | refine vifW_intro (fun hc => ?_) (fun hc => ?_)) <;> (try simp (disch := omega) only [zhb] at hc) <;> (try (exfalso; omega)) <;> (try subst hc)) | (with_reducible refine cndW_intro (by omega) ?_) | (simp (config := { maxSteps := 400000 }) only [↓zvs_pre,↓reduceIte,zvs,reduceCtorEq,Nat.reduceEqDiff,Nat.reduceAdd,Nat.reduceLeDiff,Nat.reduceMul,Int.reduceBNe,Int.reduceBEq,Int.reduceEq,Int.reduceNe,Int.reduceLT,Int.reduceLE,Int.reduceGT,Int.reduceGE,Int.reduceNeg,Int.reduceToNat,Nat.reduceLT,Nat.reduceSub,tab,Try.results3,List.toList_toArray]) | (simp (disch := omega) only [ziw]))
      refine vcallW_intro (call_plain (hci) (by repeat (first | exact rdl_nil | refine rdl_cons ?_ ?_ | exact Rd.refl _ _ (by first | rfl | assumption | (simp only [znl,nls_u,nls_shr,nl_shr]; (first | done | fail))) | (refine rd_own (by (simp only [↓reduceIte,zlk,Nat.reduceEqDiff,reduceCtorEq]); exact rfl) (by first | rfl | (simp; done) | (simp; omega)) rfl (by first | rfl | assumption | (simp only [znl,nls_u,nls_shr,nl_shr]; (first | done | fail)))) | exact rd_nil | refine (rd_a _ _ _).mpr ?_)) rfl rfl ?_)
      repeat' (first | (with_reducible first | refine ok_seq ?_ | refine xs1 ?_ | refine xs2 ?_ | refine xs3 ?_ | refine xb1 ?_ | refine xb2 ?_ | refine xb3 (by decide) ?_ | refine xb4 ?_ | refine xl2 ?_ | refine xl3 ?_ | refine xc2 ?_ | refine xc3 ?_ | refine ok_block ?_ | refine ok_scope ?_ | refine ok_skip ?_ | refine ok_label ?_ | refine ok_exit ?_ | refine ok_ret ?_ | refine ok_region (fun M hM => ?_) | refine vif_t ?_ | refine vif_f ?_ | refine fin_normal ?_ | refine fin_ret ?_ | (refine hM _ ?_; clear hM M) | refine vcallW_intro (call_data (by assumption) ?_ rfl ?_) | refine vcallHW_intro (hcall_data (by assumption) rfl ?_) ?_) | ((with_reducible refine nls_q ?_) <;> (first | rfl | assumption | (simp only [znl,nls_u,nls_shr,nl_shr]; (first | done | fail)))) | (with_reducible refine ok_cond (by (simp only [↓reduceIte,zlk,Nat.reduceEqDiff,reduceCtorEq]); exact rfl) ?_) | ((with_reducible first | refine vif_intro (fun hc => ?_) (fun hc => ?_) | refine vifW_intro (fun hc => ?_) (fun hc => ?_)) <;> (try simp (disch := omega) only [zhb] at hc) <;> (try (exfalso; omega)) <;> (try subst hc)) | (with_reducible refine cndW_intro (by omega) ?_) | (simp (config := { maxSteps := 400000 }) only [↓zvs_pre,↓reduceIte,zvs,reduceCtorEq,Nat.reduceEqDiff,Nat.reduceAdd,Nat.reduceLeDiff,Nat.reduceMul,Int.reduceBNe,Int.reduceBEq,Int.reduceEq,Int.reduceNe,Int.reduceLT,Int.reduceLE,Int.reduceGT,Int.reduceGE,Int.reduceNeg,Int.reduceToNat,Nat.reduceLT,Nat.reduceSub,tab,ei,hl1,hg1,hs1,hl2,hg2,hs2,Try.results3,List.toList_toArray]) | (simp (disch := omega) only [ziw]))
      refine xl1 (i + 1) ?_ (by show i + 1 ≤ 32; omega) (by show 32 - (i + 1) < 32 - i; omega)
      (refine Ren.mk [(0, 0), (1, 1), (2, 2)] false (by first | (intro h; cases h; done) | exact fun _ => rfl) (by first | decide | rfl | (simp [turnOk]; done)) (by decide) ?_ ?_ <;> (repeat' (first | (with_reducible first | refine mr_int (by first | rfl | omega) | refine mr_str rfl | refine mr_bool rfl | refine mr_dat rfl (by first | rfl | assumption | (simp only [znl,nls_u,nls_shr,nl_shr]; (first | done | fail))) | refine mr_sl ?_ ?_ (by first | rfl | omega) | refine MR.ptr ?_ ?_ | refine mr_raw | refine mr_slnil | refine mr_empty ?_ | refine mr_row rfl (by (simp only [↓reduceIte,zlk,Nat.reduceEqDiff,reduceCtorEq]); exact rfl) ?_ ?_ ?_ (by decide) | refine mr_aggD rfl (by first | rfl | assumption | (simp only [znl,nls_u,nls_shr,nl_shr]; (first | done | fail))) | refine MR.agg (MRL.cons ?_ ?_) | refine mr_aggD ?_ (by first | rfl | assumption | (simp only [znl,nls_u,nls_shr,nl_shr]; (first | done | fail))) | refine MR.fn ?_ | refine MRL.cons ?_ ?_ | refine MRL.nil | refine alls_cons ?_ ?_ | refine alls_nil | refine allb_nil | refine allb_cons ?_ (by (simp only [↓reduceIte,zlk,Nat.reduceEqDiff,reduceCtorEq]); exact rfl) ?_ ?_ | refine MB.row ?_ | refine mb_arr ?_ ?_ | refine MR.map ?_ ?_ | refine mb_map rfl (by first | rfl | assumption | (simp only [znl,nls_u,nls_shr,nl_shr]; (first | done | fail))) | rfl) | (simp only [znl,nls_u,nls_shr,nl_shr]; (first | done | fail)) | (refine allb_ghost rfl ?_) | exact known_in rfl | exact known_lt rfl | ((with_reducible refine turn_ok ?_) <;> rfl) | (simp only [↓reduceIte,zlk,Nat.reduceEqDiff,reduceCtorEq]) | (with_reducible first | refine mb_map ?_ ?_ | refine mr_sl ?_ ?_ ?_ | refine mr_int ?_ | refine mr_str ?_ | refine mr_bool ?_ | refine mr_dat ?_ (by first | rfl | assumption | (simp only [znl,nls_u,nls_shr,nl_shr]; (first | done | fail))) | refine mr_aggD ?_ ?_))))
      all_goals (first | rfl | trace_state)
    · obtain rfl : i = 32 := by omega
      obtain ⟨f1, f2⟩ := hres
      have hl1 := twoN_len f g 32 (Nat.le_refl _)
      have hS2 := split_spec x1 (twoN f g 32) ho 5 (by omega) (by omega)
      rw [if_neg (by omega), h5] at hS2
      have sa2 := split_get x1 (twoN f g 32) 5 a ha
      have sb2 := split_get x1 (twoN f g 32) 5 b hb
      rw [← hxa, f1] at sa2
      rw [← hxb, f2] at sb2
      have hLl2 := split_len x1 (twoN f g 32) 5
      have bt2 : bytesOf (List.take 64 ((twoN f g 32).map encU)) = some (twoN f g 32) := by rw [List.take_of_length_le (by rw [List.length_map]; omega)]; exact bytesOf_u _
      have bt3 := bytesOf_u (twoN f g 32)
      have hF := hasKey64 (twoN f g 32) hl1
      generalize splitS x1 (twoN f g 32) 5 = L2 at hS2 sa2 sb2 hLl2
      generalize twoN f g 32 = N at *
      have ga2 := map_getD encShr L2 a (by omega)
      have gb2 := map_getD encShr L2 b (by omega)
      rw [sa2] at ga2
      rw [sb2] at gb2
      simp only [encShr] at ga2 gb2
      have fa := fit_shr A.x A.d hla
      have fb := fit_shr B.x B.d hlb
      have va := veq_shr A.x A.x A.d A.d
      have vb := veq_shr B.x B.x B.d B.d
      rw [decide_eq_true ⟨rfl, rfl⟩] at va vb
      repeat' (first | (with_reducible first | refine ok_seq ?_ | refine xs1 ?_ | refine xs2 ?_ | refine xs3 ?_ | refine xb1 ?_ | refine xb2 ?_ | refine xb3 (by decide) ?_ | refine xb4 ?_ | refine xl2 ?_ | refine xl3 ?_ | refine xc2 ?_ | refine xc3 ?_ | refine ok_block ?_ | refine ok_scope ?_ | refine ok_skip ?_ | refine ok_label ?_ | refine ok_exit ?_ | refine ok_ret ?_ | refine ok_region (fun M hM => ?_) | refine vif_t ?_ | refine vif_f ?_ | refine fin_normal ?_ | refine fin_ret ?_ | (refine hM _ ?_; clear hM M) | refine vcallW_intro (call_data (by assumption) ?_ rfl ?_) | refine vcallHW_intro (hcall_data (by assumption) rfl ?_) ?_) | ((with_reducible refine nls_q ?_) <;> (first | rfl | assumption | (simp only [znl,nls_u,nls_shr,nl_shr]; (first | done | fail)))) | (with_reducible refine ok_cond (by (simp only [↓reduceIte,zlk,Nat.reduceEqDiff,reduceCtorEq]); exact rfl) ?_) | ((with_reducible first | refine vif_intro (fun hc => ?_) (fun hc => ?_) | refine vifW_intro (fun hc => ?_) (fun hc => ?_)) <;> (try simp (disch := omega) only [zhb] at hc) <;> (try (exfalso; omega)) <;> (try subst hc)) | (with_reducible refine cndW_intro (by omega) ?_) | (simp (config := { maxSteps := 400000 }) only [↓zvs_pre,↓reduceIte,zvs,reduceCtorEq,Nat.reduceEqDiff,Nat.reduceAdd,Nat.reduceLeDiff,Nat.reduceMul,Int.reduceBNe,Int.reduceBEq,Int.reduceEq,Int.reduceNe,Int.reduceLT,Int.reduceLE,Int.reduceGT,Int.reduceGE,Int.reduceNeg,Int.reduceToNat,Nat.reduceLT,Nat.reduceSub,tab,hO,hF,bt2,bt3,hl1,Try.results3,List.toList_toArray]) | (simp (disch := omega) only [ziw]))
      refine ok_draw 27 (by kernel_rfl) (by decide +kernel) (by intro m hm; simp only [upd_ap,rows_cons,rows_nil]; (repeat (first | rfl | rw [if_neg (by omega)]))) (fun M hM => ?_); simp only [List.take_succ_cons,List.take_zero,List.drop_succ_cons,List.drop_zero]
      repeat' (first | (with_reducible first | refine ok_seq ?_ | refine xs1 ?_ | refine xs2 ?_ | refine xs3 ?_ | refine xb1 ?_ | refine xb2 ?_ | refine xb3 (by decide) ?_ | refine xb4 ?_ | refine xl2 ?_ | refine xl3 ?_ | refine xc2 ?_ | refine xc3 ?_ | refine ok_block ?_ | refine ok_scope ?_ | refine ok_skip ?_ | refine ok_label ?_ | refine ok_exit ?_ | refine ok_ret ?_ | refine ok_region (fun M hM => ?_) | refine vif_t ?_ | refine vif_f ?_ | refine fin_normal ?_ | refine fin_ret ?_ | (refine hM _ ?_; clear hM M) | refine vcallW_intro (call_data (by assumption) ?_ rfl ?_) | refine vcallHW_intro (hcall_data (by assumption) rfl ?_) ?_) | ((with_reducible refine nls_q ?_) <;> (first | rfl | assumption | (simp only [znl,nls_u,nls_shr,nl_shr]; (first | done | fail)))) | (with_reducible refine ok_cond (by (simp only [↓reduceIte,zlk,Nat.reduceEqDiff,reduceCtorEq]); exact rfl) ?_) | ((with_reducible first | refine vif_intro (fun hc => ?_) (fun hc => ?_) | refine vifW_intro (fun hc => ?_) (fun hc => ?_)) <;> (try simp (disch := omega) only [zhb] at hc) <;> (try (exfalso; omega)) <;> (try subst hc)) | (with_reducible refine cndW_intro (by omega) ?_) | (simp (config := { maxSteps := 400000 }) only [↓zvs_pre,↓reduceIte,zvs,reduceCtorEq,Nat.reduceEqDiff,Nat.reduceAdd,Nat.reduceLeDiff,Nat.reduceMul,Int.reduceBNe,Int.reduceBEq,Int.reduceEq,Int.reduceNe,Int.reduceLT,Int.reduceLE,Int.reduceGT,Int.reduceGE,Int.reduceNeg,Int.reduceToNat,Nat.reduceLT,Nat.reduceSub,tab,sa2,sb2,sa,sb,ga,gb,ga2,gb2,encShr,hA1,hB1,fa,fb,va,vb,Try.results3,List.toList_toArray]) | (simp (disch := omega) only [ziw]))
      all_goals first
        | (exfalso; omega)
        | (simp only [zrds]; done)
        | trace_state
end Go.Proofs.Ytndbfphmjmhkjaa.V
