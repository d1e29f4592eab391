/-
  SHARES, part 7: the law TopTwoFit.
-/
import Derived.Test.YtndbfphmjmhkjaaS6
set_option linter.unusedVariables false
set_option linter.unusedSimpArgs false
namespace Go.Proofs.Ytndbfphmjmhkjaa.V
open Go Go.Proofs.Ytndbfphmjmhkjaa
set_option maxRecDepth 100000
-- nlx: nls_u, nls_shr, nl_shr
set_option maxHeartbeats 1000000
/-- the noise that is reckoned: the two coefficients of each byte -/
def c2F (o : List UInt8) (x y : Shr) (i : Nat) : UInt8 := Gf.mul (Gf.mul (Gf.nth x.d i ^^^ Gf.nth o i) (Gf.inv x.x) ^^^ Gf.mul (Gf.nth y.d i ^^^ Gf.nth o i) (Gf.inv y.x)) (Gf.inv (x.x ^^^ y.x))
def c1F (o : List UInt8) (x y : Shr) (i : Nat) : UInt8 := Gf.mul (Gf.nth x.d i ^^^ Gf.nth o i) (Gf.inv x.x) ^^^ Gf.mul (c2F o x y i) x.x
def fitN (o : List UInt8) (x y : Shr) (i : Nat) : List UInt8 := fillU 32 i (c1F o x y) ++ fillU 32 i (c2F o x y)
theorem fitN_len (o : List UInt8) (x y : Shr) (i : Nat) (h : i ≤ 32) : (fitN o x y i).length = 64 := by
  rw [fitN, List.length_append, fillU_len _ _ _ h, fillU_len _ _ _ h]
theorem fitN_zero (o : List UInt8) (x y : Shr) : (fitN o x y 0).map encU = List.replicate 64 (.int .u8 0) := by
  rw [fitN, fillU_zero, fillU_zero]; rfl
theorem fitN_set2 (o : List UInt8) (x y : Shr) (i : Nat) (h : i < 32) : ((fitN o x y i).map encU).set (32 + i) (.int .u8 (B8 (c2F o x y i))) = (fillU 32 i (c1F o x y) ++ fillU 32 (i + 1) (c2F o x y)).map encU := by
  rw [fitN, List.map_append, List.set_append_right _ _ (by rw [List.length_map, fillU_len _ _ _ (by omega)]; omega), List.length_map, fillU_len _ _ _ (by omega), show 32 + i - 32 = i by omega, fillU_setV _ _ _ h, List.map_append]
theorem fitN_set1 (o : List UInt8) (x y : Shr) (i : Nat) (h : i < 32) : ((fillU 32 i (c1F o x y) ++ fillU 32 (i + 1) (c2F o x y)).map encU).set i (.int .u8 (B8 (c1F o x y i))) = (fitN o x y (i + 1)).map encU := by
  rw [fitN, List.map_append, List.set_append_left _ _ (by rw [List.length_map, fillU_len _ _ _ (by omega)]; omega), fillU_setV _ _ _ h, List.map_append]
theorem nth_app_left {a b : List UInt8} {i : Nat} (h : i < a.length) : Gf.nth (a ++ b) i = Gf.nth a i := by
  simp only [Gf.nth,List.getD_eq_getElem?_getD]
  rw [List.getElem?_append_left h]
theorem nth_app_right {a b : List UInt8} {n i : Nat} (h : a.length = n) : Gf.nth (a ++ b) (n + i) = Gf.nth b i := by
  simp only [Gf.nth,List.getD_eq_getElem?_getD]
  rw [List.getElem?_append_right (by omega), h, Nat.add_sub_cancel_left]
theorem fit_share (o : List UInt8) {x y : Shr} (hx : x.d.length = 32) (hy : y.d.length = 32) (h1 : x.x ≠ 0) (h2 : y.x ≠ 0) (h : x.x ≠ y.x) : shareAt o (fitN o x y 32) x.x = x ∧ shareAt o (fitN o x y 32) y.x = y := by
  have key : ∀ j, j < 32 → Gf.nth (fitN o x y 32) j = c1F o x y j ∧ Gf.nth (fitN o x y 32) (32 + j) = c2F o x y j := fun j hj => by
    rw [fitN, fillU_all, fillU_all]
    exact ⟨by rw [nth_app_left (by rw [tabU_len]; exact hj), tabU_nth _ _ _ hj], by rw [nth_app_right (tabU_len _ _), tabU_nth _ _ _ hj]⟩
  have two := fun j => Gf.two_fit (Gf.nth o j) (Gf.nth x.d j) (Gf.nth y.d j) h1 h2 h
  constructor
  · obtain ⟨X, d⟩ := x
    simp only [shareAt]
    congr 1
    refine ext_nth (tabU_len _ _) hx fun j hj => ?_
    rw [tabU_nth _ _ _ hj, (key j hj).1, (key j hj).2]
    exact (two j).1
  · obtain ⟨Y, d⟩ := y
    simp only [shareAt]
    congr 1
    refine ext_nth (tabU_len _ _) hy fun j hj => ?_
    rw [tabU_nth _ _ _ hj, (key j hj).1, (key j hj).2]
    exact (two j).2
theorem twofit_law (x0 x1 x2 : List UInt8) (x3 x4 x5 : UInt8) (g0 : good (.arr 32 .u8) x0) (g1 : good (.arr 32 .u8) x1) (g2 : good (.arr 64 .u8) x2) (g3 : good .u8 x3) (g4 : good .u8 x4) (g5 : good .u8 x5) (l0 : Ty.lite (.arr 32 .u8) x0) (l1 : Ty.lite (.arr 32 .u8) x1) (l2 : Ty.lite (.arr 64 .u8) x2) (l3 : Ty.lite .u8 x3) (l4 : Ty.lite .u8 x4) (l5 : Ty.lite .u8 x5) :
    Spec Try.prog 7 [toV (.arr 32 .u8) x0, toV (.arr 32 .u8) x1, toV (.arr 64 .u8) x2, toV .u8 x3, toV .u8 x4, toV .u8 x5] (.bool true) := by
  have hs : x0.length = 32 := g0.1
  have ho : x1.length = 32 := g1.1
  have hn : x2.length = 64 := g2.1
  rw [toV_bytes, toV_bytes, toV_bytes]
  have hZ := splits_spec
  have hK := hasKey x0 hs
  have hO := hasKey x1 ho
  have hN := hasKey64 x2 hn
  have hbt : bytesOf (List.take 64 (x2.map encU)) = some x2 := by rw [List.take_of_length_le (by rw [List.length_map]; omega)]; exact bytesOf_u x2
  have hb64 := bytesOf_u x2
  have e3 : toV .u8 x3 = .int .u8 (B8 x3) := rfl
  have e4 : toV .u8 x4 = .int .u8 (B8 x4) := rfl
  have e5 : toV .u8 x5 = .int .u8 (B8 x5) := rfl
  rw [e3, e4, e5]
  have hp0 := B8_lo x4
  have hp1 := B8_hi x4
  have hq0 := B8_lo x5
  have hq1 := B8_hi x5
  have hx0 := B8_lo x3
  have hx1 := B8_hi x3
  obtain ⟨Mc, hM⟩ : ∃ Mc : Nat, Mc = 3 + x3.toNat % 200 := ⟨_, rfl⟩
  have hM2 : 3 ≤ Mc ∧ Mc ≤ 202 := by omega
  have eM : (3 : Int) + B8 x3 % 200 = (Mc : Int) := by rw [hM]; unfold B8; omega
  have idx : ∀ p : UInt8, ∃ a : Nat, a < Mc ∧ (B8 p).tmod (Mc : Int) = (a : Int) ∧ B8 p % (Mc : Int) = (a : Int) := fun p => by
    refine ⟨p.toNat % Mc, Nat.mod_lt _ (by omega), ?_, ?_⟩
    · rw [Int.tmod_eq_emod_of_nonneg (B8_lo p)]; unfold B8; push_cast; rfl
    · unfold B8; push_cast; rfl
  obtain ⟨a, ha, ta, ea⟩ := idx x4
  obtain ⟨b, hb, tb, eb⟩ := idx x5
  have hS := split_spec x0 x2 hs Mc (by omega) (by omega)
  rw [if_neg (by omega), Int.toNat_natCast] at hS
  obtain ⟨L, hL⟩ : ∃ L, L = splitS x0 x2 Mc := ⟨_, rfl⟩
  have hLl : L.length = Mc := by rw [hL]; exact split_len _ _ _
  have sa := split_get x0 x2 Mc a ha
  have sb := split_get x0 x2 Mc b hb
  rw [← hL] at hS sa sb
  have ga := map_getD encShr L a (by omega)
  have gb := map_getD encShr L b (by omega)
  rw [sa] at ga
  rw [sb] at gb
  have hxa : (shareAt x0 x2 (UInt8.ofNat (a + 1))).x = UInt8.ofNat (a + 1) := rfl
  have hxb : (shareAt x0 x2 (UInt8.ofNat (b + 1))).x = UInt8.ofNat (b + 1) := rfl
  have hla := shareAt_len x0 x2 (UInt8.ofNat (a + 1))
  have hlb := shareAt_len x0 x2 (UInt8.ofNat (b + 1))
  generalize shareAt x0 x2 (UInt8.ofNat (a + 1)) = A at *
  generalize shareAt x0 x2 (UInt8.ofNat (b + 1)) = B at *
  have hA1 := hasShr A hla
  have hB1 := hasShr B hlb
  simp only [encShr] at ga gb
  clear hL
  refine spec_ok Try.func7 rfl rfl (by kernel_rfl) (k := 6) rfl (by decide) ?_
  repeat' (first | (with_reducible first | refine ok_seq ?_ | refine xs1 ?_ | refine xs2 ?_ | refine xs3 ?_ | refine xb1 ?_ | refine xb2 ?_ | refine xb3 (by decide) ?_ | refine xb4 ?_ | refine xl2 ?_ | refine xl3 ?_ | refine xc2 ?_ | refine xc3 ?_ | refine ok_block ?_ | refine ok_scope ?_ | refine ok_skip ?_ | refine ok_label ?_ | refine ok_exit ?_ | refine ok_ret ?_ | refine ok_region (fun M hM => ?_) | refine vif_t ?_ | refine vif_f ?_ | refine fin_normal ?_ | refine fin_ret ?_ | (refine hM _ ?_; clear hM M) | refine vcallW_intro (call_data (by assumption) ?_ rfl ?_) | refine vcallHW_intro (hcall_data (by assumption) rfl ?_) ?_) | ((with_reducible refine nls_q ?_) <;> (first | rfl | assumption | (simp only [znl,nls_u,nls_shr,nl_shr]; (first | done | fail)))) | (with_reducible refine ok_cond (by (simp only [↓reduceIte,zlk,Nat.reduceEqDiff,reduceCtorEq]); exact rfl) ?_) | ((with_reducible first | refine vif_intro (fun hc => ?_) (fun hc => ?_) | refine vifW_intro (fun hc => ?_) (fun hc => ?_)) <;> (try simp (disch := omega) only [zhb] at hc) <;> (try (exfalso; omega)) <;> (try subst hc)) | (with_reducible refine cndW_intro (by omega) ?_) | (simp (config := { maxSteps := 400000 }) only [↓zvs_pre,↓reduceIte,zvs,reduceCtorEq,Nat.reduceEqDiff,Nat.reduceAdd,Nat.reduceLeDiff,Nat.reduceMul,Int.reduceBNe,Int.reduceBEq,Int.reduceEq,Int.reduceNe,Int.reduceLT,Int.reduceLE,Int.reduceGT,Int.reduceGE,Int.reduceNeg,Int.reduceToNat,Nat.reduceLT,Nat.reduceSub,tab,hK,hO,hN,eM,Try.results7,List.toList_toArray]) | (simp (disch := omega) only [ziw]))
  refine ok_draw 10 (by kernel_rfl) (by decide +kernel) (by intro m hm; simp only [upd_ap,rows_cons,rows_nil]; (repeat (first | rfl | rw [if_neg (by omega)]))) (fun M hM => ?_); simp only [List.take_succ_cons,List.take_zero,List.drop_succ_cons,List.drop_zero]
  repeat' (first | (with_reducible first | refine ok_seq ?_ | refine xs1 ?_ | refine xs2 ?_ | refine xs3 ?_ | refine xb1 ?_ | refine xb2 ?_ | refine xb3 (by decide) ?_ | refine xb4 ?_ | refine xl2 ?_ | refine xl3 ?_ | refine xc2 ?_ | refine xc3 ?_ | refine ok_block ?_ | refine ok_scope ?_ | refine ok_skip ?_ | refine ok_label ?_ | refine ok_exit ?_ | refine ok_ret ?_ | refine ok_region (fun M hM => ?_) | refine vif_t ?_ | refine vif_f ?_ | refine fin_normal ?_ | refine fin_ret ?_ | (refine hM _ ?_; clear hM M) | refine vcallW_intro (call_data (by assumption) ?_ rfl ?_) | refine vcallHW_intro (hcall_data (by assumption) rfl ?_) ?_) | ((with_reducible refine nls_q ?_) <;> (first | rfl | assumption | (simp only [znl,nls_u,nls_shr,nl_shr]; (first | done | fail)))) | (with_reducible refine ok_cond (by (simp only [↓reduceIte,zlk,Nat.reduceEqDiff,reduceCtorEq]); exact rfl) ?_) | ((with_reducible first | refine vif_intro (fun hc => ?_) (fun hc => ?_) | refine vifW_intro (fun hc => ?_) (fun hc => ?_)) <;> (try simp (disch := omega) only [zhb] at hc) <;> (try (exfalso; omega)) <;> (try subst hc)) | (with_reducible refine cndW_intro (by omega) ?_) | (simp (config := { maxSteps := 400000 }) only [↓zvs_pre,↓reduceIte,zvs,reduceCtorEq,Nat.reduceEqDiff,Nat.reduceAdd,Nat.reduceLeDiff,Nat.reduceMul,Int.reduceBNe,Int.reduceBEq,Int.reduceEq,Int.reduceNe,Int.reduceLT,Int.reduceLE,Int.reduceGT,Int.reduceGE,Int.reduceNeg,Int.reduceToNat,Nat.reduceLT,Nat.reduceSub,tab,hK,hN,hbt,hb64,hn,Try.results7,List.toList_toArray]) | (simp (disch := omega) only [ziw]))
  all_goals first
    | (exfalso; omega)
    | skip
  refine ok_drawF 17 [0, 1, 2, 3, 4, 5, 6, 7, 8, 9, 10, 11, 12, 13, 15, 14] 16 15 1603 (by kernel_rfl) (by decide +kernel) (by decide) (by decide) (by intro m hm; simp only [upd_ap,rows_cons,rows_nil]; (repeat (first | rfl | rw [if_neg (by omega)]))) (fun M hM => ?_); simp only [picks,List.getElem?_cons_succ,List.getElem?_cons_zero,List.drop_succ_cons,List.drop_zero]
  by_cases hab : A.x = B.x
  · have hB8 : B8 A.x = B8 B.x := by rw [hab]
    repeat' (first | (with_reducible first | refine ok_seq ?_ | refine xs1 ?_ | refine xs2 ?_ | refine xs3 ?_ | refine xb1 ?_ | refine xb2 ?_ | refine xb3 (by decide) ?_ | refine xb4 ?_ | refine xl2 ?_ | refine xl3 ?_ | refine xc2 ?_ | refine xc3 ?_ | refine ok_block ?_ | refine ok_scope ?_ | refine ok_skip ?_ | refine ok_label ?_ | refine ok_exit ?_ | refine ok_ret ?_ | refine ok_region (fun M hM => ?_) | refine vif_t ?_ | refine vif_f ?_ | refine fin_normal ?_ | refine fin_ret ?_ | (refine hM _ ?_; clear hM M) | refine vcallW_intro (call_data (by assumption) ?_ rfl ?_) | refine vcallHW_intro (hcall_data (by assumption) rfl ?_) ?_) | ((with_reducible refine nls_q ?_) <;> (first | rfl | assumption | (simp only [znl,nls_u,nls_shr,nl_shr]; (first | done | fail)))) | (with_reducible refine ok_cond (by (simp only [↓reduceIte,zlk,Nat.reduceEqDiff,reduceCtorEq]); exact rfl) ?_) | ((with_reducible first | refine vif_intro (fun hc => ?_) (fun hc => ?_) | refine vifW_intro (fun hc => ?_) (fun hc => ?_)) <;> (try simp (disch := omega) only [zhb] at hc) <;> (try (exfalso; omega)) <;> (try subst hc)) | (with_reducible refine cndW_intro (by omega) ?_) | (simp (config := { maxSteps := 400000 }) only [↓zvs_pre,↓reduceIte,zvs,reduceCtorEq,Nat.reduceEqDiff,Nat.reduceAdd,Nat.reduceLeDiff,Nat.reduceMul,Int.reduceBNe,Int.reduceBEq,Int.reduceEq,Int.reduceNe,Int.reduceLT,Int.reduceLE,Int.reduceGT,Int.reduceGE,Int.reduceNeg,Int.reduceToNat,Nat.reduceLT,Nat.reduceSub,tab,ta,tb,ea,eb,sa,sb,encShr,hA1,hB1,storeAt_go,isP_ptr,Try.results7,List.toList_toArray]) | (simp (disch := omega) only [ziw]))
    all_goals first
      | (exfalso; omega)
      | (simp only [zrds]; done)
      | trace_state
  · have hB8 : ¬ B8 A.x = B8 B.x := fun h => hab (B8_inj h)
    repeat' (first | (with_reducible first | refine ok_seq ?_ | refine xs1 ?_ | refine xs2 ?_ | refine xs3 ?_ | refine xb1 ?_ | refine xb2 ?_ | refine xb3 (by decide) ?_ | refine xb4 ?_ | refine xl2 ?_ | refine xl3 ?_ | refine xc2 ?_ | refine xc3 ?_ | refine ok_block ?_ | refine ok_scope ?_ | refine ok_skip ?_ | refine ok_label ?_ | refine ok_exit ?_ | refine ok_ret ?_ | refine ok_region (fun M hM => ?_) | refine vif_t ?_ | refine vif_f ?_ | refine fin_normal ?_ | refine fin_ret ?_ | (refine hM _ ?_; clear hM M) | refine vcallW_intro (call_data (by assumption) ?_ rfl ?_) | refine vcallHW_intro (hcall_data (by assumption) rfl ?_) ?_) | ((with_reducible refine nls_q ?_) <;> (first | rfl | assumption | (simp only [znl,nls_u,nls_shr,nl_shr]; (first | done | fail)))) | (with_reducible refine ok_cond (by (simp only [↓reduceIte,zlk,Nat.reduceEqDiff,reduceCtorEq]); exact rfl) ?_) | ((with_reducible first | refine vif_intro (fun hc => ?_) (fun hc => ?_) | refine vifW_intro (fun hc => ?_) (fun hc => ?_)) <;> (try simp (disch := omega) only [zhb] at hc) <;> (try (exfalso; omega)) <;> (try subst hc)) | (with_reducible refine cndW_intro (by omega) ?_) | (simp (config := { maxSteps := 400000 }) only [↓zvs_pre,↓reduceIte,zvs,reduceCtorEq,Nat.reduceEqDiff,Nat.reduceAdd,Nat.reduceLeDiff,Nat.reduceMul,Int.reduceBNe,Int.reduceBEq,Int.reduceEq,Int.reduceNe,Int.reduceLT,Int.reduceLE,Int.reduceGT,Int.reduceGE,Int.reduceNeg,Int.reduceToNat,Nat.reduceLT,Nat.reduceSub,tab,ta,tb,ea,eb,sa,sb,encShr,hA1,hB1,storeAt_go,isP_ptr,Try.results7,List.toList_toArray]) | (simp (disch := omega) only [ziw]))
    all_goals first
      | (exfalso; omega)
      | skip
    refine ok_loop (fun i : Nat => ⟨slots [(4, .int .u8 (B8 x4)), (5, .int .u8 (B8 x5)), (7, .ptr 0 []), (12, .bool false), (13, .int .i64 Mc), (16, .ptr 1 []), (17, .ptr 2 []), (18, .ptr 3 []), (64, .int .i64 i)], rows [(0, .row (.arr 32 .cell) (encKey x1)), (1, .row shrSh (.agg [.int .u8 (B8 A.x), encKey A.d])), (2, .row shrSh (.agg [.int .u8 (B8 B.x), encKey B.d])), (3, .row (.arr 64 .cell) (.agg ((fitN x1 A B i).map encU)))], 4⟩) (fun i => i ≤ 32) (fun i => 32 - i) 0 ?_ (Nat.zero_le _) (fun i hi => ?_)
    · rw [fitN_zero]
      (refine Ren.mk [(0, 1), (1, 1603), (2, 1539), (3, 1731)] false (by first | (intro h; cases h; done) | exact fun _ => rfl) (by first | decide | rfl | (simp [turnOk]; done)) (by decide) ?_ ?_ <;> (repeat' (first | (with_reducible first | refine mr_int (by first | rfl | omega) | refine mr_str rfl | refine mr_bool rfl | refine mr_dat rfl (by first | rfl | assumption | (simp only [znl,nls_u,nls_shr,nl_shr]; (first | done | fail))) | refine mr_sl ?_ ?_ (by first | rfl | omega) | refine MR.ptr ?_ ?_ | refine mr_raw | refine mr_slnil | refine mr_empty ?_ | refine mr_row rfl (by (simp only [↓reduceIte,zlk,Nat.reduceEqDiff,reduceCtorEq]); exact rfl) ?_ ?_ ?_ (by decide) | refine mr_aggD rfl (by first | rfl | assumption | (simp only [znl,nls_u,nls_shr,nl_shr]; (first | done | fail))) | refine MR.agg (MRL.cons ?_ ?_) | refine mr_aggD ?_ (by first | rfl | assumption | (simp only [znl,nls_u,nls_shr,nl_shr]; (first | done | fail))) | refine MR.fn ?_ | refine MRL.cons ?_ ?_ | refine MRL.nil | refine alls_cons ?_ ?_ | refine alls_nil | refine allb_nil | refine allb_cons ?_ (by (simp only [↓reduceIte,zlk,Nat.reduceEqDiff,reduceCtorEq]); exact rfl) ?_ ?_ | refine MB.row ?_ | refine mb_arr ?_ ?_ | refine MR.map ?_ ?_ | refine mb_map rfl (by first | rfl | assumption | (simp only [znl,nls_u,nls_shr,nl_shr]; (first | done | fail))) | rfl) | (simp only [znl,nls_u,nls_shr,nl_shr]; (first | done | fail)) | (refine allb_ghost rfl ?_) | exact known_in rfl | exact known_lt rfl | ((with_reducible refine turn_ok ?_) <;> rfl) | (simp only [↓reduceIte,zlk,Nat.reduceEqDiff,reduceCtorEq]) | (with_reducible first | refine mb_map ?_ ?_ | refine mr_sl ?_ ?_ ?_ | refine mr_int ?_ | refine mr_str ?_ | refine mr_bool ?_ | refine mr_dat ?_ (by first | rfl | assumption | (simp only [znl,nls_u,nls_shr,nl_shr]; (first | done | fail))) | refine mr_aggD ?_ ?_))))
      all_goals (first | rfl | trace_state)
    by_cases hli : i < 32
    · have gA := get_u A.d i (by omega)
      have gB := get_u B.d i (by omega)
      have gO := get_u x1 i (by omega)
      have ei : ((32 : Int) + (i : Int)).toNat = 32 + i := by omega
      have i1 := inv_spec A.x
      have i2 := inv_spec B.x
      have i3 := inv_spec (A.x ^^^ B.x)
      have m1 := mul_spec (Gf.nth A.d i ^^^ Gf.nth x1 i) (Gf.inv A.x)
      have m2 := mul_spec (Gf.nth B.d i ^^^ Gf.nth x1 i) (Gf.inv B.x)
      have m3 := mul_spec (Gf.mul (Gf.nth A.d i ^^^ Gf.nth x1 i) (Gf.inv A.x) ^^^ Gf.mul (Gf.nth B.d i ^^^ Gf.nth x1 i) (Gf.inv B.x)) (Gf.inv (A.x ^^^ B.x))
      have e2 : Gf.mul (Gf.mul (Gf.nth A.d i ^^^ Gf.nth x1 i) (Gf.inv A.x) ^^^ Gf.mul (Gf.nth B.d i ^^^ Gf.nth x1 i) (Gf.inv B.x)) (Gf.inv (A.x ^^^ B.x)) = c2F x1 A B i := rfl
      rw [e2] at m3
      have m4 := mul_spec (c2F x1 A B i) A.x
      have e1 : Gf.mul (Gf.nth A.d i ^^^ Gf.nth x1 i) (Gf.inv A.x) ^^^ Gf.mul (c2F x1 A B i) A.x = c1F x1 A B i := rfl
      have hl1 := fitN_len x1 A B i hi
      have hg1 := get_u (fitN x1 A B i) (32 + i) (by omega)
      have hs1 := fitN_set2 x1 A B i hli
      have hl2 : (fillU 32 i (c1F x1 A B) ++ fillU 32 (i + 1) (c2F x1 A B)).length = 64 := by rw [List.length_append, fillU_len _ _ _ hi, fillU_len _ _ _ (by omega)]
      have hg2 := get_u (fillU 32 i (c1F x1 A B) ++ fillU 32 (i + 1) (c2F x1 A B)) (32 + i) (by omega)
      rw [nth_app_right (fillU_len _ _ _ hi), fillU_nth _ _ _ _ (by omega)] at hg2
      have hg3 := get_u (fillU 32 i (c1F x1 A B) ++ fillU 32 (i + 1) (c2F x1 A B)) i (by omega)
      have hs2 := fitN_set1 x1 A B i hli
      have hd2 : encU ((fillU 32 i (c1F x1 A B) ++ fillU 32 (i + 1) (c2F x1 A B)).getD (32 + i) 0) = .int .u8 (B8 (c2F x1 A B i)) := by
        have h := nth_app_right (b := fillU 32 (i + 1) (c2F x1 A B)) (i := i) (fillU_len 32 i (c1F x1 A B) (by omega))
        rw [fillU_nth _ _ _ _ (by omega)] at h
        show VV.int IntKind.u8 (B8 (Gf.nth _ _)) = _
        rw [h]
      generalize Gf.mul (Gf.nth A.d i ^^^ Gf.nth x1 i) (Gf.inv A.x) = p at m1 m3 e1
      generalize Gf.mul (Gf.nth B.d i ^^^ Gf.nth x1 i) (Gf.inv B.x) = q at m2 m3
      clear e2
      repeat' (first | (with_reducible first | refine ok_seq ?_ | refine xs1 ?_ | refine xs2 ?_ | refine xs3 ?_ | refine xb1 ?_ | refine xb2 ?_ | refine xb3 (by decide) ?_ | refine xb4 ?_ | refine xl2 ?_ | refine xl3 ?_ | refine xc2 ?_ | refine xc3 ?_ | refine ok_block ?_ | refine ok_scope ?_ | refine ok_skip ?_ | refine ok_label ?_ | refine ok_exit ?_ | refine ok_ret ?_ | refine ok_region (fun M hM => ?_) | refine vif_t ?_ | refine vif_f ?_ | refine fin_normal ?_ | refine fin_ret ?_ | (refine hM _ ?_; clear hM M) | refine vcallW_intro (call_data (by assumption) ?_ rfl ?_) | refine vcallHW_intro (hcall_data (by assumption) rfl ?_) ?_) | ((with_reducible refine nls_q ?_) <;> (first | rfl | assumption | (simp only [znl,nls_u,nls_shr,nl_shr]; (first | done | fail)))) | (with_reducible refine ok_cond (by (simp only [↓reduceIte,zlk,Nat.reduceEqDiff,reduceCtorEq]); exact rfl) ?_) | ((with_reducible first | refine vif_intro (fun hc => ?_) (fun hc => ?_) | refine vifW_intro (fun hc => ?_) (fun hc => ?_)) <;> (try simp (disch := omega) only [zhb] at hc) <;> (try (exfalso; omega)) <;> (try subst hc)) | (with_reducible refine cndW_intro (by omega) ?_) | (simp (config := { maxSteps := 400000 }) only [↓zvs_pre,↓reduceIte,zvs,reduceCtorEq,Nat.reduceEqDiff,Nat.reduceAdd,Nat.reduceLeDiff,Nat.reduceMul,Int.reduceBNe,Int.reduceBEq,Int.reduceEq,Int.reduceNe,Int.reduceLT,Int.reduceLE,Int.reduceGT,Int.reduceGE,Int.reduceNeg,Int.reduceToNat,Nat.reduceLT,Nat.reduceSub,tab,Try.results7,List.toList_toArray]) | (simp (disch := omega) only [ziw]))
      refine ok_draw 12 (by kernel_rfl) (by decide +kernel) (by intro m hm; simp only [upd_ap,rows_cons,rows_nil]; (repeat (first | rfl | rw [if_neg (by omega)]))) (fun M hM => ?_); simp only [List.take_succ_cons,List.take_zero,List.drop_succ_cons,List.drop_zero]
      repeat' (first | (with_reducible first | refine ok_seq ?_ | refine xs1 ?_ | refine xs2 ?_ | refine xs3 ?_ | refine xb1 ?_ | refine xb2 ?_ | refine xb3 (by decide) ?_ | refine xb4 ?_ | refine xl2 ?_ | refine xl3 ?_ | refine xc2 ?_ | refine xc3 ?_ | refine ok_block ?_ | refine ok_scope ?_ | refine ok_skip ?_ | refine ok_label ?_ | refine ok_exit ?_ | refine ok_ret ?_ | refine ok_region (fun M hM => ?_) | refine vif_t ?_ | refine vif_f ?_ | refine fin_normal ?_ | refine fin_ret ?_ | (refine hM _ ?_; clear hM M) | refine vcallW_intro (call_data (by assumption) ?_ rfl ?_) | refine vcallHW_intro (hcall_data (by assumption) rfl ?_) ?_) | ((with_reducible refine nls_q ?_) <;> (first | rfl | assumption | (simp only [znl,nls_u,nls_shr,nl_shr]; (first | done | fail)))) | (with_reducible refine ok_cond (by (simp only [↓reduceIte,zlk,Nat.reduceEqDiff,reduceCtorEq]); exact rfl) ?_) | ((with_reducible first | refine vif_intro (fun hc => ?_) (fun hc => ?_) | refine vifW_intro (fun hc => ?_) (fun hc => ?_)) <;> (try simp (disch := omega) only [zhb] at hc) <;> (try (exfalso; omega)) <;> (try subst hc)) | (with_reducible refine cndW_intro (by omega) ?_) | (simp (config := { maxSteps := 400000 }) only [↓zvs_pre,↓reduceIte,zvs,reduceCtorEq,Nat.reduceEqDiff,Nat.reduceAdd,Nat.reduceLeDiff,Nat.reduceMul,Int.reduceBNe,Int.reduceBEq,Int.reduceEq,Int.reduceNe,Int.reduceLT,Int.reduceLE,Int.reduceGT,Int.reduceGE,Int.reduceNeg,Int.reduceToNat,Nat.reduceLT,Nat.reduceSub,tab,gA,gB,gO,bits_xor8,Try.results7,List.toList_toArray]) | (simp (disch := omega) only [ziw]))
      refine ok_draw 12 (by kernel_rfl) (by decide +kernel) (by intro m hm; simp only [upd_ap,rows_cons,rows_nil]; (repeat (first | rfl | rw [if_neg (by omega)]))) (fun M hM => ?_); simp only [List.take_succ_cons,List.take_zero,List.drop_succ_cons,List.drop_zero]
      repeat' (first | (with_reducible first | refine ok_seq ?_ | refine xs1 ?_ | refine xs2 ?_ | refine xs3 ?_ | refine xb1 ?_ | refine xb2 ?_ | refine xb3 (by decide) ?_ | refine xb4 ?_ | refine xl2 ?_ | refine xl3 ?_ | refine xc2 ?_ | refine xc3 ?_ | refine ok_block ?_ | refine ok_scope ?_ | refine ok_skip ?_ | refine ok_label ?_ | refine ok_exit ?_ | refine ok_ret ?_ | refine ok_region (fun M hM => ?_) | refine vif_t ?_ | refine vif_f ?_ | refine fin_normal ?_ | refine fin_ret ?_ | (refine hM _ ?_; clear hM M) | refine vcallW_intro (call_data (by assumption) ?_ rfl ?_) | refine vcallHW_intro (hcall_data (by assumption) rfl ?_) ?_) | ((with_reducible refine nls_q ?_) <;> (first | rfl | assumption | (simp only [znl,nls_u,nls_shr,nl_shr]; (first | done | fail)))) | (with_reducible refine ok_cond (by (simp only [↓reduceIte,zlk,Nat.reduceEqDiff,reduceCtorEq]); exact rfl) ?_) | ((with_reducible first | refine vif_intro (fun hc => ?_) (fun hc => ?_) | refine vifW_intro (fun hc => ?_) (fun hc => ?_)) <;> (try simp (disch := omega) only [zhb] at hc) <;> (try (exfalso; omega)) <;> (try subst hc)) | (with_reducible refine cndW_intro (by omega) ?_) | (simp (config := { maxSteps := 400000 }) only [↓zvs_pre,↓reduceIte,zvs,reduceCtorEq,Nat.reduceEqDiff,Nat.reduceAdd,Nat.reduceLeDiff,Nat.reduceMul,Int.reduceBNe,Int.reduceBEq,Int.reduceEq,Int.reduceNe,Int.reduceLT,Int.reduceLE,Int.reduceGT,Int.reduceGE,Int.reduceNeg,Int.reduceToNat,Nat.reduceLT,Nat.reduceSub,tab,gA,gB,gO,bits_xor8,ei,hg1,hs1,Try.results7,List.toList_toArray]) | (simp (disch := omega) only [ziw]))
      refine ok_draw 11 (by kernel_rfl) (by decide +kernel) (by intro m hm; simp only [upd_ap,rows_cons,rows_nil]; (repeat (first | rfl | rw [if_neg (by omega)]))) (fun M hM => ?_); simp only [List.take_succ_cons,List.take_zero,List.drop_succ_cons,List.drop_zero]
      repeat' (first | (with_reducible first | refine ok_seq ?_ | refine xs1 ?_ | refine xs2 ?_ | refine xs3 ?_ | refine xb1 ?_ | refine xb2 ?_ | refine xb3 (by decide) ?_ | refine xb4 ?_ | refine xl2 ?_ | refine xl3 ?_ | refine xc2 ?_ | refine xc3 ?_ | refine ok_block ?_ | refine ok_scope ?_ | refine ok_skip ?_ | refine ok_label ?_ | refine ok_exit ?_ | refine ok_ret ?_ | refine ok_region (fun M hM => ?_) | refine vif_t ?_ | refine vif_f ?_ | refine fin_normal ?_ | refine fin_ret ?_ | (refine hM _ ?_; clear hM M) | refine vcallW_intro (call_data (by assumption) ?_ rfl ?_) | refine vcallHW_intro (hcall_data (by assumption) rfl ?_) ?_) | ((with_reducible refine nls_q ?_) <;> (first | rfl | assumption | (simp only [znl,nls_u,nls_shr,nl_shr]; (first | done | fail)))) | (with_reducible refine ok_cond (by (simp only [↓reduceIte,zlk,Nat.reduceEqDiff,reduceCtorEq]); exact rfl) ?_) | ((with_reducible first | refine vif_intro (fun hc => ?_) (fun hc => ?_) | refine vifW_intro (fun hc => ?_) (fun hc => ?_)) <;> (try simp (disch := omega) only [zhb] at hc) <;> (try (exfalso; omega)) <;> (try subst hc)) | (with_reducible refine cndW_intro (by omega) ?_) | (simp (config := { maxSteps := 400000 }) only [↓zvs_pre,↓reduceIte,zvs,reduceCtorEq,Nat.reduceEqDiff,Nat.reduceAdd,Nat.reduceLeDiff,Nat.reduceMul,Int.reduceBNe,Int.reduceBEq,Int.reduceEq,Int.reduceNe,Int.reduceLT,Int.reduceLE,Int.reduceGT,Int.reduceGE,Int.reduceNeg,Int.reduceToNat,Nat.reduceLT,Nat.reduceSub,tab,bits_xor8,ei,hg2,hd2,hg3,e1,hs2,Try.results7,List.toList_toArray]) | (simp (disch := omega) only [ziw]))
      refine xl1 (i + 1) ?_ (by show i + 1 ≤ 32; omega) (by show 32 - (i + 1) < 32 - i; omega)
      (refine Ren.mk [(0, 0), (1, 1), (2, 2), (3, 3)] false (by first | (intro h; cases h; done) | exact fun _ => rfl) (by first | decide | rfl | (simp [turnOk]; done)) (by decide) ?_ ?_ <;> (repeat' (first | (with_reducible first | refine mr_int (by first | rfl | omega) | refine mr_str rfl | refine mr_bool rfl | refine mr_dat rfl (by first | rfl | assumption | (simp only [znl,nls_u,nls_shr,nl_shr]; (first | done | fail))) | refine mr_sl ?_ ?_ (by first | rfl | omega) | refine MR.ptr ?_ ?_ | refine mr_raw | refine mr_slnil | refine mr_empty ?_ | refine mr_row rfl (by (simp only [↓reduceIte,zlk,Nat.reduceEqDiff,reduceCtorEq]); exact rfl) ?_ ?_ ?_ (by decide) | refine mr_aggD rfl (by first | rfl | assumption | (simp only [znl,nls_u,nls_shr,nl_shr]; (first | done | fail))) | refine MR.agg (MRL.cons ?_ ?_) | refine mr_aggD ?_ (by first | rfl | assumption | (simp only [znl,nls_u,nls_shr,nl_shr]; (first | done | fail))) | refine MR.fn ?_ | refine MRL.cons ?_ ?_ | refine MRL.nil | refine alls_cons ?_ ?_ | refine alls_nil | refine allb_nil | refine allb_cons ?_ (by (simp only [↓reduceIte,zlk,Nat.reduceEqDiff,reduceCtorEq]); exact rfl) ?_ ?_ | refine MB.row ?_ | refine mb_arr ?_ ?_ | refine MR.map ?_ ?_ | refine mb_map rfl (by first | rfl | assumption | (simp only [znl,nls_u,nls_shr,nl_shr]; (first | done | fail))) | rfl) | (simp only [znl,nls_u,nls_shr,nl_shr]; (first | done | fail)) | (refine allb_ghost rfl ?_) | exact known_in rfl | exact known_lt rfl | ((with_reducible refine turn_ok ?_) <;> rfl) | (simp only [↓reduceIte,zlk,Nat.reduceEqDiff,reduceCtorEq]) | (with_reducible first | refine mb_map ?_ ?_ | refine mr_sl ?_ ?_ ?_ | refine mr_int ?_ | refine mr_str ?_ | refine mr_bool ?_ | refine mr_dat ?_ (by first | rfl | assumption | (simp only [znl,nls_u,nls_shr,nl_shr]; (first | done | fail))) | refine mr_aggD ?_ ?_))))
      all_goals (first | rfl | trace_state)
    · obtain rfl : i = 32 := by omega
      obtain ⟨f1, f2⟩ := fit_share x1 hla hlb (by rw [hxa]; exact x_nz (by omega)) (by rw [hxb]; exact x_nz (by omega)) hab
      have hl1 := fitN_len x1 A B 32 (Nat.le_refl _)
      have hS2 := split_spec x1 (fitN x1 A B 32) ho Mc (by omega) (by omega)
      rw [if_neg (by omega), Int.toNat_natCast] at hS2
      have sa2 := split_get x1 (fitN x1 A B 32) Mc a ha
      have sb2 := split_get x1 (fitN x1 A B 32) Mc b hb
      rw [← hxa, f1] at sa2
      rw [← hxb, f2] at sb2
      have hLl2 := split_len x1 (fitN x1 A B 32) Mc
      have bt2 : bytesOf (List.take 64 ((fitN x1 A B 32).map encU)) = some (fitN x1 A B 32) := by rw [List.take_of_length_le (by rw [List.length_map]; omega)]; exact bytesOf_u _
      have bt3 := bytesOf_u (fitN x1 A B 32)
      have hF := hasKey64 (fitN x1 A B 32) hl1
      generalize splitS x1 (fitN x1 A B 32) Mc = L2 at hS2 sa2 sb2 hLl2
      generalize fitN x1 A B 32 = N at *
      have ga2 := map_getD encShr L2 a (by omega)
      have gb2 := map_getD encShr L2 b (by omega)
      rw [sa2] at ga2
      rw [sb2] at gb2
      simp only [encShr] at ga2 gb2
      have fa := fit_shr A.x A.d hla
      have fb := fit_shr B.x B.d hlb
      have va := veq_shr A.x A.x A.d A.d
      have vb := veq_shr B.x B.x B.d B.d
      rw [decide_eq_true ⟨rfl, rfl⟩] at va vb
      repeat' (first | (with_reducible first | refine ok_seq ?_ | refine xs1 ?_ | refine xs2 ?_ | refine xs3 ?_ | refine xb1 ?_ | refine xb2 ?_ | refine xb3 (by decide) ?_ | refine xb4 ?_ | refine xl2 ?_ | refine xl3 ?_ | refine xc2 ?_ | refine xc3 ?_ | refine ok_block ?_ | refine ok_scope ?_ | refine ok_skip ?_ | refine ok_label ?_ | refine ok_exit ?_ | refine ok_ret ?_ | refine ok_region (fun M hM => ?_) | refine vif_t ?_ | refine vif_f ?_ | refine fin_normal ?_ | refine fin_ret ?_ | (refine hM _ ?_; clear hM M) | refine vcallW_intro (call_data (by assumption) ?_ rfl ?_) | refine vcallHW_intro (hcall_data (by assumption) rfl ?_) ?_) | ((with_reducible refine nls_q ?_) <;> (first | rfl | assumption | (simp only [znl,nls_u,nls_shr,nl_shr]; (first | done | fail)))) | (with_reducible refine ok_cond (by (simp only [↓reduceIte,zlk,Nat.reduceEqDiff,reduceCtorEq]); exact rfl) ?_) | ((with_reducible first | refine vif_intro (fun hc => ?_) (fun hc => ?_) | refine vifW_intro (fun hc => ?_) (fun hc => ?_)) <;> (try simp (disch := omega) only [zhb] at hc) <;> (try (exfalso; omega)) <;> (try subst hc)) | (with_reducible refine cndW_intro (by omega) ?_) | (simp (config := { maxSteps := 400000 }) only [↓zvs_pre,↓reduceIte,zvs,reduceCtorEq,Nat.reduceEqDiff,Nat.reduceAdd,Nat.reduceLeDiff,Nat.reduceMul,Int.reduceBNe,Int.reduceBEq,Int.reduceEq,Int.reduceNe,Int.reduceLT,Int.reduceLE,Int.reduceGT,Int.reduceGE,Int.reduceNeg,Int.reduceToNat,Nat.reduceLT,Nat.reduceSub,tab,hO,hF,Try.results7,List.toList_toArray]) | (simp (disch := omega) only [ziw]))
      refine ok_draw 10 (by kernel_rfl) (by decide +kernel) (by intro m hm; simp only [upd_ap,rows_cons,rows_nil]; (repeat (first | rfl | rw [if_neg (by omega)]))) (fun M hM => ?_); simp only [List.take_succ_cons,List.take_zero,List.drop_succ_cons,List.drop_zero]
      repeat' (first | (with_reducible first | refine ok_seq ?_ | refine xs1 ?_ | refine xs2 ?_ | refine xs3 ?_ | refine xb1 ?_ | refine xb2 ?_ | refine xb3 (by decide) ?_ | refine xb4 ?_ | refine xl2 ?_ | refine xl3 ?_ | refine xc2 ?_ | refine xc3 ?_ | refine ok_block ?_ | refine ok_scope ?_ | refine ok_skip ?_ | refine ok_label ?_ | refine ok_exit ?_ | refine ok_ret ?_ | refine ok_region (fun M hM => ?_) | refine vif_t ?_ | refine vif_f ?_ | refine fin_normal ?_ | refine fin_ret ?_ | (refine hM _ ?_; clear hM M) | refine vcallW_intro (call_data (by assumption) ?_ rfl ?_) | refine vcallHW_intro (hcall_data (by assumption) rfl ?_) ?_) | ((with_reducible refine nls_q ?_) <;> (first | rfl | assumption | (simp only [znl,nls_u,nls_shr,nl_shr]; (first | done | fail)))) | (with_reducible refine ok_cond (by (simp only [↓reduceIte,zlk,Nat.reduceEqDiff,reduceCtorEq]); exact rfl) ?_) | ((with_reducible first | refine vif_intro (fun hc => ?_) (fun hc => ?_) | refine vifW_intro (fun hc => ?_) (fun hc => ?_)) <;> (try simp (disch := omega) only [zhb] at hc) <;> (try (exfalso; omega)) <;> (try subst hc)) | (with_reducible refine cndW_intro (by omega) ?_) | (simp (config := { maxSteps := 400000 }) only [↓zvs_pre,↓reduceIte,zvs,reduceCtorEq,Nat.reduceEqDiff,Nat.reduceAdd,Nat.reduceLeDiff,Nat.reduceMul,Int.reduceBNe,Int.reduceBEq,Int.reduceEq,Int.reduceNe,Int.reduceLT,Int.reduceLE,Int.reduceGT,Int.reduceGE,Int.reduceNeg,Int.reduceToNat,Nat.reduceLT,Nat.reduceSub,tab,hO,hF,bt2,bt3,hl1,Try.results7,List.toList_toArray]) | (simp (disch := omega) only [ziw]))
      refine ok_draw 33 (by kernel_rfl) (by decide +kernel) (by intro m hm; simp only [upd_ap,rows_cons,rows_nil]; (repeat (first | rfl | rw [if_neg (by omega)]))) (fun M hM => ?_); simp only [List.take_succ_cons,List.take_zero,List.drop_succ_cons,List.drop_zero]
      repeat' (first | (with_reducible first | refine ok_seq ?_ | refine xs1 ?_ | refine xs2 ?_ | refine xs3 ?_ | refine xb1 ?_ | refine xb2 ?_ | refine xb3 (by decide) ?_ | refine xb4 ?_ | refine xl2 ?_ | refine xl3 ?_ | refine xc2 ?_ | refine xc3 ?_ | refine ok_block ?_ | refine ok_scope ?_ | refine ok_skip ?_ | refine ok_label ?_ | refine ok_exit ?_ | refine ok_ret ?_ | refine ok_region (fun M hM => ?_) | refine vif_t ?_ | refine vif_f ?_ | refine fin_normal ?_ | refine fin_ret ?_ | (refine hM _ ?_; clear hM M) | refine vcallW_intro (call_data (by assumption) ?_ rfl ?_) | refine vcallHW_intro (hcall_data (by assumption) rfl ?_) ?_) | ((with_reducible refine nls_q ?_) <;> (first | rfl | assumption | (simp only [znl,nls_u,nls_shr,nl_shr]; (first | done | fail)))) | (with_reducible refine ok_cond (by (simp only [↓reduceIte,zlk,Nat.reduceEqDiff,reduceCtorEq]); exact rfl) ?_) | ((with_reducible first | refine vif_intro (fun hc => ?_) (fun hc => ?_) | refine vifW_intro (fun hc => ?_) (fun hc => ?_)) <;> (try simp (disch := omega) only [zhb] at hc) <;> (try (exfalso; omega)) <;> (try subst hc)) | (with_reducible refine cndW_intro (by omega) ?_) | (simp (config := { maxSteps := 400000 }) only [↓zvs_pre,↓reduceIte,zvs,reduceCtorEq,Nat.reduceEqDiff,Nat.reduceAdd,Nat.reduceLeDiff,Nat.reduceMul,Int.reduceBNe,Int.reduceBEq,Int.reduceEq,Int.reduceNe,Int.reduceLT,Int.reduceLE,Int.reduceGT,Int.reduceGE,Int.reduceNeg,Int.reduceToNat,Nat.reduceLT,Nat.reduceSub,tab,ta,tb,ea,eb,sa2,sb2,encShr,hA1,hB1,fa,fb,va,vb,Try.results7,List.toList_toArray]) | (simp (disch := omega) only [ziw]))
      all_goals first
        | (exfalso; omega)
        | (simp only [zrds]; done)
        | trace_state
end Go.Proofs.Ytndbfphmjmhkjaa.V
