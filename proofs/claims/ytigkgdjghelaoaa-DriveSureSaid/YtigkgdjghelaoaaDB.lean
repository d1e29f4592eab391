/-
  Drive, part 11: the law DriveSure.
-/
import Derived.Test.YtigkgdjghelaoaaDA
set_option linter.unusedVariables false
set_option linter.unusedSimpArgs false
namespace Go.Proofs.Ytigkgdjghelaoaa.V
open Go
set_option maxRecDepth 100000
-- nlx: nls_wr, nls_ints
set_option maxHeartbeats 1000000
theorem checkD_bl {d : Dr} (h : checkD d = 0) : d.bl.length ≤ 256 := by
  unfold checkD at h
  split at h
  · cases h
  · omega
theorem checkW_zero : ∀ {n : Nat} {l : List Wr}, (∀ w ∈ l, (0 ≤ w.b ∧ w.b < (n : Int)) ∧ w.d.length = 128) → checkW n l = 0
  | n, [], _ => rfl
  | n, w :: l, h => by
    obtain ⟨h1, h2⟩ := h w (by simp)
    rw [checkW, if_neg (fun hh => hh h1), if_neg (by omega)]
    exact checkW_zero fun v hv => h v (by simp [hv])
theorem checkD_zero {d : Dr} (h0 : d.bl.length ≤ 256) (h1 : ∀ s ∈ d.bl, s.length = 128) (h2 : ∀ w ∈ d.pe, (0 ≤ w.b ∧ w.b < (d.bl.length : Int)) ∧ w.d.length = 128) : checkD d = 0 := by
  unfold checkD
  rw [if_neg (by omega), if_neg, checkW_zero h2]
  rw [Bool.not_eq_true, List.any_eq_false]
  intro s hs
  simp [h1 s hs]
theorem flush_check {d : Dr} (h : checkD d = 0) (n : Int) : checkD ⟨flushB d.pe d.bl, [], n⟩ = 0 := by
  obtain ⟨h1, h2⟩ := checkD_ok h
  refine checkD_zero (by show (flushB d.pe d.bl).length ≤ _; rw [flushB_len]; exact checkD_bl h) (fun s hs => ?_) fun w hw => by cases hw
  rcases flushB_mem _ _ _ hs with ⟨w, hw, rfl⟩ | hs
  · exact (h2 w hw).2
  · exact h1 s hs
theorem toV_ints (x : List Int) : toV (.sl (.int .i64)) x = encInts x := by
  simp only [toV,tsh]
  rfl
theorem sure_law (x0 : List (List UInt8) × List (Int × List UInt8 × Unit) × Int × Unit) (x1 : List Int) (g0 : good drT x0) (g1 : good (.sl (.int .i64)) x1) (l0 : Ty.lite drT x0) (l1 : Ty.lite (.sl (.int .i64)) x1) :
    Spec Try.prog 14 [toV drT x0, toV (.sl (.int .i64)) x1] (.bool true) := by
  have hA := dr_arg x0 g0 l0
  have hps : ∀ x ∈ x1, -2 ^ 63 ≤ x ∧ x < 2 ^ 63 := fun x hx => by
    have h : -9223372036854775808 ≤ x ∧ x ≤ 9223372036854775807 := bounds_i64 (g1 x hx)
    omega
  have hpl : x1.length ≤ 2 ^ 47 := Nat.le_trans l1.1 reach47
  rw [toV_dr, toV_ints]
  generalize mkDr x0 = d at hA
  clear g0 l0 x0 g1 l1
  obtain ⟨hl, hw, hG⟩ := hA
  have hF := fixed_spec
  cases hb : bigD d with
  | true =>
    rw [hb, if_pos rfl] at hG
    refine spec_ok Try.func14 rfl rfl (by kernel_rfl) (k := 2) rfl (by decide) ?_
    repeat' (first | (with_reducible first | refine ok_seq ?_ | refine xs1 ?_ | refine xs2 ?_ | refine xs3 ?_ | refine xb1 ?_ | refine xb2 ?_ | refine xb3 (by decide) ?_ | refine xb4 ?_ | refine xl2 ?_ | refine xl3 ?_ | refine xc2 ?_ | refine xc3 ?_ | refine ok_block ?_ | refine ok_scope ?_ | refine ok_skip ?_ | refine ok_label ?_ | refine ok_exit ?_ | refine ok_ret ?_ | refine ok_region (fun M hM => ?_) | refine vif_t ?_ | refine vif_f ?_ | refine fin_normal ?_ | refine fin_ret ?_ | (refine hM _ ?_; clear hM M) | refine vcallW_intro (call_data (by assumption) ?_ rfl ?_) | refine vcallHW_intro (hcall_data (by assumption) rfl ?_) ?_) | ((with_reducible refine nls_q ?_) <;> (first | rfl | assumption | (simp only [znl,nls_wr,nls_ints]; (first | done | fail)))) | (with_reducible refine ok_cond (by (simp only [↓reduceIte,zlk,Nat.reduceEqDiff,reduceCtorEq]); exact rfl) ?_) | ((with_reducible first | refine vif_intro (fun hc => ?_) (fun hc => ?_) | refine vifW_intro (fun hc => ?_) (fun hc => ?_)) <;> (try simp (disch := omega) only [zhb] at hc) <;> (try (exfalso; omega)) <;> (try subst hc)) | (with_reducible refine cndW_intro (by omega) ?_) | (simp (config := { maxSteps := 400000 }) only [↓zvs_pre,↓reduceIte,zvs,reduceCtorEq,Nat.reduceEqDiff,Nat.reduceAdd,Nat.reduceLeDiff,Nat.reduceMul,Int.reduceBNe,Int.reduceBEq,Int.reduceEq,Int.reduceNe,Int.reduceLT,Int.reduceLE,Int.reduceGT,Int.reduceGE,Int.reduceNeg,Int.reduceToNat,Nat.reduceLT,Nat.reduceSub,tab,Try.results14,List.toList_toArray]) | (simp (disch := omega) only [ziw]))
    all_goals simp only [zrds]
  | false =>
    rw [hb, if_neg (by simp)] at hG
    obtain ⟨hfit, hs1, hs2, hs3, hs4⟩ := dr_small hb
    have h3 := check_spec d hfit
    by_cases hck : checkD d = 0 ∧ x1.length ≤ 100
    · obtain ⟨hck, hp100⟩ := hck
      rw [hck] at h3
      have h4 := flush_spec d hfit hl
      have hfq := flushD_fit hfit
      by_cases hz : d.left = 0
      · rw [flushD, if_pos hz] at h4
        simp only [drV] at h4
        have h5 := dsame_spec d d hfit hfit
        rw [decide_eq_true rfl] at h5
        refine spec_ok Try.func14 rfl rfl (by kernel_rfl) (k := 2) rfl (by decide) ?_
        repeat' (first | (with_reducible first | refine ok_seq ?_ | refine xs1 ?_ | refine xs2 ?_ | refine xs3 ?_ | refine xb1 ?_ | refine xb2 ?_ | refine xb3 (by decide) ?_ | refine xb4 ?_ | refine xl2 ?_ | refine xl3 ?_ | refine xc2 ?_ | refine xc3 ?_ | refine ok_block ?_ | refine ok_scope ?_ | refine ok_skip ?_ | refine ok_label ?_ | refine ok_exit ?_ | refine ok_ret ?_ | refine ok_region (fun M hM => ?_) | refine vif_t ?_ | refine vif_f ?_ | refine fin_normal ?_ | refine fin_ret ?_ | (refine hM _ ?_; clear hM M) | refine vcallW_intro (call_data (by assumption) ?_ rfl ?_) | refine vcallHW_intro (hcall_data (by assumption) rfl ?_) ?_) | ((with_reducible refine nls_q ?_) <;> (first | rfl | assumption | (simp only [znl,nls_wr,nls_ints]; (first | done | fail)))) | (with_reducible refine ok_cond (by (simp only [↓reduceIte,zlk,Nat.reduceEqDiff,reduceCtorEq]); exact rfl) ?_) | ((with_reducible first | refine vif_intro (fun hc => ?_) (fun hc => ?_) | refine vifW_intro (fun hc => ?_) (fun hc => ?_)) <;> (try simp (disch := omega) only [zhb] at hc) <;> (try (exfalso; omega)) <;> (try subst hc)) | (with_reducible refine cndW_intro (by omega) ?_) | (simp (config := { maxSteps := 400000 }) only [↓zvs_pre,↓reduceIte,zvs,reduceCtorEq,Nat.reduceEqDiff,Nat.reduceAdd,Nat.reduceLeDiff,Nat.reduceMul,Int.reduceBNe,Int.reduceBEq,Int.reduceEq,Int.reduceNe,Int.reduceLT,Int.reduceLE,Int.reduceGT,Int.reduceGE,Int.reduceNeg,Int.reduceToNat,Nat.reduceLT,Nat.reduceSub,tab,hz,Try.results14,List.toList_toArray]) | (simp (disch := omega) only [ziw]))
        all_goals first
          | (exfalso; omega)
          | (simp only [zrds]; done)
      · rw [flushD, if_neg hz] at h4 hfq
        simp only [drV] at h4
        have h5 := crash_spec _ hfq x1 (by omega) hps
        have h6 : checkD ⟨flushB d.pe d.bl, [], -1⟩ = 0 := flush_check hck (-1)
        have hgl := flushB_len d.pe d.bl
        have hget : ∀ (k : Nat), k < d.bl.length → (flushB d.pe d.bl).getD k [] = getP d.pe k (d.bl.getD k []) := fun k hk => flushB_get _ _ k hk
        have e5 : (⟨crashB ⟨flushB d.pe d.bl, [], lessD d.left⟩ x1 0, [], -1⟩ : Dr) = ⟨flushB d.pe d.bl, [], -1⟩ := rfl
        have hfc : dfit ⟨flushB d.pe d.bl, [], -1⟩ := hfq
        have h7 := check_spec _ hfc
        rw [h6] at h7
        have h5 : Spec Try.prog 36 [encDr ⟨flushB d.pe d.bl, [], lessD d.left⟩, encInts x1] (encDr ⟨flushB d.pe d.bl, [], -1⟩) := h5
        have g2 : ∀ (k : Nat), k < d.bl.length → Spec Try.prog 42 [encDr ⟨flushB d.pe d.bl, [], -1⟩, .int .i64 k] (.tup [.str (getP d.pe k (d.bl.getD k [])), .int .i64 0]) := fun k hk => by
          have := get_spec _ hfc k (by omega)
          rw [getV, if_pos ⟨by omega, by show (k : Int) < ((flushB d.pe d.bl).length : Int); omega⟩, Int.toNat_natCast] at this
          rw [← hget k hk]
          exact this
        generalize flushB d.pe d.bl = g at h4 h5 h7 g2 hgl
        clear hfq hfc h6 e5 hget
        refine spec_ok Try.func14 rfl rfl (by kernel_rfl) (k := 2) rfl (by decide) ?_
        repeat' (first | (with_reducible first | refine ok_seq ?_ | refine xs1 ?_ | refine xs2 ?_ | refine xs3 ?_ | refine xb1 ?_ | refine xb2 ?_ | refine xb3 (by decide) ?_ | refine xb4 ?_ | refine xl2 ?_ | refine xl3 ?_ | refine xc2 ?_ | refine xc3 ?_ | refine ok_block ?_ | refine ok_scope ?_ | refine ok_skip ?_ | refine ok_label ?_ | refine ok_exit ?_ | refine ok_ret ?_ | refine ok_region (fun M hM => ?_) | refine vif_t ?_ | refine vif_f ?_ | refine fin_normal ?_ | refine fin_ret ?_ | (refine hM _ ?_; clear hM M) | refine vcallW_intro (call_data (by assumption) ?_ rfl ?_) | refine vcallHW_intro (hcall_data (by assumption) rfl ?_) ?_) | ((with_reducible refine nls_q ?_) <;> (first | rfl | assumption | (simp only [znl,nls_wr,nls_ints]; (first | done | fail)))) | (with_reducible refine ok_cond (by (simp only [↓reduceIte,zlk,Nat.reduceEqDiff,reduceCtorEq]); exact rfl) ?_) | ((with_reducible first | refine vif_intro (fun hc => ?_) (fun hc => ?_) | refine vifW_intro (fun hc => ?_) (fun hc => ?_)) <;> (try simp (disch := omega) only [zhb] at hc) <;> (try (exfalso; omega)) <;> (try subst hc)) | (with_reducible refine cndW_intro (by omega) ?_) | (simp (config := { maxSteps := 400000 }) only [↓zvs_pre,↓reduceIte,zvs,reduceCtorEq,Nat.reduceEqDiff,Nat.reduceAdd,Nat.reduceLeDiff,Nat.reduceMul,Int.reduceBNe,Int.reduceBEq,Int.reduceEq,Int.reduceNe,Int.reduceLT,Int.reduceLE,Int.reduceGT,Int.reduceGE,Int.reduceNeg,Int.reduceToNat,Nat.reduceLT,Nat.reduceSub,tab,hgl,Try.results14,List.toList_toArray]) | (simp (disch := omega) only [ziw]))
        all_goals first
          | (exfalso; omega)
          | skip
        refine ok_loop (fun k : Nat => ⟨slots [(2, .ptr 0 []), (4, .bool false), (7, .ptr 2 []), (79, .int .i64 d.bl.length), (80, .int .i64 k)], rows [(0, .row (.st [.cell, .cell, .cell]) (encDr d)), (2, .row (.st [.cell, .cell, .cell]) (encDr ⟨g, [], -1⟩))], 3⟩) (fun k => k ≤ d.bl.length) (fun k => d.bl.length - k) 0 ?_ (Nat.zero_le _) (fun k hk => ?_)
        · (refine Ren.mk [(0, 0), (2, 2)] false (by first | (intro h; cases h; done) | exact fun _ => rfl) (by first | decide | rfl | (simp [turnOk]; done)) (by decide) ?_ ?_ <;> (repeat' (first | (with_reducible first | refine mr_int (by first | rfl | omega) | refine mr_str rfl | refine mr_bool rfl | refine mr_dat rfl (by first | rfl | assumption | (simp only [znl,nls_wr,nls_ints]; (first | done | fail))) | refine mr_sl ?_ ?_ (by first | rfl | omega) | refine MR.ptr ?_ ?_ | refine mr_raw | refine mr_slnil | refine mr_empty ?_ | refine mr_row rfl (by (simp only [↓reduceIte,zlk,Nat.reduceEqDiff,reduceCtorEq]); exact rfl) ?_ ?_ ?_ (by decide) | refine mr_aggD rfl (by first | rfl | assumption | (simp only [znl,nls_wr,nls_ints]; (first | done | fail))) | refine MR.agg (MRL.cons ?_ ?_) | refine mr_aggD ?_ (by first | rfl | assumption | (simp only [znl,nls_wr,nls_ints]; (first | done | fail))) | refine MR.fn ?_ | refine MRL.cons ?_ ?_ | refine MRL.nil | refine alls_cons ?_ ?_ | refine alls_nil | refine allb_nil | refine allb_cons ?_ (by (simp only [↓reduceIte,zlk,Nat.reduceEqDiff,reduceCtorEq]); exact rfl) ?_ ?_ | refine MB.row ?_ | refine mb_arr ?_ ?_ | refine MR.map ?_ ?_ | refine mb_map rfl (by first | rfl | assumption | (simp only [znl,nls_wr,nls_ints]; (first | done | fail))) | rfl) | (simp only [znl,nls_wr,nls_ints]; (first | done | fail)) | (refine allb_ghost rfl ?_) | exact known_in rfl | exact known_lt rfl | ((with_reducible refine turn_ok ?_) <;> rfl) | (simp only [↓reduceIte,zlk,Nat.reduceEqDiff,reduceCtorEq]) | (with_reducible first | refine mb_map ?_ ?_ | refine mr_sl ?_ ?_ ?_ | refine mr_int ?_ | refine mr_str ?_ | refine mr_bool ?_ | refine mr_dat ?_ (by first | rfl | assumption | (simp only [znl,nls_wr,nls_ints]; (first | done | fail))) | refine mr_aggD ?_ ?_))))
        by_cases hlt : k < d.bl.length
        · have g1 := get_spec d hfit k (by omega)
          have g3 := g2 k hlt
          rw [getV, if_pos (by omega), Int.toNat_natCast] at g1
          repeat' (first | (with_reducible first | refine ok_seq ?_ | refine xs1 ?_ | refine xs2 ?_ | refine xs3 ?_ | refine xb1 ?_ | refine xb2 ?_ | refine xb3 (by decide) ?_ | refine xb4 ?_ | refine xl2 ?_ | refine xl3 ?_ | refine xc2 ?_ | refine xc3 ?_ | refine ok_block ?_ | refine ok_scope ?_ | refine ok_skip ?_ | refine ok_label ?_ | refine ok_exit ?_ | refine ok_ret ?_ | refine ok_region (fun M hM => ?_) | refine vif_t ?_ | refine vif_f ?_ | refine fin_normal ?_ | refine fin_ret ?_ | (refine hM _ ?_; clear hM M) | refine vcallW_intro (call_data (by assumption) ?_ rfl ?_) | refine vcallHW_intro (hcall_data (by assumption) rfl ?_) ?_) | ((with_reducible refine nls_q ?_) <;> (first | rfl | assumption | (simp only [znl,nls_wr,nls_ints]; (first | done | fail)))) | (with_reducible refine ok_cond (by (simp only [↓reduceIte,zlk,Nat.reduceEqDiff,reduceCtorEq]); exact rfl) ?_) | ((with_reducible first | refine vif_intro (fun hc => ?_) (fun hc => ?_) | refine vifW_intro (fun hc => ?_) (fun hc => ?_)) <;> (try simp (disch := omega) only [zhb] at hc) <;> (try (exfalso; omega)) <;> (try subst hc)) | (with_reducible refine cndW_intro (by omega) ?_) | (simp (config := { maxSteps := 400000 }) only [↓zvs_pre,↓reduceIte,zvs,reduceCtorEq,Nat.reduceEqDiff,Nat.reduceAdd,Nat.reduceLeDiff,Nat.reduceMul,Int.reduceBNe,Int.reduceBEq,Int.reduceEq,Int.reduceNe,Int.reduceLT,Int.reduceLE,Int.reduceGT,Int.reduceGE,Int.reduceNeg,Int.reduceToNat,Nat.reduceLT,Nat.reduceSub,tab,Try.results14,List.toList_toArray]) | (simp (disch := omega) only [ziw]))
          all_goals first
            | (exfalso; omega)
            | (refine xl1 (k + 1) ?_ (by show k + 1 ≤ d.bl.length; omega) (by show d.bl.length - (k + 1) < d.bl.length - k; omega); (refine Ren.mk [(0, 0), (2, 2)] false (by first | (intro h; cases h; done) | exact fun _ => rfl) (by first | decide | rfl | (simp [turnOk]; done)) (by decide) ?_ ?_ <;> (repeat' (first | (with_reducible first | refine mr_int (by first | rfl | omega) | refine mr_str rfl | refine mr_bool rfl | refine mr_dat rfl (by first | rfl | assumption | (simp only [znl,nls_wr,nls_ints]; (first | done | fail))) | refine mr_sl ?_ ?_ (by first | rfl | omega) | refine MR.ptr ?_ ?_ | refine mr_raw | refine mr_slnil | refine mr_empty ?_ | refine mr_row rfl (by (simp only [↓reduceIte,zlk,Nat.reduceEqDiff,reduceCtorEq]); exact rfl) ?_ ?_ ?_ (by decide) | refine mr_aggD rfl (by first | rfl | assumption | (simp only [znl,nls_wr,nls_ints]; (first | done | fail))) | refine MR.agg (MRL.cons ?_ ?_) | refine mr_aggD ?_ (by first | rfl | assumption | (simp only [znl,nls_wr,nls_ints]; (first | done | fail))) | refine MR.fn ?_ | refine MRL.cons ?_ ?_ | refine MRL.nil | refine alls_cons ?_ ?_ | refine alls_nil | refine allb_nil | refine allb_cons ?_ (by (simp only [↓reduceIte,zlk,Nat.reduceEqDiff,reduceCtorEq]); exact rfl) ?_ ?_ | refine MB.row ?_ | refine mb_arr ?_ ?_ | refine MR.map ?_ ?_ | refine mb_map rfl (by first | rfl | assumption | (simp only [znl,nls_wr,nls_ints]; (first | done | fail))) | rfl) | (simp only [znl,nls_wr,nls_ints]; (first | done | fail)) | (refine allb_ghost rfl ?_) | exact known_in rfl | exact known_lt rfl | ((with_reducible refine turn_ok ?_) <;> rfl) | (simp only [↓reduceIte,zlk,Nat.reduceEqDiff,reduceCtorEq]) | (with_reducible first | refine mb_map ?_ ?_ | refine mr_sl ?_ ?_ ?_ | refine mr_int ?_ | refine mr_str ?_ | refine mr_bool ?_ | refine mr_dat ?_ (by first | rfl | assumption | (simp only [znl,nls_wr,nls_ints]; (first | done | fail))) | refine mr_aggD ?_ ?_)))); done)
            | trace_state
        · repeat' (first | (with_reducible first | refine ok_seq ?_ | refine xs1 ?_ | refine xs2 ?_ | refine xs3 ?_ | refine xb1 ?_ | refine xb2 ?_ | refine xb3 (by decide) ?_ | refine xb4 ?_ | refine xl2 ?_ | refine xl3 ?_ | refine xc2 ?_ | refine xc3 ?_ | refine ok_block ?_ | refine ok_scope ?_ | refine ok_skip ?_ | refine ok_label ?_ | refine ok_exit ?_ | refine ok_ret ?_ | refine ok_region (fun M hM => ?_) | refine vif_t ?_ | refine vif_f ?_ | refine fin_normal ?_ | refine fin_ret ?_ | (refine hM _ ?_; clear hM M) | refine vcallW_intro (call_data (by assumption) ?_ rfl ?_) | refine vcallHW_intro (hcall_data (by assumption) rfl ?_) ?_) | ((with_reducible refine nls_q ?_) <;> (first | rfl | assumption | (simp only [znl,nls_wr,nls_ints]; (first | done | fail)))) | (with_reducible refine ok_cond (by (simp only [↓reduceIte,zlk,Nat.reduceEqDiff,reduceCtorEq]); exact rfl) ?_) | ((with_reducible first | refine vif_intro (fun hc => ?_) (fun hc => ?_) | refine vifW_intro (fun hc => ?_) (fun hc => ?_)) <;> (try simp (disch := omega) only [zhb] at hc) <;> (try (exfalso; omega)) <;> (try subst hc)) | (with_reducible refine cndW_intro (by omega) ?_) | (simp (config := { maxSteps := 400000 }) only [↓zvs_pre,↓reduceIte,zvs,reduceCtorEq,Nat.reduceEqDiff,Nat.reduceAdd,Nat.reduceLeDiff,Nat.reduceMul,Int.reduceBNe,Int.reduceBEq,Int.reduceEq,Int.reduceNe,Int.reduceLT,Int.reduceLE,Int.reduceGT,Int.reduceGE,Int.reduceNeg,Int.reduceToNat,Nat.reduceLT,Nat.reduceSub,tab,Try.results14,List.toList_toArray]) | (simp (disch := omega) only [ziw]))
          all_goals simp only [zrds]
    · refine spec_ok Try.func14 rfl rfl (by kernel_rfl) (k := 2) rfl (by decide) ?_
      repeat' (first | (with_reducible first | refine ok_seq ?_ | refine xs1 ?_ | refine xs2 ?_ | refine xs3 ?_ | refine xb1 ?_ | refine xb2 ?_ | refine xb3 (by decide) ?_ | refine xb4 ?_ | refine xl2 ?_ | refine xl3 ?_ | refine xc2 ?_ | refine xc3 ?_ | refine ok_block ?_ | refine ok_scope ?_ | refine ok_skip ?_ | refine ok_label ?_ | refine ok_exit ?_ | refine ok_ret ?_ | refine ok_region (fun M hM => ?_) | refine vif_t ?_ | refine vif_f ?_ | refine fin_normal ?_ | refine fin_ret ?_ | (refine hM _ ?_; clear hM M) | refine vcallW_intro (call_data (by assumption) ?_ rfl ?_) | refine vcallHW_intro (hcall_data (by assumption) rfl ?_) ?_) | ((with_reducible refine nls_q ?_) <;> (first | rfl | assumption | (simp only [znl,nls_wr,nls_ints]; (first | done | fail)))) | (with_reducible refine ok_cond (by (simp only [↓reduceIte,zlk,Nat.reduceEqDiff,reduceCtorEq]); exact rfl) ?_) | ((with_reducible first | refine vif_intro (fun hc => ?_) (fun hc => ?_) | refine vifW_intro (fun hc => ?_) (fun hc => ?_)) <;> (try simp (disch := omega) only [zhb] at hc) <;> (try (exfalso; omega)) <;> (try subst hc)) | (with_reducible refine cndW_intro (by omega) ?_) | (simp (config := { maxSteps := 400000 }) only [↓zvs_pre,↓reduceIte,zvs,reduceCtorEq,Nat.reduceEqDiff,Nat.reduceAdd,Nat.reduceLeDiff,Nat.reduceMul,Int.reduceBNe,Int.reduceBEq,Int.reduceEq,Int.reduceNe,Int.reduceLT,Int.reduceLE,Int.reduceGT,Int.reduceGE,Int.reduceNeg,Int.reduceToNat,Nat.reduceLT,Nat.reduceSub,tab,Try.results14,List.toList_toArray]) | (simp (disch := omega) only [ziw]))
      all_goals first
        | (exfalso; omega)
        | (simp only [zrds]; done)
end Go.Proofs.Ytigkgdjghelaoaa.V
