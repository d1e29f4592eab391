/-
  MMU, part 11: the laws' own parts.
-/
import Derived.Test.YtigkgdjghelaoaaM10
import Derived.Test.YtigkgdjghelaoaaVty
set_option linter.unusedVariables false
set_option linter.unusedSimpArgs false
namespace Go.Proofs.Ytigkgdjghelaoaa.V
open Go
set_option maxRecDepth 100000
-- nlx: nls_pte
set_option maxHeartbeats 1000000
def tot : Frames → Nat
  | [] => 0
  | s :: l => s.length + 1 + tot l
theorem tot_append : ∀ (a b : Frames), tot (a ++ b) = tot a + tot b
  | [], b => by simp [tot]
  | s :: a, b => by simp [tot, tot_append a b]; omega
theorem tot_take (l : Frames) (k : Nat) : tot (l.take k) ≤ tot l := by
  have := tot_append (l.take k) (l.drop k)
  rw [List.take_append_drop] at this
  omega
theorem tot_fits {l : Frames} (h : tot l ≤ 5000) : fits l := by
  have key : ∀ l : Frames, l.length ≤ tot l ∧ ∀ s ∈ l, s.length ≤ tot l := by
    intro l
    induction l with
    | nil => simp [tot]
    | cons x l ih =>
      refine ⟨by simp only [List.length_cons,tot]; omega, fun s hs => ?_⟩
      simp only [tot]
      rcases List.mem_cons.1 hs with rfl | hs
      · omega
      · have := ih.2 s hs; omega
  obtain ⟨h1, h2⟩ := key l
  exact ⟨by omega, fun s hs => by have := h2 s hs; omega⟩
theorem great_spec (l : Frames) (hl : ∀ s ∈ l, s.length ≤ 2 ^ 47) : Spec Try.prog 16 [encStrs l] (.int .i64 (if 5000 < tot l then 1 else 0)) := by
  refine spec_ok Try.func16 rfl rfl (by kernel_rfl) (k := 1) rfl (by decide) ?_
  repeat' (first | (with_reducible first | refine ok_seq ?_ | refine xs1 ?_ | refine xs2 ?_ | refine xs3 ?_ | refine xb1 ?_ | refine xb2 ?_ | refine xb3 (by decide) ?_ | refine xb4 ?_ | refine xl2 ?_ | refine xl3 ?_ | refine xc2 ?_ | refine xc3 ?_ | refine ok_block ?_ | refine ok_scope ?_ | refine ok_skip ?_ | refine ok_label ?_ | refine ok_exit ?_ | refine ok_ret ?_ | refine ok_region (fun M hM => ?_) | refine vif_t ?_ | refine vif_f ?_ | refine fin_normal ?_ | refine fin_ret ?_ | (refine hM _ ?_; clear hM M) | refine vcallW_intro (call_data (by assumption) ?_ rfl ?_) | refine vcallHW_intro (hcall_data (by assumption) rfl ?_) ?_) | ((with_reducible refine nls_q ?_) <;> (first | rfl | assumption | (simp only [znl,nls_pte]; (first | done | fail)))) | (with_reducible refine ok_cond (by (simp only [↓reduceIte,zlk,Nat.reduceEqDiff,reduceCtorEq]); exact rfl) ?_) | ((with_reducible first | refine vif_intro (fun hc => ?_) (fun hc => ?_) | refine vifW_intro (fun hc => ?_) (fun hc => ?_)) <;> (try simp (disch := omega) only [zhb] at hc) <;> (try (exfalso; omega)) <;> (try subst hc)) | (with_reducible refine cndW_intro (by omega) ?_) | (simp (config := { maxSteps := 400000 }) only [↓zvs_pre,↓reduceIte,zvs,reduceCtorEq,Nat.reduceEqDiff,Nat.reduceAdd,Nat.reduceLeDiff,Nat.reduceMul,Int.reduceBNe,Int.reduceBEq,Int.reduceEq,Int.reduceNe,Int.reduceLT,Int.reduceLE,Int.reduceGT,Int.reduceGE,Int.reduceNeg,Int.reduceToNat,Nat.reduceLT,Nat.reduceSub,tab,Try.results16,List.toList_toArray]) | (simp (disch := omega) only [ziw]))
  refine ok_loop (fun k : Nat => ⟨slots [(0, encStrs l), (2, .int .i64 0), (3, .int .i64 (tot (l.take k))), (6, encStrs l), (7, .int .i64 l.length), (8, .int .i64 k)], rows [], 0⟩) (fun k => k ≤ l.length ∧ tot (l.take k) ≤ 5000) (fun k => l.length - k) 0 ?_ ⟨Nat.zero_le _, by simp [tot]⟩ (fun k hk => ?_)
  · (refine Ren.mk [] false (by first | (intro h; cases h; done) | exact fun _ => rfl) (by first | decide | rfl | (simp [turnOk]; done)) (by decide) ?_ ?_ <;> (repeat' (first | (with_reducible first | refine mr_int (by first | rfl | omega) | refine mr_str rfl | refine mr_bool rfl | refine mr_dat rfl (by first | rfl | assumption | (simp only [znl,nls_pte]; (first | done | fail))) | refine mr_sl ?_ ?_ (by first | rfl | omega) | refine MR.ptr ?_ ?_ | refine mr_raw | refine mr_slnil | refine mr_empty ?_ | refine mr_row rfl (by (simp only [↓reduceIte,zlk,Nat.reduceEqDiff,reduceCtorEq]); exact rfl) ?_ ?_ ?_ (by decide) | refine mr_aggD rfl (by first | rfl | assumption | (simp only [znl,nls_pte]; (first | done | fail))) | refine MR.agg (MRL.cons ?_ ?_) | refine mr_aggD ?_ (by first | rfl | assumption | (simp only [znl,nls_pte]; (first | done | fail))) | refine MR.fn ?_ | refine MRL.cons ?_ ?_ | refine MRL.nil | refine alls_cons ?_ ?_ | refine alls_nil | refine allb_nil | refine allb_cons ?_ (by (simp only [↓reduceIte,zlk,Nat.reduceEqDiff,reduceCtorEq]); exact rfl) ?_ ?_ | refine MB.row ?_ | refine mb_arr ?_ ?_ | refine MR.map ?_ ?_ | refine mb_map rfl (by first | rfl | assumption | (simp only [znl,nls_pte]; (first | done | fail))) | rfl) | (simp only [znl,nls_pte]; (first | done | fail)) | (refine allb_ghost rfl ?_) | exact known_in rfl | exact known_lt rfl | ((with_reducible refine turn_ok ?_) <;> rfl) | (simp only [↓reduceIte,zlk,Nat.reduceEqDiff,reduceCtorEq]) | (with_reducible first | refine mb_map ?_ ?_ | refine mr_sl ?_ ?_ ?_ | refine mr_int ?_ | refine mr_str ?_ | refine mr_bool ?_ | refine mr_dat ?_ (by first | rfl | assumption | (simp only [znl,nls_pte]; (first | done | fail))) | refine mr_aggD ?_ ?_))))
    all_goals first | rfl | (simp [tot]; done)
  obtain ⟨hk, hn⟩ := hk
  by_cases hlt : k < l.length
  · have e := take_snoc l k hlt
    have hs := hl (l.getD k default) (by rw [List.getD_eq_getElem?_getD, List.getElem?_eq_getElem hlt]; exact List.getElem_mem _)
    rw [default_str] at hs e
    have ht : tot (l.take (k + 1)) = tot (l.take k) + ((l.getD k []).length + 1) := by rw [e, tot_append]; simp [tot]
    have hlel := tot_take l (k + 1)
    have hk62 : (k : Int) ≤ 5000 := by
      have : (l.take k).length ≤ tot (l.take k) := by
        have key : ∀ l : Frames, l.length ≤ tot l := by
          intro l
          induction l with
          | nil => simp [tot]
          | cons x l ih => simp only [List.length_cons,tot]; omega
        exact key _
      rw [List.length_take] at this
      omega
    repeat' (first | (with_reducible first | refine ok_seq ?_ | refine xs1 ?_ | refine xs2 ?_ | refine xs3 ?_ | refine xb1 ?_ | refine xb2 ?_ | refine xb3 (by decide) ?_ | refine xb4 ?_ | refine xl2 ?_ | refine xl3 ?_ | refine xc2 ?_ | refine xc3 ?_ | refine ok_block ?_ | refine ok_scope ?_ | refine ok_skip ?_ | refine ok_label ?_ | refine ok_exit ?_ | refine ok_ret ?_ | refine ok_region (fun M hM => ?_) | refine vif_t ?_ | refine vif_f ?_ | refine fin_normal ?_ | refine fin_ret ?_ | (refine hM _ ?_; clear hM M) | refine vcallW_intro (call_data (by assumption) ?_ rfl ?_) | refine vcallHW_intro (hcall_data (by assumption) rfl ?_) ?_) | ((with_reducible refine nls_q ?_) <;> (first | rfl | assumption | (simp only [znl,nls_pte]; (first | done | fail)))) | (with_reducible refine ok_cond (by (simp only [↓reduceIte,zlk,Nat.reduceEqDiff,reduceCtorEq]); exact rfl) ?_) | ((with_reducible first | refine vif_intro (fun hc => ?_) (fun hc => ?_) | refine vifW_intro (fun hc => ?_) (fun hc => ?_)) <;> (try simp (disch := omega) only [zhb] at hc) <;> (try (exfalso; omega)) <;> (try subst hc)) | (with_reducible refine cndW_intro (by omega) ?_) | (simp (config := { maxSteps := 400000 }) only [↓zvs_pre,↓reduceIte,zvs,reduceCtorEq,Nat.reduceEqDiff,Nat.reduceAdd,Nat.reduceLeDiff,Nat.reduceMul,Int.reduceBNe,Int.reduceBEq,Int.reduceEq,Int.reduceNe,Int.reduceLT,Int.reduceLE,Int.reduceGT,Int.reduceGE,Int.reduceNeg,Int.reduceToNat,Nat.reduceLT,Nat.reduceSub,tab,Try.results16,List.toList_toArray]) | (simp (disch := omega) only [ziw]))
    · simp only [zrds]
      rw [if_pos (by omega)]
    · refine xl1 (k + 1) ?_ ⟨by omega, by omega⟩ (by show l.length - (k + 1) < l.length - k; omega)
      (refine Ren.mk [] false (by first | (intro h; cases h; done) | exact fun _ => rfl) (by first | decide | rfl | (simp [turnOk]; done)) (by decide) ?_ ?_ <;> (repeat' (first | (with_reducible first | refine mr_int (by first | rfl | omega) | refine mr_str rfl | refine mr_bool rfl | refine mr_dat rfl (by first | rfl | assumption | (simp only [znl,nls_pte]; (first | done | fail))) | refine mr_sl ?_ ?_ (by first | rfl | omega) | refine MR.ptr ?_ ?_ | refine mr_raw | refine mr_slnil | refine mr_empty ?_ | refine mr_row rfl (by (simp only [↓reduceIte,zlk,Nat.reduceEqDiff,reduceCtorEq]); exact rfl) ?_ ?_ ?_ (by decide) | refine mr_aggD rfl (by first | rfl | assumption | (simp only [znl,nls_pte]; (first | done | fail))) | refine MR.agg (MRL.cons ?_ ?_) | refine mr_aggD ?_ (by first | rfl | assumption | (simp only [znl,nls_pte]; (first | done | fail))) | refine MR.fn ?_ | refine MRL.cons ?_ ?_ | refine MRL.nil | refine alls_cons ?_ ?_ | refine alls_nil | refine allb_nil | refine allb_cons ?_ (by (simp only [↓reduceIte,zlk,Nat.reduceEqDiff,reduceCtorEq]); exact rfl) ?_ ?_ | refine MB.row ?_ | refine mb_arr ?_ ?_ | refine MR.map ?_ ?_ | refine mb_map rfl (by first | rfl | assumption | (simp only [znl,nls_pte]; (first | done | fail))) | rfl) | (simp only [znl,nls_pte]; (first | done | fail)) | (refine allb_ghost rfl ?_) | exact known_in rfl | exact known_lt rfl | ((with_reducible refine turn_ok ?_) <;> rfl) | (simp only [↓reduceIte,zlk,Nat.reduceEqDiff,reduceCtorEq]) | (with_reducible first | refine mb_map ?_ ?_ | refine mr_sl ?_ ?_ ?_ | refine mr_int ?_ | refine mr_str ?_ | refine mr_bool ?_ | refine mr_dat ?_ (by first | rfl | assumption | (simp only [znl,nls_pte]; (first | done | fail))) | refine mr_aggD ?_ ?_))))
  · repeat' (first | (with_reducible first | refine ok_seq ?_ | refine xs1 ?_ | refine xs2 ?_ | refine xs3 ?_ | refine xb1 ?_ | refine xb2 ?_ | refine xb3 (by decide) ?_ | refine xb4 ?_ | refine xl2 ?_ | refine xl3 ?_ | refine xc2 ?_ | refine xc3 ?_ | refine ok_block ?_ | refine ok_scope ?_ | refine ok_skip ?_ | refine ok_label ?_ | refine ok_exit ?_ | refine ok_ret ?_ | refine ok_region (fun M hM => ?_) | refine vif_t ?_ | refine vif_f ?_ | refine fin_normal ?_ | refine fin_ret ?_ | (refine hM _ ?_; clear hM M) | refine vcallW_intro (call_data (by assumption) ?_ rfl ?_) | refine vcallHW_intro (hcall_data (by assumption) rfl ?_) ?_) | ((with_reducible refine nls_q ?_) <;> (first | rfl | assumption | (simp only [znl,nls_pte]; (first | done | fail)))) | (with_reducible refine ok_cond (by (simp only [↓reduceIte,zlk,Nat.reduceEqDiff,reduceCtorEq]); exact rfl) ?_) | ((with_reducible first | refine vif_intro (fun hc => ?_) (fun hc => ?_) | refine vifW_intro (fun hc => ?_) (fun hc => ?_)) <;> (try simp (disch := omega) only [zhb] at hc) <;> (try (exfalso; omega)) <;> (try subst hc)) | (with_reducible refine cndW_intro (by omega) ?_) | (simp (config := { maxSteps := 400000 }) only [↓zvs_pre,↓reduceIte,zvs,reduceCtorEq,Nat.reduceEqDiff,Nat.reduceAdd,Nat.reduceLeDiff,Nat.reduceMul,Int.reduceBNe,Int.reduceBEq,Int.reduceEq,Int.reduceNe,Int.reduceLT,Int.reduceLE,Int.reduceGT,Int.reduceGE,Int.reduceNeg,Int.reduceToNat,Nat.reduceLT,Nat.reduceSub,tab,Try.results16,List.toList_toArray]) | (simp (disch := omega) only [ziw]))
    simp only [zrds]
    rw [List.take_of_length_le (by omega)] at hn
    rw [if_neg (by omega)]
def fr0 : List UInt8 := [97] ++ (List.replicate 127 [98]).flatten
def sp0 : List Pte := (List.replicate 16 ⟨false, false, 0⟩).set 1 ⟨true, false, 0⟩
theorem alive_spec : Spec Try.prog 15 [] (.bool true) := by
  have hfits : fits [fr0] := tot_fits (by decide)
  have hrl : (List.replicate 127 [(98 : UInt8)]).flatten.length = 127 := by decide
  have h1 := PLoad_spec [fr0] hfits sp0 rfl 128 (by omega) 1
  have h2 := PCopy_spec [fr0] hfits sp0 rfl 127 (by omega) 2 (by omega)
  have e1 : loadP [fr0] sp0 128 1 = some 97 := by decide
  have e2 : (if (2 : Int) < 0 ∨ (2048 : Int) < 2 ∨ (2048 : Int) < 127 + 2 then none else pieceN [fr0] sp0 2049 127 (2 : Int).toNat) = none := by
    rw [if_neg (by omega), piece_eq _ _ _ _ _ (by omega) (by decide)]
    decide
  rw [e1] at h1
  rw [e2] at h2
  simp only [u32V] at h1
  simp only [strV] at h2
  have hS := hasSpace sp0 rfl
  have eS : VV.agg ((List.replicate 16 (VV.agg [.bool false, .bool false, .int .i64 0])).set 1 (.agg [.bool true, .bool false, .int .i64 0])) = .agg (sp0.map encPte) := rfl
  refine spec_ok Try.func15 rfl rfl (by kernel_rfl) (k := 0) rfl (by decide) ?_
  repeat' (first | (with_reducible first | refine ok_seq ?_ | refine xs1 ?_ | refine xs2 ?_ | refine xs3 ?_ | refine xb1 ?_ | refine xb2 ?_ | refine xb3 (by decide) ?_ | refine xb4 ?_ | refine xl2 ?_ | refine xl3 ?_ | refine xc2 ?_ | refine xc3 ?_ | refine ok_block ?_ | refine ok_scope ?_ | refine ok_skip ?_ | refine ok_label ?_ | refine ok_exit ?_ | refine ok_ret ?_ | refine ok_region (fun M hM => ?_) | refine vif_t ?_ | refine vif_f ?_ | refine fin_normal ?_ | refine fin_ret ?_ | (refine hM _ ?_; clear hM M) | refine vcallW_intro (call_data (by assumption) ?_ rfl ?_) | refine vcallHW_intro (hcall_data (by assumption) rfl ?_) ?_) | ((with_reducible refine nls_q ?_) <;> (first | rfl | assumption | (simp only [znl,nls_pte]; (first | done | fail)))) | (with_reducible refine ok_cond (by (simp only [↓reduceIte,zlk,Nat.reduceEqDiff,reduceCtorEq]); exact rfl) ?_) | ((with_reducible first | refine vif_intro (fun hc => ?_) (fun hc => ?_) | refine vifW_intro (fun hc => ?_) (fun hc => ?_)) <;> (try simp (disch := omega) only [zhb] at hc) <;> (try (exfalso; omega)) <;> (try subst hc)) | (with_reducible refine cndW_intro (by omega) ?_) | (simp (config := { maxSteps := 400000 }) only [↓zvs_pre,↓reduceIte,zvs,reduceCtorEq,Nat.reduceEqDiff,Nat.reduceAdd,Nat.reduceLeDiff,Nat.reduceMul,Int.reduceBNe,Int.reduceBEq,Int.reduceEq,Int.reduceNe,Int.reduceLT,Int.reduceLE,Int.reduceGT,Int.reduceGE,Int.reduceNeg,Int.reduceToNat,Nat.reduceLT,Nat.reduceSub,tab,Try.results15,List.toList_toArray]) | (simp (disch := omega) only [ziw]))
  refine vcallW_intro (call_data (repeat_spec [98] 127 (by decide) (by decide)) (by first | rfl | assumption | (simp only [znl,nls_pte]; (first | done | fail))) rfl ?_)
  repeat' (first | (with_reducible first | refine ok_seq ?_ | refine xs1 ?_ | refine xs2 ?_ | refine xs3 ?_ | refine xb1 ?_ | refine xb2 ?_ | refine xb3 (by decide) ?_ | refine xb4 ?_ | refine xl2 ?_ | refine xl3 ?_ | refine xc2 ?_ | refine xc3 ?_ | refine ok_block ?_ | refine ok_scope ?_ | refine ok_skip ?_ | refine ok_label ?_ | refine ok_exit ?_ | refine ok_ret ?_ | refine ok_region (fun M hM => ?_) | refine vif_t ?_ | refine vif_f ?_ | refine fin_normal ?_ | refine fin_ret ?_ | (refine hM _ ?_; clear hM M) | refine vcallW_intro (call_data (by assumption) ?_ rfl ?_) | refine vcallHW_intro (hcall_data (by assumption) rfl ?_) ?_) | ((with_reducible refine nls_q ?_) <;> (first | rfl | assumption | (simp only [znl,nls_pte]; (first | done | fail)))) | (with_reducible refine ok_cond (by (simp only [↓reduceIte,zlk,Nat.reduceEqDiff,reduceCtorEq]); exact rfl) ?_) | ((with_reducible first | refine vif_intro (fun hc => ?_) (fun hc => ?_) | refine vifW_intro (fun hc => ?_) (fun hc => ?_)) <;> (try simp (disch := omega) only [zhb] at hc) <;> (try (exfalso; omega)) <;> (try subst hc)) | (with_reducible refine cndW_intro (by omega) ?_) | (simp (config := { maxSteps := 400000 }) only [↓zvs_pre,↓reduceIte,zvs,reduceCtorEq,Nat.reduceEqDiff,Nat.reduceAdd,Nat.reduceLeDiff,Nat.reduceMul,Int.reduceBNe,Int.reduceBEq,Int.reduceEq,Int.reduceNe,Int.reduceLT,Int.reduceLE,Int.reduceGT,Int.reduceGE,Int.reduceNeg,Int.reduceToNat,Nat.reduceLT,Nat.reduceSub,tab,hrl,eS,hS,Try.results15,List.toList_toArray]) | (simp (disch := omega) only [ziw]))
  refine vcallW_intro (call_plain (h1) (by repeat (first | exact rdl_nil | refine rdl_cons ?_ ?_ | exact Rd.refl _ _ (by first | rfl | assumption | (simp only [znl,nls_pte]; (first | done | fail))) | (refine rd_own (by (simp only [↓reduceIte,zlk,Nat.reduceEqDiff,reduceCtorEq]); exact rfl) (by first | rfl | (simp; done) | (simp; omega)) rfl (by first | rfl | assumption | (simp only [znl,nls_pte]; (first | done | fail)))) | exact rd_nil | refine (rd_a _ _ _).mpr ?_)) rfl rfl ?_)
  repeat' (first | (with_reducible first | refine ok_seq ?_ | refine xs1 ?_ | refine xs2 ?_ | refine xs3 ?_ | refine xb1 ?_ | refine xb2 ?_ | refine xb3 (by decide) ?_ | refine xb4 ?_ | refine xl2 ?_ | refine xl3 ?_ | refine xc2 ?_ | refine xc3 ?_ | refine ok_block ?_ | refine ok_scope ?_ | refine ok_skip ?_ | refine ok_label ?_ | refine ok_exit ?_ | refine ok_ret ?_ | refine ok_region (fun M hM => ?_) | refine vif_t ?_ | refine vif_f ?_ | refine fin_normal ?_ | refine fin_ret ?_ | (refine hM _ ?_; clear hM M) | refine vcallW_intro (call_data (by assumption) ?_ rfl ?_) | refine vcallHW_intro (hcall_data (by assumption) rfl ?_) ?_) | ((with_reducible refine nls_q ?_) <;> (first | rfl | assumption | (simp only [znl,nls_pte]; (first | done | fail)))) | (with_reducible refine ok_cond (by (simp only [↓reduceIte,zlk,Nat.reduceEqDiff,reduceCtorEq]); exact rfl) ?_) | ((with_reducible first | refine vif_intro (fun hc => ?_) (fun hc => ?_) | refine vifW_intro (fun hc => ?_) (fun hc => ?_)) <;> (try simp (disch := omega) only [zhb] at hc) <;> (try (exfalso; omega)) <;> (try subst hc)) | (with_reducible refine cndW_intro (by omega) ?_) | (simp (config := { maxSteps := 400000 }) only [↓zvs_pre,↓reduceIte,zvs,reduceCtorEq,Nat.reduceEqDiff,Nat.reduceAdd,Nat.reduceLeDiff,Nat.reduceMul,Int.reduceBNe,Int.reduceBEq,Int.reduceEq,Int.reduceNe,Int.reduceLT,Int.reduceLE,Int.reduceGT,Int.reduceGE,Int.reduceNeg,Int.reduceToNat,Nat.reduceLT,Nat.reduceSub,tab,hrl,eS,hS,Try.results15,List.toList_toArray]) | (simp (disch := omega) only [ziw]))
  refine vcallW_intro (call_plain (h2) (by repeat (first | exact rdl_nil | refine rdl_cons ?_ ?_ | exact Rd.refl _ _ (by first | rfl | assumption | (simp only [znl,nls_pte]; (first | done | fail))) | (refine rd_own (by (simp only [↓reduceIte,zlk,Nat.reduceEqDiff,reduceCtorEq]); exact rfl) (by first | rfl | (simp; done) | (simp; omega)) rfl (by first | rfl | assumption | (simp only [znl,nls_pte]; (first | done | fail)))) | exact rd_nil | refine (rd_a _ _ _).mpr ?_)) rfl rfl ?_)
  repeat' (first | (with_reducible first | refine ok_seq ?_ | refine xs1 ?_ | refine xs2 ?_ | refine xs3 ?_ | refine xb1 ?_ | refine xb2 ?_ | refine xb3 (by decide) ?_ | refine xb4 ?_ | refine xl2 ?_ | refine xl3 ?_ | refine xc2 ?_ | refine xc3 ?_ | refine ok_block ?_ | refine ok_scope ?_ | refine ok_skip ?_ | refine ok_label ?_ | refine ok_exit ?_ | refine ok_ret ?_ | refine ok_region (fun M hM => ?_) | refine vif_t ?_ | refine vif_f ?_ | refine fin_normal ?_ | refine fin_ret ?_ | (refine hM _ ?_; clear hM M) | refine vcallW_intro (call_data (by assumption) ?_ rfl ?_) | refine vcallHW_intro (hcall_data (by assumption) rfl ?_) ?_) | ((with_reducible refine nls_q ?_) <;> (first | rfl | assumption | (simp only [znl,nls_pte]; (first | done | fail)))) | (with_reducible refine ok_cond (by (simp only [↓reduceIte,zlk,Nat.reduceEqDiff,reduceCtorEq]); exact rfl) ?_) | ((with_reducible first | refine vif_intro (fun hc => ?_) (fun hc => ?_) | refine vifW_intro (fun hc => ?_) (fun hc => ?_)) <;> (try simp (disch := omega) only [zhb] at hc) <;> (try (exfalso; omega)) <;> (try subst hc)) | (with_reducible refine cndW_intro (by omega) ?_) | (simp (config := { maxSteps := 400000 }) only [↓zvs_pre,↓reduceIte,zvs,reduceCtorEq,Nat.reduceEqDiff,Nat.reduceAdd,Nat.reduceLeDiff,Nat.reduceMul,Int.reduceBNe,Int.reduceBEq,Int.reduceEq,Int.reduceNe,Int.reduceLT,Int.reduceLE,Int.reduceGT,Int.reduceGE,Int.reduceNeg,Int.reduceToNat,Nat.reduceLT,Nat.reduceSub,tab,hrl,eS,hS,Try.results15,List.toList_toArray]) | (simp (disch := omega) only [ziw]))
  all_goals simp only [zrds]
/-- a space as an argument -/
abbrev pteT : Ty := .fcons .bool (.fcons .bool (.fcons (.int .i64) .fnil))
def mkPte (x : Bool × Bool × Int × Unit) : Pte := ⟨x.1, x.2.1, x.2.2.1⟩
theorem toV_space (n : Nat) (x : List (Bool × Bool × Int × Unit)) : toV (.arr n pteT) x = encSpace (x.map mkPte) := by
  have e : toV (.arr n pteT) x = .agg (x.map (toV pteT)) := rfl
  rw [e]
  unfold encSpace
  rw [List.map_map]
  congr 1
theorem toV_strs (x : List (List UInt8)) : toV (.sl .str) x = encStrs x := by
  simp only [toV,tsh]
  congr 1
theorem reach_lt : reachBytes < 2 ^ 47 := by decide
theorem findV_t (o : Option (Int × Int)) : ∃ f i b, findV o = .tup [.int .i64 f, .int .i64 i, .bool b] := by
  cases o with
  | none => exact ⟨_, _, _, rfl⟩
  | some x => exact ⟨_, _, _, rfl⟩
theorem u32V_t (o : Option Nat) : ∃ n b, u32V o = .tup [.int .u32 n, .bool b] := by
  cases o with
  | none => exact ⟨_, _, rfl⟩
  | some x => exact ⟨_, _, rfl⟩
theorem strV_t (o : Option (List UInt8)) : ∃ n b, strV o = .tup [.str n, .bool b] := by
  cases o with
  | none => exact ⟨_, _, rfl⟩
  | some x => exact ⟨_, _, rfl⟩
theorem framesV_t (o : Option Frames) (h : ∀ g, o = some g → fits g) : ∃ g b, framesV o = .tup [encStrs g, .bool b] ∧ fits g := by
  cases o with
  | none => exact ⟨_, _, rfl, tot_fits (by decide)⟩
  | some x => exact ⟨_, _, rfl, h x rfl⟩
theorem layO_same {fr g : Frames} {s : List Pte} {a : Int} {d : List UInt8} (h : layO fr s a d = some g) : g.map List.length = fr.map List.length := by
  unfold layO at h
  split at h
  · cases h
  · exact layN_same h
theorem storeR_same {fr g : Frames} {s : List Pte} {a size : Int} {v : Nat} (h : storeR fr s a size v = some g) : g.map List.length = fr.map List.length := by
  unfold storeR at h
  split at h
  · cases h
  · exact layO_same h
/-- what the laws say of any two things that are one -/
theorem finds_law (x0 : List (List UInt8)) (x1 : List (Bool × Bool × Int × Unit)) (x2 : Int × Int × Bool × Int × Unit) (g0 : good (.sl .str) x0) (g1 : good (.arr 16 pteT) x1) (g2 : good (.fcons (.int .u32) (.fcons (.int .i64) (.fcons .bool (.fcons (.int .u32) .fnil)))) x2)
    (l0 : Ty.lite (.sl .str) x0) (l1 : Ty.lite (.arr 16 pteT) x1) (l2 : Ty.lite (.fcons (.int .u32) (.fcons (.int .i64) (.fcons .bool (.fcons (.int .u32) .fnil)))) x2) :
    Spec Try.prog 7 [toV (.sl .str) x0, toV (.arr 16 pteT) x1, toV (.fcons (.int .u32) (.fcons (.int .i64) (.fcons .bool (.fcons (.int .u32) .fnil)))) x2] (.bool true) := by
  obtain ⟨a, size, wr, v, u⟩ := x2
  obtain ⟨ga, gs, _, gv, _⟩ := g2
  have ha : 0 ≤ a ∧ a ≤ 4294967295 := bounds_u32 ga
  have hv : 0 ≤ v ∧ v ≤ 4294967295 := bounds_u32 gv
  clear ga gv gs
  obtain ⟨v, rfl⟩ := Int.eq_ofNat_of_zero_le hv.1
  have hl : (x1.map mkPte).length = 16 := by rw [List.length_map]; exact g1.1
  rw [toV_space, toV_strs]
  generalize x1.map mkPte = s at hl
  clear g1 l1 x1
  simp only [toV,toVs]
  have hG := great_spec x0 (fun s hs => by have := l0.2 s hs; have := reach_lt; exact Nat.le_trans (show s.length ≤ reachBytes from l0.2 s hs) (by decide))
  have hS := hasSpace s hl
  have hA := alive_spec
  refine spec_ok Try.func7 rfl rfl (by kernel_rfl) (k := 3) rfl (by decide) ?_
  by_cases ht : 5000 < tot x0
  · repeat' (first | (with_reducible first | refine ok_seq ?_ | refine xs1 ?_ | refine xs2 ?_ | refine xs3 ?_ | refine xb1 ?_ | refine xb2 ?_ | refine xb3 (by decide) ?_ | refine xb4 ?_ | refine xl2 ?_ | refine xl3 ?_ | refine xc2 ?_ | refine xc3 ?_ | refine ok_block ?_ | refine ok_scope ?_ | refine ok_skip ?_ | refine ok_label ?_ | refine ok_exit ?_ | refine ok_ret ?_ | refine ok_region (fun M hM => ?_) | refine vif_t ?_ | refine vif_f ?_ | refine fin_normal ?_ | refine fin_ret ?_ | (refine hM _ ?_; clear hM M) | refine vcallW_intro (call_data (by assumption) ?_ rfl ?_) | refine vcallHW_intro (hcall_data (by assumption) rfl ?_) ?_) | ((with_reducible refine nls_q ?_) <;> (first | rfl | assumption | (simp only [znl,nls_pte]; (first | done | fail)))) | (with_reducible refine ok_cond (by (simp only [↓reduceIte,zlk,Nat.reduceEqDiff,reduceCtorEq]); exact rfl) ?_) | ((with_reducible first | refine vif_intro (fun hc => ?_) (fun hc => ?_) | refine vifW_intro (fun hc => ?_) (fun hc => ?_)) <;> (try simp (disch := omega) only [zhb] at hc) <;> (try (exfalso; omega)) <;> (try subst hc)) | (with_reducible refine cndW_intro (by omega) ?_) | (simp (config := { maxSteps := 400000 }) only [↓zvs_pre,↓reduceIte,zvs,reduceCtorEq,Nat.reduceEqDiff,Nat.reduceAdd,Nat.reduceLeDiff,Nat.reduceMul,Int.reduceBNe,Int.reduceBEq,Int.reduceEq,Int.reduceNe,Int.reduceLT,Int.reduceLE,Int.reduceGT,Int.reduceGE,Int.reduceNeg,Int.reduceToNat,Nat.reduceLT,Nat.reduceSub,tab,hS,ht,Try.results7,List.toList_toArray]) | (simp (disch := omega) only [ziw]))
    simp only [zrds]
  · have hf : fits x0 := tot_fits (by omega)
    have h1 := find_spec s hl a (by omega) size wr
    have h2 := Find_spec s hl a (by omega) size wr
    have h3 := PLoad_spec x0 hf s hl a (by omega) size
    have h4 := RLoad_spec x0 hf s hl a (by omega) size
    have h5 := PStore_spec x0 hf s hl a (by omega) size v (by omega)
    have h6 := RStore_spec x0 hf s hl a (by omega) size v (by omega)
    rw [load_eq x0 s a size ha.1] at h3
    rw [store_eq x0 s a size v ha.1] at h5
    obtain ⟨f, i, b, e1⟩ := findV_t (findO s a size wr)
    obtain ⟨n, c, e2⟩ := u32V_t (loadR x0 s a size)
    obtain ⟨g, d, e3, hg⟩ := framesV_t (storeR x0 s a size v) fun g h => fits_same (storeR_same h) hf
    rw [e1] at h1 h2
    rw [e2] at h3 h4
    rw [e3] at h5 h6
    have h7 := Same_spec g g hg hg
    rw [decide_eq_true rfl] at h7
    repeat' (first | (with_reducible first | refine ok_seq ?_ | refine xs1 ?_ | refine xs2 ?_ | refine xs3 ?_ | refine xb1 ?_ | refine xb2 ?_ | refine xb3 (by decide) ?_ | refine xb4 ?_ | refine xl2 ?_ | refine xl3 ?_ | refine xc2 ?_ | refine xc3 ?_ | refine ok_block ?_ | refine ok_scope ?_ | refine ok_skip ?_ | refine ok_label ?_ | refine ok_exit ?_ | refine ok_ret ?_ | refine ok_region (fun M hM => ?_) | refine vif_t ?_ | refine vif_f ?_ | refine fin_normal ?_ | refine fin_ret ?_ | (refine hM _ ?_; clear hM M) | refine vcallW_intro (call_data (by assumption) ?_ rfl ?_) | refine vcallHW_intro (hcall_data (by assumption) rfl ?_) ?_) | ((with_reducible refine nls_q ?_) <;> (first | rfl | assumption | (simp only [znl,nls_pte]; (first | done | fail)))) | (with_reducible refine ok_cond (by (simp only [↓reduceIte,zlk,Nat.reduceEqDiff,reduceCtorEq]); exact rfl) ?_) | ((with_reducible first | refine vif_intro (fun hc => ?_) (fun hc => ?_) | refine vifW_intro (fun hc => ?_) (fun hc => ?_)) <;> (try simp (disch := omega) only [zhb] at hc) <;> (try (exfalso; omega)) <;> (try subst hc)) | (with_reducible refine cndW_intro (by omega) ?_) | (simp (config := { maxSteps := 400000 }) only [↓zvs_pre,↓reduceIte,zvs,reduceCtorEq,Nat.reduceEqDiff,Nat.reduceAdd,Nat.reduceLeDiff,Nat.reduceMul,Int.reduceBNe,Int.reduceBEq,Int.reduceEq,Int.reduceNe,Int.reduceLT,Int.reduceLE,Int.reduceGT,Int.reduceGE,Int.reduceNeg,Int.reduceToNat,Nat.reduceLT,Nat.reduceSub,tab,hS,Try.results7,List.toList_toArray,ht]) | (simp (disch := omega) only [ziw]))
    all_goals first
      | (exfalso; omega)
      | (simp only [zrds]; done)
theorem strOf (s : List UInt8) : toV .str s = .str s := by simp only [toV]
theorem copies_law (x0 : List (List UInt8)) (x1 : List (Bool × Bool × Int × Unit)) (x2 : Int × Int × List UInt8 × Unit) (g0 : good (.sl .str) x0) (g1 : good (.arr 16 pteT) x1) (g2 : good (.fcons (.int .u32) (.fcons (.int .i64) (.fcons .str .fnil))) x2)
    (l0 : Ty.lite (.sl .str) x0) (l1 : Ty.lite (.arr 16 pteT) x1) (l2 : Ty.lite (.fcons (.int .u32) (.fcons (.int .i64) (.fcons .str .fnil))) x2) :
    Spec Try.prog 3 [toV (.sl .str) x0, toV (.arr 16 pteT) x1, toV (.fcons (.int .u32) (.fcons (.int .i64) (.fcons .str .fnil))) x2] (.bool true) := by
  obtain ⟨a, n, dd, u⟩ := x2
  obtain ⟨ga, gn, _⟩ := g2
  have ha : 0 ≤ a ∧ a ≤ 4294967295 := bounds_u32 ga
  have hn : -9223372036854775808 ≤ n ∧ n ≤ 9223372036854775807 := bounds_i64 gn
  clear ga gn
  have hd47 : dd.length ≤ 2 ^ 47 := Nat.le_trans (show dd.length ≤ reachBytes from l2.2.2.1) (by decide)
  have hl : (x1.map mkPte).length = 16 := by rw [List.length_map]; exact g1.1
  rw [toV_space, toV_strs]
  generalize x1.map mkPte = s at hl
  clear g1 l1 x1
  simp only [toV,toVs]
  have hG := great_spec x0 (fun s hs => Nat.le_trans (show s.length ≤ reachBytes from l0.2 s hs) (by decide))
  have hS := hasSpace s hl
  have hA := alive_spec
  refine spec_ok Try.func3 rfl rfl (by kernel_rfl) (k := 3) rfl (by decide) ?_
  by_cases ht : 5000 < tot x0
  · repeat' (first | (with_reducible first | refine ok_seq ?_ | refine xs1 ?_ | refine xs2 ?_ | refine xs3 ?_ | refine xb1 ?_ | refine xb2 ?_ | refine xb3 (by decide) ?_ | refine xb4 ?_ | refine xl2 ?_ | refine xl3 ?_ | refine xc2 ?_ | refine xc3 ?_ | refine ok_block ?_ | refine ok_scope ?_ | refine ok_skip ?_ | refine ok_label ?_ | refine ok_exit ?_ | refine ok_ret ?_ | refine ok_region (fun M hM => ?_) | refine vif_t ?_ | refine vif_f ?_ | refine fin_normal ?_ | refine fin_ret ?_ | (refine hM _ ?_; clear hM M) | refine vcallW_intro (call_data (by assumption) ?_ rfl ?_) | refine vcallHW_intro (hcall_data (by assumption) rfl ?_) ?_) | ((with_reducible refine nls_q ?_) <;> (first | rfl | assumption | (simp only [znl,nls_pte]; (first | done | fail)))) | (with_reducible refine ok_cond (by (simp only [↓reduceIte,zlk,Nat.reduceEqDiff,reduceCtorEq]); exact rfl) ?_) | ((with_reducible first | refine vif_intro (fun hc => ?_) (fun hc => ?_) | refine vifW_intro (fun hc => ?_) (fun hc => ?_)) <;> (try simp (disch := omega) only [zhb] at hc) <;> (try (exfalso; omega)) <;> (try subst hc)) | (with_reducible refine cndW_intro (by omega) ?_) | (simp (config := { maxSteps := 400000 }) only [↓zvs_pre,↓reduceIte,zvs,reduceCtorEq,Nat.reduceEqDiff,Nat.reduceAdd,Nat.reduceLeDiff,Nat.reduceMul,Int.reduceBNe,Int.reduceBEq,Int.reduceEq,Int.reduceNe,Int.reduceLT,Int.reduceLE,Int.reduceGT,Int.reduceGE,Int.reduceNeg,Int.reduceToNat,Nat.reduceLT,Nat.reduceSub,tab,hS,ht,Try.results3,List.toList_toArray]) | (simp (disch := omega) only [ziw]))
    simp only [zrds]
  · have hf : fits x0 := tot_fits (by omega)
    by_cases hd : 3000 < dd.length
    · repeat' (first | (with_reducible first | refine ok_seq ?_ | refine xs1 ?_ | refine xs2 ?_ | refine xs3 ?_ | refine xb1 ?_ | refine xb2 ?_ | refine xb3 (by decide) ?_ | refine xb4 ?_ | refine xl2 ?_ | refine xl3 ?_ | refine xc2 ?_ | refine xc3 ?_ | refine ok_block ?_ | refine ok_scope ?_ | refine ok_skip ?_ | refine ok_label ?_ | refine ok_exit ?_ | refine ok_ret ?_ | refine ok_region (fun M hM => ?_) | refine vif_t ?_ | refine vif_f ?_ | refine fin_normal ?_ | refine fin_ret ?_ | (refine hM _ ?_; clear hM M) | refine vcallW_intro (call_data (by assumption) ?_ rfl ?_) | refine vcallHW_intro (hcall_data (by assumption) rfl ?_) ?_) | ((with_reducible refine nls_q ?_) <;> (first | rfl | assumption | (simp only [znl,nls_pte]; (first | done | fail)))) | (with_reducible refine ok_cond (by (simp only [↓reduceIte,zlk,Nat.reduceEqDiff,reduceCtorEq]); exact rfl) ?_) | ((with_reducible first | refine vif_intro (fun hc => ?_) (fun hc => ?_) | refine vifW_intro (fun hc => ?_) (fun hc => ?_)) <;> (try simp (disch := omega) only [zhb] at hc) <;> (try (exfalso; omega)) <;> (try subst hc)) | (with_reducible refine cndW_intro (by omega) ?_) | (simp (config := { maxSteps := 400000 }) only [↓zvs_pre,↓reduceIte,zvs,reduceCtorEq,Nat.reduceEqDiff,Nat.reduceAdd,Nat.reduceLeDiff,Nat.reduceMul,Int.reduceBNe,Int.reduceBEq,Int.reduceEq,Int.reduceNe,Int.reduceLT,Int.reduceLE,Int.reduceGT,Int.reduceGE,Int.reduceNeg,Int.reduceToNat,Nat.reduceLT,Nat.reduceSub,tab,hS,ht,Try.results3,List.toList_toArray]) | (simp (disch := omega) only [ziw]))
      all_goals first
        | (exfalso; omega)
        | (simp only [zrds]; done)
    · have h1 := PCopy_spec x0 hf s hl a (by omega) n (by omega)
      have h2 := RCopy_spec x0 hf s hl a (by omega) n (by omega)
      have h3 := PLay_spec x0 hf s hl a (by omega) dd (by omega)
      have h4 := RLay_spec x0 hf s hl a (by omega) dd (by omega)
      have e1 : (if n < 0 ∨ 2048 < n ∨ 2048 < a + n then none else pieceN x0 s 2049 a n.toNat) = copyO x0 s a n := by
        unfold copyO
        split
        · rfl
        · rw [piece_eq _ _ _ _ _ ha.1 (by omega)]
      have e2 : (if 2048 < dd.length ∨ 2048 < a + dd.length then none else layP s 2049 a dd x0) = layO x0 s a dd := by
        unfold layO
        split
        · rfl
        · rw [lay_eq _ _ _ _ _ ha.1 (by omega)]
      rw [e1] at h1
      rw [e2] at h3
      obtain ⟨l, b, e3⟩ := strV_t (copyO x0 s a n)
      obtain ⟨g, d, e4, hg⟩ := framesV_t (layO x0 s a dd) fun g h => fits_same (layO_same h) hf
      rw [e3] at h1 h2
      rw [e4] at h3 h4
      have h7 := Same_spec g g hg hg
      rw [decide_eq_true rfl] at h7
      repeat' (first | (with_reducible first | refine ok_seq ?_ | refine xs1 ?_ | refine xs2 ?_ | refine xs3 ?_ | refine xb1 ?_ | refine xb2 ?_ | refine xb3 (by decide) ?_ | refine xb4 ?_ | refine xl2 ?_ | refine xl3 ?_ | refine xc2 ?_ | refine xc3 ?_ | refine ok_block ?_ | refine ok_scope ?_ | refine ok_skip ?_ | refine ok_label ?_ | refine ok_exit ?_ | refine ok_ret ?_ | refine ok_region (fun M hM => ?_) | refine vif_t ?_ | refine vif_f ?_ | refine fin_normal ?_ | refine fin_ret ?_ | (refine hM _ ?_; clear hM M) | refine vcallW_intro (call_data (by assumption) ?_ rfl ?_) | refine vcallHW_intro (hcall_data (by assumption) rfl ?_) ?_) | ((with_reducible refine nls_q ?_) <;> (first | rfl | assumption | (simp only [znl,nls_pte]; (first | done | fail)))) | (with_reducible refine ok_cond (by (simp only [↓reduceIte,zlk,Nat.reduceEqDiff,reduceCtorEq]); exact rfl) ?_) | ((with_reducible first | refine vif_intro (fun hc => ?_) (fun hc => ?_) | refine vifW_intro (fun hc => ?_) (fun hc => ?_)) <;> (try simp (disch := omega) only [zhb] at hc) <;> (try (exfalso; omega)) <;> (try subst hc)) | (with_reducible refine cndW_intro (by omega) ?_) | (simp (config := { maxSteps := 400000 }) only [↓zvs_pre,↓reduceIte,zvs,reduceCtorEq,Nat.reduceEqDiff,Nat.reduceAdd,Nat.reduceLeDiff,Nat.reduceMul,Int.reduceBNe,Int.reduceBEq,Int.reduceEq,Int.reduceNe,Int.reduceLT,Int.reduceLE,Int.reduceGT,Int.reduceGE,Int.reduceNeg,Int.reduceToNat,Nat.reduceLT,Nat.reduceSub,tab,hS,ht,Try.results3,List.toList_toArray]) | (simp (disch := omega) only [ziw]))
      all_goals first
        | (exfalso; omega)
        | (simp only [zrds]; done)
end Go.Proofs.Ytigkgdjghelaoaa.V
