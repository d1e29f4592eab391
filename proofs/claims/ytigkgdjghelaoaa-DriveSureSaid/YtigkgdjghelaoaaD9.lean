/-
  Drive, part 9: the law DriveGone.
-/
import Derived.Test.YtigkgdjghelaoaaD8
set_option linter.unusedVariables false
set_option linter.unusedSimpArgs false
namespace Go.Proofs.Ytigkgdjghelaoaa.V
open Go
set_option maxRecDepth 100000
-- nlx: nls_wr, nls_ints
set_option maxHeartbeats 1000000
theorem wrB_mem {g : Frames} {w : Wr} {s : List UInt8} (h : s ∈ wrB g w) : s = w.d ∨ s ∈ g := by
  unfold wrB at h
  split at h
  · rcases List.mem_or_eq_of_mem_set h with h | h
    · exact .inr h
    · exact .inl h
  · exact .inr h
theorem flushB_mem : ∀ (pe : List Wr) (g : Frames) (s : List UInt8), s ∈ flushB pe g → (∃ w ∈ pe, s = w.d) ∨ s ∈ g
  | [], g, s, h => .inr h
  | w :: pe, g, s, h => by
    rcases flushB_mem pe (wrB g w) s h with ⟨v, hv, e⟩ | h
    · exact .inl ⟨v, by simp [hv], e⟩
    · rcases wrB_mem h with e | h
      · exact .inl ⟨w, by simp, e⟩
      · exact .inr h
theorem flushD_fit {d : Dr} (h : dfit d) : dfit (flushD d).1 := by
  unfold flushD
  split
  · exact h
  · obtain ⟨⟨h1, h2⟩, h3, h4⟩ := h
    refine ⟨⟨by show (flushB d.pe d.bl).length < _; rw [flushB_len]; exact h1, fun s hs => ?_⟩, by show 0 < _; omega, fun w hw => by cases hw⟩
    rcases flushB_mem _ _ _ hs with ⟨w, hw, rfl⟩ | hs
    · exact h4 w hw
    · exact h2 s hs
theorem putD_fit {d : Dr} (h : dfit d) (hp : d.pe.length < 2 ^ 35) (i : Int) {s : List UInt8} (hs : s.length < 2 ^ 36) : dfit (putD d i s).1 := by
  unfold putD
  split
  · exact ⟨⟨by show 0 < _; omega, fun s hs => by cases hs⟩, by show 0 < _; omega, fun s hs => by cases hs⟩
  · split
    · exact ⟨⟨by show 0 < _; omega, fun s hs => by cases hs⟩, by show 0 < _; omega, fun s hs => by cases hs⟩
    · split
      · exact h
      · obtain ⟨h1, h3, h4⟩ := h
        refine ⟨h1, by show (d.pe ++ [(⟨i, s⟩ : Wr)]).length < _; rw [List.length_append, List.length_singleton]; omega, fun w hw => ?_⟩
        rcases List.mem_append.1 hw with hw | hw
        · exact h4 w hw
        · rw [List.mem_singleton] at hw; rw [hw]; exact hs
/-- how many calls are left behind so many -/
def leftAt (l : Int) (k : Nat) : Int := if l < 0 then l else if l ≤ k then 0 else l - k
theorem leftAt_go {l : Int} {k : Nat} (h : l < 0 ∨ (k : Int) < l) : leftAt l k ≠ 0 ∧ lessD (leftAt l k) = leftAt l (k + 1) := by
  unfold leftAt lessD
  by_cases h0 : l < 0
  · rw [if_pos h0, if_pos h0, if_neg (by omega)]; exact ⟨by omega, rfl⟩
  · rw [if_neg h0, if_neg h0, if_neg (by omega)]
    refine ⟨by omega, ?_⟩
    rw [if_pos (by omega)]
    split <;> omega
theorem leftAt_stop {l : Int} {k : Nat} (h : ¬(l < 0 ∨ (k : Int) < l)) : leftAt l k = 0 ∧ leftAt l (k + 1) = 0 := by
  unfold leftAt
  rw [if_neg (by omega), if_pos (by omega), if_neg (by omega), if_pos (by omega)]
  exact ⟨rfl, rfl⟩
theorem leftAt_r {l : Int} {k : Nat} (h : -2 ^ 63 ≤ l ∧ l < 2 ^ 63) : -2 ^ 63 ≤ leftAt l k ∧ leftAt l k < 2 ^ 63 := by
  unfold leftAt
  split
  · exact h
  · split <;> omega
theorem leftAt_zero (l : Int) : leftAt l 0 = l := by
  unfold leftAt
  split
  · rfl
  · split <;> omega
theorem gone_law (x0 : List (List UInt8) × List (Int × List UInt8 × Unit) × Int × Unit) (x1 : UInt8) (g0 : good drT x0) (g1 : good .u8 x1) (l0 : Ty.lite drT x0) (l1 : Ty.lite .u8 x1) :
    Spec Try.prog 12 [toV drT x0, toV .u8 x1] (.bool true) := by
  have hA := dr_arg x0 g0 l0
  rw [toV_dr]
  generalize mkDr x0 = d at hA
  clear g0 l0 x0 g1 l1
  simp only [toV]
  obtain ⟨hl, hw, hG⟩ := hA
  have hF := fixed_spec
  have hxb : (x1.toNat : Int) < 256 := by have := x1.toNat_lt; omega
  generalize x1.toNat = c at hxb
  cases hb : bigD d with
  | true =>
    rw [hb, if_pos rfl] at hG
    refine spec_ok Try.func12 rfl rfl (by kernel_rfl) (k := 2) rfl (by decide) ?_
    repeat' (first | (with_reducible first | refine ok_seq ?_ | refine xs1 ?_ | refine xs2 ?_ | refine xs3 ?_ | refine xb1 ?_ | refine xb2 ?_ | refine xb3 (by decide) ?_ | refine xb4 ?_ | refine xl2 ?_ | refine xl3 ?_ | refine xc2 ?_ | refine xc3 ?_ | refine ok_block ?_ | refine ok_scope ?_ | refine ok_skip ?_ | refine ok_label ?_ | refine ok_exit ?_ | refine ok_ret ?_ | refine ok_region (fun M hM => ?_) | refine vif_t ?_ | refine vif_f ?_ | refine fin_normal ?_ | refine fin_ret ?_ | (refine hM _ ?_; clear hM M) | refine vcallW_intro (call_data (by assumption) ?_ rfl ?_) | refine vcallHW_intro (hcall_data (by assumption) rfl ?_) ?_) | ((with_reducible refine nls_q ?_) <;> (first | rfl | assumption | (simp only [znl,nls_wr,nls_ints]; (first | done | fail)))) | (with_reducible refine ok_cond (by (simp only [↓reduceIte,zlk,Nat.reduceEqDiff,reduceCtorEq]); exact rfl) ?_) | ((with_reducible first | refine vif_intro (fun hc => ?_) (fun hc => ?_) | refine vifW_intro (fun hc => ?_) (fun hc => ?_)) <;> (try simp (disch := omega) only [zhb] at hc) <;> (try (exfalso; omega)) <;> (try subst hc)) | (with_reducible refine cndW_intro (by omega) ?_) | (simp (config := { maxSteps := 400000 }) only [↓zvs_pre,↓reduceIte,zvs,reduceCtorEq,Nat.reduceEqDiff,Nat.reduceAdd,Nat.reduceLeDiff,Nat.reduceMul,Int.reduceBNe,Int.reduceBEq,Int.reduceEq,Int.reduceNe,Int.reduceLT,Int.reduceLE,Int.reduceGT,Int.reduceGE,Int.reduceNeg,Int.reduceToNat,Nat.reduceLT,Nat.reduceSub,tab,Try.results12,List.toList_toArray]) | (simp (disch := omega) only [ziw]))
    all_goals simp only [zrds]
  | false =>
    rw [hb, if_neg (by simp)] at hG
    obtain ⟨hfit, hs1, hs2, hs3, hs4⟩ := dr_small hb
    have h3 := check_spec d hfit
    by_cases hck : checkD d = 0 ∧ d.bl.length ≠ 0
    · obtain ⟨hck, hne⟩ := hck
      rw [hck] at h3
      have hO := ones_spec
      refine spec_ok Try.func12 rfl rfl (by kernel_rfl) (k := 2) rfl (by decide) ?_
      repeat' (first | (with_reducible first | refine ok_seq ?_ | refine xs1 ?_ | refine xs2 ?_ | refine xs3 ?_ | refine xb1 ?_ | refine xb2 ?_ | refine xb3 (by decide) ?_ | refine xb4 ?_ | refine xl2 ?_ | refine xl3 ?_ | refine xc2 ?_ | refine xc3 ?_ | refine ok_block ?_ | refine ok_scope ?_ | refine ok_skip ?_ | refine ok_label ?_ | refine ok_exit ?_ | refine ok_ret ?_ | refine ok_region (fun M hM => ?_) | refine vif_t ?_ | refine vif_f ?_ | refine fin_normal ?_ | refine fin_ret ?_ | (refine hM _ ?_; clear hM M) | refine vcallW_intro (call_data (by assumption) ?_ rfl ?_) | refine vcallHW_intro (hcall_data (by assumption) rfl ?_) ?_) | ((with_reducible refine nls_q ?_) <;> (first | rfl | assumption | (simp only [znl,nls_wr,nls_ints]; (first | done | fail)))) | (with_reducible refine ok_cond (by (simp only [↓reduceIte,zlk,Nat.reduceEqDiff,reduceCtorEq]); exact rfl) ?_) | ((with_reducible first | refine vif_intro (fun hc => ?_) (fun hc => ?_) | refine vifW_intro (fun hc => ?_) (fun hc => ?_)) <;> (try simp (disch := omega) only [zhb] at hc) <;> (try (exfalso; omega)) <;> (try subst hc)) | (with_reducible refine cndW_intro (by omega) ?_) | (simp (config := { maxSteps := 400000 }) only [↓zvs_pre,↓reduceIte,zvs,reduceCtorEq,Nat.reduceEqDiff,Nat.reduceAdd,Nat.reduceLeDiff,Nat.reduceMul,Int.reduceBNe,Int.reduceBEq,Int.reduceEq,Int.reduceNe,Int.reduceLT,Int.reduceLE,Int.reduceGT,Int.reduceGE,Int.reduceNeg,Int.reduceToNat,Nat.reduceLT,Nat.reduceSub,tab,hne,Try.results12,List.toList_toArray]) | (simp (disch := omega) only [ziw]))
      have hc40 : ((c % 40 : Nat) : Int) = (c : Int) % 40 := by omega
      refine ok_loop (fun x : Nat × Dr => ⟨slots [(2, .ptr 0 []), (4, .bool false), (5, .int .i64 d.left), (28, .int .i64 ((c : Int) % 40)), (29, .int .i64 x.1)], rows [(0, .row (.st [.cell, .cell, .cell]) (encDr x.2))], 1⟩) (fun x => x.1 ≤ c % 40 ∧ dfit x.2 ∧ x.2.pe.length ≤ 60 + x.1 ∧ x.2.bl.length = d.bl.length ∧ x.2.left = leftAt d.left x.1) (fun x => c % 40 - x.1) (0, d) ?_ ⟨Nat.zero_le _, hfit, hs2, rfl, ?_⟩ (fun x hx => ?_)
      · (refine Ren.mk [(0, 0)] false (by first | (intro h; cases h; done) | exact fun _ => rfl) (by first | decide | rfl | (simp [turnOk]; done)) (by decide) ?_ ?_ <;> (repeat' (first | (with_reducible first | refine mr_int (by first | rfl | omega) | refine mr_str rfl | refine mr_bool rfl | refine mr_dat rfl (by first | rfl | assumption | (simp only [znl,nls_wr,nls_ints]; (first | done | fail))) | refine mr_sl ?_ ?_ (by first | rfl | omega) | refine MR.ptr ?_ ?_ | refine mr_raw | refine mr_slnil | refine mr_empty ?_ | refine mr_row rfl (by (simp only [↓reduceIte,zlk,Nat.reduceEqDiff,reduceCtorEq]); exact rfl) ?_ ?_ ?_ (by decide) | refine mr_aggD rfl (by first | rfl | assumption | (simp only [znl,nls_wr,nls_ints]; (first | done | fail))) | refine MR.agg (MRL.cons ?_ ?_) | refine mr_aggD ?_ (by first | rfl | assumption | (simp only [znl,nls_wr,nls_ints]; (first | done | fail))) | refine MR.fn ?_ | refine MRL.cons ?_ ?_ | refine MRL.nil | refine alls_cons ?_ ?_ | refine alls_nil | refine allb_nil | refine allb_cons ?_ (by (simp only [↓reduceIte,zlk,Nat.reduceEqDiff,reduceCtorEq]); exact rfl) ?_ ?_ | refine MB.row ?_ | refine mb_arr ?_ ?_ | refine MR.map ?_ ?_ | refine mb_map rfl (by first | rfl | assumption | (simp only [znl,nls_wr,nls_ints]; (first | done | fail))) | rfl) | (simp only [znl,nls_wr,nls_ints]; (first | done | fail)) | (refine allb_ghost rfl ?_) | exact known_in rfl | exact known_lt rfl | ((with_reducible refine turn_ok ?_) <;> rfl) | (simp only [↓reduceIte,zlk,Nat.reduceEqDiff,reduceCtorEq]) | (with_reducible first | refine mb_map ?_ ?_ | refine mr_sl ?_ ?_ ?_ | refine mr_int ?_ | refine mr_str ?_ | refine mr_bool ?_ | refine mr_dat ?_ (by first | rfl | assumption | (simp only [znl,nls_wr,nls_ints]; (first | done | fail))) | refine mr_aggD ?_ ?_))))
      · exact (leftAt_zero d.left).symm
      obtain ⟨k, e⟩ := x
      obtain ⟨hk, hfe, hpe, hbe, hle⟩ := hx
      dsimp only at hk hfe hpe hbe hle ⊢
      by_cases hlt : k < c % 40
      · have hlt2 : (k : Int) < (c : Int) % 40 := by omega
        have hlb : -2 ^ 63 ≤ e.left ∧ e.left < 2 ^ 63 := by rw [hle]; exact leftAt_r hl
        have h1 := flush_spec e hfe hlb
        have h2 := dput_spec e hfe hlb 0 (by omega) onesL (by decide)
        have hfa := flushD_fit hfe
        have hfb := putD_fit hfe (by omega) 0 (s := onesL) (by decide)
        by_cases ht : d.left < 0 ∨ (k : Int) < d.left
        · obtain ⟨hne, hln⟩ := leftAt_go ht
          rw [← hle] at hne hln
          have e1 : flushD e = (⟨flushB e.pe e.bl, [], lessD e.left⟩, 0) := by rw [flushD, if_neg hne]
          have e2 : putD e 0 onesL = (⟨e.bl, e.pe ++ [⟨0, onesL⟩], lessD e.left⟩, 0) := by rw [putD, if_neg (by omega), if_neg (by decide), if_neg hne]
          rw [e1] at h1 hfa
          rw [e2] at h2 hfb
          obtain ⟨a, ha⟩ : ∃ a, a = (⟨flushB e.pe e.bl, [], lessD e.left⟩ : Dr) := ⟨_, rfl⟩
          obtain ⟨b, hb⟩ : ∃ b, b = (⟨e.bl, e.pe ++ [⟨0, onesL⟩], lessD e.left⟩ : Dr) := ⟨_, rfl⟩
          rw [← ha] at h1 hfa
          rw [← hb] at h2 hfb
          simp only [drV] at h1 h2
          have ia : a.pe.length ≤ 60 + (k + 1) ∧ a.bl.length = d.bl.length ∧ a.left = lessD e.left := by rw [ha]; exact ⟨Nat.zero_le _, by show (flushB e.pe e.bl).length = _; rw [flushB_len]; exact hbe, rfl⟩
          have ib : b.pe.length ≤ 60 + (k + 1) ∧ b.bl.length = d.bl.length ∧ b.left = lessD e.left := by rw [hb]; exact ⟨by show (e.pe ++ _).length ≤ _; rw [List.length_append, List.length_singleton]; omega, hbe, rfl⟩
          clear ha hb e1 e2
          repeat' (first | (with_reducible first | refine ok_seq ?_ | refine xs1 ?_ | refine xs2 ?_ | refine xs3 ?_ | refine xb1 ?_ | refine xb2 ?_ | refine xb3 (by decide) ?_ | refine xb4 ?_ | refine xl2 ?_ | refine xl3 ?_ | refine xc2 ?_ | refine xc3 ?_ | refine ok_block ?_ | refine ok_scope ?_ | refine ok_skip ?_ | refine ok_label ?_ | refine ok_exit ?_ | refine ok_ret ?_ | refine ok_region (fun M hM => ?_) | refine vif_t ?_ | refine vif_f ?_ | refine fin_normal ?_ | refine fin_ret ?_ | (refine hM _ ?_; clear hM M) | refine vcallW_intro (call_data (by assumption) ?_ rfl ?_) | refine vcallHW_intro (hcall_data (by assumption) rfl ?_) ?_) | ((with_reducible refine nls_q ?_) <;> (first | rfl | assumption | (simp only [znl,nls_wr,nls_ints]; (first | done | fail)))) | (with_reducible refine ok_cond (by (simp only [↓reduceIte,zlk,Nat.reduceEqDiff,reduceCtorEq]); exact rfl) ?_) | ((with_reducible first | refine vif_intro (fun hc => ?_) (fun hc => ?_) | refine vifW_intro (fun hc => ?_) (fun hc => ?_)) <;> (try simp (disch := omega) only [zhb] at hc) <;> (try (exfalso; omega)) <;> (try subst hc)) | (with_reducible refine cndW_intro (by omega) ?_) | (simp (config := { maxSteps := 400000 }) only [↓zvs_pre,↓reduceIte,zvs,reduceCtorEq,Nat.reduceEqDiff,Nat.reduceAdd,Nat.reduceLeDiff,Nat.reduceMul,Int.reduceBNe,Int.reduceBEq,Int.reduceEq,Int.reduceNe,Int.reduceLT,Int.reduceLE,Int.reduceGT,Int.reduceGE,Int.reduceNeg,Int.reduceToNat,Nat.reduceLT,Nat.reduceSub,tab,Try.results12,List.toList_toArray]) | (simp (disch := omega) only [ziw]))
          · refine ok_drawE 8 [0, 1, 2, 3, 4, 5, 7] 6 1 (by kernel_rfl) (by decide +kernel) (by decide) (by decide) (by (simp only [↓reduceIte,zlk,Nat.reduceEqDiff,reduceCtorEq]); exact rfl) (by intro m hm; simp only [upd_ap,rows_cons,rows_nil]; (repeat (first | rfl | rw [if_neg (by omega)]))) (fun M hM => ?_); simp only [picks,List.getElem?_cons_succ,List.getElem?_cons_zero,List.drop_succ_cons,List.drop_zero]
            repeat' (first | (with_reducible first | refine ok_seq ?_ | refine xs1 ?_ | refine xs2 ?_ | refine xs3 ?_ | refine xb1 ?_ | refine xb2 ?_ | refine xb3 (by decide) ?_ | refine xb4 ?_ | refine xl2 ?_ | refine xl3 ?_ | refine xc2 ?_ | refine xc3 ?_ | refine ok_block ?_ | refine ok_scope ?_ | refine ok_skip ?_ | refine ok_label ?_ | refine ok_exit ?_ | refine ok_ret ?_ | refine ok_region (fun M hM => ?_) | refine vif_t ?_ | refine vif_f ?_ | refine fin_normal ?_ | refine fin_ret ?_ | (refine hM _ ?_; clear hM M) | refine vcallW_intro (call_data (by assumption) ?_ rfl ?_) | refine vcallHW_intro (hcall_data (by assumption) rfl ?_) ?_) | ((with_reducible refine nls_q ?_) <;> (first | rfl | assumption | (simp only [znl,nls_wr,nls_ints]; (first | done | fail)))) | (with_reducible refine ok_cond (by (simp only [↓reduceIte,zlk,Nat.reduceEqDiff,reduceCtorEq]); exact rfl) ?_) | ((with_reducible first | refine vif_intro (fun hc => ?_) (fun hc => ?_) | refine vifW_intro (fun hc => ?_) (fun hc => ?_)) <;> (try simp (disch := omega) only [zhb] at hc) <;> (try (exfalso; omega)) <;> (try subst hc)) | (with_reducible refine cndW_intro (by omega) ?_) | (simp (config := { maxSteps := 400000 }) only [↓zvs_pre,↓reduceIte,zvs,reduceCtorEq,Nat.reduceEqDiff,Nat.reduceAdd,Nat.reduceLeDiff,Nat.reduceMul,Int.reduceBNe,Int.reduceBEq,Int.reduceEq,Int.reduceNe,Int.reduceLT,Int.reduceLE,Int.reduceGT,Int.reduceGE,Int.reduceNeg,Int.reduceToNat,Nat.reduceLT,Nat.reduceSub,tab,storeAt_go,isP_ptr,Try.results12,List.toList_toArray]) | (simp (disch := omega) only [ziw]))
            all_goals first
              | (exfalso; omega)
              | (refine xl1 (k + 1, b) ?_ ⟨by show k + 1 ≤ c % 40; omega, hfb, ib.1, ib.2.1, by show b.left = _; rw [ib.2.2, hln]⟩ (by show c % 40 - (k + 1) < c % 40 - k; omega); (refine Ren.mk [(0, 0)] false (by first | (intro h; cases h; done) | exact fun _ => rfl) (by first | decide | rfl | (simp [turnOk]; done)) (by decide) ?_ ?_ <;> (repeat' (first | (with_reducible first | refine mr_int (by first | rfl | omega) | refine mr_str rfl | refine mr_bool rfl | refine mr_dat rfl (by first | rfl | assumption | (simp only [znl,nls_wr,nls_ints]; (first | done | fail))) | refine mr_sl ?_ ?_ (by first | rfl | omega) | refine MR.ptr ?_ ?_ | refine mr_raw | refine mr_slnil | refine mr_empty ?_ | refine mr_row rfl (by (simp only [↓reduceIte,zlk,Nat.reduceEqDiff,reduceCtorEq]); exact rfl) ?_ ?_ ?_ (by decide) | refine mr_aggD rfl (by first | rfl | assumption | (simp only [znl,nls_wr,nls_ints]; (first | done | fail))) | refine MR.agg (MRL.cons ?_ ?_) | refine mr_aggD ?_ (by first | rfl | assumption | (simp only [znl,nls_wr,nls_ints]; (first | done | fail))) | refine MR.fn ?_ | refine MRL.cons ?_ ?_ | refine MRL.nil | refine alls_cons ?_ ?_ | refine alls_nil | refine allb_nil | refine allb_cons ?_ (by (simp only [↓reduceIte,zlk,Nat.reduceEqDiff,reduceCtorEq]); exact rfl) ?_ ?_ | refine MB.row ?_ | refine mb_arr ?_ ?_ | refine MR.map ?_ ?_ | refine mb_map rfl (by first | rfl | assumption | (simp only [znl,nls_wr,nls_ints]; (first | done | fail))) | rfl) | (simp only [znl,nls_wr,nls_ints]; (first | done | fail)) | (refine allb_ghost rfl ?_) | exact known_in rfl | exact known_lt rfl | ((with_reducible refine turn_ok ?_) <;> rfl) | (simp only [↓reduceIte,zlk,Nat.reduceEqDiff,reduceCtorEq]) | (with_reducible first | refine mb_map ?_ ?_ | refine mr_sl ?_ ?_ ?_ | refine mr_int ?_ | refine mr_str ?_ | refine mr_bool ?_ | refine mr_dat ?_ (by first | rfl | assumption | (simp only [znl,nls_wr,nls_ints]; (first | done | fail))) | refine mr_aggD ?_ ?_)))); done)
          all_goals first
            | (exfalso; omega)
            | (refine xl1 (k + 1, a) ?_ ⟨by show k + 1 ≤ c % 40; omega, hfa, ia.1, ia.2.1, by show a.left = _; rw [ia.2.2, hln]⟩ (by show c % 40 - (k + 1) < c % 40 - k; omega); (refine Ren.mk [(0, 0)] false (by first | (intro h; cases h; done) | exact fun _ => rfl) (by first | decide | rfl | (simp [turnOk]; done)) (by decide) ?_ ?_ <;> (repeat' (first | (with_reducible first | refine mr_int (by first | rfl | omega) | refine mr_str rfl | refine mr_bool rfl | refine mr_dat rfl (by first | rfl | assumption | (simp only [znl,nls_wr,nls_ints]; (first | done | fail))) | refine mr_sl ?_ ?_ (by first | rfl | omega) | refine MR.ptr ?_ ?_ | refine mr_raw | refine mr_slnil | refine mr_empty ?_ | refine mr_row rfl (by (simp only [↓reduceIte,zlk,Nat.reduceEqDiff,reduceCtorEq]); exact rfl) ?_ ?_ ?_ (by decide) | refine mr_aggD rfl (by first | rfl | assumption | (simp only [znl,nls_wr,nls_ints]; (first | done | fail))) | refine MR.agg (MRL.cons ?_ ?_) | refine mr_aggD ?_ (by first | rfl | assumption | (simp only [znl,nls_wr,nls_ints]; (first | done | fail))) | refine MR.fn ?_ | refine MRL.cons ?_ ?_ | refine MRL.nil | refine alls_cons ?_ ?_ | refine alls_nil | refine allb_nil | refine allb_cons ?_ (by (simp only [↓reduceIte,zlk,Nat.reduceEqDiff,reduceCtorEq]); exact rfl) ?_ ?_ | refine MB.row ?_ | refine mb_arr ?_ ?_ | refine MR.map ?_ ?_ | refine mb_map rfl (by first | rfl | assumption | (simp only [znl,nls_wr,nls_ints]; (first | done | fail))) | rfl) | (simp only [znl,nls_wr,nls_ints]; (first | done | fail)) | (refine allb_ghost rfl ?_) | exact known_in rfl | exact known_lt rfl | ((with_reducible refine turn_ok ?_) <;> rfl) | (simp only [↓reduceIte,zlk,Nat.reduceEqDiff,reduceCtorEq]) | (with_reducible first | refine mb_map ?_ ?_ | refine mr_sl ?_ ?_ ?_ | refine mr_int ?_ | refine mr_str ?_ | refine mr_bool ?_ | refine mr_dat ?_ (by first | rfl | assumption | (simp only [znl,nls_wr,nls_ints]; (first | done | fail))) | refine mr_aggD ?_ ?_)))); done)
        · obtain ⟨hz, hln⟩ := leftAt_stop ht
          rw [← hle] at hz
          have e1 : flushD e = (e, 17) := by rw [flushD, if_pos hz]
          have e2 : putD e 0 onesL = (e, 17) := by rw [putD, if_neg (by omega), if_neg (by decide), if_pos hz]
          rw [e1] at h1
          rw [e2] at h2
          simp only [drV] at h1 h2
          repeat' (first | (with_reducible first | refine ok_seq ?_ | refine xs1 ?_ | refine xs2 ?_ | refine xs3 ?_ | refine xb1 ?_ | refine xb2 ?_ | refine xb3 (by decide) ?_ | refine xb4 ?_ | refine xl2 ?_ | refine xl3 ?_ | refine xc2 ?_ | refine xc3 ?_ | refine ok_block ?_ | refine ok_scope ?_ | refine ok_skip ?_ | refine ok_label ?_ | refine ok_exit ?_ | refine ok_ret ?_ | refine ok_region (fun M hM => ?_) | refine vif_t ?_ | refine vif_f ?_ | refine fin_normal ?_ | refine fin_ret ?_ | (refine hM _ ?_; clear hM M) | refine vcallW_intro (call_data (by assumption) ?_ rfl ?_) | refine vcallHW_intro (hcall_data (by assumption) rfl ?_) ?_) | ((with_reducible refine nls_q ?_) <;> (first | rfl | assumption | (simp only [znl,nls_wr,nls_ints]; (first | done | fail)))) | (with_reducible refine ok_cond (by (simp only [↓reduceIte,zlk,Nat.reduceEqDiff,reduceCtorEq]); exact rfl) ?_) | ((with_reducible first | refine vif_intro (fun hc => ?_) (fun hc => ?_) | refine vifW_intro (fun hc => ?_) (fun hc => ?_)) <;> (try simp (disch := omega) only [zhb] at hc) <;> (try (exfalso; omega)) <;> (try subst hc)) | (with_reducible refine cndW_intro (by omega) ?_) | (simp (config := { maxSteps := 400000 }) only [↓zvs_pre,↓reduceIte,zvs,reduceCtorEq,Nat.reduceEqDiff,Nat.reduceAdd,Nat.reduceLeDiff,Nat.reduceMul,Int.reduceBNe,Int.reduceBEq,Int.reduceEq,Int.reduceNe,Int.reduceLT,Int.reduceLE,Int.reduceGT,Int.reduceGE,Int.reduceNeg,Int.reduceToNat,Nat.reduceLT,Nat.reduceSub,tab,Try.results12,List.toList_toArray]) | (simp (disch := omega) only [ziw]))
          · refine ok_drawE 8 [0, 1, 2, 3, 4, 5, 7] 6 1 (by kernel_rfl) (by decide +kernel) (by decide) (by decide) (by (simp only [↓reduceIte,zlk,Nat.reduceEqDiff,reduceCtorEq]); exact rfl) (by intro m hm; simp only [upd_ap,rows_cons,rows_nil]; (repeat (first | rfl | rw [if_neg (by omega)]))) (fun M hM => ?_); simp only [picks,List.getElem?_cons_succ,List.getElem?_cons_zero,List.drop_succ_cons,List.drop_zero]
            repeat' (first | (with_reducible first | refine ok_seq ?_ | refine xs1 ?_ | refine xs2 ?_ | refine xs3 ?_ | refine xb1 ?_ | refine xb2 ?_ | refine xb3 (by decide) ?_ | refine xb4 ?_ | refine xl2 ?_ | refine xl3 ?_ | refine xc2 ?_ | refine xc3 ?_ | refine ok_block ?_ | refine ok_scope ?_ | refine ok_skip ?_ | refine ok_label ?_ | refine ok_exit ?_ | refine ok_ret ?_ | refine ok_region (fun M hM => ?_) | refine vif_t ?_ | refine vif_f ?_ | refine fin_normal ?_ | refine fin_ret ?_ | (refine hM _ ?_; clear hM M) | refine vcallW_intro (call_data (by assumption) ?_ rfl ?_) | refine vcallHW_intro (hcall_data (by assumption) rfl ?_) ?_) | ((with_reducible refine nls_q ?_) <;> (first | rfl | assumption | (simp only [znl,nls_wr,nls_ints]; (first | done | fail)))) | (with_reducible refine ok_cond (by (simp only [↓reduceIte,zlk,Nat.reduceEqDiff,reduceCtorEq]); exact rfl) ?_) | ((with_reducible first | refine vif_intro (fun hc => ?_) (fun hc => ?_) | refine vifW_intro (fun hc => ?_) (fun hc => ?_)) <;> (try simp (disch := omega) only [zhb] at hc) <;> (try (exfalso; omega)) <;> (try subst hc)) | (with_reducible refine cndW_intro (by omega) ?_) | (simp (config := { maxSteps := 400000 }) only [↓zvs_pre,↓reduceIte,zvs,reduceCtorEq,Nat.reduceEqDiff,Nat.reduceAdd,Nat.reduceLeDiff,Nat.reduceMul,Int.reduceBNe,Int.reduceBEq,Int.reduceEq,Int.reduceNe,Int.reduceLT,Int.reduceLE,Int.reduceGT,Int.reduceGE,Int.reduceNeg,Int.reduceToNat,Nat.reduceLT,Nat.reduceSub,tab,storeAt_go,isP_ptr,Try.results12,List.toList_toArray]) | (simp (disch := omega) only [ziw]))
            all_goals first
              | (exfalso; omega)
              | (refine xl1 (k + 1, e) ?_ ⟨by show k + 1 ≤ c % 40; omega, hfe, by show e.pe.length ≤ 60 + (k + 1); omega, hbe, by show e.left = _; rw [hz, hln]⟩ (by show c % 40 - (k + 1) < c % 40 - k; omega); (refine Ren.mk [(0, 0)] false (by first | (intro h; cases h; done) | exact fun _ => rfl) (by first | decide | rfl | (simp [turnOk]; done)) (by decide) ?_ ?_ <;> (repeat' (first | (with_reducible first | refine mr_int (by first | rfl | omega) | refine mr_str rfl | refine mr_bool rfl | refine mr_dat rfl (by first | rfl | assumption | (simp only [znl,nls_wr,nls_ints]; (first | done | fail))) | refine mr_sl ?_ ?_ (by first | rfl | omega) | refine MR.ptr ?_ ?_ | refine mr_raw | refine mr_slnil | refine mr_empty ?_ | refine mr_row rfl (by (simp only [↓reduceIte,zlk,Nat.reduceEqDiff,reduceCtorEq]); exact rfl) ?_ ?_ ?_ (by decide) | refine mr_aggD rfl (by first | rfl | assumption | (simp only [znl,nls_wr,nls_ints]; (first | done | fail))) | refine MR.agg (MRL.cons ?_ ?_) | refine mr_aggD ?_ (by first | rfl | assumption | (simp only [znl,nls_wr,nls_ints]; (first | done | fail))) | refine MR.fn ?_ | refine MRL.cons ?_ ?_ | refine MRL.nil | refine alls_cons ?_ ?_ | refine alls_nil | refine allb_nil | refine allb_cons ?_ (by (simp only [↓reduceIte,zlk,Nat.reduceEqDiff,reduceCtorEq]); exact rfl) ?_ ?_ | refine MB.row ?_ | refine mb_arr ?_ ?_ | refine MR.map ?_ ?_ | refine mb_map rfl (by first | rfl | assumption | (simp only [znl,nls_wr,nls_ints]; (first | done | fail))) | rfl) | (simp only [znl,nls_wr,nls_ints]; (first | done | fail)) | (refine allb_ghost rfl ?_) | exact known_in rfl | exact known_lt rfl | ((with_reducible refine turn_ok ?_) <;> rfl) | (simp only [↓reduceIte,zlk,Nat.reduceEqDiff,reduceCtorEq]) | (with_reducible first | refine mb_map ?_ ?_ | refine mr_sl ?_ ?_ ?_ | refine mr_int ?_ | refine mr_str ?_ | refine mr_bool ?_ | refine mr_dat ?_ (by first | rfl | assumption | (simp only [znl,nls_wr,nls_ints]; (first | done | fail))) | refine mr_aggD ?_ ?_)))); done)
          all_goals first
            | (exfalso; omega)
            | (refine xl1 (k + 1, e) ?_ ⟨by show k + 1 ≤ c % 40; omega, hfe, by show e.pe.length ≤ 60 + (k + 1); omega, hbe, by show e.left = _; rw [hz, hln]⟩ (by show c % 40 - (k + 1) < c % 40 - k; omega); (refine Ren.mk [(0, 0)] false (by first | (intro h; cases h; done) | exact fun _ => rfl) (by first | decide | rfl | (simp [turnOk]; done)) (by decide) ?_ ?_ <;> (repeat' (first | (with_reducible first | refine mr_int (by first | rfl | omega) | refine mr_str rfl | refine mr_bool rfl | refine mr_dat rfl (by first | rfl | assumption | (simp only [znl,nls_wr,nls_ints]; (first | done | fail))) | refine mr_sl ?_ ?_ (by first | rfl | omega) | refine MR.ptr ?_ ?_ | refine mr_raw | refine mr_slnil | refine mr_empty ?_ | refine mr_row rfl (by (simp only [↓reduceIte,zlk,Nat.reduceEqDiff,reduceCtorEq]); exact rfl) ?_ ?_ ?_ (by decide) | refine mr_aggD rfl (by first | rfl | assumption | (simp only [znl,nls_wr,nls_ints]; (first | done | fail))) | refine MR.agg (MRL.cons ?_ ?_) | refine mr_aggD ?_ (by first | rfl | assumption | (simp only [znl,nls_wr,nls_ints]; (first | done | fail))) | refine MR.fn ?_ | refine MRL.cons ?_ ?_ | refine MRL.nil | refine alls_cons ?_ ?_ | refine alls_nil | refine allb_nil | refine allb_cons ?_ (by (simp only [↓reduceIte,zlk,Nat.reduceEqDiff,reduceCtorEq]); exact rfl) ?_ ?_ | refine MB.row ?_ | refine mb_arr ?_ ?_ | refine MR.map ?_ ?_ | refine mb_map rfl (by first | rfl | assumption | (simp only [znl,nls_wr,nls_ints]; (first | done | fail))) | rfl) | (simp only [znl,nls_wr,nls_ints]; (first | done | fail)) | (refine allb_ghost rfl ?_) | exact known_in rfl | exact known_lt rfl | ((with_reducible refine turn_ok ?_) <;> rfl) | (simp only [↓reduceIte,zlk,Nat.reduceEqDiff,reduceCtorEq]) | (with_reducible first | refine mb_map ?_ ?_ | refine mr_sl ?_ ?_ ?_ | refine mr_int ?_ | refine mr_str ?_ | refine mr_bool ?_ | refine mr_dat ?_ (by first | rfl | assumption | (simp only [znl,nls_wr,nls_ints]; (first | done | fail))) | refine mr_aggD ?_ ?_)))); done)
      · have hlt2 : ¬(k : Int) < (c : Int) % 40 := by omega
        repeat' (first | (with_reducible first | refine ok_seq ?_ | refine xs1 ?_ | refine xs2 ?_ | refine xs3 ?_ | refine xb1 ?_ | refine xb2 ?_ | refine xb3 (by decide) ?_ | refine xb4 ?_ | refine xl2 ?_ | refine xl3 ?_ | refine xc2 ?_ | refine xc3 ?_ | refine ok_block ?_ | refine ok_scope ?_ | refine ok_skip ?_ | refine ok_label ?_ | refine ok_exit ?_ | refine ok_ret ?_ | refine ok_region (fun M hM => ?_) | refine vif_t ?_ | refine vif_f ?_ | refine fin_normal ?_ | refine fin_ret ?_ | (refine hM _ ?_; clear hM M) | refine vcallW_intro (call_data (by assumption) ?_ rfl ?_) | refine vcallHW_intro (hcall_data (by assumption) rfl ?_) ?_) | ((with_reducible refine nls_q ?_) <;> (first | rfl | assumption | (simp only [znl,nls_wr,nls_ints]; (first | done | fail)))) | (with_reducible refine ok_cond (by (simp only [↓reduceIte,zlk,Nat.reduceEqDiff,reduceCtorEq]); exact rfl) ?_) | ((with_reducible first | refine vif_intro (fun hc => ?_) (fun hc => ?_) | refine vifW_intro (fun hc => ?_) (fun hc => ?_)) <;> (try simp (disch := omega) only [zhb] at hc) <;> (try (exfalso; omega)) <;> (try subst hc)) | (with_reducible refine cndW_intro (by omega) ?_) | (simp (config := { maxSteps := 400000 }) only [↓zvs_pre,↓reduceIte,zvs,reduceCtorEq,Nat.reduceEqDiff,Nat.reduceAdd,Nat.reduceLeDiff,Nat.reduceMul,Int.reduceBNe,Int.reduceBEq,Int.reduceEq,Int.reduceNe,Int.reduceLT,Int.reduceLE,Int.reduceGT,Int.reduceGE,Int.reduceNeg,Int.reduceToNat,Nat.reduceLT,Nat.reduceSub,tab,Try.results12,List.toList_toArray]) | (simp (disch := omega) only [ziw]))
        all_goals simp only [zrds]
    · refine spec_ok Try.func12 rfl rfl (by kernel_rfl) (k := 2) rfl (by decide) ?_
      repeat' (first | (with_reducible first | refine ok_seq ?_ | refine xs1 ?_ | refine xs2 ?_ | refine xs3 ?_ | refine xb1 ?_ | refine xb2 ?_ | refine xb3 (by decide) ?_ | refine xb4 ?_ | refine xl2 ?_ | refine xl3 ?_ | refine xc2 ?_ | refine xc3 ?_ | refine ok_block ?_ | refine ok_scope ?_ | refine ok_skip ?_ | refine ok_label ?_ | refine ok_exit ?_ | refine ok_ret ?_ | refine ok_region (fun M hM => ?_) | refine vif_t ?_ | refine vif_f ?_ | refine fin_normal ?_ | refine fin_ret ?_ | (refine hM _ ?_; clear hM M) | refine vcallW_intro (call_data (by assumption) ?_ rfl ?_) | refine vcallHW_intro (hcall_data (by assumption) rfl ?_) ?_) | ((with_reducible refine nls_q ?_) <;> (first | rfl | assumption | (simp only [znl,nls_wr,nls_ints]; (first | done | fail)))) | (with_reducible refine ok_cond (by (simp only [↓reduceIte,zlk,Nat.reduceEqDiff,reduceCtorEq]); exact rfl) ?_) | ((with_reducible first | refine vif_intro (fun hc => ?_) (fun hc => ?_) | refine vifW_intro (fun hc => ?_) (fun hc => ?_)) <;> (try simp (disch := omega) only [zhb] at hc) <;> (try (exfalso; omega)) <;> (try subst hc)) | (with_reducible refine cndW_intro (by omega) ?_) | (simp (config := { maxSteps := 400000 }) only [↓zvs_pre,↓reduceIte,zvs,reduceCtorEq,Nat.reduceEqDiff,Nat.reduceAdd,Nat.reduceLeDiff,Nat.reduceMul,Int.reduceBNe,Int.reduceBEq,Int.reduceEq,Int.reduceNe,Int.reduceLT,Int.reduceLE,Int.reduceGT,Int.reduceGE,Int.reduceNeg,Int.reduceToNat,Nat.reduceLT,Nat.reduceSub,tab,Try.results12,List.toList_toArray]) | (simp (disch := omega) only [ziw]))
      all_goals first
        | (exfalso; omega)
        | (simp only [zrds]; done)
end Go.Proofs.Ytigkgdjghelaoaa.V
