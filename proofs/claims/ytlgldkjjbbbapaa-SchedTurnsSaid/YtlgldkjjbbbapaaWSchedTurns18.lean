/-
  Parts of the proof of SchedTurns: NL, NT, NM.
  Conditions: none.
-/
import Derived.Test.YtlgldkjjbbbapaaWSchedTurns17
import Derived.Test.YtlgldkjjbbbapaaWSchedTurns08
import Derived.Test.YtlgldkjjbbbapaaWSchedTurns14
section
/-
  MACHINES, part 21: the chapter's example of turns.
-/
set_option linter.unusedVariables false
set_option linter.unusedSimpArgs false
namespace Go.Proofs.Ytlgldkjjbbbapaa.V
open Go
set_option maxRecDepth 100000
-- nlx: nls_wr, nls_pr, nls_pi, nls_pte, nls_fd, nls_u32, nl_pr
set_option maxHeartbeats 4000000
abbrev zP (pid : Int) : VV := .agg [.int .i64 pid, .int .i64 0, .int .i64 1, .agg [.agg (List.replicate 16 (.int .u32 0)), .int .u32 0], .agg (List.replicate 16 (.agg [.bool false, .bool false, .int .i64 0])), .agg (List.replicate 8 (.agg [.int .i64 0, .int .i64 0, .int .i64 0])), .bool false, .int .u32 0, .int .i64 0, .int .u64 0]
theorem enc_rp (pid : Int) : encPr (rp pid) = zP pid := rfl
abbrev exV (f : List UInt8) (d : Dr) (ps : VV) (c l nx : Int) : VV := .agg [.int .u64 0, .int .i64 3, .int .i64 c, .int .i64 l, encStrs [f, f, f, f], ps, .int .i64 nx, .str [], encPis [], .int .i64 1, .str [], .bool false, .int .u64 0, encDr d, encWrs []]
theorem i64_of {x : Int} (h : -1000 ≤ x ∧ x ≤ 1000) : i64R x := by unfold i64R; omega
theorem u64_of {x : Int} (h : 0 ≤ x ∧ x ≤ 1000) : u64R x := by unfold u64R; omega
theorem u32_of {x : Int} (h : 0 ≤ x ∧ x ≤ 1000) : u32R x := by unfold u32R; omega
theorem rp_ok (pid : Int) (hp : 1 ≤ pid ∧ pid ≤ 2) : PrR (rp pid) where
  pid := i64_of (show -1000 ≤ pid ∧ pid ≤ 1000 by omega)
  par := i64_of (show -1000 ≤ (0 : Int) ∧ (0 : Int) ≤ 1000 by omega)
  st := i64_of (show -1000 ≤ (1 : Int) ∧ (1 : Int) ≤ 1000 by omega)
  rs := List.length_replicate
  rsR := fun x hx => by rw [(List.mem_replicate.1 hx).2]; exact u32_of (by omega)
  pc := u32_of (show 0 ≤ (0 : Int) ∧ (0 : Int) ≤ 1000 by omega)
  sp := List.length_replicate
  spR := fun x hx => by rw [(List.mem_replicate.1 hx).2]; exact i64_of (show -1000 ≤ (0 : Int) ∧ (0 : Int) ≤ 1000 by omega)
  fds := List.length_replicate
  fdsR := fun x hx => by
    rw [(List.mem_replicate.1 hx).2]
    have h0 : i64R 0 := i64_of (by omega)
    exact ⟨h0, h0, h0⟩
  code := u32_of (show 0 ≤ (0 : Int) ∧ (0 : Int) ≤ 1000 by omega)
  why := i64_of (show -1000 ≤ (0 : Int) ∧ (0 : Int) ≤ 1000 by omega)
  n := u64_of (show 0 ≤ (0 : Int) ∧ (0 : Int) ≤ 1000 by omega)
theorem exM_fit (f : List UInt8) (d : Dr) (c l : Int) (hf : f.length = 128) (h1 : d.bl.length = 57) (h2 : ∀ s ∈ d.bl, s.length = 128) (h3 : d.pe = []) (h4 : d.left = -1) (hc : 0 ≤ c ∧ c ≤ 10) (hl : 0 ≤ l ∧ l ≤ 10) : MFit 20000 (exM f d c l) where
  clock := u64_of (show 0 ≤ (0 : Int) ∧ (0 : Int) ≤ 1000 by omega)
  quantum := i64_of (show -1000 ≤ (3 : Int) ∧ (3 : Int) ≤ 1000 by omega)
  cur := i64_of (show -1000 ≤ c ∧ c ≤ 1000 by omega)
  left := i64_of (show -1000 ≤ l ∧ l ≤ 1000 by omega)
  fr := show 4 ≤ 20000 by omega
  frS := fun s hs => by
    simp only [exM,List.mem_cons,List.not_mem_nil,or_false] at hs
    rcases hs with rfl | rfl | rfl | rfl <;> omega
  pr := show 2 ≤ 20000 by omega
  prR := fun p hp => by
    simp only [exM,List.mem_cons,List.not_mem_nil,or_false] at hp
    rcases hp with rfl | rfl
    · exact rp_ok 1 (by omega)
    · exact rp_ok 2 (by omega)
  next := i64_of (show -1000 ≤ (3 : Int) ∧ (3 : Int) ≤ 1000 by omega)
  init := show 0 ≤ 20000 by omega
  pipes := show 0 ≤ 20000 by omega
  pipesR := fun p hp => by cases hp
  newp := i64_of (show -1000 ≤ (1 : Int) ∧ (1 : Int) ≤ 1000 by omega)
  inp := show 0 ≤ 20000 by omega
  told := u64_of (show 0 ≤ (0 : Int) ∧ (0 : Int) ≤ 1000 by omega)
  bl := show d.bl.length ≤ 20000 by omega
  blS := fun s hs => by have := h2 s hs; omega
  pe := by show d.pe.length ≤ 20000; rw [h3]; exact Nat.zero_le _
  peS := fun w hw => by
    exfalso
    rw [show (exM f d c l).dr.pe = [] from h3] at hw
    cases hw
  dleft := by show i64R d.left; rw [h4]; exact i64_of (by omega)
  dirty := show 0 ≤ 20000 by omega
  dirtyS := fun w hw => by cases hw
theorem exM_pid (f : List UInt8) (d : Dr) (c l : Int) (hc : 0 ≤ c) : PidOk (exM f d c l) := by
  refine ⟨fun p hp => ?_, ?_, hc⟩
  · simp only [exM,List.mem_cons,List.not_mem_nil,or_false] at hp
    rcases hp with rfl | rfl <;> decide
  · simp only [exM,List.pairwise_cons,List.mem_cons,List.not_mem_nil,or_false,forall_eq,List.Pairwise.nil,and_true,false_imp_iff,implies_true]
    decide
theorem fixed27_spec : Spec Try.prog 16 [] (.bool true) := by
  obtain ⟨f, d, hf, h1, h2, h3, h4, hB⟩ := bare_spec
  have hP1 : Spec Try.prog 18 [exV f d (.dat prSh [zP 1, zP 2]) 1 0 3] (exV f d (.dat prSh [zP 1, zP 2]) 2 3 3) := by
    have := pick_spec (exM f d 1 0) (exM_fit f d 1 0 hf h1 h2 h3 h4 (by omega) (by omega)) (exM_pid f d 1 0 (by omega))
    rw [show pickM (exM f d 1 0) = exM f d 2 3 from rfl] at this
    exact this
  have hP2 : Spec Try.prog 18 [exV f d (.dat prSh [zP 1, zP 2]) 2 0 3] (exV f d (.dat prSh [zP 1, zP 2]) 1 3 3) := by
    have := pick_spec (exM f d 2 0) (exM_fit f d 2 0 hf h1 h2 h3 h4 (by omega) (by omega)) (exM_pid f d 2 0 (by omega))
    rw [show pickM (exM f d 2 0) = exM f d 1 3 from rfl] at this
    exact this
  have hB : Spec Try.prog 29 [] (exV f d (encPrs []) 0 0 1) := hB
  clear h1 h2 h3 h4
  have hn0 : nls (zP 1 :: zP 2 :: []) = true := rfl
  have hn1 : nls [exV f d (.dat prSh [zP 1, zP 2]) 1 0 3] = true := by
    generalize [zP 1, zP 2] = Z at hn0
    simp [nls, nl, hn0, nls_wr, nls_mapStr]
  have hn2 : nls [exV f d (.dat prSh [zP 1, zP 2]) 2 0 3] = true := by
    generalize [zP 1, zP 2] = Z at hn0
    simp [nls, nl, hn0, nls_wr, nls_mapStr]
  have hz1 : Has (Sh.arr 16 Sh.cell) (VV.agg (List.replicate 16 (VV.int IntKind.u32 0))) := by simp [Has, VV.leaf]
  have hz2 : Has (Sh.arr 16 (Sh.st [Sh.cell, Sh.cell, Sh.cell])) (VV.agg (List.replicate 16 (VV.agg [VV.bool false, VV.bool false, VV.int IntKind.i64 0]))) := by simp [Has, HasL, VV.leaf]
  have hz3 : Has (Sh.arr 8 (Sh.st [Sh.cell, Sh.cell, Sh.cell])) (VV.agg (List.replicate 8 (VV.agg [VV.int IntKind.i64 0, VV.int IntKind.i64 0, VV.int IntKind.i64 0]))) := by simp [Has, HasL, VV.leaf]
  refine spec_ok Try.func16 rfl rfl (by kernel_rfl) (k := 0) rfl (by decide) ?_
  refine ok_cut (fun _ : Unit => ⟨slots [], rows [], 0⟩) (fun _ => True) ?_ fun _ _ => ?_
  · repeat' (first | (with_reducible first | refine ok_seq ?_ | refine xs1 ?_ | refine xs2 ?_ | refine xs3 ?_ | refine xb1 ?_ | refine xb2 ?_ | refine xb3 (by decide) ?_ | refine xb4 ?_ | refine xl2 ?_ | refine xl3 ?_ | refine xc2 ?_ | refine xc3 ?_ | refine ok_block ?_ | refine ok_scope ?_ | refine ok_skip ?_ | refine ok_label ?_ | refine ok_exit ?_ | refine ok_ret ?_ | refine ok_region (fun M hM => ?_) | refine vif_t ?_ | refine vif_f ?_ | refine fin_normal ?_ | refine fin_ret ?_ | (refine hM _ ?_; clear hM M) | refine vcallW_intro (call_data (by assumption) ?_ rfl ?_) | refine vcallHW_intro (hcall_data (by assumption) rfl ?_) ?_) | ((with_reducible refine nls_q ?_) <;> (first | rfl | assumption | (simp only [znl,nls_wr,nls_pr,nls_pi,nls_pte,nls_fd,nls_u32,nl_pr]; (first | done | fail)))) | (with_reducible refine ok_cond (by (simp only [↓reduceIte,zlk,Nat.reduceEqDiff,reduceCtorEq]); exact rfl) ?_) | ((with_reducible first | refine vif_intro (fun hc => ?_) (fun hc => ?_) | refine vifW_intro (fun hc => ?_) (fun hc => ?_)) <;> (try simp (disch := omega) only [zhb] at hc) <;> (try (exfalso; omega)) <;> (try subst hc)) | (with_reducible refine cndW_intro (by omega) ?_) | (simp (config := { maxSteps := 400000 }) only [↓zvs_pre,↓reduceIte,zvs,reduceCtorEq,Nat.reduceEqDiff,Nat.reduceAdd,Nat.reduceLeDiff,Nat.reduceMul,Int.reduceBNe,Int.reduceBEq,Int.reduceEq,Int.reduceNe,Int.reduceLT,Int.reduceLE,Int.reduceGT,Int.reduceGE,Int.reduceNeg,Int.reduceToNat,Nat.reduceLT,Nat.reduceSub,tab,hz1,hz2,hz3,Try.results16,List.toList_toArray]) | (simp (disch := omega) only [ziw]))
    refine xc1 () ?_ trivial
    (refine Ren.mk [] false (by first | (intro h; cases h; done) | exact fun _ => rfl) (by first | decide | rfl | (simp [turnOk]; done)) (by decide) ?_ ?_ <;> (repeat' (first | (with_reducible first | refine mr_int (by first | rfl | omega) | refine mr_str rfl | refine mr_bool rfl | refine mr_dat rfl (by first | rfl | assumption | (simp only [znl,nls_wr,nls_pr,nls_pi,nls_pte,nls_fd,nls_u32,nl_pr]; (first | done | fail))) | refine mr_sl ?_ ?_ (by first | rfl | omega) | refine MR.ptr ?_ ?_ | refine mr_raw | refine mr_slnil | refine mr_empty ?_ | refine mr_row rfl (by (simp only [↓reduceIte,zlk,Nat.reduceEqDiff,reduceCtorEq]); exact rfl) ?_ ?_ ?_ (by decide) | refine mr_aggD rfl (by first | rfl | assumption | (simp only [znl,nls_wr,nls_pr,nls_pi,nls_pte,nls_fd,nls_u32,nl_pr]; (first | done | fail))) | refine MR.agg (MRL.cons ?_ ?_) | refine mr_aggD ?_ (by first | rfl | assumption | (simp only [znl,nls_wr,nls_pr,nls_pi,nls_pte,nls_fd,nls_u32,nl_pr]; (first | done | fail))) | refine MR.fn ?_ | refine MRL.cons ?_ ?_ | refine MRL.nil | refine alls_cons ?_ ?_ | refine alls_nil | refine allb_nil | refine allb_cons ?_ (by (simp only [↓reduceIte,zlk,Nat.reduceEqDiff,reduceCtorEq]); exact rfl) ?_ ?_ | refine MB.row ?_ | refine mb_arr ?_ ?_ | refine MR.map ?_ ?_ | refine mb_map rfl (by first | rfl | assumption | (simp only [znl,nls_wr,nls_pr,nls_pi,nls_pte,nls_fd,nls_u32,nl_pr]; (first | done | fail))) | rfl) | (simp only [znl,nls_wr,nls_pr,nls_pi,nls_pte,nls_fd,nls_u32,nl_pr]; (first | done | fail)) | (refine allb_ghost rfl ?_) | exact known_in rfl | exact known_lt rfl | ((with_reducible refine turn_ok ?_) <;> rfl) | (simp only [↓reduceIte,zlk,Nat.reduceEqDiff,reduceCtorEq]) | (with_reducible first | refine mb_map ?_ ?_ | refine mr_sl ?_ ?_ ?_ | refine mr_int ?_ | refine mr_str ?_ | refine mr_bool ?_ | refine mr_dat ?_ (by first | rfl | assumption | (simp only [znl,nls_wr,nls_pr,nls_pi,nls_pte,nls_fd,nls_u32,nl_pr]; (first | done | fail))) | refine mr_aggD ?_ ?_))))
  refine ok_cut (fun _ : Unit => ⟨slots [(1, .ptr 0 [])], rows [(0, .row machSh (exV f d (encPrs []) 0 0 1))], 1⟩) (fun _ => True) ?_ fun _ _ => ?_
  · repeat' (first | (with_reducible first | refine ok_seq ?_ | refine xs1 ?_ | refine xs2 ?_ | refine xs3 ?_ | refine xb1 ?_ | refine xb2 ?_ | refine xb3 (by decide) ?_ | refine xb4 ?_ | refine xl2 ?_ | refine xl3 ?_ | refine xc2 ?_ | refine xc3 ?_ | refine ok_block ?_ | refine ok_scope ?_ | refine ok_skip ?_ | refine ok_label ?_ | refine ok_exit ?_ | refine ok_ret ?_ | refine ok_region (fun M hM => ?_) | refine vif_t ?_ | refine vif_f ?_ | refine fin_normal ?_ | refine fin_ret ?_ | (refine hM _ ?_; clear hM M) | refine vcallW_intro (call_data (by assumption) ?_ rfl ?_) | refine vcallHW_intro (hcall_data (by assumption) rfl ?_) ?_) | ((with_reducible refine nls_q ?_) <;> (first | rfl | assumption | (simp only [znl,nls_wr,nls_pr,nls_pi,nls_pte,nls_fd,nls_u32,nl_pr]; (first | done | fail)))) | (with_reducible refine ok_cond (by (simp only [↓reduceIte,zlk,Nat.reduceEqDiff,reduceCtorEq]); exact rfl) ?_) | ((with_reducible first | refine vif_intro (fun hc => ?_) (fun hc => ?_) | refine vifW_intro (fun hc => ?_) (fun hc => ?_)) <;> (try simp (disch := omega) only [zhb] at hc) <;> (try (exfalso; omega)) <;> (try subst hc)) | (with_reducible refine cndW_intro (by omega) ?_) | (simp (config := { maxSteps := 400000 }) only [↓zvs_pre,↓reduceIte,zvs,reduceCtorEq,Nat.reduceEqDiff,Nat.reduceAdd,Nat.reduceLeDiff,Nat.reduceMul,Int.reduceBNe,Int.reduceBEq,Int.reduceEq,Int.reduceNe,Int.reduceLT,Int.reduceLE,Int.reduceGT,Int.reduceGE,Int.reduceNeg,Int.reduceToNat,Nat.reduceLT,Nat.reduceSub,tab,hz1,hz2,hz3,Try.results16,List.toList_toArray]) | (simp (disch := omega) only [ziw]))
    refine xc1 () ?_ trivial
    (refine Ren.mk [(0, 0)] false (by first | (intro h; cases h; done) | exact fun _ => rfl) (by first | decide | rfl | (simp [turnOk]; done)) (by decide) ?_ ?_ <;> (repeat' (first | (with_reducible first | refine mr_int (by first | rfl | omega) | refine mr_str rfl | refine mr_bool rfl | refine mr_dat rfl (by first | rfl | assumption | (simp only [znl,nls_wr,nls_pr,nls_pi,nls_pte,nls_fd,nls_u32,nl_pr]; (first | done | fail))) | refine mr_sl ?_ ?_ (by first | rfl | omega) | refine MR.ptr ?_ ?_ | refine mr_raw | refine mr_slnil | refine mr_empty ?_ | refine mr_row rfl (by (simp only [↓reduceIte,zlk,Nat.reduceEqDiff,reduceCtorEq]); exact rfl) ?_ ?_ ?_ (by decide) | refine mr_aggD rfl (by first | rfl | assumption | (simp only [znl,nls_wr,nls_pr,nls_pi,nls_pte,nls_fd,nls_u32,nl_pr]; (first | done | fail))) | refine MR.agg (MRL.cons ?_ ?_) | refine mr_aggD ?_ (by first | rfl | assumption | (simp only [znl,nls_wr,nls_pr,nls_pi,nls_pte,nls_fd,nls_u32,nl_pr]; (first | done | fail))) | refine MR.fn ?_ | refine MRL.cons ?_ ?_ | refine MRL.nil | refine alls_cons ?_ ?_ | refine alls_nil | refine allb_nil | refine allb_cons ?_ (by (simp only [↓reduceIte,zlk,Nat.reduceEqDiff,reduceCtorEq]); exact rfl) ?_ ?_ | refine MB.row ?_ | refine mb_arr ?_ ?_ | refine MR.map ?_ ?_ | refine mb_map rfl (by first | rfl | assumption | (simp only [znl,nls_wr,nls_pr,nls_pi,nls_pte,nls_fd,nls_u32,nl_pr]; (first | done | fail))) | rfl) | (simp only [znl,nls_wr,nls_pr,nls_pi,nls_pte,nls_fd,nls_u32,nl_pr]; (first | done | fail)) | (refine allb_ghost rfl ?_) | exact known_in rfl | exact known_lt rfl | ((with_reducible refine turn_ok ?_) <;> rfl) | (simp only [↓reduceIte,zlk,Nat.reduceEqDiff,reduceCtorEq]) | (with_reducible first | refine mb_map ?_ ?_ | refine mr_sl ?_ ?_ ?_ | refine mr_int ?_ | refine mr_str ?_ | refine mr_bool ?_ | refine mr_dat ?_ (by first | rfl | assumption | (simp only [znl,nls_wr,nls_pr,nls_pi,nls_pte,nls_fd,nls_u32,nl_pr]; (first | done | fail))) | refine mr_aggD ?_ ?_))))
  refine ok_cut (fun _ : Unit => ⟨slots [(1, .ptr 0 [])], rows [(0, .row machSh (exV f d (encPrs []) 1 0 3))], 1⟩) (fun _ => True) ?_ fun _ _ => ?_
  · repeat' (first | (with_reducible first | refine ok_seq ?_ | refine xs1 ?_ | refine xs2 ?_ | refine xs3 ?_ | refine xb1 ?_ | refine xb2 ?_ | refine xb3 (by decide) ?_ | refine xb4 ?_ | refine xl2 ?_ | refine xl3 ?_ | refine xc2 ?_ | refine xc3 ?_ | refine ok_block ?_ | refine ok_scope ?_ | refine ok_skip ?_ | refine ok_label ?_ | refine ok_exit ?_ | refine ok_ret ?_ | refine ok_region (fun M hM => ?_) | refine vif_t ?_ | refine vif_f ?_ | refine fin_normal ?_ | refine fin_ret ?_ | (refine hM _ ?_; clear hM M) | refine vcallW_intro (call_data (by assumption) ?_ rfl ?_) | refine vcallHW_intro (hcall_data (by assumption) rfl ?_) ?_) | ((with_reducible refine nls_q ?_) <;> (first | rfl | assumption | (simp only [znl,nls_wr,nls_pr,nls_pi,nls_pte,nls_fd,nls_u32,nl_pr]; (first | done | fail)))) | (with_reducible refine ok_cond (by (simp only [↓reduceIte,zlk,Nat.reduceEqDiff,reduceCtorEq]); exact rfl) ?_) | ((with_reducible first | refine vif_intro (fun hc => ?_) (fun hc => ?_) | refine vifW_intro (fun hc => ?_) (fun hc => ?_)) <;> (try simp (disch := omega) only [zhb] at hc) <;> (try (exfalso; omega)) <;> (try subst hc)) | (with_reducible refine cndW_intro (by omega) ?_) | (simp (config := { maxSteps := 400000 }) only [↓zvs_pre,↓reduceIte,zvs,reduceCtorEq,Nat.reduceEqDiff,Nat.reduceAdd,Nat.reduceLeDiff,Nat.reduceMul,Int.reduceBNe,Int.reduceBEq,Int.reduceEq,Int.reduceNe,Int.reduceLT,Int.reduceLE,Int.reduceGT,Int.reduceGE,Int.reduceNeg,Int.reduceToNat,Nat.reduceLT,Nat.reduceSub,tab,hz1,hz2,hz3,Try.results16,List.toList_toArray]) | (simp (disch := omega) only [ziw]))
    refine xc1 () ?_ trivial
    (refine Ren.mk [(0, 0)] false (by first | (intro h; cases h; done) | exact fun _ => rfl) (by first | decide | rfl | (simp [turnOk]; done)) (by decide) ?_ ?_ <;> (repeat' (first | (with_reducible first | refine mr_int (by first | rfl | omega) | refine mr_str rfl | refine mr_bool rfl | refine mr_dat rfl (by first | rfl | assumption | (simp only [znl,nls_wr,nls_pr,nls_pi,nls_pte,nls_fd,nls_u32,nl_pr]; (first | done | fail))) | refine mr_sl ?_ ?_ (by first | rfl | omega) | refine MR.ptr ?_ ?_ | refine mr_raw | refine mr_slnil | refine mr_empty ?_ | refine mr_row rfl (by (simp only [↓reduceIte,zlk,Nat.reduceEqDiff,reduceCtorEq]); exact rfl) ?_ ?_ ?_ (by decide) | refine mr_aggD rfl (by first | rfl | assumption | (simp only [znl,nls_wr,nls_pr,nls_pi,nls_pte,nls_fd,nls_u32,nl_pr]; (first | done | fail))) | refine MR.agg (MRL.cons ?_ ?_) | refine mr_aggD ?_ (by first | rfl | assumption | (simp only [znl,nls_wr,nls_pr,nls_pi,nls_pte,nls_fd,nls_u32,nl_pr]; (first | done | fail))) | refine MR.fn ?_ | refine MRL.cons ?_ ?_ | refine MRL.nil | refine alls_cons ?_ ?_ | refine alls_nil | refine allb_nil | refine allb_cons ?_ (by (simp only [↓reduceIte,zlk,Nat.reduceEqDiff,reduceCtorEq]); exact rfl) ?_ ?_ | refine MB.row ?_ | refine mb_arr ?_ ?_ | refine MR.map ?_ ?_ | refine mb_map rfl (by first | rfl | assumption | (simp only [znl,nls_wr,nls_pr,nls_pi,nls_pte,nls_fd,nls_u32,nl_pr]; (first | done | fail))) | rfl) | (simp only [znl,nls_wr,nls_pr,nls_pi,nls_pte,nls_fd,nls_u32,nl_pr]; (first | done | fail)) | (refine allb_ghost rfl ?_) | exact known_in rfl | exact known_lt rfl | ((with_reducible refine turn_ok ?_) <;> rfl) | (simp only [↓reduceIte,zlk,Nat.reduceEqDiff,reduceCtorEq]) | (with_reducible first | refine mb_map ?_ ?_ | refine mr_sl ?_ ?_ ?_ | refine mr_int ?_ | refine mr_str ?_ | refine mr_bool ?_ | refine mr_dat ?_ (by first | rfl | assumption | (simp only [znl,nls_wr,nls_pr,nls_pi,nls_pte,nls_fd,nls_u32,nl_pr]; (first | done | fail))) | refine mr_aggD ?_ ?_))))
  refine ok_cut (fun _ : Unit => ⟨slots [(1, .ptr 0 [])], rows [(0, .row machSh (exV f d (.dat prSh [zP 1, zP 2]) 1 0 3))], 1⟩) (fun _ => True) ?_ fun _ _ => ?_
  · repeat' (first | (with_reducible first | refine ok_seq ?_ | refine xs1 ?_ | refine xs2 ?_ | refine xs3 ?_ | refine xb1 ?_ | refine xb2 ?_ | refine xb3 (by decide) ?_ | refine xb4 ?_ | refine xl2 ?_ | refine xl3 ?_ | refine xc2 ?_ | refine xc3 ?_ | refine ok_block ?_ | refine ok_scope ?_ | refine ok_skip ?_ | refine ok_label ?_ | refine ok_exit ?_ | refine ok_ret ?_ | refine ok_region (fun M hM => ?_) | refine vif_t ?_ | refine vif_f ?_ | refine fin_normal ?_ | refine fin_ret ?_ | (refine hM _ ?_; clear hM M) | refine vcallW_intro (call_data (by assumption) ?_ rfl ?_) | refine vcallHW_intro (hcall_data (by assumption) rfl ?_) ?_) | ((with_reducible refine nls_q ?_) <;> (first | rfl | assumption | (simp only [znl,nls_wr,nls_pr,nls_pi,nls_pte,nls_fd,nls_u32,nl_pr]; (first | done | fail)))) | (with_reducible refine ok_cond (by (simp only [↓reduceIte,zlk,Nat.reduceEqDiff,reduceCtorEq]); exact rfl) ?_) | ((with_reducible first | refine vif_intro (fun hc => ?_) (fun hc => ?_) | refine vifW_intro (fun hc => ?_) (fun hc => ?_)) <;> (try simp (disch := omega) only [zhb] at hc) <;> (try (exfalso; omega)) <;> (try subst hc)) | (with_reducible refine cndW_intro (by omega) ?_) | (simp (config := { maxSteps := 400000 }) only [↓zvs_pre,↓reduceIte,zvs,reduceCtorEq,Nat.reduceEqDiff,Nat.reduceAdd,Nat.reduceLeDiff,Nat.reduceMul,Int.reduceBNe,Int.reduceBEq,Int.reduceEq,Int.reduceNe,Int.reduceLT,Int.reduceLE,Int.reduceGT,Int.reduceGE,Int.reduceNeg,Int.reduceToNat,Nat.reduceLT,Nat.reduceSub,tab,hz1,hz2,hz3,Try.results16,List.toList_toArray]) | (simp (disch := omega) only [ziw]))
    refine xc1 () ?_ trivial
    (refine Ren.mk [(0, 0)] true (by first | (intro h; cases h; done) | exact fun _ => rfl) (by first | decide | rfl | (simp [turnOk]; done)) (by decide) ?_ ?_ <;> (repeat' (first | (with_reducible first | refine mr_int (by first | rfl | omega) | refine mr_str rfl | refine mr_bool rfl | refine mr_dat rfl (by first | rfl | assumption | (simp only [znl,nls_wr,nls_pr,nls_pi,nls_pte,nls_fd,nls_u32,nl_pr]; (first | done | fail))) | refine mr_sl ?_ ?_ (by first | rfl | omega) | refine MR.ptr ?_ ?_ | refine mr_raw | refine mr_slnil | refine mr_empty ?_ | refine mr_row rfl (by (simp only [↓reduceIte,zlk,Nat.reduceEqDiff,reduceCtorEq]); exact rfl) ?_ ?_ ?_ (by decide) | refine mr_aggD rfl (by first | rfl | assumption | (simp only [znl,nls_wr,nls_pr,nls_pi,nls_pte,nls_fd,nls_u32,nl_pr]; (first | done | fail))) | refine MR.agg (MRL.cons ?_ ?_) | refine mr_aggD ?_ (by first | rfl | assumption | (simp only [znl,nls_wr,nls_pr,nls_pi,nls_pte,nls_fd,nls_u32,nl_pr]; (first | done | fail))) | refine MR.fn ?_ | refine MRL.cons ?_ ?_ | refine MRL.nil | refine alls_cons ?_ ?_ | refine alls_nil | refine allb_nil | refine allb_cons ?_ (by (simp only [↓reduceIte,zlk,Nat.reduceEqDiff,reduceCtorEq]); exact rfl) ?_ ?_ | refine MB.row ?_ | refine mb_arr ?_ ?_ | refine MR.map ?_ ?_ | refine mb_map rfl (by first | rfl | assumption | (simp only [znl,nls_wr,nls_pr,nls_pi,nls_pte,nls_fd,nls_u32,nl_pr]; (first | done | fail))) | rfl) | (simp only [znl,nls_wr,nls_pr,nls_pi,nls_pte,nls_fd,nls_u32,nl_pr]; (first | done | fail)) | (refine allb_ghost rfl ?_) | exact known_in rfl | exact known_lt rfl | ((with_reducible refine turn_ok ?_) <;> rfl) | (simp only [↓reduceIte,zlk,Nat.reduceEqDiff,reduceCtorEq]) | (with_reducible first | refine mb_map ?_ ?_ | refine mr_sl ?_ ?_ ?_ | refine mr_int ?_ | refine mr_str ?_ | refine mr_bool ?_ | refine mr_dat ?_ (by first | rfl | assumption | (simp only [znl,nls_wr,nls_pr,nls_pi,nls_pte,nls_fd,nls_u32,nl_pr]; (first | done | fail))) | refine mr_aggD ?_ ?_))))
    all_goals (first | exact hn0 | rfl)
  repeat' (first | (with_reducible first | refine ok_seq ?_ | refine xs1 ?_ | refine xs2 ?_ | refine xs3 ?_ | refine xb1 ?_ | refine xb2 ?_ | refine xb3 (by decide) ?_ | refine xb4 ?_ | refine xl2 ?_ | refine xl3 ?_ | refine xc2 ?_ | refine xc3 ?_ | refine ok_block ?_ | refine ok_scope ?_ | refine ok_skip ?_ | refine ok_label ?_ | refine ok_exit ?_ | refine ok_ret ?_ | refine ok_region (fun M hM => ?_) | refine vif_t ?_ | refine vif_f ?_ | refine fin_normal ?_ | refine fin_ret ?_ | (refine hM _ ?_; clear hM M) | refine vcallW_intro (call_data (by assumption) ?_ rfl ?_) | refine vcallHW_intro (hcall_data (by assumption) rfl ?_) ?_) | ((with_reducible refine nls_q ?_) <;> (first | rfl | assumption | (simp only [znl,nls_wr,nls_pr,nls_pi,nls_pte,nls_fd,nls_u32,nl_pr]; (first | done | fail)))) | (with_reducible refine ok_cond (by (simp only [↓reduceIte,zlk,Nat.reduceEqDiff,reduceCtorEq]); exact rfl) ?_) | ((with_reducible first | refine vif_intro (fun hc => ?_) (fun hc => ?_) | refine vifW_intro (fun hc => ?_) (fun hc => ?_)) <;> (try simp (disch := omega) only [zhb] at hc) <;> (try (exfalso; omega)) <;> (try subst hc)) | (with_reducible refine cndW_intro (by omega) ?_) | (simp (config := { maxSteps := 400000 }) only [↓zvs_pre,↓reduceIte,zvs,reduceCtorEq,Nat.reduceEqDiff,Nat.reduceAdd,Nat.reduceLeDiff,Nat.reduceMul,Int.reduceBNe,Int.reduceBEq,Int.reduceEq,Int.reduceNe,Int.reduceLT,Int.reduceLE,Int.reduceGT,Int.reduceGE,Int.reduceNeg,Int.reduceToNat,Nat.reduceLT,Nat.reduceSub,tab,hz1,hz2,hz3,Try.results16,List.toList_toArray]) | (simp (disch := omega) only [ziw]))
  all_goals first
    | (exfalso; omega)
    | (simp only [zrds]; done)
    | trace_state
theorem MFit.mono {N M : Nat} {m : Mach} (h : MFit N m) (hN : N ≤ M) : MFit M m :=
  ⟨h.clock, h.quantum, h.cur, h.left, Nat.le_trans h.fr hN, fun s hs => Nat.le_trans (h.frS s hs) hN, Nat.le_trans h.pr hN, h.prR, h.next, Nat.le_trans h.init hN, Nat.le_trans h.pipes hN, fun p hp => ⟨(h.pipesR p hp).1, Nat.le_trans (h.pipesR p hp).2 hN⟩, h.newp, Nat.le_trans h.inp hN, h.told, Nat.le_trans h.bl hN, fun s hs => Nat.le_trans (h.blS s hs) hN, Nat.le_trans h.pe hN, fun w hw => ⟨(h.peS w hw).1, Nat.le_trans (h.peS w hw).2 hN⟩, h.dleft, Nat.le_trans h.dirty hN, fun w hw => ⟨(h.dirtyS w hw).1, Nat.le_trans (h.dirtyS w hw).2 hN⟩⟩
theorem nextM_or (m : Mach) : nextM m = 0 ∨ ∃ p ∈ m.pr, nextM m = p.pid := by
  unfold nextM
  split
  · exact nextF_zero_or 0 m.pr
  · exact nextF_zero_or m.cur m.pr
theorem pickM_fit {N : Nat} {m : Mach} (h : MFit N m) : MFit N (pickM m) := by
  unfold pickM
  split
  · exact h
  · split
    · have hn : i64R (nextM m) := by
        rcases nextM_or m with e | ⟨p, hp, e⟩
        · rw [e]; exact i64_of (by omega)
        · rw [e]; exact (h.prR p hp).pid
      exact ⟨h.clock, h.quantum, hn, h.quantum, h.fr, h.frS, h.pr, h.prR, h.next, h.init, h.pipes, h.pipesR, h.newp, h.inp, h.told, h.bl, h.blS, h.pe, h.peS, h.dleft, h.dirty, h.dirtyS⟩
    · exact h
end Go.Proofs.Ytlgldkjjbbbapaa.V
end
section
/-
  MACHINES, plain: whose turn it is.
-/
set_option linter.unusedVariables false
set_option linter.unusedSimpArgs false
namespace Go.Proofs.Ytlgldkjjbbbapaa.V
open Go
set_option maxRecDepth 100000
set_option maxHeartbeats 1000000
/-- the numbers of those who are ready -/
def readyL (l : List Pr) : List Int := (l.filter fun p => decide (p.st = 1)).map (·.pid)
theorem foldl_stay (a : Int) : ∀ (l : List Pr) (s : Int), s ≠ 0 → (∀ p ∈ l, s < p.pid) → l.foldl (fun s p => if p.st = 1 ∧ a < p.pid ∧ (s = 0 ∨ p.pid < s) then p.pid else s) s = s
  | [], _, _, _ => rfl
  | p :: l, s, hs, h => by
    have h1 := h p (by simp)
    rw [List.foldl_cons, if_neg (by omega)]
    exact foldl_stay a l s hs fun q hq => h q (by simp [hq])
theorem nextF_find (a : Int) (ha : 0 ≤ a) : ∀ (l : List Pr), l.Pairwise (fun p q => p.pid < q.pid) → nextF l a = ((readyL l).find? fun x => decide (a < x)).getD 0
  | [], _ => rfl
  | p :: l, h => by
    rw [List.pairwise_cons] at h
    have ih := nextF_find a ha l h.2
    unfold nextF at ih ⊢
    rw [List.foldl_cons]
    by_cases h1 : p.st = 1
    · have e : readyL (p :: l) = p.pid :: readyL l := by simp [readyL, h1]
      rw [e]
      by_cases h2 : a < p.pid
      · rw [if_pos ⟨h1, h2, .inl rfl⟩, List.find?_cons_of_pos (by simpa using h2)]
        exact foldl_stay a l _ (by omega) h.1
      · rw [if_neg (fun x => h2 x.2.1), List.find?_cons_of_neg (by simpa using h2)]
        exact ih
    · have e : readyL (p :: l) = readyL l := by simp [readyL, h1]
      rw [if_neg (fun x => h1 x.1), e]
      exact ih
theorem ready_sorted {l : List Pr} (h : l.Pairwise (fun p q => p.pid < q.pid)) : (readyL l).Pairwise (· < ·) := by
  unfold readyL
  rw [List.pairwise_map]
  exact h.filter _
theorem ready_pos {l : List Pr} (h : ∀ p ∈ l, 1 ≤ p.pid) : ∀ x ∈ readyL l, 1 ≤ x := by
  intro x hx
  obtain ⟨p, hp, rfl⟩ := List.mem_map.1 hx
  exact h p (List.mem_filter.1 hp).1
/-- in a rising row: the first one above a number -/
theorem find_at : ∀ (R : List Int), R.Pairwise (· < ·) → ∀ c, ∃ a, a ≤ R.length ∧ (R.find? fun x => decide (c < x)) = R[a]? ∧ (∀ j, j < a → R.getD j 0 ≤ c) ∧ ∀ j, a ≤ j → j < R.length → c < R.getD j 0
  | [], _, c => ⟨0, Nat.le_refl _, rfl, fun j hj => by omega, fun j _ hj => by simp at hj⟩
  | x :: R, h, c => by
    rw [List.pairwise_cons] at h
    by_cases hx : c < x
    · refine ⟨0, Nat.zero_le _, by rw [List.find?_cons_of_pos (by simpa using hx)]; rfl, fun j hj => by omega, fun j _ hj => ?_⟩
      cases j with
      | zero => exact hx
      | succ j =>
        rw [List.getD_cons_succ]
        have hj : j < R.length := by simpa using hj
        have := h.1 (R.getD j 0) (by rw [List.getD_eq_getElem?_getD, List.getElem?_eq_getElem hj]; exact List.getElem_mem _)
        omega
    · obtain ⟨a, h1, h2, h3, h4⟩ := find_at R h.2 c
      refine ⟨a + 1, by simpa using h1, by rw [List.find?_cons_of_neg (by simpa using hx), h2]; rfl, fun j hj => ?_, fun j hj hj2 => ?_⟩
      · cases j with
        | zero => rw [List.getD_cons_zero]; omega
        | succ j => rw [List.getD_cons_succ]; exact h3 j (by omega)
      · cases j with
        | zero => omega
        | succ j => rw [List.getD_cons_succ]; exact h4 j (by omega) (by simpa using hj2)
theorem sorted_lt {R : List Int} (h : R.Pairwise (· < ·)) {i j : Nat} (hij : i < j) (hj : j < R.length) : R.getD i 0 < R.getD j 0 := by
  rw [List.getD_eq_getElem?_getD, List.getD_eq_getElem?_getD, List.getElem?_eq_getElem hj, List.getElem?_eq_getElem (by omega)]
  exact List.pairwise_iff_getElem.1 h i j (by omega) hj hij
theorem sorted_inj {R : List Int} (h : R.Pairwise (· < ·)) {i j : Nat} (hi : i < R.length) (hj : j < R.length) (e : R.getD i 0 = R.getD j 0) : i = j := by
  rcases Nat.lt_trichotomy i j with h1 | h1 | h1
  · have := sorted_lt h h1 hj; omega
  · exact h1
  · have := sorted_lt h h1 hi; omega
/-- whose turn it is, if nobody has time left -/
def turnN (R : List Int) (c : Int) : Int := ((R.find? fun x => decide (c < x)).or R.head?).getD 0
theorem nextM_turn (m : Mach) (hs : m.pr.Pairwise (fun p q => p.pid < q.pid)) (hp : ∀ p ∈ m.pr, 1 ≤ p.pid) (hc : 0 ≤ m.cur) : nextM m = turnN (readyL m.pr) m.cur := by
  unfold nextM turnN
  rw [nextF_find _ hc _ hs, nextF_find 0 (by omega) _ hs]
  have hpos := ready_pos hp
  generalize readyL m.pr = R at hpos
  cases hf : R.find? fun x => decide (m.cur < x) with
  | some y =>
    have h1 := hpos y (List.mem_of_find?_eq_some hf)
    rw [if_neg (by simp only [Option.getD_some]; omega)]
    rfl
  | none =>
    rw [if_pos (by rfl)]
    cases R with
    | nil => rfl
    | cons x R => rw [List.find?_cons_of_pos (by have := hpos x (by simp); simp; omega)]; rfl
/-- the turns in a row: from the first one above on, round again -/
theorem turnN_first {R : List Int} {c : Int} {a : Nat} (hn : 0 < R.length) (ha : a ≤ R.length) (h : (R.find? fun x => decide (c < x)) = R[a]?) : turnN R c = R.getD (a % R.length) 0 := by
  unfold turnN
  rw [h]
  by_cases h1 : a < R.length
  · rw [List.getElem?_eq_getElem h1, Nat.mod_eq_of_lt h1, List.getD_eq_getElem?_getD, List.getElem?_eq_getElem h1]; rfl
  · obtain rfl : a = R.length := by omega
    rw [List.getElem?_eq_none (Nat.le_refl _), Nat.mod_self]
    cases R with
    | nil => simp at hn
    | cons x R => rfl
theorem turnN_next {R : List Int} (hs : R.Pairwise (· < ·)) {i : Nat} (hi : i < R.length) : turnN R (R.getD i 0) = R.getD ((i + 1) % R.length) 0 := by
  obtain ⟨a, h1, h2, h3, h4⟩ := find_at R hs (R.getD i 0)
  have e : a = i + 1 := by
    rcases Nat.lt_trichotomy a (i + 1) with h | h | h
    · have := h4 i (by omega) hi; omega
    · exact h
    · have h5 := h3 (i + 1) h
      have := sorted_lt hs (show i < i + 1 by omega) (by omega)
      omega
  exact turnN_first (by omega) (by omega) (by rw [h2, e])
/-- the k-th turn -/
def turnK (R : List Int) (a k : Nat) : Int := R.getD ((a + k) % R.length) 0
theorem turnK_succ {R : List Int} (hs : R.Pairwise (· < ·)) (a k : Nat) (hn : 0 < R.length) : turnN R (turnK R a k) = turnK R a (k + 1) := by
  unfold turnK
  rw [turnN_next hs (Nat.mod_lt _ hn)]
  congr 1
  rw [Nat.mod_add_mod]
  rfl
theorem turnK_inj {R : List Int} (hs : R.Pairwise (· < ·)) {a j k : Nat} (hj : j < R.length) (hk : k < R.length) (e : turnK R a j = turnK R a k) : j = k := by
  have hn : 0 < R.length := by omega
  have h1 := sorted_inj hs (Nat.mod_lt _ hn) (Nat.mod_lt _ hn) e
  rcases Nat.lt_trichotomy j k with h | h | h
  · exfalso
    have : (a + k) % R.length = (a + j) % R.length := h1.symm
    have h2 : (a + k - (a + j)) % R.length = 0 := Nat.sub_mod_eq_zero_of_mod_eq this
    rw [show a + k - (a + j) = k - j by omega, Nat.mod_eq_of_lt (by omega)] at h2
    omega
  · exact h
  · exfalso
    have h2 : (a + j - (a + k)) % R.length = 0 := Nat.sub_mod_eq_zero_of_mod_eq h1
    rw [show a + j - (a + k) = j - k by omega, Nat.mod_eq_of_lt (by omega)] at h2
    omega
theorem turnK_mem {R : List Int} (a k : Nat) (hn : 0 < R.length) : turnK R a k ∈ R := by
  unfold turnK
  have := Nat.mod_lt (a + k) hn
  rw [List.getD_eq_getElem?_getD, List.getElem?_eq_getElem this]
  exact List.getElem_mem _
/-- everybody has a turn -/
theorem turnK_all {R : List Int} {a : Nat} (ha : a ≤ R.length) {x : Int} (hx : x ∈ R) : ∃ k, k < R.length ∧ turnK R a k = x := by
  obtain ⟨i, hi, rfl⟩ := List.mem_iff_getElem.1 hx
  by_cases h : a ≤ i
  · refine ⟨i - a, by omega, ?_⟩
    unfold turnK
    rw [show a + (i - a) = i by omega, Nat.mod_eq_of_lt hi, List.getD_eq_getElem?_getD, List.getElem?_eq_getElem hi]; rfl
  · refine ⟨R.length + i - a, by omega, ?_⟩
    unfold turnK
    rw [show a + (R.length + i - a) = i + R.length by omega, Nat.add_mod_right, Nat.mod_eq_of_lt hi, List.getD_eq_getElem?_getD, List.getElem?_eq_getElem hi]; rfl
/-- round again once at most -/
theorem turnK_round {R : List Int} (hs : R.Pairwise (· < ·)) {a k : Nat} (ha : a ≤ R.length) (hk : k + 1 < R.length) : turnK R a (k + 1) ≤ turnK R a k ↔ a + (k + 1) = R.length := by
  unfold turnK
  by_cases h1 : a + (k + 1) < R.length
  · rw [Nat.mod_eq_of_lt h1, Nat.mod_eq_of_lt (by omega)]
    have := sorted_lt hs (show a + k < a + (k + 1) by omega) h1
    omega
  · by_cases h2 : a + (k + 1) = R.length
    · rw [h2, Nat.mod_self, Nat.mod_eq_of_lt (by omega)]
      have := sorted_lt hs (show 0 < a + k by omega) (by omega)
      omega
    · rw [Nat.mod_eq_sub_mod (by omega), Nat.mod_eq_of_lt (by omega), Nat.mod_eq_sub_mod (show a + k ≥ R.length by omega), Nat.mod_eq_of_lt (by omega)]
      have := sorted_lt hs (show a + k - R.length < a + (k + 1) - R.length by omega) (by omega)
      omega
theorem turnK_zero {R : List Int} {a : Nat} {c : Int} (hn : 0 < R.length) (ha : a ≤ R.length) (hs : R.Pairwise (· < ·)) (h1 : ∀ j, j < a → R.getD j 0 ≤ c) (h2 : ∀ j, a ≤ j → j < R.length → c < R.getD j 0) : turnK R a 0 ≤ c ↔ a + 0 = R.length := by
  unfold turnK
  by_cases h : a < R.length
  · rw [Nat.add_zero, Nat.mod_eq_of_lt h]
    have := h2 a (Nat.le_refl _) h
    omega
  · obtain rfl : a = R.length := by omega
    rw [Nat.add_zero, Nat.mod_self]
    have := h1 0 hn
    omega
end Go.Proofs.Ytlgldkjjbbbapaa.V
end
section
/-
  MACHINES, part 23: the law SchedTurns.
-/
set_option linter.unusedVariables false
set_option linter.unusedSimpArgs false
namespace Go.Proofs.Ytlgldkjjbbbapaa.V
open Go
set_option maxRecDepth 100000
-- nlx: nls_wr, nls_pr, nls_pi, nls_pte, nls_fd, nls_u32, nl_pr, nls_metL
set_option maxHeartbeats 4000000
/-- a map: each of these was met once -/
def metL (L : List Int) : List (VV × VV) := L.map fun x => (.int .i64 x, .int .i64 1)
theorem mget_metL (x : Int) : ∀ L : List Int, mget (metL L) (.int .i64 x) = if x ∈ L then some (.int .i64 1) else none
  | [] => rfl
  | y :: L => by
    have e : metL (y :: L) = (.int .i64 y, .int .i64 1) :: metL L := rfl
    rw [e]
    simp only [mget,keq,beq_iff_eq,mget_metL x L,List.mem_cons]
    by_cases h : x = y
    · rw [if_pos h, if_pos (.inl h)]
    · by_cases h2 : x ∈ L
      · rw [if_neg h, if_pos h2, if_pos (.inr h2)]
      · rw [if_neg h, if_neg h2, if_neg (by simp [h, h2])]
theorem mput_metL (x : Int) : ∀ L : List Int, x ∉ L → mput (metL L) (.int .i64 x) (.int .i64 1) = metL (L ++ [x])
  | [], _ => rfl
  | y :: L, h => by
    have e : metL (y :: L) = (.int .i64 y, .int .i64 1) :: metL L := rfl
    have h1 : x ≠ y := fun e => h (by simp [e])
    rw [e]
    simp only [mput,keq,beq_iff_eq]
    rw [if_neg h1, mput_metL x L fun hx => h (by simp [hx])]
    rfl
theorem keys_metL (L : List Int) : ((metL L).all fun q => keyV (.int .i64) q.1) = true := by
  rw [List.all_eq_true]
  intro q hq
  obtain ⟨x, _, rfl⟩ := List.mem_map.1 hq
  simp [keyV]
theorem nls_metL (L : List Int) : ((metL L).all fun q => nl q.1 && nl q.2) = true := by
  rw [List.all_eq_true]
  intro q hq
  obtain ⟨x, _, rfl⟩ := List.mem_map.1 hq
  simp [nl]
theorem look_in {x : Int} {L : List Int} (h : x ∈ L) : (mget (metL L) (.int .i64 x)).getD (.int .i64 0) = .int .i64 1 := by
  rw [mget_metL, if_pos h]; rfl
theorem look_out {x : Int} {L : List Int} (h : x ∉ L) : (mget (metL L) (.int .i64 x)).getD (.int .i64 0) = .int .i64 0 := by
  rw [mget_metL, if_neg h]; rfl
abbrev encX (m : Mach) (c l : Int) : VV := .agg [.int .u64 m.clock, .int .i64 m.quantum, .int .i64 c, .int .i64 l, encStrs m.fr, encPrs m.pr, .int .i64 m.next, .str m.init, encPis m.pipes, .int .i64 m.newp, .str m.inp, .bool m.fin, .int .u64 m.told, encDr m.dr, encWrs m.dirty]
def withM (m : Mach) (c l : Int) : Mach := { m with cur := c, left := l }
theorem enc_withM (m : Mach) (c l : Int) : encM (withM m c l) = encX m c l := rfl
theorem withM_fit {N : Nat} {m : Mach} (h : MFit N m) {c l : Int} (hc : i64R c) (hl : i64R l) : MFit N (withM m c l) :=
  ⟨h.clock, h.quantum, hc, hl, h.fr, h.frS, h.pr, h.prR, h.next, h.init, h.pipes, h.pipesR, h.newp, h.inp, h.told, h.bl, h.blS, h.pe, h.peS, h.dleft, h.dirty, h.dirtyS⟩
theorem withM_pid {m : Mach} (h : PidOk m) {c l : Int} (hc : 0 ≤ c) : PidOk (withM m c l) := ⟨h.pos, h.inc, hc⟩
/-- whose turn was the last, of the first k -/
def curK (m : Mach) (a : Nat) : Nat → Int
  | 0 => m.cur
  | k + 1 => turnK (readyL m.pr) a k
def leftK (m : Mach) : Nat → Int
  | 0 => m.left
  | _ + 1 => m.quantum
theorem ready_len (l : List Pr) (k : Nat) (hk : k < l.length) : (readyL (l.take (k + 1))).length = (readyL (l.take k)).length + if (l.getD k default).st = 1 then 1 else 0 := by
  rw [take_snoc l k hk]
  unfold readyL
  rw [List.filter_append, List.map_append, List.length_append]
  congr 1
  by_cases h : (l.getD k default).st = 1
  · rw [List.filter_cons_of_pos (by simpa using h), if_pos h]; rfl
  · rw [List.filter_cons_of_neg (by simpa using h), if_neg h]; rfl
theorem mem_ready {m : Mach} (h : PidOk m) {k : Nat} (hk : k < m.pr.length) : (m.pr.getD k default).pid ∈ readyL m.pr ↔ (m.pr.getD k default).st = 1 := by
  unfold readyL
  rw [List.mem_map]
  constructor
  · rintro ⟨q, hq, e⟩
    obtain ⟨hq1, hq2⟩ := List.mem_filter.1 hq
    obtain ⟨j, hj, rfl⟩ := List.mem_iff_getElem.1 hq1
    have e2 : m.pr[j] = m.pr.getD j default := by rw [List.getD_eq_getElem?_getD, List.getElem?_eq_getElem hj]; rfl
    rw [e2] at e hq2
    obtain rfl := inc_inj h hj hk e
    simpa using hq2
  · intro hs
    exact ⟨_, List.mem_filter.2 ⟨getD_mem' hk, by simpa using hs⟩, rfl⟩
theorem turns_law (x0 : MachD) (g0 : good machT x0) (l0 : Ty.lite machT x0) : Spec Try.prog 4 [toV machT x0] (.bool true) := by
  have hm := mach_good x0 g0 l0
  rw [toV_mach]
  generalize mMach x0 = m at hm
  clear g0 l0 x0
  have hG := great27_spec m hm
  have hF := fixed27_spec
  cases hs : sadB m with
  | true =>
    rw [hs] at hG
    refine spec_ok Try.func4 rfl rfl (by kernel_rfl) (k := 1) rfl (by decide) ?_
    repeat' (first | (with_reducible first | refine ok_seq ?_ | refine xs1 ?_ | refine xs2 ?_ | refine xs3 ?_ | refine xb1 ?_ | refine xb2 ?_ | refine xb3 (by decide) ?_ | refine xb4 ?_ | refine xl2 ?_ | refine xl3 ?_ | refine xc2 ?_ | refine xc3 ?_ | refine ok_block ?_ | refine ok_scope ?_ | refine ok_skip ?_ | refine ok_label ?_ | refine ok_exit ?_ | refine ok_ret ?_ | refine ok_region (fun M hM => ?_) | refine vif_t ?_ | refine vif_f ?_ | refine fin_normal ?_ | refine fin_ret ?_ | (refine hM _ ?_; clear hM M) | refine vcallW_intro (call_data (by assumption) ?_ rfl ?_) | refine vcallHW_intro (hcall_data (by assumption) rfl ?_) ?_) | ((with_reducible refine nls_q ?_) <;> (first | rfl | assumption | (simp only [znl,nls_wr,nls_pr,nls_pi,nls_pte,nls_fd,nls_u32,nl_pr,nls_metL]; (first | done | fail)))) | (with_reducible refine ok_cond (by (simp only [↓reduceIte,zlk,Nat.reduceEqDiff,reduceCtorEq]); exact rfl) ?_) | ((with_reducible first | refine vif_intro (fun hc => ?_) (fun hc => ?_) | refine vifW_intro (fun hc => ?_) (fun hc => ?_)) <;> (try simp (disch := omega) only [zhb] at hc) <;> (try (exfalso; omega)) <;> (try subst hc)) | (with_reducible refine cndW_intro (by omega) ?_) | (simp (config := { maxSteps := 400000 }) only [↓zvs_pre,↓reduceIte,zvs,reduceCtorEq,Nat.reduceEqDiff,Nat.reduceAdd,Nat.reduceLeDiff,Nat.reduceMul,Int.reduceBNe,Int.reduceBEq,Int.reduceEq,Int.reduceNe,Int.reduceLT,Int.reduceLE,Int.reduceGT,Int.reduceGE,Int.reduceNeg,Int.reduceToNat,Nat.reduceLT,Nat.reduceSub,tab,Try.results4,List.toList_toArray]) | (simp (disch := omega) only [ziw]))
    all_goals first
      | (exfalso; omega)
      | (simp only [zrds]; done)
      | (simp only [zrds]; rfl)
      | trace_state
  | false =>
    rw [hs] at hG
    unfold sadB at hs
    simp only [Bool.or_eq_false_iff,decide_eq_false_iff_not,ne_eq,Decidable.not_not] at hs
    have hfit := (hm.small hs.1).1
    have hO := chk_pids hs.2
    have hl8 := (chk_parts hs.2).2.2.2.1
    have hpR := hfit.prR
    clear hm hs
    obtain ⟨R, hR⟩ : ∃ R, R = readyL m.pr := ⟨_, rfl⟩
    have hRs := ready_sorted hO.inc
    have hRp := ready_pos hO.pos
    rw [← hR] at hRs hRp
    obtain ⟨a, ha1, ha2, ha3, ha4⟩ := find_at R hRs m.cur
    have hRi : ∀ x ∈ R, i64R x := fun x hx => by
      rw [hR] at hx
      obtain ⟨p, hp, rfl⟩ := List.mem_map.1 hx
      exact (hpR p (List.mem_filter.1 hp).1).pid
    have hRl : R.length ≤ 8 := by
      rw [hR]; unfold readyL
      rw [List.length_map]
      exact Nat.le_trans (List.length_filter_le _ _) hl8
    have hcurR : ∀ k, k ≤ R.length → i64R (curK m a k) ∧ 0 ≤ curK m a k := fun k hk => by
      cases k with
      | zero => exact ⟨hfit.cur, hO.cur⟩
      | succ k =>
        have hx := turnK_mem (R := R) a k (by omega)
        have e : curK m a (k + 1) = turnK R a k := by rw [hR]; rfl
        rw [e]
        have := hRp _ hx
        exact ⟨hRi _ hx, by omega⟩
    have hcurS : ∀ k, curK m a (k + 1) = turnK R a k := fun k => by rw [hR]; rfl
    have hpick : ∀ k, k < R.length → Spec Try.prog 18 [encX m (curK m a k) 0] (encX m (curK m a (k + 1)) m.quantum) := fun k hk => by
      obtain ⟨h1, h2⟩ := hcurR k (by omega)
      have hw := withM_fit hfit (c := curK m a k) (l := 0) h1 ⟨by omega, by omega⟩
      have hwO := withM_pid hO (c := curK m a k) (l := 0) h2
      have hP := pick_spec _ hw hwO
      have e1 : nextM (withM m (curK m a k) 0) = curK m a (k + 1) := by
        rw [nextM_turn _ hwO.inc hwO.pos h2, hcurS]
        show turnN (readyL m.pr) (curK m a k) = _
        rw [← hR]
        cases k with
        | zero =>
          show turnN R m.cur = _
          rw [turnN_first (by omega) ha1 ha2]
          rfl
        | succ k =>
          rw [hcurS]
          exact turnK_succ hRs a k (by omega)
      have e2 : pickM (withM m (curK m a k) 0) = withM m (curK m a (k + 1)) m.quantum := by
        rw [pickM_turn (fun j hj h => by have : (0 : Int) < (0 : Int) := h.2.2; omega), e1, if_pos]
        · rfl
        · rw [hcurS]
          have := hRp _ (turnK_mem (R := R) a k (by omega))
          omega
      rw [e2] at hP
      exact hP
    have hround : ∀ k, k < R.length → (curK m a (k + 1) ≤ curK m a k ↔ a + k = R.length) := fun k hk => by
      rw [hcurS]
      cases k with
      | zero => exact turnK_zero (by omega) ha1 hRs ha3 ha4
      | succ k =>
        rw [hcurS]
        exact turnK_round hRs ha1 hk
    have hnew : ∀ k, k < R.length → curK m a (k + 1) ∉ (List.range k).map (turnK R a) := fun k hk h => by
      obtain ⟨j, hj, e⟩ := List.mem_map.1 h
      have hj := List.mem_range.1 hj
      rw [hcurS] at e
      have := turnK_inj hRs (show j < R.length by omega) hk e
      omega
    have hsucc : ∀ k, (List.range (k + 1)).map (turnK R a) = (List.range k).map (turnK R a) ++ [curK m a (k + 1)] := fun k => by
      rw [List.range_succ, List.map_append, hcurS]; rfl
    refine spec_ok Try.func4 rfl rfl (by kernel_rfl) (k := 1) rfl (by decide) ?_
    repeat' (first | (with_reducible first | refine ok_seq ?_ | refine xs1 ?_ | refine xs2 ?_ | refine xs3 ?_ | refine xb1 ?_ | refine xb2 ?_ | refine xb3 (by decide) ?_ | refine xb4 ?_ | refine xl2 ?_ | refine xl3 ?_ | refine xc2 ?_ | refine xc3 ?_ | refine ok_block ?_ | refine ok_scope ?_ | refine ok_skip ?_ | refine ok_label ?_ | refine ok_exit ?_ | refine ok_ret ?_ | refine ok_region (fun M hM => ?_) | refine vif_t ?_ | refine vif_f ?_ | refine fin_normal ?_ | refine fin_ret ?_ | (refine hM _ ?_; clear hM M) | refine vcallW_intro (call_data (by assumption) ?_ rfl ?_) | refine vcallHW_intro (hcall_data (by assumption) rfl ?_) ?_) | ((with_reducible refine nls_q ?_) <;> (first | rfl | assumption | (simp only [znl,nls_wr,nls_pr,nls_pi,nls_pte,nls_fd,nls_u32,nl_pr,nls_metL]; (first | done | fail)))) | (with_reducible refine ok_cond (by (simp only [↓reduceIte,zlk,Nat.reduceEqDiff,reduceCtorEq]); exact rfl) ?_) | ((with_reducible first | refine vif_intro (fun hc => ?_) (fun hc => ?_) | refine vifW_intro (fun hc => ?_) (fun hc => ?_)) <;> (try simp (disch := omega) only [zhb] at hc) <;> (try (exfalso; omega)) <;> (try subst hc)) | (with_reducible refine cndW_intro (by omega) ?_) | (simp (config := { maxSteps := 400000 }) only [↓zvs_pre,↓reduceIte,zvs,reduceCtorEq,Nat.reduceEqDiff,Nat.reduceAdd,Nat.reduceLeDiff,Nat.reduceMul,Int.reduceBNe,Int.reduceBEq,Int.reduceEq,Int.reduceNe,Int.reduceLT,Int.reduceLE,Int.reduceGT,Int.reduceGE,Int.reduceNeg,Int.reduceToNat,Nat.reduceLT,Nat.reduceSub,tab,Try.results4,List.toList_toArray]) | (simp (disch := omega) only [ziw]))
    refine ok_loop (fun k : Nat => ⟨slots [(1, .ptr 0 []), (3, .int .i64 (readyL (m.pr.take k)).length), (16, encPrs m.pr), (17, .int .i64 m.pr.length), (18, .int .i64 k)], rows [(0, .row machSh (encM m))], 1⟩) (fun k => k ≤ m.pr.length) (fun k => m.pr.length - k) 0 ?_ (Nat.zero_le _) (fun k hk => ?_)
    · (refine Ren.mk [(0, 0)] false (by first | (intro h; cases h; done) | exact fun _ => rfl) (by first | decide | rfl | (simp [turnOk]; done)) (by decide) ?_ ?_ <;> (repeat' (first | (with_reducible first | refine mr_int (by first | rfl | omega) | refine mr_str rfl | refine mr_bool rfl | refine mr_dat rfl (by first | rfl | assumption | (simp only [znl,nls_wr,nls_pr,nls_pi,nls_pte,nls_fd,nls_u32,nl_pr,nls_metL]; (first | done | fail))) | refine mr_sl ?_ ?_ (by first | rfl | omega) | refine MR.ptr ?_ ?_ | refine mr_raw | refine mr_slnil | refine mr_empty ?_ | refine mr_row rfl (by (simp only [↓reduceIte,zlk,Nat.reduceEqDiff,reduceCtorEq]); exact rfl) ?_ ?_ ?_ (by decide) | refine mr_aggD rfl (by first | rfl | assumption | (simp only [znl,nls_wr,nls_pr,nls_pi,nls_pte,nls_fd,nls_u32,nl_pr,nls_metL]; (first | done | fail))) | refine MR.agg (MRL.cons ?_ ?_) | refine mr_aggD ?_ (by first | rfl | assumption | (simp only [znl,nls_wr,nls_pr,nls_pi,nls_pte,nls_fd,nls_u32,nl_pr,nls_metL]; (first | done | fail))) | refine MR.fn ?_ | refine MRL.cons ?_ ?_ | refine MRL.nil | refine alls_cons ?_ ?_ | refine alls_nil | refine allb_nil | refine allb_cons ?_ (by (simp only [↓reduceIte,zlk,Nat.reduceEqDiff,reduceCtorEq]); exact rfl) ?_ ?_ | refine MB.row ?_ | refine mb_arr ?_ ?_ | refine MR.map ?_ ?_ | refine mb_map rfl (by first | rfl | assumption | (simp only [znl,nls_wr,nls_pr,nls_pi,nls_pte,nls_fd,nls_u32,nl_pr,nls_metL]; (first | done | fail))) | rfl) | (simp only [znl,nls_wr,nls_pr,nls_pi,nls_pte,nls_fd,nls_u32,nl_pr,nls_metL]; (first | done | fail)) | (refine allb_ghost rfl ?_) | exact known_in rfl | exact known_lt rfl | ((with_reducible refine turn_ok ?_) <;> rfl) | (simp only [↓reduceIte,zlk,Nat.reduceEqDiff,reduceCtorEq]) | (with_reducible first | refine mb_map ?_ ?_ | refine mr_sl ?_ ?_ ?_ | refine mr_int ?_ | refine mr_str ?_ | refine mr_bool ?_ | refine mr_dat ?_ (by first | rfl | assumption | (simp only [znl,nls_wr,nls_pr,nls_pi,nls_pte,nls_fd,nls_u32,nl_pr,nls_metL]; (first | done | fail))) | refine mr_aggD ?_ ?_))))
      all_goals (first | rfl | trace_state)
    by_cases hlt : k < m.pr.length
    · have hb := hpR _ (getD_mem' hlt)
      obtain ⟨hS1, hS2, hS3⟩ := pr3 hb
      have e1 := ready_len m.pr k hlt
      have e2 : (readyL (m.pr.take k)).length ≤ k := by
        unfold readyL
        rw [List.length_map]
        refine Nat.le_trans (List.length_filter_le _ _) ?_
        rw [List.length_take]; omega
      by_cases hq : (m.pr.getD k default).st = 1
      · rw [if_pos hq] at e1
        repeat' (first | (with_reducible first | refine ok_seq ?_ | refine xs1 ?_ | refine xs2 ?_ | refine xs3 ?_ | refine xb1 ?_ | refine xb2 ?_ | refine xb3 (by decide) ?_ | refine xb4 ?_ | refine xl2 ?_ | refine xl3 ?_ | refine xc2 ?_ | refine xc3 ?_ | refine ok_block ?_ | refine ok_scope ?_ | refine ok_skip ?_ | refine ok_label ?_ | refine ok_exit ?_ | refine ok_ret ?_ | refine ok_region (fun M hM => ?_) | refine vif_t ?_ | refine vif_f ?_ | refine fin_normal ?_ | refine fin_ret ?_ | (refine hM _ ?_; clear hM M) | refine vcallW_intro (call_data (by assumption) ?_ rfl ?_) | refine vcallHW_intro (hcall_data (by assumption) rfl ?_) ?_) | ((with_reducible refine nls_q ?_) <;> (first | rfl | assumption | (simp only [znl,nls_wr,nls_pr,nls_pi,nls_pte,nls_fd,nls_u32,nl_pr,nls_metL]; (first | done | fail)))) | (with_reducible refine ok_cond (by (simp only [↓reduceIte,zlk,Nat.reduceEqDiff,reduceCtorEq]); exact rfl) ?_) | ((with_reducible first | refine vif_intro (fun hc => ?_) (fun hc => ?_) | refine vifW_intro (fun hc => ?_) (fun hc => ?_)) <;> (try simp (disch := omega) only [zhb] at hc) <;> (try (exfalso; omega)) <;> (try subst hc)) | (with_reducible refine cndW_intro (by omega) ?_) | (simp (config := { maxSteps := 400000 }) only [↓zvs_pre,↓reduceIte,zvs,reduceCtorEq,Nat.reduceEqDiff,Nat.reduceAdd,Nat.reduceLeDiff,Nat.reduceMul,Int.reduceBNe,Int.reduceBEq,Int.reduceEq,Int.reduceNe,Int.reduceLT,Int.reduceLE,Int.reduceGT,Int.reduceGE,Int.reduceNeg,Int.reduceToNat,Nat.reduceLT,Nat.reduceSub,tab,hS1,hS2,hS3,encPr,Try.results4,List.toList_toArray]) | (simp (disch := omega) only [ziw]))
        all_goals first
          | (exfalso; omega)
          | (refine xl1 (k + 1) ?_ (by show k + 1 ≤ m.pr.length; omega) (by show m.pr.length - (k + 1) < m.pr.length - k; omega); (refine Ren.mk [(0, 0)] false (by first | (intro h; cases h; done) | exact fun _ => rfl) (by first | decide | rfl | (simp [turnOk]; done)) (by decide) ?_ ?_ <;> (repeat' (first | (with_reducible first | refine mr_int (by first | rfl | omega) | refine mr_str rfl | refine mr_bool rfl | refine mr_dat rfl (by first | rfl | assumption | (simp only [znl,nls_wr,nls_pr,nls_pi,nls_pte,nls_fd,nls_u32,nl_pr,nls_metL]; (first | done | fail))) | refine mr_sl ?_ ?_ (by first | rfl | omega) | refine MR.ptr ?_ ?_ | refine mr_raw | refine mr_slnil | refine mr_empty ?_ | refine mr_row rfl (by (simp only [↓reduceIte,zlk,Nat.reduceEqDiff,reduceCtorEq]); exact rfl) ?_ ?_ ?_ (by decide) | refine mr_aggD rfl (by first | rfl | assumption | (simp only [znl,nls_wr,nls_pr,nls_pi,nls_pte,nls_fd,nls_u32,nl_pr,nls_metL]; (first | done | fail))) | refine MR.agg (MRL.cons ?_ ?_) | refine mr_aggD ?_ (by first | rfl | assumption | (simp only [znl,nls_wr,nls_pr,nls_pi,nls_pte,nls_fd,nls_u32,nl_pr,nls_metL]; (first | done | fail))) | refine MR.fn ?_ | refine MRL.cons ?_ ?_ | refine MRL.nil | refine alls_cons ?_ ?_ | refine alls_nil | refine allb_nil | refine allb_cons ?_ (by (simp only [↓reduceIte,zlk,Nat.reduceEqDiff,reduceCtorEq]); exact rfl) ?_ ?_ | refine MB.row ?_ | refine mb_arr ?_ ?_ | refine MR.map ?_ ?_ | refine mb_map rfl (by first | rfl | assumption | (simp only [znl,nls_wr,nls_pr,nls_pi,nls_pte,nls_fd,nls_u32,nl_pr,nls_metL]; (first | done | fail))) | rfl) | (simp only [znl,nls_wr,nls_pr,nls_pi,nls_pte,nls_fd,nls_u32,nl_pr,nls_metL]; (first | done | fail)) | (refine allb_ghost rfl ?_) | exact known_in rfl | exact known_lt rfl | ((with_reducible refine turn_ok ?_) <;> rfl) | (simp only [↓reduceIte,zlk,Nat.reduceEqDiff,reduceCtorEq]) | (with_reducible first | refine mb_map ?_ ?_ | refine mr_sl ?_ ?_ ?_ | refine mr_int ?_ | refine mr_str ?_ | refine mr_bool ?_ | refine mr_dat ?_ (by first | rfl | assumption | (simp only [znl,nls_wr,nls_pr,nls_pi,nls_pte,nls_fd,nls_u32,nl_pr,nls_metL]; (first | done | fail))) | refine mr_aggD ?_ ?_)))); all_goals omega)
          | trace_state
      · rw [if_neg hq] at e1
        repeat' (first | (with_reducible first | refine ok_seq ?_ | refine xs1 ?_ | refine xs2 ?_ | refine xs3 ?_ | refine xb1 ?_ | refine xb2 ?_ | refine xb3 (by decide) ?_ | refine xb4 ?_ | refine xl2 ?_ | refine xl3 ?_ | refine xc2 ?_ | refine xc3 ?_ | refine ok_block ?_ | refine ok_scope ?_ | refine ok_skip ?_ | refine ok_label ?_ | refine ok_exit ?_ | refine ok_ret ?_ | refine ok_region (fun M hM => ?_) | refine vif_t ?_ | refine vif_f ?_ | refine fin_normal ?_ | refine fin_ret ?_ | (refine hM _ ?_; clear hM M) | refine vcallW_intro (call_data (by assumption) ?_ rfl ?_) | refine vcallHW_intro (hcall_data (by assumption) rfl ?_) ?_) | ((with_reducible refine nls_q ?_) <;> (first | rfl | assumption | (simp only [znl,nls_wr,nls_pr,nls_pi,nls_pte,nls_fd,nls_u32,nl_pr,nls_metL]; (first | done | fail)))) | (with_reducible refine ok_cond (by (simp only [↓reduceIte,zlk,Nat.reduceEqDiff,reduceCtorEq]); exact rfl) ?_) | ((with_reducible first | refine vif_intro (fun hc => ?_) (fun hc => ?_) | refine vifW_intro (fun hc => ?_) (fun hc => ?_)) <;> (try simp (disch := omega) only [zhb] at hc) <;> (try (exfalso; omega)) <;> (try subst hc)) | (with_reducible refine cndW_intro (by omega) ?_) | (simp (config := { maxSteps := 400000 }) only [↓zvs_pre,↓reduceIte,zvs,reduceCtorEq,Nat.reduceEqDiff,Nat.reduceAdd,Nat.reduceLeDiff,Nat.reduceMul,Int.reduceBNe,Int.reduceBEq,Int.reduceEq,Int.reduceNe,Int.reduceLT,Int.reduceLE,Int.reduceGT,Int.reduceGE,Int.reduceNeg,Int.reduceToNat,Nat.reduceLT,Nat.reduceSub,tab,hS1,hS2,hS3,encPr,Try.results4,List.toList_toArray]) | (simp (disch := omega) only [ziw]))
        all_goals first
          | (exfalso; omega)
          | (refine xl1 (k + 1) ?_ (by show k + 1 ≤ m.pr.length; omega) (by show m.pr.length - (k + 1) < m.pr.length - k; omega); (refine Ren.mk [(0, 0)] false (by first | (intro h; cases h; done) | exact fun _ => rfl) (by first | decide | rfl | (simp [turnOk]; done)) (by decide) ?_ ?_ <;> (repeat' (first | (with_reducible first | refine mr_int (by first | rfl | omega) | refine mr_str rfl | refine mr_bool rfl | refine mr_dat rfl (by first | rfl | assumption | (simp only [znl,nls_wr,nls_pr,nls_pi,nls_pte,nls_fd,nls_u32,nl_pr,nls_metL]; (first | done | fail))) | refine mr_sl ?_ ?_ (by first | rfl | omega) | refine MR.ptr ?_ ?_ | refine mr_raw | refine mr_slnil | refine mr_empty ?_ | refine mr_row rfl (by (simp only [↓reduceIte,zlk,Nat.reduceEqDiff,reduceCtorEq]); exact rfl) ?_ ?_ ?_ (by decide) | refine mr_aggD rfl (by first | rfl | assumption | (simp only [znl,nls_wr,nls_pr,nls_pi,nls_pte,nls_fd,nls_u32,nl_pr,nls_metL]; (first | done | fail))) | refine MR.agg (MRL.cons ?_ ?_) | refine mr_aggD ?_ (by first | rfl | assumption | (simp only [znl,nls_wr,nls_pr,nls_pi,nls_pte,nls_fd,nls_u32,nl_pr,nls_metL]; (first | done | fail))) | refine MR.fn ?_ | refine MRL.cons ?_ ?_ | refine MRL.nil | refine alls_cons ?_ ?_ | refine alls_nil | refine allb_nil | refine allb_cons ?_ (by (simp only [↓reduceIte,zlk,Nat.reduceEqDiff,reduceCtorEq]); exact rfl) ?_ ?_ | refine MB.row ?_ | refine mb_arr ?_ ?_ | refine MR.map ?_ ?_ | refine mb_map rfl (by first | rfl | assumption | (simp only [znl,nls_wr,nls_pr,nls_pi,nls_pte,nls_fd,nls_u32,nl_pr,nls_metL]; (first | done | fail))) | rfl) | (simp only [znl,nls_wr,nls_pr,nls_pi,nls_pte,nls_fd,nls_u32,nl_pr,nls_metL]; (first | done | fail)) | (refine allb_ghost rfl ?_) | exact known_in rfl | exact known_lt rfl | ((with_reducible refine turn_ok ?_) <;> rfl) | (simp only [↓reduceIte,zlk,Nat.reduceEqDiff,reduceCtorEq]) | (with_reducible first | refine mb_map ?_ ?_ | refine mr_sl ?_ ?_ ?_ | refine mr_int ?_ | refine mr_str ?_ | refine mr_bool ?_ | refine mr_dat ?_ (by first | rfl | assumption | (simp only [znl,nls_wr,nls_pr,nls_pi,nls_pte,nls_fd,nls_u32,nl_pr,nls_metL]; (first | done | fail))) | refine mr_aggD ?_ ?_)))); all_goals omega)
          | trace_state
    · obtain rfl : k = m.pr.length := by omega
      have et : m.pr.take m.pr.length = m.pr := List.take_length
      rw [et, ← hR]
      repeat' (first | (with_reducible first | refine ok_seq ?_ | refine xs1 ?_ | refine xs2 ?_ | refine xs3 ?_ | refine xb1 ?_ | refine xb2 ?_ | refine xb3 (by decide) ?_ | refine xb4 ?_ | refine xl2 ?_ | refine xl3 ?_ | refine xc2 ?_ | refine xc3 ?_ | refine ok_block ?_ | refine ok_scope ?_ | refine ok_skip ?_ | refine ok_label ?_ | refine ok_exit ?_ | refine ok_ret ?_ | refine ok_region (fun M hM => ?_) | refine vif_t ?_ | refine vif_f ?_ | refine fin_normal ?_ | refine fin_ret ?_ | (refine hM _ ?_; clear hM M) | refine vcallW_intro (call_data (by assumption) ?_ rfl ?_) | refine vcallHW_intro (hcall_data (by assumption) rfl ?_) ?_) | ((with_reducible refine nls_q ?_) <;> (first | rfl | assumption | (simp only [znl,nls_wr,nls_pr,nls_pi,nls_pte,nls_fd,nls_u32,nl_pr,nls_metL]; (first | done | fail)))) | (with_reducible refine ok_cond (by (simp only [↓reduceIte,zlk,Nat.reduceEqDiff,reduceCtorEq]); exact rfl) ?_) | ((with_reducible first | refine vif_intro (fun hc => ?_) (fun hc => ?_) | refine vifW_intro (fun hc => ?_) (fun hc => ?_)) <;> (try simp (disch := omega) only [zhb] at hc) <;> (try (exfalso; omega)) <;> (try subst hc)) | (with_reducible refine cndW_intro (by omega) ?_) | (simp (config := { maxSteps := 400000 }) only [↓zvs_pre,↓reduceIte,zvs,reduceCtorEq,Nat.reduceEqDiff,Nat.reduceAdd,Nat.reduceLeDiff,Nat.reduceMul,Int.reduceBNe,Int.reduceBEq,Int.reduceEq,Int.reduceNe,Int.reduceLT,Int.reduceLE,Int.reduceGT,Int.reduceGE,Int.reduceNeg,Int.reduceToNat,Nat.reduceLT,Nat.reduceSub,tab,Try.results4,List.toList_toArray]) | (simp (disch := omega) only [ziw]))
      refine ok_drawF 7 [0, 1, 2, 5, 6, 3] 4 5 322 (by kernel_rfl) (by decide +kernel) (by decide) (by decide) (by intro m hm; simp only [upd_ap,rows_cons,rows_nil]; (repeat (first | rfl | rw [if_neg (by omega)]))) (fun M hM => ?_); simp only [picks,List.getElem?_cons_succ,List.getElem?_cons_zero,List.drop_succ_cons,List.drop_zero]
      repeat' (first | (with_reducible first | refine ok_seq ?_ | refine xs1 ?_ | refine xs2 ?_ | refine xs3 ?_ | refine xb1 ?_ | refine xb2 ?_ | refine xb3 (by decide) ?_ | refine xb4 ?_ | refine xl2 ?_ | refine xl3 ?_ | refine xc2 ?_ | refine xc3 ?_ | refine ok_block ?_ | refine ok_scope ?_ | refine ok_skip ?_ | refine ok_label ?_ | refine ok_exit ?_ | refine ok_ret ?_ | refine ok_region (fun M hM => ?_) | refine vif_t ?_ | refine vif_f ?_ | refine fin_normal ?_ | refine fin_ret ?_ | (refine hM _ ?_; clear hM M) | refine vcallW_intro (call_data (by assumption) ?_ rfl ?_) | refine vcallHW_intro (hcall_data (by assumption) rfl ?_) ?_) | ((with_reducible refine nls_q ?_) <;> (first | rfl | assumption | (simp only [znl,nls_wr,nls_pr,nls_pi,nls_pte,nls_fd,nls_u32,nl_pr,nls_metL]; (first | done | fail)))) | (with_reducible refine ok_cond (by (simp only [↓reduceIte,zlk,Nat.reduceEqDiff,reduceCtorEq]); exact rfl) ?_) | ((with_reducible first | refine vif_intro (fun hc => ?_) (fun hc => ?_) | refine vifW_intro (fun hc => ?_) (fun hc => ?_)) <;> (try simp (disch := omega) only [zhb] at hc) <;> (try (exfalso; omega)) <;> (try subst hc)) | (with_reducible refine cndW_intro (by omega) ?_) | (simp (config := { maxSteps := 400000 }) only [↓zvs_pre,↓reduceIte,zvs,reduceCtorEq,Nat.reduceEqDiff,Nat.reduceAdd,Nat.reduceLeDiff,Nat.reduceMul,Int.reduceBNe,Int.reduceBEq,Int.reduceEq,Int.reduceNe,Int.reduceLT,Int.reduceLE,Int.reduceGT,Int.reduceGE,Int.reduceNeg,Int.reduceToNat,Nat.reduceLT,Nat.reduceSub,tab,storeAt_go,isP_ptr,Try.results4,List.toList_toArray]) | (simp (disch := omega) only [ziw]))
      have hbe : ∀ a : Int, (a != a) = false := fun a => bne_self_eq_false a
      have hza : (0 : Int) + 1 = 1 := rfl
      refine ok_loop (fun k : Nat => ⟨slots [(1, .ptr 0 []), (6, .map 1), (7, .ptr 2 []), (8, .int .i64 (if R.length < a + k then 1 else 0)), (9, .int .i64 (curK m a k)), (32, .int .i64 R.length), (33, .int .i64 k)], rows [(0, .row machSh (encM m)), (1, .map (metL ((List.range k).map (turnK R a)))), (2, .row machSh (encX m (curK m a k) (leftK m k)))], 3⟩) (fun k => k ≤ R.length) (fun k => R.length - k) 0 ?_ (Nat.zero_le _) (fun k hk => ?_)
      · (refine Ren.mk [(0, 0), (1, 1), (2, 322)] false (by first | (intro h; cases h; done) | exact fun _ => rfl) (by first | decide | rfl | (simp [turnOk]; done)) (by decide) ?_ ?_ <;> (repeat' (first | (with_reducible first | refine mr_int (by first | rfl | omega) | refine mr_str rfl | refine mr_bool rfl | refine mr_dat rfl (by first | rfl | assumption | (simp only [znl,nls_wr,nls_pr,nls_pi,nls_pte,nls_fd,nls_u32,nl_pr,nls_metL]; (first | done | fail))) | refine mr_sl ?_ ?_ (by first | rfl | omega) | refine MR.ptr ?_ ?_ | refine mr_raw | refine mr_slnil | refine mr_empty ?_ | refine mr_row rfl (by (simp only [↓reduceIte,zlk,Nat.reduceEqDiff,reduceCtorEq]); exact rfl) ?_ ?_ ?_ (by decide) | refine mr_aggD rfl (by first | rfl | assumption | (simp only [znl,nls_wr,nls_pr,nls_pi,nls_pte,nls_fd,nls_u32,nl_pr,nls_metL]; (first | done | fail))) | refine MR.agg (MRL.cons ?_ ?_) | refine mr_aggD ?_ (by first | rfl | assumption | (simp only [znl,nls_wr,nls_pr,nls_pi,nls_pte,nls_fd,nls_u32,nl_pr,nls_metL]; (first | done | fail))) | refine MR.fn ?_ | refine MRL.cons ?_ ?_ | refine MRL.nil | refine alls_cons ?_ ?_ | refine alls_nil | refine allb_nil | refine allb_cons ?_ (by (simp only [↓reduceIte,zlk,Nat.reduceEqDiff,reduceCtorEq]); exact rfl) ?_ ?_ | refine MB.row ?_ | refine mb_arr ?_ ?_ | refine MR.map ?_ ?_ | refine mb_map rfl (by first | rfl | assumption | (simp only [znl,nls_wr,nls_pr,nls_pi,nls_pte,nls_fd,nls_u32,nl_pr,nls_metL]; (first | done | fail))) | rfl) | (simp only [znl,nls_wr,nls_pr,nls_pi,nls_pte,nls_fd,nls_u32,nl_pr,nls_metL]; (first | done | fail)) | (refine allb_ghost rfl ?_) | exact known_in rfl | exact known_lt rfl | ((with_reducible refine turn_ok ?_) <;> rfl) | (simp only [↓reduceIte,zlk,Nat.reduceEqDiff,reduceCtorEq]) | (with_reducible first | refine mb_map ?_ ?_ | refine mr_sl ?_ ?_ ?_ | refine mr_int ?_ | refine mr_str ?_ | refine mr_bool ?_ | refine mr_dat ?_ (by first | rfl | assumption | (simp only [znl,nls_wr,nls_pr,nls_pi,nls_pte,nls_fd,nls_u32,nl_pr,nls_metL]; (first | done | fail))) | refine mr_aggD ?_ ?_))))
        all_goals (first | rfl | (rw [if_neg (by omega)]) | trace_state)
      by_cases hlt : k < R.length
      · have hP := hpick k hlt
        have hr := hround k hlt
        have h0 := look_out (hnew k hlt)
        have hput := mput_metL (curK m a (k + 1)) _ (hnew k hlt)
        rw [← hsucc k] at hput
        have h1 : (mget (metL ((List.range (k + 1)).map (turnK R a))) (.int .i64 (curK m a (k + 1)))).getD (.int .i64 0) = .int .i64 1 := look_in (by rw [hsucc k]; simp)
        obtain ⟨⟨c1, c2⟩, c3⟩ := hcurR k (by omega)
        obtain ⟨⟨c4, c5⟩, c6⟩ := hcurR (k + 1) (by omega)
        by_cases hq : a + k = R.length
        · have hr := hr.2 hq
          repeat' (first | (with_reducible first | refine ok_seq ?_ | refine xs1 ?_ | refine xs2 ?_ | refine xs3 ?_ | refine xb1 ?_ | refine xb2 ?_ | refine xb3 (by decide) ?_ | refine xb4 ?_ | refine xl2 ?_ | refine xl3 ?_ | refine xc2 ?_ | refine xc3 ?_ | refine ok_block ?_ | refine ok_scope ?_ | refine ok_skip ?_ | refine ok_label ?_ | refine ok_exit ?_ | refine ok_ret ?_ | refine ok_region (fun M hM => ?_) | refine vif_t ?_ | refine vif_f ?_ | refine fin_normal ?_ | refine fin_ret ?_ | (refine hM _ ?_; clear hM M) | refine vcallW_intro (call_data (by assumption) ?_ rfl ?_) | refine vcallHW_intro (hcall_data (by assumption) rfl ?_) ?_) | ((with_reducible refine nls_q ?_) <;> (first | rfl | assumption | (simp only [znl,nls_wr,nls_pr,nls_pi,nls_pte,nls_fd,nls_u32,nl_pr,nls_metL]; (first | done | fail)))) | (with_reducible refine ok_cond (by (simp only [↓reduceIte,zlk,Nat.reduceEqDiff,reduceCtorEq]); exact rfl) ?_) | ((with_reducible first | refine vif_intro (fun hc => ?_) (fun hc => ?_) | refine vifW_intro (fun hc => ?_) (fun hc => ?_)) <;> (try simp (disch := omega) only [zhb] at hc) <;> (try (exfalso; omega)) <;> (try subst hc)) | (with_reducible refine cndW_intro (by omega) ?_) | (simp (config := { maxSteps := 400000 }) only [↓zvs_pre,↓reduceIte,zvs,reduceCtorEq,Nat.reduceEqDiff,Nat.reduceAdd,Nat.reduceLeDiff,Nat.reduceMul,Int.reduceBNe,Int.reduceBEq,Int.reduceEq,Int.reduceNe,Int.reduceLT,Int.reduceLE,Int.reduceGT,Int.reduceGE,Int.reduceNeg,Int.reduceToNat,Nat.reduceLT,Nat.reduceSub,tab,hza,hbe,h0,h1,hput,keys_metL,Try.results4,List.toList_toArray]) | (simp (disch := omega) only [ziw]))
          all_goals first
            | (exfalso; omega)
            | (refine xl1 (k + 1) ?_ (by show k + 1 ≤ R.length; omega) (by show R.length - (k + 1) < R.length - k; omega); (refine Ren.mk [(0, 0), (1, 1), (2, 2)] false (by first | (intro h; cases h; done) | exact fun _ => rfl) (by first | decide | rfl | (simp [turnOk]; done)) (by decide) ?_ ?_ <;> (repeat' (first | (with_reducible first | refine mr_int (by first | rfl | omega) | refine mr_str rfl | refine mr_bool rfl | refine mr_dat rfl (by first | rfl | assumption | (simp only [znl,nls_wr,nls_pr,nls_pi,nls_pte,nls_fd,nls_u32,nl_pr,nls_metL]; (first | done | fail))) | refine mr_sl ?_ ?_ (by first | rfl | omega) | refine MR.ptr ?_ ?_ | refine mr_raw | refine mr_slnil | refine mr_empty ?_ | refine mr_row rfl (by (simp only [↓reduceIte,zlk,Nat.reduceEqDiff,reduceCtorEq]); exact rfl) ?_ ?_ ?_ (by decide) | refine mr_aggD rfl (by first | rfl | assumption | (simp only [znl,nls_wr,nls_pr,nls_pi,nls_pte,nls_fd,nls_u32,nl_pr,nls_metL]; (first | done | fail))) | refine MR.agg (MRL.cons ?_ ?_) | refine mr_aggD ?_ (by first | rfl | assumption | (simp only [znl,nls_wr,nls_pr,nls_pi,nls_pte,nls_fd,nls_u32,nl_pr,nls_metL]; (first | done | fail))) | refine MR.fn ?_ | refine MRL.cons ?_ ?_ | refine MRL.nil | refine alls_cons ?_ ?_ | refine alls_nil | refine allb_nil | refine allb_cons ?_ (by (simp only [↓reduceIte,zlk,Nat.reduceEqDiff,reduceCtorEq]); exact rfl) ?_ ?_ | refine MB.row ?_ | refine mb_arr ?_ ?_ | refine MR.map ?_ ?_ | refine mb_map rfl (by first | rfl | assumption | (simp only [znl,nls_wr,nls_pr,nls_pi,nls_pte,nls_fd,nls_u32,nl_pr,nls_metL]; (first | done | fail))) | rfl) | (simp only [znl,nls_wr,nls_pr,nls_pi,nls_pte,nls_fd,nls_u32,nl_pr,nls_metL]; (first | done | fail)) | (refine allb_ghost rfl ?_) | exact known_in rfl | exact known_lt rfl | ((with_reducible refine turn_ok ?_) <;> rfl) | (simp only [↓reduceIte,zlk,Nat.reduceEqDiff,reduceCtorEq]) | (with_reducible first | refine mb_map ?_ ?_ | refine mr_sl ?_ ?_ ?_ | refine mr_int ?_ | refine mr_str ?_ | refine mr_bool ?_ | refine mr_dat ?_ (by first | rfl | assumption | (simp only [znl,nls_wr,nls_pr,nls_pi,nls_pte,nls_fd,nls_u32,nl_pr,nls_metL]; (first | done | fail))) | refine mr_aggD ?_ ?_)))); all_goals first | rfl | omega | (split <;> split <;> omega))
            | trace_state
        · have hr := mt hr.1 hq
          repeat' (first | (with_reducible first | refine ok_seq ?_ | refine xs1 ?_ | refine xs2 ?_ | refine xs3 ?_ | refine xb1 ?_ | refine xb2 ?_ | refine xb3 (by decide) ?_ | refine xb4 ?_ | refine xl2 ?_ | refine xl3 ?_ | refine xc2 ?_ | refine xc3 ?_ | refine ok_block ?_ | refine ok_scope ?_ | refine ok_skip ?_ | refine ok_label ?_ | refine ok_exit ?_ | refine ok_ret ?_ | refine ok_region (fun M hM => ?_) | refine vif_t ?_ | refine vif_f ?_ | refine fin_normal ?_ | refine fin_ret ?_ | (refine hM _ ?_; clear hM M) | refine vcallW_intro (call_data (by assumption) ?_ rfl ?_) | refine vcallHW_intro (hcall_data (by assumption) rfl ?_) ?_) | ((with_reducible refine nls_q ?_) <;> (first | rfl | assumption | (simp only [znl,nls_wr,nls_pr,nls_pi,nls_pte,nls_fd,nls_u32,nl_pr,nls_metL]; (first | done | fail)))) | (with_reducible refine ok_cond (by (simp only [↓reduceIte,zlk,Nat.reduceEqDiff,reduceCtorEq]); exact rfl) ?_) | ((with_reducible first | refine vif_intro (fun hc => ?_) (fun hc => ?_) | refine vifW_intro (fun hc => ?_) (fun hc => ?_)) <;> (try simp (disch := omega) only [zhb] at hc) <;> (try (exfalso; omega)) <;> (try subst hc)) | (with_reducible refine cndW_intro (by omega) ?_) | (simp (config := { maxSteps := 400000 }) only [↓zvs_pre,↓reduceIte,zvs,reduceCtorEq,Nat.reduceEqDiff,Nat.reduceAdd,Nat.reduceLeDiff,Nat.reduceMul,Int.reduceBNe,Int.reduceBEq,Int.reduceEq,Int.reduceNe,Int.reduceLT,Int.reduceLE,Int.reduceGT,Int.reduceGE,Int.reduceNeg,Int.reduceToNat,Nat.reduceLT,Nat.reduceSub,tab,hza,hbe,h0,h1,hput,keys_metL,Try.results4,List.toList_toArray]) | (simp (disch := omega) only [ziw]))
          all_goals first
            | (exfalso; omega)
            | (refine xl1 (k + 1) ?_ (by show k + 1 ≤ R.length; omega) (by show R.length - (k + 1) < R.length - k; omega); (refine Ren.mk [(0, 0), (1, 1), (2, 2)] false (by first | (intro h; cases h; done) | exact fun _ => rfl) (by first | decide | rfl | (simp [turnOk]; done)) (by decide) ?_ ?_ <;> (repeat' (first | (with_reducible first | refine mr_int (by first | rfl | omega) | refine mr_str rfl | refine mr_bool rfl | refine mr_dat rfl (by first | rfl | assumption | (simp only [znl,nls_wr,nls_pr,nls_pi,nls_pte,nls_fd,nls_u32,nl_pr,nls_metL]; (first | done | fail))) | refine mr_sl ?_ ?_ (by first | rfl | omega) | refine MR.ptr ?_ ?_ | refine mr_raw | refine mr_slnil | refine mr_empty ?_ | refine mr_row rfl (by (simp only [↓reduceIte,zlk,Nat.reduceEqDiff,reduceCtorEq]); exact rfl) ?_ ?_ ?_ (by decide) | refine mr_aggD rfl (by first | rfl | assumption | (simp only [znl,nls_wr,nls_pr,nls_pi,nls_pte,nls_fd,nls_u32,nl_pr,nls_metL]; (first | done | fail))) | refine MR.agg (MRL.cons ?_ ?_) | refine mr_aggD ?_ (by first | rfl | assumption | (simp only [znl,nls_wr,nls_pr,nls_pi,nls_pte,nls_fd,nls_u32,nl_pr,nls_metL]; (first | done | fail))) | refine MR.fn ?_ | refine MRL.cons ?_ ?_ | refine MRL.nil | refine alls_cons ?_ ?_ | refine alls_nil | refine allb_nil | refine allb_cons ?_ (by (simp only [↓reduceIte,zlk,Nat.reduceEqDiff,reduceCtorEq]); exact rfl) ?_ ?_ | refine MB.row ?_ | refine mb_arr ?_ ?_ | refine MR.map ?_ ?_ | refine mb_map rfl (by first | rfl | assumption | (simp only [znl,nls_wr,nls_pr,nls_pi,nls_pte,nls_fd,nls_u32,nl_pr,nls_metL]; (first | done | fail))) | rfl) | (simp only [znl,nls_wr,nls_pr,nls_pi,nls_pte,nls_fd,nls_u32,nl_pr,nls_metL]; (first | done | fail)) | (refine allb_ghost rfl ?_) | exact known_in rfl | exact known_lt rfl | ((with_reducible refine turn_ok ?_) <;> rfl) | (simp only [↓reduceIte,zlk,Nat.reduceEqDiff,reduceCtorEq]) | (with_reducible first | refine mb_map ?_ ?_ | refine mr_sl ?_ ?_ ?_ | refine mr_int ?_ | refine mr_str ?_ | refine mr_bool ?_ | refine mr_dat ?_ (by first | rfl | assumption | (simp only [znl,nls_wr,nls_pr,nls_pi,nls_pte,nls_fd,nls_u32,nl_pr,nls_metL]; (first | done | fail))) | refine mr_aggD ?_ ?_)))); all_goals first | rfl | omega | (split <;> split <;> omega))
            | trace_state
      · obtain rfl : k = R.length := by omega
        repeat' (first | (with_reducible first | refine ok_seq ?_ | refine xs1 ?_ | refine xs2 ?_ | refine xs3 ?_ | refine xb1 ?_ | refine xb2 ?_ | refine xb3 (by decide) ?_ | refine xb4 ?_ | refine xl2 ?_ | refine xl3 ?_ | refine xc2 ?_ | refine xc3 ?_ | refine ok_block ?_ | refine ok_scope ?_ | refine ok_skip ?_ | refine ok_label ?_ | refine ok_exit ?_ | refine ok_ret ?_ | refine ok_region (fun M hM => ?_) | refine vif_t ?_ | refine vif_f ?_ | refine fin_normal ?_ | refine fin_ret ?_ | (refine hM _ ?_; clear hM M) | refine vcallW_intro (call_data (by assumption) ?_ rfl ?_) | refine vcallHW_intro (hcall_data (by assumption) rfl ?_) ?_) | ((with_reducible refine nls_q ?_) <;> (first | rfl | assumption | (simp only [znl,nls_wr,nls_pr,nls_pi,nls_pte,nls_fd,nls_u32,nl_pr,nls_metL]; (first | done | fail)))) | (with_reducible refine ok_cond (by (simp only [↓reduceIte,zlk,Nat.reduceEqDiff,reduceCtorEq]); exact rfl) ?_) | ((with_reducible first | refine vif_intro (fun hc => ?_) (fun hc => ?_) | refine vifW_intro (fun hc => ?_) (fun hc => ?_)) <;> (try simp (disch := omega) only [zhb] at hc) <;> (try (exfalso; omega)) <;> (try subst hc)) | (with_reducible refine cndW_intro (by omega) ?_) | (simp (config := { maxSteps := 400000 }) only [↓zvs_pre,↓reduceIte,zvs,reduceCtorEq,Nat.reduceEqDiff,Nat.reduceAdd,Nat.reduceLeDiff,Nat.reduceMul,Int.reduceBNe,Int.reduceBEq,Int.reduceEq,Int.reduceNe,Int.reduceLT,Int.reduceLE,Int.reduceGT,Int.reduceGE,Int.reduceNeg,Int.reduceToNat,Nat.reduceLT,Nat.reduceSub,tab,Try.results4,List.toList_toArray]) | (simp (disch := omega) only [ziw]))
        refine ok_loop (fun k : Nat => ⟨slots [(1, .ptr 0 []), (6, .map 1), (8, .int .i64 (if R.length < a + R.length then 1 else 0)), (65, encPrs m.pr), (66, .int .i64 m.pr.length), (67, .int .i64 k)], rows [(0, .row machSh (encM m)), (1, .map (metL ((List.range R.length).map (turnK R a))))], 2⟩) (fun k => k ≤ m.pr.length) (fun k => m.pr.length - k) 0 ?_ (Nat.zero_le _) (fun k hk => ?_)
        · (refine Ren.mk [(0, 0), (1, 1)] false (by first | (intro h; cases h; done) | exact fun _ => rfl) (by first | decide | rfl | (simp [turnOk]; done)) (by decide) ?_ ?_ <;> (repeat' (first | (with_reducible first | refine mr_int (by first | rfl | omega) | refine mr_str rfl | refine mr_bool rfl | refine mr_dat rfl (by first | rfl | assumption | (simp only [znl,nls_wr,nls_pr,nls_pi,nls_pte,nls_fd,nls_u32,nl_pr,nls_metL]; (first | done | fail))) | refine mr_sl ?_ ?_ (by first | rfl | omega) | refine MR.ptr ?_ ?_ | refine mr_raw | refine mr_slnil | refine mr_empty ?_ | refine mr_row rfl (by (simp only [↓reduceIte,zlk,Nat.reduceEqDiff,reduceCtorEq]); exact rfl) ?_ ?_ ?_ (by decide) | refine mr_aggD rfl (by first | rfl | assumption | (simp only [znl,nls_wr,nls_pr,nls_pi,nls_pte,nls_fd,nls_u32,nl_pr,nls_metL]; (first | done | fail))) | refine MR.agg (MRL.cons ?_ ?_) | refine mr_aggD ?_ (by first | rfl | assumption | (simp only [znl,nls_wr,nls_pr,nls_pi,nls_pte,nls_fd,nls_u32,nl_pr,nls_metL]; (first | done | fail))) | refine MR.fn ?_ | refine MRL.cons ?_ ?_ | refine MRL.nil | refine alls_cons ?_ ?_ | refine alls_nil | refine allb_nil | refine allb_cons ?_ (by (simp only [↓reduceIte,zlk,Nat.reduceEqDiff,reduceCtorEq]); exact rfl) ?_ ?_ | refine MB.row ?_ | refine mb_arr ?_ ?_ | refine MR.map ?_ ?_ | refine mb_map rfl (by first | rfl | assumption | (simp only [znl,nls_wr,nls_pr,nls_pi,nls_pte,nls_fd,nls_u32,nl_pr,nls_metL]; (first | done | fail))) | rfl) | (simp only [znl,nls_wr,nls_pr,nls_pi,nls_pte,nls_fd,nls_u32,nl_pr,nls_metL]; (first | done | fail)) | (refine allb_ghost rfl ?_) | exact known_in rfl | exact known_lt rfl | ((with_reducible refine turn_ok ?_) <;> rfl) | (simp only [↓reduceIte,zlk,Nat.reduceEqDiff,reduceCtorEq]) | (with_reducible first | refine mb_map ?_ ?_ | refine mr_sl ?_ ?_ ?_ | refine mr_int ?_ | refine mr_str ?_ | refine mr_bool ?_ | refine mr_dat ?_ (by first | rfl | assumption | (simp only [znl,nls_wr,nls_pr,nls_pi,nls_pte,nls_fd,nls_u32,nl_pr,nls_metL]; (first | done | fail))) | refine mr_aggD ?_ ?_))))
          all_goals (first | rfl | trace_state)
        by_cases hlt : k < m.pr.length
        · have hb := hpR _ (getD_mem' hlt)
          obtain ⟨hS1, hS2, hS3⟩ := pr3 hb
          have hmem := mem_ready hO hlt
          rw [← hR] at hmem
          have hall : (m.pr.getD k default).pid ∈ (List.range R.length).map (turnK R a) ↔ (m.pr.getD k default).pid ∈ R := by
            rw [List.mem_map]
            constructor
            · rintro ⟨j, hj, e⟩
              rw [← e]
              exact turnK_mem a j (by have := List.mem_range.1 hj; omega)
            · intro h
              obtain ⟨j, hj, e⟩ := turnK_all ha1 h
              exact ⟨j, List.mem_range.2 hj, e⟩
          by_cases hq : (m.pr.getD k default).st = 1
          · have h1 := look_in (hall.2 (hmem.2 hq))
            have hqb : ((m.pr.getD k default).st == 1) = true := by rw [hq]; rfl
            repeat' (first | (with_reducible first | refine ok_seq ?_ | refine xs1 ?_ | refine xs2 ?_ | refine xs3 ?_ | refine xb1 ?_ | refine xb2 ?_ | refine xb3 (by decide) ?_ | refine xb4 ?_ | refine xl2 ?_ | refine xl3 ?_ | refine xc2 ?_ | refine xc3 ?_ | refine ok_block ?_ | refine ok_scope ?_ | refine ok_skip ?_ | refine ok_label ?_ | refine ok_exit ?_ | refine ok_ret ?_ | refine ok_region (fun M hM => ?_) | refine vif_t ?_ | refine vif_f ?_ | refine fin_normal ?_ | refine fin_ret ?_ | (refine hM _ ?_; clear hM M) | refine vcallW_intro (call_data (by assumption) ?_ rfl ?_) | refine vcallHW_intro (hcall_data (by assumption) rfl ?_) ?_) | ((with_reducible refine nls_q ?_) <;> (first | rfl | assumption | (simp only [znl,nls_wr,nls_pr,nls_pi,nls_pte,nls_fd,nls_u32,nl_pr,nls_metL]; (first | done | fail)))) | (with_reducible refine ok_cond (by (simp only [↓reduceIte,zlk,Nat.reduceEqDiff,reduceCtorEq]); exact rfl) ?_) | ((with_reducible first | refine vif_intro (fun hc => ?_) (fun hc => ?_) | refine vifW_intro (fun hc => ?_) (fun hc => ?_)) <;> (try simp (disch := omega) only [zhb] at hc) <;> (try (exfalso; omega)) <;> (try subst hc)) | (with_reducible refine cndW_intro (by omega) ?_) | (simp (config := { maxSteps := 400000 }) only [↓zvs_pre,↓reduceIte,zvs,reduceCtorEq,Nat.reduceEqDiff,Nat.reduceAdd,Nat.reduceLeDiff,Nat.reduceMul,Int.reduceBNe,Int.reduceBEq,Int.reduceEq,Int.reduceNe,Int.reduceLT,Int.reduceLE,Int.reduceGT,Int.reduceGE,Int.reduceNeg,Int.reduceToNat,Nat.reduceLT,Nat.reduceSub,tab,hS1,hS2,hS3,encPr,hqb,h1,keys_metL,Try.results4,List.toList_toArray]) | (simp (disch := omega) only [ziw]))
            all_goals first
              | (exfalso; omega)
              | (refine xl1 (k + 1) ?_ (by show k + 1 ≤ m.pr.length; omega) (by show m.pr.length - (k + 1) < m.pr.length - k; omega); (refine Ren.mk [(0, 0), (1, 1)] false (by first | (intro h; cases h; done) | exact fun _ => rfl) (by first | decide | rfl | (simp [turnOk]; done)) (by decide) ?_ ?_ <;> (repeat' (first | (with_reducible first | refine mr_int (by first | rfl | omega) | refine mr_str rfl | refine mr_bool rfl | refine mr_dat rfl (by first | rfl | assumption | (simp only [znl,nls_wr,nls_pr,nls_pi,nls_pte,nls_fd,nls_u32,nl_pr,nls_metL]; (first | done | fail))) | refine mr_sl ?_ ?_ (by first | rfl | omega) | refine MR.ptr ?_ ?_ | refine mr_raw | refine mr_slnil | refine mr_empty ?_ | refine mr_row rfl (by (simp only [↓reduceIte,zlk,Nat.reduceEqDiff,reduceCtorEq]); exact rfl) ?_ ?_ ?_ (by decide) | refine mr_aggD rfl (by first | rfl | assumption | (simp only [znl,nls_wr,nls_pr,nls_pi,nls_pte,nls_fd,nls_u32,nl_pr,nls_metL]; (first | done | fail))) | refine MR.agg (MRL.cons ?_ ?_) | refine mr_aggD ?_ (by first | rfl | assumption | (simp only [znl,nls_wr,nls_pr,nls_pi,nls_pte,nls_fd,nls_u32,nl_pr,nls_metL]; (first | done | fail))) | refine MR.fn ?_ | refine MRL.cons ?_ ?_ | refine MRL.nil | refine alls_cons ?_ ?_ | refine alls_nil | refine allb_nil | refine allb_cons ?_ (by (simp only [↓reduceIte,zlk,Nat.reduceEqDiff,reduceCtorEq]); exact rfl) ?_ ?_ | refine MB.row ?_ | refine mb_arr ?_ ?_ | refine MR.map ?_ ?_ | refine mb_map rfl (by first | rfl | assumption | (simp only [znl,nls_wr,nls_pr,nls_pi,nls_pte,nls_fd,nls_u32,nl_pr,nls_metL]; (first | done | fail))) | rfl) | (simp only [znl,nls_wr,nls_pr,nls_pi,nls_pte,nls_fd,nls_u32,nl_pr,nls_metL]; (first | done | fail)) | (refine allb_ghost rfl ?_) | exact known_in rfl | exact known_lt rfl | ((with_reducible refine turn_ok ?_) <;> rfl) | (simp only [↓reduceIte,zlk,Nat.reduceEqDiff,reduceCtorEq]) | (with_reducible first | refine mb_map ?_ ?_ | refine mr_sl ?_ ?_ ?_ | refine mr_int ?_ | refine mr_str ?_ | refine mr_bool ?_ | refine mr_dat ?_ (by first | rfl | assumption | (simp only [znl,nls_wr,nls_pr,nls_pi,nls_pte,nls_fd,nls_u32,nl_pr,nls_metL]; (first | done | fail))) | refine mr_aggD ?_ ?_)))); done)
              | trace_state
          · have h1 := look_out (fun h => hq (hmem.1 (hall.1 h)))
            have hqb : ((m.pr.getD k default).st == 1) = false := beq_eq_false_iff_ne.2 hq
            repeat' (first | (with_reducible first | refine ok_seq ?_ | refine xs1 ?_ | refine xs2 ?_ | refine xs3 ?_ | refine xb1 ?_ | refine xb2 ?_ | refine xb3 (by decide) ?_ | refine xb4 ?_ | refine xl2 ?_ | refine xl3 ?_ | refine xc2 ?_ | refine xc3 ?_ | refine ok_block ?_ | refine ok_scope ?_ | refine ok_skip ?_ | refine ok_label ?_ | refine ok_exit ?_ | refine ok_ret ?_ | refine ok_region (fun M hM => ?_) | refine vif_t ?_ | refine vif_f ?_ | refine fin_normal ?_ | refine fin_ret ?_ | (refine hM _ ?_; clear hM M) | refine vcallW_intro (call_data (by assumption) ?_ rfl ?_) | refine vcallHW_intro (hcall_data (by assumption) rfl ?_) ?_) | ((with_reducible refine nls_q ?_) <;> (first | rfl | assumption | (simp only [znl,nls_wr,nls_pr,nls_pi,nls_pte,nls_fd,nls_u32,nl_pr,nls_metL]; (first | done | fail)))) | (with_reducible refine ok_cond (by (simp only [↓reduceIte,zlk,Nat.reduceEqDiff,reduceCtorEq]); exact rfl) ?_) | ((with_reducible first | refine vif_intro (fun hc => ?_) (fun hc => ?_) | refine vifW_intro (fun hc => ?_) (fun hc => ?_)) <;> (try simp (disch := omega) only [zhb] at hc) <;> (try (exfalso; omega)) <;> (try subst hc)) | (with_reducible refine cndW_intro (by omega) ?_) | (simp (config := { maxSteps := 400000 }) only [↓zvs_pre,↓reduceIte,zvs,reduceCtorEq,Nat.reduceEqDiff,Nat.reduceAdd,Nat.reduceLeDiff,Nat.reduceMul,Int.reduceBNe,Int.reduceBEq,Int.reduceEq,Int.reduceNe,Int.reduceLT,Int.reduceLE,Int.reduceGT,Int.reduceGE,Int.reduceNeg,Int.reduceToNat,Nat.reduceLT,Nat.reduceSub,tab,hS1,hS2,hS3,encPr,hqb,h1,keys_metL,Try.results4,List.toList_toArray]) | (simp (disch := omega) only [ziw]))
            all_goals first
              | (exfalso; omega)
              | (refine xl1 (k + 1) ?_ (by show k + 1 ≤ m.pr.length; omega) (by show m.pr.length - (k + 1) < m.pr.length - k; omega); (refine Ren.mk [(0, 0), (1, 1)] false (by first | (intro h; cases h; done) | exact fun _ => rfl) (by first | decide | rfl | (simp [turnOk]; done)) (by decide) ?_ ?_ <;> (repeat' (first | (with_reducible first | refine mr_int (by first | rfl | omega) | refine mr_str rfl | refine mr_bool rfl | refine mr_dat rfl (by first | rfl | assumption | (simp only [znl,nls_wr,nls_pr,nls_pi,nls_pte,nls_fd,nls_u32,nl_pr,nls_metL]; (first | done | fail))) | refine mr_sl ?_ ?_ (by first | rfl | omega) | refine MR.ptr ?_ ?_ | refine mr_raw | refine mr_slnil | refine mr_empty ?_ | refine mr_row rfl (by (simp only [↓reduceIte,zlk,Nat.reduceEqDiff,reduceCtorEq]); exact rfl) ?_ ?_ ?_ (by decide) | refine mr_aggD rfl (by first | rfl | assumption | (simp only [znl,nls_wr,nls_pr,nls_pi,nls_pte,nls_fd,nls_u32,nl_pr,nls_metL]; (first | done | fail))) | refine MR.agg (MRL.cons ?_ ?_) | refine mr_aggD ?_ (by first | rfl | assumption | (simp only [znl,nls_wr,nls_pr,nls_pi,nls_pte,nls_fd,nls_u32,nl_pr,nls_metL]; (first | done | fail))) | refine MR.fn ?_ | refine MRL.cons ?_ ?_ | refine MRL.nil | refine alls_cons ?_ ?_ | refine alls_nil | refine allb_nil | refine allb_cons ?_ (by (simp only [↓reduceIte,zlk,Nat.reduceEqDiff,reduceCtorEq]); exact rfl) ?_ ?_ | refine MB.row ?_ | refine mb_arr ?_ ?_ | refine MR.map ?_ ?_ | refine mb_map rfl (by first | rfl | assumption | (simp only [znl,nls_wr,nls_pr,nls_pi,nls_pte,nls_fd,nls_u32,nl_pr,nls_metL]; (first | done | fail))) | rfl) | (simp only [znl,nls_wr,nls_pr,nls_pi,nls_pte,nls_fd,nls_u32,nl_pr,nls_metL]; (first | done | fail)) | (refine allb_ghost rfl ?_) | exact known_in rfl | exact known_lt rfl | ((with_reducible refine turn_ok ?_) <;> rfl) | (simp only [↓reduceIte,zlk,Nat.reduceEqDiff,reduceCtorEq]) | (with_reducible first | refine mb_map ?_ ?_ | refine mr_sl ?_ ?_ ?_ | refine mr_int ?_ | refine mr_str ?_ | refine mr_bool ?_ | refine mr_dat ?_ (by first | rfl | assumption | (simp only [znl,nls_wr,nls_pr,nls_pi,nls_pte,nls_fd,nls_u32,nl_pr,nls_metL]; (first | done | fail))) | refine mr_aggD ?_ ?_)))); done)
              | trace_state
        · obtain rfl : k = m.pr.length := by omega
          obtain ⟨r, hr, hr1⟩ : ∃ r : Int, r = (if R.length < a + R.length then (1 : Int) else 0) ∧ r ≤ 1 := ⟨_, rfl, by split <;> omega⟩
          rw [← hr]
          repeat' (first | (with_reducible first | refine ok_seq ?_ | refine xs1 ?_ | refine xs2 ?_ | refine xs3 ?_ | refine xb1 ?_ | refine xb2 ?_ | refine xb3 (by decide) ?_ | refine xb4 ?_ | refine xl2 ?_ | refine xl3 ?_ | refine xc2 ?_ | refine xc3 ?_ | refine ok_block ?_ | refine ok_scope ?_ | refine ok_skip ?_ | refine ok_label ?_ | refine ok_exit ?_ | refine ok_ret ?_ | refine ok_region (fun M hM => ?_) | refine vif_t ?_ | refine vif_f ?_ | refine fin_normal ?_ | refine fin_ret ?_ | (refine hM _ ?_; clear hM M) | refine vcallW_intro (call_data (by assumption) ?_ rfl ?_) | refine vcallHW_intro (hcall_data (by assumption) rfl ?_) ?_) | ((with_reducible refine nls_q ?_) <;> (first | rfl | assumption | (simp only [znl,nls_wr,nls_pr,nls_pi,nls_pte,nls_fd,nls_u32,nl_pr,nls_metL]; (first | done | fail)))) | (with_reducible refine ok_cond (by (simp only [↓reduceIte,zlk,Nat.reduceEqDiff,reduceCtorEq]); exact rfl) ?_) | ((with_reducible first | refine vif_intro (fun hc => ?_) (fun hc => ?_) | refine vifW_intro (fun hc => ?_) (fun hc => ?_)) <;> (try simp (disch := omega) only [zhb] at hc) <;> (try (exfalso; omega)) <;> (try subst hc)) | (with_reducible refine cndW_intro (by omega) ?_) | (simp (config := { maxSteps := 400000 }) only [↓zvs_pre,↓reduceIte,zvs,reduceCtorEq,Nat.reduceEqDiff,Nat.reduceAdd,Nat.reduceLeDiff,Nat.reduceMul,Int.reduceBNe,Int.reduceBEq,Int.reduceEq,Int.reduceNe,Int.reduceLT,Int.reduceLE,Int.reduceGT,Int.reduceGE,Int.reduceNeg,Int.reduceToNat,Nat.reduceLT,Nat.reduceSub,tab,Try.results4,List.toList_toArray]) | (simp (disch := omega) only [ziw]))
          all_goals first
            | (exfalso; omega)
            | (simp only [zrds]; done)
            | (simp only [zrds]; rfl)
            | (simp only [zrds]; exact decide_eq_true hr1)
            | (simp only [zrds]; exact (decide_eq_true hr1).symm)
            | trace_state
end Go.Proofs.Ytlgldkjjbbbapaa.V
end
