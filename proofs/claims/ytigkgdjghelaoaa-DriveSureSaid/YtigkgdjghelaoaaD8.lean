/-
  Drive, part 8: a drive as an argument; the law DriveChecks.
-/
import Derived.Test.YtigkgdjghelaoaaD7
import Derived.Test.YtigkgdjghelaoaaD2
import Derived.Test.YtigkgdjghelaoaaVty
set_option linter.unusedVariables false
set_option linter.unusedSimpArgs false
namespace Go.Proofs.Ytigkgdjghelaoaa.V
open Go
set_option maxRecDepth 100000
-- nlx: nls_wr, nls_ints
set_option maxHeartbeats 1000000
abbrev wrT : Ty := .fcons (.int .i64) (.fcons .str .fnil)
abbrev drT : Ty := .fcons (.sl .str) (.fcons (.sl wrT) (.fcons (.int .i64) .fnil))
def mkWr (x : Int × List UInt8 × Unit) : Wr := ⟨x.1, x.2.1⟩
def mkDr (x : List (List UInt8) × List (Int × List UInt8 × Unit) × Int × Unit) : Dr := ⟨x.1, x.2.1.map mkWr, x.2.2.1⟩
theorem toV_dr (x : List (List UInt8) × List (Int × List UInt8 × Unit) × Int × Unit) : toV drT x = encDr (mkDr x) := by
  obtain ⟨a, b, c, u⟩ := x
  have e1 : toV drT (a, b, c, u) = .agg [toV (.sl .str) a, toV (.sl wrT) b, .int .i64 c] := rfl
  have e2 : toV (.sl .str) a = encStrs a := by
    simp only [toV,tsh]
    congr 1
  have e3 : toV (.sl wrT) b = encWrs (b.map mkWr) := by
    have : toV (.sl wrT) b = .dat (.st [.cell, .cell]) (b.map (toV wrT)) := rfl
    rw [this]
    unfold encWrs
    rw [List.map_map]
    congr 1
  exact e1.trans (by rw [e2, e3]; rfl)
theorem reach47 : reachBytes ≤ 2 ^ 47 := by decide
/-- what is known of such an argument -/
structure DrArg (d : Dr) : Prop where
  left : -2 ^ 63 ≤ d.left ∧ d.left < 2 ^ 63
  nums : ∀ w ∈ d.pe, -2 ^ 63 ≤ w.b ∧ w.b < 2 ^ 63
  great : Spec Try.prog 29 [encDr d] (.int .i64 (if bigD d = true then 1 else 0))
structure DrSmall (d : Dr) : Prop where
  fit : dfit d
  bl : d.bl.length ≤ 260
  pe : d.pe.length ≤ 60
  bls : ∀ s ∈ d.bl, s.length ≤ 1000
  pes : ∀ w ∈ d.pe, w.d.length ≤ 1000
theorem dr_arg (x : List (List UInt8) × List (Int × List UInt8 × Unit) × Int × Unit) (g : good drT x) (l : Ty.lite drT x) : DrArg (mkDr x) := by
  obtain ⟨a, b, c, u⟩ := x
  obtain ⟨g1, g2, g3, _⟩ := g
  obtain ⟨l1, l2, _⟩ := l
  refine ⟨?_, ?_, ?_⟩
  · have h : -9223372036854775808 ≤ c ∧ c ≤ 9223372036854775807 := bounds_i64 g3
    show -2 ^ 63 ≤ c ∧ c < 2 ^ 63
    omega
  · intro w hw
    obtain ⟨y, hy, rfl⟩ := List.mem_map.1 hw
    have h : -9223372036854775808 ≤ y.1 ∧ y.1 ≤ 9223372036854775807 := bounds_i64 (g2 y hy).1
    show -2 ^ 63 ≤ y.1 ∧ y.1 < 2 ^ 63
    omega
  · refine greatD_spec _ ⟨Nat.le_trans l1.1 reach47, ?_⟩ (fun s hs => Nat.le_trans (l1.2 s hs) reach47) fun w hw => ?_
    · show (b.map mkWr).length ≤ _
      rw [List.length_map]
      exact Nat.le_trans l2.1 reach47
    · obtain ⟨y, hy, rfl⟩ := List.mem_map.1 hw
      exact Nat.le_trans (show y.2.1.length ≤ reachBytes from (l2.2 y hy).2.1) reach47
theorem dr_small {d : Dr} (h : bigD d = false) : DrSmall d := by
  simp only [bigD,Bool.or_eq_false_iff,decide_eq_false_iff_not,List.any_eq_false,longB,decide_eq_true_eq] at h
  obtain ⟨⟨⟨h1, h2⟩, h3⟩, h4⟩ := h
  refine ⟨⟨⟨by omega, fun s hs => by have := h3 s hs; omega⟩, by omega, fun w hw => by have := h4 w hw; omega⟩, by omega, by omega, fun s hs => by have := h3 s hs; omega, fun w hw => by have := h4 w hw; omega⟩
theorem newD_fit (n : Int) : dfit (newD n).1 := by
  unfold newD
  split
  · exact ⟨⟨by show 0 < _; omega, fun s hs => by cases hs⟩, by show 0 < _; omega, fun s hs => by cases hs⟩
  · refine ⟨⟨by show (List.replicate n.toNat zeros).length < _; rw [List.length_replicate]; omega, fun s hs => ?_⟩, by show 0 < _; omega, fun s hs => by cases hs⟩
    rw [(List.mem_replicate.1 hs).2]
    decide
theorem checks_law (x0 : List (List UInt8) × List (Int × List UInt8 × Unit) × Int × Unit) (x1 : Int) (g0 : good drT x0) (g1 : good (.int .i64) x1) (l0 : Ty.lite drT x0) (l1 : Ty.lite (.int .i64) x1) :
    Spec Try.prog 9 [toV drT x0, toV (.int .i64) x1] (.bool true) := by
  have hA := dr_arg x0 g0 l0
  have hn : -9223372036854775808 ≤ x1 ∧ x1 ≤ 9223372036854775807 := bounds_i64 g1
  rw [toV_dr]
  generalize mkDr x0 = d at hA
  clear g0 l0 x0 g1 l1
  simp only [toV]
  obtain ⟨hl, hw, hG⟩ := hA
  have hF := fixed_spec
  cases hb : bigD d with
  | true =>
    rw [hb, if_pos rfl] at hG
    refine spec_ok Try.func9 rfl rfl (by kernel_rfl) (k := 2) rfl (by decide) ?_
    repeat' (first | (with_reducible first | refine ok_seq ?_ | refine xs1 ?_ | refine xs2 ?_ | refine xs3 ?_ | refine xb1 ?_ | refine xb2 ?_ | refine xb3 (by decide) ?_ | refine xb4 ?_ | refine xl2 ?_ | refine xl3 ?_ | refine xc2 ?_ | refine xc3 ?_ | refine ok_block ?_ | refine ok_scope ?_ | refine ok_skip ?_ | refine ok_label ?_ | refine ok_exit ?_ | refine ok_ret ?_ | refine ok_region (fun M hM => ?_) | refine vif_t ?_ | refine vif_f ?_ | refine fin_normal ?_ | refine fin_ret ?_ | (refine hM _ ?_; clear hM M) | refine vcallW_intro (call_data (by assumption) ?_ rfl ?_) | refine vcallHW_intro (hcall_data (by assumption) rfl ?_) ?_) | ((with_reducible refine nls_q ?_) <;> (first | rfl | assumption | (simp only [znl,nls_wr,nls_ints]; (first | done | fail)))) | (with_reducible refine ok_cond (by (simp only [↓reduceIte,zlk,Nat.reduceEqDiff,reduceCtorEq]); exact rfl) ?_) | ((with_reducible first | refine vif_intro (fun hc => ?_) (fun hc => ?_) | refine vifW_intro (fun hc => ?_) (fun hc => ?_)) <;> (try simp (disch := omega) only [zhb] at hc) <;> (try (exfalso; omega)) <;> (try subst hc)) | (with_reducible refine cndW_intro (by omega) ?_) | (simp (config := { maxSteps := 400000 }) only [↓zvs_pre,↓reduceIte,zvs,reduceCtorEq,Nat.reduceEqDiff,Nat.reduceAdd,Nat.reduceLeDiff,Nat.reduceMul,Int.reduceBNe,Int.reduceBEq,Int.reduceEq,Int.reduceNe,Int.reduceLT,Int.reduceLE,Int.reduceGT,Int.reduceGE,Int.reduceNeg,Int.reduceToNat,Nat.reduceLT,Nat.reduceSub,tab,Try.results9,List.toList_toArray]) | (simp (disch := omega) only [ziw]))
    all_goals simp only [zrds]
  | false =>
    rw [hb, if_neg (by simp)] at hG
    obtain ⟨hfit, hs1, hs2, hs3, hs4⟩ := dr_small hb
    have h1 := new_spec x1 (by omega)
    have h2 := rnew_spec x1 (by omega)
    obtain ⟨a, e, hae, hfa⟩ : ∃ a e, newD x1 = (a, e) ∧ dfit a := by
      exact ⟨_, _, rfl, newD_fit x1⟩
    rw [hae] at h1 h2
    simp only [drV] at h1 h2
    have h3 := check_spec d hfit
    have h4 := rcheck_spec d hfit
    have h5 := dsame_spec a a hfa hfa
    rw [decide_eq_true rfl] at h5
    refine spec_ok Try.func9 rfl rfl (by kernel_rfl) (k := 2) rfl (by decide) ?_
    repeat' (first | (with_reducible first | refine ok_seq ?_ | refine xs1 ?_ | refine xs2 ?_ | refine xs3 ?_ | refine xb1 ?_ | refine xb2 ?_ | refine xb3 (by decide) ?_ | refine xb4 ?_ | refine xl2 ?_ | refine xl3 ?_ | refine xc2 ?_ | refine xc3 ?_ | refine ok_block ?_ | refine ok_scope ?_ | refine ok_skip ?_ | refine ok_label ?_ | refine ok_exit ?_ | refine ok_ret ?_ | refine ok_region (fun M hM => ?_) | refine vif_t ?_ | refine vif_f ?_ | refine fin_normal ?_ | refine fin_ret ?_ | (refine hM _ ?_; clear hM M) | refine vcallW_intro (call_data (by assumption) ?_ rfl ?_) | refine vcallHW_intro (hcall_data (by assumption) rfl ?_) ?_) | ((with_reducible refine nls_q ?_) <;> (first | rfl | assumption | (simp only [znl,nls_wr,nls_ints]; (first | done | fail)))) | (with_reducible refine ok_cond (by (simp only [↓reduceIte,zlk,Nat.reduceEqDiff,reduceCtorEq]); exact rfl) ?_) | ((with_reducible first | refine vif_intro (fun hc => ?_) (fun hc => ?_) | refine vifW_intro (fun hc => ?_) (fun hc => ?_)) <;> (try simp (disch := omega) only [zhb] at hc) <;> (try (exfalso; omega)) <;> (try subst hc)) | (with_reducible refine cndW_intro (by omega) ?_) | (simp (config := { maxSteps := 400000 }) only [↓zvs_pre,↓reduceIte,zvs,reduceCtorEq,Nat.reduceEqDiff,Nat.reduceAdd,Nat.reduceLeDiff,Nat.reduceMul,Int.reduceBNe,Int.reduceBEq,Int.reduceEq,Int.reduceNe,Int.reduceLT,Int.reduceLE,Int.reduceGT,Int.reduceGE,Int.reduceNeg,Int.reduceToNat,Nat.reduceLT,Nat.reduceSub,tab,Try.results9,List.toList_toArray]) | (simp (disch := omega) only [ziw]))
    refine ok_draw 17 (by kernel_rfl) (by decide +kernel) (by intro m hm; simp only [upd_ap,rows_cons,rows_nil]; (repeat (first | rfl | rw [if_neg (by omega)]))) (fun M hM => ?_); simp only [List.take_succ_cons,List.take_zero,List.drop_succ_cons,List.drop_zero]
    repeat' (first | (with_reducible first | refine ok_seq ?_ | refine xs1 ?_ | refine xs2 ?_ | refine xs3 ?_ | refine xb1 ?_ | refine xb2 ?_ | refine xb3 (by decide) ?_ | refine xb4 ?_ | refine xl2 ?_ | refine xl3 ?_ | refine xc2 ?_ | refine xc3 ?_ | refine ok_block ?_ | refine ok_scope ?_ | refine ok_skip ?_ | refine ok_label ?_ | refine ok_exit ?_ | refine ok_ret ?_ | refine ok_region (fun M hM => ?_) | refine vif_t ?_ | refine vif_f ?_ | refine fin_normal ?_ | refine fin_ret ?_ | (refine hM _ ?_; clear hM M) | refine vcallW_intro (call_data (by assumption) ?_ rfl ?_) | refine vcallHW_intro (hcall_data (by assumption) rfl ?_) ?_) | ((with_reducible refine nls_q ?_) <;> (first | rfl | assumption | (simp only [znl,nls_wr,nls_ints]; (first | done | fail)))) | (with_reducible refine ok_cond (by (simp only [↓reduceIte,zlk,Nat.reduceEqDiff,reduceCtorEq]); exact rfl) ?_) | ((with_reducible first | refine vif_intro (fun hc => ?_) (fun hc => ?_) | refine vifW_intro (fun hc => ?_) (fun hc => ?_)) <;> (try simp (disch := omega) only [zhb] at hc) <;> (try (exfalso; omega)) <;> (try subst hc)) | (with_reducible refine cndW_intro (by omega) ?_) | (simp (config := { maxSteps := 400000 }) only [↓zvs_pre,↓reduceIte,zvs,reduceCtorEq,Nat.reduceEqDiff,Nat.reduceAdd,Nat.reduceLeDiff,Nat.reduceMul,Int.reduceBNe,Int.reduceBEq,Int.reduceEq,Int.reduceNe,Int.reduceLT,Int.reduceLE,Int.reduceGT,Int.reduceGE,Int.reduceNeg,Int.reduceToNat,Nat.reduceLT,Nat.reduceSub,tab,Try.results9,List.toList_toArray]) | (simp (disch := omega) only [ziw]))
    all_goals simp only [zrds]
end Go.Proofs.Ytigkgdjghelaoaa.V
