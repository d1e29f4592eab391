/-
  Parts of the proof of StateFlows: N8, NB, NC, D2, N9, ND, N5, N6, N7.
  Conditions: none.
-/
import Derived.Test.YtlgldkjjbbbapaaWStateFlows06
import Derived.Laws.Closers25b
section
/-
  MACHINES, part 8: the document's numbers as bytes, zeros, and a volume's plan.
-/
set_option linter.unusedVariables false
set_option linter.unusedSimpArgs false
namespace Go.Proofs.Ytlgldkjjbbbapaa.V
open Go
set_option maxRecDepth 100000
-- nlx: jR
set_option maxHeartbeats 1000000
theorem zeros17_spec (n : Nat) (hn : n ≤ 1000) : Spec Try.prog 96 [.int .i64 n] (.str (List.replicate n 0)) := by
  refine spec_ok Try.func96 rfl rfl (by kernel_rfl) (k := 1) rfl (by decide) ?_
  repeat' (first | (with_reducible first | refine ju ?_ | refine xs1 ?_ | refine xs2 ?_ | refine xs3 ?_ | refine xb1 ?_ | refine xb2 ?_ | refine xb3 (by decide) ?_ | refine xb4 ?_ | refine xl2 ?_ | refine xl3 ?_ | refine xc2 ?_ | refine xc3 ?_ | refine jn ?_ | refine jo ?_ | refine jp ?_ | refine jq ?_ | refine jr ?_ | refine jt ?_ | refine jk (fun M hM => ?_) | refine vif_t ?_ | refine vif_f ?_ | refine jl ?_ | refine jm ?_ | (refine hM _ ?_; clear hM M) | refine ja (jc (by assumption) ?_ rfl ?_) | refine jb (jd (by assumption) rfl ?_) ?_) | ((with_reducible refine je ?_) <;> (first | rfl | assumption | (simp only [znl,jR]; (first | done | fail)))) | (with_reducible refine jf (by (simp only [↓reduceIte,zlk,Nat.reduceEqDiff,reduceCtorEq]); exact rfl) ?_) | ((with_reducible first | refine jg (fun hc => ?_) (fun hc => ?_) | refine jh (fun hc => ?_) (fun hc => ?_)) <;> (try simp (disch := omega) only [zhb] at hc) <;> (try (exfalso; omega)) <;> (try subst hc)) | (with_reducible refine ji (by omega) ?_) | (simp (config := { maxSteps := 400000 }) only [↓jv,↓reduceIte,zvs,reduceCtorEq,Nat.reduceEqDiff,Nat.reduceAdd,Nat.reduceLeDiff,Nat.reduceMul,Int.reduceBNe,Int.reduceBEq,Int.reduceEq,Int.reduceNe,Int.reduceLT,Int.reduceLE,Int.reduceGT,Int.reduceGE,Int.reduceNeg,Int.reduceToNat,Nat.reduceLT,Nat.reduceSub,tab,Try.results96,List.toList_toArray]) | (simp (disch := omega) only [ziw]))
  refine ok_loop (fun k : Nat => ⟨slots [(0, .int .i64 n), (2, .str []), (3, .str (List.replicate k 0)), (4, .int .i64 k)], rows [], 0⟩) (fun k => k ≤ n) (fun k => n - k) 0 ?_ (Nat.zero_le _) (fun k hk => ?_)
  · (refine Ren.mk [] false (by first | (intro h; cases h; done) | exact fun _ => rfl) (by first | decide | rfl | (simp [jQ]; done)) (by decide) ?_ ?_ <;> (repeat' (first | (with_reducible first | refine jw (by first | rfl | omega) | refine jx rfl | refine jy rfl | refine jz rfl (by first | rfl | assumption | (simp only [znl,jR]; (first | done | fail))) | refine jF ?_ ?_ (by first | rfl | omega) | refine MR.ptr ?_ ?_ | refine jA | refine jB | refine jC ?_ | refine jD rfl (by (simp only [↓reduceIte,zlk,Nat.reduceEqDiff,reduceCtorEq]); exact rfl) ?_ ?_ ?_ (by decide) | refine jE rfl (by first | rfl | assumption | (simp only [znl,jR]; (first | done | fail))) | refine MR.agg (MRL.cons ?_ ?_) | refine jE ?_ (by first | rfl | assumption | (simp only [znl,jR]; (first | done | fail))) | refine MR.fn ?_ | refine MRL.cons ?_ ?_ | refine MRL.nil | refine jG ?_ ?_ | refine jH | refine jI | refine jJ ?_ (by (simp only [↓reduceIte,zlk,Nat.reduceEqDiff,reduceCtorEq]); exact rfl) ?_ ?_ | refine MB.row ?_ | refine jK ?_ ?_ | refine MR.map ?_ ?_ | refine jL rfl (by first | rfl | assumption | (simp only [znl,jR]; (first | done | fail))) | rfl) | (simp only [znl,jR]; (first | done | fail)) | (refine jM rfl ?_) | exact jN rfl | exact jO rfl | ((with_reducible refine jP ?_) <;> rfl) | (simp only [↓reduceIte,zlk,Nat.reduceEqDiff,reduceCtorEq]) | (with_reducible first | refine jL ?_ ?_ | refine jF ?_ ?_ ?_ | refine jw ?_ | refine jx ?_ | refine jy ?_ | refine jz ?_ (by first | rfl | assumption | (simp only [znl,jR]; (first | done | fail))) | refine jE ?_ ?_))))
    all_goals (first | rfl | (simp; done) | trace_state)
  by_cases hlt : k < n
  · repeat' (first | (with_reducible first | refine ju ?_ | refine xs1 ?_ | refine xs2 ?_ | refine xs3 ?_ | refine xb1 ?_ | refine xb2 ?_ | refine xb3 (by decide) ?_ | refine xb4 ?_ | refine xl2 ?_ | refine xl3 ?_ | refine xc2 ?_ | refine xc3 ?_ | refine jn ?_ | refine jo ?_ | refine jp ?_ | refine jq ?_ | refine jr ?_ | refine jt ?_ | refine jk (fun M hM => ?_) | refine vif_t ?_ | refine vif_f ?_ | refine jl ?_ | refine jm ?_ | (refine hM _ ?_; clear hM M) | refine ja (jc (by assumption) ?_ rfl ?_) | refine jb (jd (by assumption) rfl ?_) ?_) | ((with_reducible refine je ?_) <;> (first | rfl | assumption | (simp only [znl,jR]; (first | done | fail)))) | (with_reducible refine jf (by (simp only [↓reduceIte,zlk,Nat.reduceEqDiff,reduceCtorEq]); exact rfl) ?_) | ((with_reducible first | refine jg (fun hc => ?_) (fun hc => ?_) | refine jh (fun hc => ?_) (fun hc => ?_)) <;> (try simp (disch := omega) only [zhb] at hc) <;> (try (exfalso; omega)) <;> (try subst hc)) | (with_reducible refine ji (by omega) ?_) | (simp (config := { maxSteps := 400000 }) only [↓jv,↓reduceIte,zvs,reduceCtorEq,Nat.reduceEqDiff,Nat.reduceAdd,Nat.reduceLeDiff,Nat.reduceMul,Int.reduceBNe,Int.reduceBEq,Int.reduceEq,Int.reduceNe,Int.reduceLT,Int.reduceLE,Int.reduceGT,Int.reduceGE,Int.reduceNeg,Int.reduceToNat,Nat.reduceLT,Nat.reduceSub,tab,List.length_replicate,Try.results96,List.toList_toArray]) | (simp (disch := omega) only [ziw]))
    refine xl1 (k + 1) ?_ (by show k + 1 ≤ n; omega) (by show n - (k + 1) < n - k; omega)
    (refine Ren.mk [] false (by first | (intro h; cases h; done) | exact fun _ => rfl) (by first | decide | rfl | (simp [jQ]; done)) (by decide) ?_ ?_ <;> (repeat' (first | (with_reducible first | refine jw (by first | rfl | omega) | refine jx rfl | refine jy rfl | refine jz rfl (by first | rfl | assumption | (simp only [znl,jR]; (first | done | fail))) | refine jF ?_ ?_ (by first | rfl | omega) | refine MR.ptr ?_ ?_ | refine jA | refine jB | refine jC ?_ | refine jD rfl (by (simp only [↓reduceIte,zlk,Nat.reduceEqDiff,reduceCtorEq]); exact rfl) ?_ ?_ ?_ (by decide) | refine jE rfl (by first | rfl | assumption | (simp only [znl,jR]; (first | done | fail))) | refine MR.agg (MRL.cons ?_ ?_) | refine jE ?_ (by first | rfl | assumption | (simp only [znl,jR]; (first | done | fail))) | refine MR.fn ?_ | refine MRL.cons ?_ ?_ | refine MRL.nil | refine jG ?_ ?_ | refine jH | refine jI | refine jJ ?_ (by (simp only [↓reduceIte,zlk,Nat.reduceEqDiff,reduceCtorEq]); exact rfl) ?_ ?_ | refine MB.row ?_ | refine jK ?_ ?_ | refine MR.map ?_ ?_ | refine jL rfl (by first | rfl | assumption | (simp only [znl,jR]; (first | done | fail))) | rfl) | (simp only [znl,jR]; (first | done | fail)) | (refine jM rfl ?_) | exact jN rfl | exact jO rfl | ((with_reducible refine jP ?_) <;> rfl) | (simp only [↓reduceIte,zlk,Nat.reduceEqDiff,reduceCtorEq]) | (with_reducible first | refine jL ?_ ?_ | refine jF ?_ ?_ ?_ | refine jw ?_ | refine jx ?_ | refine jy ?_ | refine jz ?_ (by first | rfl | assumption | (simp only [znl,jR]; (first | done | fail))) | refine jE ?_ ?_))))
    all_goals (first | rfl | (simp [List.replicate_succ']; done) | trace_state)
  · obtain rfl : k = n := by omega
    repeat' (first | (with_reducible first | refine ju ?_ | refine xs1 ?_ | refine xs2 ?_ | refine xs3 ?_ | refine xb1 ?_ | refine xb2 ?_ | refine xb3 (by decide) ?_ | refine xb4 ?_ | refine xl2 ?_ | refine xl3 ?_ | refine xc2 ?_ | refine xc3 ?_ | refine jn ?_ | refine jo ?_ | refine jp ?_ | refine jq ?_ | refine jr ?_ | refine jt ?_ | refine jk (fun M hM => ?_) | refine vif_t ?_ | refine vif_f ?_ | refine jl ?_ | refine jm ?_ | (refine hM _ ?_; clear hM M) | refine ja (jc (by assumption) ?_ rfl ?_) | refine jb (jd (by assumption) rfl ?_) ?_) | ((with_reducible refine je ?_) <;> (first | rfl | assumption | (simp only [znl,jR]; (first | done | fail)))) | (with_reducible refine jf (by (simp only [↓reduceIte,zlk,Nat.reduceEqDiff,reduceCtorEq]); exact rfl) ?_) | ((with_reducible first | refine jg (fun hc => ?_) (fun hc => ?_) | refine jh (fun hc => ?_) (fun hc => ?_)) <;> (try simp (disch := omega) only [zhb] at hc) <;> (try (exfalso; omega)) <;> (try subst hc)) | (with_reducible refine ji (by omega) ?_) | (simp (config := { maxSteps := 400000 }) only [↓jv,↓reduceIte,zvs,reduceCtorEq,Nat.reduceEqDiff,Nat.reduceAdd,Nat.reduceLeDiff,Nat.reduceMul,Int.reduceBNe,Int.reduceBEq,Int.reduceEq,Int.reduceNe,Int.reduceLT,Int.reduceLE,Int.reduceGT,Int.reduceGE,Int.reduceNeg,Int.reduceToNat,Nat.reduceLT,Nat.reduceSub,tab,Try.results96,List.toList_toArray]) | (simp (disch := omega) only [ziw]))
    simp only [zrds]
theorem zeros16_spec (n : Nat) (hn : n ≤ 1000) : Spec Try.prog 98 [.int .i64 n] (.str (List.replicate n 0)) := by
  refine spec_ok Try.func98 rfl rfl (by kernel_rfl) (k := 1) rfl (by decide) ?_
  repeat' (first | (with_reducible first | refine ju ?_ | refine xs1 ?_ | refine xs2 ?_ | refine xs3 ?_ | refine xb1 ?_ | refine xb2 ?_ | refine xb3 (by decide) ?_ | refine xb4 ?_ | refine xl2 ?_ | refine xl3 ?_ | refine xc2 ?_ | refine xc3 ?_ | refine jn ?_ | refine jo ?_ | refine jp ?_ | refine jq ?_ | refine jr ?_ | refine jt ?_ | refine jk (fun M hM => ?_) | refine vif_t ?_ | refine vif_f ?_ | refine jl ?_ | refine jm ?_ | (refine hM _ ?_; clear hM M) | refine ja (jc (by assumption) ?_ rfl ?_) | refine jb (jd (by assumption) rfl ?_) ?_) | ((with_reducible refine je ?_) <;> (first | rfl | assumption | (simp only [znl,jR]; (first | done | fail)))) | (with_reducible refine jf (by (simp only [↓reduceIte,zlk,Nat.reduceEqDiff,reduceCtorEq]); exact rfl) ?_) | ((with_reducible first | refine jg (fun hc => ?_) (fun hc => ?_) | refine jh (fun hc => ?_) (fun hc => ?_)) <;> (try simp (disch := omega) only [zhb] at hc) <;> (try (exfalso; omega)) <;> (try subst hc)) | (with_reducible refine ji (by omega) ?_) | (simp (config := { maxSteps := 400000 }) only [↓jv,↓reduceIte,zvs,reduceCtorEq,Nat.reduceEqDiff,Nat.reduceAdd,Nat.reduceLeDiff,Nat.reduceMul,Int.reduceBNe,Int.reduceBEq,Int.reduceEq,Int.reduceNe,Int.reduceLT,Int.reduceLE,Int.reduceGT,Int.reduceGE,Int.reduceNeg,Int.reduceToNat,Nat.reduceLT,Nat.reduceSub,tab,Try.results98,List.toList_toArray]) | (simp (disch := omega) only [ziw]))
  refine ok_loop (fun k : Nat => ⟨slots [(0, .int .i64 n), (2, .str []), (3, .str (List.replicate k 0)), (4, .int .i64 k)], rows [], 0⟩) (fun k => k ≤ n) (fun k => n - k) 0 ?_ (Nat.zero_le _) (fun k hk => ?_)
  · (refine Ren.mk [] false (by first | (intro h; cases h; done) | exact fun _ => rfl) (by first | decide | rfl | (simp [jQ]; done)) (by decide) ?_ ?_ <;> (repeat' (first | (with_reducible first | refine jw (by first | rfl | omega) | refine jx rfl | refine jy rfl | refine jz rfl (by first | rfl | assumption | (simp only [znl,jR]; (first | done | fail))) | refine jF ?_ ?_ (by first | rfl | omega) | refine MR.ptr ?_ ?_ | refine jA | refine jB | refine jC ?_ | refine jD rfl (by (simp only [↓reduceIte,zlk,Nat.reduceEqDiff,reduceCtorEq]); exact rfl) ?_ ?_ ?_ (by decide) | refine jE rfl (by first | rfl | assumption | (simp only [znl,jR]; (first | done | fail))) | refine MR.agg (MRL.cons ?_ ?_) | refine jE ?_ (by first | rfl | assumption | (simp only [znl,jR]; (first | done | fail))) | refine MR.fn ?_ | refine MRL.cons ?_ ?_ | refine MRL.nil | refine jG ?_ ?_ | refine jH | refine jI | refine jJ ?_ (by (simp only [↓reduceIte,zlk,Nat.reduceEqDiff,reduceCtorEq]); exact rfl) ?_ ?_ | refine MB.row ?_ | refine jK ?_ ?_ | refine MR.map ?_ ?_ | refine jL rfl (by first | rfl | assumption | (simp only [znl,jR]; (first | done | fail))) | rfl) | (simp only [znl,jR]; (first | done | fail)) | (refine jM rfl ?_) | exact jN rfl | exact jO rfl | ((with_reducible refine jP ?_) <;> rfl) | (simp only [↓reduceIte,zlk,Nat.reduceEqDiff,reduceCtorEq]) | (with_reducible first | refine jL ?_ ?_ | refine jF ?_ ?_ ?_ | refine jw ?_ | refine jx ?_ | refine jy ?_ | refine jz ?_ (by first | rfl | assumption | (simp only [znl,jR]; (first | done | fail))) | refine jE ?_ ?_))))
    all_goals (first | rfl | (simp; done) | trace_state)
  by_cases hlt : k < n
  · repeat' (first | (with_reducible first | refine ju ?_ | refine xs1 ?_ | refine xs2 ?_ | refine xs3 ?_ | refine xb1 ?_ | refine xb2 ?_ | refine xb3 (by decide) ?_ | refine xb4 ?_ | refine xl2 ?_ | refine xl3 ?_ | refine xc2 ?_ | refine xc3 ?_ | refine jn ?_ | refine jo ?_ | refine jp ?_ | refine jq ?_ | refine jr ?_ | refine jt ?_ | refine jk (fun M hM => ?_) | refine vif_t ?_ | refine vif_f ?_ | refine jl ?_ | refine jm ?_ | (refine hM _ ?_; clear hM M) | refine ja (jc (by assumption) ?_ rfl ?_) | refine jb (jd (by assumption) rfl ?_) ?_) | ((with_reducible refine je ?_) <;> (first | rfl | assumption | (simp only [znl,jR]; (first | done | fail)))) | (with_reducible refine jf (by (simp only [↓reduceIte,zlk,Nat.reduceEqDiff,reduceCtorEq]); exact rfl) ?_) | ((with_reducible first | refine jg (fun hc => ?_) (fun hc => ?_) | refine jh (fun hc => ?_) (fun hc => ?_)) <;> (try simp (disch := omega) only [zhb] at hc) <;> (try (exfalso; omega)) <;> (try subst hc)) | (with_reducible refine ji (by omega) ?_) | (simp (config := { maxSteps := 400000 }) only [↓jv,↓reduceIte,zvs,reduceCtorEq,Nat.reduceEqDiff,Nat.reduceAdd,Nat.reduceLeDiff,Nat.reduceMul,Int.reduceBNe,Int.reduceBEq,Int.reduceEq,Int.reduceNe,Int.reduceLT,Int.reduceLE,Int.reduceGT,Int.reduceGE,Int.reduceNeg,Int.reduceToNat,Nat.reduceLT,Nat.reduceSub,tab,List.length_replicate,Try.results98,List.toList_toArray]) | (simp (disch := omega) only [ziw]))
    refine xl1 (k + 1) ?_ (by show k + 1 ≤ n; omega) (by show n - (k + 1) < n - k; omega)
    (refine Ren.mk [] false (by first | (intro h; cases h; done) | exact fun _ => rfl) (by first | decide | rfl | (simp [jQ]; done)) (by decide) ?_ ?_ <;> (repeat' (first | (with_reducible first | refine jw (by first | rfl | omega) | refine jx rfl | refine jy rfl | refine jz rfl (by first | rfl | assumption | (simp only [znl,jR]; (first | done | fail))) | refine jF ?_ ?_ (by first | rfl | omega) | refine MR.ptr ?_ ?_ | refine jA | refine jB | refine jC ?_ | refine jD rfl (by (simp only [↓reduceIte,zlk,Nat.reduceEqDiff,reduceCtorEq]); exact rfl) ?_ ?_ ?_ (by decide) | refine jE rfl (by first | rfl | assumption | (simp only [znl,jR]; (first | done | fail))) | refine MR.agg (MRL.cons ?_ ?_) | refine jE ?_ (by first | rfl | assumption | (simp only [znl,jR]; (first | done | fail))) | refine MR.fn ?_ | refine MRL.cons ?_ ?_ | refine MRL.nil | refine jG ?_ ?_ | refine jH | refine jI | refine jJ ?_ (by (simp only [↓reduceIte,zlk,Nat.reduceEqDiff,reduceCtorEq]); exact rfl) ?_ ?_ | refine MB.row ?_ | refine jK ?_ ?_ | refine MR.map ?_ ?_ | refine jL rfl (by first | rfl | assumption | (simp only [znl,jR]; (first | done | fail))) | rfl) | (simp only [znl,jR]; (first | done | fail)) | (refine jM rfl ?_) | exact jN rfl | exact jO rfl | ((with_reducible refine jP ?_) <;> rfl) | (simp only [↓reduceIte,zlk,Nat.reduceEqDiff,reduceCtorEq]) | (with_reducible first | refine jL ?_ ?_ | refine jF ?_ ?_ ?_ | refine jw ?_ | refine jx ?_ | refine jy ?_ | refine jz ?_ (by first | rfl | assumption | (simp only [znl,jR]; (first | done | fail))) | refine jE ?_ ?_))))
    all_goals (first | rfl | (simp [List.replicate_succ']; done) | trace_state)
  · obtain rfl : k = n := by omega
    repeat' (first | (with_reducible first | refine ju ?_ | refine xs1 ?_ | refine xs2 ?_ | refine xs3 ?_ | refine xb1 ?_ | refine xb2 ?_ | refine xb3 (by decide) ?_ | refine xb4 ?_ | refine xl2 ?_ | refine xl3 ?_ | refine xc2 ?_ | refine xc3 ?_ | refine jn ?_ | refine jo ?_ | refine jp ?_ | refine jq ?_ | refine jr ?_ | refine jt ?_ | refine jk (fun M hM => ?_) | refine vif_t ?_ | refine vif_f ?_ | refine jl ?_ | refine jm ?_ | (refine hM _ ?_; clear hM M) | refine ja (jc (by assumption) ?_ rfl ?_) | refine jb (jd (by assumption) rfl ?_) ?_) | ((with_reducible refine je ?_) <;> (first | rfl | assumption | (simp only [znl,jR]; (first | done | fail)))) | (with_reducible refine jf (by (simp only [↓reduceIte,zlk,Nat.reduceEqDiff,reduceCtorEq]); exact rfl) ?_) | ((with_reducible first | refine jg (fun hc => ?_) (fun hc => ?_) | refine jh (fun hc => ?_) (fun hc => ?_)) <;> (try simp (disch := omega) only [zhb] at hc) <;> (try (exfalso; omega)) <;> (try subst hc)) | (with_reducible refine ji (by omega) ?_) | (simp (config := { maxSteps := 400000 }) only [↓jv,↓reduceIte,zvs,reduceCtorEq,Nat.reduceEqDiff,Nat.reduceAdd,Nat.reduceLeDiff,Nat.reduceMul,Int.reduceBNe,Int.reduceBEq,Int.reduceEq,Int.reduceNe,Int.reduceLT,Int.reduceLE,Int.reduceGT,Int.reduceGE,Int.reduceNeg,Int.reduceToNat,Nat.reduceLT,Nat.reduceSub,tab,Try.results98,List.toList_toArray]) | (simp (disch := omega) only [ziw]))
    simp only [zrds]
theorem byte_of (x : Nat) : (((x % 256 : Nat) : Int)) = ((UInt8.ofNat x).toNat : Int) := by
  rw [UInt8.toNat_ofNat']
theorem rnum_put_spec (n : Nat) (hn : n < 2 ^ 32) (z : Nat) (hz : z ≤ 8) : Spec Try.prog 125 [.int .u64 n, .int .i64 z] (.str (putLE n z)) := by
  refine spec_ok Try.func125 rfl rfl (by kernel_rfl) (k := 2) rfl (by decide) ?_
  repeat' (first | (with_reducible first | refine ju ?_ | refine xs1 ?_ | refine xs2 ?_ | refine xs3 ?_ | refine xb1 ?_ | refine xb2 ?_ | refine xb3 (by decide) ?_ | refine xb4 ?_ | refine xl2 ?_ | refine xl3 ?_ | refine xc2 ?_ | refine xc3 ?_ | refine jn ?_ | refine jo ?_ | refine jp ?_ | refine jq ?_ | refine jr ?_ | refine jt ?_ | refine jk (fun M hM => ?_) | refine vif_t ?_ | refine vif_f ?_ | refine jl ?_ | refine jm ?_ | (refine hM _ ?_; clear hM M) | refine ja (jc (by assumption) ?_ rfl ?_) | refine jb (jd (by assumption) rfl ?_) ?_) | ((with_reducible refine je ?_) <;> (first | rfl | assumption | (simp only [znl,jR]; (first | done | fail)))) | (with_reducible refine jf (by (simp only [↓reduceIte,zlk,Nat.reduceEqDiff,reduceCtorEq]); exact rfl) ?_) | ((with_reducible first | refine jg (fun hc => ?_) (fun hc => ?_) | refine jh (fun hc => ?_) (fun hc => ?_)) <;> (try simp (disch := omega) only [zhb] at hc) <;> (try (exfalso; omega)) <;> (try subst hc)) | (with_reducible refine ji (by omega) ?_) | (simp (config := { maxSteps := 400000 }) only [↓jv,↓reduceIte,zvs,reduceCtorEq,Nat.reduceEqDiff,Nat.reduceAdd,Nat.reduceLeDiff,Nat.reduceMul,Int.reduceBNe,Int.reduceBEq,Int.reduceEq,Int.reduceNe,Int.reduceLT,Int.reduceLE,Int.reduceGT,Int.reduceGE,Int.reduceNeg,Int.reduceToNat,Nat.reduceLT,Nat.reduceSub,tab,Try.results125,List.toList_toArray]) | (simp (disch := omega) only [ziw]))
  refine ok_loop (fun k : Nat => ⟨slots [(0, .int .u64 ((n / 256 ^ k : Nat) : Int)), (1, .int .i64 z), (4, .str []), (5, .str (putLE n k)), (6, .int .i64 k)], rows [], 0⟩) (fun k => k ≤ z) (fun k => z - k) 0 ?_ (Nat.zero_le _) (fun k hk => ?_)
  · (refine Ren.mk [] false (by first | (intro h; cases h; done) | exact fun _ => rfl) (by first | decide | rfl | (simp [jQ]; done)) (by decide) ?_ ?_ <;> (repeat' (first | (with_reducible first | refine jw (by first | rfl | omega) | refine jx rfl | refine jy rfl | refine jz rfl (by first | rfl | assumption | (simp only [znl,jR]; (first | done | fail))) | refine jF ?_ ?_ (by first | rfl | omega) | refine MR.ptr ?_ ?_ | refine jA | refine jB | refine jC ?_ | refine jD rfl (by (simp only [↓reduceIte,zlk,Nat.reduceEqDiff,reduceCtorEq]); exact rfl) ?_ ?_ ?_ (by decide) | refine jE rfl (by first | rfl | assumption | (simp only [znl,jR]; (first | done | fail))) | refine MR.agg (MRL.cons ?_ ?_) | refine jE ?_ (by first | rfl | assumption | (simp only [znl,jR]; (first | done | fail))) | refine MR.fn ?_ | refine MRL.cons ?_ ?_ | refine MRL.nil | refine jG ?_ ?_ | refine jH | refine jI | refine jJ ?_ (by (simp only [↓reduceIte,zlk,Nat.reduceEqDiff,reduceCtorEq]); exact rfl) ?_ ?_ | refine MB.row ?_ | refine jK ?_ ?_ | refine MR.map ?_ ?_ | refine jL rfl (by first | rfl | assumption | (simp only [znl,jR]; (first | done | fail))) | rfl) | (simp only [znl,jR]; (first | done | fail)) | (refine jM rfl ?_) | exact jN rfl | exact jO rfl | ((with_reducible refine jP ?_) <;> rfl) | (simp only [↓reduceIte,zlk,Nat.reduceEqDiff,reduceCtorEq]) | (with_reducible first | refine jL ?_ ?_ | refine jF ?_ ?_ ?_ | refine jw ?_ | refine jx ?_ | refine jy ?_ | refine jz ?_ (by first | rfl | assumption | (simp only [znl,jR]; (first | done | fail))) | refine jE ?_ ?_))))
    all_goals (first | rfl | (simp; done) | trace_state)
  have hq : n / 256 ^ k < 2 ^ 32 := Nat.lt_of_le_of_lt (Nat.div_le_self _ _) hn
  have e4 : n / 256 ^ (k + 1) = n / 256 ^ k / 256 := by rw [Nat.pow_succ, Nat.div_div_eq_div_mul]
  have e5 : putLE n (k + 1) = putLE n k ++ [UInt8.ofNat (n / 256 ^ k)] := rfl
  have hl := putLE_len n k
  by_cases hlt : k < z
  · obtain ⟨x, hx⟩ : ∃ x, x = n / 256 ^ k := ⟨_, rfl⟩
    rw [← hx] at hq e4 e5 ⊢
    have hb : bytesOf [VV.int .u8 ((x : Int) % 256)] = some [UInt8.ofNat x] := by
      have := bytesOf_enc [UInt8.ofNat x]
      rw [List.map_cons, List.map_nil] at this
      rw [← this, encB, ← byte_of x]
      norm_cast
    repeat' (first | (with_reducible first | refine ju ?_ | refine xs1 ?_ | refine xs2 ?_ | refine xs3 ?_ | refine xb1 ?_ | refine xb2 ?_ | refine xb3 (by decide) ?_ | refine xb4 ?_ | refine xl2 ?_ | refine xl3 ?_ | refine xc2 ?_ | refine xc3 ?_ | refine jn ?_ | refine jo ?_ | refine jp ?_ | refine jq ?_ | refine jr ?_ | refine jt ?_ | refine jk (fun M hM => ?_) | refine vif_t ?_ | refine vif_f ?_ | refine jl ?_ | refine jm ?_ | (refine hM _ ?_; clear hM M) | refine ja (jc (by assumption) ?_ rfl ?_) | refine jb (jd (by assumption) rfl ?_) ?_) | ((with_reducible refine je ?_) <;> (first | rfl | assumption | (simp only [znl,jR]; (first | done | fail)))) | (with_reducible refine jf (by (simp only [↓reduceIte,zlk,Nat.reduceEqDiff,reduceCtorEq]); exact rfl) ?_) | ((with_reducible first | refine jg (fun hc => ?_) (fun hc => ?_) | refine jh (fun hc => ?_) (fun hc => ?_)) <;> (try simp (disch := omega) only [zhb] at hc) <;> (try (exfalso; omega)) <;> (try subst hc)) | (with_reducible refine ji (by omega) ?_) | (simp (config := { maxSteps := 400000 }) only [↓jv,↓reduceIte,zvs,reduceCtorEq,Nat.reduceEqDiff,Nat.reduceAdd,Nat.reduceLeDiff,Nat.reduceMul,Int.reduceBNe,Int.reduceBEq,Int.reduceEq,Int.reduceNe,Int.reduceLT,Int.reduceLE,Int.reduceGT,Int.reduceGE,Int.reduceNeg,Int.reduceToNat,Nat.reduceLT,Nat.reduceSub,tab,hb,hl,Try.results125,List.toList_toArray]) | (simp (disch := omega) only [ziw]))
    all_goals first
      | (exfalso; omega)
      | (refine xl1 (k + 1) ?_ (by show k + 1 ≤ z; omega) (by show z - (k + 1) < z - k; omega); (refine Ren.mk [] false (by first | (intro h; cases h; done) | exact fun _ => rfl) (by first | decide | rfl | (simp [jQ]; done)) (by decide) ?_ ?_ <;> (repeat' (first | (with_reducible first | refine jw (by first | rfl | omega) | refine jx rfl | refine jy rfl | refine jz rfl (by first | rfl | assumption | (simp only [znl,jR]; (first | done | fail))) | refine jF ?_ ?_ (by first | rfl | omega) | refine MR.ptr ?_ ?_ | refine jA | refine jB | refine jC ?_ | refine jD rfl (by (simp only [↓reduceIte,zlk,Nat.reduceEqDiff,reduceCtorEq]); exact rfl) ?_ ?_ ?_ (by decide) | refine jE rfl (by first | rfl | assumption | (simp only [znl,jR]; (first | done | fail))) | refine MR.agg (MRL.cons ?_ ?_) | refine jE ?_ (by first | rfl | assumption | (simp only [znl,jR]; (first | done | fail))) | refine MR.fn ?_ | refine MRL.cons ?_ ?_ | refine MRL.nil | refine jG ?_ ?_ | refine jH | refine jI | refine jJ ?_ (by (simp only [↓reduceIte,zlk,Nat.reduceEqDiff,reduceCtorEq]); exact rfl) ?_ ?_ | refine MB.row ?_ | refine jK ?_ ?_ | refine MR.map ?_ ?_ | refine jL rfl (by first | rfl | assumption | (simp only [znl,jR]; (first | done | fail))) | rfl) | (simp only [znl,jR]; (first | done | fail)) | (refine jM rfl ?_) | exact jN rfl | exact jO rfl | ((with_reducible refine jP ?_) <;> rfl) | (simp only [↓reduceIte,zlk,Nat.reduceEqDiff,reduceCtorEq]) | (with_reducible first | refine jL ?_ ?_ | refine jF ?_ ?_ ?_ | refine jw ?_ | refine jx ?_ | refine jy ?_ | refine jz ?_ (by first | rfl | assumption | (simp only [znl,jR]; (first | done | fail))) | refine jE ?_ ?_)))); all_goals (first | (rw [e4]; omega) | (rw [e5]; done) | trace_state))
      | trace_state
  · obtain rfl : k = z := by omega
    repeat' (first | (with_reducible first | refine ju ?_ | refine xs1 ?_ | refine xs2 ?_ | refine xs3 ?_ | refine xb1 ?_ | refine xb2 ?_ | refine xb3 (by decide) ?_ | refine xb4 ?_ | refine xl2 ?_ | refine xl3 ?_ | refine xc2 ?_ | refine xc3 ?_ | refine jn ?_ | refine jo ?_ | refine jp ?_ | refine jq ?_ | refine jr ?_ | refine jt ?_ | refine jk (fun M hM => ?_) | refine vif_t ?_ | refine vif_f ?_ | refine jl ?_ | refine jm ?_ | (refine hM _ ?_; clear hM M) | refine ja (jc (by assumption) ?_ rfl ?_) | refine jb (jd (by assumption) rfl ?_) ?_) | ((with_reducible refine je ?_) <;> (first | rfl | assumption | (simp only [znl,jR]; (first | done | fail)))) | (with_reducible refine jf (by (simp only [↓reduceIte,zlk,Nat.reduceEqDiff,reduceCtorEq]); exact rfl) ?_) | ((with_reducible first | refine jg (fun hc => ?_) (fun hc => ?_) | refine jh (fun hc => ?_) (fun hc => ?_)) <;> (try simp (disch := omega) only [zhb] at hc) <;> (try (exfalso; omega)) <;> (try subst hc)) | (with_reducible refine ji (by omega) ?_) | (simp (config := { maxSteps := 400000 }) only [↓jv,↓reduceIte,zvs,reduceCtorEq,Nat.reduceEqDiff,Nat.reduceAdd,Nat.reduceLeDiff,Nat.reduceMul,Int.reduceBNe,Int.reduceBEq,Int.reduceEq,Int.reduceNe,Int.reduceLT,Int.reduceLE,Int.reduceGT,Int.reduceGE,Int.reduceNeg,Int.reduceToNat,Nat.reduceLT,Nat.reduceSub,tab,Try.results125,List.toList_toArray]) | (simp (disch := omega) only [ziw]))
    all_goals simp only [zrds]
def geoV (g : Geo) : VV := .agg [.int .i64 g.bl, .int .i64 g.ino, .int .i64 g.quo, .int .i64 g.map, .int .i64 g.tab, .int .i64 g.dat]
def planV (x : Geo × Int) : VV := .tup [geoV x.1, .int .i64 x.2]
theorem plan_spec (b i : Int) (hb : 0 ≤ b ∧ b ≤ 1000000) (hi : 0 ≤ i ∧ i ≤ 1000000) : Spec Try.prog 94 [.int .i64 b, .int .i64 i] (planV (planG b i)) := by
  unfold planG
  have h6 : ∀ a : VV, List.replicate 6 a = [a, a, a, a, a, a] := fun _ => rfl
  by_cases h1 : b < 16 ∨ 223 < b ∨ i < 4 ∨ 64 < i
  · rw [if_pos h1]
    refine spec_ok Try.func94 rfl rfl (by kernel_rfl) (k := 2) rfl (by decide) ?_
    repeat' (first | (with_reducible first | refine ju ?_ | refine xs1 ?_ | refine xs2 ?_ | refine xs3 ?_ | refine xb1 ?_ | refine xb2 ?_ | refine xb3 (by decide) ?_ | refine xb4 ?_ | refine xl2 ?_ | refine xl3 ?_ | refine xc2 ?_ | refine xc3 ?_ | refine jn ?_ | refine jo ?_ | refine jp ?_ | refine jq ?_ | refine jr ?_ | refine jt ?_ | refine jk (fun M hM => ?_) | refine vif_t ?_ | refine vif_f ?_ | refine jl ?_ | refine jm ?_ | (refine hM _ ?_; clear hM M) | refine ja (jc (by assumption) ?_ rfl ?_) | refine jb (jd (by assumption) rfl ?_) ?_) | ((with_reducible refine je ?_) <;> (first | rfl | assumption | (simp only [znl,jR]; (first | done | fail)))) | (with_reducible refine jf (by (simp only [↓reduceIte,zlk,Nat.reduceEqDiff,reduceCtorEq]); exact rfl) ?_) | ((with_reducible first | refine jg (fun hc => ?_) (fun hc => ?_) | refine jh (fun hc => ?_) (fun hc => ?_)) <;> (try simp (disch := omega) only [zhb] at hc) <;> (try (exfalso; omega)) <;> (try subst hc)) | (with_reducible refine ji (by omega) ?_) | (simp (config := { maxSteps := 400000 }) only [↓jv,↓reduceIte,zvs,reduceCtorEq,Nat.reduceEqDiff,Nat.reduceAdd,Nat.reduceLeDiff,Nat.reduceMul,Int.reduceBNe,Int.reduceBEq,Int.reduceEq,Int.reduceNe,Int.reduceLT,Int.reduceLE,Int.reduceGT,Int.reduceGE,Int.reduceNeg,Int.reduceToNat,Nat.reduceLT,Nat.reduceSub,tab,h6,Try.results94,List.toList_toArray]) | (simp (disch := omega) only [ziw]))
    all_goals first
      | (exfalso; omega)
      | (simp only [planV,geoV]; simp only [zrds]; done)
      | trace_state
  · rw [if_neg h1]
    by_cases h2 : b ≤ 3 + (i + 1) / 2
    · rw [if_pos h2]
      refine spec_ok Try.func94 rfl rfl (by kernel_rfl) (k := 2) rfl (by decide) ?_
      repeat' (first | (with_reducible first | refine ju ?_ | refine xs1 ?_ | refine xs2 ?_ | refine xs3 ?_ | refine xb1 ?_ | refine xb2 ?_ | refine xb3 (by decide) ?_ | refine xb4 ?_ | refine xl2 ?_ | refine xl3 ?_ | refine xc2 ?_ | refine xc3 ?_ | refine jn ?_ | refine jo ?_ | refine jp ?_ | refine jq ?_ | refine jr ?_ | refine jt ?_ | refine jk (fun M hM => ?_) | refine vif_t ?_ | refine vif_f ?_ | refine jl ?_ | refine jm ?_ | (refine hM _ ?_; clear hM M) | refine ja (jc (by assumption) ?_ rfl ?_) | refine jb (jd (by assumption) rfl ?_) ?_) | ((with_reducible refine je ?_) <;> (first | rfl | assumption | (simp only [znl,jR]; (first | done | fail)))) | (with_reducible refine jf (by (simp only [↓reduceIte,zlk,Nat.reduceEqDiff,reduceCtorEq]); exact rfl) ?_) | ((with_reducible first | refine jg (fun hc => ?_) (fun hc => ?_) | refine jh (fun hc => ?_) (fun hc => ?_)) <;> (try simp (disch := omega) only [zhb] at hc) <;> (try (exfalso; omega)) <;> (try subst hc)) | (with_reducible refine ji (by omega) ?_) | (simp (config := { maxSteps := 400000 }) only [↓jv,↓reduceIte,zvs,reduceCtorEq,Nat.reduceEqDiff,Nat.reduceAdd,Nat.reduceLeDiff,Nat.reduceMul,Int.reduceBNe,Int.reduceBEq,Int.reduceEq,Int.reduceNe,Int.reduceLT,Int.reduceLE,Int.reduceGT,Int.reduceGE,Int.reduceNeg,Int.reduceToNat,Nat.reduceLT,Nat.reduceSub,tab,h6,Try.results94,List.toList_toArray]) | (simp (disch := omega) only [ziw]))
      all_goals first
        | (exfalso; omega)
        | (simp only [planV,geoV]; simp only [zrds]; done)
        | trace_state
    · rw [if_neg h2]
      refine spec_ok Try.func94 rfl rfl (by kernel_rfl) (k := 2) rfl (by decide) ?_
      repeat' (first | (with_reducible first | refine ju ?_ | refine xs1 ?_ | refine xs2 ?_ | refine xs3 ?_ | refine xb1 ?_ | refine xb2 ?_ | refine xb3 (by decide) ?_ | refine xb4 ?_ | refine xl2 ?_ | refine xl3 ?_ | refine xc2 ?_ | refine xc3 ?_ | refine jn ?_ | refine jo ?_ | refine jp ?_ | refine jq ?_ | refine jr ?_ | refine jt ?_ | refine jk (fun M hM => ?_) | refine vif_t ?_ | refine vif_f ?_ | refine jl ?_ | refine jm ?_ | (refine hM _ ?_; clear hM M) | refine ja (jc (by assumption) ?_ rfl ?_) | refine jb (jd (by assumption) rfl ?_) ?_) | ((with_reducible refine je ?_) <;> (first | rfl | assumption | (simp only [znl,jR]; (first | done | fail)))) | (with_reducible refine jf (by (simp only [↓reduceIte,zlk,Nat.reduceEqDiff,reduceCtorEq]); exact rfl) ?_) | ((with_reducible first | refine jg (fun hc => ?_) (fun hc => ?_) | refine jh (fun hc => ?_) (fun hc => ?_)) <;> (try simp (disch := omega) only [zhb] at hc) <;> (try (exfalso; omega)) <;> (try subst hc)) | (with_reducible refine ji (by omega) ?_) | (simp (config := { maxSteps := 400000 }) only [↓jv,↓reduceIte,zvs,reduceCtorEq,Nat.reduceEqDiff,Nat.reduceAdd,Nat.reduceLeDiff,Nat.reduceMul,Int.reduceBNe,Int.reduceBEq,Int.reduceEq,Int.reduceNe,Int.reduceLT,Int.reduceLE,Int.reduceGT,Int.reduceGE,Int.reduceNeg,Int.reduceToNat,Nat.reduceLT,Nat.reduceSub,tab,h6,Try.results94,List.toList_toArray]) | (simp (disch := omega) only [ziw]))
      all_goals first
        | (exfalso; omega)
        | (simp only [planV,geoV]; simp only [zrds]; done)
        | trace_state
end Go.Proofs.Ytlgldkjjbbbapaa.V
end
section
/-
  MACHINES, part 11: bits of a volume's map, its first block.
-/
set_option linter.unusedVariables false
set_option linter.unusedSimpArgs false
namespace Go.Proofs.Ytlgldkjjbbbapaa.V
open Go
set_option maxRecDepth 100000
-- nlx: jR
set_option maxHeartbeats 4000000
theorem bit_spec (s : List UInt8) (hs : s.length = 128) (i : Nat) (hi : i < 1024) : Spec Try.prog 129 [.str s, .int .i64 i] (.bool (bitB s i)) := by
  refine spec_ok Try.func129 rfl rfl (by kernel_rfl) (k := 2) rfl (by decide) ?_
  repeat' (first | (with_reducible first | refine ju ?_ | refine xs1 ?_ | refine xs2 ?_ | refine xs3 ?_ | refine xb1 ?_ | refine xb2 ?_ | refine xb3 (by decide) ?_ | refine xb4 ?_ | refine xl2 ?_ | refine xl3 ?_ | refine xc2 ?_ | refine xc3 ?_ | refine jn ?_ | refine jo ?_ | refine jp ?_ | refine jq ?_ | refine jr ?_ | refine jt ?_ | refine jk (fun M hM => ?_) | refine vif_t ?_ | refine vif_f ?_ | refine jl ?_ | refine jm ?_ | (refine hM _ ?_; clear hM M) | refine ja (jc (by assumption) ?_ rfl ?_) | refine jb (jd (by assumption) rfl ?_) ?_) | ((with_reducible refine je ?_) <;> (first | rfl | assumption | (simp only [znl,jR]; (first | done | fail)))) | (with_reducible refine jf (by (simp only [↓reduceIte,zlk,Nat.reduceEqDiff,reduceCtorEq]); exact rfl) ?_) | ((with_reducible first | refine jg (fun hc => ?_) (fun hc => ?_) | refine jh (fun hc => ?_) (fun hc => ?_)) <;> (try simp (disch := omega) only [zhb] at hc) <;> (try (exfalso; omega)) <;> (try subst hc)) | (with_reducible refine ji (by omega) ?_) | (simp (config := { maxSteps := 400000 }) only [↓jv,↓reduceIte,zvs,reduceCtorEq,Nat.reduceEqDiff,Nat.reduceAdd,Nat.reduceLeDiff,Nat.reduceMul,Int.reduceBNe,Int.reduceBEq,Int.reduceEq,Int.reduceNe,Int.reduceLT,Int.reduceLE,Int.reduceGT,Int.reduceGE,Int.reduceNeg,Int.reduceToNat,Nat.reduceLT,Nat.reduceSub,tab,Try.results129,List.toList_toArray]) | (simp (disch := omega) only [ziw]))
  unfold bitB
  simp only [zrds]
theorem head_spec (g : Geo) (h1 : 0 ≤ g.bl ∧ g.bl < 1000) (h2 : 0 ≤ g.ino ∧ g.ino < 1000) : Spec Try.prog 95 [geoV g] (.str (headG g.bl g.ino)) := by
  obtain ⟨b, i, q, mp, tb, da⟩ := g
  dsimp only at h1 h2
  obtain ⟨b, rfl⟩ := Int.eq_ofNat_of_zero_le h1.1
  obtain ⟨i, rfl⟩ := Int.eq_ofNat_of_zero_le h2.1
  have hA : Spec Try.prog 125 [.int .u64 b, .int .i64 2] (.str (putLE b 2)) := rnum_put_spec b (by omega) 2 (by omega)
  have hB : Spec Try.prog 125 [.int .u64 i, .int .i64 2] (.str (putLE i 2)) := rnum_put_spec i (by omega) 2 (by omega)
  have hC : Spec Try.prog 96 [.int .i64 120] (.str (List.replicate 120 0)) := zeros17_spec 120 (by omega)
  have l1 := putLE_len b 2
  have l2 := putLE_len i 2
  simp only [geoV,headG,Int.toNat_natCast]
  refine spec_ok Try.func95 rfl rfl (by kernel_rfl) (k := 1) rfl (by decide) ?_
  repeat' (first | (with_reducible first | refine ju ?_ | refine xs1 ?_ | refine xs2 ?_ | refine xs3 ?_ | refine xb1 ?_ | refine xb2 ?_ | refine xb3 (by decide) ?_ | refine xb4 ?_ | refine xl2 ?_ | refine xl3 ?_ | refine xc2 ?_ | refine xc3 ?_ | refine jn ?_ | refine jo ?_ | refine jp ?_ | refine jq ?_ | refine jr ?_ | refine jt ?_ | refine jk (fun M hM => ?_) | refine vif_t ?_ | refine vif_f ?_ | refine jl ?_ | refine jm ?_ | (refine hM _ ?_; clear hM M) | refine ja (jc (by assumption) ?_ rfl ?_) | refine jb (jd (by assumption) rfl ?_) ?_) | ((with_reducible refine je ?_) <;> (first | rfl | assumption | (simp only [znl,jR]; (first | done | fail)))) | (with_reducible refine jf (by (simp only [↓reduceIte,zlk,Nat.reduceEqDiff,reduceCtorEq]); exact rfl) ?_) | ((with_reducible first | refine jg (fun hc => ?_) (fun hc => ?_) | refine jh (fun hc => ?_) (fun hc => ?_)) <;> (try simp (disch := omega) only [zhb] at hc) <;> (try (exfalso; omega)) <;> (try subst hc)) | (with_reducible refine ji (by omega) ?_) | (simp (config := { maxSteps := 400000 }) only [↓jv,↓reduceIte,zvs,reduceCtorEq,Nat.reduceEqDiff,Nat.reduceAdd,Nat.reduceLeDiff,Nat.reduceMul,Int.reduceBNe,Int.reduceBEq,Int.reduceEq,Int.reduceNe,Int.reduceLT,Int.reduceLE,Int.reduceGT,Int.reduceGE,Int.reduceNeg,Int.reduceToNat,Nat.reduceLT,Nat.reduceSub,tab,l1,l2,Try.results95,List.toList_toArray]) | (simp (disch := omega) only [ziw]))
  refine ok_draw 12 (by kernel_rfl) (by decide +kernel) (by intro m hm; simp only [upd_ap,rows_cons,rows_nil]; (repeat (first | rfl | rw [if_neg (by omega)]))) (fun M hM => ?_); simp only [List.take_succ_cons,List.take_zero,List.drop_succ_cons,List.drop_zero]
  repeat' (first | (with_reducible first | refine ju ?_ | refine xs1 ?_ | refine xs2 ?_ | refine xs3 ?_ | refine xb1 ?_ | refine xb2 ?_ | refine xb3 (by decide) ?_ | refine xb4 ?_ | refine xl2 ?_ | refine xl3 ?_ | refine xc2 ?_ | refine xc3 ?_ | refine jn ?_ | refine jo ?_ | refine jp ?_ | refine jq ?_ | refine jr ?_ | refine jt ?_ | refine jk (fun M hM => ?_) | refine vif_t ?_ | refine vif_f ?_ | refine jl ?_ | refine jm ?_ | (refine hM _ ?_; clear hM M) | refine ja (jc (by assumption) ?_ rfl ?_) | refine jb (jd (by assumption) rfl ?_) ?_) | ((with_reducible refine je ?_) <;> (first | rfl | assumption | (simp only [znl,jR]; (first | done | fail)))) | (with_reducible refine jf (by (simp only [↓reduceIte,zlk,Nat.reduceEqDiff,reduceCtorEq]); exact rfl) ?_) | ((with_reducible first | refine jg (fun hc => ?_) (fun hc => ?_) | refine jh (fun hc => ?_) (fun hc => ?_)) <;> (try simp (disch := omega) only [zhb] at hc) <;> (try (exfalso; omega)) <;> (try subst hc)) | (with_reducible refine ji (by omega) ?_) | (simp (config := { maxSteps := 400000 }) only [↓jv,↓reduceIte,zvs,reduceCtorEq,Nat.reduceEqDiff,Nat.reduceAdd,Nat.reduceLeDiff,Nat.reduceMul,Int.reduceBNe,Int.reduceBEq,Int.reduceEq,Int.reduceNe,Int.reduceLT,Int.reduceLE,Int.reduceGT,Int.reduceGE,Int.reduceNeg,Int.reduceToNat,Nat.reduceLT,Nat.reduceSub,tab,l1,l2,Try.results95,List.toList_toArray]) | (simp (disch := omega) only [ziw]))
  all_goals simp only [zrds]
abbrev geoSh : Sh := .st [.cell, .cell, .cell, .cell, .cell, .cell]
theorem byte_x (a b : Int) : bytesOf [VV.int .u8 (bits .xor .u8 a b)] = some [UInt8.ofNat (bits .xor .u8 a b).toNat] := by
  have h1 := bits_lo_u8 .xor a b
  have h2 := bits_hi_u8 .xor a b
  simp only [bytesOf]
  rw [if_pos (by omega)]
def turnB (s : List UInt8) (i : Nat) : List UInt8 := List.take ((i : Int) / 8).toNat s ++ [UInt8.ofNat (bits BinOp.xor IntKind.u8 ((s.getD ((i : Int) / 8).toNat 0).toNat : Int) (IntKind.u8.wrap (1 * 2 ^ min ((i : Int) % 8).toNat IntKind.u8.bits))).toNat] ++ List.take (s.length - ((i : Int) / 8 + 1).toNat) (List.drop ((i : Int) / 8 + 1).toNat s)
theorem turnB_len (s : List UInt8) (hs : s.length = 128) (i : Nat) (hi : i < 1024) : (turnB s i).length = 128 := by
  unfold turnB
  simp only [List.length_append,List.length_take,List.length_drop,List.length_cons,List.length_nil]
  omega
theorem turn_specX (s : List UInt8) (hs : s.length = 128) (i : Nat) (hi : i < 1024) : Spec Try.prog 97 [.str s, .int .i64 i] (.str (turnB s i)) := by
  refine spec_ok Try.func97 rfl rfl (by kernel_rfl) (k := 2) rfl (by decide) ?_
  repeat' (first | (with_reducible first | refine ju ?_ | refine xs1 ?_ | refine xs2 ?_ | refine xs3 ?_ | refine xb1 ?_ | refine xb2 ?_ | refine xb3 (by decide) ?_ | refine xb4 ?_ | refine xl2 ?_ | refine xl3 ?_ | refine xc2 ?_ | refine xc3 ?_ | refine jn ?_ | refine jo ?_ | refine jp ?_ | refine jq ?_ | refine jr ?_ | refine jt ?_ | refine jk (fun M hM => ?_) | refine vif_t ?_ | refine vif_f ?_ | refine jl ?_ | refine jm ?_ | (refine hM _ ?_; clear hM M) | refine ja (jc (by assumption) ?_ rfl ?_) | refine jb (jd (by assumption) rfl ?_) ?_) | ((with_reducible refine je ?_) <;> (first | rfl | assumption | (simp only [znl,jR]; (first | done | fail)))) | (with_reducible refine jf (by (simp only [↓reduceIte,zlk,Nat.reduceEqDiff,reduceCtorEq]); exact rfl) ?_) | ((with_reducible first | refine jg (fun hc => ?_) (fun hc => ?_) | refine jh (fun hc => ?_) (fun hc => ?_)) <;> (try simp (disch := omega) only [zhb] at hc) <;> (try (exfalso; omega)) <;> (try subst hc)) | (with_reducible refine ji (by omega) ?_) | (simp (config := { maxSteps := 400000 }) only [↓jv,↓reduceIte,zvs,reduceCtorEq,Nat.reduceEqDiff,Nat.reduceAdd,Nat.reduceLeDiff,Nat.reduceMul,Int.reduceBNe,Int.reduceBEq,Int.reduceEq,Int.reduceNe,Int.reduceLT,Int.reduceLE,Int.reduceGT,Int.reduceGE,Int.reduceNeg,Int.reduceToNat,Nat.reduceLT,Nat.reduceSub,tab,Try.results97,List.toList_toArray]) | (simp (disch := omega) only [ziw]))
  refine ok_draw 21 (by kernel_rfl) (by decide +kernel) (by intro m hm; simp only [upd_ap,rows_cons,rows_nil]; (repeat (first | rfl | rw [if_neg (by omega)]))) (fun M hM => ?_); simp only [List.take_succ_cons,List.take_zero,List.drop_succ_cons,List.drop_zero]
  repeat' (first | (with_reducible first | refine ju ?_ | refine xs1 ?_ | refine xs2 ?_ | refine xs3 ?_ | refine xb1 ?_ | refine xb2 ?_ | refine xb3 (by decide) ?_ | refine xb4 ?_ | refine xl2 ?_ | refine xl3 ?_ | refine xc2 ?_ | refine xc3 ?_ | refine jn ?_ | refine jo ?_ | refine jp ?_ | refine jq ?_ | refine jr ?_ | refine jt ?_ | refine jk (fun M hM => ?_) | refine vif_t ?_ | refine vif_f ?_ | refine jl ?_ | refine jm ?_ | (refine hM _ ?_; clear hM M) | refine ja (jc (by assumption) ?_ rfl ?_) | refine jb (jd (by assumption) rfl ?_) ?_) | ((with_reducible refine je ?_) <;> (first | rfl | assumption | (simp only [znl,jR]; (first | done | fail)))) | (with_reducible refine jf (by (simp only [↓reduceIte,zlk,Nat.reduceEqDiff,reduceCtorEq]); exact rfl) ?_) | ((with_reducible first | refine jg (fun hc => ?_) (fun hc => ?_) | refine jh (fun hc => ?_) (fun hc => ?_)) <;> (try simp (disch := omega) only [zhb] at hc) <;> (try (exfalso; omega)) <;> (try subst hc)) | (with_reducible refine ji (by omega) ?_) | (simp (config := { maxSteps := 400000 }) only [↓jv,↓reduceIte,zvs,reduceCtorEq,Nat.reduceEqDiff,Nat.reduceAdd,Nat.reduceLeDiff,Nat.reduceMul,Int.reduceBNe,Int.reduceBEq,Int.reduceEq,Int.reduceNe,Int.reduceLT,Int.reduceLE,Int.reduceGT,Int.reduceGE,Int.reduceNeg,Int.reduceToNat,Nat.reduceLT,Nat.reduceSub,tab,byte_x,Try.results97,List.toList_toArray]) | (simp (disch := omega) only [ziw]))
  exact rd_str rfl
end Go.Proofs.Ytlgldkjjbbbapaa.V
end
section
/-
  MACHINES, part 12: a small machine without anything.
-/
set_option linter.unusedVariables false
set_option linter.unusedSimpArgs false
namespace Go.Proofs.Ytlgldkjjbbbapaa.V
open Go
set_option maxRecDepth 100000
-- nlx: jR, jS, jT, jU, jV, jW, jX
set_option maxHeartbeats 4000000
def bl1 (L Z : List UInt8) (j : Nat) : List VV := (L :: List.replicate j Z).map .str
def bl2 (L Z w : List UInt8) : List VV := (L :: Z :: w :: List.replicate 21 Z).map .str
theorem bl1_succ (L Z : List UInt8) (j : Nat) : bl1 L Z j ++ [.str Z] = bl1 L Z (j + 1) := by simp [bl1, List.replicate_succ']
theorem bl1_len (L Z : List UInt8) (j : Nat) : (bl1 L Z j).length = j + 1 := by simp [bl1]
theorem bl2_len (L Z w : List UInt8) : (bl2 L Z w).length = 24 := by simp [bl2]
theorem bl1_2 (L Z : List UInt8) : bl1 L Z 23 = bl2 L Z Z := rfl
theorem bl2_at (L Z w : List UInt8) : (bl2 L Z w)[2]? = some (.str w) := rfl
theorem bl2_set (L Z w x : List UInt8) : (bl2 L Z w).set 2 (.str x) = bl2 L Z x := rfl
theorem bl1_nl (L Z : List UInt8) (j : Nat) : nls (bl1 L Z j) = true := nls_mapStr _
theorem bl2_nl (L Z w : List UInt8) : nls (bl2 L Z w) = true := nls_mapStr _
def bitsT (k : Nat) : List UInt8 := Nat.rec (List.replicate 128 0) (fun k w => turnB w k) k
theorem bitsT_len (k : Nat) (hk : k ≤ 6) : (bitsT k).length = 128 := by
  induction k with
  | zero => exact List.length_replicate
  | succ k ih => exact turnB_len _ (ih (by omega)) k (by omega)
def vol0 : Frames := headG 24 6 :: List.replicate 128 0 :: bitsT 6 :: List.replicate 21 (List.replicate 128 0)
theorem vol0_len : vol0.length = 24 := rfl
theorem vol0_all : ∀ s ∈ vol0, s.length = 128 := by
  intro s hs
  simp only [vol0,List.mem_cons,List.mem_replicate] at hs
  rcases hs with rfl | rfl | rfl | ⟨_, rfl⟩
  · simp [headG, putLE_len]
  · exact List.length_replicate
  · exact bitsT_len 6 (by omega)
  · exact List.length_replicate
theorem vol0_ok : volE vol0 = 0 := by kernel_rfl
theorem fmt17_spec : Spec Try.prog 62 [.int .i64 24, .int .i64 6] (.tup [encStrs vol0, .int .i64 0]) := by
  have hP : Spec Try.prog 94 [.int .i64 24, .int .i64 6] (.tup [.agg [.int .i64 24, .int .i64 6, .int .i64 1, .int .i64 2, .int .i64 3, .int .i64 6], .int .i64 0]) := plan_spec 24 6 (by omega) (by omega)
  have hH : Spec Try.prog 95 [.agg [.int .i64 24, .int .i64 6, .int .i64 1, .int .i64 2, .int .i64 3, .int .i64 6]] (.str (headG 24 6)) := head_spec ⟨24, 6, 1, 2, 3, 6⟩ (by decide) (by decide)
  have hL : (headG 24 6).length = 128 := by simp [headG, putLE_len]
  have hZ : Spec Try.prog 96 [.int .i64 128] (.str (List.replicate 128 0)) := zeros17_spec 128 (by omega)
  have hv0 : vol0 = headG 24 6 :: List.replicate 128 0 :: bitsT 6 :: List.replicate 21 (List.replicate 128 0) := rfl
  have key : ∃ t : Nat → List UInt8, t = bitsT ∧ t 0 = List.replicate 128 0 ∧ ∀ k, k < 6 → (t k).length = 128 ∧ (t (k + 1)).length = 128 ∧ Spec Try.prog 97 [.str (t k), .int .i64 k] (.str (t (k + 1))) :=
    ⟨bitsT, rfl, rfl, fun k hk => ⟨bitsT_len k (by omega), bitsT_len (k + 1) (by omega), turn_specX _ (bitsT_len k (by omega)) k (by omega)⟩⟩
  obtain ⟨t, et, t0, ht⟩ := key
  rw [hv0, ← et]
  clear et hv0
  obtain ⟨Z, eZ⟩ : ∃ Z : List UInt8, Z = List.replicate 128 0 := ⟨_, rfl⟩
  have hZl : Z.length = 128 := by rw [eZ, List.length_replicate]
  rw [← eZ] at hZ t0
  rw [← eZ]
  clear eZ
  generalize headG 24 6 = L at hH hL
  have h6 : ∀ a : VV, List.replicate 6 a = [a, a, a, a, a, a] := fun _ => rfl
  obtain ⟨b1, e1, b1s, b1l, b1n⟩ : ∃ b1 : Nat → List VV, b1 = bl1 L Z ∧ (∀ j, b1 j ++ [.str Z] = b1 (j + 1)) ∧ (∀ j, (b1 j).length = j + 1) ∧ ∀ j, nls (b1 j) = true := ⟨_, rfl, bl1_succ L Z, bl1_len L Z, bl1_nl L Z⟩
  obtain ⟨b2, e2, b2l, b2n, b2a, b2s⟩ : ∃ b2 : List UInt8 → List VV, b2 = bl2 L Z ∧ (∀ w, (b2 w).length = 24) ∧ (∀ w, nls (b2 w) = true) ∧ (∀ w, (b2 w)[2]? = some (.str w)) ∧ ∀ w x, (b2 w).set 2 (.str x) = b2 x := ⟨_, rfl, bl2_len L Z, bl2_nl L Z, bl2_at L Z, bl2_set L Z⟩
  have e12 : b1 23 = b2 Z := by rw [e1, e2]; exact bl1_2 L Z
  have e10 : [.str L] = b1 0 := by rw [e1]; rfl
  have e26 : b2 (t 6) = (L :: Z :: t 6 :: List.replicate 21 Z).map .str := by rw [e2]; rfl
  have b10n := b1n 0
  have b20n := b2n Z
  clear e1 e2
  refine spec_ok Try.func62 rfl rfl (by kernel_rfl) (k := 2) rfl (by decide) ?_
  repeat' (first | (with_reducible first | refine ju ?_ | refine xs1 ?_ | refine xs2 ?_ | refine xs3 ?_ | refine xb1 ?_ | refine xb2 ?_ | refine xb3 (by decide) ?_ | refine xb4 ?_ | refine xl2 ?_ | refine xl3 ?_ | refine xc2 ?_ | refine xc3 ?_ | refine jn ?_ | refine jo ?_ | refine jp ?_ | refine jq ?_ | refine jr ?_ | refine jt ?_ | refine jk (fun M hM => ?_) | refine vif_t ?_ | refine vif_f ?_ | refine jl ?_ | refine jm ?_ | (refine hM _ ?_; clear hM M) | refine ja (jc (by assumption) ?_ rfl ?_) | refine jb (jd (by assumption) rfl ?_) ?_) | ((with_reducible refine je ?_) <;> (first | rfl | assumption | (simp only [znl,jR,jS,jT,jU,jV,jW,jX]; (first | done | fail)))) | (with_reducible refine jf (by (simp only [↓reduceIte,zlk,Nat.reduceEqDiff,reduceCtorEq]); exact rfl) ?_) | ((with_reducible first | refine jg (fun hc => ?_) (fun hc => ?_) | refine jh (fun hc => ?_) (fun hc => ?_)) <;> (try simp (disch := omega) only [zhb] at hc) <;> (try (exfalso; omega)) <;> (try subst hc)) | (with_reducible refine ji (by omega) ?_) | (simp (config := { maxSteps := 400000 }) only [↓jv,↓reduceIte,zvs,reduceCtorEq,Nat.reduceEqDiff,Nat.reduceAdd,Nat.reduceLeDiff,Nat.reduceMul,Int.reduceBNe,Int.reduceBEq,Int.reduceEq,Int.reduceNe,Int.reduceLT,Int.reduceLE,Int.reduceGT,Int.reduceGE,Int.reduceNeg,Int.reduceToNat,Nat.reduceLT,Nat.reduceSub,tab,h6,Try.results62,List.toList_toArray]) | (simp (disch := omega) only [ziw]))
  refine ok_loop (fun j : Nat => ⟨slots [(0, .int .i64 24), (6, .ptr 0 []), (8, .sl (some (1, [], 0)) (j + 1)), (9, .int .i64 ((j + 1 : Nat) : Int))], rows [(0, .row geoSh (.agg [.int .i64 24, .int .i64 6, .int .i64 1, .int .i64 2, .int .i64 3, .int .i64 6])), (1, .row (.arr (j + 1) .cell) (.agg (b1 j)))], 2⟩) (fun j => j ≤ 23) (fun j => 23 - j) 0 ?_ (Nat.zero_le _) (fun j hj => ?_)
  · (refine Ren.mk [(0, 0), (1, 1)] false (by first | (intro h; cases h; done) | exact fun _ => rfl) (by first | decide | rfl | (simp [jQ]; done)) (by decide) ?_ ?_ <;> (repeat' (first | (with_reducible first | refine jw (by first | rfl | omega) | refine jx rfl | refine jy rfl | refine jz rfl (by first | rfl | assumption | (simp only [znl,jR,jS,jT,jU,jV,jW,jX]; (first | done | fail))) | refine jF ?_ ?_ (by first | rfl | omega) | refine MR.ptr ?_ ?_ | refine jA | refine jB | refine jC ?_ | refine jD rfl (by (simp only [↓reduceIte,zlk,Nat.reduceEqDiff,reduceCtorEq]); exact rfl) ?_ ?_ ?_ (by decide) | refine jE rfl (by first | rfl | assumption | (simp only [znl,jR,jS,jT,jU,jV,jW,jX]; (first | done | fail))) | refine MR.agg (MRL.cons ?_ ?_) | refine jE ?_ (by first | rfl | assumption | (simp only [znl,jR,jS,jT,jU,jV,jW,jX]; (first | done | fail))) | refine MR.fn ?_ | refine MRL.cons ?_ ?_ | refine MRL.nil | refine jG ?_ ?_ | refine jH | refine jI | refine jJ ?_ (by (simp only [↓reduceIte,zlk,Nat.reduceEqDiff,reduceCtorEq]); exact rfl) ?_ ?_ | refine MB.row ?_ | refine jK ?_ ?_ | refine MR.map ?_ ?_ | refine jL rfl (by first | rfl | assumption | (simp only [znl,jR,jS,jT,jU,jV,jW,jX]; (first | done | fail))) | rfl) | (simp only [znl,jR,jS,jT,jU,jV,jW,jX]; (first | done | fail)) | (refine jM rfl ?_) | exact jN rfl | exact jO rfl | ((with_reducible refine jP ?_) <;> rfl) | (simp only [↓reduceIte,zlk,Nat.reduceEqDiff,reduceCtorEq]) | (with_reducible first | refine jL ?_ ?_ | refine jF ?_ ?_ ?_ | refine jw ?_ | refine jx ?_ | refine jy ?_ | refine jz ?_ (by first | rfl | assumption | (simp only [znl,jR,jS,jT,jU,jV,jW,jX]; (first | done | fail))) | refine jE ?_ ?_))))
    all_goals (first | rfl | exact e10 | exact e10.symm | trace_state)
  by_cases hlt : j < 23
  · have hb := b1l j
    have hn1 := b1n j
    have hn2 := b1n (j + 1)
    repeat' (first | (with_reducible first | refine ju ?_ | refine xs1 ?_ | refine xs2 ?_ | refine xs3 ?_ | refine xb1 ?_ | refine xb2 ?_ | refine xb3 (by decide) ?_ | refine xb4 ?_ | refine xl2 ?_ | refine xl3 ?_ | refine xc2 ?_ | refine xc3 ?_ | refine jn ?_ | refine jo ?_ | refine jp ?_ | refine jq ?_ | refine jr ?_ | refine jt ?_ | refine jk (fun M hM => ?_) | refine vif_t ?_ | refine vif_f ?_ | refine jl ?_ | refine jm ?_ | (refine hM _ ?_; clear hM M) | refine ja (jc (by assumption) ?_ rfl ?_) | refine jb (jd (by assumption) rfl ?_) ?_) | ((with_reducible refine je ?_) <;> (first | rfl | assumption | (simp only [znl,jR,jS,jT,jU,jV,jW,jX]; (first | done | fail)))) | (with_reducible refine jf (by (simp only [↓reduceIte,zlk,Nat.reduceEqDiff,reduceCtorEq]); exact rfl) ?_) | ((with_reducible first | refine jg (fun hc => ?_) (fun hc => ?_) | refine jh (fun hc => ?_) (fun hc => ?_)) <;> (try simp (disch := omega) only [zhb] at hc) <;> (try (exfalso; omega)) <;> (try subst hc)) | (with_reducible refine ji (by omega) ?_) | (simp (config := { maxSteps := 400000 }) only [↓jv,↓reduceIte,zvs,reduceCtorEq,Nat.reduceEqDiff,Nat.reduceAdd,Nat.reduceLeDiff,Nat.reduceMul,Int.reduceBNe,Int.reduceBEq,Int.reduceEq,Int.reduceNe,Int.reduceLT,Int.reduceLE,Int.reduceGT,Int.reduceGE,Int.reduceNeg,Int.reduceToNat,Nat.reduceLT,Nat.reduceSub,tab,h6,hb,Try.results62,List.toList_toArray]) | (simp (disch := omega) only [ziw]))
    refine xl1 (j + 1) ?_ (by show j + 1 ≤ 23; omega) (by show 23 - (j + 1) < 23 - j; omega)
    (refine Ren.mk [(0, 0), (1, 3)] false (by first | (intro h; cases h; done) | exact fun _ => rfl) (by first | decide | rfl | (simp [jQ]; done)) (by decide) ?_ ?_ <;> (repeat' (first | (with_reducible first | refine jw (by first | rfl | omega) | refine jx rfl | refine jy rfl | refine jz rfl (by first | rfl | assumption | (simp only [znl,jR,jS,jT,jU,jV,jW,jX]; (first | done | fail))) | refine jF ?_ ?_ (by first | rfl | omega) | refine MR.ptr ?_ ?_ | refine jA | refine jB | refine jC ?_ | refine jD rfl (by (simp only [↓reduceIte,zlk,Nat.reduceEqDiff,reduceCtorEq]); exact rfl) ?_ ?_ ?_ (by decide) | refine jE rfl (by first | rfl | assumption | (simp only [znl,jR,jS,jT,jU,jV,jW,jX]; (first | done | fail))) | refine MR.agg (MRL.cons ?_ ?_) | refine jE ?_ (by first | rfl | assumption | (simp only [znl,jR,jS,jT,jU,jV,jW,jX]; (first | done | fail))) | refine MR.fn ?_ | refine MRL.cons ?_ ?_ | refine MRL.nil | refine jG ?_ ?_ | refine jH | refine jI | refine jJ ?_ (by (simp only [↓reduceIte,zlk,Nat.reduceEqDiff,reduceCtorEq]); exact rfl) ?_ ?_ | refine MB.row ?_ | refine jK ?_ ?_ | refine MR.map ?_ ?_ | refine jL rfl (by first | rfl | assumption | (simp only [znl,jR,jS,jT,jU,jV,jW,jX]; (first | done | fail))) | rfl) | (simp only [znl,jR,jS,jT,jU,jV,jW,jX]; (first | done | fail)) | (refine jM rfl ?_) | exact jN rfl | exact jO rfl | ((with_reducible refine jP ?_) <;> rfl) | (simp only [↓reduceIte,zlk,Nat.reduceEqDiff,reduceCtorEq]) | (with_reducible first | refine jL ?_ ?_ | refine jF ?_ ?_ ?_ | refine jw ?_ | refine jx ?_ | refine jy ?_ | refine jz ?_ (by first | rfl | assumption | (simp only [znl,jR,jS,jT,jU,jV,jW,jX]; (first | done | fail))) | refine jE ?_ ?_))))
    all_goals (first | rfl | exact b1s j | exact (b1s j).symm | trace_state)
  · obtain rfl : j = 23 := by omega
    have z24 : ((23 + 1 : Nat) : Int) = 24 := rfl
    repeat' (first | (with_reducible first | refine ju ?_ | refine xs1 ?_ | refine xs2 ?_ | refine xs3 ?_ | refine xb1 ?_ | refine xb2 ?_ | refine xb3 (by decide) ?_ | refine xb4 ?_ | refine xl2 ?_ | refine xl3 ?_ | refine xc2 ?_ | refine xc3 ?_ | refine jn ?_ | refine jo ?_ | refine jp ?_ | refine jq ?_ | refine jr ?_ | refine jt ?_ | refine jk (fun M hM => ?_) | refine vif_t ?_ | refine vif_f ?_ | refine jl ?_ | refine jm ?_ | (refine hM _ ?_; clear hM M) | refine ja (jc (by assumption) ?_ rfl ?_) | refine jb (jd (by assumption) rfl ?_) ?_) | ((with_reducible refine je ?_) <;> (first | rfl | assumption | (simp only [znl,jR,jS,jT,jU,jV,jW,jX]; (first | done | fail)))) | (with_reducible refine jf (by (simp only [↓reduceIte,zlk,Nat.reduceEqDiff,reduceCtorEq]); exact rfl) ?_) | ((with_reducible first | refine jg (fun hc => ?_) (fun hc => ?_) | refine jh (fun hc => ?_) (fun hc => ?_)) <;> (try simp (disch := omega) only [zhb] at hc) <;> (try (exfalso; omega)) <;> (try subst hc)) | (with_reducible refine ji (by omega) ?_) | (simp (config := { maxSteps := 400000 }) only [↓jv,↓reduceIte,zvs,reduceCtorEq,Nat.reduceEqDiff,Nat.reduceAdd,Nat.reduceLeDiff,Nat.reduceMul,Int.reduceBNe,Int.reduceBEq,Int.reduceEq,Int.reduceNe,Int.reduceLT,Int.reduceLE,Int.reduceGT,Int.reduceGE,Int.reduceNeg,Int.reduceToNat,Nat.reduceLT,Nat.reduceSub,tab,h6,z24,Try.results62,List.toList_toArray]) | (simp (disch := omega) only [ziw]))
    refine ok_loop (fun k : Nat => ⟨slots [(6, .ptr 0 []), (8, .sl (some (1, [], 0)) 24), (10, .int .i64 k)], rows [(0, .row geoSh (.agg [.int .i64 24, .int .i64 6, .int .i64 1, .int .i64 2, .int .i64 3, .int .i64 6])), (1, .row (.arr 24 .cell) (.agg (b2 (t k))))], 2⟩) (fun k => k ≤ 6) (fun k => 6 - k) 0 ?_ (Nat.zero_le _) (fun k hk => ?_)
    · rw [← t0] at b20n
      (refine Ren.mk [(0, 0), (1, 1)] false (by first | (intro h; cases h; done) | exact fun _ => rfl) (by first | decide | rfl | (simp [jQ]; done)) (by decide) ?_ ?_ <;> (repeat' (first | (with_reducible first | refine jw (by first | rfl | omega) | refine jx rfl | refine jy rfl | refine jz rfl (by first | rfl | assumption | (simp only [znl,jR,jS,jT,jU,jV,jW,jX]; (first | done | fail))) | refine jF ?_ ?_ (by first | rfl | omega) | refine MR.ptr ?_ ?_ | refine jA | refine jB | refine jC ?_ | refine jD rfl (by (simp only [↓reduceIte,zlk,Nat.reduceEqDiff,reduceCtorEq]); exact rfl) ?_ ?_ ?_ (by decide) | refine jE rfl (by first | rfl | assumption | (simp only [znl,jR,jS,jT,jU,jV,jW,jX]; (first | done | fail))) | refine MR.agg (MRL.cons ?_ ?_) | refine jE ?_ (by first | rfl | assumption | (simp only [znl,jR,jS,jT,jU,jV,jW,jX]; (first | done | fail))) | refine MR.fn ?_ | refine MRL.cons ?_ ?_ | refine MRL.nil | refine jG ?_ ?_ | refine jH | refine jI | refine jJ ?_ (by (simp only [↓reduceIte,zlk,Nat.reduceEqDiff,reduceCtorEq]); exact rfl) ?_ ?_ | refine MB.row ?_ | refine jK ?_ ?_ | refine MR.map ?_ ?_ | refine jL rfl (by first | rfl | assumption | (simp only [znl,jR,jS,jT,jU,jV,jW,jX]; (first | done | fail))) | rfl) | (simp only [znl,jR,jS,jT,jU,jV,jW,jX]; (first | done | fail)) | (refine jM rfl ?_) | exact jN rfl | exact jO rfl | ((with_reducible refine jP ?_) <;> rfl) | (simp only [↓reduceIte,zlk,Nat.reduceEqDiff,reduceCtorEq]) | (with_reducible first | refine jL ?_ ?_ | refine jF ?_ ?_ ?_ | refine jw ?_ | refine jx ?_ | refine jy ?_ | refine jz ?_ (by first | rfl | assumption | (simp only [znl,jR,jS,jT,jU,jV,jW,jX]; (first | done | fail))) | refine jE ?_ ?_))))
      all_goals (first | rfl | (rw [t0]; exact e12) | (rw [t0]; exact e12.symm) | trace_state)
    by_cases hlt : k < 6
    · obtain ⟨hk1, hk2, hk3⟩ := ht k hlt
      have hb := b2l (t k)
      have hb2 := b2a (t k)
      have hb3 := b2s (t k)
      have hn1 := b2n (t k)
      have hn2 := b2n (t (k + 1))
      repeat' (first | (with_reducible first | refine ju ?_ | refine xs1 ?_ | refine xs2 ?_ | refine xs3 ?_ | refine xb1 ?_ | refine xb2 ?_ | refine xb3 (by decide) ?_ | refine xb4 ?_ | refine xl2 ?_ | refine xl3 ?_ | refine xc2 ?_ | refine xc3 ?_ | refine jn ?_ | refine jo ?_ | refine jp ?_ | refine jq ?_ | refine jr ?_ | refine jt ?_ | refine jk (fun M hM => ?_) | refine vif_t ?_ | refine vif_f ?_ | refine jl ?_ | refine jm ?_ | (refine hM _ ?_; clear hM M) | refine ja (jc (by assumption) ?_ rfl ?_) | refine jb (jd (by assumption) rfl ?_) ?_) | ((with_reducible refine je ?_) <;> (first | rfl | assumption | (simp only [znl,jR,jS,jT,jU,jV,jW,jX]; (first | done | fail)))) | (with_reducible refine jf (by (simp only [↓reduceIte,zlk,Nat.reduceEqDiff,reduceCtorEq]); exact rfl) ?_) | ((with_reducible first | refine jg (fun hc => ?_) (fun hc => ?_) | refine jh (fun hc => ?_) (fun hc => ?_)) <;> (try simp (disch := omega) only [zhb] at hc) <;> (try (exfalso; omega)) <;> (try subst hc)) | (with_reducible refine ji (by omega) ?_) | (simp (config := { maxSteps := 400000 }) only [↓jv,↓reduceIte,zvs,reduceCtorEq,Nat.reduceEqDiff,Nat.reduceAdd,Nat.reduceLeDiff,Nat.reduceMul,Int.reduceBNe,Int.reduceBEq,Int.reduceEq,Int.reduceNe,Int.reduceLT,Int.reduceLE,Int.reduceGT,Int.reduceGE,Int.reduceNeg,Int.reduceToNat,Nat.reduceLT,Nat.reduceSub,tab,h6,hb,hb2,hb3,Try.results62,List.toList_toArray]) | (simp (disch := omega) only [ziw]))
      refine xl1 (k + 1) ?_ (by show k + 1 ≤ 6; omega) (by show 6 - (k + 1) < 6 - k; omega)
      (refine Ren.mk [(0, 0), (1, 1)] false (by first | (intro h; cases h; done) | exact fun _ => rfl) (by first | decide | rfl | (simp [jQ]; done)) (by decide) ?_ ?_ <;> (repeat' (first | (with_reducible first | refine jw (by first | rfl | omega) | refine jx rfl | refine jy rfl | refine jz rfl (by first | rfl | assumption | (simp only [znl,jR,jS,jT,jU,jV,jW,jX]; (first | done | fail))) | refine jF ?_ ?_ (by first | rfl | omega) | refine MR.ptr ?_ ?_ | refine jA | refine jB | refine jC ?_ | refine jD rfl (by (simp only [↓reduceIte,zlk,Nat.reduceEqDiff,reduceCtorEq]); exact rfl) ?_ ?_ ?_ (by decide) | refine jE rfl (by first | rfl | assumption | (simp only [znl,jR,jS,jT,jU,jV,jW,jX]; (first | done | fail))) | refine MR.agg (MRL.cons ?_ ?_) | refine jE ?_ (by first | rfl | assumption | (simp only [znl,jR,jS,jT,jU,jV,jW,jX]; (first | done | fail))) | refine MR.fn ?_ | refine MRL.cons ?_ ?_ | refine MRL.nil | refine jG ?_ ?_ | refine jH | refine jI | refine jJ ?_ (by (simp only [↓reduceIte,zlk,Nat.reduceEqDiff,reduceCtorEq]); exact rfl) ?_ ?_ | refine MB.row ?_ | refine jK ?_ ?_ | refine MR.map ?_ ?_ | refine jL rfl (by first | rfl | assumption | (simp only [znl,jR,jS,jT,jU,jV,jW,jX]; (first | done | fail))) | rfl) | (simp only [znl,jR,jS,jT,jU,jV,jW,jX]; (first | done | fail)) | (refine jM rfl ?_) | exact jN rfl | exact jO rfl | ((with_reducible refine jP ?_) <;> rfl) | (simp only [↓reduceIte,zlk,Nat.reduceEqDiff,reduceCtorEq]) | (with_reducible first | refine jL ?_ ?_ | refine jF ?_ ?_ ?_ | refine jw ?_ | refine jx ?_ | refine jy ?_ | refine jz ?_ (by first | rfl | assumption | (simp only [znl,jR,jS,jT,jU,jV,jW,jX]; (first | done | fail))) | refine jE ?_ ?_))))
      all_goals (first | rfl | (simp; done) | trace_state)
    · obtain rfl : k = 6 := by omega
      repeat' (first | (with_reducible first | refine ju ?_ | refine xs1 ?_ | refine xs2 ?_ | refine xs3 ?_ | refine xb1 ?_ | refine xb2 ?_ | refine xb3 (by decide) ?_ | refine xb4 ?_ | refine xl2 ?_ | refine xl3 ?_ | refine xc2 ?_ | refine xc3 ?_ | refine jn ?_ | refine jo ?_ | refine jp ?_ | refine jq ?_ | refine jr ?_ | refine jt ?_ | refine jk (fun M hM => ?_) | refine vif_t ?_ | refine vif_f ?_ | refine jl ?_ | refine jm ?_ | (refine hM _ ?_; clear hM M) | refine ja (jc (by assumption) ?_ rfl ?_) | refine jb (jd (by assumption) rfl ?_) ?_) | ((with_reducible refine je ?_) <;> (first | rfl | assumption | (simp only [znl,jR,jS,jT,jU,jV,jW,jX]; (first | done | fail)))) | (with_reducible refine jf (by (simp only [↓reduceIte,zlk,Nat.reduceEqDiff,reduceCtorEq]); exact rfl) ?_) | ((with_reducible first | refine jg (fun hc => ?_) (fun hc => ?_) | refine jh (fun hc => ?_) (fun hc => ?_)) <;> (try simp (disch := omega) only [zhb] at hc) <;> (try (exfalso; omega)) <;> (try subst hc)) | (with_reducible refine ji (by omega) ?_) | (simp (config := { maxSteps := 400000 }) only [↓jv,↓reduceIte,zvs,reduceCtorEq,Nat.reduceEqDiff,Nat.reduceAdd,Nat.reduceLeDiff,Nat.reduceMul,Int.reduceBNe,Int.reduceBEq,Int.reduceEq,Int.reduceNe,Int.reduceLT,Int.reduceLE,Int.reduceGT,Int.reduceGE,Int.reduceNeg,Int.reduceToNat,Nat.reduceLT,Nat.reduceSub,tab,h6,Try.results62,List.toList_toArray]) | (simp (disch := omega) only [ziw]))
      all_goals (try (exfalso; omega))
      rw [e26]
      have hl6 : (L :: Z :: t 6 :: List.replicate 21 Z).length = 24 := rfl
      simp only [zrds]
      (refine rd_own (by (simp only [↓reduceIte,zlk,Nat.reduceEqDiff,reduceCtorEq]); exact rfl) ?_ ?_ ?_) <;> (first | rfl | assumption | (simp only [znl,jR,jS,jT,jU,jV,jW,jX]; (first | done | fail)) | (simp; done) | (simp; omega) | skip)
theorem fmt16_spec (v : Frames) (hv : v.length = 24) (hs : ∀ s ∈ v, s.length = 128) : ∃ Z : List UInt8, Z.length = 128 ∧ Spec Try.prog 63 [encStrs v] (drV (⟨List.replicate 33 Z ++ v, [], -1⟩, 0)) := by
  have hZ : Spec Try.prog 98 [.int .i64 128] (.str (List.replicate 128 0)) := zeros16_spec 128 (by omega)
  obtain ⟨Z, eZ⟩ : ∃ Z : List UInt8, Z = List.replicate 128 0 := ⟨_, rfl⟩
  have hZl : Z.length = 128 := by rw [eZ, List.length_replicate]
  rw [← eZ] at hZ
  clear eZ
  refine ⟨Z, hZl, ?_⟩
  refine spec_ok Try.func63 rfl rfl (by kernel_rfl) (k := 1) rfl (by decide) ?_
  repeat' (first | (with_reducible first | refine ju ?_ | refine xs1 ?_ | refine xs2 ?_ | refine xs3 ?_ | refine xb1 ?_ | refine xb2 ?_ | refine xb3 (by decide) ?_ | refine xb4 ?_ | refine xl2 ?_ | refine xl3 ?_ | refine xc2 ?_ | refine xc3 ?_ | refine jn ?_ | refine jo ?_ | refine jp ?_ | refine jq ?_ | refine jr ?_ | refine jt ?_ | refine jk (fun M hM => ?_) | refine vif_t ?_ | refine vif_f ?_ | refine jl ?_ | refine jm ?_ | (refine hM _ ?_; clear hM M) | refine ja (jc (by assumption) ?_ rfl ?_) | refine jb (jd (by assumption) rfl ?_) ?_) | ((with_reducible refine je ?_) <;> (first | rfl | assumption | (simp only [znl,jR,jS,jT,jU,jV,jW,jX]; (first | done | fail)))) | (with_reducible refine jf (by (simp only [↓reduceIte,zlk,Nat.reduceEqDiff,reduceCtorEq]); exact rfl) ?_) | ((with_reducible first | refine jg (fun hc => ?_) (fun hc => ?_) | refine jh (fun hc => ?_) (fun hc => ?_)) <;> (try simp (disch := omega) only [zhb] at hc) <;> (try (exfalso; omega)) <;> (try subst hc)) | (with_reducible refine ji (by omega) ?_) | (simp (config := { maxSteps := 400000 }) only [↓jv,↓reduceIte,zvs,reduceCtorEq,Nat.reduceEqDiff,Nat.reduceAdd,Nat.reduceLeDiff,Nat.reduceMul,Int.reduceBNe,Int.reduceBEq,Int.reduceEq,Int.reduceNe,Int.reduceLT,Int.reduceLE,Int.reduceGT,Int.reduceGE,Int.reduceNeg,Int.reduceToNat,Nat.reduceLT,Nat.reduceSub,tab,Try.results63,List.toList_toArray]) | (simp (disch := omega) only [ziw]))
  all_goals (try (exfalso; omega))
  refine ok_loop (fun k : Nat => ⟨slots [(0, encStrs v), (2, .ptr 0 []), (3, .int .i64 0), (4, .ptr 1 []), (5, .int .i64 k)], rows [(0, .row (.st [.cell, .cell, .cell]) (.agg [.sl none 0, .sl none 0, .int .i64 0])), (1, .row (.st [.cell, .cell, .cell]) (.agg [.sl (some (2, [], 0)) k, .sl none 0, .int .i64 (-1)])), (2, .row (.arr k .cell) (.agg (List.replicate k (.str Z))))], 3⟩) (fun k => k ≤ 33) (fun k => 33 - k) 0 ?_ (Nat.zero_le _) (fun k hk => ?_)
  · (refine Ren.mk [(0, 0), (1, 1)] false (by first | (intro h; cases h; done) | exact fun _ => rfl) (by first | decide | rfl | (simp [jQ]; done)) (by decide) ?_ ?_ <;> (repeat' (first | (with_reducible first | refine jw (by first | rfl | omega) | refine jx rfl | refine jy rfl | refine jz rfl (by first | rfl | assumption | (simp only [znl,jR,jS,jT,jU,jV,jW,jX]; (first | done | fail))) | refine jF ?_ ?_ (by first | rfl | omega) | refine MR.ptr ?_ ?_ | refine jA | refine jB | refine jC ?_ | refine jD rfl (by (simp only [↓reduceIte,zlk,Nat.reduceEqDiff,reduceCtorEq]); exact rfl) ?_ ?_ ?_ (by decide) | refine jE rfl (by first | rfl | assumption | (simp only [znl,jR,jS,jT,jU,jV,jW,jX]; (first | done | fail))) | refine MR.agg (MRL.cons ?_ ?_) | refine jE ?_ (by first | rfl | assumption | (simp only [znl,jR,jS,jT,jU,jV,jW,jX]; (first | done | fail))) | refine MR.fn ?_ | refine MRL.cons ?_ ?_ | refine MRL.nil | refine jG ?_ ?_ | refine jH | refine jI | refine jJ ?_ (by (simp only [↓reduceIte,zlk,Nat.reduceEqDiff,reduceCtorEq]); exact rfl) ?_ ?_ | refine MB.row ?_ | refine jK ?_ ?_ | refine MR.map ?_ ?_ | refine jL rfl (by first | rfl | assumption | (simp only [znl,jR,jS,jT,jU,jV,jW,jX]; (first | done | fail))) | rfl) | (simp only [znl,jR,jS,jT,jU,jV,jW,jX]; (first | done | fail)) | (refine jM rfl ?_) | exact jN rfl | exact jO rfl | ((with_reducible refine jP ?_) <;> rfl) | (simp only [↓reduceIte,zlk,Nat.reduceEqDiff,reduceCtorEq]) | (with_reducible first | refine jL ?_ ?_ | refine jF ?_ ?_ ?_ | refine jw ?_ | refine jx ?_ | refine jy ?_ | refine jz ?_ (by first | rfl | assumption | (simp only [znl,jR,jS,jT,jU,jV,jW,jX]; (first | done | fail))) | refine jE ?_ ?_))))
    all_goals (first | rfl | (simp; done) | trace_state)
  by_cases hlt : k < 33
  · repeat' (first | (with_reducible first | refine ju ?_ | refine xs1 ?_ | refine xs2 ?_ | refine xs3 ?_ | refine xb1 ?_ | refine xb2 ?_ | refine xb3 (by decide) ?_ | refine xb4 ?_ | refine xl2 ?_ | refine xl3 ?_ | refine xc2 ?_ | refine xc3 ?_ | refine jn ?_ | refine jo ?_ | refine jp ?_ | refine jq ?_ | refine jr ?_ | refine jt ?_ | refine jk (fun M hM => ?_) | refine vif_t ?_ | refine vif_f ?_ | refine jl ?_ | refine jm ?_ | (refine hM _ ?_; clear hM M) | refine ja (jc (by assumption) ?_ rfl ?_) | refine jb (jd (by assumption) rfl ?_) ?_) | ((with_reducible refine je ?_) <;> (first | rfl | assumption | (simp only [znl,jR,jS,jT,jU,jV,jW,jX]; (first | done | fail)))) | (with_reducible refine jf (by (simp only [↓reduceIte,zlk,Nat.reduceEqDiff,reduceCtorEq]); exact rfl) ?_) | ((with_reducible first | refine jg (fun hc => ?_) (fun hc => ?_) | refine jh (fun hc => ?_) (fun hc => ?_)) <;> (try simp (disch := omega) only [zhb] at hc) <;> (try (exfalso; omega)) <;> (try subst hc)) | (with_reducible refine ji (by omega) ?_) | (simp (config := { maxSteps := 400000 }) only [↓jv,↓reduceIte,zvs,reduceCtorEq,Nat.reduceEqDiff,Nat.reduceAdd,Nat.reduceLeDiff,Nat.reduceMul,Int.reduceBNe,Int.reduceBEq,Int.reduceEq,Int.reduceNe,Int.reduceLT,Int.reduceLE,Int.reduceGT,Int.reduceGE,Int.reduceNeg,Int.reduceToNat,Nat.reduceLT,Nat.reduceSub,tab,Try.results63,List.toList_toArray]) | (simp (disch := omega) only [ziw]))
    refine ok_draw 4 (by kernel_rfl) (by decide +kernel) (by intro m hm; simp only [upd_ap,rows_cons,rows_nil]; (repeat (first | rfl | rw [if_neg (by omega)]))) (fun M hM => ?_); simp only [List.take_succ_cons,List.take_zero,List.drop_succ_cons,List.drop_zero]
    repeat' (first | (with_reducible first | refine ju ?_ | refine xs1 ?_ | refine xs2 ?_ | refine xs3 ?_ | refine xb1 ?_ | refine xb2 ?_ | refine xb3 (by decide) ?_ | refine xb4 ?_ | refine xl2 ?_ | refine xl3 ?_ | refine xc2 ?_ | refine xc3 ?_ | refine jn ?_ | refine jo ?_ | refine jp ?_ | refine jq ?_ | refine jr ?_ | refine jt ?_ | refine jk (fun M hM => ?_) | refine vif_t ?_ | refine vif_f ?_ | refine jl ?_ | refine jm ?_ | (refine hM _ ?_; clear hM M) | refine ja (jc (by assumption) ?_ rfl ?_) | refine jb (jd (by assumption) rfl ?_) ?_) | ((with_reducible refine je ?_) <;> (first | rfl | assumption | (simp only [znl,jR,jS,jT,jU,jV,jW,jX]; (first | done | fail)))) | (with_reducible refine jf (by (simp only [↓reduceIte,zlk,Nat.reduceEqDiff,reduceCtorEq]); exact rfl) ?_) | ((with_reducible first | refine jg (fun hc => ?_) (fun hc => ?_) | refine jh (fun hc => ?_) (fun hc => ?_)) <;> (try simp (disch := omega) only [zhb] at hc) <;> (try (exfalso; omega)) <;> (try subst hc)) | (with_reducible refine ji (by omega) ?_) | (simp (config := { maxSteps := 400000 }) only [↓jv,↓reduceIte,zvs,reduceCtorEq,Nat.reduceEqDiff,Nat.reduceAdd,Nat.reduceLeDiff,Nat.reduceMul,Int.reduceBNe,Int.reduceBEq,Int.reduceEq,Int.reduceNe,Int.reduceLT,Int.reduceLE,Int.reduceGT,Int.reduceGE,Int.reduceNeg,Int.reduceToNat,Nat.reduceLT,Nat.reduceSub,tab,Try.results63,List.toList_toArray]) | (simp (disch := omega) only [ziw]))
    refine xl1 (k + 1) ?_ (by show k + 1 ≤ 33; omega) (by show 33 - (k + 1) < 33 - k; omega)
    (refine Ren.mk [(0, 0), (1, 1), (2, 259)] false (by first | (intro h; cases h; done) | exact fun _ => rfl) (by first | decide | rfl | (simp [jQ]; done)) (by decide) ?_ ?_ <;> (repeat' (first | (with_reducible first | refine jw (by first | rfl | omega) | refine jx rfl | refine jy rfl | refine jz rfl (by first | rfl | assumption | (simp only [znl,jR,jS,jT,jU,jV,jW,jX]; (first | done | fail))) | refine jF ?_ ?_ (by first | rfl | omega) | refine MR.ptr ?_ ?_ | refine jA | refine jB | refine jC ?_ | refine jD rfl (by (simp only [↓reduceIte,zlk,Nat.reduceEqDiff,reduceCtorEq]); exact rfl) ?_ ?_ ?_ (by decide) | refine jE rfl (by first | rfl | assumption | (simp only [znl,jR,jS,jT,jU,jV,jW,jX]; (first | done | fail))) | refine MR.agg (MRL.cons ?_ ?_) | refine jE ?_ (by first | rfl | assumption | (simp only [znl,jR,jS,jT,jU,jV,jW,jX]; (first | done | fail))) | refine MR.fn ?_ | refine MRL.cons ?_ ?_ | refine MRL.nil | refine jG ?_ ?_ | refine jH | refine jI | refine jJ ?_ (by (simp only [↓reduceIte,zlk,Nat.reduceEqDiff,reduceCtorEq]); exact rfl) ?_ ?_ | refine MB.row ?_ | refine jK ?_ ?_ | refine MR.map ?_ ?_ | refine jL rfl (by first | rfl | assumption | (simp only [znl,jR,jS,jT,jU,jV,jW,jX]; (first | done | fail))) | rfl) | (simp only [znl,jR,jS,jT,jU,jV,jW,jX]; (first | done | fail)) | (refine jM rfl ?_) | exact jN rfl | exact jO rfl | ((with_reducible refine jP ?_) <;> rfl) | (simp only [↓reduceIte,zlk,Nat.reduceEqDiff,reduceCtorEq]) | (with_reducible first | refine jL ?_ ?_ | refine jF ?_ ?_ ?_ | refine jw ?_ | refine jx ?_ | refine jy ?_ | refine jz ?_ (by first | rfl | assumption | (simp only [znl,jR,jS,jT,jU,jV,jW,jX]; (first | done | fail))) | refine jE ?_ ?_))))
    all_goals (first | rfl | (simp [List.replicate_succ']; done) | trace_state)
  · obtain rfl : k = 33 := by omega
    repeat' (first | (with_reducible first | refine ju ?_ | refine xs1 ?_ | refine xs2 ?_ | refine xs3 ?_ | refine xb1 ?_ | refine xb2 ?_ | refine xb3 (by decide) ?_ | refine xb4 ?_ | refine xl2 ?_ | refine xl3 ?_ | refine xc2 ?_ | refine xc3 ?_ | refine jn ?_ | refine jo ?_ | refine jp ?_ | refine jq ?_ | refine jr ?_ | refine jt ?_ | refine jk (fun M hM => ?_) | refine vif_t ?_ | refine vif_f ?_ | refine jl ?_ | refine jm ?_ | (refine hM _ ?_; clear hM M) | refine ja (jc (by assumption) ?_ rfl ?_) | refine jb (jd (by assumption) rfl ?_) ?_) | ((with_reducible refine je ?_) <;> (first | rfl | assumption | (simp only [znl,jR,jS,jT,jU,jV,jW,jX]; (first | done | fail)))) | (with_reducible refine jf (by (simp only [↓reduceIte,zlk,Nat.reduceEqDiff,reduceCtorEq]); exact rfl) ?_) | ((with_reducible first | refine jg (fun hc => ?_) (fun hc => ?_) | refine jh (fun hc => ?_) (fun hc => ?_)) <;> (try simp (disch := omega) only [zhb] at hc) <;> (try (exfalso; omega)) <;> (try subst hc)) | (with_reducible refine ji (by omega) ?_) | (simp (config := { maxSteps := 400000 }) only [↓jv,↓reduceIte,zvs,reduceCtorEq,Nat.reduceEqDiff,Nat.reduceAdd,Nat.reduceLeDiff,Nat.reduceMul,Int.reduceBNe,Int.reduceBEq,Int.reduceEq,Int.reduceNe,Int.reduceLT,Int.reduceLE,Int.reduceGT,Int.reduceGE,Int.reduceNeg,Int.reduceToNat,Nat.reduceLT,Nat.reduceSub,tab,Try.results63,List.toList_toArray]) | (simp (disch := omega) only [ziw]))
    obtain ⟨W, hW, hWl⟩ : ∃ W : Frames, W = List.replicate 33 Z ∧ W.length = 33 := ⟨_, rfl, List.length_replicate⟩
    rw [← hW]
    refine ok_loop (fun k : Nat => ⟨slots [(0, encStrs v), (2, .ptr 0 []), (3, .int .i64 0), (4, .ptr 1 []), (28, .int .i64 24), (29, .int .i64 k)], rows [(0, .row (.st [.cell, .cell, .cell]) (.agg [.sl none 0, .sl none 0, .int .i64 0])), (1, .row (.st [.cell, .cell, .cell]) (.agg [.sl (some (2, [], 0)) (33 + k), .sl none 0, .int .i64 (-1)])), (2, .row (.arr (33 + k) .cell) (.agg ((W ++ v.take k).map .str)))], 3⟩) (fun k => k ≤ 24) (fun k => 24 - k) 0 ?_ (Nat.zero_le _) (fun k hk => ?_)
    · (refine Ren.mk [(0, 0), (1, 1), (2, 2)] false (by first | (intro h; cases h; done) | exact fun _ => rfl) (by first | decide | rfl | (simp [jQ]; done)) (by decide) ?_ ?_ <;> (repeat' (first | (with_reducible first | refine jw (by first | rfl | omega) | refine jx rfl | refine jy rfl | refine jz rfl (by first | rfl | assumption | (simp only [znl,jR,jS,jT,jU,jV,jW,jX]; (first | done | fail))) | refine jF ?_ ?_ (by first | rfl | omega) | refine MR.ptr ?_ ?_ | refine jA | refine jB | refine jC ?_ | refine jD rfl (by (simp only [↓reduceIte,zlk,Nat.reduceEqDiff,reduceCtorEq]); exact rfl) ?_ ?_ ?_ (by decide) | refine jE rfl (by first | rfl | assumption | (simp only [znl,jR,jS,jT,jU,jV,jW,jX]; (first | done | fail))) | refine MR.agg (MRL.cons ?_ ?_) | refine jE ?_ (by first | rfl | assumption | (simp only [znl,jR,jS,jT,jU,jV,jW,jX]; (first | done | fail))) | refine MR.fn ?_ | refine MRL.cons ?_ ?_ | refine MRL.nil | refine jG ?_ ?_ | refine jH | refine jI | refine jJ ?_ (by (simp only [↓reduceIte,zlk,Nat.reduceEqDiff,reduceCtorEq]); exact rfl) ?_ ?_ | refine MB.row ?_ | refine jK ?_ ?_ | refine MR.map ?_ ?_ | refine jL rfl (by first | rfl | assumption | (simp only [znl,jR,jS,jT,jU,jV,jW,jX]; (first | done | fail))) | rfl) | (simp only [znl,jR,jS,jT,jU,jV,jW,jX]; (first | done | fail)) | (refine jM rfl ?_) | exact jN rfl | exact jO rfl | ((with_reducible refine jP ?_) <;> rfl) | (simp only [↓reduceIte,zlk,Nat.reduceEqDiff,reduceCtorEq]) | (with_reducible first | refine jL ?_ ?_ | refine jF ?_ ?_ ?_ | refine jw ?_ | refine jx ?_ | refine jy ?_ | refine jz ?_ (by first | rfl | assumption | (simp only [znl,jR,jS,jT,jU,jV,jW,jX]; (first | done | fail))) | refine jE ?_ ?_))))
      all_goals (first | rfl | (rw [hW]; simp; done) | (simp; done) | trace_state)
    by_cases hlt : k < 24
    · have e1 := take_snoc v k (by omega)
      have hsk := hs _ (getD_mem' (show k < v.length by omega))
      rw [default_str] at e1 hsk
      repeat' (first | (with_reducible first | refine ju ?_ | refine xs1 ?_ | refine xs2 ?_ | refine xs3 ?_ | refine xb1 ?_ | refine xb2 ?_ | refine xb3 (by decide) ?_ | refine xb4 ?_ | refine xl2 ?_ | refine xl3 ?_ | refine xc2 ?_ | refine xc3 ?_ | refine jn ?_ | refine jo ?_ | refine jp ?_ | refine jq ?_ | refine jr ?_ | refine jt ?_ | refine jk (fun M hM => ?_) | refine vif_t ?_ | refine vif_f ?_ | refine jl ?_ | refine jm ?_ | (refine hM _ ?_; clear hM M) | refine ja (jc (by assumption) ?_ rfl ?_) | refine jb (jd (by assumption) rfl ?_) ?_) | ((with_reducible refine je ?_) <;> (first | rfl | assumption | (simp only [znl,jR,jS,jT,jU,jV,jW,jX]; (first | done | fail)))) | (with_reducible refine jf (by (simp only [↓reduceIte,zlk,Nat.reduceEqDiff,reduceCtorEq]); exact rfl) ?_) | ((with_reducible first | refine jg (fun hc => ?_) (fun hc => ?_) | refine jh (fun hc => ?_) (fun hc => ?_)) <;> (try simp (disch := omega) only [zhb] at hc) <;> (try (exfalso; omega)) <;> (try subst hc)) | (with_reducible refine ji (by omega) ?_) | (simp (config := { maxSteps := 400000 }) only [↓jv,↓reduceIte,zvs,reduceCtorEq,Nat.reduceEqDiff,Nat.reduceAdd,Nat.reduceLeDiff,Nat.reduceMul,Int.reduceBNe,Int.reduceBEq,Int.reduceEq,Int.reduceNe,Int.reduceLT,Int.reduceLE,Int.reduceGT,Int.reduceGE,Int.reduceNeg,Int.reduceToNat,Nat.reduceLT,Nat.reduceSub,tab,hsk,hWl,Try.results63,List.toList_toArray]) | (simp (disch := omega) only [ziw]))
      refine ok_draw 7 (by kernel_rfl) (by decide +kernel) (by intro m hm; simp only [upd_ap,rows_cons,rows_nil]; (repeat (first | rfl | rw [if_neg (by omega)]))) (fun M hM => ?_); simp only [List.take_succ_cons,List.take_zero,List.drop_succ_cons,List.drop_zero]
      repeat' (first | (with_reducible first | refine ju ?_ | refine xs1 ?_ | refine xs2 ?_ | refine xs3 ?_ | refine xb1 ?_ | refine xb2 ?_ | refine xb3 (by decide) ?_ | refine xb4 ?_ | refine xl2 ?_ | refine xl3 ?_ | refine xc2 ?_ | refine xc3 ?_ | refine jn ?_ | refine jo ?_ | refine jp ?_ | refine jq ?_ | refine jr ?_ | refine jt ?_ | refine jk (fun M hM => ?_) | refine vif_t ?_ | refine vif_f ?_ | refine jl ?_ | refine jm ?_ | (refine hM _ ?_; clear hM M) | refine ja (jc (by assumption) ?_ rfl ?_) | refine jb (jd (by assumption) rfl ?_) ?_) | ((with_reducible refine je ?_) <;> (first | rfl | assumption | (simp only [znl,jR,jS,jT,jU,jV,jW,jX]; (first | done | fail)))) | (with_reducible refine jf (by (simp only [↓reduceIte,zlk,Nat.reduceEqDiff,reduceCtorEq]); exact rfl) ?_) | ((with_reducible first | refine jg (fun hc => ?_) (fun hc => ?_) | refine jh (fun hc => ?_) (fun hc => ?_)) <;> (try simp (disch := omega) only [zhb] at hc) <;> (try (exfalso; omega)) <;> (try subst hc)) | (with_reducible refine ji (by omega) ?_) | (simp (config := { maxSteps := 400000 }) only [↓jv,↓reduceIte,zvs,reduceCtorEq,Nat.reduceEqDiff,Nat.reduceAdd,Nat.reduceLeDiff,Nat.reduceMul,Int.reduceBNe,Int.reduceBEq,Int.reduceEq,Int.reduceNe,Int.reduceLT,Int.reduceLE,Int.reduceGT,Int.reduceGE,Int.reduceNeg,Int.reduceToNat,Nat.reduceLT,Nat.reduceSub,tab,hsk,hWl,Try.results63,List.toList_toArray]) | (simp (disch := omega) only [ziw]))
      refine xl1 (k + 1) ?_ (by show k + 1 ≤ 24; omega) (by show 24 - (k + 1) < 24 - k; omega)
      (refine Ren.mk [(0, 0), (1, 1), (2, 451)] false (by first | (intro h; cases h; done) | exact fun _ => rfl) (by first | decide | rfl | (simp [jQ]; done)) (by decide) ?_ ?_ <;> (repeat' (first | (with_reducible first | refine jw (by first | rfl | omega) | refine jx rfl | refine jy rfl | refine jz rfl (by first | rfl | assumption | (simp only [znl,jR,jS,jT,jU,jV,jW,jX]; (first | done | fail))) | refine jF ?_ ?_ (by first | rfl | omega) | refine MR.ptr ?_ ?_ | refine jA | refine jB | refine jC ?_ | refine jD rfl (by (simp only [↓reduceIte,zlk,Nat.reduceEqDiff,reduceCtorEq]); exact rfl) ?_ ?_ ?_ (by decide) | refine jE rfl (by first | rfl | assumption | (simp only [znl,jR,jS,jT,jU,jV,jW,jX]; (first | done | fail))) | refine MR.agg (MRL.cons ?_ ?_) | refine jE ?_ (by first | rfl | assumption | (simp only [znl,jR,jS,jT,jU,jV,jW,jX]; (first | done | fail))) | refine MR.fn ?_ | refine MRL.cons ?_ ?_ | refine MRL.nil | refine jG ?_ ?_ | refine jH | refine jI | refine jJ ?_ (by (simp only [↓reduceIte,zlk,Nat.reduceEqDiff,reduceCtorEq]); exact rfl) ?_ ?_ | refine MB.row ?_ | refine jK ?_ ?_ | refine MR.map ?_ ?_ | refine jL rfl (by first | rfl | assumption | (simp only [znl,jR,jS,jT,jU,jV,jW,jX]; (first | done | fail))) | rfl) | (simp only [znl,jR,jS,jT,jU,jV,jW,jX]; (first | done | fail)) | (refine jM rfl ?_) | exact jN rfl | exact jO rfl | ((with_reducible refine jP ?_) <;> rfl) | (simp only [↓reduceIte,zlk,Nat.reduceEqDiff,reduceCtorEq]) | (with_reducible first | refine jL ?_ ?_ | refine jF ?_ ?_ ?_ | refine jw ?_ | refine jx ?_ | refine jy ?_ | refine jz ?_ (by first | rfl | assumption | (simp only [znl,jR,jS,jT,jU,jV,jW,jX]; (first | done | fail))) | refine jE ?_ ?_))))
      all_goals (first | rfl | omega | (rw [e1]; simp; done) | trace_state)
    · obtain rfl : k = 24 := by omega
      have et : v.take 24 = v := List.take_of_length_le (by omega)
      repeat' (first | (with_reducible first | refine ju ?_ | refine xs1 ?_ | refine xs2 ?_ | refine xs3 ?_ | refine xb1 ?_ | refine xb2 ?_ | refine xb3 (by decide) ?_ | refine xb4 ?_ | refine xl2 ?_ | refine xl3 ?_ | refine xc2 ?_ | refine xc3 ?_ | refine jn ?_ | refine jo ?_ | refine jp ?_ | refine jq ?_ | refine jr ?_ | refine jt ?_ | refine jk (fun M hM => ?_) | refine vif_t ?_ | refine vif_f ?_ | refine jl ?_ | refine jm ?_ | (refine hM _ ?_; clear hM M) | refine ja (jc (by assumption) ?_ rfl ?_) | refine jb (jd (by assumption) rfl ?_) ?_) | ((with_reducible refine je ?_) <;> (first | rfl | assumption | (simp only [znl,jR,jS,jT,jU,jV,jW,jX]; (first | done | fail)))) | (with_reducible refine jf (by (simp only [↓reduceIte,zlk,Nat.reduceEqDiff,reduceCtorEq]); exact rfl) ?_) | ((with_reducible first | refine jg (fun hc => ?_) (fun hc => ?_) | refine jh (fun hc => ?_) (fun hc => ?_)) <;> (try simp (disch := omega) only [zhb] at hc) <;> (try (exfalso; omega)) <;> (try subst hc)) | (with_reducible refine ji (by omega) ?_) | (simp (config := { maxSteps := 400000 }) only [↓jv,↓reduceIte,zvs,reduceCtorEq,Nat.reduceEqDiff,Nat.reduceAdd,Nat.reduceLeDiff,Nat.reduceMul,Int.reduceBNe,Int.reduceBEq,Int.reduceEq,Int.reduceNe,Int.reduceLT,Int.reduceLE,Int.reduceGT,Int.reduceGE,Int.reduceNeg,Int.reduceToNat,Nat.reduceLT,Nat.reduceSub,tab,et,hWl,Try.results63,List.toList_toArray]) | (simp (disch := omega) only [ziw]))
      all_goals (try (exfalso; omega))
      simp only [drV,encDr,List.map_nil]
      simp only [zrds]
      refine ⟨?_, rd_nil⟩
      (refine rd_own (by (simp only [↓reduceIte,zlk,Nat.reduceEqDiff,reduceCtorEq]); exact rfl) ?_ ?_ ?_) <;> (first | rfl | assumption | (simp only [znl,jR,jS,jT,jU,jV,jW,jX]; (first | done | fail)) | (simp; done) | (simp; omega) | skip)
def bareM (f : List UInt8) (d : Dr) : Mach := ⟨0, 3, 0, 0, [f, f, f, f], [], 1, [], [], 1, [], false, 0, d, []⟩
theorem home_app (Z : List UInt8) (v : Frames) (hZ : Z.length = 128) (hv : v.length = 24) (hs : ∀ s ∈ v, s.length = 128) : checkD ⟨List.replicate 33 Z ++ v, [], -1⟩ = 0 ∧ homeD ⟨List.replicate 33 Z ++ v, [], -1⟩ = v := by
  have hl : (List.replicate 33 Z ++ v).length = 57 := by rw [List.length_append, List.length_replicate, hv]
  have hc : checkD ⟨List.replicate 33 Z ++ v, [], -1⟩ = 0 := by
    unfold checkD
    dsimp only
    rw [if_neg (by omega), if_neg]
    · rfl
    · rw [List.any_eq_true]
      rintro ⟨s, h1, h2⟩
      have h2 := of_decide_eq_true h2
      rcases List.mem_append.1 h1 with h | h
      · rw [(List.mem_replicate.1 h).2] at h2; exact h2 hZ
      · exact h2 (hs s h)
  refine ⟨hc, ?_⟩
  unfold homeD
  dsimp only
  rw [if_pos ⟨hc, by omega⟩, hl]
  refine List.ext_getElem (by simp [hv]) fun i h1 h2 => ?_
  simp only [List.getElem_map,List.getElem_range,homeB,getP]
  rw [List.getD_eq_getElem?_getD, List.getElem?_append_right (by rw [List.length_replicate]; omega), List.length_replicate, Nat.add_sub_cancel_left, List.getElem?_eq_getElem h2]
  rfl
theorem bare_specX : ∃ (f : List UInt8) (d : Dr), f.length = 128 ∧ d.bl.length = 57 ∧ (∀ s ∈ d.bl, s.length = 128) ∧ d.pe = [] ∧ d.left = -1 ∧ checkD d = 0 ∧ homeD d = vol0 ∧ Spec Try.prog 29 [] (encM (bareM f d)) := by
  have hF := fmt17_spec
  have hv := vol0_len
  have hs := vol0_all
  generalize vol0 = v at hF hv hs
  obtain ⟨Z, hZl, hG⟩ := fmt16_spec v hv hs
  obtain ⟨k1, k2⟩ := home_app Z v hZl hv hs
  have h1 : (List.replicate 33 Z ++ v).length = 57 := by rw [List.length_append, List.length_replicate, hv]
  have h2 : ∀ s ∈ List.replicate 33 Z ++ v, s.length = 128 := by
    intro s h
    rcases List.mem_append.1 h with h | h
    · rw [(List.mem_replicate.1 h).2]; exact hZl
    · exact hs s h
  have hR : Spec Try.prog 27 [.str [0], .int .i64 128] (.str zeros) := by
    have hr := repeat_spec [0] 128 (by decide) (by decide)
    rw [show (List.replicate 128 [(0 : UInt8)]).flatten = zeros from by decide] at hr
    exact hr
  refine ⟨zeros, ⟨List.replicate 33 Z ++ v, [], -1⟩, rfl, h1, h2, rfl, rfl, k1, k2, ?_⟩
  simp only [drV] at hG
  generalize zeros = z at hR
  generalize List.replicate 33 Z ++ v = bl at hG h1 h2 k1 k2
  refine spec_ok Try.func29 rfl rfl (by kernel_rfl) (k := 0) rfl (by decide) ?_
  repeat' (first | (with_reducible first | refine ju ?_ | refine xs1 ?_ | refine xs2 ?_ | refine xs3 ?_ | refine xb1 ?_ | refine xb2 ?_ | refine xb3 (by decide) ?_ | refine xb4 ?_ | refine xl2 ?_ | refine xl3 ?_ | refine xc2 ?_ | refine xc3 ?_ | refine jn ?_ | refine jo ?_ | refine jp ?_ | refine jq ?_ | refine jr ?_ | refine jt ?_ | refine jk (fun M hM => ?_) | refine vif_t ?_ | refine vif_f ?_ | refine jl ?_ | refine jm ?_ | (refine hM _ ?_; clear hM M) | refine ja (jc (by assumption) ?_ rfl ?_) | refine jb (jd (by assumption) rfl ?_) ?_) | ((with_reducible refine je ?_) <;> (first | rfl | assumption | (simp only [znl,jR,jS,jT,jU,jV,jW,jX]; (first | done | fail)))) | (with_reducible refine jf (by (simp only [↓reduceIte,zlk,Nat.reduceEqDiff,reduceCtorEq]); exact rfl) ?_) | ((with_reducible first | refine jg (fun hc => ?_) (fun hc => ?_) | refine jh (fun hc => ?_) (fun hc => ?_)) <;> (try simp (disch := omega) only [zhb] at hc) <;> (try (exfalso; omega)) <;> (try subst hc)) | (with_reducible refine ji (by omega) ?_) | (simp (config := { maxSteps := 400000 }) only [↓jv,↓reduceIte,zvs,reduceCtorEq,Nat.reduceEqDiff,Nat.reduceAdd,Nat.reduceLeDiff,Nat.reduceMul,Int.reduceBNe,Int.reduceBEq,Int.reduceEq,Int.reduceNe,Int.reduceLT,Int.reduceLE,Int.reduceGT,Int.reduceGE,Int.reduceNeg,Int.reduceToNat,Nat.reduceLT,Nat.reduceSub,tab,Try.results29,List.toList_toArray]) | (simp (disch := omega) only [ziw]))
  simp only [bareM]
  ((try simp only [List.map_nil]); simp only [zrds]; (repeat' (first | exact rd_nil | exact Rd.refl _ _ (by first | rfl | assumption | (simp only [znl,jR,jS,jT,jU,jV,jW,jX]; (first | done | fail))) | (refine And.intro ?_ ?_) | (refine rd_own (by (simp only [↓reduceIte,zlk,Nat.reduceEqDiff,reduceCtorEq]); exact rfl) ?_ ?_ ?_) | rfl | assumption | (simp only [znl,jR,jS,jT,jU,jV,jW,jX]; (first | done | fail)) | (simp; done) | (simp; omega))))
end Go.Proofs.Ytlgldkjjbbbapaa.V
end
section
/-
  Drive, part 2: may a drive be (the document's), are two the same.
-/
set_option linter.unusedVariables false
set_option linter.unusedSimpArgs false
namespace Go.Proofs.Ytlgldkjjbbbapaa.V
open Go
set_option maxRecDepth 100000
-- nlx: jR
set_option maxHeartbeats 1000000
end Go.Proofs.Ytlgldkjjbbbapaa.V
end
section
/-
  MACHINES, part 9: a drive's volume; is a machine great.
-/
set_option linter.unusedVariables false
set_option linter.unusedSimpArgs false
namespace Go.Proofs.Ytlgldkjjbbbapaa.V
open Go
set_option maxRecDepth 100000
-- nlx: jR, jS, jT, jU, jV, jW, jX
set_option maxHeartbeats 4000000
theorem checkD_le {d : Dr} (h : checkD d = 0) : d.bl.length ≤ 256 := by
  unfold checkD at h
  split at h
  · omega
  · omega
end Go.Proofs.Ytlgldkjjbbbapaa.V
end
section
/-
  MACHINES, part 13: a machine's volume; where things are on one.
-/
set_option linter.unusedVariables false
set_option linter.unusedSimpArgs false
namespace Go.Proofs.Ytlgldkjjbbbapaa.V
open Go
set_option maxRecDepth 100000
-- nlx: jR, jS, jT, jU, jV, jW, jX
set_option maxHeartbeats 4000000
theorem wrV_len (v : Frames) (w : Wr) : (wrV v w).length = v.length := by
  unfold wrV; split <;> simp
theorem foldl_wrV_len (l : List Wr) : ∀ v : Frames, (l.foldl wrV v).length = v.length := by
  induction l with
  | nil => intro v; rfl
  | cons w l ih => intro v; rw [List.foldl_cons, ih, wrV_len]
theorem homeD_len (d : Dr) : (homeD d).length ≤ d.bl.length := by
  unfold homeD; split
  · simp
  · simp
theorem getP_mem (i : Int) : ∀ (pe : List Wr) (s : List UInt8), getP pe i s = s ∨ ∃ w ∈ pe, getP pe i s = w.d
  | [], s => .inl rfl
  | w :: l, s => by
    have e : getP (w :: l) i s = getP l i (if w.b = i then w.d else s) := rfl
    rw [e]
    rcases getP_mem i l (if w.b = i then w.d else s) with h | ⟨x, h1, h2⟩
    · by_cases hw : w.b = i
      · rw [if_pos hw] at h ⊢
        exact .inr ⟨w, by simp, h⟩
      · rw [if_neg hw] at h ⊢
        exact .inl h
    · exact .inr ⟨x, by simp [h1], h2⟩
theorem homeD_fit {d : Dr} {n : Nat} (h1 : ∀ s ∈ d.bl, s.length ≤ n) (h2 : ∀ w ∈ d.pe, w.d.length ≤ n) : ∀ s ∈ homeD d, s.length ≤ n := by
  intro s hs
  unfold homeD at hs
  split at hs
  · obtain ⟨i, hi, rfl⟩ := List.mem_map.1 hs
    have hi := List.mem_range.1 hi
    unfold homeB
    rcases getP_mem ((33 + i : Nat) : Int) d.pe (d.bl.getD (33 + i) []) with h | ⟨w, hw, h⟩
    · rw [h]
      have := h1 _ (getD_mem' (show 33 + i < d.bl.length by omega))
      rw [default_str] at this
      exact this
    · rw [h]; exact h2 w hw
  · cases hs
theorem wrV_fit {v : Frames} {w : Wr} {n : Nat} (h1 : ∀ s ∈ v, s.length ≤ n) (h2 : w.d.length ≤ n) : ∀ s ∈ wrV v w, s.length ≤ n := by
  intro s hs
  unfold wrV at hs
  split at hs
  · rcases List.mem_or_eq_of_mem_set hs with h | h
    · exact h1 s h
    · rw [h]; exact h2
  · exact h1 s hs
theorem foldl_wrV_fit {n : Nat} (l : List Wr) : ∀ v : Frames, (∀ s ∈ v, s.length ≤ n) → (∀ w ∈ l, w.d.length ≤ n) → ∀ s ∈ l.foldl wrV v, s.length ≤ n := by
  induction l with
  | nil => intro v h1 _; exact h1
  | cons w l ih => intro v h1 h2; rw [List.foldl_cons]; exact ih _ (wrV_fit h1 (h2 w (by simp))) fun x hx => h2 x (by simp [hx])
theorem dfit_of {m : Mach} (hm : MFit 20000 m) : dfit m.dr :=
  ⟨⟨by have := hm.bl; omega, fun s hs => by have := hm.blS s hs; omega⟩, by have := hm.pe; omega, fun w hw => by have := (hm.peS w hw).2; omega⟩
end Go.Proofs.Ytlgldkjjbbbapaa.V
end
section
/-
  MACHINES, part 5: a pipe, its ends, who has a frame.
-/
set_option linter.unusedVariables false
set_option linter.unusedSimpArgs false
namespace Go.Proofs.Ytlgldkjjbbbapaa.V
open Go
set_option maxRecDepth 100000
-- nlx: jR, jS, jT, jU, jV, jW, jX
set_option maxHeartbeats 1000000
end Go.Proofs.Ytlgldkjjbbbapaa.V
end
section
/-
  MACHINES, part 6: an open file.
-/
set_option linter.unusedVariables false
set_option linter.unusedSimpArgs false
namespace Go.Proofs.Ytlgldkjjbbbapaa.V
open Go
set_option maxRecDepth 100000
-- nlx: jR, jS, jT, jU, jV, jW, jX
set_option maxHeartbeats 1000000
end Go.Proofs.Ytlgldkjjbbbapaa.V
end
section
/-
  MACHINES, part 7: may a process be.
-/
set_option linter.unusedVariables false
set_option linter.unusedSimpArgs false
namespace Go.Proofs.Ytlgldkjjbbbapaa.V
open Go
set_option maxRecDepth 100000
-- nlx: jR, jS, jT, jU, jV, jW, jX
set_option maxHeartbeats 8000000
def headP (next pid st r0 par why n code : Int) (lb : Prop) : Prop :=
  1 ≤ pid ∧ pid < next ∧ (st = 1 ∨ st = 2 ∨ st = 3) ∧ r0 = 0 ∧ (lb ∨ (st ≠ 3 ∧ par = 0)) ∧ (st = 2 ↔ why ≠ 0) ∧ 0 ≤ why ∧ why ≤ 5 ∧ (st = 2 ∨ n = 0) ∧ (st = 3 ∨ code = 0)
theorem procH_iff (m : Mach) (p : Pr) : procH m p = true ↔ headP m.next p.pid p.st (p.rs.getD 0 default) p.par p.why p.n p.code (livesB m.pr p.par = true) := by
  unfold procH headP
  rw [show p.rs.getD 0 default = p.rs.getD 0 0 from rfl]
  cases livesB m.pr p.par
  · simp only [true_and,Bool.false_eq_true,false_or]
    (repeat' split)
    all_goals (simp only [Bool.false_eq_true,false_iff,true_iff]; omega)
  · simp only [Bool.true_eq_false,false_and,if_false,true_or,true_and]
    (repeat' split)
    all_goals (simp only [Bool.false_eq_true,false_iff,true_iff]; omega)
theorem fit_pt (a b : Bool) (c : Int) : Fit (EQ.st [EQ.bool, EQ.bool, EQ.int .i64]) (.agg [.bool a, .bool b, .int .i64 c]) := by simp [Fit, FitL]
theorem veq_pt (a b a' b' : Bool) (c c' : Int) : veq (.agg [.bool a, .bool b, .int .i64 c]) (.agg [.bool a', .bool b', .int .i64 c']) = ((a == a') && ((b == b') && (c == c'))) := by
  simp only [veq,veqs,Bool.and_true]
abbrev encPrA (p : Pr) : VV := .agg [.int .i64 p.pid, .int .i64 p.par, .int .i64 p.st, .agg [.agg (p.rs.map (.int .u32)), .int .u32 p.pc], .agg (p.sp.map encPte), .agg (p.fds.map encFd), .bool p.mask, .int .u32 p.code, .int .i64 p.why, .int .u64 p.n]
theorem pteB_is {m : Mach} {p : Pr} {x : Pte} (h : x.is = true) : pteB m p x = true ↔ (p.st ≠ 3 ∧ 0 ≤ x.fr ∧ x.fr < m.fr.length ∧ usersN m.pr x.fr = 1) := by
  unfold pteB; rw [if_pos h, decide_eq_true_eq]
theorem pteB_no {m : Mach} {p : Pr} {x : Pte} (h : x.is = false) : pteB m p x = true ↔ (x.wr = false ∧ x.fr = 0) := by
  unfold pteB; rw [if_neg (by rw [h]; simp), decide_eq_true_eq]
end Go.Proofs.Ytlgldkjjbbbapaa.V
end
