/-
  Parts of the proof of SchedStays: NU, NQ, NR.
  Conditions: none.
-/
import Derived.Test.YtlgldkjjbbbapaaWSchedStays10
import Derived.Test.YtlgldkjjbbbapaaWSchedStays12
import Derived.Test.YtlgldkjjbbbapaaWSchedStays14
section
/-
  MACHINES, part 27: the program's own test of a volume's first blocks.
-/
set_option linter.unusedVariables false
set_option linter.unusedSimpArgs false
namespace Go.Proofs.Ytlgldkjjbbbapaa.V
open Go
set_option maxRecDepth 100000
-- nlx: jR, jS, jT, jU, jV, jW, jX
set_option maxHeartbeats 4000000
theorem gplan_spec (b i : Int) (hb : 0 ≤ b ∧ b ≤ 1000000) (hi : 0 ≤ i ∧ i ≤ 1000000) : Spec Try.prog 119 [.int .i64 b, .int .i64 i] (planV (planG b i)) := by
  unfold planG
  have h6 : ∀ a : VV, List.replicate 6 a = [a, a, a, a, a, a] := fun _ => rfl
  by_cases h1 : b < 16 ∨ 223 < b ∨ i < 4 ∨ 64 < i
  · rw [if_pos h1]
    refine spec_ok Try.func119 rfl rfl (by kernel_rfl) (k := 2) rfl (by decide) ?_
    repeat' (first | (with_reducible first | refine ju ?_ | refine xs1 ?_ | refine xs2 ?_ | refine xs3 ?_ | refine xb1 ?_ | refine xb2 ?_ | refine xb3 (by decide) ?_ | refine xb4 ?_ | refine xl2 ?_ | refine xl3 ?_ | refine xc2 ?_ | refine xc3 ?_ | refine jn ?_ | refine jo ?_ | refine jp ?_ | refine jq ?_ | refine jr ?_ | refine jt ?_ | refine jk (fun M hM => ?_) | refine vif_t ?_ | refine vif_f ?_ | refine jl ?_ | refine jm ?_ | (refine hM _ ?_; clear hM M) | refine ja (jc (by assumption) ?_ rfl ?_) | refine jb (jd (by assumption) rfl ?_) ?_) | ((with_reducible refine je ?_) <;> (first | rfl | assumption | (simp only [znl,jR,jS,jT,jU,jV,jW,jX]; (first | done | fail)))) | (with_reducible refine jf (by (simp only [↓reduceIte,zlk,Nat.reduceEqDiff,reduceCtorEq]); exact rfl) ?_) | ((with_reducible first | refine jg (fun hc => ?_) (fun hc => ?_) | refine jh (fun hc => ?_) (fun hc => ?_)) <;> (try simp (disch := omega) only [zhb] at hc) <;> (try (exfalso; omega)) <;> (try subst hc)) | (with_reducible refine ji (by omega) ?_) | (simp (config := { maxSteps := 400000 }) only [↓jv,↓reduceIte,zvs,reduceCtorEq,Nat.reduceEqDiff,Nat.reduceAdd,Nat.reduceLeDiff,Nat.reduceMul,Int.reduceBNe,Int.reduceBEq,Int.reduceEq,Int.reduceNe,Int.reduceLT,Int.reduceLE,Int.reduceGT,Int.reduceGE,Int.reduceNeg,Int.reduceToNat,Nat.reduceLT,Nat.reduceSub,tab,h6,Try.results119,List.toList_toArray]) | (simp (disch := omega) only [ziw]))
    all_goals first
      | (exfalso; omega)
      | (simp only [planV,geoV]; simp only [zrds]; done)
      | trace_state
  · rw [if_neg h1]
    by_cases h2 : b ≤ 3 + (i + 1) / 2
    · rw [if_pos h2]
      refine spec_ok Try.func119 rfl rfl (by kernel_rfl) (k := 2) rfl (by decide) ?_
      repeat' (first | (with_reducible first | refine ju ?_ | refine xs1 ?_ | refine xs2 ?_ | refine xs3 ?_ | refine xb1 ?_ | refine xb2 ?_ | refine xb3 (by decide) ?_ | refine xb4 ?_ | refine xl2 ?_ | refine xl3 ?_ | refine xc2 ?_ | refine xc3 ?_ | refine jn ?_ | refine jo ?_ | refine jp ?_ | refine jq ?_ | refine jr ?_ | refine jt ?_ | refine jk (fun M hM => ?_) | refine vif_t ?_ | refine vif_f ?_ | refine jl ?_ | refine jm ?_ | (refine hM _ ?_; clear hM M) | refine ja (jc (by assumption) ?_ rfl ?_) | refine jb (jd (by assumption) rfl ?_) ?_) | ((with_reducible refine je ?_) <;> (first | rfl | assumption | (simp only [znl,jR,jS,jT,jU,jV,jW,jX]; (first | done | fail)))) | (with_reducible refine jf (by (simp only [↓reduceIte,zlk,Nat.reduceEqDiff,reduceCtorEq]); exact rfl) ?_) | ((with_reducible first | refine jg (fun hc => ?_) (fun hc => ?_) | refine jh (fun hc => ?_) (fun hc => ?_)) <;> (try simp (disch := omega) only [zhb] at hc) <;> (try (exfalso; omega)) <;> (try subst hc)) | (with_reducible refine ji (by omega) ?_) | (simp (config := { maxSteps := 400000 }) only [↓jv,↓reduceIte,zvs,reduceCtorEq,Nat.reduceEqDiff,Nat.reduceAdd,Nat.reduceLeDiff,Nat.reduceMul,Int.reduceBNe,Int.reduceBEq,Int.reduceEq,Int.reduceNe,Int.reduceLT,Int.reduceLE,Int.reduceGT,Int.reduceGE,Int.reduceNeg,Int.reduceToNat,Nat.reduceLT,Nat.reduceSub,tab,h6,Try.results119,List.toList_toArray]) | (simp (disch := omega) only [ziw]))
      all_goals first
        | (exfalso; omega)
        | (simp only [planV,geoV]; simp only [zrds]; done)
        | trace_state
    · rw [if_neg h2]
      refine spec_ok Try.func119 rfl rfl (by kernel_rfl) (k := 2) rfl (by decide) ?_
      repeat' (first | (with_reducible first | refine ju ?_ | refine xs1 ?_ | refine xs2 ?_ | refine xs3 ?_ | refine xb1 ?_ | refine xb2 ?_ | refine xb3 (by decide) ?_ | refine xb4 ?_ | refine xl2 ?_ | refine xl3 ?_ | refine xc2 ?_ | refine xc3 ?_ | refine jn ?_ | refine jo ?_ | refine jp ?_ | refine jq ?_ | refine jr ?_ | refine jt ?_ | refine jk (fun M hM => ?_) | refine vif_t ?_ | refine vif_f ?_ | refine jl ?_ | refine jm ?_ | (refine hM _ ?_; clear hM M) | refine ja (jc (by assumption) ?_ rfl ?_) | refine jb (jd (by assumption) rfl ?_) ?_) | ((with_reducible refine je ?_) <;> (first | rfl | assumption | (simp only [znl,jR,jS,jT,jU,jV,jW,jX]; (first | done | fail)))) | (with_reducible refine jf (by (simp only [↓reduceIte,zlk,Nat.reduceEqDiff,reduceCtorEq]); exact rfl) ?_) | ((with_reducible first | refine jg (fun hc => ?_) (fun hc => ?_) | refine jh (fun hc => ?_) (fun hc => ?_)) <;> (try simp (disch := omega) only [zhb] at hc) <;> (try (exfalso; omega)) <;> (try subst hc)) | (with_reducible refine ji (by omega) ?_) | (simp (config := { maxSteps := 400000 }) only [↓jv,↓reduceIte,zvs,reduceCtorEq,Nat.reduceEqDiff,Nat.reduceAdd,Nat.reduceLeDiff,Nat.reduceMul,Int.reduceBNe,Int.reduceBEq,Int.reduceEq,Int.reduceNe,Int.reduceLT,Int.reduceLE,Int.reduceGT,Int.reduceGE,Int.reduceNeg,Int.reduceToNat,Nat.reduceLT,Nat.reduceSub,tab,h6,Try.results119,List.toList_toArray]) | (simp (disch := omega) only [ziw]))
      all_goals first
        | (exfalso; omega)
        | (simp only [planV,geoV]; simp only [zrds]; done)
        | trace_state
theorem gfirst_spec (g : Geo) (h1 : 0 ≤ g.bl ∧ g.bl < 1000) (h2 : 0 ≤ g.ino ∧ g.ino < 1000) : Spec Try.prog 121 [geoV g] (.str (headG g.bl g.ino)) := by
  obtain ⟨b, i, q, mp, tb, da⟩ := g
  dsimp only at h1 h2
  obtain ⟨b, rfl⟩ := Int.eq_ofNat_of_zero_le h1.1
  obtain ⟨i, rfl⟩ := Int.eq_ofNat_of_zero_le h2.1
  have hA : Spec Try.prog 130 [.int .u64 b, .int .i64 2] (.str (putLE b 2)) := num_put_spec b (by omega) 2
  have hB : Spec Try.prog 130 [.int .u64 i, .int .i64 2] (.str (putLE i 2)) := num_put_spec i (by omega) 2
  have hC : Spec Try.prog 27 [.str [0], .int .i64 120] (.str (List.replicate 120 0)) := by
    have hr := repeat_spec [0] 120 (by decide) (by decide)
    rw [show (List.replicate 120 [(0 : UInt8)]).flatten = List.replicate 120 0 from by decide] at hr
    exact hr
  have l1 := putLE_len b 2
  have l2 := putLE_len i 2
  have z120 : (128 : Int) - ((8 : Nat) : Int) = 120 := rfl
  simp only [geoV,headG,Int.toNat_natCast]
  refine spec_ok Try.func121 rfl rfl (by kernel_rfl) (k := 1) rfl (by decide) ?_
  repeat' (first | (with_reducible first | refine ju ?_ | refine xs1 ?_ | refine xs2 ?_ | refine xs3 ?_ | refine xb1 ?_ | refine xb2 ?_ | refine xb3 (by decide) ?_ | refine xb4 ?_ | refine xl2 ?_ | refine xl3 ?_ | refine xc2 ?_ | refine xc3 ?_ | refine jn ?_ | refine jo ?_ | refine jp ?_ | refine jq ?_ | refine jr ?_ | refine jt ?_ | refine jk (fun M hM => ?_) | refine vif_t ?_ | refine vif_f ?_ | refine jl ?_ | refine jm ?_ | (refine hM _ ?_; clear hM M) | refine ja (jc (by assumption) ?_ rfl ?_) | refine jb (jd (by assumption) rfl ?_) ?_) | ((with_reducible refine je ?_) <;> (first | rfl | assumption | (simp only [znl,jR,jS,jT,jU,jV,jW,jX]; (first | done | fail)))) | (with_reducible refine jf (by (simp only [↓reduceIte,zlk,Nat.reduceEqDiff,reduceCtorEq]); exact rfl) ?_) | ((with_reducible first | refine jg (fun hc => ?_) (fun hc => ?_) | refine jh (fun hc => ?_) (fun hc => ?_)) <;> (try simp (disch := omega) only [zhb] at hc) <;> (try (exfalso; omega)) <;> (try subst hc)) | (with_reducible refine ji (by omega) ?_) | (simp (config := { maxSteps := 400000 }) only [↓jv,↓reduceIte,zvs,reduceCtorEq,Nat.reduceEqDiff,Nat.reduceAdd,Nat.reduceLeDiff,Nat.reduceMul,Int.reduceBNe,Int.reduceBEq,Int.reduceEq,Int.reduceNe,Int.reduceLT,Int.reduceLE,Int.reduceGT,Int.reduceGE,Int.reduceNeg,Int.reduceToNat,Nat.reduceLT,Nat.reduceSub,tab,l1,l2,Try.results121,List.toList_toArray]) | (simp (disch := omega) only [ziw]))
  refine ok_draw 10 (by kernel_rfl) (by decide +kernel) (by intro m hm; simp only [upd_ap,rows_cons,rows_nil]; (repeat (first | rfl | rw [if_neg (by omega)]))) (fun M hM => ?_); simp only [List.take_succ_cons,List.take_zero,List.drop_succ_cons,List.drop_zero]
  repeat' (first | (with_reducible first | refine ju ?_ | refine xs1 ?_ | refine xs2 ?_ | refine xs3 ?_ | refine xb1 ?_ | refine xb2 ?_ | refine xb3 (by decide) ?_ | refine xb4 ?_ | refine xl2 ?_ | refine xl3 ?_ | refine xc2 ?_ | refine xc3 ?_ | refine jn ?_ | refine jo ?_ | refine jp ?_ | refine jq ?_ | refine jr ?_ | refine jt ?_ | refine jk (fun M hM => ?_) | refine vif_t ?_ | refine vif_f ?_ | refine jl ?_ | refine jm ?_ | (refine hM _ ?_; clear hM M) | refine ja (jc (by assumption) ?_ rfl ?_) | refine jb (jd (by assumption) rfl ?_) ?_) | ((with_reducible refine je ?_) <;> (first | rfl | assumption | (simp only [znl,jR,jS,jT,jU,jV,jW,jX]; (first | done | fail)))) | (with_reducible refine jf (by (simp only [↓reduceIte,zlk,Nat.reduceEqDiff,reduceCtorEq]); exact rfl) ?_) | ((with_reducible first | refine jg (fun hc => ?_) (fun hc => ?_) | refine jh (fun hc => ?_) (fun hc => ?_)) <;> (try simp (disch := omega) only [zhb] at hc) <;> (try (exfalso; omega)) <;> (try subst hc)) | (with_reducible refine ji (by omega) ?_) | (simp (config := { maxSteps := 400000 }) only [↓jv,↓reduceIte,zvs,reduceCtorEq,Nat.reduceEqDiff,Nat.reduceAdd,Nat.reduceLeDiff,Nat.reduceMul,Int.reduceBNe,Int.reduceBEq,Int.reduceEq,Int.reduceNe,Int.reduceLT,Int.reduceLE,Int.reduceGT,Int.reduceGE,Int.reduceNeg,Int.reduceToNat,Nat.reduceLT,Nat.reduceSub,tab,l1,l2,z120,Try.results121,List.toList_toArray]) | (simp (disch := omega) only [ziw]))
  all_goals first
    | (simp only [zrds]; done)
    | trace_state
theorem gbit_spec (v : Frames) (hv : 3 ≤ v.length ∧ v.length ≤ 20000) (hs : (v.getD 2 []).length = 128) (i : Nat) (hi : i < 1024) : Spec Try.prog 122 [encStrs v, .int .i64 i] (.bool (bitB (v.getD 2 []) i)) := by
  refine spec_ok Try.func122 rfl rfl (by kernel_rfl) (k := 2) rfl (by decide) ?_
  repeat' (first | (with_reducible first | refine ju ?_ | refine xs1 ?_ | refine xs2 ?_ | refine xs3 ?_ | refine xb1 ?_ | refine xb2 ?_ | refine xb3 (by decide) ?_ | refine xb4 ?_ | refine xl2 ?_ | refine xl3 ?_ | refine xc2 ?_ | refine xc3 ?_ | refine jn ?_ | refine jo ?_ | refine jp ?_ | refine jq ?_ | refine jr ?_ | refine jt ?_ | refine jk (fun M hM => ?_) | refine vif_t ?_ | refine vif_f ?_ | refine jl ?_ | refine jm ?_ | (refine hM _ ?_; clear hM M) | refine ja (jc (by assumption) ?_ rfl ?_) | refine jb (jd (by assumption) rfl ?_) ?_) | ((with_reducible refine je ?_) <;> (first | rfl | assumption | (simp only [znl,jR,jS,jT,jU,jV,jW,jX]; (first | done | fail)))) | (with_reducible refine jf (by (simp only [↓reduceIte,zlk,Nat.reduceEqDiff,reduceCtorEq]); exact rfl) ?_) | ((with_reducible first | refine jg (fun hc => ?_) (fun hc => ?_) | refine jh (fun hc => ?_) (fun hc => ?_)) <;> (try simp (disch := omega) only [zhb] at hc) <;> (try (exfalso; omega)) <;> (try subst hc)) | (with_reducible refine ji (by omega) ?_) | (simp (config := { maxSteps := 400000 }) only [↓jv,↓reduceIte,zvs,reduceCtorEq,Nat.reduceEqDiff,Nat.reduceAdd,Nat.reduceLeDiff,Nat.reduceMul,Int.reduceBNe,Int.reduceBEq,Int.reduceEq,Int.reduceNe,Int.reduceLT,Int.reduceLE,Int.reduceGT,Int.reduceGE,Int.reduceNeg,Int.reduceToNat,Nat.reduceLT,Nat.reduceSub,tab,hs,Try.results122,List.toList_toArray]) | (simp (disch := omega) only [ziw]))
  unfold bitB
  simp only [zrds]
theorem head_le {v : List UInt8} {b i : Nat} (hv : v = headG b i) (hb : b < 65536) (hi : i < 65536) : getLE ((v.drop 4).take 2) = b ∧ getLE ((v.drop 6).take 2) = i := by
  subst hv
  have e1 : ((headG b i).drop 4).take 2 = putLE b 2 := by
    simp only [headG,Int.toNat_natCast]
    simp [putLE]
  have e2 : ((headG b i).drop 6).take 2 = putLE i 2 := by
    simp only [headG,Int.toNat_natCast]
    simp [putLE]
  have key : ∀ n : Nat, n < 65536 → getLE (putLE n 2) = n := fun n hn => by
    simp only [putLE,List.nil_append,List.cons_append,getLE,Nat.pow_zero,Nat.div_one,Nat.pow_one,Nat.mul_zero,Nat.add_zero,UInt8.toNat_ofNat']
    omega
  rw [e1, e2]
  exact ⟨key b hb, key i hi⟩
theorem gof_ok (v : Frames) (hv : v.length ≤ 20000) (hs : ∀ s ∈ v, s.length ≤ 20000) (h0 : volE v = 0) : ∃ g, Spec Try.prog 88 [encStrs v] (.tup [geoV g, .int .i64 0]) := by
  have h6 : ∀ a : VV, List.replicate 6 a = [a, a, a, a, a, a] := fun _ => rfl
  unfold volE at h0
  dsimp only at h0
  split at h0
  · omega
  rename_i h16
  split at h0
  · omega
  rename_i hAny
  have hA : ∀ s ∈ v, s.length = 128 := fun s h => by
    refine Decidable.byContradiction fun hc => hAny ?_
    rw [List.any_eq_true]
    exact ⟨s, h, decide_eq_true hc⟩
  split at h0
  · omega
  rename_i hp
  split at h0
  · rename_i hbits
    have hl0 : (v.getD 0 []).length = 128 := by
      have := hA _ (getD_mem' (show 0 < v.length by omega))
      rw [default_str] at this
      exact this
    have hl2 : (v.getD 2 []).length = 128 := by
      have := hA _ (getD_mem' (show 2 < v.length by omega))
      rw [default_str] at this
      exact this
    have hb6 : ((v.getD 0 []).drop 6 |>.take 2).length = 2 := by rw [List.length_take, List.length_drop]; omega
    have hb4 : ((v.getD 0 []).drop 4 |>.take 2).length = 2 := by rw [List.length_take, List.length_drop]; omega
    have hN6 := num_get_spec (((v.getD 0 []).drop 6).take 2) (by omega)
    have hN4 := num_get_spec (((v.getD 0 []).drop 4).take 2) (by omega)
    rw [show List.take 8 (((v.getD 0 []).drop 6).take 2) = ((v.getD 0 []).drop 6).take 2 from List.take_of_length_le (by omega)] at hN6
    rw [show List.take 8 (((v.getD 0 []).drop 4).take 2) = ((v.getD 0 []).drop 4).take 2 from List.take_of_length_le (by omega)] at hN4
    have hNl := getLE_lt (((v.getD 0 []).drop 6).take 2)
    rw [hb6] at hNl
    have hd : v.getD 0 [] = headG v.length (getLE (((v.getD 0 []).drop 6).take 2)) := Decidable.byContradiction fun hc => hp (.inr hc)
    have hpl : (planG v.length (getLE (((v.getD 0 []).drop 6).take 2))).2 = 0 := Decidable.byContradiction fun hc => hp (.inl hc)
    have hlen : v.length ≤ 223 ∧ 4 ≤ getLE (((v.getD 0 []).drop 6).take 2) ∧ getLE (((v.getD 0 []).drop 6).take 2) ≤ 64 ∧ planG v.length (getLE (((v.getD 0 []).drop 6).take 2)) = (⟨v.length, getLE (((v.getD 0 []).drop 6).take 2), 1, 2, 3, 3 + ((getLE (((v.getD 0 []).drop 6).take 2) : Int) + 1) / 2⟩, 0) := by
      unfold planG at hpl ⊢
      split at hpl
      · simp at hpl
      · split at hpl
        · simp at hpl
        · rename_i q1 q2
          rw [if_neg q1, if_neg q2]
          exact ⟨by omega, by omega, by omega, rfl⟩
    have h4 := (head_le hd (by omega) (by omega)).1
    rw [h4] at hN4
    generalize getLE (((v.getD 0 []).drop 6).take 2) = ino at hN6 hNl hd hlen hbits hpl
    obtain ⟨q1, q2, q3, hq⟩ := hlen
    rw [hq] at hbits
    have hP := gplan_spec v.length ino (by omega) (by omega)
    rw [hq] at hP
    simp only [planV,geoV] at hP
    have hH := gfirst_spec ⟨v.length, ino, 1, 2, 3, 3 + ((ino : Int) + 1) / 2⟩ (by dsimp only; omega) (by dsimp only; omega)
    simp only [geoV] at hH
    rw [← hd] at hH
    have hQ : ∀ k : Nat, k < 1024 → (!((decide ((k : Int) < 3 + ((ino : Int) + 1) / 2) && !bitB (v.getD 2 []) k) || (decide ((v.length : Int) ≤ k) && bitB (v.getD 2 []) k))) = true := fun k hk => (List.all_eq_true.1 hbits) k (List.mem_range.2 hk)
    clear hbits hq hpl hp hAny
    refine ⟨⟨v.length, ino, 1, 2, 3, 3 + ((ino : Int) + 1) / 2⟩, spec_ok Try.func88 rfl rfl (by kernel_rfl) (k := 1) rfl (by decide) ?_⟩
    repeat' (first | (with_reducible first | refine ju ?_ | refine xs1 ?_ | refine xs2 ?_ | refine xs3 ?_ | refine xb1 ?_ | refine xb2 ?_ | refine xb3 (by decide) ?_ | refine xb4 ?_ | refine xl2 ?_ | refine xl3 ?_ | refine xc2 ?_ | refine xc3 ?_ | refine jn ?_ | refine jo ?_ | refine jp ?_ | refine jq ?_ | refine jr ?_ | refine jt ?_ | refine jk (fun M hM => ?_) | refine vif_t ?_ | refine vif_f ?_ | refine jl ?_ | refine jm ?_ | (refine hM _ ?_; clear hM M) | refine ja (jc (by assumption) ?_ rfl ?_) | refine jb (jd (by assumption) rfl ?_) ?_) | ((with_reducible refine je ?_) <;> (first | rfl | assumption | (simp only [znl,jR,jS,jT,jU,jV,jW,jX]; (first | done | fail)))) | (with_reducible refine jf (by (simp only [↓reduceIte,zlk,Nat.reduceEqDiff,reduceCtorEq]); exact rfl) ?_) | ((with_reducible first | refine jg (fun hc => ?_) (fun hc => ?_) | refine jh (fun hc => ?_) (fun hc => ?_)) <;> (try simp (disch := omega) only [zhb] at hc) <;> (try (exfalso; omega)) <;> (try subst hc)) | (with_reducible refine ji (by omega) ?_) | (simp (config := { maxSteps := 400000 }) only [↓jv,↓reduceIte,zvs,reduceCtorEq,Nat.reduceEqDiff,Nat.reduceAdd,Nat.reduceLeDiff,Nat.reduceMul,Int.reduceBNe,Int.reduceBEq,Int.reduceEq,Int.reduceNe,Int.reduceLT,Int.reduceLE,Int.reduceGT,Int.reduceGE,Int.reduceNeg,Int.reduceToNat,Nat.reduceLT,Nat.reduceSub,tab,h6,Try.results88,List.toList_toArray]) | (simp (disch := omega) only [ziw]))
    refine ok_loop (fun k : Nat => ⟨slots [(0, encStrs v), (2, .ptr 0 []), (10, encStrs v), (11, .int .i64 v.length), (12, .int .i64 k)], rows [(0, .row geoSh (.agg [.int .i64 0, .int .i64 0, .int .i64 0, .int .i64 0, .int .i64 0, .int .i64 0]))], 1⟩) (fun k => k ≤ v.length) (fun k => v.length - k) 0 ?_ (Nat.zero_le _) (fun k hk => ?_)
    · (refine Ren.mk [(0, 0)] false (by first | (intro h; cases h; done) | exact fun _ => rfl) (by first | decide | rfl | (simp [jQ]; done)) (by decide) ?_ ?_ <;> (repeat' (first | (with_reducible first | refine jw (by first | rfl | omega) | refine jx rfl | refine jy rfl | refine jz rfl (by first | rfl | assumption | (simp only [znl,jR,jS,jT,jU,jV,jW,jX]; (first | done | fail))) | refine jF ?_ ?_ (by first | rfl | omega) | refine MR.ptr ?_ ?_ | refine jA | refine jB | refine jC ?_ | refine jD rfl (by (simp only [↓reduceIte,zlk,Nat.reduceEqDiff,reduceCtorEq]); exact rfl) ?_ ?_ ?_ (by decide) | refine jE rfl (by first | rfl | assumption | (simp only [znl,jR,jS,jT,jU,jV,jW,jX]; (first | done | fail))) | refine MR.agg (MRL.cons ?_ ?_) | refine jE ?_ (by first | rfl | assumption | (simp only [znl,jR,jS,jT,jU,jV,jW,jX]; (first | done | fail))) | refine MR.fn ?_ | refine MRL.cons ?_ ?_ | refine MRL.nil | refine jG ?_ ?_ | refine jH | refine jI | refine jJ ?_ (by (simp only [↓reduceIte,zlk,Nat.reduceEqDiff,reduceCtorEq]); exact rfl) ?_ ?_ | refine MB.row ?_ | refine jK ?_ ?_ | refine MR.map ?_ ?_ | refine jL rfl (by first | rfl | assumption | (simp only [znl,jR,jS,jT,jU,jV,jW,jX]; (first | done | fail))) | rfl) | (simp only [znl,jR,jS,jT,jU,jV,jW,jX]; (first | done | fail)) | (refine jM rfl ?_) | exact jN rfl | exact jO rfl | ((with_reducible refine jP ?_) <;> rfl) | (simp only [↓reduceIte,zlk,Nat.reduceEqDiff,reduceCtorEq]) | (with_reducible first | refine jL ?_ ?_ | refine jF ?_ ?_ ?_ | refine jw ?_ | refine jx ?_ | refine jy ?_ | refine jz ?_ (by first | rfl | assumption | (simp only [znl,jR,jS,jT,jU,jV,jW,jX]; (first | done | fail))) | refine jE ?_ ?_))))
      all_goals (first | rfl | trace_state)
    by_cases hlt : k < v.length
    · have hsk := hA _ (getD_mem' hlt)
      rw [default_str] at hsk
      repeat' (first | (with_reducible first | refine ju ?_ | refine xs1 ?_ | refine xs2 ?_ | refine xs3 ?_ | refine xb1 ?_ | refine xb2 ?_ | refine xb3 (by decide) ?_ | refine xb4 ?_ | refine xl2 ?_ | refine xl3 ?_ | refine xc2 ?_ | refine xc3 ?_ | refine jn ?_ | refine jo ?_ | refine jp ?_ | refine jq ?_ | refine jr ?_ | refine jt ?_ | refine jk (fun M hM => ?_) | refine vif_t ?_ | refine vif_f ?_ | refine jl ?_ | refine jm ?_ | (refine hM _ ?_; clear hM M) | refine ja (jc (by assumption) ?_ rfl ?_) | refine jb (jd (by assumption) rfl ?_) ?_) | ((with_reducible refine je ?_) <;> (first | rfl | assumption | (simp only [znl,jR,jS,jT,jU,jV,jW,jX]; (first | done | fail)))) | (with_reducible refine jf (by (simp only [↓reduceIte,zlk,Nat.reduceEqDiff,reduceCtorEq]); exact rfl) ?_) | ((with_reducible first | refine jg (fun hc => ?_) (fun hc => ?_) | refine jh (fun hc => ?_) (fun hc => ?_)) <;> (try simp (disch := omega) only [zhb] at hc) <;> (try (exfalso; omega)) <;> (try subst hc)) | (with_reducible refine ji (by omega) ?_) | (simp (config := { maxSteps := 400000 }) only [↓jv,↓reduceIte,zvs,reduceCtorEq,Nat.reduceEqDiff,Nat.reduceAdd,Nat.reduceLeDiff,Nat.reduceMul,Int.reduceBNe,Int.reduceBEq,Int.reduceEq,Int.reduceNe,Int.reduceLT,Int.reduceLE,Int.reduceGT,Int.reduceGE,Int.reduceNeg,Int.reduceToNat,Nat.reduceLT,Nat.reduceSub,tab,h6,hsk,Try.results88,List.toList_toArray]) | (simp (disch := omega) only [ziw]))
      all_goals first
        | (exfalso; omega)
        | (refine xl1 (k + 1) ?_ (by show k + 1 ≤ v.length; omega) (by show v.length - (k + 1) < v.length - k; omega); (refine Ren.mk [(0, 0)] false (by first | (intro h; cases h; done) | exact fun _ => rfl) (by first | decide | rfl | (simp [jQ]; done)) (by decide) ?_ ?_ <;> (repeat' (first | (with_reducible first | refine jw (by first | rfl | omega) | refine jx rfl | refine jy rfl | refine jz rfl (by first | rfl | assumption | (simp only [znl,jR,jS,jT,jU,jV,jW,jX]; (first | done | fail))) | refine jF ?_ ?_ (by first | rfl | omega) | refine MR.ptr ?_ ?_ | refine jA | refine jB | refine jC ?_ | refine jD rfl (by (simp only [↓reduceIte,zlk,Nat.reduceEqDiff,reduceCtorEq]); exact rfl) ?_ ?_ ?_ (by decide) | refine jE rfl (by first | rfl | assumption | (simp only [znl,jR,jS,jT,jU,jV,jW,jX]; (first | done | fail))) | refine MR.agg (MRL.cons ?_ ?_) | refine jE ?_ (by first | rfl | assumption | (simp only [znl,jR,jS,jT,jU,jV,jW,jX]; (first | done | fail))) | refine MR.fn ?_ | refine MRL.cons ?_ ?_ | refine MRL.nil | refine jG ?_ ?_ | refine jH | refine jI | refine jJ ?_ (by (simp only [↓reduceIte,zlk,Nat.reduceEqDiff,reduceCtorEq]); exact rfl) ?_ ?_ | refine MB.row ?_ | refine jK ?_ ?_ | refine MR.map ?_ ?_ | refine jL rfl (by first | rfl | assumption | (simp only [znl,jR,jS,jT,jU,jV,jW,jX]; (first | done | fail))) | rfl) | (simp only [znl,jR,jS,jT,jU,jV,jW,jX]; (first | done | fail)) | (refine jM rfl ?_) | exact jN rfl | exact jO rfl | ((with_reducible refine jP ?_) <;> rfl) | (simp only [↓reduceIte,zlk,Nat.reduceEqDiff,reduceCtorEq]) | (with_reducible first | refine jL ?_ ?_ | refine jF ?_ ?_ ?_ | refine jw ?_ | refine jx ?_ | refine jy ?_ | refine jz ?_ (by first | rfl | assumption | (simp only [znl,jR,jS,jT,jU,jV,jW,jX]; (first | done | fail))) | refine jE ?_ ?_)))); done)
        | trace_state
    obtain rfl : k = v.length := by omega
    repeat' (first | (with_reducible first | refine ju ?_ | refine xs1 ?_ | refine xs2 ?_ | refine xs3 ?_ | refine xb1 ?_ | refine xb2 ?_ | refine xb3 (by decide) ?_ | refine xb4 ?_ | refine xl2 ?_ | refine xl3 ?_ | refine xc2 ?_ | refine xc3 ?_ | refine jn ?_ | refine jo ?_ | refine jp ?_ | refine jq ?_ | refine jr ?_ | refine jt ?_ | refine jk (fun M hM => ?_) | refine vif_t ?_ | refine vif_f ?_ | refine jl ?_ | refine jm ?_ | (refine hM _ ?_; clear hM M) | refine ja (jc (by assumption) ?_ rfl ?_) | refine jb (jd (by assumption) rfl ?_) ?_) | ((with_reducible refine je ?_) <;> (first | rfl | assumption | (simp only [znl,jR,jS,jT,jU,jV,jW,jX]; (first | done | fail)))) | (with_reducible refine jf (by (simp only [↓reduceIte,zlk,Nat.reduceEqDiff,reduceCtorEq]); exact rfl) ?_) | ((with_reducible first | refine jg (fun hc => ?_) (fun hc => ?_) | refine jh (fun hc => ?_) (fun hc => ?_)) <;> (try simp (disch := omega) only [zhb] at hc) <;> (try (exfalso; omega)) <;> (try subst hc)) | (with_reducible refine ji (by omega) ?_) | (simp (config := { maxSteps := 400000 }) only [↓jv,↓reduceIte,zvs,reduceCtorEq,Nat.reduceEqDiff,Nat.reduceAdd,Nat.reduceLeDiff,Nat.reduceMul,Int.reduceBNe,Int.reduceBEq,Int.reduceEq,Int.reduceNe,Int.reduceLT,Int.reduceLE,Int.reduceGT,Int.reduceGE,Int.reduceNeg,Int.reduceToNat,Nat.reduceLT,Nat.reduceSub,tab,h6,hl0,Try.results88,List.toList_toArray]) | (simp (disch := omega) only [ziw]))
    all_goals (try (exfalso; omega))
    refine ok_drawF 19 [0, 1, 2, 3, 4, 5, 6, 7, 8, 9, 10, 11, 12, 13, 14, 15, 18, 16] 17 17 1089 (by kernel_rfl) (by decide +kernel) (by decide) (by decide) (by intro m hm; simp only [upd_ap,rows_cons,rows_nil]; (repeat (first | rfl | rw [if_neg (by omega)]))) (fun M hM => ?_); simp only [picks,List.getElem?_cons_succ,List.getElem?_cons_zero,List.drop_succ_cons,List.drop_zero]
    repeat' (first | (with_reducible first | refine ju ?_ | refine xs1 ?_ | refine xs2 ?_ | refine xs3 ?_ | refine xb1 ?_ | refine xb2 ?_ | refine xb3 (by decide) ?_ | refine xb4 ?_ | refine xl2 ?_ | refine xl3 ?_ | refine xc2 ?_ | refine xc3 ?_ | refine jn ?_ | refine jo ?_ | refine jp ?_ | refine jq ?_ | refine jr ?_ | refine jt ?_ | refine jk (fun M hM => ?_) | refine vif_t ?_ | refine vif_f ?_ | refine jl ?_ | refine jm ?_ | (refine hM _ ?_; clear hM M) | refine ja (jc (by assumption) ?_ rfl ?_) | refine jb (jd (by assumption) rfl ?_) ?_) | ((with_reducible refine je ?_) <;> (first | rfl | assumption | (simp only [znl,jR,jS,jT,jU,jV,jW,jX]; (first | done | fail)))) | (with_reducible refine jf (by (simp only [↓reduceIte,zlk,Nat.reduceEqDiff,reduceCtorEq]); exact rfl) ?_) | ((with_reducible first | refine jg (fun hc => ?_) (fun hc => ?_) | refine jh (fun hc => ?_) (fun hc => ?_)) <;> (try simp (disch := omega) only [zhb] at hc) <;> (try (exfalso; omega)) <;> (try subst hc)) | (with_reducible refine ji (by omega) ?_) | (simp (config := { maxSteps := 400000 }) only [↓jv,↓reduceIte,zvs,reduceCtorEq,Nat.reduceEqDiff,Nat.reduceAdd,Nat.reduceLeDiff,Nat.reduceMul,Int.reduceBNe,Int.reduceBEq,Int.reduceEq,Int.reduceNe,Int.reduceLT,Int.reduceLE,Int.reduceGT,Int.reduceGE,Int.reduceNeg,Int.reduceToNat,Nat.reduceLT,Nat.reduceSub,tab,h6,hl0,storeAt_go,isP_ptr,Try.results88,List.toList_toArray]) | (simp (disch := omega) only [ziw]))
    refine ok_drawC 16 (by kernel_rfl) (by decide +kernel) (by intro m hm; simp only [upd_ap,rows_cons,rows_nil]; (repeat (first | rfl | rw [if_neg (by omega)]))) (fun M hM => ?_); simp only [List.take_succ_cons,List.take_zero,List.drop_succ_cons,List.drop_zero]
    repeat' (first | (with_reducible first | refine ju ?_ | refine xs1 ?_ | refine xs2 ?_ | refine xs3 ?_ | refine xb1 ?_ | refine xb2 ?_ | refine xb3 (by decide) ?_ | refine xb4 ?_ | refine xl2 ?_ | refine xl3 ?_ | refine xc2 ?_ | refine xc3 ?_ | refine jn ?_ | refine jo ?_ | refine jp ?_ | refine jq ?_ | refine jr ?_ | refine jt ?_ | refine jk (fun M hM => ?_) | refine vif_t ?_ | refine vif_f ?_ | refine jl ?_ | refine jm ?_ | (refine hM _ ?_; clear hM M) | refine ja (jc (by assumption) ?_ rfl ?_) | refine jb (jd (by assumption) rfl ?_) ?_) | ((with_reducible refine je ?_) <;> (first | rfl | assumption | (simp only [znl,jR,jS,jT,jU,jV,jW,jX]; (first | done | fail)))) | (with_reducible refine jf (by (simp only [↓reduceIte,zlk,Nat.reduceEqDiff,reduceCtorEq]); exact rfl) ?_) | ((with_reducible first | refine jg (fun hc => ?_) (fun hc => ?_) | refine jh (fun hc => ?_) (fun hc => ?_)) <;> (try simp (disch := omega) only [zhb] at hc) <;> (try (exfalso; omega)) <;> (try subst hc)) | (with_reducible refine ji (by omega) ?_) | (simp (config := { maxSteps := 400000 }) only [↓jv,↓reduceIte,zvs,reduceCtorEq,Nat.reduceEqDiff,Nat.reduceAdd,Nat.reduceLeDiff,Nat.reduceMul,Int.reduceBNe,Int.reduceBEq,Int.reduceEq,Int.reduceNe,Int.reduceLT,Int.reduceLE,Int.reduceGT,Int.reduceGE,Int.reduceNeg,Int.reduceToNat,Nat.reduceLT,Nat.reduceSub,tab,h6,hl0,Try.results88,List.toList_toArray]) | (simp (disch := omega) only [ziw]))
    all_goals (try (exfalso; omega))
    refine ok_loop (fun k : Nat => ⟨slots [(0, encStrs v), (2, .ptr 0 []), (6, .ptr 1 []), (59, .int .i64 k)], rows [(0, .row geoSh (.agg [.int .i64 0, .int .i64 0, .int .i64 0, .int .i64 0, .int .i64 0, .int .i64 0])), (1, .row geoSh (.agg [.int .i64 v.length, .int .i64 ino, .int .i64 1, .int .i64 2, .int .i64 3, .int .i64 (3 + ((ino : Int) + 1) / 2)]))], 2⟩) (fun k => k ≤ 1024) (fun k => 1024 - k) 0 ?_ (Nat.zero_le _) (fun k hk => ?_)
    · (refine Ren.mk [(0, 0), (1, 1089)] false (by first | (intro h; cases h; done) | exact fun _ => rfl) (by first | decide | rfl | (simp [jQ]; done)) (by decide) ?_ ?_ <;> (repeat' (first | (with_reducible first | refine jw (by first | rfl | omega) | refine jx rfl | refine jy rfl | refine jz rfl (by first | rfl | assumption | (simp only [znl,jR,jS,jT,jU,jV,jW,jX]; (first | done | fail))) | refine jF ?_ ?_ (by first | rfl | omega) | refine MR.ptr ?_ ?_ | refine jA | refine jB | refine jC ?_ | refine jD rfl (by (simp only [↓reduceIte,zlk,Nat.reduceEqDiff,reduceCtorEq]); exact rfl) ?_ ?_ ?_ (by decide) | refine jE rfl (by first | rfl | assumption | (simp only [znl,jR,jS,jT,jU,jV,jW,jX]; (first | done | fail))) | refine MR.agg (MRL.cons ?_ ?_) | refine jE ?_ (by first | rfl | assumption | (simp only [znl,jR,jS,jT,jU,jV,jW,jX]; (first | done | fail))) | refine MR.fn ?_ | refine MRL.cons ?_ ?_ | refine MRL.nil | refine jG ?_ ?_ | refine jH | refine jI | refine jJ ?_ (by (simp only [↓reduceIte,zlk,Nat.reduceEqDiff,reduceCtorEq]); exact rfl) ?_ ?_ | refine MB.row ?_ | refine jK ?_ ?_ | refine MR.map ?_ ?_ | refine jL rfl (by first | rfl | assumption | (simp only [znl,jR,jS,jT,jU,jV,jW,jX]; (first | done | fail))) | rfl) | (simp only [znl,jR,jS,jT,jU,jV,jW,jX]; (first | done | fail)) | (refine jM rfl ?_) | exact jN rfl | exact jO rfl | ((with_reducible refine jP ?_) <;> rfl) | (simp only [↓reduceIte,zlk,Nat.reduceEqDiff,reduceCtorEq]) | (with_reducible first | refine jL ?_ ?_ | refine jF ?_ ?_ ?_ | refine jw ?_ | refine jx ?_ | refine jy ?_ | refine jz ?_ (by first | rfl | assumption | (simp only [znl,jR,jS,jT,jU,jV,jW,jX]; (first | done | fail))) | refine jE ?_ ?_))))
      all_goals (first | rfl | trace_state)
    by_cases hlt : k < 1024
    · have hB := gbit_spec v (by omega) hl2 k hlt
      have hQk := hQ k hlt
      generalize bitB (v.getD 2 []) k = b at hB hQk
      have hb1 : b = false → ¬(k : Int) < 3 + ((ino : Int) + 1) / 2 := fun e h => by
        rw [e, decide_eq_true h] at hQk; cases hQk
      have hb2 : b = true → ¬(v.length : Int) ≤ k := fun e h => by
        rw [e, decide_eq_true h, Bool.not_true, Bool.and_false] at hQk; cases hQk
      cases b
      all_goals
        first | have hb1 := hb1 rfl | have hb2 := hb2 rfl
        repeat' (first | (with_reducible first | refine ju ?_ | refine xs1 ?_ | refine xs2 ?_ | refine xs3 ?_ | refine xb1 ?_ | refine xb2 ?_ | refine xb3 (by decide) ?_ | refine xb4 ?_ | refine xl2 ?_ | refine xl3 ?_ | refine xc2 ?_ | refine xc3 ?_ | refine jn ?_ | refine jo ?_ | refine jp ?_ | refine jq ?_ | refine jr ?_ | refine jt ?_ | refine jk (fun M hM => ?_) | refine vif_t ?_ | refine vif_f ?_ | refine jl ?_ | refine jm ?_ | (refine hM _ ?_; clear hM M) | refine ja (jc (by assumption) ?_ rfl ?_) | refine jb (jd (by assumption) rfl ?_) ?_) | ((with_reducible refine je ?_) <;> (first | rfl | assumption | (simp only [znl,jR,jS,jT,jU,jV,jW,jX]; (first | done | fail)))) | (with_reducible refine jf (by (simp only [↓reduceIte,zlk,Nat.reduceEqDiff,reduceCtorEq]); exact rfl) ?_) | ((with_reducible first | refine jg (fun hc => ?_) (fun hc => ?_) | refine jh (fun hc => ?_) (fun hc => ?_)) <;> (try simp (disch := omega) only [zhb] at hc) <;> (try (exfalso; omega)) <;> (try subst hc)) | (with_reducible refine ji (by omega) ?_) | (simp (config := { maxSteps := 400000 }) only [↓jv,↓reduceIte,zvs,reduceCtorEq,Nat.reduceEqDiff,Nat.reduceAdd,Nat.reduceLeDiff,Nat.reduceMul,Int.reduceBNe,Int.reduceBEq,Int.reduceEq,Int.reduceNe,Int.reduceLT,Int.reduceLE,Int.reduceGT,Int.reduceGE,Int.reduceNeg,Int.reduceToNat,Nat.reduceLT,Nat.reduceSub,tab,h6,hl2,Try.results88,List.toList_toArray]) | (simp (disch := omega) only [ziw]))
        all_goals first
          | (exfalso; omega)
          | (refine xl1 (k + 1) ?_ (by show k + 1 ≤ 1024; omega) (by show 1024 - (k + 1) < 1024 - k; omega); (refine Ren.mk [(0, 0), (1, 1)] false (by first | (intro h; cases h; done) | exact fun _ => rfl) (by first | decide | rfl | (simp [jQ]; done)) (by decide) ?_ ?_ <;> (repeat' (first | (with_reducible first | refine jw (by first | rfl | omega) | refine jx rfl | refine jy rfl | refine jz rfl (by first | rfl | assumption | (simp only [znl,jR,jS,jT,jU,jV,jW,jX]; (first | done | fail))) | refine jF ?_ ?_ (by first | rfl | omega) | refine MR.ptr ?_ ?_ | refine jA | refine jB | refine jC ?_ | refine jD rfl (by (simp only [↓reduceIte,zlk,Nat.reduceEqDiff,reduceCtorEq]); exact rfl) ?_ ?_ ?_ (by decide) | refine jE rfl (by first | rfl | assumption | (simp only [znl,jR,jS,jT,jU,jV,jW,jX]; (first | done | fail))) | refine MR.agg (MRL.cons ?_ ?_) | refine jE ?_ (by first | rfl | assumption | (simp only [znl,jR,jS,jT,jU,jV,jW,jX]; (first | done | fail))) | refine MR.fn ?_ | refine MRL.cons ?_ ?_ | refine MRL.nil | refine jG ?_ ?_ | refine jH | refine jI | refine jJ ?_ (by (simp only [↓reduceIte,zlk,Nat.reduceEqDiff,reduceCtorEq]); exact rfl) ?_ ?_ | refine MB.row ?_ | refine jK ?_ ?_ | refine MR.map ?_ ?_ | refine jL rfl (by first | rfl | assumption | (simp only [znl,jR,jS,jT,jU,jV,jW,jX]; (first | done | fail))) | rfl) | (simp only [znl,jR,jS,jT,jU,jV,jW,jX]; (first | done | fail)) | (refine jM rfl ?_) | exact jN rfl | exact jO rfl | ((with_reducible refine jP ?_) <;> rfl) | (simp only [↓reduceIte,zlk,Nat.reduceEqDiff,reduceCtorEq]) | (with_reducible first | refine jL ?_ ?_ | refine jF ?_ ?_ ?_ | refine jw ?_ | refine jx ?_ | refine jy ?_ | refine jz ?_ (by first | rfl | assumption | (simp only [znl,jR,jS,jT,jU,jV,jW,jX]; (first | done | fail))) | refine jE ?_ ?_)))); done)
          | trace_state
    · obtain rfl : k = 1024 := by omega
      repeat' (first | (with_reducible first | refine ju ?_ | refine xs1 ?_ | refine xs2 ?_ | refine xs3 ?_ | refine xb1 ?_ | refine xb2 ?_ | refine xb3 (by decide) ?_ | refine xb4 ?_ | refine xl2 ?_ | refine xl3 ?_ | refine xc2 ?_ | refine xc3 ?_ | refine jn ?_ | refine jo ?_ | refine jp ?_ | refine jq ?_ | refine jr ?_ | refine jt ?_ | refine jk (fun M hM => ?_) | refine vif_t ?_ | refine vif_f ?_ | refine jl ?_ | refine jm ?_ | (refine hM _ ?_; clear hM M) | refine ja (jc (by assumption) ?_ rfl ?_) | refine jb (jd (by assumption) rfl ?_) ?_) | ((with_reducible refine je ?_) <;> (first | rfl | assumption | (simp only [znl,jR,jS,jT,jU,jV,jW,jX]; (first | done | fail)))) | (with_reducible refine jf (by (simp only [↓reduceIte,zlk,Nat.reduceEqDiff,reduceCtorEq]); exact rfl) ?_) | ((with_reducible first | refine jg (fun hc => ?_) (fun hc => ?_) | refine jh (fun hc => ?_) (fun hc => ?_)) <;> (try simp (disch := omega) only [zhb] at hc) <;> (try (exfalso; omega)) <;> (try subst hc)) | (with_reducible refine ji (by omega) ?_) | (simp (config := { maxSteps := 400000 }) only [↓jv,↓reduceIte,zvs,reduceCtorEq,Nat.reduceEqDiff,Nat.reduceAdd,Nat.reduceLeDiff,Nat.reduceMul,Int.reduceBNe,Int.reduceBEq,Int.reduceEq,Int.reduceNe,Int.reduceLT,Int.reduceLE,Int.reduceGT,Int.reduceGE,Int.reduceNeg,Int.reduceToNat,Nat.reduceLT,Nat.reduceSub,tab,h6,hl2,Try.results88,List.toList_toArray]) | (simp (disch := omega) only [ziw]))
      all_goals first
        | (exfalso; omega)
        | (simp only [geoV]; simp only [zrds]; done)
        | trace_state
  · omega
end Go.Proofs.Ytlgldkjjbbbapaa.V
end
section
/-
  MACHINES, part 24: the program's own tests of a machine that may be: numbers, frames, pipes, texts, a process's numbers, an open file.
-/
set_option linter.unusedVariables false
set_option linter.unusedSimpArgs false
namespace Go.Proofs.Ytlgldkjjbbbapaa.V
open Go
set_option maxRecDepth 100000
-- nlx: jR, jS, jT, jU, jV, jW, jX
set_option maxHeartbeats 4000000
theorem numbers_ok (m : Mach) (h : numB m = false) : Spec Try.prog 50 [encM m] (.int .i64 0) := by
  unfold numB at h
  have h := of_decide_eq_false h
  refine spec_ok Try.func50 rfl rfl (by kernel_rfl) (k := 1) rfl (by decide) ?_
  repeat' (first | (with_reducible first | refine ju ?_ | refine xs1 ?_ | refine xs2 ?_ | refine xs3 ?_ | refine xb1 ?_ | refine xb2 ?_ | refine xb3 (by decide) ?_ | refine xb4 ?_ | refine xl2 ?_ | refine xl3 ?_ | refine xc2 ?_ | refine xc3 ?_ | refine jn ?_ | refine jo ?_ | refine jp ?_ | refine jq ?_ | refine jr ?_ | refine jt ?_ | refine jk (fun M hM => ?_) | refine vif_t ?_ | refine vif_f ?_ | refine jl ?_ | refine jm ?_ | (refine hM _ ?_; clear hM M) | refine ja (jc (by assumption) ?_ rfl ?_) | refine jb (jd (by assumption) rfl ?_) ?_) | ((with_reducible refine je ?_) <;> (first | rfl | assumption | (simp only [znl,jR,jS,jT,jU,jV,jW,jX]; (first | done | fail)))) | (with_reducible refine jf (by (simp only [↓reduceIte,zlk,Nat.reduceEqDiff,reduceCtorEq]); exact rfl) ?_) | ((with_reducible first | refine jg (fun hc => ?_) (fun hc => ?_) | refine jh (fun hc => ?_) (fun hc => ?_)) <;> (try simp (disch := omega) only [zhb] at hc) <;> (try (exfalso; omega)) <;> (try subst hc)) | (with_reducible refine ji (by omega) ?_) | (simp (config := { maxSteps := 400000 }) only [↓jv,↓reduceIte,zvs,reduceCtorEq,Nat.reduceEqDiff,Nat.reduceAdd,Nat.reduceLeDiff,Nat.reduceMul,Int.reduceBNe,Int.reduceBEq,Int.reduceEq,Int.reduceNe,Int.reduceLT,Int.reduceLE,Int.reduceGT,Int.reduceGE,Int.reduceNeg,Int.reduceToNat,Nat.reduceLT,Nat.reduceSub,tab,Try.results50,List.toList_toArray]) | (simp (disch := omega) only [ziw]))
  all_goals first
    | (exfalso; omega)
    | (simp only [zrds]; done)
    | trace_state
theorem frames_ok (m : Mach) (h : 1 ≤ m.fr.length ∧ m.fr.length ≤ 64) (hs : ∀ s ∈ m.fr, s.length = 128) : Spec Try.prog 51 [encM m] (.int .i64 0) := by
  refine spec_ok Try.func51 rfl rfl (by kernel_rfl) (k := 1) rfl (by decide) ?_
  repeat' (first | (with_reducible first | refine ju ?_ | refine xs1 ?_ | refine xs2 ?_ | refine xs3 ?_ | refine xb1 ?_ | refine xb2 ?_ | refine xb3 (by decide) ?_ | refine xb4 ?_ | refine xl2 ?_ | refine xl3 ?_ | refine xc2 ?_ | refine xc3 ?_ | refine jn ?_ | refine jo ?_ | refine jp ?_ | refine jq ?_ | refine jr ?_ | refine jt ?_ | refine jk (fun M hM => ?_) | refine vif_t ?_ | refine vif_f ?_ | refine jl ?_ | refine jm ?_ | (refine hM _ ?_; clear hM M) | refine ja (jc (by assumption) ?_ rfl ?_) | refine jb (jd (by assumption) rfl ?_) ?_) | ((with_reducible refine je ?_) <;> (first | rfl | assumption | (simp only [znl,jR,jS,jT,jU,jV,jW,jX]; (first | done | fail)))) | (with_reducible refine jf (by (simp only [↓reduceIte,zlk,Nat.reduceEqDiff,reduceCtorEq]); exact rfl) ?_) | ((with_reducible first | refine jg (fun hc => ?_) (fun hc => ?_) | refine jh (fun hc => ?_) (fun hc => ?_)) <;> (try simp (disch := omega) only [zhb] at hc) <;> (try (exfalso; omega)) <;> (try subst hc)) | (with_reducible refine ji (by omega) ?_) | (simp (config := { maxSteps := 400000 }) only [↓jv,↓reduceIte,zvs,reduceCtorEq,Nat.reduceEqDiff,Nat.reduceAdd,Nat.reduceLeDiff,Nat.reduceMul,Int.reduceBNe,Int.reduceBEq,Int.reduceEq,Int.reduceNe,Int.reduceLT,Int.reduceLE,Int.reduceGT,Int.reduceGE,Int.reduceNeg,Int.reduceToNat,Nat.reduceLT,Nat.reduceSub,tab,Try.results51,List.toList_toArray]) | (simp (disch := omega) only [ziw]))
  all_goals (try (exfalso; omega))
  refine ok_loop (fun k : Nat => ⟨slots [(1, .ptr 0 []), (16, encStrs m.fr), (17, .int .i64 m.fr.length), (18, .int .i64 k)], rows [(0, .row machSh (encM m))], 1⟩) (fun k => k ≤ m.fr.length) (fun k => m.fr.length - k) 0 ?_ (Nat.zero_le _) (fun k hk => ?_)
  · (refine Ren.mk [(0, 0)] false (by first | (intro h; cases h; done) | exact fun _ => rfl) (by first | decide | rfl | (simp [jQ]; done)) (by decide) ?_ ?_ <;> (repeat' (first | (with_reducible first | refine jw (by first | rfl | omega) | refine jx rfl | refine jy rfl | refine jz rfl (by first | rfl | assumption | (simp only [znl,jR,jS,jT,jU,jV,jW,jX]; (first | done | fail))) | refine jF ?_ ?_ (by first | rfl | omega) | refine MR.ptr ?_ ?_ | refine jA | refine jB | refine jC ?_ | refine jD rfl (by (simp only [↓reduceIte,zlk,Nat.reduceEqDiff,reduceCtorEq]); exact rfl) ?_ ?_ ?_ (by decide) | refine jE rfl (by first | rfl | assumption | (simp only [znl,jR,jS,jT,jU,jV,jW,jX]; (first | done | fail))) | refine MR.agg (MRL.cons ?_ ?_) | refine jE ?_ (by first | rfl | assumption | (simp only [znl,jR,jS,jT,jU,jV,jW,jX]; (first | done | fail))) | refine MR.fn ?_ | refine MRL.cons ?_ ?_ | refine MRL.nil | refine jG ?_ ?_ | refine jH | refine jI | refine jJ ?_ (by (simp only [↓reduceIte,zlk,Nat.reduceEqDiff,reduceCtorEq]); exact rfl) ?_ ?_ | refine MB.row ?_ | refine jK ?_ ?_ | refine MR.map ?_ ?_ | refine jL rfl (by first | rfl | assumption | (simp only [znl,jR,jS,jT,jU,jV,jW,jX]; (first | done | fail))) | rfl) | (simp only [znl,jR,jS,jT,jU,jV,jW,jX]; (first | done | fail)) | (refine jM rfl ?_) | exact jN rfl | exact jO rfl | ((with_reducible refine jP ?_) <;> rfl) | (simp only [↓reduceIte,zlk,Nat.reduceEqDiff,reduceCtorEq]) | (with_reducible first | refine jL ?_ ?_ | refine jF ?_ ?_ ?_ | refine jw ?_ | refine jx ?_ | refine jy ?_ | refine jz ?_ (by first | rfl | assumption | (simp only [znl,jR,jS,jT,jU,jV,jW,jX]; (first | done | fail))) | refine jE ?_ ?_))))
    all_goals (first | rfl | trace_state)
  by_cases hlt : k < m.fr.length
  · have hsk := hs _ (getD_mem' hlt)
    rw [default_str] at hsk
    repeat' (first | (with_reducible first | refine ju ?_ | refine xs1 ?_ | refine xs2 ?_ | refine xs3 ?_ | refine xb1 ?_ | refine xb2 ?_ | refine xb3 (by decide) ?_ | refine xb4 ?_ | refine xl2 ?_ | refine xl3 ?_ | refine xc2 ?_ | refine xc3 ?_ | refine jn ?_ | refine jo ?_ | refine jp ?_ | refine jq ?_ | refine jr ?_ | refine jt ?_ | refine jk (fun M hM => ?_) | refine vif_t ?_ | refine vif_f ?_ | refine jl ?_ | refine jm ?_ | (refine hM _ ?_; clear hM M) | refine ja (jc (by assumption) ?_ rfl ?_) | refine jb (jd (by assumption) rfl ?_) ?_) | ((with_reducible refine je ?_) <;> (first | rfl | assumption | (simp only [znl,jR,jS,jT,jU,jV,jW,jX]; (first | done | fail)))) | (with_reducible refine jf (by (simp only [↓reduceIte,zlk,Nat.reduceEqDiff,reduceCtorEq]); exact rfl) ?_) | ((with_reducible first | refine jg (fun hc => ?_) (fun hc => ?_) | refine jh (fun hc => ?_) (fun hc => ?_)) <;> (try simp (disch := omega) only [zhb] at hc) <;> (try (exfalso; omega)) <;> (try subst hc)) | (with_reducible refine ji (by omega) ?_) | (simp (config := { maxSteps := 400000 }) only [↓jv,↓reduceIte,zvs,reduceCtorEq,Nat.reduceEqDiff,Nat.reduceAdd,Nat.reduceLeDiff,Nat.reduceMul,Int.reduceBNe,Int.reduceBEq,Int.reduceEq,Int.reduceNe,Int.reduceLT,Int.reduceLE,Int.reduceGT,Int.reduceGE,Int.reduceNeg,Int.reduceToNat,Nat.reduceLT,Nat.reduceSub,tab,hsk,Try.results51,List.toList_toArray]) | (simp (disch := omega) only [ziw]))
    all_goals first
      | (exfalso; omega)
      | (refine xl1 (k + 1) ?_ (by show k + 1 ≤ m.fr.length; omega) (by show m.fr.length - (k + 1) < m.fr.length - k; omega); (refine Ren.mk [(0, 0)] false (by first | (intro h; cases h; done) | exact fun _ => rfl) (by first | decide | rfl | (simp [jQ]; done)) (by decide) ?_ ?_ <;> (repeat' (first | (with_reducible first | refine jw (by first | rfl | omega) | refine jx rfl | refine jy rfl | refine jz rfl (by first | rfl | assumption | (simp only [znl,jR,jS,jT,jU,jV,jW,jX]; (first | done | fail))) | refine jF ?_ ?_ (by first | rfl | omega) | refine MR.ptr ?_ ?_ | refine jA | refine jB | refine jC ?_ | refine jD rfl (by (simp only [↓reduceIte,zlk,Nat.reduceEqDiff,reduceCtorEq]); exact rfl) ?_ ?_ ?_ (by decide) | refine jE rfl (by first | rfl | assumption | (simp only [znl,jR,jS,jT,jU,jV,jW,jX]; (first | done | fail))) | refine MR.agg (MRL.cons ?_ ?_) | refine jE ?_ (by first | rfl | assumption | (simp only [znl,jR,jS,jT,jU,jV,jW,jX]; (first | done | fail))) | refine MR.fn ?_ | refine MRL.cons ?_ ?_ | refine MRL.nil | refine jG ?_ ?_ | refine jH | refine jI | refine jJ ?_ (by (simp only [↓reduceIte,zlk,Nat.reduceEqDiff,reduceCtorEq]); exact rfl) ?_ ?_ | refine MB.row ?_ | refine jK ?_ ?_ | refine MR.map ?_ ?_ | refine jL rfl (by first | rfl | assumption | (simp only [znl,jR,jS,jT,jU,jV,jW,jX]; (first | done | fail))) | rfl) | (simp only [znl,jR,jS,jT,jU,jV,jW,jX]; (first | done | fail)) | (refine jM rfl ?_) | exact jN rfl | exact jO rfl | ((with_reducible refine jP ?_) <;> rfl) | (simp only [↓reduceIte,zlk,Nat.reduceEqDiff,reduceCtorEq]) | (with_reducible first | refine jL ?_ ?_ | refine jF ?_ ?_ ?_ | refine jw ?_ | refine jx ?_ | refine jy ?_ | refine jz ?_ (by first | rfl | assumption | (simp only [znl,jR,jS,jT,jU,jV,jW,jX]; (first | done | fail))) | refine jE ?_ ?_)))); done)
      | trace_state
  · obtain rfl : k = m.fr.length := by omega
    repeat' (first | (with_reducible first | refine ju ?_ | refine xs1 ?_ | refine xs2 ?_ | refine xs3 ?_ | refine xb1 ?_ | refine xb2 ?_ | refine xb3 (by decide) ?_ | refine xb4 ?_ | refine xl2 ?_ | refine xl3 ?_ | refine xc2 ?_ | refine xc3 ?_ | refine jn ?_ | refine jo ?_ | refine jp ?_ | refine jq ?_ | refine jr ?_ | refine jt ?_ | refine jk (fun M hM => ?_) | refine vif_t ?_ | refine vif_f ?_ | refine jl ?_ | refine jm ?_ | (refine hM _ ?_; clear hM M) | refine ja (jc (by assumption) ?_ rfl ?_) | refine jb (jd (by assumption) rfl ?_) ?_) | ((with_reducible refine je ?_) <;> (first | rfl | assumption | (simp only [znl,jR,jS,jT,jU,jV,jW,jX]; (first | done | fail)))) | (with_reducible refine jf (by (simp only [↓reduceIte,zlk,Nat.reduceEqDiff,reduceCtorEq]); exact rfl) ?_) | ((with_reducible first | refine jg (fun hc => ?_) (fun hc => ?_) | refine jh (fun hc => ?_) (fun hc => ?_)) <;> (try simp (disch := omega) only [zhb] at hc) <;> (try (exfalso; omega)) <;> (try subst hc)) | (with_reducible refine ji (by omega) ?_) | (simp (config := { maxSteps := 400000 }) only [↓jv,↓reduceIte,zvs,reduceCtorEq,Nat.reduceEqDiff,Nat.reduceAdd,Nat.reduceLeDiff,Nat.reduceMul,Int.reduceBNe,Int.reduceBEq,Int.reduceEq,Int.reduceNe,Int.reduceLT,Int.reduceLE,Int.reduceGT,Int.reduceGE,Int.reduceNeg,Int.reduceToNat,Nat.reduceLT,Nat.reduceSub,tab,Try.results51,List.toList_toArray]) | (simp (disch := omega) only [ziw]))
    all_goals first
      | (exfalso; omega)
      | (simp only [zrds]; done)
      | trace_state
theorem texts_ok (m : Mach) (h : m.inp.length ≤ 65536 ∧ m.init.length ≤ 128) : Spec Try.prog 54 [encM m] (.int .i64 0) := by
  refine spec_ok Try.func54 rfl rfl (by kernel_rfl) (k := 1) rfl (by decide) ?_
  repeat' (first | (with_reducible first | refine ju ?_ | refine xs1 ?_ | refine xs2 ?_ | refine xs3 ?_ | refine xb1 ?_ | refine xb2 ?_ | refine xb3 (by decide) ?_ | refine xb4 ?_ | refine xl2 ?_ | refine xl3 ?_ | refine xc2 ?_ | refine xc3 ?_ | refine jn ?_ | refine jo ?_ | refine jp ?_ | refine jq ?_ | refine jr ?_ | refine jt ?_ | refine jk (fun M hM => ?_) | refine vif_t ?_ | refine vif_f ?_ | refine jl ?_ | refine jm ?_ | (refine hM _ ?_; clear hM M) | refine ja (jc (by assumption) ?_ rfl ?_) | refine jb (jd (by assumption) rfl ?_) ?_) | ((with_reducible refine je ?_) <;> (first | rfl | assumption | (simp only [znl,jR,jS,jT,jU,jV,jW,jX]; (first | done | fail)))) | (with_reducible refine jf (by (simp only [↓reduceIte,zlk,Nat.reduceEqDiff,reduceCtorEq]); exact rfl) ?_) | ((with_reducible first | refine jg (fun hc => ?_) (fun hc => ?_) | refine jh (fun hc => ?_) (fun hc => ?_)) <;> (try simp (disch := omega) only [zhb] at hc) <;> (try (exfalso; omega)) <;> (try subst hc)) | (with_reducible refine ji (by omega) ?_) | (simp (config := { maxSteps := 400000 }) only [↓jv,↓reduceIte,zvs,reduceCtorEq,Nat.reduceEqDiff,Nat.reduceAdd,Nat.reduceLeDiff,Nat.reduceMul,Int.reduceBNe,Int.reduceBEq,Int.reduceEq,Int.reduceNe,Int.reduceLT,Int.reduceLE,Int.reduceGT,Int.reduceGE,Int.reduceNeg,Int.reduceToNat,Nat.reduceLT,Nat.reduceSub,tab,Try.results54,List.toList_toArray]) | (simp (disch := omega) only [ziw]))
  all_goals first
    | (exfalso; omega)
    | (simp only [zrds]; done)
    | trace_state
def lastP (l : List Pip) : Nat → Int
  | 0 => 0
  | k + 1 => (l.getD k default).id
theorem pipeB_facts {m : Mach} {k : Nat} (h : pipeB m k = true) : 1 ≤ (m.pipes.getD k default).id ∧ (m.pipes.getD k default).id < m.newp ∧ (m.pipes.getD k default).d.length ≤ 64 ∧ (0 < k → (m.pipes.getD (k - 1) default).id < (m.pipes.getD k default).id) := by
  unfold pipeB longB at h
  simp only [Bool.not_eq_true',Bool.or_eq_false_iff,decide_eq_false_iff_not,Bool.and_eq_false_iff] at h
  omega
theorem lastP_lt {m : Mach} {k : Nat} (h : pipeB m k = true) : lastP m.pipes k < (m.pipes.getD k default).id := by
  have := pipeB_facts h
  cases k with
  | zero => show (0 : Int) < _; omega
  | succ k => have h2 := this.2.2.2 (by omega); rw [Nat.add_sub_cancel] at h2; exact h2
theorem spipes_ok (m : Mach) (hm : MFit 20000 m) (h : m.pipes.length ≤ 64) (hs : pipesB m = true) : Spec Try.prog 53 [encM m] (.int .i64 0) := by
  have hpiR := hm.pipesR
  have hq : ∀ i, i < m.pipes.length → pipeB m i = true := fun i hi => (List.all_eq_true.1 hs) i (List.mem_range.2 hi)
  refine spec_ok Try.func53 rfl rfl (by kernel_rfl) (k := 1) rfl (by decide) ?_
  repeat' (first | (with_reducible first | refine ju ?_ | refine xs1 ?_ | refine xs2 ?_ | refine xs3 ?_ | refine xb1 ?_ | refine xb2 ?_ | refine xb3 (by decide) ?_ | refine xb4 ?_ | refine xl2 ?_ | refine xl3 ?_ | refine xc2 ?_ | refine xc3 ?_ | refine jn ?_ | refine jo ?_ | refine jp ?_ | refine jq ?_ | refine jr ?_ | refine jt ?_ | refine jk (fun M hM => ?_) | refine vif_t ?_ | refine vif_f ?_ | refine jl ?_ | refine jm ?_ | (refine hM _ ?_; clear hM M) | refine ja (jc (by assumption) ?_ rfl ?_) | refine jb (jd (by assumption) rfl ?_) ?_) | ((with_reducible refine je ?_) <;> (first | rfl | assumption | (simp only [znl,jR,jS,jT,jU,jV,jW,jX]; (first | done | fail)))) | (with_reducible refine jf (by (simp only [↓reduceIte,zlk,Nat.reduceEqDiff,reduceCtorEq]); exact rfl) ?_) | ((with_reducible first | refine jg (fun hc => ?_) (fun hc => ?_) | refine jh (fun hc => ?_) (fun hc => ?_)) <;> (try simp (disch := omega) only [zhb] at hc) <;> (try (exfalso; omega)) <;> (try subst hc)) | (with_reducible refine ji (by omega) ?_) | (simp (config := { maxSteps := 400000 }) only [↓jv,↓reduceIte,zvs,reduceCtorEq,Nat.reduceEqDiff,Nat.reduceAdd,Nat.reduceLeDiff,Nat.reduceMul,Int.reduceBNe,Int.reduceBEq,Int.reduceEq,Int.reduceNe,Int.reduceLT,Int.reduceLE,Int.reduceGT,Int.reduceGE,Int.reduceNeg,Int.reduceToNat,Nat.reduceLT,Nat.reduceSub,tab,Try.results53,List.toList_toArray]) | (simp (disch := omega) only [ziw]))
  all_goals (try (exfalso; omega))
  refine ok_loop (fun k : Nat => ⟨slots [(1, .ptr 0 []), (3, .int .i64 (lastP m.pipes k)), (11, encPis m.pipes), (12, .int .i64 m.pipes.length), (13, .int .i64 k)], rows [(0, .row machSh (encM m))], 1⟩) (fun k => k ≤ m.pipes.length) (fun k => m.pipes.length - k) 0 ?_ (Nat.zero_le _) (fun k hk => ?_)
  · (refine Ren.mk [(0, 0)] false (by first | (intro h; cases h; done) | exact fun _ => rfl) (by first | decide | rfl | (simp [jQ]; done)) (by decide) ?_ ?_ <;> (repeat' (first | (with_reducible first | refine jw (by first | rfl | omega) | refine jx rfl | refine jy rfl | refine jz rfl (by first | rfl | assumption | (simp only [znl,jR,jS,jT,jU,jV,jW,jX]; (first | done | fail))) | refine jF ?_ ?_ (by first | rfl | omega) | refine MR.ptr ?_ ?_ | refine jA | refine jB | refine jC ?_ | refine jD rfl (by (simp only [↓reduceIte,zlk,Nat.reduceEqDiff,reduceCtorEq]); exact rfl) ?_ ?_ ?_ (by decide) | refine jE rfl (by first | rfl | assumption | (simp only [znl,jR,jS,jT,jU,jV,jW,jX]; (first | done | fail))) | refine MR.agg (MRL.cons ?_ ?_) | refine jE ?_ (by first | rfl | assumption | (simp only [znl,jR,jS,jT,jU,jV,jW,jX]; (first | done | fail))) | refine MR.fn ?_ | refine MRL.cons ?_ ?_ | refine MRL.nil | refine jG ?_ ?_ | refine jH | refine jI | refine jJ ?_ (by (simp only [↓reduceIte,zlk,Nat.reduceEqDiff,reduceCtorEq]); exact rfl) ?_ ?_ | refine MB.row ?_ | refine jK ?_ ?_ | refine MR.map ?_ ?_ | refine jL rfl (by first | rfl | assumption | (simp only [znl,jR,jS,jT,jU,jV,jW,jX]; (first | done | fail))) | rfl) | (simp only [znl,jR,jS,jT,jU,jV,jW,jX]; (first | done | fail)) | (refine jM rfl ?_) | exact jN rfl | exact jO rfl | ((with_reducible refine jP ?_) <;> rfl) | (simp only [↓reduceIte,zlk,Nat.reduceEqDiff,reduceCtorEq]) | (with_reducible first | refine jL ?_ ?_ | refine jF ?_ ?_ ?_ | refine jw ?_ | refine jx ?_ | refine jy ?_ | refine jz ?_ (by first | rfl | assumption | (simp only [znl,jR,jS,jT,jU,jV,jW,jX]; (first | done | fail))) | refine jE ?_ ?_))))
    all_goals (first | rfl | trace_state)
  by_cases hlt : k < m.pipes.length
  · obtain ⟨⟨p1, p2⟩, p3⟩ := hpiR _ (getD_mem' hlt)
    have hf := pipeB_facts (hq k hlt)
    have hl := lastP_lt (hq k hlt)
    have hn : lastP m.pipes (k + 1) = (m.pipes.getD k default).id := rfl
    repeat' (first | (with_reducible first | refine ju ?_ | refine xs1 ?_ | refine xs2 ?_ | refine xs3 ?_ | refine xb1 ?_ | refine xb2 ?_ | refine xb3 (by decide) ?_ | refine xb4 ?_ | refine xl2 ?_ | refine xl3 ?_ | refine xc2 ?_ | refine xc3 ?_ | refine jn ?_ | refine jo ?_ | refine jp ?_ | refine jq ?_ | refine jr ?_ | refine jt ?_ | refine jk (fun M hM => ?_) | refine vif_t ?_ | refine vif_f ?_ | refine jl ?_ | refine jm ?_ | (refine hM _ ?_; clear hM M) | refine ja (jc (by assumption) ?_ rfl ?_) | refine jb (jd (by assumption) rfl ?_) ?_) | ((with_reducible refine je ?_) <;> (first | rfl | assumption | (simp only [znl,jR,jS,jT,jU,jV,jW,jX]; (first | done | fail)))) | (with_reducible refine jf (by (simp only [↓reduceIte,zlk,Nat.reduceEqDiff,reduceCtorEq]); exact rfl) ?_) | ((with_reducible first | refine jg (fun hc => ?_) (fun hc => ?_) | refine jh (fun hc => ?_) (fun hc => ?_)) <;> (try simp (disch := omega) only [zhb] at hc) <;> (try (exfalso; omega)) <;> (try subst hc)) | (with_reducible refine ji (by omega) ?_) | (simp (config := { maxSteps := 400000 }) only [↓jv,↓reduceIte,zvs,reduceCtorEq,Nat.reduceEqDiff,Nat.reduceAdd,Nat.reduceLeDiff,Nat.reduceMul,Int.reduceBNe,Int.reduceBEq,Int.reduceEq,Int.reduceNe,Int.reduceLT,Int.reduceLE,Int.reduceGT,Int.reduceGE,Int.reduceNeg,Int.reduceToNat,Nat.reduceLT,Nat.reduceSub,tab,encPi,Try.results53,List.toList_toArray]) | (simp (disch := omega) only [ziw]))
    all_goals first
      | (exfalso; omega)
      | (refine xl1 (k + 1) ?_ (by show k + 1 ≤ m.pipes.length; omega) (by show m.pipes.length - (k + 1) < m.pipes.length - k; omega); (refine Ren.mk [(0, 0)] false (by first | (intro h; cases h; done) | exact fun _ => rfl) (by first | decide | rfl | (simp [jQ]; done)) (by decide) ?_ ?_ <;> (repeat' (first | (with_reducible first | refine jw (by first | rfl | omega) | refine jx rfl | refine jy rfl | refine jz rfl (by first | rfl | assumption | (simp only [znl,jR,jS,jT,jU,jV,jW,jX]; (first | done | fail))) | refine jF ?_ ?_ (by first | rfl | omega) | refine MR.ptr ?_ ?_ | refine jA | refine jB | refine jC ?_ | refine jD rfl (by (simp only [↓reduceIte,zlk,Nat.reduceEqDiff,reduceCtorEq]); exact rfl) ?_ ?_ ?_ (by decide) | refine jE rfl (by first | rfl | assumption | (simp only [znl,jR,jS,jT,jU,jV,jW,jX]; (first | done | fail))) | refine MR.agg (MRL.cons ?_ ?_) | refine jE ?_ (by first | rfl | assumption | (simp only [znl,jR,jS,jT,jU,jV,jW,jX]; (first | done | fail))) | refine MR.fn ?_ | refine MRL.cons ?_ ?_ | refine MRL.nil | refine jG ?_ ?_ | refine jH | refine jI | refine jJ ?_ (by (simp only [↓reduceIte,zlk,Nat.reduceEqDiff,reduceCtorEq]); exact rfl) ?_ ?_ | refine MB.row ?_ | refine jK ?_ ?_ | refine MR.map ?_ ?_ | refine jL rfl (by first | rfl | assumption | (simp only [znl,jR,jS,jT,jU,jV,jW,jX]; (first | done | fail))) | rfl) | (simp only [znl,jR,jS,jT,jU,jV,jW,jX]; (first | done | fail)) | (refine jM rfl ?_) | exact jN rfl | exact jO rfl | ((with_reducible refine jP ?_) <;> rfl) | (simp only [↓reduceIte,zlk,Nat.reduceEqDiff,reduceCtorEq]) | (with_reducible first | refine jL ?_ ?_ | refine jF ?_ ?_ ?_ | refine jw ?_ | refine jx ?_ | refine jy ?_ | refine jz ?_ (by first | rfl | assumption | (simp only [znl,jR,jS,jT,jU,jV,jW,jX]; (first | done | fail))) | refine jE ?_ ?_)))); all_goals (first | rfl | omega))
      | trace_state
  · obtain rfl : k = m.pipes.length := by omega
    repeat' (first | (with_reducible first | refine ju ?_ | refine xs1 ?_ | refine xs2 ?_ | refine xs3 ?_ | refine xb1 ?_ | refine xb2 ?_ | refine xb3 (by decide) ?_ | refine xb4 ?_ | refine xl2 ?_ | refine xl3 ?_ | refine xc2 ?_ | refine xc3 ?_ | refine jn ?_ | refine jo ?_ | refine jp ?_ | refine jq ?_ | refine jr ?_ | refine jt ?_ | refine jk (fun M hM => ?_) | refine vif_t ?_ | refine vif_f ?_ | refine jl ?_ | refine jm ?_ | (refine hM _ ?_; clear hM M) | refine ja (jc (by assumption) ?_ rfl ?_) | refine jb (jd (by assumption) rfl ?_) ?_) | ((with_reducible refine je ?_) <;> (first | rfl | assumption | (simp only [znl,jR,jS,jT,jU,jV,jW,jX]; (first | done | fail)))) | (with_reducible refine jf (by (simp only [↓reduceIte,zlk,Nat.reduceEqDiff,reduceCtorEq]); exact rfl) ?_) | ((with_reducible first | refine jg (fun hc => ?_) (fun hc => ?_) | refine jh (fun hc => ?_) (fun hc => ?_)) <;> (try simp (disch := omega) only [zhb] at hc) <;> (try (exfalso; omega)) <;> (try subst hc)) | (with_reducible refine ji (by omega) ?_) | (simp (config := { maxSteps := 400000 }) only [↓jv,↓reduceIte,zvs,reduceCtorEq,Nat.reduceEqDiff,Nat.reduceAdd,Nat.reduceLeDiff,Nat.reduceMul,Int.reduceBNe,Int.reduceBEq,Int.reduceEq,Int.reduceNe,Int.reduceLT,Int.reduceLE,Int.reduceGT,Int.reduceGE,Int.reduceNeg,Int.reduceToNat,Nat.reduceLT,Nat.reduceSub,tab,Try.results53,List.toList_toArray]) | (simp (disch := omega) only [ziw]))
    all_goals first
      | (exfalso; omega)
      | (simp only [zrds]; done)
      | trace_state
theorem slives_spec (p : Pr) (hp : PrR p) : Spec Try.prog 114 [encPr p] (.bool (livesP p)) := by
  obtain ⟨hS1, hS2, hS3⟩ := pr3 hp
  unfold livesP
  refine spec_ok Try.func114 rfl rfl (by kernel_rfl) (k := 1) rfl (by decide) ?_
  repeat' (first | (with_reducible first | refine ju ?_ | refine xs1 ?_ | refine xs2 ?_ | refine xs3 ?_ | refine xb1 ?_ | refine xb2 ?_ | refine xb3 (by decide) ?_ | refine xb4 ?_ | refine xl2 ?_ | refine xl3 ?_ | refine xc2 ?_ | refine xc3 ?_ | refine jn ?_ | refine jo ?_ | refine jp ?_ | refine jq ?_ | refine jr ?_ | refine jt ?_ | refine jk (fun M hM => ?_) | refine vif_t ?_ | refine vif_f ?_ | refine jl ?_ | refine jm ?_ | (refine hM _ ?_; clear hM M) | refine ja (jc (by assumption) ?_ rfl ?_) | refine jb (jd (by assumption) rfl ?_) ?_) | ((with_reducible refine je ?_) <;> (first | rfl | assumption | (simp only [znl,jR,jS,jT,jU,jV,jW,jX]; (first | done | fail)))) | (with_reducible refine jf (by (simp only [↓reduceIte,zlk,Nat.reduceEqDiff,reduceCtorEq]); exact rfl) ?_) | ((with_reducible first | refine jg (fun hc => ?_) (fun hc => ?_) | refine jh (fun hc => ?_) (fun hc => ?_)) <;> (try simp (disch := omega) only [zhb] at hc) <;> (try (exfalso; omega)) <;> (try subst hc)) | (with_reducible refine ji (by omega) ?_) | (simp (config := { maxSteps := 400000 }) only [↓jv,↓reduceIte,zvs,reduceCtorEq,Nat.reduceEqDiff,Nat.reduceAdd,Nat.reduceLeDiff,Nat.reduceMul,Int.reduceBNe,Int.reduceBEq,Int.reduceEq,Int.reduceNe,Int.reduceLT,Int.reduceLE,Int.reduceGT,Int.reduceGE,Int.reduceNeg,Int.reduceToNat,Nat.reduceLT,Nat.reduceSub,tab,hS1,hS2,hS3,encPr,Try.results114,List.toList_toArray]) | (simp (disch := omega) only [ziw]))
  all_goals first
    | (exfalso; omega)
    | (simp only [zrds]; rw [decide_eq_true (by assumption)]; rfl)
    | (simp only [zrds]; rw [decide_eq_false (by assumption), Bool.false_or]; first | rfl | (rw [Bool.eq_iff_iff]; simp))
    | trace_state
theorem fields_ok (m : Mach) (p : Pr) (hp : PrR p) (h : headP m.next p.pid p.st (p.rs.getD 0 default) p.par p.why p.n p.code (livesB m.pr p.par = true)) : Spec Try.prog 83 [encPr p] (.bool true) := by
  obtain ⟨hS1, hS2, hS3⟩ := pr3 hp
  have hL := slives_spec p hp
  have hrl := hp.rs
  unfold headP at h
  have hlv : livesP p = true ↔ (p.st = 1 ∨ p.st = 2) := by simp [livesP]
  simp only [encPr] at hL
  obtain ⟨b, hb⟩ : ∃ b, livesP p = b := ⟨_, rfl⟩
  rw [hb] at hL hlv
  cases b
  all_goals
    simp only [true_iff,Bool.false_eq_true,false_iff] at hlv
    refine spec_ok Try.func83 rfl rfl (by kernel_rfl) (k := 1) rfl (by decide) ?_
    repeat' (first | (with_reducible first | refine ju ?_ | refine xs1 ?_ | refine xs2 ?_ | refine xs3 ?_ | refine xb1 ?_ | refine xb2 ?_ | refine xb3 (by decide) ?_ | refine xb4 ?_ | refine xl2 ?_ | refine xl3 ?_ | refine xc2 ?_ | refine xc3 ?_ | refine jn ?_ | refine jo ?_ | refine jp ?_ | refine jq ?_ | refine jr ?_ | refine jt ?_ | refine jk (fun M hM => ?_) | refine vif_t ?_ | refine vif_f ?_ | refine jl ?_ | refine jm ?_ | (refine hM _ ?_; clear hM M) | refine ja (jc (by assumption) ?_ rfl ?_) | refine jb (jd (by assumption) rfl ?_) ?_) | ((with_reducible refine je ?_) <;> (first | rfl | assumption | (simp only [znl,jR,jS,jT,jU,jV,jW,jX]; (first | done | fail)))) | (with_reducible refine jf (by (simp only [↓reduceIte,zlk,Nat.reduceEqDiff,reduceCtorEq]); exact rfl) ?_) | ((with_reducible first | refine jg (fun hc => ?_) (fun hc => ?_) | refine jh (fun hc => ?_) (fun hc => ?_)) <;> (try simp (disch := omega) only [zhb] at hc) <;> (try (exfalso; omega)) <;> (try subst hc)) | (with_reducible refine ji (by omega) ?_) | (simp (config := { maxSteps := 400000 }) only [↓jv,↓reduceIte,zvs,reduceCtorEq,Nat.reduceEqDiff,Nat.reduceAdd,Nat.reduceLeDiff,Nat.reduceMul,Int.reduceBNe,Int.reduceBEq,Int.reduceEq,Int.reduceNe,Int.reduceLT,Int.reduceLE,Int.reduceGT,Int.reduceGE,Int.reduceNeg,Int.reduceToNat,Nat.reduceLT,Nat.reduceSub,tab,hS1,hS2,hS3,encPr,Try.results83,List.toList_toArray]) | (simp (disch := omega) only [ziw]))
    all_goals first
      | (exfalso; omega)
      | (simp only [zrds]; done)
      | (simp only [zrds]; rfl)
      | (simp only [zrds]; rw [Bool.eq_iff_iff]; simp only [beq_iff_eq,true_iff,iff_true]; omega)
      | trace_state
end Go.Proofs.Ytlgldkjjbbbapaa.V
end
section
/-
  MACHINES, part 25: the program's own tests: a pipe's place, an open file, a parent.
-/
set_option linter.unusedVariables false
set_option linter.unusedSimpArgs false
namespace Go.Proofs.Ytlgldkjjbbbapaa.V
open Go
set_option maxRecDepth 100000
-- nlx: jR, jS, jT, jU, jV, jW, jX
set_option maxHeartbeats 4000000
def placeI (l : List Pip) (id : Int) : Int := match l.findIdx? (fun p => decide (p.id = id)) with
  | some i => i
  | none => -1
theorem placeI_hit {l : List Pip} {id : Int} {k : Nat} (h : k < l.length) (hn : ∀ j, j < k → (l.getD j default).id ≠ id) (hk : (l.getD k default).id = id) : placeI l id = k := by
  unfold placeI
  rw [show l.findIdx? (fun p => decide (p.id = id)) = some k from ?_]
  rw [List.findIdx?_eq_some_iff_getElem]
  refine ⟨h, ?_, fun j hj => ?_⟩
  · rw [List.getD_eq_getElem?_getD, List.getElem?_eq_getElem h] at hk
    simpa using hk
  · have := hn j hj
    rw [List.getD_eq_getElem?_getD, List.getElem?_eq_getElem (by omega)] at this
    simpa using this
theorem placeI_miss {l : List Pip} {id : Int} (hn : ∀ j, j < l.length → (l.getD j default).id ≠ id) : placeI l id = -1 := by
  unfold placeI
  rw [show l.findIdx? (fun p => decide (p.id = id)) = none from ?_]
  rw [List.findIdx?_eq_none_iff]
  intro x hx
  obtain ⟨j, hj, rfl⟩ := List.mem_iff_getElem.1 hx
  have := hn j hj
  rw [List.getD_eq_getElem?_getD, List.getElem?_eq_getElem hj] at this
  simpa using this
theorem placeI_pipe {l : List Pip} {id : Int} (h : (pipeO l id).isSome = true) : 0 ≤ placeI l id := by
  unfold placeI
  cases hf : l.findIdx? (fun p => decide (p.id = id)) with
  | some i => exact Int.natCast_nonneg i
  | none =>
    rw [List.findIdx?_eq_none_iff] at hf
    unfold pipeO at h
    rw [List.find?_isSome] at h
    obtain ⟨x, hx, h2⟩ := h
    rw [hf x hx] at h2
    cases h2
theorem place_spec (m : Mach) (hm : MFit 20000 m) (id : Int) (hp : i64R id) : Spec Try.prog 64 [encM m, .int .i64 id] (.int .i64 (placeI m.pipes id)) := by
  obtain ⟨R, hR⟩ : ∃ R, R = placeI m.pipes id := ⟨_, rfl⟩
  rw [← hR]
  have hl := hm.pipes
  have hpR := hm.pipesR
  obtain ⟨hp1, hp2⟩ := hp
  refine spec_ok Try.func64 rfl rfl (by kernel_rfl) (k := 2) rfl (by decide) ?_
  repeat' (first | (with_reducible first | refine ju ?_ | refine xs1 ?_ | refine xs2 ?_ | refine xs3 ?_ | refine xb1 ?_ | refine xb2 ?_ | refine xb3 (by decide) ?_ | refine xb4 ?_ | refine xl2 ?_ | refine xl3 ?_ | refine xc2 ?_ | refine xc3 ?_ | refine jn ?_ | refine jo ?_ | refine jp ?_ | refine jq ?_ | refine jr ?_ | refine jt ?_ | refine jk (fun M hM => ?_) | refine vif_t ?_ | refine vif_f ?_ | refine jl ?_ | refine jm ?_ | (refine hM _ ?_; clear hM M) | refine ja (jc (by assumption) ?_ rfl ?_) | refine jb (jd (by assumption) rfl ?_) ?_) | ((with_reducible refine je ?_) <;> (first | rfl | assumption | (simp only [znl,jR,jS,jT,jU,jV,jW,jX]; (first | done | fail)))) | (with_reducible refine jf (by (simp only [↓reduceIte,zlk,Nat.reduceEqDiff,reduceCtorEq]); exact rfl) ?_) | ((with_reducible first | refine jg (fun hc => ?_) (fun hc => ?_) | refine jh (fun hc => ?_) (fun hc => ?_)) <;> (try simp (disch := omega) only [zhb] at hc) <;> (try (exfalso; omega)) <;> (try subst hc)) | (with_reducible refine ji (by omega) ?_) | (simp (config := { maxSteps := 400000 }) only [↓jv,↓reduceIte,zvs,reduceCtorEq,Nat.reduceEqDiff,Nat.reduceAdd,Nat.reduceLeDiff,Nat.reduceMul,Int.reduceBNe,Int.reduceBEq,Int.reduceEq,Int.reduceNe,Int.reduceLT,Int.reduceLE,Int.reduceGT,Int.reduceGE,Int.reduceNeg,Int.reduceToNat,Nat.reduceLT,Nat.reduceSub,tab,Try.results64,List.toList_toArray]) | (simp (disch := omega) only [ziw]))
  refine ja (ok_body Try.func99 rfl rfl (by kernel_rfl) (k := 2) (by rfl) (by decide) ?_)
  repeat' (first | (with_reducible first | refine ju ?_ | refine xs1 ?_ | refine xs2 ?_ | refine xs3 ?_ | refine xb1 ?_ | refine xb2 ?_ | refine xb3 (by decide) ?_ | refine xb4 ?_ | refine xl2 ?_ | refine xl3 ?_ | refine xc2 ?_ | refine xc3 ?_ | refine jn ?_ | refine jo ?_ | refine jp ?_ | refine jq ?_ | refine jr ?_ | refine jt ?_ | refine jk (fun M hM => ?_) | refine vif_t ?_ | refine vif_f ?_ | refine jl ?_ | refine jm ?_ | (refine hM _ ?_; clear hM M) | refine ja (jc (by assumption) ?_ rfl ?_) | refine jb (jd (by assumption) rfl ?_) ?_) | ((with_reducible refine je ?_) <;> (first | rfl | assumption | (simp only [znl,jR,jS,jT,jU,jV,jW,jX]; (first | done | fail)))) | (with_reducible refine jf (by (simp only [↓reduceIte,zlk,Nat.reduceEqDiff,reduceCtorEq]); exact rfl) ?_) | ((with_reducible first | refine jg (fun hc => ?_) (fun hc => ?_) | refine jh (fun hc => ?_) (fun hc => ?_)) <;> (try simp (disch := omega) only [zhb] at hc) <;> (try (exfalso; omega)) <;> (try subst hc)) | (with_reducible refine ji (by omega) ?_) | (simp (config := { maxSteps := 400000 }) only [↓jv,↓reduceIte,zvs,reduceCtorEq,Nat.reduceEqDiff,Nat.reduceAdd,Nat.reduceLeDiff,Nat.reduceMul,Int.reduceBNe,Int.reduceBEq,Int.reduceEq,Int.reduceNe,Int.reduceLT,Int.reduceLE,Int.reduceGT,Int.reduceGE,Int.reduceNeg,Int.reduceToNat,Nat.reduceLT,Nat.reduceSub,tab,Try.results99, List.toList_toArray]) | (simp (disch := omega) only [ziw]))
  refine ok_loop (fun k : Nat => ⟨slots [(0, encPis m.pipes), (1, .fn 100 [.ptr 1 []]), (6, encPis m.pipes), (7, .int .i64 m.pipes.length), (8, .int .i64 k)], rows [(0, .row machSh (encM m)), (1, .row .cell (.int .i64 id))], 2⟩) (fun k => k ≤ m.pipes.length ∧ ∀ j, j < k → (m.pipes.getD j default).id ≠ id) (fun k => m.pipes.length - k) 0 ?_ ⟨Nat.zero_le _, fun j hj => by omega⟩ (fun k hk => ?_)
  · (refine Ren.mk [] false (by first | (intro h; cases h; done) | exact fun _ => rfl) (by first | decide | rfl | (simp [jQ]; done)) (by decide) ?_ ?_ <;> (repeat' (first | (with_reducible first | refine jw (by first | rfl | omega) | refine jx rfl | refine jy rfl | refine jz rfl (by first | rfl | assumption | (simp only [znl,jR,jS,jT,jU,jV,jW,jX]; (first | done | fail))) | refine jF ?_ ?_ (by first | rfl | omega) | refine MR.ptr ?_ ?_ | refine jA | refine jB | refine jC ?_ | refine jD rfl (by (simp only [↓reduceIte,zlk,Nat.reduceEqDiff,reduceCtorEq]); exact rfl) ?_ ?_ ?_ (by decide) | refine jE rfl (by first | rfl | assumption | (simp only [znl,jR,jS,jT,jU,jV,jW,jX]; (first | done | fail))) | refine MR.agg (MRL.cons ?_ ?_) | refine jE ?_ (by first | rfl | assumption | (simp only [znl,jR,jS,jT,jU,jV,jW,jX]; (first | done | fail))) | refine MR.fn ?_ | refine MRL.cons ?_ ?_ | refine MRL.nil | refine jG ?_ ?_ | refine jH | refine jI | refine jJ ?_ (by (simp only [↓reduceIte,zlk,Nat.reduceEqDiff,reduceCtorEq]); exact rfl) ?_ ?_ | refine MB.row ?_ | refine jK ?_ ?_ | refine MR.map ?_ ?_ | refine jL rfl (by first | rfl | assumption | (simp only [znl,jR,jS,jT,jU,jV,jW,jX]; (first | done | fail))) | rfl) | (simp only [znl,jR,jS,jT,jU,jV,jW,jX]; (first | done | fail)) | (refine jM rfl ?_) | exact jN rfl | exact jO rfl | ((with_reducible refine jP ?_) <;> rfl) | (simp only [↓reduceIte,zlk,Nat.reduceEqDiff,reduceCtorEq]) | (with_reducible first | refine jL ?_ ?_ | refine jF ?_ ?_ ?_ | refine jw ?_ | refine jx ?_ | refine jy ?_ | refine jz ?_ (by first | rfl | assumption | (simp only [znl,jR,jS,jT,jU,jV,jW,jX]; (first | done | fail))) | refine jE ?_ ?_))))
    all_goals (first | rfl | trace_state)
  obtain ⟨hk, hn⟩ := hk
  by_cases hlt : k < m.pipes.length
  · obtain ⟨⟨p1, p2⟩, p3⟩ := hpR _ (getD_mem' hlt)
    by_cases hq : (m.pipes.getD k default).id = id
    · have eR : R = k := by rw [hR, placeI_hit hlt hn hq]
      clear hR
      repeat' (first | (with_reducible first | refine ju ?_ | refine xs1 ?_ | refine xs2 ?_ | refine xs3 ?_ | refine xb1 ?_ | refine xb2 ?_ | refine xb3 (by decide) ?_ | refine xb4 ?_ | refine xl2 ?_ | refine xl3 ?_ | refine xc2 ?_ | refine xc3 ?_ | refine jn ?_ | refine jo ?_ | refine jp ?_ | refine jq ?_ | refine jr ?_ | refine jt ?_ | refine jk (fun M hM => ?_) | refine vif_t ?_ | refine vif_f ?_ | refine jl ?_ | refine jm ?_ | (refine hM _ ?_; clear hM M) | refine ja (jc (by assumption) ?_ rfl ?_) | refine jb (jd (by assumption) rfl ?_) ?_) | ((with_reducible refine je ?_) <;> (first | rfl | assumption | (simp only [znl,jR,jS,jT,jU,jV,jW,jX]; (first | done | fail)))) | (with_reducible refine jf (by (simp only [↓reduceIte,zlk,Nat.reduceEqDiff,reduceCtorEq]); exact rfl) ?_) | ((with_reducible first | refine jg (fun hc => ?_) (fun hc => ?_) | refine jh (fun hc => ?_) (fun hc => ?_)) <;> (try simp (disch := omega) only [zhb] at hc) <;> (try (exfalso; omega)) <;> (try subst hc)) | (with_reducible refine ji (by omega) ?_) | (simp (config := { maxSteps := 400000 }) only [↓jv,↓reduceIte,zvs,reduceCtorEq,Nat.reduceEqDiff,Nat.reduceAdd,Nat.reduceLeDiff,Nat.reduceMul,Int.reduceBNe,Int.reduceBEq,Int.reduceEq,Int.reduceNe,Int.reduceLT,Int.reduceLE,Int.reduceGT,Int.reduceGE,Int.reduceNeg,Int.reduceToNat,Nat.reduceLT,Nat.reduceSub,tab,encPi,Try.results99, List.toList_toArray]) | (simp (disch := omega) only [ziw]))
      refine ja (ok_body Try.func100 rfl rfl (by kernel_rfl) (k := 2) (by rfl) (by decide) ?_)
      repeat' (first | (with_reducible first | refine ju ?_ | refine xs1 ?_ | refine xs2 ?_ | refine xs3 ?_ | refine xb1 ?_ | refine xb2 ?_ | refine xb3 (by decide) ?_ | refine xb4 ?_ | refine xl2 ?_ | refine xl3 ?_ | refine xc2 ?_ | refine xc3 ?_ | refine jn ?_ | refine jo ?_ | refine jp ?_ | refine jq ?_ | refine jr ?_ | refine jt ?_ | refine jk (fun M hM => ?_) | refine vif_t ?_ | refine vif_f ?_ | refine jl ?_ | refine jm ?_ | (refine hM _ ?_; clear hM M) | refine ja (jc (by assumption) ?_ rfl ?_) | refine jb (jd (by assumption) rfl ?_) ?_) | ((with_reducible refine je ?_) <;> (first | rfl | assumption | (simp only [znl,jR,jS,jT,jU,jV,jW,jX]; (first | done | fail)))) | (with_reducible refine jf (by (simp only [↓reduceIte,zlk,Nat.reduceEqDiff,reduceCtorEq]); exact rfl) ?_) | ((with_reducible first | refine jg (fun hc => ?_) (fun hc => ?_) | refine jh (fun hc => ?_) (fun hc => ?_)) <;> (try simp (disch := omega) only [zhb] at hc) <;> (try (exfalso; omega)) <;> (try subst hc)) | (with_reducible refine ji (by omega) ?_) | (simp (config := { maxSteps := 400000 }) only [↓jv,↓reduceIte,zvs,reduceCtorEq,Nat.reduceEqDiff,Nat.reduceAdd,Nat.reduceLeDiff,Nat.reduceMul,Int.reduceBNe,Int.reduceBEq,Int.reduceEq,Int.reduceNe,Int.reduceLT,Int.reduceLE,Int.reduceGT,Int.reduceGE,Int.reduceNeg,Int.reduceToNat,Nat.reduceLT,Nat.reduceSub,tab,encPi,Try.results100,Try.results99, Try.results64, List.toList_toArray]) | (simp (disch := omega) only [ziw]))
      all_goals first
        | (exfalso; omega)
        | (rw [eR]; simp only [zrds]; done)
        | trace_state
    · have hst : ∀ j, j < k + 1 → (m.pipes.getD j default).id ≠ id := fun j hj => by
        by_cases e : j = k
        · rw [e]; exact hq
        · exact hn j (by omega)
      repeat' (first | (with_reducible first | refine ju ?_ | refine xs1 ?_ | refine xs2 ?_ | refine xs3 ?_ | refine xb1 ?_ | refine xb2 ?_ | refine xb3 (by decide) ?_ | refine xb4 ?_ | refine xl2 ?_ | refine xl3 ?_ | refine xc2 ?_ | refine xc3 ?_ | refine jn ?_ | refine jo ?_ | refine jp ?_ | refine jq ?_ | refine jr ?_ | refine jt ?_ | refine jk (fun M hM => ?_) | refine vif_t ?_ | refine vif_f ?_ | refine jl ?_ | refine jm ?_ | (refine hM _ ?_; clear hM M) | refine ja (jc (by assumption) ?_ rfl ?_) | refine jb (jd (by assumption) rfl ?_) ?_) | ((with_reducible refine je ?_) <;> (first | rfl | assumption | (simp only [znl,jR,jS,jT,jU,jV,jW,jX]; (first | done | fail)))) | (with_reducible refine jf (by (simp only [↓reduceIte,zlk,Nat.reduceEqDiff,reduceCtorEq]); exact rfl) ?_) | ((with_reducible first | refine jg (fun hc => ?_) (fun hc => ?_) | refine jh (fun hc => ?_) (fun hc => ?_)) <;> (try simp (disch := omega) only [zhb] at hc) <;> (try (exfalso; omega)) <;> (try subst hc)) | (with_reducible refine ji (by omega) ?_) | (simp (config := { maxSteps := 400000 }) only [↓jv,↓reduceIte,zvs,reduceCtorEq,Nat.reduceEqDiff,Nat.reduceAdd,Nat.reduceLeDiff,Nat.reduceMul,Int.reduceBNe,Int.reduceBEq,Int.reduceEq,Int.reduceNe,Int.reduceLT,Int.reduceLE,Int.reduceGT,Int.reduceGE,Int.reduceNeg,Int.reduceToNat,Nat.reduceLT,Nat.reduceSub,tab,encPi,Try.results99, List.toList_toArray]) | (simp (disch := omega) only [ziw]))
      refine ja (ok_body Try.func100 rfl rfl (by kernel_rfl) (k := 2) (by rfl) (by decide) ?_)
      repeat' (first | (with_reducible first | refine ju ?_ | refine xs1 ?_ | refine xs2 ?_ | refine xs3 ?_ | refine xb1 ?_ | refine xb2 ?_ | refine xb3 (by decide) ?_ | refine xb4 ?_ | refine xl2 ?_ | refine xl3 ?_ | refine xc2 ?_ | refine xc3 ?_ | refine jn ?_ | refine jo ?_ | refine jp ?_ | refine jq ?_ | refine jr ?_ | refine jt ?_ | refine jk (fun M hM => ?_) | refine vif_t ?_ | refine vif_f ?_ | refine jl ?_ | refine jm ?_ | (refine hM _ ?_; clear hM M) | refine ja (jc (by assumption) ?_ rfl ?_) | refine jb (jd (by assumption) rfl ?_) ?_) | ((with_reducible refine je ?_) <;> (first | rfl | assumption | (simp only [znl,jR,jS,jT,jU,jV,jW,jX]; (first | done | fail)))) | (with_reducible refine jf (by (simp only [↓reduceIte,zlk,Nat.reduceEqDiff,reduceCtorEq]); exact rfl) ?_) | ((with_reducible first | refine jg (fun hc => ?_) (fun hc => ?_) | refine jh (fun hc => ?_) (fun hc => ?_)) <;> (try simp (disch := omega) only [zhb] at hc) <;> (try (exfalso; omega)) <;> (try subst hc)) | (with_reducible refine ji (by omega) ?_) | (simp (config := { maxSteps := 400000 }) only [↓jv,↓reduceIte,zvs,reduceCtorEq,Nat.reduceEqDiff,Nat.reduceAdd,Nat.reduceLeDiff,Nat.reduceMul,Int.reduceBNe,Int.reduceBEq,Int.reduceEq,Int.reduceNe,Int.reduceLT,Int.reduceLE,Int.reduceGT,Int.reduceGE,Int.reduceNeg,Int.reduceToNat,Nat.reduceLT,Nat.reduceSub,tab,encPi,Try.results100,Try.results99, Try.results64, List.toList_toArray]) | (simp (disch := omega) only [ziw]))
      all_goals first
        | (exfalso; omega)
        | (exfalso; exact hq rfl)
        | (refine xl1 (k + 1) ?_ ⟨by omega, hst⟩ (by show m.pipes.length - (k + 1) < m.pipes.length - k; omega); (refine Ren.mk [] false (by first | (intro h; cases h; done) | exact fun _ => rfl) (by first | decide | rfl | (simp [jQ]; done)) (by decide) ?_ ?_ <;> (repeat' (first | (with_reducible first | refine jw (by first | rfl | omega) | refine jx rfl | refine jy rfl | refine jz rfl (by first | rfl | assumption | (simp only [znl,jR,jS,jT,jU,jV,jW,jX]; (first | done | fail))) | refine jF ?_ ?_ (by first | rfl | omega) | refine MR.ptr ?_ ?_ | refine jA | refine jB | refine jC ?_ | refine jD rfl (by (simp only [↓reduceIte,zlk,Nat.reduceEqDiff,reduceCtorEq]); exact rfl) ?_ ?_ ?_ (by decide) | refine jE rfl (by first | rfl | assumption | (simp only [znl,jR,jS,jT,jU,jV,jW,jX]; (first | done | fail))) | refine MR.agg (MRL.cons ?_ ?_) | refine jE ?_ (by first | rfl | assumption | (simp only [znl,jR,jS,jT,jU,jV,jW,jX]; (first | done | fail))) | refine MR.fn ?_ | refine MRL.cons ?_ ?_ | refine MRL.nil | refine jG ?_ ?_ | refine jH | refine jI | refine jJ ?_ (by (simp only [↓reduceIte,zlk,Nat.reduceEqDiff,reduceCtorEq]); exact rfl) ?_ ?_ | refine MB.row ?_ | refine jK ?_ ?_ | refine MR.map ?_ ?_ | refine jL rfl (by first | rfl | assumption | (simp only [znl,jR,jS,jT,jU,jV,jW,jX]; (first | done | fail))) | rfl) | (simp only [znl,jR,jS,jT,jU,jV,jW,jX]; (first | done | fail)) | (refine jM rfl ?_) | exact jN rfl | exact jO rfl | ((with_reducible refine jP ?_) <;> rfl) | (simp only [↓reduceIte,zlk,Nat.reduceEqDiff,reduceCtorEq]) | (with_reducible first | refine jL ?_ ?_ | refine jF ?_ ?_ ?_ | refine jw ?_ | refine jx ?_ | refine jy ?_ | refine jz ?_ (by first | rfl | assumption | (simp only [znl,jR,jS,jT,jU,jV,jW,jX]; (first | done | fail))) | refine jE ?_ ?_)))); done)
        | trace_state
  · obtain rfl : k = m.pipes.length := by omega
    have eR : R = -1 := by rw [hR, placeI_miss hn]
    clear hR
    repeat' (first | (with_reducible first | refine ju ?_ | refine xs1 ?_ | refine xs2 ?_ | refine xs3 ?_ | refine xb1 ?_ | refine xb2 ?_ | refine xb3 (by decide) ?_ | refine xb4 ?_ | refine xl2 ?_ | refine xl3 ?_ | refine xc2 ?_ | refine xc3 ?_ | refine jn ?_ | refine jo ?_ | refine jp ?_ | refine jq ?_ | refine jr ?_ | refine jt ?_ | refine jk (fun M hM => ?_) | refine vif_t ?_ | refine vif_f ?_ | refine jl ?_ | refine jm ?_ | (refine hM _ ?_; clear hM M) | refine ja (jc (by assumption) ?_ rfl ?_) | refine jb (jd (by assumption) rfl ?_) ?_) | ((with_reducible refine je ?_) <;> (first | rfl | assumption | (simp only [znl,jR,jS,jT,jU,jV,jW,jX]; (first | done | fail)))) | (with_reducible refine jf (by (simp only [↓reduceIte,zlk,Nat.reduceEqDiff,reduceCtorEq]); exact rfl) ?_) | ((with_reducible first | refine jg (fun hc => ?_) (fun hc => ?_) | refine jh (fun hc => ?_) (fun hc => ?_)) <;> (try simp (disch := omega) only [zhb] at hc) <;> (try (exfalso; omega)) <;> (try subst hc)) | (with_reducible refine ji (by omega) ?_) | (simp (config := { maxSteps := 400000 }) only [↓jv,↓reduceIte,zvs,reduceCtorEq,Nat.reduceEqDiff,Nat.reduceAdd,Nat.reduceLeDiff,Nat.reduceMul,Int.reduceBNe,Int.reduceBEq,Int.reduceEq,Int.reduceNe,Int.reduceLT,Int.reduceLE,Int.reduceGT,Int.reduceGE,Int.reduceNeg,Int.reduceToNat,Nat.reduceLT,Nat.reduceSub,tab,Try.results99, Try.results64, List.toList_toArray]) | (simp (disch := omega) only [ziw]))
    all_goals first
      | (exfalso; omega)
      | (rw [eR]; simp only [zrds]; done)
      | trace_state
theorem file_ok (m : Mach) (hm : MFit 20000 m) (f : Fdd) (hf : fdR f) (h : fdB m.pipes f = true) (h0 : ¬(f.kind = 0)) : Spec Try.prog 85 [encM m, encFd f] (.bool true) := by
  have hP := place_spec m hm f.n hf.2.1
  obtain ⟨⟨f1, f2⟩, ⟨f3, f4⟩, f5, f6⟩ := hf
  have hk : ((f.kind = 1 ∨ f.kind = 2) ∧ f.n = 0 ∧ f.pos = 0) ∨ (f.kind = 3 ∧ 1 ≤ f.n ∧ f.n ≤ 64 ∧ 0 ≤ f.pos ∧ f.pos ≤ 8960) ∨ ((f.kind = 4 ∨ f.kind = 5) ∧ f.pos = 0 ∧ 0 ≤ placeI m.pipes f.n) := by
    unfold fdB at h
    split at h
    · have := of_decide_eq_true h; omega
    · split at h
      · have := of_decide_eq_true h; omega
      · split at h
        · rw [Bool.and_eq_true] at h
          have h1 := of_decide_eq_true h.1
          have h2 := placeI_pipe h.2
          omega
        · cases h
  generalize placeI m.pipes f.n = pl at hP hk
  refine spec_ok Try.func85 rfl rfl (by kernel_rfl) (k := 2) rfl (by decide) ?_
  repeat' (first | (with_reducible first | refine ju ?_ | refine xs1 ?_ | refine xs2 ?_ | refine xs3 ?_ | refine xb1 ?_ | refine xb2 ?_ | refine xb3 (by decide) ?_ | refine xb4 ?_ | refine xl2 ?_ | refine xl3 ?_ | refine xc2 ?_ | refine xc3 ?_ | refine jn ?_ | refine jo ?_ | refine jp ?_ | refine jq ?_ | refine jr ?_ | refine jt ?_ | refine jk (fun M hM => ?_) | refine vif_t ?_ | refine vif_f ?_ | refine jl ?_ | refine jm ?_ | (refine hM _ ?_; clear hM M) | refine ja (jc (by assumption) ?_ rfl ?_) | refine jb (jd (by assumption) rfl ?_) ?_) | ((with_reducible refine je ?_) <;> (first | rfl | assumption | (simp only [znl,jR,jS,jT,jU,jV,jW,jX]; (first | done | fail)))) | (with_reducible refine jf (by (simp only [↓reduceIte,zlk,Nat.reduceEqDiff,reduceCtorEq]); exact rfl) ?_) | ((with_reducible first | refine jg (fun hc => ?_) (fun hc => ?_) | refine jh (fun hc => ?_) (fun hc => ?_)) <;> (try simp (disch := omega) only [zhb] at hc) <;> (try (exfalso; omega)) <;> (try subst hc)) | (with_reducible refine ji (by omega) ?_) | (simp (config := { maxSteps := 400000 }) only [↓jv,↓reduceIte,zvs,reduceCtorEq,Nat.reduceEqDiff,Nat.reduceAdd,Nat.reduceLeDiff,Nat.reduceMul,Int.reduceBNe,Int.reduceBEq,Int.reduceEq,Int.reduceNe,Int.reduceLT,Int.reduceLE,Int.reduceGT,Int.reduceGE,Int.reduceNeg,Int.reduceToNat,Nat.reduceLT,Nat.reduceSub,tab,encFd,Try.results85,List.toList_toArray]) | (simp (disch := omega) only [ziw]))
  all_goals first
    | (exfalso; omega)
    | (simp only [zrds]; done)
    | (simp only [zrds]; rw [Bool.eq_iff_iff]; simp only [beq_iff_eq,decide_eq_true_eq,true_iff,iff_true]; omega)
    | trace_state
theorem parent_ok (m : Mach) (hm : MFit 20000 m) (p : Pr) (hp : PrR p) (h : livesB m.pr p.par = true ∨ (p.par = 0 ∧ livesP p = true)) : Spec Try.prog 84 [encM m, encPr p] (.bool true) := by
  have hl := hm.pr
  have hpR := hm.prR
  obtain ⟨hS1, hS2, hS3⟩ := pr3 hp
  have hL := slives_spec p hp
  simp only [encPr] at hL
  by_cases h1 : p.par = 0 ∧ livesP p = true
  · rw [h1.2] at hL
    have h1 := h1.1
    refine spec_ok Try.func84 rfl rfl (by kernel_rfl) (k := 2) rfl (by decide) ?_
    repeat' (first | (with_reducible first | refine ju ?_ | refine xs1 ?_ | refine xs2 ?_ | refine xs3 ?_ | refine xb1 ?_ | refine xb2 ?_ | refine xb3 (by decide) ?_ | refine xb4 ?_ | refine xl2 ?_ | refine xl3 ?_ | refine xc2 ?_ | refine xc3 ?_ | refine jn ?_ | refine jo ?_ | refine jp ?_ | refine jq ?_ | refine jr ?_ | refine jt ?_ | refine jk (fun M hM => ?_) | refine vif_t ?_ | refine vif_f ?_ | refine jl ?_ | refine jm ?_ | (refine hM _ ?_; clear hM M) | refine ja (jc (by assumption) ?_ rfl ?_) | refine jb (jd (by assumption) rfl ?_) ?_) | ((with_reducible refine je ?_) <;> (first | rfl | assumption | (simp only [znl,jR,jS,jT,jU,jV,jW,jX]; (first | done | fail)))) | (with_reducible refine jf (by (simp only [↓reduceIte,zlk,Nat.reduceEqDiff,reduceCtorEq]); exact rfl) ?_) | ((with_reducible first | refine jg (fun hc => ?_) (fun hc => ?_) | refine jh (fun hc => ?_) (fun hc => ?_)) <;> (try simp (disch := omega) only [zhb] at hc) <;> (try (exfalso; omega)) <;> (try subst hc)) | (with_reducible refine ji (by omega) ?_) | (simp (config := { maxSteps := 400000 }) only [↓jv,↓reduceIte,zvs,reduceCtorEq,Nat.reduceEqDiff,Nat.reduceAdd,Nat.reduceLeDiff,Nat.reduceMul,Int.reduceBNe,Int.reduceBEq,Int.reduceEq,Int.reduceNe,Int.reduceLT,Int.reduceLE,Int.reduceGT,Int.reduceGE,Int.reduceNeg,Int.reduceToNat,Nat.reduceLT,Nat.reduceSub,tab,hS1,hS2,hS3,encPr,Try.results84,List.toList_toArray]) | (simp (disch := omega) only [ziw]))
    all_goals first
      | (exfalso; omega)
      | (simp only [zrds]; done)
      | trace_state
  · have h2 : livesB m.pr p.par = true := by
      rcases h with h | h
      · exact h
      · exact absurd h h1
    obtain ⟨b, hb⟩ : ∃ b, livesP p = b := ⟨_, rfl⟩
    rw [hb] at hL h1
    have h1 : b = true → p.par ≠ 0 := fun e h => h1 ⟨h, e⟩
    have hex : ∃ k, k < m.pr.length ∧ livesQ p.par (m.pr.getD k default) = true := by
      unfold livesB at h2
      rw [List.any_eq_true] at h2
      obtain ⟨x, hx, h3⟩ := h2
      obtain ⟨j, hj, rfl⟩ := List.mem_iff_getElem.1 hx
      refine ⟨j, hj, ?_⟩
      rw [List.getD_eq_getElem?_getD, List.getElem?_eq_getElem hj]
      exact h3
    cases b
    all_goals
      first | have h1 := h1 rfl | skip
      refine spec_ok Try.func84 rfl rfl (by kernel_rfl) (k := 2) rfl (by decide) ?_
      repeat' (first | (with_reducible first | refine ju ?_ | refine xs1 ?_ | refine xs2 ?_ | refine xs3 ?_ | refine xb1 ?_ | refine xb2 ?_ | refine xb3 (by decide) ?_ | refine xb4 ?_ | refine xl2 ?_ | refine xl3 ?_ | refine xc2 ?_ | refine xc3 ?_ | refine jn ?_ | refine jo ?_ | refine jp ?_ | refine jq ?_ | refine jr ?_ | refine jt ?_ | refine jk (fun M hM => ?_) | refine vif_t ?_ | refine vif_f ?_ | refine jl ?_ | refine jm ?_ | (refine hM _ ?_; clear hM M) | refine ja (jc (by assumption) ?_ rfl ?_) | refine jb (jd (by assumption) rfl ?_) ?_) | ((with_reducible refine je ?_) <;> (first | rfl | assumption | (simp only [znl,jR,jS,jT,jU,jV,jW,jX]; (first | done | fail)))) | (with_reducible refine jf (by (simp only [↓reduceIte,zlk,Nat.reduceEqDiff,reduceCtorEq]); exact rfl) ?_) | ((with_reducible first | refine jg (fun hc => ?_) (fun hc => ?_) | refine jh (fun hc => ?_) (fun hc => ?_)) <;> (try simp (disch := omega) only [zhb] at hc) <;> (try (exfalso; omega)) <;> (try subst hc)) | (with_reducible refine ji (by omega) ?_) | (simp (config := { maxSteps := 400000 }) only [↓jv,↓reduceIte,zvs,reduceCtorEq,Nat.reduceEqDiff,Nat.reduceAdd,Nat.reduceLeDiff,Nat.reduceMul,Int.reduceBNe,Int.reduceBEq,Int.reduceEq,Int.reduceNe,Int.reduceLT,Int.reduceLE,Int.reduceGT,Int.reduceGE,Int.reduceNeg,Int.reduceToNat,Nat.reduceLT,Nat.reduceSub,tab,hS1,hS2,hS3,encPr,Try.results84,List.toList_toArray]) | (simp (disch := omega) only [ziw]))
      all_goals (try (exfalso; omega))
      all_goals
        refine ja (ok_body Try.func115 rfl rfl (by kernel_rfl) (k := 2) (by rfl) (by decide) ?_)
        repeat' (first | (with_reducible first | refine ju ?_ | refine xs1 ?_ | refine xs2 ?_ | refine xs3 ?_ | refine xb1 ?_ | refine xb2 ?_ | refine xb3 (by decide) ?_ | refine xb4 ?_ | refine xl2 ?_ | refine xl3 ?_ | refine xc2 ?_ | refine xc3 ?_ | refine jn ?_ | refine jo ?_ | refine jp ?_ | refine jq ?_ | refine jr ?_ | refine jt ?_ | refine jk (fun M hM => ?_) | refine vif_t ?_ | refine vif_f ?_ | refine jl ?_ | refine jm ?_ | (refine hM _ ?_; clear hM M) | refine ja (jc (by assumption) ?_ rfl ?_) | refine jb (jd (by assumption) rfl ?_) ?_) | ((with_reducible refine je ?_) <;> (first | rfl | assumption | (simp only [znl,jR,jS,jT,jU,jV,jW,jX]; (first | done | fail)))) | (with_reducible refine jf (by (simp only [↓reduceIte,zlk,Nat.reduceEqDiff,reduceCtorEq]); exact rfl) ?_) | ((with_reducible first | refine jg (fun hc => ?_) (fun hc => ?_) | refine jh (fun hc => ?_) (fun hc => ?_)) <;> (try simp (disch := omega) only [zhb] at hc) <;> (try (exfalso; omega)) <;> (try subst hc)) | (with_reducible refine ji (by omega) ?_) | (simp (config := { maxSteps := 400000 }) only [↓jv,↓reduceIte,zvs,reduceCtorEq,Nat.reduceEqDiff,Nat.reduceAdd,Nat.reduceLeDiff,Nat.reduceMul,Int.reduceBNe,Int.reduceBEq,Int.reduceEq,Int.reduceNe,Int.reduceLT,Int.reduceLE,Int.reduceGT,Int.reduceGE,Int.reduceNeg,Int.reduceToNat,Nat.reduceLT,Nat.reduceSub,tab,Try.results115, List.toList_toArray]) | (simp (disch := omega) only [ziw]))
        refine ja (ok_body Try.func78 rfl rfl (by kernel_rfl) (k := 2) (by rfl) (by decide) ?_)
        repeat' (first | (with_reducible first | refine ju ?_ | refine xs1 ?_ | refine xs2 ?_ | refine xs3 ?_ | refine xb1 ?_ | refine xb2 ?_ | refine xb3 (by decide) ?_ | refine xb4 ?_ | refine xl2 ?_ | refine xl3 ?_ | refine xc2 ?_ | refine xc3 ?_ | refine jn ?_ | refine jo ?_ | refine jp ?_ | refine jq ?_ | refine jr ?_ | refine jt ?_ | refine jk (fun M hM => ?_) | refine vif_t ?_ | refine vif_f ?_ | refine jl ?_ | refine jm ?_ | (refine hM _ ?_; clear hM M) | refine ja (jc (by assumption) ?_ rfl ?_) | refine jb (jd (by assumption) rfl ?_) ?_) | ((with_reducible refine je ?_) <;> (first | rfl | assumption | (simp only [znl,jR,jS,jT,jU,jV,jW,jX]; (first | done | fail)))) | (with_reducible refine jf (by (simp only [↓reduceIte,zlk,Nat.reduceEqDiff,reduceCtorEq]); exact rfl) ?_) | ((with_reducible first | refine jg (fun hc => ?_) (fun hc => ?_) | refine jh (fun hc => ?_) (fun hc => ?_)) <;> (try simp (disch := omega) only [zhb] at hc) <;> (try (exfalso; omega)) <;> (try subst hc)) | (with_reducible refine ji (by omega) ?_) | (simp (config := { maxSteps := 400000 }) only [↓jv,↓reduceIte,zvs,reduceCtorEq,Nat.reduceEqDiff,Nat.reduceAdd,Nat.reduceLeDiff,Nat.reduceMul,Int.reduceBNe,Int.reduceBEq,Int.reduceEq,Int.reduceNe,Int.reduceLT,Int.reduceLE,Int.reduceGT,Int.reduceGE,Int.reduceNeg,Int.reduceToNat,Nat.reduceLT,Nat.reduceSub,tab,Try.results78, List.toList_toArray]) | (simp (disch := omega) only [ziw]))
        refine ok_loop (fun k : Nat => ⟨slots [(0, encPrs m.pr), (1, .fn 116 [.ptr 1 []]), (6, encPrs m.pr), (7, .int .i64 m.pr.length), (8, .int .i64 k)], rows [(0, .row machSh (encM m)), (1, .row prSh (encPrA p))], 2⟩) (fun k => k ≤ m.pr.length ∧ ∀ j, j < k → livesQ p.par (m.pr.getD j default) = false) (fun k => m.pr.length - k) 0 ?_ ⟨Nat.zero_le _, fun j hj => by omega⟩ (fun k hk => ?_)
        · (refine Ren.mk [] false (by first | (intro h; cases h; done) | exact fun _ => rfl) (by first | decide | rfl | (simp [jQ]; done)) (by decide) ?_ ?_ <;> (repeat' (first | (with_reducible first | refine jw (by first | rfl | omega) | refine jx rfl | refine jy rfl | refine jz rfl (by first | rfl | assumption | (simp only [znl,jR,jS,jT,jU,jV,jW,jX]; (first | done | fail))) | refine jF ?_ ?_ (by first | rfl | omega) | refine MR.ptr ?_ ?_ | refine jA | refine jB | refine jC ?_ | refine jD rfl (by (simp only [↓reduceIte,zlk,Nat.reduceEqDiff,reduceCtorEq]); exact rfl) ?_ ?_ ?_ (by decide) | refine jE rfl (by first | rfl | assumption | (simp only [znl,jR,jS,jT,jU,jV,jW,jX]; (first | done | fail))) | refine MR.agg (MRL.cons ?_ ?_) | refine jE ?_ (by first | rfl | assumption | (simp only [znl,jR,jS,jT,jU,jV,jW,jX]; (first | done | fail))) | refine MR.fn ?_ | refine MRL.cons ?_ ?_ | refine MRL.nil | refine jG ?_ ?_ | refine jH | refine jI | refine jJ ?_ (by (simp only [↓reduceIte,zlk,Nat.reduceEqDiff,reduceCtorEq]); exact rfl) ?_ ?_ | refine MB.row ?_ | refine jK ?_ ?_ | refine MR.map ?_ ?_ | refine jL rfl (by first | rfl | assumption | (simp only [znl,jR,jS,jT,jU,jV,jW,jX]; (first | done | fail))) | rfl) | (simp only [znl,jR,jS,jT,jU,jV,jW,jX]; (first | done | fail)) | (refine jM rfl ?_) | exact jN rfl | exact jO rfl | ((with_reducible refine jP ?_) <;> rfl) | (simp only [↓reduceIte,zlk,Nat.reduceEqDiff,reduceCtorEq]) | (with_reducible first | refine jL ?_ ?_ | refine jF ?_ ?_ ?_ | refine jw ?_ | refine jx ?_ | refine jy ?_ | refine jz ?_ (by first | rfl | assumption | (simp only [znl,jR,jS,jT,jU,jV,jW,jX]; (first | done | fail))) | refine jE ?_ ?_))))
          all_goals (first | rfl | trace_state)
        obtain ⟨hk, hn⟩ := hk
        obtain ⟨k0, hk0, hk1⟩ := hex
        have hlt : k < m.pr.length := by
          refine Decidable.byContradiction fun hc => ?_
          have := hn k0 (by omega)
          rw [hk1] at this; cases this
        have hb := hpR _ (getD_mem' hlt)
        obtain ⟨hT1, hT2, hT3⟩ := pr3 hb
        have hLq := slives_spec _ hb
        simp only [encPr] at hLq
        have hQd : livesQ p.par (m.pr.getD k default) = (decide ((m.pr.getD k default).pid = p.par) && livesP (m.pr.getD k default)) := rfl
        obtain ⟨c, hcc⟩ : ∃ c, livesP (m.pr.getD k default) = c := ⟨_, rfl⟩
        rw [hcc] at hLq hQd
        have hst : livesQ p.par (m.pr.getD k default) = false → ∀ j, j < k + 1 → livesQ p.par (m.pr.getD j default) = false := fun h j hj => by
          by_cases e : j = k
          · rw [e]; exact h
          · exact hn j (by omega)
        rw [hQd] at hst
        cases c
        all_goals
          repeat' (first | (with_reducible first | refine ju ?_ | refine xs1 ?_ | refine xs2 ?_ | refine xs3 ?_ | refine xb1 ?_ | refine xb2 ?_ | refine xb3 (by decide) ?_ | refine xb4 ?_ | refine xl2 ?_ | refine xl3 ?_ | refine xc2 ?_ | refine xc3 ?_ | refine jn ?_ | refine jo ?_ | refine jp ?_ | refine jq ?_ | refine jr ?_ | refine jt ?_ | refine jk (fun M hM => ?_) | refine vif_t ?_ | refine vif_f ?_ | refine jl ?_ | refine jm ?_ | (refine hM _ ?_; clear hM M) | refine ja (jc (by assumption) ?_ rfl ?_) | refine jb (jd (by assumption) rfl ?_) ?_) | ((with_reducible refine je ?_) <;> (first | rfl | assumption | (simp only [znl,jR,jS,jT,jU,jV,jW,jX]; (first | done | fail)))) | (with_reducible refine jf (by (simp only [↓reduceIte,zlk,Nat.reduceEqDiff,reduceCtorEq]); exact rfl) ?_) | ((with_reducible first | refine jg (fun hc => ?_) (fun hc => ?_) | refine jh (fun hc => ?_) (fun hc => ?_)) <;> (try simp (disch := omega) only [zhb] at hc) <;> (try (exfalso; omega)) <;> (try subst hc)) | (with_reducible refine ji (by omega) ?_) | (simp (config := { maxSteps := 400000 }) only [↓jv,↓reduceIte,zvs,reduceCtorEq,Nat.reduceEqDiff,Nat.reduceAdd,Nat.reduceLeDiff,Nat.reduceMul,Int.reduceBNe,Int.reduceBEq,Int.reduceEq,Int.reduceNe,Int.reduceLT,Int.reduceLE,Int.reduceGT,Int.reduceGE,Int.reduceNeg,Int.reduceToNat,Nat.reduceLT,Nat.reduceSub,tab,hT1,hT2,hT3,encPr,Try.results78, List.toList_toArray]) | (simp (disch := omega) only [ziw]))
          refine ja (ok_body Try.func116 rfl rfl (by kernel_rfl) (k := 2) (by rfl) (by decide) ?_)
          repeat' (first | (with_reducible first | refine ju ?_ | refine xs1 ?_ | refine xs2 ?_ | refine xs3 ?_ | refine xb1 ?_ | refine xb2 ?_ | refine xb3 (by decide) ?_ | refine xb4 ?_ | refine xl2 ?_ | refine xl3 ?_ | refine xc2 ?_ | refine xc3 ?_ | refine jn ?_ | refine jo ?_ | refine jp ?_ | refine jq ?_ | refine jr ?_ | refine jt ?_ | refine jk (fun M hM => ?_) | refine vif_t ?_ | refine vif_f ?_ | refine jl ?_ | refine jm ?_ | (refine hM _ ?_; clear hM M) | refine ja (jc (by assumption) ?_ rfl ?_) | refine jb (jd (by assumption) rfl ?_) ?_) | ((with_reducible refine je ?_) <;> (first | rfl | assumption | (simp only [znl,jR,jS,jT,jU,jV,jW,jX]; (first | done | fail)))) | (with_reducible refine jf (by (simp only [↓reduceIte,zlk,Nat.reduceEqDiff,reduceCtorEq]); exact rfl) ?_) | ((with_reducible first | refine jg (fun hc => ?_) (fun hc => ?_) | refine jh (fun hc => ?_) (fun hc => ?_)) <;> (try simp (disch := omega) only [zhb] at hc) <;> (try (exfalso; omega)) <;> (try subst hc)) | (with_reducible refine ji (by omega) ?_) | (simp (config := { maxSteps := 400000 }) only [↓jv,↓reduceIte,zvs,reduceCtorEq,Nat.reduceEqDiff,Nat.reduceAdd,Nat.reduceLeDiff,Nat.reduceMul,Int.reduceBNe,Int.reduceBEq,Int.reduceEq,Int.reduceNe,Int.reduceLT,Int.reduceLE,Int.reduceGT,Int.reduceGE,Int.reduceNeg,Int.reduceToNat,Nat.reduceLT,Nat.reduceSub,tab,hT1,hT2,hT3,encPr,Try.results116,Try.results78, Try.results115, Try.results84, List.toList_toArray]) | (simp (disch := omega) only [ziw]))
          all_goals first
            | (exfalso; omega)
            | (simp only [zrds]; done)
            | (simp only [zrds]; first | exact decide_eq_true (by omega) | exact (decide_eq_true (by omega)).symm)
            | (refine xl1 (k + 1) ?_ ⟨by omega, hst (by first | rfl | (rw [Bool.and_false]) | (rw [decide_eq_false (by omega)]; rfl))⟩ (by show m.pr.length - (k + 1) < m.pr.length - k; omega); (refine Ren.mk [] false (by first | (intro h; cases h; done) | exact fun _ => rfl) (by first | decide | rfl | (simp [jQ]; done)) (by decide) ?_ ?_ <;> (repeat' (first | (with_reducible first | refine jw (by first | rfl | omega) | refine jx rfl | refine jy rfl | refine jz rfl (by first | rfl | assumption | (simp only [znl,jR,jS,jT,jU,jV,jW,jX]; (first | done | fail))) | refine jF ?_ ?_ (by first | rfl | omega) | refine MR.ptr ?_ ?_ | refine jA | refine jB | refine jC ?_ | refine jD rfl (by (simp only [↓reduceIte,zlk,Nat.reduceEqDiff,reduceCtorEq]); exact rfl) ?_ ?_ ?_ (by decide) | refine jE rfl (by first | rfl | assumption | (simp only [znl,jR,jS,jT,jU,jV,jW,jX]; (first | done | fail))) | refine MR.agg (MRL.cons ?_ ?_) | refine jE ?_ (by first | rfl | assumption | (simp only [znl,jR,jS,jT,jU,jV,jW,jX]; (first | done | fail))) | refine MR.fn ?_ | refine MRL.cons ?_ ?_ | refine MRL.nil | refine jG ?_ ?_ | refine jH | refine jI | refine jJ ?_ (by (simp only [↓reduceIte,zlk,Nat.reduceEqDiff,reduceCtorEq]); exact rfl) ?_ ?_ | refine MB.row ?_ | refine jK ?_ ?_ | refine MR.map ?_ ?_ | refine jL rfl (by first | rfl | assumption | (simp only [znl,jR,jS,jT,jU,jV,jW,jX]; (first | done | fail))) | rfl) | (simp only [znl,jR,jS,jT,jU,jV,jW,jX]; (first | done | fail)) | (refine jM rfl ?_) | exact jN rfl | exact jO rfl | ((with_reducible refine jP ?_) <;> rfl) | (simp only [↓reduceIte,zlk,Nat.reduceEqDiff,reduceCtorEq]) | (with_reducible first | refine jL ?_ ?_ | refine jF ?_ ?_ ?_ | refine jw ?_ | refine jx ?_ | refine jy ?_ | refine jz ?_ (by first | rfl | assumption | (simp only [znl,jR,jS,jT,jU,jV,jW,jX]; (first | done | fail))) | refine jE ?_ ?_)))); done)
            | trace_state
end Go.Proofs.Ytlgldkjjbbbapaa.V
end
