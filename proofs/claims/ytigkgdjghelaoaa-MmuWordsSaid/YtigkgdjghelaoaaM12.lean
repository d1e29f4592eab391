/-
  MMU, part 12: the law of pieces.
-/
import Derived.Test.YtigkgdjghelaoaaM11
set_option linter.unusedVariables false
set_option linter.unusedSimpArgs false
namespace Go.Proofs.Ytigkgdjghelaoaa.V
open Go
set_option maxRecDepth 100000
-- nlx: nls_pte
set_option maxHeartbeats 1000000
theorem layN_front {s : List Pte} {a : Int} {d d' : List UInt8} {fr : Frames} : ∀ k, k ≤ d.length → layN s a (d ++ d') fr k = layN s a d fr k
  | 0, _ => rfl
  | k + 1, h => by
    have ih := layN_front (s := s) (a := a) (d := d) (d' := d') (fr := fr) k (by omega)
    simp only [layN,ih]
    cases layN s a d fr k with
    | none => rfl
    | some g =>
      dsimp only
      congr 1
      rw [List.getD_eq_getElem?_getD, List.getD_eq_getElem?_getD, List.getElem?_append_left (show k < d.length by omega)]
theorem layO_add (fr : Frames) (s : List Pte) (a : Int) (ha : 0 ≤ a) (d d' : List UInt8) : layO fr s a (d ++ d') = (layO fr s a d).bind fun g => layO g s (a + d.length) d' := by
  unfold layO
  rw [List.length_append]
  by_cases h1 : 2048 < d.length ∨ 2048 < a + d.length
  · rw [if_pos (by omega), if_pos h1]; rfl
  · rw [if_neg h1]
    by_cases h2 : 2048 < d.length + d'.length ∨ 2048 < a + ((d.length + d'.length : Nat) : Int)
    · rw [if_pos h2]
      cases layN s a d fr d.length with
      | none => rfl
      | some g => rw [Option.bind_some, if_pos (by omega)]
    · rw [if_neg h2, layN_add, layN_front _ (Nat.le_refl _)]
      cases layN s a d fr d.length with
      | none => rfl
      | some g => rw [Option.bind_some, Option.bind_some, if_neg (by omega), List.drop_left]
theorem copyO_add (fr : Frames) (s : List Pte) (a : Int) (ha : 0 ≤ a) (m k : Nat) (x : List UInt8) (h : copyO fr s a ((m : Int) + k) = some x) :
    ∃ y z, copyO fr s a m = some y ∧ copyO fr s (a + m) k = some z ∧ x = y ++ z := by
  unfold copyO at h ⊢
  split at h
  · cases h
  · rw [if_neg (by omega), if_neg (by omega)]
    rw [show ((m : Int) + (k : Int)).toNat = m + k by omega, copyN_add] at h
    simp only [Int.toNat_natCast]
    cases h1 : copyN fr s a m with
    | none => rw [h1] at h; cases h
    | some y =>
      rw [h1, Option.bind_some] at h
      cases h2 : copyN fr s (a + m) k with
      | none => rw [h2] at h; cases h
      | some z =>
        rw [h2] at h
        injection h with h
        exact ⟨y, z, rfl, rfl, h.symm⟩
theorem copyO_len {fr : Frames} {s : List Pte} {a : Int} {k : Nat} {x : List UInt8} (h : copyO fr s a k = some x) : x.length = k := by
  unfold copyO at h
  split at h
  · cases h
  · have := copyN_len h
    omega
theorem strV_l (fr : Frames) (s : List Pte) (a : Int) (k : Nat) : ∃ l b, strV (copyO fr s a k) = .tup [.str l, .bool b] ∧ l.length ≤ k := by
  cases h : copyO fr s a k with
  | none => exact ⟨[], false, rfl, Nat.zero_le _⟩
  | some x => exact ⟨x, true, rfl, Nat.le_of_eq (copyO_len h)⟩
theorem pieces_law (x0 : List (List UInt8)) (x1 : List (Bool × Bool × Int × Unit)) (x2 : Int × List UInt8 × List UInt8 × Unit) (g0 : good (.sl .str) x0) (g1 : good (.arr 16 pteT) x1) (g2 : good (.fcons (.int .u32) (.fcons .str (.fcons .str .fnil))) x2)
    (l0 : Ty.lite (.sl .str) x0) (l1 : Ty.lite (.arr 16 pteT) x1) (l2 : Ty.lite (.fcons (.int .u32) (.fcons .str (.fcons .str .fnil))) x2) :
    Spec Try.prog 6 [toV (.sl .str) x0, toV (.arr 16 pteT) x1, toV (.fcons (.int .u32) (.fcons .str (.fcons .str .fnil))) x2] (.bool true) := by
  obtain ⟨a, A, B, u⟩ := x2
  obtain ⟨ga, _⟩ := g2
  have ha : 0 ≤ a ∧ a ≤ 4294967295 := bounds_u32 ga
  clear ga
  have hA : A.length ≤ 2 ^ 47 := Nat.le_trans (show A.length ≤ reachBytes from l2.2.1) (by decide)
  have hB : B.length ≤ 2 ^ 47 := Nat.le_trans (show B.length ≤ reachBytes from l2.2.2.1) (by decide)
  have hl : (x1.map mkPte).length = 16 := by rw [List.length_map]; exact g1.1
  rw [toV_space, toV_strs]
  generalize x1.map mkPte = s at hl
  clear g1 l1 x1
  simp only [toV,toVs]
  have hG := great_spec x0 (fun s hs => Nat.le_trans (show s.length ≤ reachBytes from l0.2 s hs) (by decide))
  have hS := hasSpace s hl
  have hAl := alive_spec
  refine spec_ok Try.func6 rfl rfl (by kernel_rfl) (k := 3) rfl (by decide) ?_
  by_cases ht : 5000 < tot x0
  · repeat' (first | (with_reducible first | refine ok_seq ?_ | refine xs1 ?_ | refine xs2 ?_ | refine xs3 ?_ | refine xb1 ?_ | refine xb2 ?_ | refine xb3 (by decide) ?_ | refine xb4 ?_ | refine xl2 ?_ | refine xl3 ?_ | refine xc2 ?_ | refine xc3 ?_ | refine ok_block ?_ | refine ok_scope ?_ | refine ok_skip ?_ | refine ok_label ?_ | refine ok_exit ?_ | refine ok_ret ?_ | refine ok_region (fun M hM => ?_) | refine vif_t ?_ | refine vif_f ?_ | refine fin_normal ?_ | refine fin_ret ?_ | (refine hM _ ?_; clear hM M) | refine vcallW_intro (call_data (by assumption) ?_ rfl ?_) | refine vcallHW_intro (hcall_data (by assumption) rfl ?_) ?_) | ((with_reducible refine nls_q ?_) <;> (first | rfl | assumption | (simp only [znl,nls_pte]; (first | done | fail)))) | (with_reducible refine ok_cond (by (simp only [↓reduceIte,zlk,Nat.reduceEqDiff,reduceCtorEq]); exact rfl) ?_) | ((with_reducible first | refine vif_intro (fun hc => ?_) (fun hc => ?_) | refine vifW_intro (fun hc => ?_) (fun hc => ?_)) <;> (try simp (disch := omega) only [zhb] at hc) <;> (try (exfalso; omega)) <;> (try subst hc)) | (with_reducible refine cndW_intro (by omega) ?_) | (simp (config := { maxSteps := 400000 }) only [↓zvs_pre,↓reduceIte,zvs,reduceCtorEq,Nat.reduceEqDiff,Nat.reduceAdd,Nat.reduceLeDiff,Nat.reduceMul,Int.reduceBNe,Int.reduceBEq,Int.reduceEq,Int.reduceNe,Int.reduceLT,Int.reduceLE,Int.reduceGT,Int.reduceGE,Int.reduceNeg,Int.reduceToNat,Nat.reduceLT,Nat.reduceSub,tab,hS,ht,Try.results6,List.toList_toArray]) | (simp (disch := omega) only [ziw]))
    simp only [zrds]
  · have hf : fits x0 := tot_fits (by omega)
    by_cases hd : 2000 < A.length + B.length
    · repeat' (first | (with_reducible first | refine ok_seq ?_ | refine xs1 ?_ | refine xs2 ?_ | refine xs3 ?_ | refine xb1 ?_ | refine xb2 ?_ | refine xb3 (by decide) ?_ | refine xb4 ?_ | refine xl2 ?_ | refine xl3 ?_ | refine xc2 ?_ | refine xc3 ?_ | refine ok_block ?_ | refine ok_scope ?_ | refine ok_skip ?_ | refine ok_label ?_ | refine ok_exit ?_ | refine ok_ret ?_ | refine ok_region (fun M hM => ?_) | refine vif_t ?_ | refine vif_f ?_ | refine fin_normal ?_ | refine fin_ret ?_ | (refine hM _ ?_; clear hM M) | refine vcallW_intro (call_data (by assumption) ?_ rfl ?_) | refine vcallHW_intro (hcall_data (by assumption) rfl ?_) ?_) | ((with_reducible refine nls_q ?_) <;> (first | rfl | assumption | (simp only [znl,nls_pte]; (first | done | fail)))) | (with_reducible refine ok_cond (by (simp only [↓reduceIte,zlk,Nat.reduceEqDiff,reduceCtorEq]); exact rfl) ?_) | ((with_reducible first | refine vif_intro (fun hc => ?_) (fun hc => ?_) | refine vifW_intro (fun hc => ?_) (fun hc => ?_)) <;> (try simp (disch := omega) only [zhb] at hc) <;> (try (exfalso; omega)) <;> (try subst hc)) | (with_reducible refine cndW_intro (by omega) ?_) | (simp (config := { maxSteps := 400000 }) only [↓zvs_pre,↓reduceIte,zvs,reduceCtorEq,Nat.reduceEqDiff,Nat.reduceAdd,Nat.reduceLeDiff,Nat.reduceMul,Int.reduceBNe,Int.reduceBEq,Int.reduceEq,Int.reduceNe,Int.reduceLT,Int.reduceLE,Int.reduceGT,Int.reduceGE,Int.reduceNeg,Int.reduceToNat,Nat.reduceLT,Nat.reduceSub,tab,hS,ht,Try.results6,List.toList_toArray]) | (simp (disch := omega) only [ziw]))
      all_goals first
        | (exfalso; omega)
        | (simp only [zrds]; done)
    · have lay : ∀ (fr : Frames), fits fr → ∀ (a : Int) (ha : 0 ≤ a ∧ a < 2 ^ 32) (d : List UInt8) (hd : d.length < 2047), Spec Try.prog 19 [encStrs fr, encSpace s, .int .u32 a, .str d] (framesV (layO fr s a d)) := fun fr hf a ha d hd => by
        have := PLay_spec fr hf s hl a ha d (by omega)
        have e2 : (if 2048 < d.length ∨ 2048 < a + d.length then none else layP s 2049 a d fr) = layO fr s a d := by
          unfold layO
          split
          · rfl
          · rw [lay_eq _ _ _ _ _ ha.1 (by omega)]
        rw [e2] at this
        exact this
      have copy : ∀ (a : Int) (ha : 0 ≤ a ∧ a < 2 ^ 32) (n : Int) (hn : 0 ≤ n ∧ n < 2 ^ 62), Spec Try.prog 17 [encStrs x0, encSpace s, .int .u32 a, .int .i64 n] (strV (copyO x0 s a n)) := fun a ha n hn => by
        have := PCopy_spec x0 hf s hl a ha n (by omega)
        have e1 : (if n < 0 ∨ 2048 < n ∨ 2048 < a + n then none else pieceN x0 s 2049 a n.toNat) = copyO x0 s a n := by
          unfold copyO
          split
          · rfl
          · rw [piece_eq _ _ _ _ _ ha.1 (by omega)]
        rw [e1] at this
        exact this
      have h1 := lay x0 hf a (by omega) (A ++ B) (by rw [List.length_append]; omega)
      have h2 := lay x0 hf a (by omega) A (by omega)
      have h3 := copy a (by omega) ((A.length : Int) + B.length) (by omega)
      have h4 := copy a (by omega) (A.length : Int) (by omega)
      have hadd := layO_add x0 s a ha.1 A B
      by_cases ha2 : a ≤ 2048
      · have h6 := copy (a + A.length) (by omega) (B.length : Int) (by omega)
        have hcp : ∃ x y z b c d, strV (copyO x0 s a ((A.length : Int) + B.length)) = .tup [.str x, .bool b] ∧ strV (copyO x0 s a A.length) = .tup [.str y, .bool c] ∧ strV (copyO x0 s (a + A.length) B.length) = .tup [.str z, .bool d] ∧
            (y.length + z.length ≤ 4000) ∧ (b = true → c = true ∧ d = true ∧ x = y ++ z) := by
          cases hx : copyO x0 s a ((A.length : Int) + B.length) with
          | none =>
            obtain ⟨y, c, e1, q1⟩ := strV_l x0 s a A.length
            obtain ⟨z, d, e2, q2⟩ := strV_l x0 s (a + A.length) B.length
            exact ⟨_, y, z, _, c, d, rfl, e1, e2, by omega, fun h => by cases h⟩
          | some x =>
            obtain ⟨y, z, e1, e2, e3⟩ := copyO_add x0 s a ha.1 A.length B.length x hx
            have q1 := copyO_len e1
            have q2 := copyO_len e2
            rw [e1, e2]
            exact ⟨_, _, _, _, _, _, rfl, rfl, rfl, by omega, fun _ => ⟨rfl, rfl, e3⟩⟩
        obtain ⟨x, y, z, b, c, d, c1, c2, c3, c5, c4⟩ := hcp
        rw [c1] at h3
        rw [c2] at h4
        rw [c3] at h6
        rcases hm : layO x0 s a A with _ | m
        · rw [hm] at h2 hadd
          rw [hadd] at h1
          simp only [framesV,Option.bind_none] at h1 h2
          repeat' (first | (with_reducible first | refine ok_seq ?_ | refine xs1 ?_ | refine xs2 ?_ | refine xs3 ?_ | refine xb1 ?_ | refine xb2 ?_ | refine xb3 (by decide) ?_ | refine xb4 ?_ | refine xl2 ?_ | refine xl3 ?_ | refine xc2 ?_ | refine xc3 ?_ | refine ok_block ?_ | refine ok_scope ?_ | refine ok_skip ?_ | refine ok_label ?_ | refine ok_exit ?_ | refine ok_ret ?_ | refine ok_region (fun M hM => ?_) | refine vif_t ?_ | refine vif_f ?_ | refine fin_normal ?_ | refine fin_ret ?_ | (refine hM _ ?_; clear hM M) | refine vcallW_intro (call_data (by assumption) ?_ rfl ?_) | refine vcallHW_intro (hcall_data (by assumption) rfl ?_) ?_) | ((with_reducible refine nls_q ?_) <;> (first | rfl | assumption | (simp only [znl,nls_pte]; (first | done | fail)))) | (with_reducible refine ok_cond (by (simp only [↓reduceIte,zlk,Nat.reduceEqDiff,reduceCtorEq]); exact rfl) ?_) | ((with_reducible first | refine vif_intro (fun hc => ?_) (fun hc => ?_) | refine vifW_intro (fun hc => ?_) (fun hc => ?_)) <;> (try simp (disch := omega) only [zhb] at hc) <;> (try (exfalso; omega)) <;> (try subst hc)) | (with_reducible refine cndW_intro (by omega) ?_) | (simp (config := { maxSteps := 400000 }) only [↓zvs_pre,↓reduceIte,zvs,reduceCtorEq,Nat.reduceEqDiff,Nat.reduceAdd,Nat.reduceLeDiff,Nat.reduceMul,Int.reduceBNe,Int.reduceBEq,Int.reduceEq,Int.reduceNe,Int.reduceLT,Int.reduceLE,Int.reduceGT,Int.reduceGE,Int.reduceNeg,Int.reduceToNat,Nat.reduceLT,Nat.reduceSub,tab,hS,ht,Try.results6,List.toList_toArray]) | (simp (disch := omega) only [ziw]))
          all_goals first
            | (exfalso; omega)
            | (simp only [zrds]; done)
            | (simp only [zrds]; simp_all; done)
            | (exfalso; simp_all; done)
        · rw [hm] at h2 hadd
          rw [hadd] at h1
          simp only [framesV,Option.bind_some] at h1 h2
          have hfm : fits m := fits_same (layO_same hm) hf
          have h5 := lay m hfm (a + A.length) (by omega) B (by omega)
          rcases hk : layO m s (a + A.length) B with _ | k
          · rw [hk] at h1 h5
            simp only [framesV] at h1 h5
            repeat' (first | (with_reducible first | refine ok_seq ?_ | refine xs1 ?_ | refine xs2 ?_ | refine xs3 ?_ | refine xb1 ?_ | refine xb2 ?_ | refine xb3 (by decide) ?_ | refine xb4 ?_ | refine xl2 ?_ | refine xl3 ?_ | refine xc2 ?_ | refine xc3 ?_ | refine ok_block ?_ | refine ok_scope ?_ | refine ok_skip ?_ | refine ok_label ?_ | refine ok_exit ?_ | refine ok_ret ?_ | refine ok_region (fun M hM => ?_) | refine vif_t ?_ | refine vif_f ?_ | refine fin_normal ?_ | refine fin_ret ?_ | (refine hM _ ?_; clear hM M) | refine vcallW_intro (call_data (by assumption) ?_ rfl ?_) | refine vcallHW_intro (hcall_data (by assumption) rfl ?_) ?_) | ((with_reducible refine nls_q ?_) <;> (first | rfl | assumption | (simp only [znl,nls_pte]; (first | done | fail)))) | (with_reducible refine ok_cond (by (simp only [↓reduceIte,zlk,Nat.reduceEqDiff,reduceCtorEq]); exact rfl) ?_) | ((with_reducible first | refine vif_intro (fun hc => ?_) (fun hc => ?_) | refine vifW_intro (fun hc => ?_) (fun hc => ?_)) <;> (try simp (disch := omega) only [zhb] at hc) <;> (try (exfalso; omega)) <;> (try subst hc)) | (with_reducible refine cndW_intro (by omega) ?_) | (simp (config := { maxSteps := 400000 }) only [↓zvs_pre,↓reduceIte,zvs,reduceCtorEq,Nat.reduceEqDiff,Nat.reduceAdd,Nat.reduceLeDiff,Nat.reduceMul,Int.reduceBNe,Int.reduceBEq,Int.reduceEq,Int.reduceNe,Int.reduceLT,Int.reduceLE,Int.reduceGT,Int.reduceGE,Int.reduceNeg,Int.reduceToNat,Nat.reduceLT,Nat.reduceSub,tab,hS,ht,Try.results6,List.toList_toArray]) | (simp (disch := omega) only [ziw]))
            all_goals first
              | (exfalso; omega)
              | (simp only [zrds]; done)
              | (simp only [zrds]; simp_all; done)
              | (exfalso; simp_all; done)
          · rw [hk] at h1 h5
            simp only [framesV] at h1 h5
            have h7 := Same_spec k k (fits_same (layO_same hk) hfm) (fits_same (layO_same hk) hfm)
            rw [decide_eq_true rfl] at h7
            repeat' (first | (with_reducible first | refine ok_seq ?_ | refine xs1 ?_ | refine xs2 ?_ | refine xs3 ?_ | refine xb1 ?_ | refine xb2 ?_ | refine xb3 (by decide) ?_ | refine xb4 ?_ | refine xl2 ?_ | refine xl3 ?_ | refine xc2 ?_ | refine xc3 ?_ | refine ok_block ?_ | refine ok_scope ?_ | refine ok_skip ?_ | refine ok_label ?_ | refine ok_exit ?_ | refine ok_ret ?_ | refine ok_region (fun M hM => ?_) | refine vif_t ?_ | refine vif_f ?_ | refine fin_normal ?_ | refine fin_ret ?_ | (refine hM _ ?_; clear hM M) | refine vcallW_intro (call_data (by assumption) ?_ rfl ?_) | refine vcallHW_intro (hcall_data (by assumption) rfl ?_) ?_) | ((with_reducible refine nls_q ?_) <;> (first | rfl | assumption | (simp only [znl,nls_pte]; (first | done | fail)))) | (with_reducible refine ok_cond (by (simp only [↓reduceIte,zlk,Nat.reduceEqDiff,reduceCtorEq]); exact rfl) ?_) | ((with_reducible first | refine vif_intro (fun hc => ?_) (fun hc => ?_) | refine vifW_intro (fun hc => ?_) (fun hc => ?_)) <;> (try simp (disch := omega) only [zhb] at hc) <;> (try (exfalso; omega)) <;> (try subst hc)) | (with_reducible refine cndW_intro (by omega) ?_) | (simp (config := { maxSteps := 400000 }) only [↓zvs_pre,↓reduceIte,zvs,reduceCtorEq,Nat.reduceEqDiff,Nat.reduceAdd,Nat.reduceLeDiff,Nat.reduceMul,Int.reduceBNe,Int.reduceBEq,Int.reduceEq,Int.reduceNe,Int.reduceLT,Int.reduceLE,Int.reduceGT,Int.reduceGE,Int.reduceNeg,Int.reduceToNat,Nat.reduceLT,Nat.reduceSub,tab,hS,ht,Try.results6,List.toList_toArray]) | (simp (disch := omega) only [ziw]))
            all_goals first
              | (exfalso; omega)
              | (simp only [zrds]; done)
              | (simp only [zrds]; simp_all; done)
              | (exfalso; simp_all; done)
      · have hw := copy (IntKind.u32.wrap (a + A.length)) (by rw [IntKind.wrap_u32]; omega) (B.length : Int) (by omega)
        have e1 : layO x0 s a (A ++ B) = none := by unfold layO; rw [if_pos (by omega)]
        have e2 : layO x0 s a A = none := by unfold layO; rw [if_pos (by omega)]
        have e3 : copyO x0 s a ((A.length : Int) + B.length) = none := by unfold copyO; rw [if_pos (by omega)]
        have e4 : copyO x0 s a A.length = none := by unfold copyO; rw [if_pos (by omega)]
        rw [e1] at h1
        rw [e2] at h2
        rw [e3] at h3
        rw [e4] at h4
        obtain ⟨z, d, e5⟩ := strV_t (copyO x0 s (IntKind.u32.wrap (a + A.length)) B.length)
        rw [e5] at hw
        simp only [framesV,strV] at h1 h2 h3 h4
        repeat' (first | (with_reducible first | refine ok_seq ?_ | refine xs1 ?_ | refine xs2 ?_ | refine xs3 ?_ | refine xb1 ?_ | refine xb2 ?_ | refine xb3 (by decide) ?_ | refine xb4 ?_ | refine xl2 ?_ | refine xl3 ?_ | refine xc2 ?_ | refine xc3 ?_ | refine ok_block ?_ | refine ok_scope ?_ | refine ok_skip ?_ | refine ok_label ?_ | refine ok_exit ?_ | refine ok_ret ?_ | refine ok_region (fun M hM => ?_) | refine vif_t ?_ | refine vif_f ?_ | refine fin_normal ?_ | refine fin_ret ?_ | (refine hM _ ?_; clear hM M) | refine vcallW_intro (call_data (by assumption) ?_ rfl ?_) | refine vcallHW_intro (hcall_data (by assumption) rfl ?_) ?_) | ((with_reducible refine nls_q ?_) <;> (first | rfl | assumption | (simp only [znl,nls_pte]; (first | done | fail)))) | (with_reducible refine ok_cond (by (simp only [↓reduceIte,zlk,Nat.reduceEqDiff,reduceCtorEq]); exact rfl) ?_) | ((with_reducible first | refine vif_intro (fun hc => ?_) (fun hc => ?_) | refine vifW_intro (fun hc => ?_) (fun hc => ?_)) <;> (try simp (disch := omega) only [zhb] at hc) <;> (try (exfalso; omega)) <;> (try subst hc)) | (with_reducible refine cndW_intro (by omega) ?_) | (simp (config := { maxSteps := 400000 }) only [↓zvs_pre,↓reduceIte,zvs,reduceCtorEq,Nat.reduceEqDiff,Nat.reduceAdd,Nat.reduceLeDiff,Nat.reduceMul,Int.reduceBNe,Int.reduceBEq,Int.reduceEq,Int.reduceNe,Int.reduceLT,Int.reduceLE,Int.reduceGT,Int.reduceGE,Int.reduceNeg,Int.reduceToNat,Nat.reduceLT,Nat.reduceSub,tab,hS,ht,Try.results6,List.toList_toArray]) | (simp (disch := omega) only [ziw]))
        all_goals first
          | (exfalso; omega)
          | (simp only [zrds]; done)
          | (simp only [zrds]; simp_all; done)
          | (exfalso; simp_all; done)
end Go.Proofs.Ytigkgdjghelaoaa.V
