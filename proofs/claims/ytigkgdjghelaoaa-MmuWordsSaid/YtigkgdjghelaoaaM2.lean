/-
  MMU, part 2: numbers as bytes.
-/
import Derived.Test.YtigkgdjghelaoaaVset
import Derived.Lib.EndianBits
set_option linter.unusedVariables false
set_option linter.unusedSimpArgs false
namespace Go.Proofs.Ytigkgdjghelaoaa.V
open Go
set_option maxRecDepth 100000
set_option maxHeartbeats 1000000
/-- the number of bytes, the lowest one first -/
def getLE : List UInt8 → Nat
  | [] => 0
  | b :: l => b.toNat + 256 * getLE l
theorem getLE_lt : ∀ l : List UInt8, getLE l < 256 ^ l.length
  | [] => by simp [getLE]
  | b :: l => by
    have h1 := getLE_lt l
    have h2 := b.toNat_lt
    simp only [getLE,List.length_cons,Nat.pow_succ]
    omega
theorem getLE_snoc : ∀ (l : List UInt8) (b : UInt8), getLE (l ++ [b]) = getLE l + 256 ^ l.length * b.toNat
  | [], b => by simp [getLE]
  | a :: l, b => by
    simp only [List.cons_append,getLE,getLE_snoc l b,List.length_cons,Nat.pow_succ]
    rw [Nat.mul_add, Nat.add_assoc, ← Nat.mul_assoc, Nat.mul_comm 256 (256 ^ l.length)]
theorem take_snoc {α : Type} [Inhabited α] (l : List α) (i : Nat) (h : i < l.length) : l.take (i + 1) = l.take i ++ [l.getD i default] := by
  rw [List.take_succ_eq_append_getElem h]; simp [h]
theorem or_step (l : List UInt8) (b : UInt8) (hl : l.length < 8) : bits .or .u64 (getLE l : Int) (IntKind.u64.wrap (IntKind.u64.wrap (b.toNat : Int) * 2 ^ min (8 * (l.length : Int)).toNat IntKind.u64.bits)) = (getLE (l ++ [b]) : Int) := by
  have h1 := getLE_lt l
  have h2 := b.toNat_lt
  have e1 : IntKind.u64.wrap (b.toNat : Int) = b.toNat := wraps_u64 _ (by omega) (by omega)
  have e2 : min (8 * (l.length : Int)).toNat IntKind.u64.bits = 8 * l.length := by
    have : IntKind.u64.bits = 64 := rfl
    rw [this]; omega
  have e3 : (256 : Nat) ^ l.length = 2 ^ (8 * l.length) := by rw [Nat.pow_mul]
  have e4 : (256 : Nat) ^ l.length * 256 ≤ 2 ^ 64 := by
    have : (256 : Nat) ^ (l.length + 1) ≤ 256 ^ 8 := Nat.pow_le_pow_right (by omega) (by omega)
    rw [Nat.pow_succ] at this
    exact this
  have e5 : b.toNat * 256 ^ l.length < 2 ^ 64 := by
    have : b.toNat * 256 ^ l.length ≤ 255 * 256 ^ l.length := Nat.mul_le_mul_right _ (by omega)
    have : 0 < 256 ^ l.length := Nat.pow_pos (by omega)
    omega
  have e6 : ((b.toNat : Int) * 2 ^ (8 * l.length)) = ((b.toNat * 256 ^ l.length : Nat) : Int) := by rw [e3]; push_cast; rfl
  rw [e1, e2, e6, wraps_u64 _ (by omega) (by exact_mod_cast e5), getLE_snoc]
  have hb := bits_join_low .u64 64 (by decide) (fun n h0 h1 => wraps_u64 n h0 (by simpa using h1)) (8 * l.length) (getLE l : Int) ((b.toNat * 256 ^ l.length : Nat) : Int) (by omega)
    (by rw [e3] at h1; exact_mod_cast h1) (by have : getLE l < 2 ^ 64 := by omega
                                              exact_mod_cast this) (by omega) (by rw [e3]; push_cast; exact Int.mul_emod_left _ _) (by exact_mod_cast e5)
  rw [hb, Nat.mul_comm]
  push_cast
  rfl
theorem num_get_spec (s : List UInt8) (hs : s.length < 2 ^ 62) : Spec Try.prog 54 [.str s] (.int .u64 (getLE (s.take 8))) := by
  refine spec_ok Try.func54 rfl rfl (by kernel_rfl) (k := 1) rfl (by decide) ?_
  repeat' (first | (with_reducible first | refine ok_seq ?_ | refine xs1 ?_ | refine xs2 ?_ | refine xs3 ?_ | refine xb1 ?_ | refine xb2 ?_ | refine xb3 (by decide) ?_ | refine xb4 ?_ | refine xl2 ?_ | refine xl3 ?_ | refine xc2 ?_ | refine xc3 ?_ | refine ok_block ?_ | refine ok_scope ?_ | refine ok_skip ?_ | refine ok_label ?_ | refine ok_exit ?_ | refine ok_ret ?_ | refine ok_region (fun M hM => ?_) | refine vif_t ?_ | refine vif_f ?_ | refine fin_normal ?_ | refine fin_ret ?_ | (refine hM _ ?_; clear hM M)) | ((with_reducible refine nls_q ?_) <;> (first | rfl | assumption | (simp only [znl]; (first | done | fail)))) | (with_reducible refine ok_cond (by (simp only [↓reduceIte,zlk,Nat.reduceEqDiff,reduceCtorEq]); exact rfl) ?_) | ((with_reducible first | refine vif_intro (fun hc => ?_) (fun hc => ?_) | refine vifW_intro (fun hc => ?_) (fun hc => ?_)) <;> (try simp (disch := omega) only [zhb] at hc) <;> (try (exfalso; omega)) <;> (try subst hc)) | (with_reducible refine cndW_intro (by omega) ?_) | (simp (config := { maxSteps := 400000 }) only [↓zvs_pre,↓reduceIte,zvs,reduceCtorEq,Nat.reduceEqDiff,Nat.reduceAdd,Nat.reduceLeDiff,Nat.reduceMul,Int.reduceBNe,Int.reduceBEq,Int.reduceEq,Int.reduceNe,Int.reduceLT,Int.reduceLE,Int.reduceGT,Int.reduceGE,Int.reduceNeg,Int.reduceToNat,Nat.reduceLT,Nat.reduceSub,tab,Try.results54,List.toList_toArray]) | (simp (disch := omega) only [ziw]))
  obtain ⟨b, hb⟩ : ∃ b : Int, b = min (s.length : Int) 8 := ⟨_, rfl⟩
  have hb1 : b ≤ 8 := by omega
  have hb2 : b ≤ s.length := by omega
  have hb3 : 0 ≤ b := by omega
  refine ok_loop (fun k : Nat => ⟨slots [(0, .str s), (2, .int .u64 0), (3, .int .u64 (getLE (s.take k))), (7, .int .i64 b), (8, .int .i64 k)], rows [], 0⟩) (fun k => (k : Int) ≤ b) (fun k => 8 - k) 0 ?_ (by omega) (fun k hk => ?_)
  · (refine Ren.mk [] false (by first | (intro h; cases h; done) | exact fun _ => rfl) (by first | decide | rfl | (simp [turnOk]; done)) (by decide) ?_ ?_ <;> (repeat' (first | (with_reducible first | refine mr_int (by first | rfl | omega) | refine mr_str rfl | refine mr_bool rfl | refine mr_dat rfl (by first | rfl | assumption | (simp only [znl]; (first | done | fail))) | refine mr_sl ?_ ?_ (by first | rfl | omega) | refine MR.ptr ?_ ?_ | refine mr_raw | refine mr_slnil | refine mr_empty ?_ | refine mr_row rfl (by (simp only [↓reduceIte,zlk,Nat.reduceEqDiff,reduceCtorEq]); exact rfl) ?_ ?_ ?_ (by decide) | refine mr_aggD rfl (by first | rfl | assumption | (simp only [znl]; (first | done | fail))) | refine MR.agg (MRL.cons ?_ ?_) | refine mr_aggD ?_ (by first | rfl | assumption | (simp only [znl]; (first | done | fail))) | refine MR.fn ?_ | refine MRL.cons ?_ ?_ | refine MRL.nil | refine alls_cons ?_ ?_ | refine alls_nil | refine allb_nil | refine allb_cons ?_ (by (simp only [↓reduceIte,zlk,Nat.reduceEqDiff,reduceCtorEq]); exact rfl) ?_ ?_ | refine MB.row ?_ | refine mb_arr ?_ ?_ | refine MR.map ?_ ?_ | refine mb_map rfl (by first | rfl | assumption | (simp only [znl]; (first | done | fail))) | rfl) | (simp only [znl]; (first | done | fail)) | (refine allb_ghost rfl ?_) | exact known_in rfl | exact known_lt rfl | ((with_reducible refine turn_ok ?_) <;> rfl) | (simp only [↓reduceIte,zlk,Nat.reduceEqDiff,reduceCtorEq]) | (with_reducible first | refine mb_map ?_ ?_ | refine mr_sl ?_ ?_ ?_ | refine mr_int ?_ | refine mr_str ?_ | refine mr_bool ?_ | refine mr_dat ?_ (by first | rfl | assumption | (simp only [znl]; (first | done | fail))) | refine mr_aggD ?_ ?_))))
    rfl
  by_cases hlt : (k : Int) < b
  · repeat' (first | (with_reducible first | refine ok_seq ?_ | refine xs1 ?_ | refine xs2 ?_ | refine xs3 ?_ | refine xb1 ?_ | refine xb2 ?_ | refine xb3 (by decide) ?_ | refine xb4 ?_ | refine xl2 ?_ | refine xl3 ?_ | refine xc2 ?_ | refine xc3 ?_ | refine ok_block ?_ | refine ok_scope ?_ | refine ok_skip ?_ | refine ok_label ?_ | refine ok_exit ?_ | refine ok_ret ?_ | refine ok_region (fun M hM => ?_) | refine vif_t ?_ | refine vif_f ?_ | refine fin_normal ?_ | refine fin_ret ?_ | (refine hM _ ?_; clear hM M)) | ((with_reducible refine nls_q ?_) <;> (first | rfl | assumption | (simp only [znl]; (first | done | fail)))) | (with_reducible refine ok_cond (by (simp only [↓reduceIte,zlk,Nat.reduceEqDiff,reduceCtorEq]); exact rfl) ?_) | ((with_reducible first | refine vif_intro (fun hc => ?_) (fun hc => ?_) | refine vifW_intro (fun hc => ?_) (fun hc => ?_)) <;> (try simp (disch := omega) only [zhb] at hc) <;> (try (exfalso; omega)) <;> (try subst hc)) | (with_reducible refine cndW_intro (by omega) ?_) | (simp (config := { maxSteps := 400000 }) only [↓zvs_pre,↓reduceIte,zvs,reduceCtorEq,Nat.reduceEqDiff,Nat.reduceAdd,Nat.reduceLeDiff,Nat.reduceMul,Int.reduceBNe,Int.reduceBEq,Int.reduceEq,Int.reduceNe,Int.reduceLT,Int.reduceLE,Int.reduceGT,Int.reduceGE,Int.reduceNeg,Int.reduceToNat,Nat.reduceLT,Nat.reduceSub,tab]) | (simp (disch := omega) only [ziw]))
    refine xl1 (k + 1) ?_ ?_ ?_
    · (refine Ren.mk [] false (by first | (intro h; cases h; done) | exact fun _ => rfl) (by first | decide | rfl | (simp [turnOk]; done)) (by decide) ?_ ?_ <;> (repeat' (first | (with_reducible first | refine mr_int (by first | rfl | omega) | refine mr_str rfl | refine mr_bool rfl | refine mr_dat rfl (by first | rfl | assumption | (simp only [znl]; (first | done | fail))) | refine mr_sl ?_ ?_ (by first | rfl | omega) | refine MR.ptr ?_ ?_ | refine mr_raw | refine mr_slnil | refine mr_empty ?_ | refine mr_row rfl (by (simp only [↓reduceIte,zlk,Nat.reduceEqDiff,reduceCtorEq]); exact rfl) ?_ ?_ ?_ (by decide) | refine mr_aggD rfl (by first | rfl | assumption | (simp only [znl]; (first | done | fail))) | refine MR.agg (MRL.cons ?_ ?_) | refine mr_aggD ?_ (by first | rfl | assumption | (simp only [znl]; (first | done | fail))) | refine MR.fn ?_ | refine MRL.cons ?_ ?_ | refine MRL.nil | refine alls_cons ?_ ?_ | refine alls_nil | refine allb_nil | refine allb_cons ?_ (by (simp only [↓reduceIte,zlk,Nat.reduceEqDiff,reduceCtorEq]); exact rfl) ?_ ?_ | refine MB.row ?_ | refine mb_arr ?_ ?_ | refine MR.map ?_ ?_ | refine mb_map rfl (by first | rfl | assumption | (simp only [znl]; (first | done | fail))) | rfl) | (simp only [znl]; (first | done | fail)) | (refine allb_ghost rfl ?_) | exact known_in rfl | exact known_lt rfl | ((with_reducible refine turn_ok ?_) <;> rfl) | (simp only [↓reduceIte,zlk,Nat.reduceEqDiff,reduceCtorEq]) | (with_reducible first | refine mb_map ?_ ?_ | refine mr_sl ?_ ?_ ?_ | refine mr_int ?_ | refine mr_str ?_ | refine mr_bool ?_ | refine mr_dat ?_ (by first | rfl | assumption | (simp only [znl]; (first | done | fail))) | refine mr_aggD ?_ ?_))))
      have hk8 : (s.take k).length = k := by rw [List.length_take]; omega
      have := or_step (s.take k) (s.getD k 0) (by omega)
      rw [hk8] at this
      rw [this, take_snoc s k (by omega)]
      rfl
    · show ((k + 1 : Nat) : Int) ≤ b
      omega
    · show 8 - (k + 1) < 8 - k
      omega
  · repeat' (first | (with_reducible first | refine ok_seq ?_ | refine xs1 ?_ | refine xs2 ?_ | refine xs3 ?_ | refine xb1 ?_ | refine xb2 ?_ | refine xb3 (by decide) ?_ | refine xb4 ?_ | refine xl2 ?_ | refine xl3 ?_ | refine xc2 ?_ | refine xc3 ?_ | refine ok_block ?_ | refine ok_scope ?_ | refine ok_skip ?_ | refine ok_label ?_ | refine ok_exit ?_ | refine ok_ret ?_ | refine ok_region (fun M hM => ?_) | refine vif_t ?_ | refine vif_f ?_ | refine fin_normal ?_ | refine fin_ret ?_ | (refine hM _ ?_; clear hM M)) | ((with_reducible refine nls_q ?_) <;> (first | rfl | assumption | (simp only [znl]; (first | done | fail)))) | (with_reducible refine ok_cond (by (simp only [↓reduceIte,zlk,Nat.reduceEqDiff,reduceCtorEq]); exact rfl) ?_) | ((with_reducible first | refine vif_intro (fun hc => ?_) (fun hc => ?_) | refine vifW_intro (fun hc => ?_) (fun hc => ?_)) <;> (try simp (disch := omega) only [zhb] at hc) <;> (try (exfalso; omega)) <;> (try subst hc)) | (with_reducible refine cndW_intro (by omega) ?_) | (simp (config := { maxSteps := 400000 }) only [↓zvs_pre,↓reduceIte,zvs,reduceCtorEq,Nat.reduceEqDiff,Nat.reduceAdd,Nat.reduceLeDiff,Nat.reduceMul,Int.reduceBNe,Int.reduceBEq,Int.reduceEq,Int.reduceNe,Int.reduceLT,Int.reduceLE,Int.reduceGT,Int.reduceGE,Int.reduceNeg,Int.reduceToNat,Nat.reduceLT,Nat.reduceSub,tab]) | (simp (disch := omega) only [ziw]))
    simp only [zrds]
    have e : k = min 8 s.length := by omega
    rw [e]
    congr 2
    by_cases h : s.length ≤ 8
    · rw [Nat.min_eq_right h, List.take_of_length_le (Nat.le_refl _), List.take_of_length_le h]
    · rw [Nat.min_eq_left (by omega)]
/-- so many lowest bytes of a number -/
def putLE (n : Nat) : Nat → List UInt8
  | 0 => []
  | k + 1 => putLE n k ++ [UInt8.ofNat (n / 256 ^ k)]
theorem putLE_len (n : Nat) : ∀ k, (putLE n k).length = k
  | 0 => rfl
  | k + 1 => by simp [putLE, putLE_len n k]
theorem put_step (n k : Nat) (hk : k < 8) : ((putLE n k).map encB ++ List.replicate (8 - k) (VV.int .u8 0)).set k (.int .u8 (IntKind.u8.wrap ((n : Int).fdiv (2 ^ min (8 * (k : Int)).toNat IntKind.u64.bits)))) = (putLE n (k + 1)).map encB ++ List.replicate (8 - (k + 1)) (VV.int .u8 0) := by
  have e1 : min (8 * (k : Int)).toNat IntKind.u64.bits = 8 * k := by
    have : IntKind.u64.bits = 64 := rfl
    rw [this]; omega
  have e2 : IntKind.u8.wrap ((n : Int).fdiv (2 ^ (8 * k))) = ((UInt8.ofNat (n / 256 ^ k)).toNat : Int) := by
    have e3 : (2 : Int) ^ (8 * k) = ((256 ^ k : Nat) : Int) := by
      rw [show (256 : Nat) = 2 ^ 8 from rfl, ← Nat.pow_mul]; push_cast; rfl
    rw [e3, Int.fdiv_eq_ediv_of_nonneg _ (Int.natCast_nonneg _), IntKind.wrap_u8, UInt8.toNat_ofNat']
    push_cast
    rfl
  have hl : ((putLE n k).map encB).length = k := by simp [putLE_len]
  have e4 : List.replicate (8 - k) (VV.int .u8 0) = VV.int .u8 0 :: List.replicate (8 - (k + 1)) (VV.int .u8 0) := by
    rw [show 8 - k = (8 - (k + 1)) + 1 by omega, List.replicate_succ]
  rw [e1, e2, List.set_append_right _ _ (by omega), hl, e4, Nat.sub_self, List.set_cons_zero]
  simp [putLE, encB]
theorem num_put_spec (n : Nat) (hn : n < 2 ^ 64) (size : Int) : Spec Try.prog 55 [.int .u64 n, .int .i64 size] (.str (putLE n (min size.toNat 8))) := by
  refine spec_ok Try.func55 rfl rfl (by kernel_rfl) (k := 2) rfl (by decide) ?_
  repeat' (first | (with_reducible first | refine ok_seq ?_ | refine xs1 ?_ | refine xs2 ?_ | refine xs3 ?_ | refine xb1 ?_ | refine xb2 ?_ | refine xb3 (by decide) ?_ | refine xb4 ?_ | refine xl2 ?_ | refine xl3 ?_ | refine xc2 ?_ | refine xc3 ?_ | refine ok_block ?_ | refine ok_scope ?_ | refine ok_skip ?_ | refine ok_label ?_ | refine ok_exit ?_ | refine ok_ret ?_ | refine ok_region (fun M hM => ?_) | refine vif_t ?_ | refine vif_f ?_ | refine fin_normal ?_ | refine fin_ret ?_ | (refine hM _ ?_; clear hM M)) | ((with_reducible refine nls_q ?_) <;> (first | rfl | assumption | (simp only [znl]; (first | done | fail)))) | (with_reducible refine ok_cond (by (simp only [↓reduceIte,zlk,Nat.reduceEqDiff,reduceCtorEq]); exact rfl) ?_) | ((with_reducible first | refine vif_intro (fun hc => ?_) (fun hc => ?_) | refine vifW_intro (fun hc => ?_) (fun hc => ?_)) <;> (try simp (disch := omega) only [zhb] at hc) <;> (try (exfalso; omega)) <;> (try subst hc)) | (with_reducible refine cndW_intro (by omega) ?_) | (simp (config := { maxSteps := 400000 }) only [↓zvs_pre,↓reduceIte,zvs,reduceCtorEq,Nat.reduceEqDiff,Nat.reduceAdd,Nat.reduceLeDiff,Nat.reduceMul,Int.reduceBNe,Int.reduceBEq,Int.reduceEq,Int.reduceNe,Int.reduceLT,Int.reduceLE,Int.reduceGT,Int.reduceGE,Int.reduceNeg,Int.reduceToNat,Nat.reduceLT,Nat.reduceSub,tab,Try.results55,List.toList_toArray]) | (simp (disch := omega) only [ziw]))
  obtain ⟨m, hm⟩ : ∃ m : Nat, m = min size.toNat 8 := ⟨_, rfl⟩
  refine ok_loop (fun k : Nat => ⟨slots [(0, .int .u64 n), (1, .int .i64 m), (4, .str []), (5, .ptr 0 []), (10, .int .i64 m), (11, .int .i64 k)], rows [(0, .row (.arr 8 .cell) (.agg ((putLE n k).map encB ++ List.replicate (8 - k) (.int .u8 0))))], 1⟩)
    (fun k => k ≤ m) (fun k => 8 - k) 0 ?_ (by omega) (fun k hk => ?_)
  · (refine Ren.mk [(0, 0)] false (by first | (intro h; cases h; done) | exact fun _ => rfl) (by first | decide | rfl | (simp [turnOk]; done)) (by decide) ?_ ?_ <;> (repeat' (first | (with_reducible first | refine mr_int (by first | rfl | omega) | refine mr_str rfl | refine mr_bool rfl | refine mr_dat rfl (by first | rfl | assumption | (simp only [znl]; (first | done | fail))) | refine mr_sl ?_ ?_ (by first | rfl | omega) | refine MR.ptr ?_ ?_ | refine mr_raw | refine mr_slnil | refine mr_empty ?_ | refine mr_row rfl (by (simp only [↓reduceIte,zlk,Nat.reduceEqDiff,reduceCtorEq]); exact rfl) ?_ ?_ ?_ (by decide) | refine mr_aggD rfl (by first | rfl | assumption | (simp only [znl]; (first | done | fail))) | refine MR.agg (MRL.cons ?_ ?_) | refine mr_aggD ?_ (by first | rfl | assumption | (simp only [znl]; (first | done | fail))) | refine MR.fn ?_ | refine MRL.cons ?_ ?_ | refine MRL.nil | refine alls_cons ?_ ?_ | refine alls_nil | refine allb_nil | refine allb_cons ?_ (by (simp only [↓reduceIte,zlk,Nat.reduceEqDiff,reduceCtorEq]); exact rfl) ?_ ?_ | refine MB.row ?_ | refine mb_arr ?_ ?_ | refine MR.map ?_ ?_ | refine mb_map rfl (by first | rfl | assumption | (simp only [znl]; (first | done | fail))) | rfl) | (simp only [znl]; (first | done | fail)) | (refine allb_ghost rfl ?_) | exact known_in rfl | exact known_lt rfl | ((with_reducible refine turn_ok ?_) <;> rfl) | (simp only [↓reduceIte,zlk,Nat.reduceEqDiff,reduceCtorEq]) | (with_reducible first | refine mb_map ?_ ?_ | refine mr_sl ?_ ?_ ?_ | refine mr_int ?_ | refine mr_str ?_ | refine mr_bool ?_ | refine mr_dat ?_ (by first | rfl | assumption | (simp only [znl]; (first | done | fail))) | refine mr_aggD ?_ ?_))))
  have hl : ((putLE n k).map encB ++ List.replicate (8 - k) (VV.int .u8 0)).length = 8 := by rw [List.length_append, List.length_map, List.length_replicate, putLE_len]; omega
  by_cases hlt : k < m
  · have hg : ((putLE n k).map encB ++ List.replicate (8 - k) (VV.int .u8 0))[k]? = some (.int .u8 0) := by
      rw [List.getElem?_append_right (by simp [putLE_len]), List.getElem?_replicate, if_pos (by rw [List.length_map, putLE_len]; omega)]
    repeat' (first | (with_reducible first | refine ok_seq ?_ | refine xs1 ?_ | refine xs2 ?_ | refine xs3 ?_ | refine xb1 ?_ | refine xb2 ?_ | refine xb3 (by decide) ?_ | refine xb4 ?_ | refine xl2 ?_ | refine xl3 ?_ | refine xc2 ?_ | refine xc3 ?_ | refine ok_block ?_ | refine ok_scope ?_ | refine ok_skip ?_ | refine ok_label ?_ | refine ok_exit ?_ | refine ok_ret ?_ | refine ok_region (fun M hM => ?_) | refine vif_t ?_ | refine vif_f ?_ | refine fin_normal ?_ | refine fin_ret ?_ | (refine hM _ ?_; clear hM M)) | ((with_reducible refine nls_q ?_) <;> (first | rfl | assumption | (simp only [znl]; (first | done | fail)))) | (with_reducible refine ok_cond (by (simp only [↓reduceIte,zlk,Nat.reduceEqDiff,reduceCtorEq]); exact rfl) ?_) | ((with_reducible first | refine vif_intro (fun hc => ?_) (fun hc => ?_) | refine vifW_intro (fun hc => ?_) (fun hc => ?_)) <;> (try simp (disch := omega) only [zhb] at hc) <;> (try (exfalso; omega)) <;> (try subst hc)) | (with_reducible refine cndW_intro (by omega) ?_) | (simp (config := { maxSteps := 400000 }) only [↓zvs_pre,↓reduceIte,zvs,reduceCtorEq,Nat.reduceEqDiff,Nat.reduceAdd,Nat.reduceLeDiff,Nat.reduceMul,Int.reduceBNe,Int.reduceBEq,Int.reduceEq,Int.reduceNe,Int.reduceLT,Int.reduceLE,Int.reduceGT,Int.reduceGE,Int.reduceNeg,Int.reduceToNat,Nat.reduceLT,Nat.reduceSub,tab,hg]) | (simp (disch := omega) only [ziw]))
    refine xl1 (k + 1) ?_ (by omega) (by show 8 - (k + 1) < 8 - k; omega)
    (refine Ren.mk [(0, 0)] false (by first | (intro h; cases h; done) | exact fun _ => rfl) (by first | decide | rfl | (simp [turnOk]; done)) (by decide) ?_ ?_ <;> (repeat' (first | (with_reducible first | refine mr_int (by first | rfl | omega) | refine mr_str rfl | refine mr_bool rfl | refine mr_dat rfl (by first | rfl | assumption | (simp only [znl]; (first | done | fail))) | refine mr_sl ?_ ?_ (by first | rfl | omega) | refine MR.ptr ?_ ?_ | refine mr_raw | refine mr_slnil | refine mr_empty ?_ | refine mr_row rfl (by (simp only [↓reduceIte,zlk,Nat.reduceEqDiff,reduceCtorEq]); exact rfl) ?_ ?_ ?_ (by decide) | refine mr_aggD rfl (by first | rfl | assumption | (simp only [znl]; (first | done | fail))) | refine MR.agg (MRL.cons ?_ ?_) | refine mr_aggD ?_ (by first | rfl | assumption | (simp only [znl]; (first | done | fail))) | refine MR.fn ?_ | refine MRL.cons ?_ ?_ | refine MRL.nil | refine alls_cons ?_ ?_ | refine alls_nil | refine allb_nil | refine allb_cons ?_ (by (simp only [↓reduceIte,zlk,Nat.reduceEqDiff,reduceCtorEq]); exact rfl) ?_ ?_ | refine MB.row ?_ | refine mb_arr ?_ ?_ | refine MR.map ?_ ?_ | refine mb_map rfl (by first | rfl | assumption | (simp only [znl]; (first | done | fail))) | rfl) | (simp only [znl]; (first | done | fail)) | (refine allb_ghost rfl ?_) | exact known_in rfl | exact known_lt rfl | ((with_reducible refine turn_ok ?_) <;> rfl) | (simp only [↓reduceIte,zlk,Nat.reduceEqDiff,reduceCtorEq]) | (with_reducible first | refine mb_map ?_ ?_ | refine mr_sl ?_ ?_ ?_ | refine mr_int ?_ | refine mr_str ?_ | refine mr_bool ?_ | refine mr_dat ?_ (by first | rfl | assumption | (simp only [znl]; (first | done | fail))) | refine mr_aggD ?_ ?_))))
    rw [put_step n k (by omega)]
  · have e : k = m := by omega
    subst e
    have hb : bytesOf (((putLE n k).map encB ++ List.replicate (8 - k) (VV.int .u8 0)).take k) = some (putLE n k) := by
      rw [List.take_append_of_le_length (by simp [putLE_len]), List.take_of_length_le (by simp [putLE_len]), bytesOf_enc]
    repeat' (first | (with_reducible first | refine ok_seq ?_ | refine xs1 ?_ | refine xs2 ?_ | refine xs3 ?_ | refine xb1 ?_ | refine xb2 ?_ | refine xb3 (by decide) ?_ | refine xb4 ?_ | refine xl2 ?_ | refine xl3 ?_ | refine xc2 ?_ | refine xc3 ?_ | refine ok_block ?_ | refine ok_scope ?_ | refine ok_skip ?_ | refine ok_label ?_ | refine ok_exit ?_ | refine ok_ret ?_ | refine ok_region (fun M hM => ?_) | refine vif_t ?_ | refine vif_f ?_ | refine fin_normal ?_ | refine fin_ret ?_ | (refine hM _ ?_; clear hM M)) | ((with_reducible refine nls_q ?_) <;> (first | rfl | assumption | (simp only [znl]; (first | done | fail)))) | (with_reducible refine ok_cond (by (simp only [↓reduceIte,zlk,Nat.reduceEqDiff,reduceCtorEq]); exact rfl) ?_) | ((with_reducible first | refine vif_intro (fun hc => ?_) (fun hc => ?_) | refine vifW_intro (fun hc => ?_) (fun hc => ?_)) <;> (try simp (disch := omega) only [zhb] at hc) <;> (try (exfalso; omega)) <;> (try subst hc)) | (with_reducible refine cndW_intro (by omega) ?_) | (simp (config := { maxSteps := 400000 }) only [↓zvs_pre,↓reduceIte,zvs,reduceCtorEq,Nat.reduceEqDiff,Nat.reduceAdd,Nat.reduceLeDiff,Nat.reduceMul,Int.reduceBNe,Int.reduceBEq,Int.reduceEq,Int.reduceNe,Int.reduceLT,Int.reduceLE,Int.reduceGT,Int.reduceGE,Int.reduceNeg,Int.reduceToNat,Nat.reduceLT,Nat.reduceSub,tab,hl,hb]) | (simp (disch := omega) only [ziw]))
    simp only [zrds]
    rw [← hm]
end Go.Proofs.Ytigkgdjghelaoaa.V
