/-
  Parts of the proof of StateFlows: M2, M3, Vshelf, M4, D1, D3, N1, N2, N4, NA, N3.
  Conditions: none.
-/
import Derived.Test.YtlgldkjjbbbapaaWStateFlows05
import Derived.Lib.EndianBits
import Derived.Shelf.Strings.Builder1
import Derived.Shelf.Strings.Builder2
import Derived.Shelf.Strings.BuilderF
import Derived.Shelf.Strings.Prefix
import Derived.Shelf.Bits.Mul64
import Derived.Shelf.Strings.Repeat
import Derived.Test.YtlgldkjjbbbapaaProg
import Derived.Test.YtlgldkjjbbbapaaWStateFlows03
section
/-
  MMU, part 2: numbers as bytes.
-/
set_option linter.unusedVariables false
set_option linter.unusedSimpArgs false
namespace Go.Proofs.Ytlgldkjjbbbapaa.V
open Go
set_option maxRecDepth 100000
set_option maxHeartbeats 1000000
def getLE : List UInt8 → Nat
  | [] => 0
  | b :: l => b.toNat + 256 * getLE l
theorem getLE_lt : ∀ l : List UInt8, getLE l < 256 ^ l.length
  | [] => by simp [getLE]
  | b :: l => by
    have h1 := getLE_lt l
    have h2 := b.toNat_lt
    simp only [getLE,List.length_cons,Nat.pow_succ]
    omega
theorem getLE_snoc : ∀ (l : List UInt8) (b : UInt8), getLE (l ++ [b]) = getLE l + 256 ^ l.length * b.toNat
  | [], b => by simp [getLE]
  | a :: l, b => by
    simp only [List.cons_append,getLE,getLE_snoc l b,List.length_cons,Nat.pow_succ]
    rw [Nat.mul_add, Nat.add_assoc, ← Nat.mul_assoc, Nat.mul_comm 256 (256 ^ l.length)]
theorem take_snoc {α : Type} [Inhabited α] (l : List α) (i : Nat) (h : i < l.length) : l.take (i + 1) = l.take i ++ [l.getD i default] := by
  rw [List.take_succ_eq_append_getElem h]; simp [h]
theorem or_step (l : List UInt8) (b : UInt8) (hl : l.length < 8) : bits .or .u64 (getLE l : Int) (IntKind.u64.wrap (IntKind.u64.wrap (b.toNat : Int) * 2 ^ min (8 * (l.length : Int)).toNat IntKind.u64.bits)) = (getLE (l ++ [b]) : Int) := by
  have h1 := getLE_lt l
  have h2 := b.toNat_lt
  have e1 : IntKind.u64.wrap (b.toNat : Int) = b.toNat := wraps_u64 _ (by omega) (by omega)
  have e2 : min (8 * (l.length : Int)).toNat IntKind.u64.bits = 8 * l.length := by
    have : IntKind.u64.bits = 64 := rfl
    rw [this]; omega
  have e3 : (256 : Nat) ^ l.length = 2 ^ (8 * l.length) := by rw [Nat.pow_mul]
  have e4 : (256 : Nat) ^ l.length * 256 ≤ 2 ^ 64 := by
    have : (256 : Nat) ^ (l.length + 1) ≤ 256 ^ 8 := Nat.pow_le_pow_right (by omega) (by omega)
    rw [Nat.pow_succ] at this
    exact this
  have e5 : b.toNat * 256 ^ l.length < 2 ^ 64 := by
    have : b.toNat * 256 ^ l.length ≤ 255 * 256 ^ l.length := Nat.mul_le_mul_right _ (by omega)
    have : 0 < 256 ^ l.length := Nat.pow_pos (by omega)
    omega
  have e6 : ((b.toNat : Int) * 2 ^ (8 * l.length)) = ((b.toNat * 256 ^ l.length : Nat) : Int) := by rw [e3]; push_cast; rfl
  rw [e1, e2, e6, wraps_u64 _ (by omega) (by exact_mod_cast e5), getLE_snoc]
  have hb := bits_join_low .u64 64 (by decide) (fun n h0 h1 => wraps_u64 n h0 (by simpa using h1)) (8 * l.length) (getLE l : Int) ((b.toNat * 256 ^ l.length : Nat) : Int) (by omega)
    (by rw [e3] at h1; exact_mod_cast h1) (by have : getLE l < 2 ^ 64 := by omega
                                              exact_mod_cast this) (by omega) (by rw [e3]; push_cast; exact Int.mul_emod_left _ _) (by exact_mod_cast e5)
  rw [hb, Nat.mul_comm]
  push_cast
  rfl
theorem num_get_spec (s : List UInt8) (hs : s.length < 2 ^ 62) : Spec Try.prog 120 [.str s] (.int .u64 (getLE (s.take 8))) := by
  refine spec_ok Try.func120 rfl rfl (by kernel_rfl) (k := 1) rfl (by decide) ?_
  repeat' (first | (with_reducible first | refine ju ?_ | refine xs1 ?_ | refine xs2 ?_ | refine xs3 ?_ | refine xb1 ?_ | refine xb2 ?_ | refine xb3 (by decide) ?_ | refine xb4 ?_ | refine xl2 ?_ | refine xl3 ?_ | refine xc2 ?_ | refine xc3 ?_ | refine jn ?_ | refine jo ?_ | refine jp ?_ | refine jq ?_ | refine jr ?_ | refine jt ?_ | refine jk (fun M hM => ?_) | refine vif_t ?_ | refine vif_f ?_ | refine jl ?_ | refine jm ?_ | (refine hM _ ?_; clear hM M)) | ((with_reducible refine je ?_) <;> (first | rfl | assumption | (simp only [znl]; (first | done | fail)))) | (with_reducible refine jf (by (simp only [↓reduceIte,zlk,Nat.reduceEqDiff,reduceCtorEq]); exact rfl) ?_) | ((with_reducible first | refine jg (fun hc => ?_) (fun hc => ?_) | refine jh (fun hc => ?_) (fun hc => ?_)) <;> (try simp (disch := omega) only [zhb] at hc) <;> (try (exfalso; omega)) <;> (try subst hc)) | (with_reducible refine ji (by omega) ?_) | (simp (config := { maxSteps := 400000 }) only [↓jv,↓reduceIte,zvs,reduceCtorEq,Nat.reduceEqDiff,Nat.reduceAdd,Nat.reduceLeDiff,Nat.reduceMul,Int.reduceBNe,Int.reduceBEq,Int.reduceEq,Int.reduceNe,Int.reduceLT,Int.reduceLE,Int.reduceGT,Int.reduceGE,Int.reduceNeg,Int.reduceToNat,Nat.reduceLT,Nat.reduceSub,tab,Try.results120,List.toList_toArray]) | (simp (disch := omega) only [ziw]))
  obtain ⟨b, hb⟩ : ∃ b : Int, b = min (s.length : Int) 8 := ⟨_, rfl⟩
  have hb1 : b ≤ 8 := by omega
  have hb2 : b ≤ s.length := by omega
  have hb3 : 0 ≤ b := by omega
  refine ok_loop (fun k : Nat => ⟨slots [(0, .str s), (2, .int .u64 0), (3, .int .u64 (getLE (s.take k))), (7, .int .i64 b), (8, .int .i64 k)], rows [], 0⟩) (fun k => (k : Int) ≤ b) (fun k => 8 - k) 0 ?_ (by omega) (fun k hk => ?_)
  · (refine Ren.mk [] false (by first | (intro h; cases h; done) | exact fun _ => rfl) (by first | decide | rfl | (simp [jQ]; done)) (by decide) ?_ ?_ <;> (repeat' (first | (with_reducible first | refine jw (by first | rfl | omega) | refine jx rfl | refine jy rfl | refine jz rfl (by first | rfl | assumption | (simp only [znl]; (first | done | fail))) | refine jF ?_ ?_ (by first | rfl | omega) | refine MR.ptr ?_ ?_ | refine jA | refine jB | refine jC ?_ | refine jD rfl (by (simp only [↓reduceIte,zlk,Nat.reduceEqDiff,reduceCtorEq]); exact rfl) ?_ ?_ ?_ (by decide) | refine jE rfl (by first | rfl | assumption | (simp only [znl]; (first | done | fail))) | refine MR.agg (MRL.cons ?_ ?_) | refine jE ?_ (by first | rfl | assumption | (simp only [znl]; (first | done | fail))) | refine MR.fn ?_ | refine MRL.cons ?_ ?_ | refine MRL.nil | refine jG ?_ ?_ | refine jH | refine jI | refine jJ ?_ (by (simp only [↓reduceIte,zlk,Nat.reduceEqDiff,reduceCtorEq]); exact rfl) ?_ ?_ | refine MB.row ?_ | refine jK ?_ ?_ | refine MR.map ?_ ?_ | refine jL rfl (by first | rfl | assumption | (simp only [znl]; (first | done | fail))) | rfl) | (simp only [znl]; (first | done | fail)) | (refine jM rfl ?_) | exact jN rfl | exact jO rfl | ((with_reducible refine jP ?_) <;> rfl) | (simp only [↓reduceIte,zlk,Nat.reduceEqDiff,reduceCtorEq]) | (with_reducible first | refine jL ?_ ?_ | refine jF ?_ ?_ ?_ | refine jw ?_ | refine jx ?_ | refine jy ?_ | refine jz ?_ (by first | rfl | assumption | (simp only [znl]; (first | done | fail))) | refine jE ?_ ?_))))
    rfl
  by_cases hlt : (k : Int) < b
  · repeat' (first | (with_reducible first | refine ju ?_ | refine xs1 ?_ | refine xs2 ?_ | refine xs3 ?_ | refine xb1 ?_ | refine xb2 ?_ | refine xb3 (by decide) ?_ | refine xb4 ?_ | refine xl2 ?_ | refine xl3 ?_ | refine xc2 ?_ | refine xc3 ?_ | refine jn ?_ | refine jo ?_ | refine jp ?_ | refine jq ?_ | refine jr ?_ | refine jt ?_ | refine jk (fun M hM => ?_) | refine vif_t ?_ | refine vif_f ?_ | refine jl ?_ | refine jm ?_ | (refine hM _ ?_; clear hM M)) | ((with_reducible refine je ?_) <;> (first | rfl | assumption | (simp only [znl]; (first | done | fail)))) | (with_reducible refine jf (by (simp only [↓reduceIte,zlk,Nat.reduceEqDiff,reduceCtorEq]); exact rfl) ?_) | ((with_reducible first | refine jg (fun hc => ?_) (fun hc => ?_) | refine jh (fun hc => ?_) (fun hc => ?_)) <;> (try simp (disch := omega) only [zhb] at hc) <;> (try (exfalso; omega)) <;> (try subst hc)) | (with_reducible refine ji (by omega) ?_) | (simp (config := { maxSteps := 400000 }) only [↓jv,↓reduceIte,zvs,reduceCtorEq,Nat.reduceEqDiff,Nat.reduceAdd,Nat.reduceLeDiff,Nat.reduceMul,Int.reduceBNe,Int.reduceBEq,Int.reduceEq,Int.reduceNe,Int.reduceLT,Int.reduceLE,Int.reduceGT,Int.reduceGE,Int.reduceNeg,Int.reduceToNat,Nat.reduceLT,Nat.reduceSub,tab]) | (simp (disch := omega) only [ziw]))
    refine xl1 (k + 1) ?_ ?_ ?_
    · (refine Ren.mk [] false (by first | (intro h; cases h; done) | exact fun _ => rfl) (by first | decide | rfl | (simp [jQ]; done)) (by decide) ?_ ?_ <;> (repeat' (first | (with_reducible first | refine jw (by first | rfl | omega) | refine jx rfl | refine jy rfl | refine jz rfl (by first | rfl | assumption | (simp only [znl]; (first | done | fail))) | refine jF ?_ ?_ (by first | rfl | omega) | refine MR.ptr ?_ ?_ | refine jA | refine jB | refine jC ?_ | refine jD rfl (by (simp only [↓reduceIte,zlk,Nat.reduceEqDiff,reduceCtorEq]); exact rfl) ?_ ?_ ?_ (by decide) | refine jE rfl (by first | rfl | assumption | (simp only [znl]; (first | done | fail))) | refine MR.agg (MRL.cons ?_ ?_) | refine jE ?_ (by first | rfl | assumption | (simp only [znl]; (first | done | fail))) | refine MR.fn ?_ | refine MRL.cons ?_ ?_ | refine MRL.nil | refine jG ?_ ?_ | refine jH | refine jI | refine jJ ?_ (by (simp only [↓reduceIte,zlk,Nat.reduceEqDiff,reduceCtorEq]); exact rfl) ?_ ?_ | refine MB.row ?_ | refine jK ?_ ?_ | refine MR.map ?_ ?_ | refine jL rfl (by first | rfl | assumption | (simp only [znl]; (first | done | fail))) | rfl) | (simp only [znl]; (first | done | fail)) | (refine jM rfl ?_) | exact jN rfl | exact jO rfl | ((with_reducible refine jP ?_) <;> rfl) | (simp only [↓reduceIte,zlk,Nat.reduceEqDiff,reduceCtorEq]) | (with_reducible first | refine jL ?_ ?_ | refine jF ?_ ?_ ?_ | refine jw ?_ | refine jx ?_ | refine jy ?_ | refine jz ?_ (by first | rfl | assumption | (simp only [znl]; (first | done | fail))) | refine jE ?_ ?_))))
      have hk8 : (s.take k).length = k := by rw [List.length_take]; omega
      have := or_step (s.take k) (s.getD k 0) (by omega)
      rw [hk8] at this
      rw [this, take_snoc s k (by omega)]
      rfl
    · show ((k + 1 : Nat) : Int) ≤ b
      omega
    · show 8 - (k + 1) < 8 - k
      omega
  · repeat' (first | (with_reducible first | refine ju ?_ | refine xs1 ?_ | refine xs2 ?_ | refine xs3 ?_ | refine xb1 ?_ | refine xb2 ?_ | refine xb3 (by decide) ?_ | refine xb4 ?_ | refine xl2 ?_ | refine xl3 ?_ | refine xc2 ?_ | refine xc3 ?_ | refine jn ?_ | refine jo ?_ | refine jp ?_ | refine jq ?_ | refine jr ?_ | refine jt ?_ | refine jk (fun M hM => ?_) | refine vif_t ?_ | refine vif_f ?_ | refine jl ?_ | refine jm ?_ | (refine hM _ ?_; clear hM M)) | ((with_reducible refine je ?_) <;> (first | rfl | assumption | (simp only [znl]; (first | done | fail)))) | (with_reducible refine jf (by (simp only [↓reduceIte,zlk,Nat.reduceEqDiff,reduceCtorEq]); exact rfl) ?_) | ((with_reducible first | refine jg (fun hc => ?_) (fun hc => ?_) | refine jh (fun hc => ?_) (fun hc => ?_)) <;> (try simp (disch := omega) only [zhb] at hc) <;> (try (exfalso; omega)) <;> (try subst hc)) | (with_reducible refine ji (by omega) ?_) | (simp (config := { maxSteps := 400000 }) only [↓jv,↓reduceIte,zvs,reduceCtorEq,Nat.reduceEqDiff,Nat.reduceAdd,Nat.reduceLeDiff,Nat.reduceMul,Int.reduceBNe,Int.reduceBEq,Int.reduceEq,Int.reduceNe,Int.reduceLT,Int.reduceLE,Int.reduceGT,Int.reduceGE,Int.reduceNeg,Int.reduceToNat,Nat.reduceLT,Nat.reduceSub,tab]) | (simp (disch := omega) only [ziw]))
    simp only [zrds]
    have e : k = min 8 s.length := by omega
    rw [e]
    congr 2
    by_cases h : s.length ≤ 8
    · rw [Nat.min_eq_right h, List.take_of_length_le (Nat.le_refl _), List.take_of_length_le h]
    · rw [Nat.min_eq_left (by omega)]
def putLE (n : Nat) : Nat → List UInt8
  | 0 => []
  | k + 1 => putLE n k ++ [UInt8.ofNat (n / 256 ^ k)]
theorem putLE_len (n : Nat) : ∀ k, (putLE n k).length = k
  | 0 => rfl
  | k + 1 => by simp [putLE, putLE_len n k]
theorem put_step (n k : Nat) (hk : k < 8) : ((putLE n k).map encB ++ List.replicate (8 - k) (VV.int .u8 0)).set k (.int .u8 (IntKind.u8.wrap ((n : Int).fdiv (2 ^ min (8 * (k : Int)).toNat IntKind.u64.bits)))) = (putLE n (k + 1)).map encB ++ List.replicate (8 - (k + 1)) (VV.int .u8 0) := by
  have e1 : min (8 * (k : Int)).toNat IntKind.u64.bits = 8 * k := by
    have : IntKind.u64.bits = 64 := rfl
    rw [this]; omega
  have e2 : IntKind.u8.wrap ((n : Int).fdiv (2 ^ (8 * k))) = ((UInt8.ofNat (n / 256 ^ k)).toNat : Int) := by
    have e3 : (2 : Int) ^ (8 * k) = ((256 ^ k : Nat) : Int) := by
      rw [show (256 : Nat) = 2 ^ 8 from rfl, ← Nat.pow_mul]; push_cast; rfl
    rw [e3, Int.fdiv_eq_ediv_of_nonneg _ (Int.natCast_nonneg _), IntKind.wrap_u8, UInt8.toNat_ofNat']
    push_cast
    rfl
  have hl : ((putLE n k).map encB).length = k := by simp [putLE_len]
  have e4 : List.replicate (8 - k) (VV.int .u8 0) = VV.int .u8 0 :: List.replicate (8 - (k + 1)) (VV.int .u8 0) := by
    rw [show 8 - k = (8 - (k + 1)) + 1 by omega, List.replicate_succ]
  rw [e1, e2, List.set_append_right _ _ (by omega), hl, e4, Nat.sub_self, List.set_cons_zero]
  simp [putLE, encB]
theorem num_put_spec (n : Nat) (hn : n < 2 ^ 64) (size : Int) : Spec Try.prog 130 [.int .u64 n, .int .i64 size] (.str (putLE n (min size.toNat 8))) := by
  refine spec_ok Try.func130 rfl rfl (by kernel_rfl) (k := 2) rfl (by decide) ?_
  repeat' (first | (with_reducible first | refine ju ?_ | refine xs1 ?_ | refine xs2 ?_ | refine xs3 ?_ | refine xb1 ?_ | refine xb2 ?_ | refine xb3 (by decide) ?_ | refine xb4 ?_ | refine xl2 ?_ | refine xl3 ?_ | refine xc2 ?_ | refine xc3 ?_ | refine jn ?_ | refine jo ?_ | refine jp ?_ | refine jq ?_ | refine jr ?_ | refine jt ?_ | refine jk (fun M hM => ?_) | refine vif_t ?_ | refine vif_f ?_ | refine jl ?_ | refine jm ?_ | (refine hM _ ?_; clear hM M)) | ((with_reducible refine je ?_) <;> (first | rfl | assumption | (simp only [znl]; (first | done | fail)))) | (with_reducible refine jf (by (simp only [↓reduceIte,zlk,Nat.reduceEqDiff,reduceCtorEq]); exact rfl) ?_) | ((with_reducible first | refine jg (fun hc => ?_) (fun hc => ?_) | refine jh (fun hc => ?_) (fun hc => ?_)) <;> (try simp (disch := omega) only [zhb] at hc) <;> (try (exfalso; omega)) <;> (try subst hc)) | (with_reducible refine ji (by omega) ?_) | (simp (config := { maxSteps := 400000 }) only [↓jv,↓reduceIte,zvs,reduceCtorEq,Nat.reduceEqDiff,Nat.reduceAdd,Nat.reduceLeDiff,Nat.reduceMul,Int.reduceBNe,Int.reduceBEq,Int.reduceEq,Int.reduceNe,Int.reduceLT,Int.reduceLE,Int.reduceGT,Int.reduceGE,Int.reduceNeg,Int.reduceToNat,Nat.reduceLT,Nat.reduceSub,tab,Try.results130,List.toList_toArray]) | (simp (disch := omega) only [ziw]))
  obtain ⟨m, hm⟩ : ∃ m : Nat, m = min size.toNat 8 := ⟨_, rfl⟩
  refine ok_loop (fun k : Nat => ⟨slots [(0, .int .u64 n), (1, .int .i64 m), (4, .str []), (5, .ptr 0 []), (10, .int .i64 m), (11, .int .i64 k)], rows [(0, .row (.arr 8 .cell) (.agg ((putLE n k).map encB ++ List.replicate (8 - k) (.int .u8 0))))], 1⟩)
    (fun k => k ≤ m) (fun k => 8 - k) 0 ?_ (by omega) (fun k hk => ?_)
  · (refine Ren.mk [(0, 0)] false (by first | (intro h; cases h; done) | exact fun _ => rfl) (by first | decide | rfl | (simp [jQ]; done)) (by decide) ?_ ?_ <;> (repeat' (first | (with_reducible first | refine jw (by first | rfl | omega) | refine jx rfl | refine jy rfl | refine jz rfl (by first | rfl | assumption | (simp only [znl]; (first | done | fail))) | refine jF ?_ ?_ (by first | rfl | omega) | refine MR.ptr ?_ ?_ | refine jA | refine jB | refine jC ?_ | refine jD rfl (by (simp only [↓reduceIte,zlk,Nat.reduceEqDiff,reduceCtorEq]); exact rfl) ?_ ?_ ?_ (by decide) | refine jE rfl (by first | rfl | assumption | (simp only [znl]; (first | done | fail))) | refine MR.agg (MRL.cons ?_ ?_) | refine jE ?_ (by first | rfl | assumption | (simp only [znl]; (first | done | fail))) | refine MR.fn ?_ | refine MRL.cons ?_ ?_ | refine MRL.nil | refine jG ?_ ?_ | refine jH | refine jI | refine jJ ?_ (by (simp only [↓reduceIte,zlk,Nat.reduceEqDiff,reduceCtorEq]); exact rfl) ?_ ?_ | refine MB.row ?_ | refine jK ?_ ?_ | refine MR.map ?_ ?_ | refine jL rfl (by first | rfl | assumption | (simp only [znl]; (first | done | fail))) | rfl) | (simp only [znl]; (first | done | fail)) | (refine jM rfl ?_) | exact jN rfl | exact jO rfl | ((with_reducible refine jP ?_) <;> rfl) | (simp only [↓reduceIte,zlk,Nat.reduceEqDiff,reduceCtorEq]) | (with_reducible first | refine jL ?_ ?_ | refine jF ?_ ?_ ?_ | refine jw ?_ | refine jx ?_ | refine jy ?_ | refine jz ?_ (by first | rfl | assumption | (simp only [znl]; (first | done | fail))) | refine jE ?_ ?_))))
  have hl : ((putLE n k).map encB ++ List.replicate (8 - k) (VV.int .u8 0)).length = 8 := by rw [List.length_append, List.length_map, List.length_replicate, putLE_len]; omega
  by_cases hlt : k < m
  · have hg : ((putLE n k).map encB ++ List.replicate (8 - k) (VV.int .u8 0))[k]? = some (.int .u8 0) := by
      rw [List.getElem?_append_right (by simp [putLE_len]), List.getElem?_replicate, if_pos (by rw [List.length_map, putLE_len]; omega)]
    repeat' (first | (with_reducible first | refine ju ?_ | refine xs1 ?_ | refine xs2 ?_ | refine xs3 ?_ | refine xb1 ?_ | refine xb2 ?_ | refine xb3 (by decide) ?_ | refine xb4 ?_ | refine xl2 ?_ | refine xl3 ?_ | refine xc2 ?_ | refine xc3 ?_ | refine jn ?_ | refine jo ?_ | refine jp ?_ | refine jq ?_ | refine jr ?_ | refine jt ?_ | refine jk (fun M hM => ?_) | refine vif_t ?_ | refine vif_f ?_ | refine jl ?_ | refine jm ?_ | (refine hM _ ?_; clear hM M)) | ((with_reducible refine je ?_) <;> (first | rfl | assumption | (simp only [znl]; (first | done | fail)))) | (with_reducible refine jf (by (simp only [↓reduceIte,zlk,Nat.reduceEqDiff,reduceCtorEq]); exact rfl) ?_) | ((with_reducible first | refine jg (fun hc => ?_) (fun hc => ?_) | refine jh (fun hc => ?_) (fun hc => ?_)) <;> (try simp (disch := omega) only [zhb] at hc) <;> (try (exfalso; omega)) <;> (try subst hc)) | (with_reducible refine ji (by omega) ?_) | (simp (config := { maxSteps := 400000 }) only [↓jv,↓reduceIte,zvs,reduceCtorEq,Nat.reduceEqDiff,Nat.reduceAdd,Nat.reduceLeDiff,Nat.reduceMul,Int.reduceBNe,Int.reduceBEq,Int.reduceEq,Int.reduceNe,Int.reduceLT,Int.reduceLE,Int.reduceGT,Int.reduceGE,Int.reduceNeg,Int.reduceToNat,Nat.reduceLT,Nat.reduceSub,tab,hg]) | (simp (disch := omega) only [ziw]))
    refine xl1 (k + 1) ?_ (by omega) (by show 8 - (k + 1) < 8 - k; omega)
    (refine Ren.mk [(0, 0)] false (by first | (intro h; cases h; done) | exact fun _ => rfl) (by first | decide | rfl | (simp [jQ]; done)) (by decide) ?_ ?_ <;> (repeat' (first | (with_reducible first | refine jw (by first | rfl | omega) | refine jx rfl | refine jy rfl | refine jz rfl (by first | rfl | assumption | (simp only [znl]; (first | done | fail))) | refine jF ?_ ?_ (by first | rfl | omega) | refine MR.ptr ?_ ?_ | refine jA | refine jB | refine jC ?_ | refine jD rfl (by (simp only [↓reduceIte,zlk,Nat.reduceEqDiff,reduceCtorEq]); exact rfl) ?_ ?_ ?_ (by decide) | refine jE rfl (by first | rfl | assumption | (simp only [znl]; (first | done | fail))) | refine MR.agg (MRL.cons ?_ ?_) | refine jE ?_ (by first | rfl | assumption | (simp only [znl]; (first | done | fail))) | refine MR.fn ?_ | refine MRL.cons ?_ ?_ | refine MRL.nil | refine jG ?_ ?_ | refine jH | refine jI | refine jJ ?_ (by (simp only [↓reduceIte,zlk,Nat.reduceEqDiff,reduceCtorEq]); exact rfl) ?_ ?_ | refine MB.row ?_ | refine jK ?_ ?_ | refine MR.map ?_ ?_ | refine jL rfl (by first | rfl | assumption | (simp only [znl]; (first | done | fail))) | rfl) | (simp only [znl]; (first | done | fail)) | (refine jM rfl ?_) | exact jN rfl | exact jO rfl | ((with_reducible refine jP ?_) <;> rfl) | (simp only [↓reduceIte,zlk,Nat.reduceEqDiff,reduceCtorEq]) | (with_reducible first | refine jL ?_ ?_ | refine jF ?_ ?_ ?_ | refine jw ?_ | refine jx ?_ | refine jy ?_ | refine jz ?_ (by first | rfl | assumption | (simp only [znl]; (first | done | fail))) | refine jE ?_ ?_))))
    rw [put_step n k (by omega)]
  · have e : k = m := by omega
    subst e
    have hb : bytesOf (((putLE n k).map encB ++ List.replicate (8 - k) (VV.int .u8 0)).take k) = some (putLE n k) := by
      rw [List.take_append_of_le_length (by simp [putLE_len]), List.take_of_length_le (by simp [putLE_len]), bytesOf_enc]
    repeat' (first | (with_reducible first | refine ju ?_ | refine xs1 ?_ | refine xs2 ?_ | refine xs3 ?_ | refine xb1 ?_ | refine xb2 ?_ | refine xb3 (by decide) ?_ | refine xb4 ?_ | refine xl2 ?_ | refine xl3 ?_ | refine xc2 ?_ | refine xc3 ?_ | refine jn ?_ | refine jo ?_ | refine jp ?_ | refine jq ?_ | refine jr ?_ | refine jt ?_ | refine jk (fun M hM => ?_) | refine vif_t ?_ | refine vif_f ?_ | refine jl ?_ | refine jm ?_ | (refine hM _ ?_; clear hM M)) | ((with_reducible refine je ?_) <;> (first | rfl | assumption | (simp only [znl]; (first | done | fail)))) | (with_reducible refine jf (by (simp only [↓reduceIte,zlk,Nat.reduceEqDiff,reduceCtorEq]); exact rfl) ?_) | ((with_reducible first | refine jg (fun hc => ?_) (fun hc => ?_) | refine jh (fun hc => ?_) (fun hc => ?_)) <;> (try simp (disch := omega) only [zhb] at hc) <;> (try (exfalso; omega)) <;> (try subst hc)) | (with_reducible refine ji (by omega) ?_) | (simp (config := { maxSteps := 400000 }) only [↓jv,↓reduceIte,zvs,reduceCtorEq,Nat.reduceEqDiff,Nat.reduceAdd,Nat.reduceLeDiff,Nat.reduceMul,Int.reduceBNe,Int.reduceBEq,Int.reduceEq,Int.reduceNe,Int.reduceLT,Int.reduceLE,Int.reduceGT,Int.reduceGE,Int.reduceNeg,Int.reduceToNat,Nat.reduceLT,Nat.reduceSub,tab,hl,hb]) | (simp (disch := omega) only [ziw]))
    simp only [zrds]
    rw [← hm]
end Go.Proofs.Ytlgldkjjbbbapaa.V
end
section
/-
  MMU, part 3: frames; a byte, a number of memory.
-/
set_option linter.unusedVariables false
set_option linter.unusedSimpArgs false
namespace Go.Proofs.Ytlgldkjjbbbapaa.V
open Go
set_option maxRecDepth 100000
-- nlx: jU
set_option maxHeartbeats 1000000
abbrev Frames := List (List UInt8)
def fits (l : Frames) : Prop := l.length < 2 ^ 36 ∧ ∀ s ∈ l, s.length < 2 ^ 36
end Go.Proofs.Ytlgldkjjbbbapaa.V
end
section
/-
  DERIVED: THE SHELF's CONTRACTS AT THIS DUMP, IN PLAIN WORDS (tools/lay-plain.mjs out of 'TryShelf.lean', which tools/lay-shelf.mjs wrote): THE SAME DECLARATIONS UNDER THE SAME NAMES: 'import', 'namespace', 'open', 'def', 'theorem' AND NOTHING ELSE: no command of the shelf's: FOR A HAND-IN. Each laying: the table of numbers ('.._ren') and one theorem, a field a fact of the dump's own or the kernel's comparison; each contract: ONE APPLICATION.
-/
namespace Go.Proofs
open Go.Shelf
def Try.lays170_ren : Go.Shelf.Ren := ⟨fun | 170 => 60 | n => n, fun | 70 => 90 | 3 => 3 | 0 => 0 | 72 => 92 | 37 => 60 | 5 => 5 | n => n, fun | n => n⟩
theorem Try.lays170 : Go.Proofs.Lays.n170 Try.prog Try.lays170_ren := {
  mixed := by kernel_rfl
  f170 := Try.func60.trans (congrArg some (by kernel_rfl))
  t0 := Try.underlying0
  a0 := Try.isAgg0
  z0 := Try.sizeOf0
  v0 := Try.zeroValue0
  t3 := Try.underlying3
  a3 := Try.isAgg3
  z3 := Try.sizeOf3
  v3 := Try.zeroValue3
  t37 := Try.underlying60
  a37 := Try.isAgg60
  z37 := Try.sizeOf60
  v37 := Try.zeroValue60
  t70 := Try.underlying90
  a70 := Try.isAgg90
  z70 := Try.sizeOf90
  v70 := Try.zeroValue90
  t72 := Try.underlying92
  a72 := Try.isAgg92
  z72 := Try.sizeOf92
  v72 := Try.zeroValue92 }
open Go.RowKit in
theorem Try.Builder_Len (B b : Nat) (bs : List Value) (w : World) (h : Lib.IsBuilder 92 5 B b bs w) :
    Calls Try.prog 60 #[.pointer (some ⟨b, 0, none⟩)] w fun e w' => e = .returned (.int .i64 bs.length) ∧ w' = w := Any.Builder_Len Try.lays170 B b bs w h
def Try.lays169_ren : Go.Shelf.Ren := ⟨fun | 169 => 61 | n => n, fun | 70 => 90 | 9 => 9 | 0 => 0 | 72 => 92 | 37 => 60 | 127 => 133 | 3 => 3 | 5 => 5 | n => n, fun | n => n⟩
theorem Try.lays169 : Go.Proofs.Lays.n169 Try.prog Try.lays169_ren := {
  mixed := by kernel_rfl
  f169 := Try.func61.trans (congrArg some (by kernel_rfl))
  t0 := Try.underlying0
  a0 := Try.isAgg0
  z0 := Try.sizeOf0
  v0 := Try.zeroValue0
  t3 := Try.underlying3
  a3 := Try.isAgg3
  z3 := Try.sizeOf3
  v3 := Try.zeroValue3
  t9 := Try.underlying9
  a9 := Try.isAgg9
  z9 := Try.sizeOf9
  v9 := Try.zeroValue9
  t37 := Try.underlying60
  a37 := Try.isAgg60
  z37 := Try.sizeOf60
  v37 := Try.zeroValue60
  t70 := Try.underlying90
  a70 := Try.isAgg90
  z70 := Try.sizeOf90
  v70 := Try.zeroValue90
  t72 := Try.underlying92
  a72 := Try.isAgg92
  z72 := Try.sizeOf92
  v72 := Try.zeroValue92
  t127 := Try.underlying133
  a127 := Try.isAgg133
  z127 := Try.sizeOf133
  v127 := Try.zeroValue133 }
theorem Try.Builder_Extra_169 : Builder.Extra Try.prog Try.lays169_ren := {
  sizeBuilder := by kernel_rfl
  liesBuilder := by kernel_rfl
  t5 := Try.underlying5
  a5 := Try.isAgg5
  z5 := Try.sizeOf5
  v5 := Try.zeroValue5
  infoByte := by kernel_rfl
  cellsByte := by kernel_rfl
  sizeByte := by kernel_rfl
  neB5 := by decide }
open Go.RowKit in
theorem Try.Builder_String (B b : Nat) (l : List UInt8) (w : World) (h : Lib.IsBuilder 92 5 B b (Lib.byteCells l) w) (h0 : l ≠ []) :
    Calls Try.prog 61 #[.pointer (some ⟨b, 0, none⟩)] w fun e w' => e = .returned (.string ⟨l.toArray⟩) ∧ Below B w w' := Any.Builder_String Try.lays169 Try.Builder_Extra_169 B b l w h h0
open Go.RowKit in
theorem Try.Builder_String_empty (B b : Nat) (w : World) (h : Lib.IsBuilder 92 5 B b [] w) (hBw : B ≤ w.heap.size) :
    Calls Try.prog 61 #[.pointer (some ⟨b, 0, none⟩)] w fun e w' => e = .returned (.string ⟨#[]⟩) ∧ Below B w w' := Any.Builder_String_empty Try.lays169 Try.Builder_Extra_169 B b w h hBw
open Go.RowKit in
theorem Try.Builder_String_any (B b : Nat) (l : List UInt8) (w : World) (h : Lib.IsBuilder 92 5 B b (Lib.byteCells l) w) (hBw : B ≤ w.heap.size) :
    Calls Try.prog 61 #[.pointer (some ⟨b, 0, none⟩)] w fun e w' => e = .returned (.string ⟨l.toArray⟩) ∧ Below B w w' := Any.Builder_String_any Try.lays169 Try.Builder_Extra_169 B b l w h hBw
def Try.lays241_ren : Go.Shelf.Ren := ⟨fun | 241 => 93 | 277 => 124 | n => n, fun | 70 => 90 | 3 => 3 | 0 => 0 | 72 => 92 | 37 => 60 | 5 => 5 | n => n, fun | n => n⟩
theorem Try.lays241 : Go.Proofs.Lays.n241 Try.prog Try.lays241_ren := {
  mixed := by kernel_rfl
  f241 := Try.func93.trans (congrArg some (by kernel_rfl))
  f277 := Try.func124.trans (congrArg some (by kernel_rfl))
  t0 := Try.underlying0
  a0 := Try.isAgg0
  z0 := Try.sizeOf0
  v0 := Try.zeroValue0
  t3 := Try.underlying3
  a3 := Try.isAgg3
  z3 := Try.sizeOf3
  v3 := Try.zeroValue3
  t37 := Try.underlying60
  a37 := Try.isAgg60
  z37 := Try.sizeOf60
  v37 := Try.zeroValue60
  t70 := Try.underlying90
  a70 := Try.isAgg90
  z70 := Try.sizeOf90
  v70 := Try.zeroValue90
  t72 := Try.underlying92
  a72 := Try.isAgg92
  z72 := Try.sizeOf92
  v72 := Try.zeroValue92 }
theorem Try.Builder_Extra_241 : Builder.Extra Try.prog Try.lays241_ren := {
  sizeBuilder := by kernel_rfl
  liesBuilder := by kernel_rfl
  t5 := Try.underlying5
  a5 := Try.isAgg5
  z5 := Try.sizeOf5
  v5 := Try.zeroValue5
  infoByte := by kernel_rfl
  cellsByte := by kernel_rfl
  sizeByte := by kernel_rfl
  neB5 := by decide }
open Go.RowKit in
theorem Try.Builder_grow_fresh (B b n : Nat) (w : World) (hB : B ≤ b) (hbk : w.heap[b]? = some (.cells #[.pointer (some ⟨b, 0, none⟩), .slice none 0 0] 92 (0, 0))) (hBw : B ≤ w.heap.size) (hn : n ≤ 281474976710656) :
    Calls Try.prog 93 #[.pointer (some ⟨b, 0, none⟩), .int .i64 n] w fun e w' => e = .returned (.tuple #[]) ∧ (Lib.BuilderAt 92 5 B b (.pointer (some ⟨b, 0, none⟩)) [] w' ∧ Below B w w') := Any.Builder_grow_fresh Try.lays241 Try.Builder_Extra_241 B b n w hB hbk hBw hn
def Try.lays165_ren : Go.Shelf.Ren := ⟨fun | 165 => 58 | 240 => 92 | 241 => 93 | 276 => 123 | 277 => 124 | n => n, fun | 70 => 90 | 3 => 3 | 0 => 0 | 4 => 4 | 9 => 9 | 20 => 20 | 72 => 92 | 37 => 60 | 164 => 144 | 5 => 5 | n => n, fun | n => n⟩
theorem Try.lays165 : Go.Proofs.Lays.n165 Try.prog Try.lays165_ren := {
  mixed := by kernel_rfl
  f165 := Try.func58.trans (congrArg some (by kernel_rfl))
  f240 := Try.func92.trans (congrArg some (by kernel_rfl))
  f241 := Try.func93.trans (congrArg some (by kernel_rfl))
  f276 := Try.func123.trans (congrArg some (by kernel_rfl))
  f277 := Try.func124.trans (congrArg some (by kernel_rfl))
  t0 := Try.underlying0
  a0 := Try.isAgg0
  z0 := Try.sizeOf0
  v0 := Try.zeroValue0
  t3 := Try.underlying3
  a3 := Try.isAgg3
  z3 := Try.sizeOf3
  v3 := Try.zeroValue3
  t4 := Try.underlying4
  a4 := Try.isAgg4
  z4 := Try.sizeOf4
  v4 := Try.zeroValue4
  t9 := Try.underlying9
  a9 := Try.isAgg9
  z9 := Try.sizeOf9
  v9 := Try.zeroValue9
  t20 := Try.underlying20
  a20 := Try.isAgg20
  z20 := Try.sizeOf20
  v20 := Try.zeroValue20
  t37 := Try.underlying60
  a37 := Try.isAgg60
  z37 := Try.sizeOf60
  v37 := Try.zeroValue60
  t70 := Try.underlying90
  a70 := Try.isAgg90
  z70 := Try.sizeOf90
  v70 := Try.zeroValue90
  t72 := Try.underlying92
  a72 := Try.isAgg92
  z72 := Try.sizeOf92
  v72 := Try.zeroValue92
  t164 := Try.underlying144
  a164 := Try.isAgg144
  z164 := Try.sizeOf144
  v164 := Try.zeroValue144 }
theorem Try.Builder_Extra_165 : Builder.Extra Try.prog Try.lays165_ren := {
  sizeBuilder := by kernel_rfl
  liesBuilder := by kernel_rfl
  t5 := Try.underlying5
  a5 := Try.isAgg5
  z5 := Try.sizeOf5
  v5 := Try.zeroValue5
  infoByte := by kernel_rfl
  cellsByte := by kernel_rfl
  sizeByte := by kernel_rfl
  neB5 := by decide }
open Go.RowKit in
theorem Try.Builder_Grow_fresh (B b n : Nat) (w : World) (hB : B ≤ b) (hbk : w.heap[b]? = some (.cells #[.pointer none, .slice none 0 0] 92 (0, 0))) (hBw : B ≤ w.heap.size) (hn : n ≤ 281474976710656) :
    Calls Try.prog 58 #[.pointer (some ⟨b, 0, none⟩), .int .i64 n] w fun e w' => e = .returned (.tuple #[]) ∧ (Lib.BuilderAt 92 5 B b (.pointer (some ⟨b, 0, none⟩)) [] w' ∧ Below B w w') := Any.Builder_Grow_fresh Try.lays165 Try.Builder_Extra_165 B b n w hB hbk hBw hn
open Go.RowKit in
theorem Try.Builder_Len_f (B b : Nat) (bs : List Value) (w : World) (h : Lib.IsBuilderF 92 5 B b bs w) :
    Calls Try.prog 60 #[.pointer (some ⟨b, 0, none⟩)] w fun e w' => e = .returned (.int .i64 bs.length) ∧ w' = w := Any.Builder_Len_f Try.lays170 B b bs w h
open Go.RowKit in
theorem Try.Builder_String_f (B b : Nat) (l : List UInt8) (w : World) (h : Lib.IsBuilderF 92 5 B b (Lib.byteCells l) w) (h0 : l ≠ []) :
    Calls Try.prog 61 #[.pointer (some ⟨b, 0, none⟩)] w fun e w' => e = .returned (.string ⟨l.toArray⟩) ∧ (Lib.IsBuilderF 92 5 B b (Lib.byteCells l) w' ∧ Below B w w') := Any.Builder_String_f Try.lays169 Try.Builder_Extra_169 B b l w h h0
open Go.RowKit in
theorem Try.Builder_String_empty_f (B b : Nat) (w : World) (h : Lib.IsBuilderF 92 5 B b [] w) (hBw : B ≤ w.heap.size) :
    Calls Try.prog 61 #[.pointer (some ⟨b, 0, none⟩)] w fun e w' => e = .returned (.string ⟨#[]⟩) ∧ (Lib.IsBuilderF 92 5 B b [] w' ∧ Below B w w') := Any.Builder_String_empty_f Try.lays169 Try.Builder_Extra_169 B b w h hBw
open Go.RowKit in
theorem Try.Builder_String_any_f (B b : Nat) (l : List UInt8) (w : World) (h : Lib.IsBuilderF 92 5 B b (Lib.byteCells l) w) (hBw : B ≤ w.heap.size) :
    Calls Try.prog 61 #[.pointer (some ⟨b, 0, none⟩)] w fun e w' => e = .returned (.string ⟨l.toArray⟩) ∧ (Lib.IsBuilderF 92 5 B b (Lib.byteCells l) w' ∧ Below B w w') := Any.Builder_String_any_f Try.lays169 Try.Builder_Extra_169 B b l w h hBw
def Try.lays206_ren : Go.Shelf.Ren := ⟨fun | 206 => 91 | n => n, fun | 9 => 9 | 4 => 4 | 3 => 3 | n => n, fun | n => n⟩
theorem Try.lays206 : Go.Proofs.Lays.n206 Try.prog Try.lays206_ren := {
  mixed := by kernel_rfl
  f206 := Try.func91.trans (congrArg some (by kernel_rfl))
  t3 := Try.underlying3
  a3 := Try.isAgg3
  z3 := Try.sizeOf3
  v3 := Try.zeroValue3
  t4 := Try.underlying4
  a4 := Try.isAgg4
  z4 := Try.sizeOf4
  v4 := Try.zeroValue4
  t9 := Try.underlying9
  a9 := Try.isAgg9
  z9 := Try.sizeOf9
  v9 := Try.zeroValue9 }
open Go.RowKit Go.Lib in
theorem Try.stringslite_HasPrefix (s p : ByteArray) (w : World) :
    Calls Try.prog 91 #[.string s, .string p] w fun e w' => e = .returned (.bool (Lib.hasPrefix s.data.toList p.data.toList)) ∧ w' = w := Any.stringslite_HasPrefix Try.lays206 s p w
def Try.lays99_ren : Go.Shelf.Ren := ⟨fun | 99 => 57 | 206 => 91 | n => n, fun | 9 => 9 | 4 => 4 | 3 => 3 | n => n, fun | n => n⟩
theorem Try.lays99 : Go.Proofs.Lays.n99 Try.prog Try.lays99_ren := {
  mixed := by kernel_rfl
  f99 := Try.func57.trans (congrArg some (by kernel_rfl))
  f206 := Try.func91.trans (congrArg some (by kernel_rfl))
  t3 := Try.underlying3
  a3 := Try.isAgg3
  z3 := Try.sizeOf3
  v3 := Try.zeroValue3
  t4 := Try.underlying4
  a4 := Try.isAgg4
  z4 := Try.sizeOf4
  v4 := Try.zeroValue4
  t9 := Try.underlying9
  a9 := Try.isAgg9
  z9 := Try.sizeOf9
  v9 := Try.zeroValue9 }
open Go.RowKit Go.Lib in
theorem Try.strings_HasPrefix (s p : ByteArray) (w : World) :
    Calls Try.prog 57 #[.string s, .string p] w fun e w' => e = .returned (.bool (Lib.hasPrefix s.data.toList p.data.toList)) ∧ w' = w := Any.strings_HasPrefix Try.lays99 s p w
def Try.lays264_ren : Go.Shelf.Ren := ⟨fun | 264 => 90 | n => n, fun | 53 => 22 | 46 => 86 | n => n, fun | n => n⟩
theorem Try.lays264 : Go.Proofs.Lays.n264 Try.prog Try.lays264_ren := {
  mixed := by kernel_rfl
  f264 := Try.func90.trans (congrArg some (by kernel_rfl))
  t46 := Try.underlying86
  a46 := Try.isAgg86
  z46 := Try.sizeOf86
  v46 := Try.zeroValue86
  t53 := Try.underlying22
  a53 := Try.isAgg22
  z53 := Try.sizeOf22
  v53 := Try.zeroValue22 }
open Go.RowKit Go.Lib in
theorem Try.bits_Mul64 (x y : Nat) (hx : x < 18446744073709551616) (hy : y < 18446744073709551616) (w : World) :
    Calls Try.prog 90 #[.int .u64 x, .int .u64 y] w fun e w' => e = .returned (.tuple #[.int .u64 ((x * y / 18446744073709551616 : Nat) : Int), .int .u64 ((x * y % 18446744073709551616 : Nat) : Int)]) ∧ w' = w := Any.bits_Mul64 Try.lays264 x y hx hy w
def Try.lays212_ren : Go.Shelf.Ren := ⟨fun | 212 => 56 | 263 => 89 | 264 => 90 | n => n, fun | 46 => 86 | 51 => 35 | 146 => 129 | 53 => 22 | 148 => 131 | n => n, fun | n => n⟩
theorem Try.lays212 : Go.Proofs.Lays.n212 Try.prog Try.lays212_ren := {
  mixed := by kernel_rfl
  f212 := Try.func56.trans (congrArg some (by kernel_rfl))
  f263 := Try.func89.trans (congrArg some (by kernel_rfl))
  f264 := Try.func90.trans (congrArg some (by kernel_rfl))
  t46 := Try.underlying86
  a46 := Try.isAgg86
  z46 := Try.sizeOf86
  v46 := Try.zeroValue86
  t51 := Try.underlying35
  a51 := Try.isAgg35
  z51 := Try.sizeOf35
  v51 := Try.zeroValue35
  t53 := Try.underlying22
  a53 := Try.isAgg22
  z53 := Try.sizeOf22
  v53 := Try.zeroValue22
  t146 := Try.underlying129
  a146 := Try.isAgg129
  z146 := Try.sizeOf129
  v146 := Try.zeroValue129
  t148 := Try.underlying131
  a148 := Try.isAgg131
  z148 := Try.sizeOf131
  v148 := Try.zeroValue131 }
open Go.RowKit Go.Lib in
theorem Try.bits_Mul (x y : Nat) (hx : x < 18446744073709551616) (hy : y < 18446744073709551616) (w : World) :
    Calls Try.prog 56 #[.int .u64 x, .int .u64 y] w fun e w' => e = .returned (.tuple #[.int .u64 ((x * y / 18446744073709551616 : Nat) : Int), .int .u64 ((x * y % 18446744073709551616 : Nat) : Int)]) ∧ w' = w := Any.bits_Mul Try.lays212 x y hx hy w
def Try.lays105_ren : Go.Shelf.Ren := ⟨fun | 105 => 27 | 212 => 56 | 99 => 57 | 165 => 58 | 166 => 59 | 170 => 60 | 169 => 61 | 263 => 89 | 264 => 90 | 206 => 91 | 240 => 92 | 241 => 93 | 276 => 123 | 277 => 124 | n => n, fun | 9 => 9 | 3 => 3 | 4 => 4 | 20 => 20 | 0 => 0 | 46 => 86 | 109 => 87 | 5 => 5 | 72 => 92 | 76 => 96 | 51 => 35 | 146 => 129 | 53 => 22 | 148 => 131 | 70 => 90 | 37 => 60 | 75 => 95 | 127 => 133 | 164 => 144 | 80 => 99 | n => n, fun | n => n⟩
theorem Try.lays105 : Go.Proofs.Lays.n105 Try.prog Try.lays105_ren := {
  mixed := by kernel_rfl
  f99 := Try.func57.trans (congrArg some (by kernel_rfl))
  f105 := Try.func27.trans (congrArg some (by kernel_rfl))
  f165 := Try.func58.trans (congrArg some (by kernel_rfl))
  f166 := Try.func59.trans (congrArg some (by kernel_rfl))
  f169 := Try.func61.trans (congrArg some (by kernel_rfl))
  f170 := Try.func60.trans (congrArg some (by kernel_rfl))
  f206 := Try.func91.trans (congrArg some (by kernel_rfl))
  f212 := Try.func56.trans (congrArg some (by kernel_rfl))
  f240 := Try.func92.trans (congrArg some (by kernel_rfl))
  f241 := Try.func93.trans (congrArg some (by kernel_rfl))
  f263 := Try.func89.trans (congrArg some (by kernel_rfl))
  f264 := Try.func90.trans (congrArg some (by kernel_rfl))
  f276 := Try.func123.trans (congrArg some (by kernel_rfl))
  f277 := Try.func124.trans (congrArg some (by kernel_rfl))
  t0 := Try.underlying0
  a0 := Try.isAgg0
  z0 := Try.sizeOf0
  v0 := Try.zeroValue0
  t3 := Try.underlying3
  a3 := Try.isAgg3
  z3 := Try.sizeOf3
  v3 := Try.zeroValue3
  t4 := Try.underlying4
  a4 := Try.isAgg4
  z4 := Try.sizeOf4
  v4 := Try.zeroValue4
  t5 := Try.underlying5
  a5 := Try.isAgg5
  z5 := Try.sizeOf5
  v5 := Try.zeroValue5
  t9 := Try.underlying9
  a9 := Try.isAgg9
  z9 := Try.sizeOf9
  v9 := Try.zeroValue9
  t20 := Try.underlying20
  a20 := Try.isAgg20
  z20 := Try.sizeOf20
  v20 := Try.zeroValue20
  t37 := Try.underlying60
  a37 := Try.isAgg60
  z37 := Try.sizeOf60
  v37 := Try.zeroValue60
  t46 := Try.underlying86
  a46 := Try.isAgg86
  z46 := Try.sizeOf86
  v46 := Try.zeroValue86
  t51 := Try.underlying35
  a51 := Try.isAgg35
  z51 := Try.sizeOf35
  v51 := Try.zeroValue35
  t53 := Try.underlying22
  a53 := Try.isAgg22
  z53 := Try.sizeOf22
  v53 := Try.zeroValue22
  t70 := Try.underlying90
  a70 := Try.isAgg90
  z70 := Try.sizeOf90
  v70 := Try.zeroValue90
  t72 := Try.underlying92
  a72 := Try.isAgg92
  z72 := Try.sizeOf92
  v72 := Try.zeroValue92
  t75 := Try.underlying95
  a75 := Try.isAgg95
  z75 := Try.sizeOf95
  v75 := Try.zeroValue95
  t76 := Try.underlying96
  a76 := Try.isAgg96
  z76 := Try.sizeOf96
  v76 := Try.zeroValue96
  t109 := Try.underlying87
  a109 := Try.isAgg87
  z109 := Try.sizeOf87
  v109 := Try.zeroValue87
  t127 := Try.underlying133
  a127 := Try.isAgg133
  z127 := Try.sizeOf133
  v127 := Try.zeroValue133
  t146 := Try.underlying129
  a146 := Try.isAgg129
  z146 := Try.sizeOf129
  v146 := Try.zeroValue129
  t148 := Try.underlying131
  a148 := Try.isAgg131
  z148 := Try.sizeOf131
  v148 := Try.zeroValue131
  t164 := Try.underlying144
  a164 := Try.isAgg144
  z164 := Try.sizeOf144
  v164 := Try.zeroValue144 }
theorem Try.Builder_Extra_105 : Builder.Extra Try.prog Try.lays105_ren := {
  sizeBuilder := by kernel_rfl
  liesBuilder := by kernel_rfl
  t5 := Try.underlying5
  a5 := Try.isAgg5
  z5 := Try.sizeOf5
  v5 := Try.zeroValue5
  infoByte := by kernel_rfl
  cellsByte := by kernel_rfl
  sizeByte := by kernel_rfl
  neB5 := by decide }
open Go.RowKit Go.Lib in
theorem Try.strings_Repeat_main (s : ByteArray) (c : Nat) (w : World) (hc2 : 2 ≤ c) (hc : c ≤ 9223372036854775807) (hlen : s.size * c ≤ 140737488355328) (h0 : 0 < s.size) :
    Calls Try.prog 27 #[.string s, .int .i64 c] w fun e w' => e = .returned (.string ⟨(Lib.repeatL s.data.toList c).toArray⟩) ∧ Below w.heap.size w w' := Any.strings_Repeat_main Try.lays105 Try.Builder_Extra_105 s c w hc2 hc hlen h0
open Go.RowKit Go.Lib in
theorem Try.strings_Repeat_zero (s : ByteArray) (w : World) :
    Calls Try.prog 27 #[.string s, .int .i64 0] w fun e w' => e = .returned (.string ⟨#[]⟩) ∧ w' = w := Any.strings_Repeat_zero Try.lays105 s w
open Go.RowKit Go.Lib in
theorem Try.strings_Repeat_one (s : ByteArray) (w : World) :
    Calls Try.prog 27 #[.string s, .int .i64 1] w fun e w' => e = .returned (.string s) ∧ w' = w := Any.strings_Repeat_one Try.lays105 s w
open Go.RowKit Go.Lib in
theorem Try.strings_Repeat_empty (s : ByteArray) (c : Nat) (w : World) (hc2 : 2 ≤ c) (hc : c ≤ 9223372036854775807) (h0 : s.size = 0) :
    Calls Try.prog 27 #[.string s, .int .i64 c] w fun e w' => e = .returned (.string ⟨#[]⟩) ∧ w' = w := Any.strings_Repeat_empty Try.lays105 s c w hc2 hc h0
open Go.RowKit Go.Lib in
theorem Try.strings_Repeat_negative (s : ByteArray) (c : Int) (w : World) (hc : c < 0) :
    Calls Try.prog 27 #[.string s, .int .i64 c] w fun e w' => e = .panicked [{ v := repeatPanic Try.lays105_ren "strings: negative Repeat count", recovered := false }] ∧ w' = w := Any.strings_Repeat_negative Try.lays105 s c w hc
open Go.RowKit Go.Lib in
theorem Try.strings_Repeat_overflow (s : ByteArray) (c : Nat) (w : World) (hc : c ≤ 9223372036854775807) (hs : s.size ≤ 9223372036854775807) (hbig : 9223372036854775807 < s.size * c) :
    Calls Try.prog 27 #[.string s, .int .i64 c] w fun e w' => e = .panicked [{ v := repeatPanic Try.lays105_ren "strings: Repeat output length overflow", recovered := false }] ∧ w' = w := Any.strings_Repeat_overflow Try.lays105 s c w hc hs hbig
open Go.RowKit Go.Lib in
theorem Try.strings_Repeat (s : ByteArray) (c : Nat) (w : World) (hc : c ≤ 9223372036854775807) (hlen : s.size * c ≤ 140737488355328) :
    Calls Try.prog 27 #[.string s, .int .i64 c] w fun e w' => e = .returned (.string ⟨(Lib.repeatL s.data.toList c).toArray⟩) ∧ Below w.heap.size w w' := Any.strings_Repeat Try.lays105 Try.Builder_Extra_105 s c w hc hlen
end Go.Proofs
end
section
/-
  MMU, part 4: the reference's bytes set, laid, copied; numbers of memory.
-/
set_option linter.unusedVariables false
set_option linter.unusedSimpArgs false
namespace Go.Proofs.Ytlgldkjjbbbapaa.V
open Go
set_option maxRecDepth 100000
-- nlx: jU
set_option maxHeartbeats 1000000
theorem repeat_spec (s : List UInt8) (c : Nat) (h : s.length * c ≤ 140737488355328) (hc : c ≤ 9223372036854775807) : Spec Try.prog 27 [.str s, .int .i64 c] (.str (List.replicate c s).flatten) := by
  intro U w xs hx
  obtain ⟨x, ys, rfl, h1, y, zs, rfl, h2, h3⟩ := hx
  have h3 : zs = [] := h3
  subst h3
  rw [h1.str, h2.int]
  have e : Lib.repeatL s c = (List.replicate c s).flatten := by
    clear h hc h1 h2
    induction c with
    | zero => rfl
    | succ c ih => simp [Lib.repeatL, List.replicate_succ, ih]
  refine (Try.strings_Repeat ⟨s.toArray⟩ c w hc (by show s.toArray.size * c ≤ _; simpa using h)).mono fun e' w' ⟨he, hb⟩ => ⟨_, he, hb, ?_⟩
  rw [e]
  exact VR_str
end Go.Proofs.Ytlgldkjjbbbapaa.V
end
section
/-
  Drive, part 1: a drive; is there a block, is it great, may it be, are two the same.
-/
set_option linter.unusedVariables false
set_option linter.unusedSimpArgs false
namespace Go.Proofs.Ytlgldkjjbbbapaa.V
open Go
set_option maxRecDepth 100000
-- nlx: jR
set_option maxHeartbeats 1000000
structure Wr where
  b : Int
  d : List UInt8
deriving DecidableEq
instance : Inhabited Wr := ⟨⟨0, []⟩⟩
structure Dr where
  bl : Frames
  pe : List Wr
  left : Int
deriving DecidableEq
def encWr (w : Wr) : VV := .agg [.int .i64 w.b, .str w.d]
abbrev encWrs (l : List Wr) : VV := .dat (.st [.cell, .cell]) (l.map encWr)
abbrev encDr (d : Dr) : VV := .agg [encStrs d.bl, encWrs d.pe, .int .i64 d.left]
theorem jR (l : List Wr) : nls (l.map encWr) = true := nls_map _ (fun _ => rfl) l
def dfit (d : Dr) : Prop := fits d.bl ∧ d.pe.length < 2 ^ 36 ∧ ∀ w ∈ d.pe, w.d.length < 2 ^ 36
theorem has_spec (d : Dr) (hd : d.bl.length < 2 ^ 36) (i : Int) : Spec Try.prog 117 [encDr d, .int .i64 i] (.bool (decide (0 ≤ i) && decide (i < d.bl.length))) := by
  refine spec_ok Try.func117 rfl rfl (by kernel_rfl) (k := 2) rfl (by decide) ?_
  repeat' (first | (with_reducible first | refine ju ?_ | refine xs1 ?_ | refine xs2 ?_ | refine xs3 ?_ | refine xb1 ?_ | refine xb2 ?_ | refine xb3 (by decide) ?_ | refine xb4 ?_ | refine xl2 ?_ | refine xl3 ?_ | refine xc2 ?_ | refine xc3 ?_ | refine jn ?_ | refine jo ?_ | refine jp ?_ | refine jq ?_ | refine jr ?_ | refine jt ?_ | refine jk (fun M hM => ?_) | refine vif_t ?_ | refine vif_f ?_ | refine jl ?_ | refine jm ?_ | (refine hM _ ?_; clear hM M) | refine ja (jc (by assumption) ?_ rfl ?_) | refine jb (jd (by assumption) rfl ?_) ?_) | ((with_reducible refine je ?_) <;> (first | rfl | assumption | (simp only [znl,jR]; (first | done | fail)))) | (with_reducible refine jf (by (simp only [↓reduceIte,zlk,Nat.reduceEqDiff,reduceCtorEq]); exact rfl) ?_) | ((with_reducible first | refine jg (fun hc => ?_) (fun hc => ?_) | refine jh (fun hc => ?_) (fun hc => ?_)) <;> (try simp (disch := omega) only [zhb] at hc) <;> (try (exfalso; omega)) <;> (try subst hc)) | (with_reducible refine ji (by omega) ?_) | (simp (config := { maxSteps := 400000 }) only [↓jv,↓reduceIte,zvs,reduceCtorEq,Nat.reduceEqDiff,Nat.reduceAdd,Nat.reduceLeDiff,Nat.reduceMul,Int.reduceBNe,Int.reduceBEq,Int.reduceEq,Int.reduceNe,Int.reduceLT,Int.reduceLE,Int.reduceGT,Int.reduceGE,Int.reduceNeg,Int.reduceToNat,Nat.reduceLT,Nat.reduceSub,tab,encDr,Try.results117,List.toList_toArray]) | (simp (disch := omega) only [ziw]))
  · simp only [zrds]
    rw [decide_eq_true (by omega : 0 ≤ i), Bool.true_and]
  · simp only [zrds]
    rw [decide_eq_false (by omega : ¬0 ≤ i), Bool.false_and]
theorem any_of {α : Type} [Inhabited α] (l : List α) (p : α → Bool) (k : Nat) (h : k < l.length) (hp : p (l.getD k default) = true) : l.any p = true := by
  rw [List.any_eq_true]
  refine ⟨_, ?_, hp⟩
  rw [List.getD_eq_getElem?_getD, List.getElem?_eq_getElem h]; exact List.getElem_mem _
theorem any_none {α : Type} [Inhabited α] (l : List α) (p : α → Bool) (h : ∀ j, j < l.length → p (l.getD j default) = false) : l.any p = false := by
  rw [List.any_eq_false]
  intro x hx
  obtain ⟨j, hj, e⟩ := List.mem_iff_getElem.1 hx
  have := h j hj
  rw [List.getD_eq_getElem?_getD, List.getElem?_eq_getElem hj] at this
  simp only [Option.getD_some] at this
  rw [← e, this]
  simp
def longB (n : Nat) (s : List UInt8) : Bool := decide (n < s.length)
def checkW (n : Nat) : List Wr → Int
  | [] => 0
  | w :: ws => if ¬(0 ≤ w.b ∧ w.b < n) then 2 else if w.d.length ≠ 128 then 3 else checkW n ws
def checkD (d : Dr) : Int := if 256 < d.bl.length then 6 else if d.bl.any (fun s => decide (s.length ≠ 128)) = true then 3 else checkW d.bl.length d.pe
theorem drop_getD' {α : Type} [Inhabited α] (l : List α) (i : Nat) (h : i < l.length) : l.drop i = l.getD i default :: l.drop (i + 1) := by
  rw [List.drop_eq_getElem_cons h, List.getD_eq_getElem?_getD, List.getElem?_eq_getElem h]; rfl
theorem getD_mem' {α : Type} [Inhabited α] {l : List α} {i : Nat} (h : i < l.length) : l.getD i default ∈ l := by
  rw [List.getD_eq_getElem?_getD, List.getElem?_eq_getElem h]; exact List.getElem_mem _
theorem check_spec (d : Dr) (hd : dfit d) : Spec Try.prog 86 [encDr d] (.int .i64 (checkD d)) := by
  obtain ⟨R, hR⟩ : ∃ R, R = checkD d := ⟨_, rfl⟩
  rw [← hR]
  obtain ⟨⟨hf1, hf2⟩, hf3, hf4⟩ := hd
  refine spec_ok Try.func86 rfl rfl (by kernel_rfl) (k := 1) rfl (by decide) ?_
  repeat' (first | (with_reducible first | refine ju ?_ | refine xs1 ?_ | refine xs2 ?_ | refine xs3 ?_ | refine xb1 ?_ | refine xb2 ?_ | refine xb3 (by decide) ?_ | refine xb4 ?_ | refine xl2 ?_ | refine xl3 ?_ | refine xc2 ?_ | refine xc3 ?_ | refine jn ?_ | refine jo ?_ | refine jp ?_ | refine jq ?_ | refine jr ?_ | refine jt ?_ | refine jk (fun M hM => ?_) | refine vif_t ?_ | refine vif_f ?_ | refine jl ?_ | refine jm ?_ | (refine hM _ ?_; clear hM M) | refine ja (jc (by assumption) ?_ rfl ?_) | refine jb (jd (by assumption) rfl ?_) ?_) | ((with_reducible refine je ?_) <;> (first | rfl | assumption | (simp only [znl,jR]; (first | done | fail)))) | (with_reducible refine jf (by (simp only [↓reduceIte,zlk,Nat.reduceEqDiff,reduceCtorEq]); exact rfl) ?_) | ((with_reducible first | refine jg (fun hc => ?_) (fun hc => ?_) | refine jh (fun hc => ?_) (fun hc => ?_)) <;> (try simp (disch := omega) only [zhb] at hc) <;> (try (exfalso; omega)) <;> (try subst hc)) | (with_reducible refine ji (by omega) ?_) | (simp (config := { maxSteps := 400000 }) only [↓jv,↓reduceIte,zvs,reduceCtorEq,Nat.reduceEqDiff,Nat.reduceAdd,Nat.reduceLeDiff,Nat.reduceMul,Int.reduceBNe,Int.reduceBEq,Int.reduceEq,Int.reduceNe,Int.reduceLT,Int.reduceLE,Int.reduceGT,Int.reduceGE,Int.reduceNeg,Int.reduceToNat,Nat.reduceLT,Nat.reduceSub,tab,encDr,Try.results86,List.toList_toArray]) | (simp (disch := omega) only [ziw]))
  · simp only [zrds]
    rw [hR, checkD, if_pos (by omega)]
  · refine ok_loop (fun k : Nat => ⟨slots [(1, .ptr 0 []), (2, .int .i64 0), (12, encStrs d.bl), (13, .int .i64 d.bl.length), (14, .int .i64 k)], rows [(0, .row (.st [.cell, .cell, .cell]) (encDr d))], 1⟩) (fun k => k ≤ d.bl.length ∧ ∀ j, j < k → decide ((d.bl.getD j default).length ≠ 128) = false) (fun k => d.bl.length - k) 0 ?_ ⟨Nat.zero_le _, fun j hj => by omega⟩ (fun k hk => ?_)
    · (refine Ren.mk [(0, 0)] false (by first | (intro h; cases h; done) | exact fun _ => rfl) (by first | decide | rfl | (simp [jQ]; done)) (by decide) ?_ ?_ <;> (repeat' (first | (with_reducible first | refine jw (by first | rfl | omega) | refine jx rfl | refine jy rfl | refine jz rfl (by first | rfl | assumption | (simp only [znl,jR]; (first | done | fail))) | refine jF ?_ ?_ (by first | rfl | omega) | refine MR.ptr ?_ ?_ | refine jA | refine jB | refine jC ?_ | refine jD rfl (by (simp only [↓reduceIte,zlk,Nat.reduceEqDiff,reduceCtorEq]); exact rfl) ?_ ?_ ?_ (by decide) | refine jE rfl (by first | rfl | assumption | (simp only [znl,jR]; (first | done | fail))) | refine MR.agg (MRL.cons ?_ ?_) | refine jE ?_ (by first | rfl | assumption | (simp only [znl,jR]; (first | done | fail))) | refine MR.fn ?_ | refine MRL.cons ?_ ?_ | refine MRL.nil | refine jG ?_ ?_ | refine jH | refine jI | refine jJ ?_ (by (simp only [↓reduceIte,zlk,Nat.reduceEqDiff,reduceCtorEq]); exact rfl) ?_ ?_ | refine MB.row ?_ | refine jK ?_ ?_ | refine MR.map ?_ ?_ | refine jL rfl (by first | rfl | assumption | (simp only [znl,jR]; (first | done | fail))) | rfl) | (simp only [znl,jR]; (first | done | fail)) | (refine jM rfl ?_) | exact jN rfl | exact jO rfl | ((with_reducible refine jP ?_) <;> rfl) | (simp only [↓reduceIte,zlk,Nat.reduceEqDiff,reduceCtorEq]) | (with_reducible first | refine jL ?_ ?_ | refine jF ?_ ?_ ?_ | refine jw ?_ | refine jx ?_ | refine jy ?_ | refine jz ?_ (by first | rfl | assumption | (simp only [znl,jR]; (first | done | fail))) | refine jE ?_ ?_))))
    obtain ⟨hk, hn⟩ := hk
    by_cases hlt : k < d.bl.length
    · have hs := hf2 _ (getD_mem' hlt)
      rw [default_str] at hs
      repeat' (first | (with_reducible first | refine ju ?_ | refine xs1 ?_ | refine xs2 ?_ | refine xs3 ?_ | refine xb1 ?_ | refine xb2 ?_ | refine xb3 (by decide) ?_ | refine xb4 ?_ | refine xl2 ?_ | refine xl3 ?_ | refine xc2 ?_ | refine xc3 ?_ | refine jn ?_ | refine jo ?_ | refine jp ?_ | refine jq ?_ | refine jr ?_ | refine jt ?_ | refine jk (fun M hM => ?_) | refine vif_t ?_ | refine vif_f ?_ | refine jl ?_ | refine jm ?_ | (refine hM _ ?_; clear hM M) | refine ja (jc (by assumption) ?_ rfl ?_) | refine jb (jd (by assumption) rfl ?_) ?_) | ((with_reducible refine je ?_) <;> (first | rfl | assumption | (simp only [znl,jR]; (first | done | fail)))) | (with_reducible refine jf (by (simp only [↓reduceIte,zlk,Nat.reduceEqDiff,reduceCtorEq]); exact rfl) ?_) | ((with_reducible first | refine jg (fun hc => ?_) (fun hc => ?_) | refine jh (fun hc => ?_) (fun hc => ?_)) <;> (try simp (disch := omega) only [zhb] at hc) <;> (try (exfalso; omega)) <;> (try subst hc)) | (with_reducible refine ji (by omega) ?_) | (simp (config := { maxSteps := 400000 }) only [↓jv,↓reduceIte,zvs,reduceCtorEq,Nat.reduceEqDiff,Nat.reduceAdd,Nat.reduceLeDiff,Nat.reduceMul,Int.reduceBNe,Int.reduceBEq,Int.reduceEq,Int.reduceNe,Int.reduceLT,Int.reduceLE,Int.reduceGT,Int.reduceGE,Int.reduceNeg,Int.reduceToNat,Nat.reduceLT,Nat.reduceSub,tab,encDr,Try.results86,List.toList_toArray]) | (simp (disch := omega) only [ziw]))
      · simp only [zrds]
        rw [hR, checkD, if_neg (by omega), if_pos (any_of d.bl _ k hlt (by rw [default_str]; exact decide_eq_true (by omega)))]
      · refine xl1 (k + 1) ?_ ⟨by omega, fun j hj => ?_⟩ (by show d.bl.length - (k + 1) < d.bl.length - k; omega)
        · (refine Ren.mk [(0, 0)] false (by first | (intro h; cases h; done) | exact fun _ => rfl) (by first | decide | rfl | (simp [jQ]; done)) (by decide) ?_ ?_ <;> (repeat' (first | (with_reducible first | refine jw (by first | rfl | omega) | refine jx rfl | refine jy rfl | refine jz rfl (by first | rfl | assumption | (simp only [znl,jR]; (first | done | fail))) | refine jF ?_ ?_ (by first | rfl | omega) | refine MR.ptr ?_ ?_ | refine jA | refine jB | refine jC ?_ | refine jD rfl (by (simp only [↓reduceIte,zlk,Nat.reduceEqDiff,reduceCtorEq]); exact rfl) ?_ ?_ ?_ (by decide) | refine jE rfl (by first | rfl | assumption | (simp only [znl,jR]; (first | done | fail))) | refine MR.agg (MRL.cons ?_ ?_) | refine jE ?_ (by first | rfl | assumption | (simp only [znl,jR]; (first | done | fail))) | refine MR.fn ?_ | refine MRL.cons ?_ ?_ | refine MRL.nil | refine jG ?_ ?_ | refine jH | refine jI | refine jJ ?_ (by (simp only [↓reduceIte,zlk,Nat.reduceEqDiff,reduceCtorEq]); exact rfl) ?_ ?_ | refine MB.row ?_ | refine jK ?_ ?_ | refine MR.map ?_ ?_ | refine jL rfl (by first | rfl | assumption | (simp only [znl,jR]; (first | done | fail))) | rfl) | (simp only [znl,jR]; (first | done | fail)) | (refine jM rfl ?_) | exact jN rfl | exact jO rfl | ((with_reducible refine jP ?_) <;> rfl) | (simp only [↓reduceIte,zlk,Nat.reduceEqDiff,reduceCtorEq]) | (with_reducible first | refine jL ?_ ?_ | refine jF ?_ ?_ ?_ | refine jw ?_ | refine jx ?_ | refine jy ?_ | refine jz ?_ (by first | rfl | assumption | (simp only [znl,jR]; (first | done | fail))) | refine jE ?_ ?_))))
        · by_cases e : j = k
          · subst e
            (try rw [default_str]); exact decide_eq_false (by omega)
          · exact hn j (by omega)
    · obtain rfl : k = d.bl.length := by omega
      have hA := any_none d.bl (fun s => decide (s.length ≠ 128)) hn
      rw [checkD, if_neg (by omega), if_neg (by rw [hA]; simp)] at hR
      repeat' (first | (with_reducible first | refine ju ?_ | refine xs1 ?_ | refine xs2 ?_ | refine xs3 ?_ | refine xb1 ?_ | refine xb2 ?_ | refine xb3 (by decide) ?_ | refine xb4 ?_ | refine xl2 ?_ | refine xl3 ?_ | refine xc2 ?_ | refine xc3 ?_ | refine jn ?_ | refine jo ?_ | refine jp ?_ | refine jq ?_ | refine jr ?_ | refine jt ?_ | refine jk (fun M hM => ?_) | refine vif_t ?_ | refine vif_f ?_ | refine jl ?_ | refine jm ?_ | (refine hM _ ?_; clear hM M) | refine ja (jc (by assumption) ?_ rfl ?_) | refine jb (jd (by assumption) rfl ?_) ?_) | ((with_reducible refine je ?_) <;> (first | rfl | assumption | (simp only [znl,jR]; (first | done | fail)))) | (with_reducible refine jf (by (simp only [↓reduceIte,zlk,Nat.reduceEqDiff,reduceCtorEq]); exact rfl) ?_) | ((with_reducible first | refine jg (fun hc => ?_) (fun hc => ?_) | refine jh (fun hc => ?_) (fun hc => ?_)) <;> (try simp (disch := omega) only [zhb] at hc) <;> (try (exfalso; omega)) <;> (try subst hc)) | (with_reducible refine ji (by omega) ?_) | (simp (config := { maxSteps := 400000 }) only [↓jv,↓reduceIte,zvs,reduceCtorEq,Nat.reduceEqDiff,Nat.reduceAdd,Nat.reduceLeDiff,Nat.reduceMul,Int.reduceBNe,Int.reduceBEq,Int.reduceEq,Int.reduceNe,Int.reduceLT,Int.reduceLE,Int.reduceGT,Int.reduceGE,Int.reduceNeg,Int.reduceToNat,Nat.reduceLT,Nat.reduceSub,tab,encDr,Try.results86,List.toList_toArray]) | (simp (disch := omega) only [ziw]))
      refine ok_loop (fun k : Nat => ⟨slots [(1, .ptr 0 []), (2, .int .i64 0), (23, encWrs d.pe), (24, .int .i64 d.pe.length), (25, .int .i64 k)], rows [(0, .row (.st [.cell, .cell, .cell]) (encDr d))], 1⟩) (fun k => k ≤ d.pe.length ∧ R = checkW d.bl.length (d.pe.drop k)) (fun k => d.pe.length - k) 0 ?_ ⟨Nat.zero_le _, hR⟩ (fun k hk => ?_)
      · (refine Ren.mk [(0, 0)] false (by first | (intro h; cases h; done) | exact fun _ => rfl) (by first | decide | rfl | (simp [jQ]; done)) (by decide) ?_ ?_ <;> (repeat' (first | (with_reducible first | refine jw (by first | rfl | omega) | refine jx rfl | refine jy rfl | refine jz rfl (by first | rfl | assumption | (simp only [znl,jR]; (first | done | fail))) | refine jF ?_ ?_ (by first | rfl | omega) | refine MR.ptr ?_ ?_ | refine jA | refine jB | refine jC ?_ | refine jD rfl (by (simp only [↓reduceIte,zlk,Nat.reduceEqDiff,reduceCtorEq]); exact rfl) ?_ ?_ ?_ (by decide) | refine jE rfl (by first | rfl | assumption | (simp only [znl,jR]; (first | done | fail))) | refine MR.agg (MRL.cons ?_ ?_) | refine jE ?_ (by first | rfl | assumption | (simp only [znl,jR]; (first | done | fail))) | refine MR.fn ?_ | refine MRL.cons ?_ ?_ | refine MRL.nil | refine jG ?_ ?_ | refine jH | refine jI | refine jJ ?_ (by (simp only [↓reduceIte,zlk,Nat.reduceEqDiff,reduceCtorEq]); exact rfl) ?_ ?_ | refine MB.row ?_ | refine jK ?_ ?_ | refine MR.map ?_ ?_ | refine jL rfl (by first | rfl | assumption | (simp only [znl,jR]; (first | done | fail))) | rfl) | (simp only [znl,jR]; (first | done | fail)) | (refine jM rfl ?_) | exact jN rfl | exact jO rfl | ((with_reducible refine jP ?_) <;> rfl) | (simp only [↓reduceIte,zlk,Nat.reduceEqDiff,reduceCtorEq]) | (with_reducible first | refine jL ?_ ?_ | refine jF ?_ ?_ ?_ | refine jw ?_ | refine jx ?_ | refine jy ?_ | refine jz ?_ (by first | rfl | assumption | (simp only [znl,jR]; (first | done | fail))) | refine jE ?_ ?_))))
      obtain ⟨hk, hm⟩ := hk
      by_cases hlt : k < d.pe.length
      · have hs := hf4 _ (getD_mem' hlt)
        have hH := has_spec d hf1 (d.pe.getD k default).b
        rw [drop_getD' d.pe k hlt, checkW] at hm
        by_cases hb : 0 ≤ (d.pe.getD k default).b ∧ (d.pe.getD k default).b < d.bl.length
        · rw [decide_eq_true hb.1, decide_eq_true hb.2] at hH
          rw [if_neg (fun h => h hb)] at hm
          repeat' (first | (with_reducible first | refine ju ?_ | refine xs1 ?_ | refine xs2 ?_ | refine xs3 ?_ | refine xb1 ?_ | refine xb2 ?_ | refine xb3 (by decide) ?_ | refine xb4 ?_ | refine xl2 ?_ | refine xl3 ?_ | refine xc2 ?_ | refine xc3 ?_ | refine jn ?_ | refine jo ?_ | refine jp ?_ | refine jq ?_ | refine jr ?_ | refine jt ?_ | refine jk (fun M hM => ?_) | refine vif_t ?_ | refine vif_f ?_ | refine jl ?_ | refine jm ?_ | (refine hM _ ?_; clear hM M) | refine ja (jc (by assumption) ?_ rfl ?_) | refine jb (jd (by assumption) rfl ?_) ?_) | ((with_reducible refine je ?_) <;> (first | rfl | assumption | (simp only [znl,jR]; (first | done | fail)))) | (with_reducible refine jf (by (simp only [↓reduceIte,zlk,Nat.reduceEqDiff,reduceCtorEq]); exact rfl) ?_) | ((with_reducible first | refine jg (fun hc => ?_) (fun hc => ?_) | refine jh (fun hc => ?_) (fun hc => ?_)) <;> (try simp (disch := omega) only [zhb] at hc) <;> (try (exfalso; omega)) <;> (try subst hc)) | (with_reducible refine ji (by omega) ?_) | (simp (config := { maxSteps := 400000 }) only [↓jv,↓reduceIte,zvs,reduceCtorEq,Nat.reduceEqDiff,Nat.reduceAdd,Nat.reduceLeDiff,Nat.reduceMul,Int.reduceBNe,Int.reduceBEq,Int.reduceEq,Int.reduceNe,Int.reduceLT,Int.reduceLE,Int.reduceGT,Int.reduceGE,Int.reduceNeg,Int.reduceToNat,Nat.reduceLT,Nat.reduceSub,tab,encDr,encWr,Try.results86,List.toList_toArray]) | (simp (disch := omega) only [ziw]))
          · rw [if_pos (by omega)] at hm
            rw [hm]
            simp only [zrds]
          · rw [if_neg (by omega)] at hm
            refine xl1 (k + 1) ?_ ⟨by omega, hm⟩ (by show d.pe.length - (k + 1) < d.pe.length - k; omega)
            (refine Ren.mk [(0, 0)] false (by first | (intro h; cases h; done) | exact fun _ => rfl) (by first | decide | rfl | (simp [jQ]; done)) (by decide) ?_ ?_ <;> (repeat' (first | (with_reducible first | refine jw (by first | rfl | omega) | refine jx rfl | refine jy rfl | refine jz rfl (by first | rfl | assumption | (simp only [znl,jR]; (first | done | fail))) | refine jF ?_ ?_ (by first | rfl | omega) | refine MR.ptr ?_ ?_ | refine jA | refine jB | refine jC ?_ | refine jD rfl (by (simp only [↓reduceIte,zlk,Nat.reduceEqDiff,reduceCtorEq]); exact rfl) ?_ ?_ ?_ (by decide) | refine jE rfl (by first | rfl | assumption | (simp only [znl,jR]; (first | done | fail))) | refine MR.agg (MRL.cons ?_ ?_) | refine jE ?_ (by first | rfl | assumption | (simp only [znl,jR]; (first | done | fail))) | refine MR.fn ?_ | refine MRL.cons ?_ ?_ | refine MRL.nil | refine jG ?_ ?_ | refine jH | refine jI | refine jJ ?_ (by (simp only [↓reduceIte,zlk,Nat.reduceEqDiff,reduceCtorEq]); exact rfl) ?_ ?_ | refine MB.row ?_ | refine jK ?_ ?_ | refine MR.map ?_ ?_ | refine jL rfl (by first | rfl | assumption | (simp only [znl,jR]; (first | done | fail))) | rfl) | (simp only [znl,jR]; (first | done | fail)) | (refine jM rfl ?_) | exact jN rfl | exact jO rfl | ((with_reducible refine jP ?_) <;> rfl) | (simp only [↓reduceIte,zlk,Nat.reduceEqDiff,reduceCtorEq]) | (with_reducible first | refine jL ?_ ?_ | refine jF ?_ ?_ ?_ | refine jw ?_ | refine jx ?_ | refine jy ?_ | refine jz ?_ (by first | rfl | assumption | (simp only [znl,jR]; (first | done | fail))) | refine jE ?_ ?_))))
        · have e : (decide (0 ≤ (d.pe.getD k default).b) && decide ((d.pe.getD k default).b < d.bl.length)) = false := by rw [← Bool.decide_and]; exact decide_eq_false hb
          rw [e] at hH
          rw [if_pos hb] at hm
          repeat' (first | (with_reducible first | refine ju ?_ | refine xs1 ?_ | refine xs2 ?_ | refine xs3 ?_ | refine xb1 ?_ | refine xb2 ?_ | refine xb3 (by decide) ?_ | refine xb4 ?_ | refine xl2 ?_ | refine xl3 ?_ | refine xc2 ?_ | refine xc3 ?_ | refine jn ?_ | refine jo ?_ | refine jp ?_ | refine jq ?_ | refine jr ?_ | refine jt ?_ | refine jk (fun M hM => ?_) | refine vif_t ?_ | refine vif_f ?_ | refine jl ?_ | refine jm ?_ | (refine hM _ ?_; clear hM M) | refine ja (jc (by assumption) ?_ rfl ?_) | refine jb (jd (by assumption) rfl ?_) ?_) | ((with_reducible refine je ?_) <;> (first | rfl | assumption | (simp only [znl,jR]; (first | done | fail)))) | (with_reducible refine jf (by (simp only [↓reduceIte,zlk,Nat.reduceEqDiff,reduceCtorEq]); exact rfl) ?_) | ((with_reducible first | refine jg (fun hc => ?_) (fun hc => ?_) | refine jh (fun hc => ?_) (fun hc => ?_)) <;> (try simp (disch := omega) only [zhb] at hc) <;> (try (exfalso; omega)) <;> (try subst hc)) | (with_reducible refine ji (by omega) ?_) | (simp (config := { maxSteps := 400000 }) only [↓jv,↓reduceIte,zvs,reduceCtorEq,Nat.reduceEqDiff,Nat.reduceAdd,Nat.reduceLeDiff,Nat.reduceMul,Int.reduceBNe,Int.reduceBEq,Int.reduceEq,Int.reduceNe,Int.reduceLT,Int.reduceLE,Int.reduceGT,Int.reduceGE,Int.reduceNeg,Int.reduceToNat,Nat.reduceLT,Nat.reduceSub,tab,encDr,encWr,Try.results86,List.toList_toArray]) | (simp (disch := omega) only [ziw]))
          rw [hm]
          simp only [zrds]
      · obtain rfl : k = d.pe.length := by omega
        rw [List.drop_length, checkW] at hm
        repeat' (first | (with_reducible first | refine ju ?_ | refine xs1 ?_ | refine xs2 ?_ | refine xs3 ?_ | refine xb1 ?_ | refine xb2 ?_ | refine xb3 (by decide) ?_ | refine xb4 ?_ | refine xl2 ?_ | refine xl3 ?_ | refine xc2 ?_ | refine xc3 ?_ | refine jn ?_ | refine jo ?_ | refine jp ?_ | refine jq ?_ | refine jr ?_ | refine jt ?_ | refine jk (fun M hM => ?_) | refine vif_t ?_ | refine vif_f ?_ | refine jl ?_ | refine jm ?_ | (refine hM _ ?_; clear hM M) | refine ja (jc (by assumption) ?_ rfl ?_) | refine jb (jd (by assumption) rfl ?_) ?_) | ((with_reducible refine je ?_) <;> (first | rfl | assumption | (simp only [znl,jR]; (first | done | fail)))) | (with_reducible refine jf (by (simp only [↓reduceIte,zlk,Nat.reduceEqDiff,reduceCtorEq]); exact rfl) ?_) | ((with_reducible first | refine jg (fun hc => ?_) (fun hc => ?_) | refine jh (fun hc => ?_) (fun hc => ?_)) <;> (try simp (disch := omega) only [zhb] at hc) <;> (try (exfalso; omega)) <;> (try subst hc)) | (with_reducible refine ji (by omega) ?_) | (simp (config := { maxSteps := 400000 }) only [↓jv,↓reduceIte,zvs,reduceCtorEq,Nat.reduceEqDiff,Nat.reduceAdd,Nat.reduceLeDiff,Nat.reduceMul,Int.reduceBNe,Int.reduceBEq,Int.reduceEq,Int.reduceNe,Int.reduceLT,Int.reduceLE,Int.reduceGT,Int.reduceGE,Int.reduceNeg,Int.reduceToNat,Nat.reduceLT,Nat.reduceSub,tab,encDr,Try.results86,List.toList_toArray]) | (simp (disch := omega) only [ziw]))
        simp only [zrds]
        rw [hm]
end Go.Proofs.Ytlgldkjjbbbapaa.V
end
section
/-
  Drive, part 3: a new drive, a block of ones, a block got.
-/
set_option linter.unusedVariables false
set_option linter.unusedSimpArgs false
namespace Go.Proofs.Ytlgldkjjbbbapaa.V
open Go
set_option maxRecDepth 100000
-- nlx: jR
set_option maxHeartbeats 1000000
def zeros : List UInt8 := List.replicate 128 0
def drV (x : Dr × Int) : VV := .tup [encDr x.1, .int .i64 x.2]
def getP (pe : List Wr) (i : Int) (s : List UInt8) : List UInt8 := pe.foldl (fun s w => if w.b = i then w.d else s) s
end Go.Proofs.Ytlgldkjjbbbapaa.V
end
section
/-
  MACHINES, part 1: what a machine is; what is more than is gone through.
-/
set_option linter.unusedVariables false
set_option linter.unusedSimpArgs false
namespace Go.Proofs.Ytlgldkjjbbbapaa.V
open Go
set_option maxRecDepth 100000
set_option maxHeartbeats 1000000
structure Fdd where
  kind : Int
  n : Int
  pos : Int
deriving DecidableEq
instance : Inhabited Fdd := ⟨⟨0, 0, 0⟩⟩
deriving instance DecidableEq for Pte
structure Pr where
  pid : Int
  par : Int
  st : Int
  rs : List Int
  pc : Int
  sp : List Pte
  fds : List Fdd
  mask : Bool
  code : Int
  why : Int
  n : Int
deriving DecidableEq
instance : Inhabited Pr := ⟨⟨0, 0, 0, [], 0, [], [], false, 0, 0, 0⟩⟩
structure Pip where
  id : Int
  d : List UInt8
deriving DecidableEq
instance : Inhabited Pip := ⟨⟨0, []⟩⟩
structure Mach where
  clock : Int
  quantum : Int
  cur : Int
  left : Int
  fr : Frames
  pr : List Pr
  next : Int
  init : List UInt8
  pipes : List Pip
  newp : Int
  inp : List UInt8
  fin : Bool
  told : Int
  dr : Dr
  dirty : List Wr
def encFd (f : Fdd) : VV := .agg [.int .i64 f.kind, .int .i64 f.n, .int .i64 f.pos]
def encPr (p : Pr) : VV := .agg [.int .i64 p.pid, .int .i64 p.par, .int .i64 p.st, .agg [.agg (p.rs.map (.int .u32)), .int .u32 p.pc], .agg (p.sp.map encPte), .agg (p.fds.map encFd), .bool p.mask, .int .u32 p.code, .int .i64 p.why, .int .u64 p.n]
def encPi (p : Pip) : VV := .agg [.int .i64 p.id, .str p.d]
abbrev pteSh : Sh := .st [.cell, .cell, .cell]
abbrev prSh : Sh := .st [.cell, .cell, .cell, .st [.arr 16 .cell, .cell], .arr 16 pteSh, .arr 8 pteSh, .cell, .cell, .cell, .cell]
abbrev piSh : Sh := .st [.cell, .cell]
abbrev encPrs (l : List Pr) : VV := .dat prSh (l.map encPr)
abbrev encPis (l : List Pip) : VV := .dat piSh (l.map encPi)
abbrev encM (m : Mach) : VV := .agg [.int .u64 m.clock, .int .i64 m.quantum, .int .i64 m.cur, .int .i64 m.left, encStrs m.fr, encPrs m.pr, .int .i64 m.next, .str m.init, encPis m.pipes, .int .i64 m.newp, .str m.inp, .bool m.fin, .int .u64 m.told, encDr m.dr, encWrs m.dirty]
theorem hasFd (f : Fdd) : Has pteSh (encFd f) := by simp [encFd, Has, HasL, VV.leaf]
theorem hasFds (l : List Fdd) (h : l.length = 8) : Has (.arr 8 pteSh) (.agg (l.map encFd)) := has_arrMap h hasFd
theorem hasRs (l : List Int) (h : l.length = 16) : Has (.arr 16 .cell) (.agg (l.map (.int .u32))) := has_arrMap h (fun x => by simp [Has, VV.leaf])
def i64R (x : Int) : Prop := -9223372036854775808 ≤ x ∧ x ≤ 9223372036854775807
def u64R (x : Int) : Prop := 0 ≤ x ∧ x ≤ 18446744073709551615
def u32R (x : Int) : Prop := 0 ≤ x ∧ x ≤ 4294967295
def fdR (f : Fdd) : Prop := i64R f.kind ∧ i64R f.n ∧ i64R f.pos
structure PrR (p : Pr) : Prop where
  pid : i64R p.pid
  par : i64R p.par
  st : i64R p.st
  rs : p.rs.length = 16
  rsR : ∀ x ∈ p.rs, u32R x
  pc : u32R p.pc
  sp : p.sp.length = 16
  spR : ∀ x ∈ p.sp, i64R x.fr
  fds : p.fds.length = 8
  fdsR : ∀ x ∈ p.fds, fdR x
  code : u32R p.code
  why : i64R p.why
  n : u64R p.n
theorem jV (l : List Fdd) : nls (l.map encFd) = true := nls_map _ (fun _ => rfl) l
theorem jT (l : List Pip) : nls (l.map encPi) = true := nls_map _ (fun _ => rfl) l
theorem jW (l : List Int) : nls (l.map (.int .u32)) = true := nls_map _ (fun _ => rfl) l
theorem jX (p : Pr) : nl (encPr p) = true := by
  simp only [encPr,nl,nls,jV,jU,jW,Bool.and_self]
theorem jS (l : List Pr) : nls (l.map encPr) = true := nls_map _ jX l
structure MFit (N : Nat) (m : Mach) : Prop where
  clock : u64R m.clock
  quantum : i64R m.quantum
  cur : i64R m.cur
  left : i64R m.left
  fr : m.fr.length ≤ N
  frS : ∀ s ∈ m.fr, s.length ≤ N
  pr : m.pr.length ≤ N
  prR : ∀ p ∈ m.pr, PrR p
  next : i64R m.next
  init : m.init.length ≤ N
  pipes : m.pipes.length ≤ N
  pipesR : ∀ p ∈ m.pipes, i64R p.id ∧ p.d.length ≤ N
  newp : i64R m.newp
  inp : m.inp.length ≤ N
  told : u64R m.told
  bl : m.dr.bl.length ≤ N
  blS : ∀ s ∈ m.dr.bl, s.length ≤ N
  pe : m.dr.pe.length ≤ N
  peS : ∀ w ∈ m.dr.pe, i64R w.b ∧ w.d.length ≤ N
  dleft : i64R m.dr.left
  dirty : m.dirty.length ≤ N
  dirtyS : ∀ w ∈ m.dirty, i64R w.b ∧ w.d.length ≤ N
end Go.Proofs.Ytlgldkjjbbbapaa.V
end
section
/-
  MACHINES, part 2: what the document says of a machine, in plain words.
-/
set_option linter.unusedVariables false
set_option linter.unusedSimpArgs false
namespace Go.Proofs.Ytlgldkjjbbbapaa.V
open Go
set_option maxRecDepth 100000
set_option maxHeartbeats 1000000
def livesP (p : Pr) : Bool := decide (p.st = 1) || decide (p.st = 2)
def livesB (l : List Pr) (pid : Int) : Bool := l.any fun p => decide (p.pid = pid) && livesP p
def usersS (f : Int) (s : List Pte) : Nat := s.countP fun x => x.is && decide (x.fr = f)
def usersN (l : List Pr) (f : Int) : Nat := (l.map fun p => usersS f p.sp).sum
def pipeO (l : List Pip) (id : Int) : Option Pip := l.find? fun p => decide (p.id = id)
def fdB (l : List Pip) (f : Fdd) : Bool :=
  if f.kind = 0 ∨ f.kind = 1 ∨ f.kind = 2 then decide (f.n = 0 ∧ f.pos = 0)
  else if f.kind = 3 then decide (1 ≤ f.n ∧ f.n ≤ 64 ∧ 0 ≤ f.pos ∧ f.pos ≤ 8960)
  else if f.kind = 4 ∨ f.kind = 5 then decide (f.pos = 0) && (pipeO l f.n).isSome
  else false
def pteB (m : Mach) (p : Pr) (x : Pte) : Bool :=
  if x.is = true then decide (p.st ≠ 3 ∧ 0 ≤ x.fr ∧ x.fr < m.fr.length ∧ usersN m.pr x.fr = 1) else decide (x.wr = false ∧ x.fr = 0)
def procH (m : Mach) (p : Pr) : Bool :=
  if p.pid < 1 ∨ m.next ≤ p.pid ∨ (p.st ≠ 1 ∧ p.st ≠ 2 ∧ p.st ≠ 3) ∨ p.rs.getD 0 0 ≠ 0 then false
  else if livesB m.pr p.par = false ∧ (p.st = 3 ∨ p.par ≠ 0) then false
  else if ¬(p.st = 2 ↔ p.why ≠ 0) ∨ p.why < 0 ∨ 5 < p.why ∨ (p.st ≠ 2 ∧ p.n ≠ 0) ∨ (p.st ≠ 3 ∧ p.code ≠ 0) then false
  else true
def fdsB (m : Mach) (p : Pr) (f : Fdd) : Bool := fdB m.pipes f && !(decide (p.st = 3) && decide (f.kind ≠ 0))
def procB (m : Mach) (p : Pr) : Bool := procH m p && p.sp.all (pteB m p) && p.fds.all (fdsB m p)
def numB (m : Mach) : Bool := decide (m.quantum < 1 ∨ 1000 < m.quantum ∨ m.left < 0 ∨ m.quantum < m.left ∨ m.cur < 0 ∨ m.next < 1 ∨ 1000000000 < m.next ∨ m.newp < 1 ∨ 1000000000 < m.newp)
def procsB (m : Mach) : Bool := (List.range m.pr.length).all fun i => !(decide (0 < i) && decide ((m.pr.getD i default).pid ≤ (m.pr.getD (i - 1) default).pid)) && procB m (m.pr.getD i default)
def pipeB (m : Mach) (i : Nat) : Bool := !(decide ((m.pipes.getD i default).id < 1) || decide (m.newp ≤ (m.pipes.getD i default).id) || (decide (0 < i) && decide ((m.pipes.getD i default).id ≤ (m.pipes.getD (i - 1) default).id)) || longB 64 (m.pipes.getD i default).d)
def pipesB (m : Mach) : Bool := (List.range m.pipes.length).all (pipeB m)
def homeB (d : Dr) (i : Nat) : List UInt8 := getP d.pe ((33 + i : Nat) : Int) (d.bl.getD (33 + i) [])
def homeD (d : Dr) : Frames := if checkD d = 0 ∧ 33 < d.bl.length then (List.range (d.bl.length - 33)).map (homeB d) else []
def bitB (s : List UInt8) (i : Nat) : Bool := bits BinOp.and IntKind.u8 (((s.getD ((i : Int) / 8).toNat 0).toNat : Int).fdiv (2 ^ min ((i : Int) % 8).toNat IntKind.u8.bits)) 1 == 1
structure Geo where
  bl : Int
  ino : Int
  quo : Int
  map : Int
  tab : Int
  dat : Int
deriving DecidableEq
def planG (b i : Int) : Geo × Int := if b < 16 ∨ 223 < b ∨ i < 4 ∨ 64 < i then (⟨0, 0, 0, 0, 0, 0⟩, 2) else if b ≤ 3 + (i + 1) / 2 then (⟨0, 0, 0, 0, 0, 0⟩, 10) else (⟨b, i, 1, 2, 3, 3 + (i + 1) / 2⟩, 0)
def headG (b i : Int) : List UInt8 := [104, 105, 98, 49] ++ putLE b.toNat 2 ++ putLE i.toNat 2 ++ List.replicate 120 0
def volE (v : Frames) : Int :=
  if v.length < 16 then 3
  else if (v.any fun s => decide (s.length ≠ 128)) = true then 3
  else
    let i : Int := getLE (((v.getD 0 []).drop 6).take 2)
    let g := planG v.length i
    if g.2 ≠ 0 ∨ v.getD 0 [] ≠ headG v.length i then 3
    else if (List.range 1024).all (fun k => !((decide ((k : Int) < g.1.dat) && !bitB (v.getD 2 []) k) || (decide (g.1.bl ≤ k) && bitB (v.getD 2 []) k))) = true then 0 else 3
def wrV (v : Frames) (w : Wr) : Frames := if 0 ≤ w.b ∧ w.b < v.length then v.set w.b.toNat w.d else v
def volM (m : Mach) : Frames := m.dirty.foldl wrV (homeD m.dr)
def dirtyE (v : Frames) (l : List Wr) : Bool := (List.range l.length).all fun i => !(decide ((l.getD i default).b < 0) || decide ((v.length : Int) ≤ (l.getD i default).b) || decide ((l.getD i default).d.length ≠ 128) || (decide (0 < i) && decide ((l.getD i default).b ≤ (l.getD (i - 1) default).b)))
def diskE (m : Mach) : Int :=
  if checkD m.dr ≠ 0 then checkD m.dr
  else if homeD m.dr = [] then 3
  else if 32 < m.dirty.length then 6
  else if dirtyE (homeD m.dr) m.dirty = false then 3
  else volE (volM m)
def chkM (m : Mach) : Int :=
  if numB m = true then 2
  else if m.fr.length < 1 ∨ 64 < m.fr.length then 6
  else if (m.fr.any fun s => decide (s.length ≠ 128)) = true then 3
  else if 8 < m.pr.length then 6
  else if procsB m = false then 3
  else if 64 < m.pipes.length then 6
  else if pipesB m = false then 3
  else if 65536 < m.inp.length ∨ 128 < m.init.length then 6
  else diskE m
end Go.Proofs.Ytlgldkjjbbbapaa.V
end
section
/-
  MACHINES, part 4: who lives, a pipe, its ends, who has a frame.
-/
set_option linter.unusedVariables false
set_option linter.unusedSimpArgs false
namespace Go.Proofs.Ytlgldkjjbbbapaa.V
open Go
set_option maxRecDepth 100000
-- nlx: jR, jS, jT, jU, jV, jW, jX
set_option maxHeartbeats 1000000
abbrev machSh : Sh := .st [.cell, .cell, .cell, .cell, .cell, .cell, .cell, .cell, .cell, .cell, .cell, .cell, .cell, .st [.cell, .cell, .cell], .cell]
theorem pr3 {p : Pr} (h : PrR p) : Has (.arr 16 .cell) (.agg (p.rs.map (.int .u32))) ∧ Has (.arr 16 (.st [.cell, .cell, .cell])) (.agg (p.sp.map encPte)) ∧ Has (.arr 8 (.st [.cell, .cell, .cell])) (.agg (p.fds.map encFd)) := ⟨hasRs _ h.rs, hasSpace _ h.sp, hasFds _ h.fds⟩
def livesQ (pid : Int) (p : Pr) : Bool := decide (p.pid = pid) && livesP p
end Go.Proofs.Ytlgldkjjbbbapaa.V
end
section
/-
  MACHINES, part 10: is a machine more than is looked at.
-/
set_option linter.unusedVariables false
set_option linter.unusedSimpArgs false
namespace Go.Proofs.Ytlgldkjjbbbapaa.V
open Go
set_option maxRecDepth 100000
-- nlx: jR, jS, jT, jU, jV, jW, jX
set_option maxHeartbeats 4000000
end Go.Proofs.Ytlgldkjjbbbapaa.V
end
section
/-
  MACHINES, part 3: a machine as an argument.
-/
set_option linter.unusedVariables false
set_option linter.unusedSimpArgs false
namespace Go.Proofs.Ytlgldkjjbbbapaa.V
open Go Go.RowKit
set_option maxRecDepth 100000
set_option maxHeartbeats 1000000
end Go.Proofs.Ytlgldkjjbbbapaa.V
end
