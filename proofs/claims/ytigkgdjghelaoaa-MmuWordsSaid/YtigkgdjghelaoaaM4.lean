/-
  MMU, part 4: the reference's bytes set, laid, copied; numbers of memory.
-/
import Derived.Test.YtigkgdjghelaoaaM3
import Derived.Test.YtigkgdjghelaoaaVshelf
set_option linter.unusedVariables false
set_option linter.unusedSimpArgs false
namespace Go.Proofs.Ytigkgdjghelaoaa.V
open Go
set_option maxRecDepth 100000
-- nlx: nls_pte
set_option maxHeartbeats 1000000
theorem repeat_spec (s : List UInt8) (c : Nat) (h : s.length * c ≤ 140737488355328) (hc : c ≤ 9223372036854775807) : Spec Try.prog 45 [.str s, .int .i64 c] (.str (List.replicate c s).flatten) := by
  intro U w xs hx
  obtain ⟨x, ys, rfl, h1, y, zs, rfl, h2, h3⟩ := hx
  have h3 : zs = [] := h3
  subst h3
  rw [h1.str, h2.int]
  have e : Lib.repeatL s c = (List.replicate c s).flatten := by
    clear h hc h1 h2
    induction c with
    | zero => rfl
    | succ c ih => simp [Lib.repeatL, List.replicate_succ, ih]
  refine (Try.strings_Repeat ⟨s.toArray⟩ c w hc (by show s.toArray.size * c ≤ _; simpa using h)).mono fun e' w' ⟨he, hb⟩ => ⟨_, he, hb, ?_⟩
  rw [e]
  exact VR_str
/-- memory with another byte -/
def setO (fr : Frames) (s : List Pte) (a : Int) (b : UInt8) : Option Frames := match findO s a 1 true with
  | some (f, i) => if thereF fr f = true then some (fr.set f.toNat ((fr.getD f.toNat []).set i.toNat b)) else none
  | none => none
def framesV : Option Frames → VV
  | some fr => .tup [encStrs fr, .bool true]
  | none => .tup [encStrs [], .bool false]
theorem set_row (l : List UInt8) (i : Nat) (b : UInt8) (h : i < l.length) : l.take i ++ [b] ++ l.drop (i + 1) = l.set i b := by
  rw [List.set_eq_take_append_cons_drop, if_pos h]; simp
theorem Set_spec (fr : Frames) (hf : fits fr) (s : List Pte) (hs : s.length = 16) (a : Int) (ha : 0 ≤ a ∧ a < 2 ^ 32) (b : UInt8) :
    Spec Try.prog 52 [encStrs fr, encSpace s, .int .u32 a, .int .u8 b.toNat] (framesV (setO fr s a b)) := by
  have hS := hasSpace s hs
  have h1 := Find_spec s hs a ha 1 true
  obtain ⟨hf1, hf2⟩ := id hf
  refine spec_ok Try.func52 rfl rfl (by kernel_rfl) (k := 4) rfl (by decide) ?_
  repeat' (first | (with_reducible first | refine ok_seq ?_ | refine xs1 ?_ | refine xs2 ?_ | refine xs3 ?_ | refine xb1 ?_ | refine xb2 ?_ | refine xb3 (by decide) ?_ | refine xb4 ?_ | refine xl2 ?_ | refine xl3 ?_ | refine xc2 ?_ | refine xc3 ?_ | refine ok_block ?_ | refine ok_scope ?_ | refine ok_skip ?_ | refine ok_label ?_ | refine ok_exit ?_ | refine ok_ret ?_ | refine ok_region (fun M hM => ?_) | refine vif_t ?_ | refine vif_f ?_ | refine fin_normal ?_ | refine fin_ret ?_ | (refine hM _ ?_; clear hM M)) | ((with_reducible refine nls_q ?_) <;> (first | rfl | assumption | (simp only [znl,nls_pte]; (first | done | fail)))) | (with_reducible refine ok_cond (by (simp only [↓reduceIte,zlk,Nat.reduceEqDiff,reduceCtorEq]); exact rfl) ?_) | ((with_reducible first | refine vif_intro (fun hc => ?_) (fun hc => ?_) | refine vifW_intro (fun hc => ?_) (fun hc => ?_)) <;> (try simp (disch := omega) only [zhb] at hc) <;> (try (exfalso; omega)) <;> (try subst hc)) | (with_reducible refine cndW_intro (by omega) ?_) | (simp (config := { maxSteps := 400000 }) only [↓zvs_pre,↓reduceIte,zvs,reduceCtorEq,Nat.reduceEqDiff,Nat.reduceAdd,Nat.reduceLeDiff,Nat.reduceMul,Int.reduceBNe,Int.reduceBEq,Int.reduceEq,Int.reduceNe,Int.reduceLT,Int.reduceLE,Int.reduceGT,Int.reduceGE,Int.reduceNeg,Int.reduceToNat,Nat.reduceLT,Nat.reduceSub,tab,hS,Try.results52,List.toList_toArray]) | (simp (disch := omega) only [ziw]))
  rcases hF : findO s a 1 true with _ | ⟨f, i⟩
  · have e : setO fr s a b = none := by unfold setO; rw [hF]
    rw [hF] at h1
    simp only [findV] at h1
    refine vcallW_intro (call_data (h1) (by first | rfl | assumption | (simp only [znl,nls_pte]; (first | done | fail))) rfl ?_)
    repeat' (first | (with_reducible first | refine ok_seq ?_ | refine xs1 ?_ | refine xs2 ?_ | refine xs3 ?_ | refine xb1 ?_ | refine xb2 ?_ | refine xb3 (by decide) ?_ | refine xb4 ?_ | refine xl2 ?_ | refine xl3 ?_ | refine xc2 ?_ | refine xc3 ?_ | refine ok_block ?_ | refine ok_scope ?_ | refine ok_skip ?_ | refine ok_label ?_ | refine ok_exit ?_ | refine ok_ret ?_ | refine ok_region (fun M hM => ?_) | refine vif_t ?_ | refine vif_f ?_ | refine fin_normal ?_ | refine fin_ret ?_ | (refine hM _ ?_; clear hM M)) | ((with_reducible refine nls_q ?_) <;> (first | rfl | assumption | (simp only [znl,nls_pte]; (first | done | fail)))) | (with_reducible refine ok_cond (by (simp only [↓reduceIte,zlk,Nat.reduceEqDiff,reduceCtorEq]); exact rfl) ?_) | ((with_reducible first | refine vif_intro (fun hc => ?_) (fun hc => ?_) | refine vifW_intro (fun hc => ?_) (fun hc => ?_)) <;> (try simp (disch := omega) only [zhb] at hc) <;> (try (exfalso; omega)) <;> (try subst hc)) | (with_reducible refine cndW_intro (by omega) ?_) | (simp (config := { maxSteps := 400000 }) only [↓zvs_pre,↓reduceIte,zvs,reduceCtorEq,Nat.reduceEqDiff,Nat.reduceAdd,Nat.reduceLeDiff,Nat.reduceMul,Int.reduceBNe,Int.reduceBEq,Int.reduceEq,Int.reduceNe,Int.reduceLT,Int.reduceLE,Int.reduceGT,Int.reduceGE,Int.reduceNeg,Int.reduceToNat,Nat.reduceLT,Nat.reduceSub,tab,hS,Try.results52,List.toList_toArray]) | (simp (disch := omega) only [ziw]))
    rw [e]
    simp only [framesV]
    simp only [zrds]
    exact rd_nil
  · rw [hF] at h1
    simp only [findV] at h1
    obtain ⟨_, g1, g2, g3, g4, g5, g6, g7, g8⟩ := findO_some ha.1 hF
    have h2 := There_spec fr hf f
    refine vcallW_intro (call_data (h1) (by first | rfl | assumption | (simp only [znl,nls_pte]; (first | done | fail))) rfl ?_)
    repeat' (first | (with_reducible first | refine ok_seq ?_ | refine xs1 ?_ | refine xs2 ?_ | refine xs3 ?_ | refine xb1 ?_ | refine xb2 ?_ | refine xb3 (by decide) ?_ | refine xb4 ?_ | refine xl2 ?_ | refine xl3 ?_ | refine xc2 ?_ | refine xc3 ?_ | refine ok_block ?_ | refine ok_scope ?_ | refine ok_skip ?_ | refine ok_label ?_ | refine ok_exit ?_ | refine ok_ret ?_ | refine ok_region (fun M hM => ?_) | refine vif_t ?_ | refine vif_f ?_ | refine fin_normal ?_ | refine fin_ret ?_ | (refine hM _ ?_; clear hM M)) | ((with_reducible refine nls_q ?_) <;> (first | rfl | assumption | (simp only [znl,nls_pte]; (first | done | fail)))) | (with_reducible refine ok_cond (by (simp only [↓reduceIte,zlk,Nat.reduceEqDiff,reduceCtorEq]); exact rfl) ?_) | ((with_reducible first | refine vif_intro (fun hc => ?_) (fun hc => ?_) | refine vifW_intro (fun hc => ?_) (fun hc => ?_)) <;> (try simp (disch := omega) only [zhb] at hc) <;> (try (exfalso; omega)) <;> (try subst hc)) | (with_reducible refine cndW_intro (by omega) ?_) | (simp (config := { maxSteps := 400000 }) only [↓zvs_pre,↓reduceIte,zvs,reduceCtorEq,Nat.reduceEqDiff,Nat.reduceAdd,Nat.reduceLeDiff,Nat.reduceMul,Int.reduceBNe,Int.reduceBEq,Int.reduceEq,Int.reduceNe,Int.reduceLT,Int.reduceLE,Int.reduceGT,Int.reduceGE,Int.reduceNeg,Int.reduceToNat,Nat.reduceLT,Nat.reduceSub,tab,hS,Try.results52,List.toList_toArray]) | (simp (disch := omega) only [ziw]))
    by_cases ht : thereF fr f = true
    · have ht' := thereF_iff.1 ht
      have e : setO fr s a b = some (fr.set f.toNat ((fr.getD f.toNat []).set i.toNat b)) := by unfold setO; rw [hF]; dsimp only; rw [if_pos ht]
      rw [ht] at h2
      refine vcallW_intro (call_data (h2) (by first | rfl | assumption | (simp only [znl,nls_pte]; (first | done | fail))) rfl ?_)
      repeat' (first | (with_reducible first | refine ok_seq ?_ | refine xs1 ?_ | refine xs2 ?_ | refine xs3 ?_ | refine xb1 ?_ | refine xb2 ?_ | refine xb3 (by decide) ?_ | refine xb4 ?_ | refine xl2 ?_ | refine xl3 ?_ | refine xc2 ?_ | refine xc3 ?_ | refine ok_block ?_ | refine ok_scope ?_ | refine ok_skip ?_ | refine ok_label ?_ | refine ok_exit ?_ | refine ok_ret ?_ | refine ok_region (fun M hM => ?_) | refine vif_t ?_ | refine vif_f ?_ | refine fin_normal ?_ | refine fin_ret ?_ | (refine hM _ ?_; clear hM M)) | ((with_reducible refine nls_q ?_) <;> (first | rfl | assumption | (simp only [znl,nls_pte]; (first | done | fail)))) | (with_reducible refine ok_cond (by (simp only [↓reduceIte,zlk,Nat.reduceEqDiff,reduceCtorEq]); exact rfl) ?_) | ((with_reducible first | refine vif_intro (fun hc => ?_) (fun hc => ?_) | refine vifW_intro (fun hc => ?_) (fun hc => ?_)) <;> (try simp (disch := omega) only [zhb] at hc) <;> (try (exfalso; omega)) <;> (try subst hc)) | (with_reducible refine cndW_intro (by omega) ?_) | (simp (config := { maxSteps := 400000 }) only [↓zvs_pre,↓reduceIte,zvs,reduceCtorEq,Nat.reduceEqDiff,Nat.reduceAdd,Nat.reduceLeDiff,Nat.reduceMul,Int.reduceBNe,Int.reduceBEq,Int.reduceEq,Int.reduceNe,Int.reduceLT,Int.reduceLE,Int.reduceGT,Int.reduceGE,Int.reduceNeg,Int.reduceToNat,Nat.reduceLT,Nat.reduceSub,tab,hS,Try.results52,List.toList_toArray]) | (simp (disch := omega) only [ziw]))
      have hb : bytesOf [VV.int .u8 (b.toNat : Int)] = some [b] := bytesOf_enc [b]
      refine ok_draw 20 (by kernel_rfl) (by decide +kernel) (by intro m hm; simp only [upd_ap,rows_cons,rows_nil]; (repeat (first | rfl | rw [if_neg (by omega)]))) (fun M hM => ?_); simp only [List.take_succ_cons,List.take_zero,List.drop_succ_cons,List.drop_zero]
      repeat' (first | (with_reducible first | refine ok_seq ?_ | refine xs1 ?_ | refine xs2 ?_ | refine xs3 ?_ | refine xb1 ?_ | refine xb2 ?_ | refine xb3 (by decide) ?_ | refine xb4 ?_ | refine xl2 ?_ | refine xl3 ?_ | refine xc2 ?_ | refine xc3 ?_ | refine ok_block ?_ | refine ok_scope ?_ | refine ok_skip ?_ | refine ok_label ?_ | refine ok_exit ?_ | refine ok_ret ?_ | refine ok_region (fun M hM => ?_) | refine vif_t ?_ | refine vif_f ?_ | refine fin_normal ?_ | refine fin_ret ?_ | (refine hM _ ?_; clear hM M)) | ((with_reducible refine nls_q ?_) <;> (first | rfl | assumption | (simp only [znl,nls_pte]; (first | done | fail)))) | (with_reducible refine ok_cond (by (simp only [↓reduceIte,zlk,Nat.reduceEqDiff,reduceCtorEq]); exact rfl) ?_) | ((with_reducible first | refine vif_intro (fun hc => ?_) (fun hc => ?_) | refine vifW_intro (fun hc => ?_) (fun hc => ?_)) <;> (try simp (disch := omega) only [zhb] at hc) <;> (try (exfalso; omega)) <;> (try subst hc)) | (with_reducible refine cndW_intro (by omega) ?_) | (simp (config := { maxSteps := 400000 }) only [↓zvs_pre,↓reduceIte,zvs,reduceCtorEq,Nat.reduceEqDiff,Nat.reduceAdd,Nat.reduceLeDiff,Nat.reduceMul,Int.reduceBNe,Int.reduceBEq,Int.reduceEq,Int.reduceNe,Int.reduceLT,Int.reduceLE,Int.reduceGT,Int.reduceGE,Int.reduceNeg,Int.reduceToNat,Nat.reduceLT,Nat.reduceSub,tab,hS,hb,Try.results52,List.toList_toArray]) | (simp (disch := omega) only [ziw]))
      rw [e]
      simp only [framesV]
      simp only [zrds]
      (refine rd_own (by (simp only [↓reduceIte,zlk,Nat.reduceEqDiff,reduceCtorEq]); exact rfl) ?_ ?_ ?_) <;> (first | rfl | assumption | (simp only [znl,nls_pte]; (first | done | fail)) | (simp; done) | (simp; omega) | skip)
      have e2 : ∀ l : List UInt8, l.length = 128 → List.take i.toNat l ++ [b] ++ List.take (l.length - (i + 1).toNat) (List.drop (i + 1).toNat l) = l.set i.toNat b := fun l hl => by
        rw [show (i + 1).toNat = i.toNat + 1 by omega, ← set_row _ _ _ (by omega)]
        congr 1
        exact List.take_of_length_le (by rw [List.length_drop]; omega)
      rw [e2 _ ht'.2.2, List.map_set]
    · have e : setO fr s a b = none := by unfold setO; rw [hF]; dsimp only; rw [if_neg ht]
      rw [Bool.not_eq_true] at ht
      rw [ht] at h2
      refine vcallW_intro (call_data (h2) (by first | rfl | assumption | (simp only [znl,nls_pte]; (first | done | fail))) rfl ?_)
      repeat' (first | (with_reducible first | refine ok_seq ?_ | refine xs1 ?_ | refine xs2 ?_ | refine xs3 ?_ | refine xb1 ?_ | refine xb2 ?_ | refine xb3 (by decide) ?_ | refine xb4 ?_ | refine xl2 ?_ | refine xl3 ?_ | refine xc2 ?_ | refine xc3 ?_ | refine ok_block ?_ | refine ok_scope ?_ | refine ok_skip ?_ | refine ok_label ?_ | refine ok_exit ?_ | refine ok_ret ?_ | refine ok_region (fun M hM => ?_) | refine vif_t ?_ | refine vif_f ?_ | refine fin_normal ?_ | refine fin_ret ?_ | (refine hM _ ?_; clear hM M)) | ((with_reducible refine nls_q ?_) <;> (first | rfl | assumption | (simp only [znl,nls_pte]; (first | done | fail)))) | (with_reducible refine ok_cond (by (simp only [↓reduceIte,zlk,Nat.reduceEqDiff,reduceCtorEq]); exact rfl) ?_) | ((with_reducible first | refine vif_intro (fun hc => ?_) (fun hc => ?_) | refine vifW_intro (fun hc => ?_) (fun hc => ?_)) <;> (try simp (disch := omega) only [zhb] at hc) <;> (try (exfalso; omega)) <;> (try subst hc)) | (with_reducible refine cndW_intro (by omega) ?_) | (simp (config := { maxSteps := 400000 }) only [↓zvs_pre,↓reduceIte,zvs,reduceCtorEq,Nat.reduceEqDiff,Nat.reduceAdd,Nat.reduceLeDiff,Nat.reduceMul,Int.reduceBNe,Int.reduceBEq,Int.reduceEq,Int.reduceNe,Int.reduceLT,Int.reduceLE,Int.reduceGT,Int.reduceGE,Int.reduceNeg,Int.reduceToNat,Nat.reduceLT,Nat.reduceSub,tab,hS,Try.results52,List.toList_toArray]) | (simp (disch := omega) only [ziw]))
      rw [e]
      simp only [framesV]
      simp only [zrds]
      exact rd_nil
end Go.Proofs.Ytigkgdjghelaoaa.V
