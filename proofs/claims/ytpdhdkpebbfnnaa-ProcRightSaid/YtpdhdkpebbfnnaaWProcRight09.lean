/-
  Parts of the proof of ProcRight: TF, Vkeep, Vmid, TG, TH, TI, TM, Vdel, TL, TN, TO, TP, TQ, TR, TS, TU, TV.
  Conditions: none.
-/
import Derived.Test.YtpdhdkpebbfnnaaWProcRight08
import Derived.Test.YtpdhdkpebbfnnaaWProcRight06
import Derived.Test.YtpdhdkpebbfnnaaWProcRight07
import Derived.Test.YtpdhdkpebbfnnaaWProcRight03
import Derived.Test.YtpdhdkpebbfnnaaWProcRight04
import Derived.Test.YtpdhdkpebbfnnaaWProcRight05
import Derived.WalkKit
import Derived.Deep.RegionLaw
set_option linter.unusedVariables false
set_option linter.unusedSimpArgs false
set_option linter.unusedSectionVars false
set_option linter.defProp false
section
namespace Go.Proofs.Ytpdhdkpebbfnnaa.V
open Go
theorem ynTF {l : List VV} (h : nls l = true := by first|rfl|assumption|(simp only [znl,znTF];(first|done|fail))) : nls l = true := h
set_option maxRecDepth 100000
def znTF := And.intro @jO <| And.intro @jP <| And.intro @jQ <| And.intro @jR <| And.intro @jS <| And.intro @jT <| And.intro @jU <| True.intro
set_option maxHeartbeats 8000000
def bl2s (L Z w : List UInt8) : List VV := (L :: Z :: w :: List.replicate 13 Z).map .str
theorem bl2s_len (L Z w : List UInt8) : (bl2s L Z w).length = 16 := by simp [bl2s]
theorem bl1_2s (L Z : List UInt8) : bl1 L Z 15 = bl2s L Z Z := rfl
theorem bl2s_at (L Z w : List UInt8) : (bl2s L Z w)[2]? = some (.str w) := rfl
theorem bl2s_set (L Z w x : List UInt8) : (bl2s L Z w).set 2 (.str x) = bl2s L Z x := rfl
theorem bl2s_nl (L Z w : List UInt8) : nls (bl2s L Z w) = true := nls_mapStr _
def vol16 : Frames := headG 16 4 :: List.replicate 128 0 :: bitsT 5 :: List.replicate 13 (List.replicate 128 0)
theorem vol16_len : vol16.length = 16 := rfl
theorem vol16_all : ∀ s ∈ vol16, s.length = 128 := by
 intro s hs
 simp only [vol16,List.mem_cons,List.mem_replicate] at hs
 rcases hs with rfl | rfl | rfl | ⟨_, rfl⟩
 ·simp [headG, putLE_len]
 ·exact List.length_replicate
 ·exact bitsT_len 5 (by omega)
 ·exact List.length_replicate
theorem fmt17s_spec : Spec Try.prog 85 [.int .i64 16, .int .i64 4] (.tup [encStrs vol16, .int .i64 0]) := by
 have hP : Spec Try.prog 120 [.int .i64 16, .int .i64 4] (.tup [.agg [.int .i64 16, .int .i64 4, .int .i64 1, .int .i64 2, .int .i64 3, .int .i64 5], .int .i64 0]) := plan_spec 16 4 (by omega) (by omega)
 have hH : Spec Try.prog 121 [.agg [.int .i64 16, .int .i64 4, .int .i64 1, .int .i64 2, .int .i64 3, .int .i64 5]] (.str (headG 16 4)) := head_spec ⟨16, 4, 1, 2, 3, 5⟩ (by decide) (by decide)
 have hL : (headG 16 4).length = 128 := by simp [headG, putLE_len]
 have hZ : Spec Try.prog 122 [.int .i64 128] (.str (List.replicate 128 0)) := zeros17_spec 128 (by omega)
 have hv0 : vol16 = headG 16 4 :: List.replicate 128 0 :: bitsT 5 :: List.replicate 13 (List.replicate 128 0) := rfl
 have key : ∃ t : Nat → List UInt8, t = bitsT ∧ t 0 = List.replicate 128 0 ∧ ∀ k, k < 5 → (t k).length = 128 ∧ (t (k + 1)).length = 128 ∧ Spec Try.prog 123 [.str (t k), .int .i64 k] (.str (t (k + 1))) :=
  ⟨bitsT, rfl, rfl, fun k hk => ⟨bitsT_len k (by omega), bitsT_len (k + 1) (by omega), turn_specX _ (bitsT_len k (by omega)) k (by omega)⟩⟩
 obtain ⟨t, et, t0, ht⟩ := key
 rw [hv0, ← et]
 clear et hv0
 obtain ⟨Z, eZ⟩ : ∃ Z : List UInt8, Z = List.replicate 128 0 := ⟨_, rfl⟩
 have hZl : Z.length = 128 := by rw [eZ, List.length_replicate]
 rw [← eZ] at hZ t0
 rw [← eZ]
 clear eZ
 generalize headG 16 4 = L at hH hL
 have h6 : ∀ a : VV, List.replicate 6 a = [a, a, a, a, a, a] := fun _ => rfl
 obtain ⟨b1, e1, b1s, b1l, b1n⟩ : ∃ b1 : Nat → List VV, b1 = bl1 L Z ∧ (∀ j, b1 j ++ [.str Z] = b1 (j + 1)) ∧ (∀ j, (b1 j).length = j + 1) ∧ ∀ j, nls (b1 j) = true := ⟨_, rfl, bl1_succ L Z, bl1_len L Z, bl1_nl L Z⟩
 obtain ⟨b2, e2, b2l, b2n, b2a, b2s⟩ : ∃ b2 : List UInt8 → List VV, b2 = bl2s L Z ∧ (∀ w, (b2 w).length = 16) ∧ (∀ w, nls (b2 w) = true) ∧ (∀ w, (b2 w)[2]? = some (.str w)) ∧ ∀ w x, (b2 w).set 2 (.str x) = b2 x := ⟨_, rfl, bl2s_len L Z, bl2s_nl L Z, bl2s_at L Z, bl2s_set L Z⟩
 have e12 : b1 15 = b2 Z := by rw [e1, e2]; exact bl1_2s L Z
 have e10 : [.str L] = b1 0 := by rw [e1]; rfl
 have e25 : b2 (t 5) = (L :: Z :: t 5 :: List.replicate 13 Z).map .str := by rw [e2]; rfl
 have b10n := b1n 0
 have b20n := b2n Z
 clear e1 e2
 refine spec_ok Try.func85 rfl rfl (by kernel_rfl) (k := 2) rfl (by decide) ?_
 repeat' (first|(with_reducible first|refine yrl (by constructor) ?_|refine jk (fun M hM=>?_)|(refine hM _ ?_;clear hM M)|refine yx3 ?_|refine yxa ?_ ?_|refine yxb ?_ ?_)|((with_reducible refine je ?_)<;>exact ynTF)|(with_reducible refine yxc ?_)|((with_reducible refine yxi (fun hc=>?_) (fun hc=>?_))<;>(try simp (disch:=omega) only [zhb] at hc)<;>(try (exfalso;omega))<;>(try subst hc))|(with_reducible refine yxw ?_)|(simp (config := { maxSteps := 400000 }) only [↓jt,↓reduceIte,zvs,reduceCtorEq,seval,-List.reduceReplicate,tab,h6,Try.results85,jTA])|(simp (disch:=omega) only [ziw]))
 refine ok_loop (fun j : Nat => ⟨slots [(0, .int .i64 16), (6, .ptr 0 []), (8, .sl (some (1, [], 0)) (j + 1)), (9, .int .i64 ((j + 1 : Nat) : Int))], rows [(0, .row geoSh (.agg [.int .i64 16, .int .i64 4, .int .i64 1, .int .i64 2, .int .i64 3, .int .i64 5])), (1, .row (.arr (j + 1) .cell) (.agg (b1 j)))], 2⟩) (fun j => j ≤ 15) (fun j => 15 - j) 0 ?_ (Nat.zero_le _) (fun j hj => ?_)
 ·(refine yrn [(0, 0), (1, 1)] false ?_ ?_<;>(repeat' (first|(with_reducible first|exact ya1|exact ya2|exact ya3|refine jx rfl (by first|rfl|assumption|(simp only [znl,znTF];(first|done|fail)))|exact ya5|exact ya7|exact jy|exact jz|refine jA ?_|refine ya9 ?_ ?_ ?_|refine jC rfl (by first|rfl|assumption|(simp only [znl,znTF];(first|done|fail)))|refine MR.agg (MRL.cons ?_ ?_)|refine MR.fn ?_|refine MRL.cons ?_ ?_|exact MRL.nil|refine jE ?_ ?_|exact jF|exact jG|refine yb1 ?_ ?_|refine MB.row ?_|refine jI ?_ ?_|exact ya8|refine jJ rfl (by first|rfl|assumption|(simp only [znl,znTF];(first|done|fail)))|refine yb2 ?_|rfl)|(simp only [znl,znTF];(first|done|fail))|(simp only [↓reduceIte,zlk,Nat.reduceEqDiff,reduceCtorEq])|(with_reducible first|refine jJ ?_ ?_|refine ya5 ?_|refine ju ?_|refine jv ?_|refine jw ?_|refine jx ?_ (by first|rfl|assumption|(simp only [znl,znTF];(first|done|fail)))|refine jC ?_ (by first|rfl|assumption|(simp only [znl,znTF];(first|done|fail)))))))
  all_goals (first | rfl | exact e10 | exact e10.symm)
 by_cases hlt : j < 15
 ·have hb := b1l j
  have hn1 := b1n j
  have hn2 := b1n (j + 1)
  repeat' (first|(with_reducible first|refine yrl (by constructor) ?_|refine jk (fun M hM=>?_)|(refine hM _ ?_;clear hM M)|refine yx3 ?_|refine yxa ?_ ?_|refine yxb ?_ ?_)|((with_reducible refine je ?_)<;>exact ynTF)|(with_reducible refine yxc ?_)|((with_reducible refine yxi (fun hc=>?_) (fun hc=>?_))<;>(try simp (disch:=omega) only [zhb] at hc)<;>(try (exfalso;omega))<;>(try subst hc))|(with_reducible refine yxw ?_)|(simp (config := { maxSteps := 400000 }) only [↓jt,↓reduceIte,zvs,reduceCtorEq,seval,-List.reduceReplicate,tab,h6,hb,Try.results85,jTA])|(simp (disch:=omega) only [ziw]))
  refine xl1 (j + 1) ?_ (by show j + 1 ≤ 15; omega) (by show 15 - (j + 1) < 15 - j; omega)
  (refine yrn [(0, 0), (1, 3)] false ?_ ?_<;>(repeat' (first|(with_reducible first|exact ya1|exact ya2|exact ya3|refine jx rfl (by first|rfl|assumption|(simp only [znl,znTF];(first|done|fail)))|exact ya5|exact ya7|exact jy|exact jz|refine jA ?_|refine ya9 ?_ ?_ ?_|refine jC rfl (by first|rfl|assumption|(simp only [znl,znTF];(first|done|fail)))|refine MR.agg (MRL.cons ?_ ?_)|refine MR.fn ?_|refine MRL.cons ?_ ?_|exact MRL.nil|refine jE ?_ ?_|exact jF|exact jG|refine yb1 ?_ ?_|refine MB.row ?_|refine jI ?_ ?_|exact ya8|refine jJ rfl (by first|rfl|assumption|(simp only [znl,znTF];(first|done|fail)))|refine yb2 ?_|rfl)|(simp only [znl,znTF];(first|done|fail))|(simp only [↓reduceIte,zlk,Nat.reduceEqDiff,reduceCtorEq])|(with_reducible first|refine jJ ?_ ?_|refine ya5 ?_|refine ju ?_|refine jv ?_|refine jw ?_|refine jx ?_ (by first|rfl|assumption|(simp only [znl,znTF];(first|done|fail)))|refine jC ?_ (by first|rfl|assumption|(simp only [znl,znTF];(first|done|fail)))))))
  all_goals (first | rfl | exact b1s j | exact (b1s j).symm)
 ·obtain rfl : j = 15 := by omega
  have z16 : ((15 + 1 : Nat) : Int) = 16 := rfl
  repeat' (first|(with_reducible first|refine yrl (by constructor) ?_|refine jk (fun M hM=>?_)|(refine hM _ ?_;clear hM M)|refine yx3 ?_|refine yxa ?_ ?_|refine yxb ?_ ?_)|((with_reducible refine je ?_)<;>exact ynTF)|(with_reducible refine yxc ?_)|((with_reducible refine yxi (fun hc=>?_) (fun hc=>?_))<;>(try simp (disch:=omega) only [zhb] at hc)<;>(try (exfalso;omega))<;>(try subst hc))|(with_reducible refine yxw ?_)|(simp (config := { maxSteps := 400000 }) only [↓jt,↓reduceIte,zvs,reduceCtorEq,seval,-List.reduceReplicate,tab,h6,z16,Try.results85,jTA])|(simp (disch:=omega) only [ziw]))
  refine ok_loop (fun k : Nat => ⟨slots [(6, .ptr 0 []), (8, .sl (some (1, [], 0)) 16), (10, .int .i64 k)], rows [(0, .row geoSh (.agg [.int .i64 16, .int .i64 4, .int .i64 1, .int .i64 2, .int .i64 3, .int .i64 5])), (1, .row (.arr 16 .cell) (.agg (b2 (t k))))], 2⟩) (fun k => k ≤ 5) (fun k => 5 - k) 0 ?_ (Nat.zero_le _) (fun k hk => ?_)
  ·rw [← t0] at b20n
   (refine yrn [(0, 0), (1, 1)] false ?_ ?_<;>(repeat' (first|(with_reducible first|exact ya1|exact ya2|exact ya3|refine jx rfl (by first|rfl|assumption|(simp only [znl,znTF];(first|done|fail)))|exact ya5|exact ya7|exact jy|exact jz|refine jA ?_|refine ya9 ?_ ?_ ?_|refine jC rfl (by first|rfl|assumption|(simp only [znl,znTF];(first|done|fail)))|refine MR.agg (MRL.cons ?_ ?_)|refine MR.fn ?_|refine MRL.cons ?_ ?_|exact MRL.nil|refine jE ?_ ?_|exact jF|exact jG|refine yb1 ?_ ?_|refine MB.row ?_|refine jI ?_ ?_|exact ya8|refine jJ rfl (by first|rfl|assumption|(simp only [znl,znTF];(first|done|fail)))|refine yb2 ?_|rfl)|(simp only [znl,znTF];(first|done|fail))|(simp only [↓reduceIte,zlk,Nat.reduceEqDiff,reduceCtorEq])|(with_reducible first|refine jJ ?_ ?_|refine ya5 ?_|refine ju ?_|refine jv ?_|refine jw ?_|refine jx ?_ (by first|rfl|assumption|(simp only [znl,znTF];(first|done|fail)))|refine jC ?_ (by first|rfl|assumption|(simp only [znl,znTF];(first|done|fail)))))))
   all_goals (first | rfl | (rw [t0]; exact e12) | (rw [t0]; exact e12.symm))
  by_cases hlt : k < 5
  ·obtain ⟨hk1, hk2, hk3⟩ := ht k hlt
   have hb := b2l (t k)
   have hb2 := b2a (t k)
   have hb3 := b2s (t k)
   have hn1 := b2n (t k)
   have hn2 := b2n (t (k + 1))
   repeat' (first|(with_reducible first|refine yrl (by constructor) ?_|refine jk (fun M hM=>?_)|(refine hM _ ?_;clear hM M)|refine yx3 ?_|refine yxa ?_ ?_|refine yxb ?_ ?_)|((with_reducible refine je ?_)<;>exact ynTF)|(with_reducible refine yxc ?_)|((with_reducible refine yxi (fun hc=>?_) (fun hc=>?_))<;>(try simp (disch:=omega) only [zhb] at hc)<;>(try (exfalso;omega))<;>(try subst hc))|(with_reducible refine yxw ?_)|(simp (config := { maxSteps := 400000 }) only [↓jt,↓reduceIte,zvs,reduceCtorEq,seval,-List.reduceReplicate,tab,h6,hb,hb2,hb3,Try.results85,jTA])|(simp (disch:=omega) only [ziw]))
   refine xl1 (k + 1) ?_ (by show k + 1 ≤ 5; omega) (by show 5 - (k + 1) < 5 - k; omega)
   (refine yrn [(0, 0), (1, 1)] false ?_ ?_<;>(repeat' (first|(with_reducible first|exact ya1|exact ya2|exact ya3|refine jx rfl (by first|rfl|assumption|(simp only [znl,znTF];(first|done|fail)))|exact ya5|exact ya7|exact jy|exact jz|refine jA ?_|refine ya9 ?_ ?_ ?_|refine jC rfl (by first|rfl|assumption|(simp only [znl,znTF];(first|done|fail)))|refine MR.agg (MRL.cons ?_ ?_)|refine MR.fn ?_|refine MRL.cons ?_ ?_|exact MRL.nil|refine jE ?_ ?_|exact jF|exact jG|refine yb1 ?_ ?_|refine MB.row ?_|refine jI ?_ ?_|exact ya8|refine jJ rfl (by first|rfl|assumption|(simp only [znl,znTF];(first|done|fail)))|refine yb2 ?_|rfl)|(simp only [znl,znTF];(first|done|fail))|(simp only [↓reduceIte,zlk,Nat.reduceEqDiff,reduceCtorEq])|(with_reducible first|refine jJ ?_ ?_|refine ya5 ?_|refine ju ?_|refine jv ?_|refine jw ?_|refine jx ?_ (by first|rfl|assumption|(simp only [znl,znTF];(first|done|fail)))|refine jC ?_ (by first|rfl|assumption|(simp only [znl,znTF];(first|done|fail)))))))
   all_goals (first | rfl | (simp; done))
  ·obtain rfl : k = 5 := by omega
   repeat' (first|(with_reducible first|refine yrl (by constructor) ?_|refine jk (fun M hM=>?_)|(refine hM _ ?_;clear hM M)|refine yx3 ?_|refine yxa ?_ ?_|refine yxb ?_ ?_)|((with_reducible refine je ?_)<;>exact ynTF)|(with_reducible refine yxc ?_)|((with_reducible refine yxi (fun hc=>?_) (fun hc=>?_))<;>(try simp (disch:=omega) only [zhb] at hc)<;>(try (exfalso;omega))<;>(try subst hc))|(with_reducible refine yxw ?_)|(simp (config := { maxSteps := 400000 }) only [↓jt,↓reduceIte,zvs,reduceCtorEq,seval,-List.reduceReplicate,tab,h6,Try.results85,jTA])|(simp (disch:=omega) only [ziw]))
   all_goals (try (exfalso; omega))
   rw [e25]
   have hl6 : (L :: Z :: t 5 :: List.replicate 13 Z).length = 16 := rfl
   simp only [zrds]
   (refine rd_own (by (simp only [↓reduceIte,zlk,Nat.reduceEqDiff,reduceCtorEq]); exact rfl) ?_ ?_ ?_) <;> (first | rfl | assumption | (simp only [znl,znTF];(first|done|fail)) | (simp; done) | (simp; omega) | skip)
theorem fmt16s_spec (v : Frames) (hv : v.length = 16) (hs : ∀ s ∈ v, s.length = 128) : ∃ Z : List UInt8, Z.length = 128 ∧ Spec Try.prog 86 [encStrs v] (drV (⟨List.replicate 33 Z ++ v, [], -1⟩, 0)) := by
 have hZ : Spec Try.prog 124 [.int .i64 128] (.str (List.replicate 128 0)) := zeros16_spec 128 (by omega)
 obtain ⟨Z, eZ⟩ : ∃ Z : List UInt8, Z = List.replicate 128 0 := ⟨_, rfl⟩
 have hZl : Z.length = 128 := by rw [eZ, List.length_replicate]
 rw [← eZ] at hZ
 clear eZ
 refine ⟨Z, hZl, ?_⟩
 refine spec_ok Try.func86 rfl rfl (by kernel_rfl) (k := 1) rfl (by decide) ?_
 repeat' (first|(with_reducible first|refine yrl (by constructor) ?_|refine jk (fun M hM=>?_)|(refine hM _ ?_;clear hM M)|refine yx3 ?_|refine yxa ?_ ?_|refine yxb ?_ ?_)|((with_reducible refine je ?_)<;>exact ynTF)|(with_reducible refine yxc ?_)|((with_reducible refine yxi (fun hc=>?_) (fun hc=>?_))<;>(try simp (disch:=omega) only [zhb] at hc)<;>(try (exfalso;omega))<;>(try subst hc))|(with_reducible refine yxw ?_)|(simp (config := { maxSteps := 400000 }) only [↓jt,↓reduceIte,zvs,reduceCtorEq,seval,-List.reduceReplicate,tab,Try.results86,jTA])|(simp (disch:=omega) only [ziw]))
 all_goals (try (exfalso; omega))
 refine ok_loop (fun k : Nat => ⟨slots [(0, encStrs v), (2, .ptr 0 []), (3, .int .i64 0), (4, .ptr 1 []), (5, .int .i64 k)], rows [(0, .row (.st [.cell, .cell, .cell]) (.agg [.sl none 0, .sl none 0, .int .i64 0])), (1, .row (.st [.cell, .cell, .cell]) (.agg [.sl (some (2, [], 0)) k, .sl none 0, .int .i64 (-1)])), (2, .row (.arr k .cell) (.agg (List.replicate k (.str Z))))], 3⟩) (fun k => k ≤ 33) (fun k => 33 - k) 0 ?_ (Nat.zero_le _) (fun k hk => ?_)
 ·(refine yrn [(0, 0), (1, 1)] false ?_ ?_<;>(repeat' (first|(with_reducible first|exact ya1|exact ya2|exact ya3|refine jx rfl (by first|rfl|assumption|(simp only [znl,znTF];(first|done|fail)))|exact ya5|exact ya7|exact jy|exact jz|refine jA ?_|refine ya9 ?_ ?_ ?_|refine jC rfl (by first|rfl|assumption|(simp only [znl,znTF];(first|done|fail)))|refine MR.agg (MRL.cons ?_ ?_)|refine MR.fn ?_|refine MRL.cons ?_ ?_|exact MRL.nil|refine jE ?_ ?_|exact jF|exact jG|refine yb1 ?_ ?_|refine MB.row ?_|refine jI ?_ ?_|exact ya8|refine jJ rfl (by first|rfl|assumption|(simp only [znl,znTF];(first|done|fail)))|refine yb2 ?_|rfl)|(simp only [znl,znTF];(first|done|fail))|(simp only [↓reduceIte,zlk,Nat.reduceEqDiff,reduceCtorEq])|(with_reducible first|refine jJ ?_ ?_|refine ya5 ?_|refine ju ?_|refine jv ?_|refine jw ?_|refine jx ?_ (by first|rfl|assumption|(simp only [znl,znTF];(first|done|fail)))|refine jC ?_ (by first|rfl|assumption|(simp only [znl,znTF];(first|done|fail)))))))
  all_goals (first | rfl | (simp; done))
 by_cases hlt : k < 33
 ·repeat' (first|(with_reducible first|refine yrl (by constructor) ?_|refine jk (fun M hM=>?_)|(refine hM _ ?_;clear hM M)|refine yx3 ?_|refine yxa ?_ ?_|refine yxb ?_ ?_)|((with_reducible refine je ?_)<;>exact ynTF)|(with_reducible refine yxc ?_)|((with_reducible refine yxi (fun hc=>?_) (fun hc=>?_))<;>(try simp (disch:=omega) only [zhb] at hc)<;>(try (exfalso;omega))<;>(try subst hc))|(with_reducible refine yxw ?_)|(simp (config := { maxSteps := 400000 }) only [↓jt,↓reduceIte,zvs,reduceCtorEq,seval,-List.reduceReplicate,tab,Try.results86,jTA])|(simp (disch:=omega) only [ziw]))
  refine ok_draw 4 (by kernel_rfl) (by decide +kernel) (by intro m hm; simp only [upd_ap,rows_cons,rows_nil]; (repeat (first | rfl | rw [if_neg (by omega)]))) (fun M hM => ?_); simp only [List.take_succ_cons,List.take_zero,List.drop_succ_cons,List.drop_zero]
  repeat' (first|(with_reducible first|refine yrl (by constructor) ?_|refine jk (fun M hM=>?_)|(refine hM _ ?_;clear hM M)|refine yx3 ?_|refine yxa ?_ ?_|refine yxb ?_ ?_)|((with_reducible refine je ?_)<;>exact ynTF)|(with_reducible refine yxc ?_)|((with_reducible refine yxi (fun hc=>?_) (fun hc=>?_))<;>(try simp (disch:=omega) only [zhb] at hc)<;>(try (exfalso;omega))<;>(try subst hc))|(with_reducible refine yxw ?_)|(simp (config := { maxSteps := 400000 }) only [↓jt,↓reduceIte,zvs,reduceCtorEq,seval,-List.reduceReplicate,tab,Try.results86,jTA])|(simp (disch:=omega) only [ziw]))
  refine xl1 (k + 1) ?_ (by show k + 1 ≤ 33; omega) (by show 33 - (k + 1) < 33 - k; omega)
  (refine yrn [(0, 0), (1, 1), (2, 259)] false ?_ ?_<;>(repeat' (first|(with_reducible first|exact ya1|exact ya2|exact ya3|refine jx rfl (by first|rfl|assumption|(simp only [znl,znTF];(first|done|fail)))|exact ya5|exact ya7|exact jy|exact jz|refine jA ?_|refine ya9 ?_ ?_ ?_|refine jC rfl (by first|rfl|assumption|(simp only [znl,znTF];(first|done|fail)))|refine MR.agg (MRL.cons ?_ ?_)|refine MR.fn ?_|refine MRL.cons ?_ ?_|exact MRL.nil|refine jE ?_ ?_|exact jF|exact jG|refine yb1 ?_ ?_|refine MB.row ?_|refine jI ?_ ?_|exact ya8|refine jJ rfl (by first|rfl|assumption|(simp only [znl,znTF];(first|done|fail)))|refine yb2 ?_|rfl)|(simp only [znl,znTF];(first|done|fail))|(simp only [↓reduceIte,zlk,Nat.reduceEqDiff,reduceCtorEq])|(with_reducible first|refine jJ ?_ ?_|refine ya5 ?_|refine ju ?_|refine jv ?_|refine jw ?_|refine jx ?_ (by first|rfl|assumption|(simp only [znl,znTF];(first|done|fail)))|refine jC ?_ (by first|rfl|assumption|(simp only [znl,znTF];(first|done|fail)))))))
  all_goals (first | rfl | (simp [List.replicate_succ']; done))
 ·obtain rfl : k = 33 := by omega
  repeat' (first|(with_reducible first|refine yrl (by constructor) ?_|refine jk (fun M hM=>?_)|(refine hM _ ?_;clear hM M)|refine yx3 ?_|refine yxa ?_ ?_|refine yxb ?_ ?_)|((with_reducible refine je ?_)<;>exact ynTF)|(with_reducible refine yxc ?_)|((with_reducible refine yxi (fun hc=>?_) (fun hc=>?_))<;>(try simp (disch:=omega) only [zhb] at hc)<;>(try (exfalso;omega))<;>(try subst hc))|(with_reducible refine yxw ?_)|(simp (config := { maxSteps := 400000 }) only [↓jt,↓reduceIte,zvs,reduceCtorEq,seval,-List.reduceReplicate,tab,Try.results86,jTA])|(simp (disch:=omega) only [ziw]))
  obtain ⟨W, hW, hWl⟩ : ∃ W : Frames, W = List.replicate 33 Z ∧ W.length = 33 := ⟨_, rfl, List.length_replicate⟩
  rw [← hW]
  refine ok_loop (fun k : Nat => ⟨slots [(0, encStrs v), (2, .ptr 0 []), (3, .int .i64 0), (4, .ptr 1 []), (28, .int .i64 16), (29, .int .i64 k)], rows [(0, .row (.st [.cell, .cell, .cell]) (.agg [.sl none 0, .sl none 0, .int .i64 0])), (1, .row (.st [.cell, .cell, .cell]) (.agg [.sl (some (2, [], 0)) (33 + k), .sl none 0, .int .i64 (-1)])), (2, .row (.arr (33 + k) .cell) (.agg ((W ++ v.take k).map .str)))], 3⟩) (fun k => k ≤ 16) (fun k => 16 - k) 0 ?_ (Nat.zero_le _) (fun k hk => ?_)
  ·(refine yrn [(0, 0), (1, 1), (2, 2)] false ?_ ?_<;>(repeat' (first|(with_reducible first|exact ya1|exact ya2|exact ya3|refine jx rfl (by first|rfl|assumption|(simp only [znl,znTF];(first|done|fail)))|exact ya5|exact ya7|exact jy|exact jz|refine jA ?_|refine ya9 ?_ ?_ ?_|refine jC rfl (by first|rfl|assumption|(simp only [znl,znTF];(first|done|fail)))|refine MR.agg (MRL.cons ?_ ?_)|refine MR.fn ?_|refine MRL.cons ?_ ?_|exact MRL.nil|refine jE ?_ ?_|exact jF|exact jG|refine yb1 ?_ ?_|refine MB.row ?_|refine jI ?_ ?_|exact ya8|refine jJ rfl (by first|rfl|assumption|(simp only [znl,znTF];(first|done|fail)))|refine yb2 ?_|rfl)|(simp only [znl,znTF];(first|done|fail))|(simp only [↓reduceIte,zlk,Nat.reduceEqDiff,reduceCtorEq])|(with_reducible first|refine jJ ?_ ?_|refine ya5 ?_|refine ju ?_|refine jv ?_|refine jw ?_|refine jx ?_ (by first|rfl|assumption|(simp only [znl,znTF];(first|done|fail)))|refine jC ?_ (by first|rfl|assumption|(simp only [znl,znTF];(first|done|fail)))))))
   all_goals (first | rfl | (rw [hW]; simp; done) | (simp; done))
  by_cases hlt : k < 16
  ·have e1 := take_snoc v k (by omega)
   have hsk := hs _ (getD_mem' (show k < v.length by omega))
   rw [default_str] at e1 hsk
   repeat' (first|(with_reducible first|refine yrl (by constructor) ?_|refine jk (fun M hM=>?_)|(refine hM _ ?_;clear hM M)|refine yx3 ?_|refine yxa ?_ ?_|refine yxb ?_ ?_)|((with_reducible refine je ?_)<;>exact ynTF)|(with_reducible refine yxc ?_)|((with_reducible refine yxi (fun hc=>?_) (fun hc=>?_))<;>(try simp (disch:=omega) only [zhb] at hc)<;>(try (exfalso;omega))<;>(try subst hc))|(with_reducible refine yxw ?_)|(simp (config := { maxSteps := 400000 }) only [↓jt,↓reduceIte,zvs,reduceCtorEq,seval,-List.reduceReplicate,tab,hsk,hWl,Try.results86,jTA])|(simp (disch:=omega) only [ziw]))
   refine ok_draw 7 (by kernel_rfl) (by decide +kernel) (by intro m hm; simp only [upd_ap,rows_cons,rows_nil]; (repeat (first | rfl | rw [if_neg (by omega)]))) (fun M hM => ?_); simp only [List.take_succ_cons,List.take_zero,List.drop_succ_cons,List.drop_zero]
   repeat' (first|(with_reducible first|refine yrl (by constructor) ?_|refine jk (fun M hM=>?_)|(refine hM _ ?_;clear hM M)|refine yx3 ?_|refine yxa ?_ ?_|refine yxb ?_ ?_)|((with_reducible refine je ?_)<;>exact ynTF)|(with_reducible refine yxc ?_)|((with_reducible refine yxi (fun hc=>?_) (fun hc=>?_))<;>(try simp (disch:=omega) only [zhb] at hc)<;>(try (exfalso;omega))<;>(try subst hc))|(with_reducible refine yxw ?_)|(simp (config := { maxSteps := 400000 }) only [↓jt,↓reduceIte,zvs,reduceCtorEq,seval,-List.reduceReplicate,tab,hsk,hWl,Try.results86,jTA])|(simp (disch:=omega) only [ziw]))
   refine xl1 (k + 1) ?_ (by show k + 1 ≤ 16; omega) (by show 16 - (k + 1) < 16 - k; omega)
   (refine yrn [(0, 0), (1, 1), (2, 451)] false ?_ ?_<;>(repeat' (first|(with_reducible first|exact ya1|exact ya2|exact ya3|refine jx rfl (by first|rfl|assumption|(simp only [znl,znTF];(first|done|fail)))|exact ya5|exact ya7|exact jy|exact jz|refine jA ?_|refine ya9 ?_ ?_ ?_|refine jC rfl (by first|rfl|assumption|(simp only [znl,znTF];(first|done|fail)))|refine MR.agg (MRL.cons ?_ ?_)|refine MR.fn ?_|refine MRL.cons ?_ ?_|exact MRL.nil|refine jE ?_ ?_|exact jF|exact jG|refine yb1 ?_ ?_|refine MB.row ?_|refine jI ?_ ?_|exact ya8|refine jJ rfl (by first|rfl|assumption|(simp only [znl,znTF];(first|done|fail)))|refine yb2 ?_|rfl)|(simp only [znl,znTF];(first|done|fail))|(simp only [↓reduceIte,zlk,Nat.reduceEqDiff,reduceCtorEq])|(with_reducible first|refine jJ ?_ ?_|refine ya5 ?_|refine ju ?_|refine jv ?_|refine jw ?_|refine jx ?_ (by first|rfl|assumption|(simp only [znl,znTF];(first|done|fail)))|refine jC ?_ (by first|rfl|assumption|(simp only [znl,znTF];(first|done|fail)))))))
   all_goals (first | rfl | omega | (rw [e1]; simp; done))
  ·obtain rfl : k = 16 := by omega
   have et : v.take 16 = v := List.take_of_length_le (by omega)
   repeat' (first|(with_reducible first|refine yrl (by constructor) ?_|refine jk (fun M hM=>?_)|(refine hM _ ?_;clear hM M)|refine yx3 ?_|refine yxa ?_ ?_|refine yxb ?_ ?_)|((with_reducible refine je ?_)<;>exact ynTF)|(with_reducible refine yxc ?_)|((with_reducible refine yxi (fun hc=>?_) (fun hc=>?_))<;>(try simp (disch:=omega) only [zhb] at hc)<;>(try (exfalso;omega))<;>(try subst hc))|(with_reducible refine yxw ?_)|(simp (config := { maxSteps := 400000 }) only [↓jt,↓reduceIte,zvs,reduceCtorEq,seval,-List.reduceReplicate,tab,et,hWl,Try.results86,jTA])|(simp (disch:=omega) only [ziw]))
   all_goals (try (exfalso; omega))
   simp only [drV,encDr,List.map_nil]
   simp only [zrds]
   refine ⟨?_, rd_nil⟩
   (refine rd_own (by (simp only [↓reduceIte,zlk,Nat.reduceEqDiff,reduceCtorEq]); exact rfl) ?_ ?_ ?_) <;> (first | rfl | assumption | (simp only [znl,znTF];(first|done|fail)) | (simp; done) | (simp; omega) | skip)
def littleM (Z : List UInt8) (n : Nat) (d : Dr) : Mach := ⟨0, 1, 0, 0, List.replicate n Z, [], 1, [], [], 1, [], false, 0, d, []⟩
theorem little_spec : ∃ (Z : List UInt8) (d : Dr), Z.length = 128 ∧ d.bl.length = 49 ∧ (∀ s ∈ d.bl, s.length = 128) ∧ d.pe = [] ∧ d.left = -1 ∧ Spec Try.prog 39 [.int .i64 2] (encM (littleM Z 2 d)) := by
 have hF := fmt17s_spec
 have hv := vol16_len
 have hs := vol16_all
 generalize vol16 = v at hF hv hs
 obtain ⟨Z, hZl, hG⟩ := fmt16s_spec v hv hs
 have h1 : (List.replicate 33 Z ++ v).length = 49 := by rw [List.length_append, List.length_replicate, hv]
 have h2 : ∀ s ∈ List.replicate 33 Z ++ v, s.length = 128 := by
  intro s h
  rcases List.mem_append.1 h with h | h
  ·rw [(List.mem_replicate.1 h).2]; exact hZl
  ·exact hs s h
 refine ⟨List.replicate 128 0, ⟨List.replicate 33 Z ++ v, [], -1⟩, List.length_replicate, h1, h2, rfl, rfl, ?_⟩
 simp only [drV] at hG
 generalize List.replicate 33 Z ++ v = bl at hG h1 h2
 refine spec_ok Try.func39 rfl rfl (by kernel_rfl) (k := 1) rfl (by decide) ?_
 repeat' (first|(with_reducible first|refine yrl (by constructor) ?_|refine jk (fun M hM=>?_)|(refine hM _ ?_;clear hM M)|refine yx3 ?_|refine yxa ?_ ?_|refine yxb ?_ ?_)|((with_reducible refine je ?_)<;>exact ynTF)|(with_reducible refine yxc ?_)|((with_reducible refine yxi (fun hc=>?_) (fun hc=>?_))<;>(try simp (disch:=omega) only [zhb] at hc)<;>(try (exfalso;omega))<;>(try subst hc))|(with_reducible refine yxw ?_)|(simp (config := { maxSteps := 400000 }) only [↓jt,↓reduceIte,zvs,reduceCtorEq,seval,-List.reduceReplicate,tab,Try.results39,jTA])|(simp (disch:=omega) only [ziw]))
 all_goals (try (exfalso; omega))
 obtain ⟨z, hz⟩ : ∃ z : List UInt8, z = List.replicate 128 0 := ⟨_, rfl⟩
 have hzb : bytesOf (List.replicate 128 (VV.int .u8 0)) = some z := by rw [hz]; exact bytesOf_enc (List.replicate 128 0)
 have hzc : bytesOf (List.take 128 (List.replicate 128 (VV.int .u8 0))) = some z := by rw [List.take_of_length_le (by simp)]; exact hzb
 have hzl : z.length = 128 := by rw [hz]; exact List.length_replicate
 rw [← hz]
 refine ok_loop (fun k : Nat => ⟨slots [(0, .int .i64 2), (2, .ptr 0 []), (7, .ptr 2 []), (8, .int .i64 k)], rows [(0, .row machSh nilMD), (2, .row machSh (.agg [.int .u64 0, .int .i64 1, .int .i64 0, .int .i64 0, .sl (some (3, [], 0)) k, .sl none 0, .int .i64 1, .str [], .sl none 0, .int .i64 1, .str [], .bool false, .int .u64 0, encDr ⟨bl, [], -1⟩, .sl none 0])), (3, .row (.arr k .cell) (.agg (List.replicate k (.str z))))], 4⟩) (fun k => k ≤ 2) (fun k => 2 - k) 0 ?_ (Nat.zero_le _) (fun k hk => ?_)
 ·(refine yrn [(0, 0), (2, 2)] false ?_ ?_<;>(repeat' (first|(with_reducible first|exact ya1|exact ya2|exact ya3|refine jx rfl (by first|rfl|assumption|(simp only [znl,znTF];(first|done|fail)))|exact ya5|exact ya7|exact jy|exact jz|refine jA ?_|refine ya9 ?_ ?_ ?_|refine jC rfl (by first|rfl|assumption|(simp only [znl,znTF];(first|done|fail)))|refine MR.agg (MRL.cons ?_ ?_)|refine MR.fn ?_|refine MRL.cons ?_ ?_|exact MRL.nil|refine jE ?_ ?_|exact jF|exact jG|refine yb1 ?_ ?_|refine MB.row ?_|refine jI ?_ ?_|exact ya8|refine jJ rfl (by first|rfl|assumption|(simp only [znl,znTF];(first|done|fail)))|refine yb2 ?_|rfl)|(simp only [znl,znTF];(first|done|fail))|(simp only [↓reduceIte,zlk,Nat.reduceEqDiff,reduceCtorEq])|(with_reducible first|refine jJ ?_ ?_|refine ya5 ?_|refine ju ?_|refine jv ?_|refine jw ?_|refine jx ?_ (by first|rfl|assumption|(simp only [znl,znTF];(first|done|fail)))|refine jC ?_ (by first|rfl|assumption|(simp only [znl,znTF];(first|done|fail)))))))
  all_goals (first | rfl)
 by_cases hlt : k < 2
 ·have hs : List.replicate k (VV.str z) ++ [.str z] = List.replicate (k + 1) (.str z) := List.replicate_succ'.symm
  repeat' (first|(with_reducible first|refine yrl (by constructor) ?_|refine jk (fun M hM=>?_)|(refine hM _ ?_;clear hM M)|refine yx3 ?_|refine yxa ?_ ?_|refine yxb ?_ ?_)|((with_reducible refine je ?_)<;>exact ynTF)|(with_reducible refine yxc ?_)|((with_reducible refine yxi (fun hc=>?_) (fun hc=>?_))<;>(try simp (disch:=omega) only [zhb] at hc)<;>(try (exfalso;omega))<;>(try subst hc))|(with_reducible refine yxw ?_)|(simp (config := { maxSteps := 400000 }) only [↓jt,↓reduceIte,zvs,reduceCtorEq,seval,-List.reduceReplicate,tab,hzb,Try.results39,jTA])|(simp (disch:=omega) only [ziw]))
  all_goals (try (exfalso; omega))
  refine ok_drawC 5 (by kernel_rfl) (by decide +kernel) (by intro m hm; simp only [upd_ap,rows_cons,rows_nil]; (repeat (first | rfl | rw [if_neg (by omega)]))) (fun M hM => ?_); simp only [List.take_succ_cons,List.take_zero,List.drop_succ_cons,List.drop_zero]
  repeat' (first|(with_reducible first|refine yrl (by constructor) ?_|refine jk (fun M hM=>?_)|(refine hM _ ?_;clear hM M)|refine yx3 ?_|refine yxa ?_ ?_|refine yxb ?_ ?_)|((with_reducible refine je ?_)<;>exact ynTF)|(with_reducible refine yxc ?_)|((with_reducible refine yxi (fun hc=>?_) (fun hc=>?_))<;>(try simp (disch:=omega) only [zhb] at hc)<;>(try (exfalso;omega))<;>(try subst hc))|(with_reducible refine yxw ?_)|(simp (config := { maxSteps := 400000 }) only [↓jt,↓reduceIte,zvs,reduceCtorEq,seval,-List.reduceReplicate,tab,hzb,hzc,hs,Try.results39,jTA])|(simp (disch:=omega) only [ziw]))
  all_goals (try (exfalso; omega))
  all_goals (refine xl1 (k + 1) ?_ (by show k + 1 ≤ 2; omega) (by show 2 - (k + 1) < 2 - k; omega); (refine yrn [(0, 0), (2, 2), (3, 324)] false ?_ ?_<;>(repeat' (first|(with_reducible first|exact ya1|exact ya2|exact ya3|refine jx rfl (by first|rfl|assumption|(simp only [znl,znTF];(first|done|fail)))|exact ya5|exact ya7|exact jy|exact jz|refine jA ?_|refine ya9 ?_ ?_ ?_|refine jC rfl (by first|rfl|assumption|(simp only [znl,znTF];(first|done|fail)))|refine MR.agg (MRL.cons ?_ ?_)|refine MR.fn ?_|refine MRL.cons ?_ ?_|exact MRL.nil|refine jE ?_ ?_|exact jF|exact jG|refine yb1 ?_ ?_|refine MB.row ?_|refine jI ?_ ?_|exact ya8|refine jJ rfl (by first|rfl|assumption|(simp only [znl,znTF];(first|done|fail)))|refine yb2 ?_|rfl)|(simp only [znl,znTF];(first|done|fail))|(simp only [↓reduceIte,zlk,Nat.reduceEqDiff,reduceCtorEq])|(with_reducible first|refine jJ ?_ ?_|refine ya5 ?_|refine ju ?_|refine jv ?_|refine jw ?_|refine jx ?_ (by first|rfl|assumption|(simp only [znl,znTF];(first|done|fail)))|refine jC ?_ (by first|rfl|assumption|(simp only [znl,znTF];(first|done|fail))))))); all_goals (first | rfl | exact hs))
 ·obtain rfl : k = 2 := by omega
  repeat' (first|(with_reducible first|refine yrl (by constructor) ?_|refine jk (fun M hM=>?_)|(refine hM _ ?_;clear hM M)|refine yx3 ?_|refine yxa ?_ ?_|refine yxb ?_ ?_)|((with_reducible refine je ?_)<;>exact ynTF)|(with_reducible refine yxc ?_)|((with_reducible refine yxi (fun hc=>?_) (fun hc=>?_))<;>(try simp (disch:=omega) only [zhb] at hc)<;>(try (exfalso;omega))<;>(try subst hc))|(with_reducible refine yxw ?_)|(simp (config := { maxSteps := 400000 }) only [↓jt,↓reduceIte,zvs,reduceCtorEq,seval,-List.reduceReplicate,tab,Try.results39,jTA])|(simp (disch:=omega) only [ziw]))
  all_goals (try (exfalso; omega))
  simp only [littleM]
  all_goals first
   | (((try simp only [List.map_nil]); simp only [zrds]; (repeat' (first | exact rd_nil | exact Rd.refl _ _ (by first|rfl|assumption|(simp only [znl,znTF];(first|done|fail))) | (refine And.intro ?_ ?_) | (refine rd_own (by (simp only [↓reduceIte,zlk,Nat.reduceEqDiff,reduceCtorEq]); exact rfl) ?_ ?_ ?_) | rfl | assumption | (simp only [znl,znTF];(first|done|fail)) | (simp; done) | (simp; omega)))); done)
end Go.Proofs.Ytpdhdkpebbfnnaa.V
end
section
namespace Go.Proofs.Ytpdhdkpebbfnnaa.V
open Go Go.RowKit

section
variable {P : Program} {N : NN} {B : Nat} {ρ0 ρ : Names} {w0 w : World} {a : Act} {S : VS}
theorem vlist_soundR {ops : Array Oper} {Q : Exit → Act → World → Prop} {K : VS → Prop} (rest : List Oper) : ∀ (l : List Oper) (S : VS) (a : Act) (w : World) (ρ : Names), (∀ o ∈ l, ∀ t, o.dst = some t → t < N) → vlist P ops.toList l S K → SR N B ρ0 w0 S a w ρ →
  (∀ S' a' w' ρ', K S' → SR N B ρ0 w0 S' a' w' ρ' → wpList P ops Q rest a' w') → wpList P ops Q (l ++ rest) a w
 | [], S, a, w, ρ, _, h, hS, next => next S a w ρ h hS
 | o :: l, S, a, w, ρ, hd, h, hS, next => by
  show wpList P ops Q (o :: (l ++ rest)) a w
  refine wpList_step fun Kx hKx => ?_
  exact vstep_sound (hd o (by simp)) h hS fun S' a' w' ρ' hk hS' => hKx _ _ (vlist_soundR rest l S' a' w' ρ' (fun o ho => hd o (by simp [ho])) hk hS' next)
end
section
variable {P : Program} {n0 : Nat} {S : VS} {K : VX → VS → Prop}
end
end Go.Proofs.Ytpdhdkpebbfnnaa.V
end
section
namespace Go.Proofs.Ytpdhdkpebbfnnaa.V
open Go Go.RowKit
section
variable {P : Program} {n0 : Nat} {S : VS} {K : VX → VS → Prop}
def Mid (P : Program) (n0 : Nat) (l r : List Oper) (M : VS → Prop) (S : VS) : Prop := ∃ T, Ren n0 S T ∧ vl P l r T M
theorem mid_in {l r : List Oper} {M : VS → Prop} {S : VS} (T : VS) (h : Ren n0 S T) (h' : vl P l r T M) : Mid P n0 l r M S := ⟨T, h, h'⟩
theorem ok_mid {id : Nat} {l : List Oper} (i : Nat)
  (h : ∀ M : VS → Prop, (∀ S, K .normal S → M S) → vl P l (l.take i) S (Mid P n0 l (l.drop i) M)) : Ok P n0 (.region id l.toArray false) S K := fun N B ρ0 w0 Q a w ρ h0 hok hS next => by
 simp only [codeOk,List.all_eq_true] at hok
 have hok' : ∀ o ∈ l, ∀ t, o.dst = some t → t < N := fun o ho t ht => by have := hok o ho; rw [ht] at this; simpa using this
 have hmem : ∀ o, o ∈ l.take i → o ∈ l := fun o h => List.mem_of_mem_take h
 have hmem2 : ∀ o, o ∈ l.drop i → o ∈ l := fun o h => List.mem_of_mem_drop h
 have h := h _ fun _ h => h
 rw [vl_def] at h
 refine wp_region_list ?_
 show wpList P l.toArray Q l a w
 conv => arg 4; rw [← List.take_append_drop i l]
 refine vlist_soundR (K := Mid P n0 l (l.drop i) (K .normal)) _ _ S a w ρ (fun o ho t ht => hok' o (hmem o ho) t ht) h hS fun S1 a1 w1 ρ1 hk hs1 => ?_
 obtain ⟨T, hT, hk2⟩ := hk
 obtain ⟨ρ2, hs2⟩ := hT N B ρ0 w0 a1 w1 ρ1 h0 hs1
 rw [vl_def] at hk2
 exact vlist_sound (K := K .normal) _ T a1 w1 ρ2 (fun o ho t ht => hok' o (hmem2 o ho) t ht) hk2 hs2 fun S' a' w' ρ' hk hS' => next .normal S' a' w' ρ' hk hS'
end
end Go.Proofs.Ytpdhdkpebbfnnaa.V
end
section
namespace Go.Proofs.Ytpdhdkpebbfnnaa.V
open Go
theorem ynTG {l : List VV} (h : nls l = true := by first|rfl|assumption|(simp only [znl,znTG];(first|done|fail))) : nls l = true := h
set_option maxRecDepth 100000
def znTG := And.intro @jO <| And.intro @jP <| And.intro @jQ <| And.intro @jR <| And.intro @jS <| And.intro @jT <| And.intro @jU <| True.intro
set_option maxHeartbeats 8000000
def e0 : Exe := ⟨[0], [], 0, 0⟩
def fd0 : Fdd := ⟨0, 0, 0⟩
theorem e0_R : ExeR e0 := ⟨by decide, fun x hx => by simp [e0] at hx; subst hx; unfold u32R; omega, by decide, by unfold i64R; decide, by unfold u32R; decide⟩
theorem e0_ok : okE e0 := by unfold okE; decide
theorem fd0_R : fdR fd0 := by unfold fdR fd0 i64R; decide
def sp0 : List Pte := spK zSpace [0, 1] (layE e0) 2
def q0 : Pr := ⟨1, 0, 1, (List.replicate 16 0).set 15 2048, 0, sp0, fd0 :: fd0 :: List.replicate 6 ⟨0, 0, 0⟩, false, 0, 0, 0⟩
theorem lay0_len : (layE e0).length = 2 := by kernel_rfl
theorem little_free (Z : List UInt8) (d : Dr) : freeK (littleM Z 2 d).pr (littleM Z 2 d).fr.length = [0, 1] := by kernel_rfl
theorem q0_free : freeK [q0] 2 = [] := by kernel_rfl
theorem little_E (Z : List UInt8) (d : Dr) : spawnE (littleM Z 2 d) e0 = 0 := by
 unfold spawnE
 rw [if_pos e0_ok, little_free, lay0_len, if_neg (show ¬8 ≤ (littleM Z 2 d).pr.length from (by decide : ¬8 ≤ 0)), if_neg (by decide)]
theorem little_pr (Z : List UInt8) (d : Dr) : (spawnM (littleM Z 2 d) e0 0 fd0 fd0).pr = [q0] := by
 have h := little_free Z d
 show (littleM Z 2 d).pr ++ [tookP (littleM Z 2 d) (newPr (littleM Z 2 d) e0 0 fd0 fd0) (layE e0)] = [q0]
 unfold tookP
 rw [h, lay0_len]
 rfl
theorem little_fr (Z : List UInt8) (d : Dr) : (spawnM (littleM Z 2 d) e0 0 fd0 fd0).fr.length = 2 := by
 show (frK (littleM Z 2 d).fr _ _ _).length = 2
 rw [frK_len]; rfl
theorem frK_all {fr : Frames} {F : List Nat} {l : List Lay} {P : List UInt8 → Prop} (h : ∀ s ∈ fr, P s) (hl : ∀ x ∈ l, P x.d) (hd : P []) : ∀ k, ∀ s ∈ frK fr F l k, P s
 | 0 => h
 | k + 1 => fun s hs => by
  rw [frK] at hs
  rcases List.mem_or_eq_of_mem_set hs with hs | rfl
  ·exact frK_all h hl hd k s hs
  ·by_cases hk : k < l.length
   ·exact hl _ (getD_mem' hk)
   ·rw [List.getD_eq_getElem?_getD, List.getElem?_eq_none (by omega)]; exact hd
theorem layE_d (e : Exe) : ∀ x ∈ layE e, x.d.length = 128 := by
 intro x hx
 simp only [layE,layTo,layN,List.mem_append,List.mem_map,List.mem_singleton] at hx
 rcases hx with (⟨i, _, rfl⟩ | ⟨i, _, rfl⟩) | rfl
 ·exact pgB_len _ _
 ·exact pgB_len _ _
 ·exact List.length_replicate
theorem spawnM_fit {m : Mach} (hm : MFit 20000 m) (hp1 : m.pr.length < 20000) (hn : m.next < 4611686018427387904) {e : Exe} (he : ExeR e) (hok : okE e) {par : Int} (hp : i64R par) {i o : Fdd} (hi : fdR i) (ho : fdR o) : MFit 20000 (spawnM m e par i o) := by
 have hR := tookP_R m hm (newPr_R m hm e he par hp i o hi ho) (layR_E e hok)
 obtain ⟨n1, _⟩ := hm.next
 refine ⟨hm.clock, hm.quantum, hm.cur, hm.left, ?_, ?_, ?_, ?_, ?_, hm.init, hm.pipes, hm.pipesR, hm.newp, hm.inp, hm.told, hm.bl, hm.blS, hm.pe, hm.peS, hm.dleft, hm.dirty, hm.dirtyS⟩
 ·show (frK m.fr _ _ _).length ≤ 20000
  rw [frK_len]; exact hm.fr
 ·exact frK_all hm.frS (fun x hx => by rw [layE_d e x hx]; decide) (Nat.zero_le _) _
 ·show (m.pr ++ [_]).length ≤ 20000
  rw [List.length_append, List.length_singleton]; omega
 ·intro p hp
  rcases List.mem_append.1 hp with hp | hp
  ·exact hm.prR p hp
  ·rw [List.mem_singleton.1 hp]; exact hR
 ·show i64R (m.next + 1)
  unfold i64R; omega
theorem little_fit (Z : List UInt8) (d : Dr) (hZ : Z.length = 128) (h1 : d.bl.length = 49) (h2 : ∀ s ∈ d.bl, s.length = 128) (h3 : d.pe = []) (h4 : d.left = -1) : MFit 20000 (littleM Z 2 d) := by
 have z : i64R 0 := by unfold i64R; omega
 have o : i64R 1 := by unfold i64R; omega
 have zu : u64R 0 := by unfold u64R; omega
 refine ⟨zu, o, z, z, (by decide : (2 : Nat) ≤ 20000), fun s hs => ?_, Nat.zero_le _, (fun p hp => by cases hp), o, Nat.zero_le _, Nat.zero_le _, (fun p hp => by cases hp), o, Nat.zero_le _, zu, ?_, fun s hs => ?_, ?_, fun w hw => ?_, ?_, Nat.zero_le _, fun w hw => by cases hw⟩
 ·rw [List.eq_of_mem_replicate hs, hZ]; decide
 ·show d.bl.length ≤ 20000; omega
 ·rw [h2 s hs]; decide
 ·show d.pe.length ≤ 20000; rw [h3]; decide
 ·have hw : w ∈ d.pe := hw
  rw [h3] at hw; cases hw
 ·show i64R d.left; rw [h4]; unfold i64R; omega
theorem q0_die {m : Mach} (h : m.pr = [q0]) : (dieM m 1 5).pr = [] := by
 have h1 : findI m.pr 1 = some 0 := by rw [h]; kernel_rfl
 unfold dieM
 rw [h1]
 dsimp only
 rw [h, if_neg (by show ¬(q0.st = 3); decide)]
 show (sweepM (prM m ((dieL m 0 1 5).filter (stayB (dieL m 0 1 5))))).pr = []
 show (dieL m 0 1 5).filter (stayB (dieL m 0 1 5)) = []
 unfold dieL
 rw [h]
 kernel_rfl
theorem palive_spec : Spec Try.prog 13 [] (.bool true) := by
 obtain ⟨Z, d, hZ, h1, h2, h3, h4, hL⟩ := little_spec
 have hf := little_fit Z d hZ h1 h2 h3 h4
 have hE := little_E Z d
 have hpr := little_pr Z d
 have hfr := little_fr Z d
 have z : i64R 0 := by unfold i64R; omega
 have hf1 := spawnM_fit hf (by show 0 < 20000; decide) (by show (1 : Int) < _; decide) e0_R e0_ok z fd0_R fd0_R
 have hS1 := sspawn_spec _ hf (by show (1 : Int) < _; decide) e0 e0_R 0 z fd0 fd0 fd0_R fd0_R
 unfold spawnVV at hS1
 rw [if_pos hE] at hS1
 have hnx : (spawnM (littleM Z 2 d) e0 0 fd0 fd0).next = 2 := rfl
 have hn1 : (littleM Z 2 d).next = 1 := rfl
 rw [hn1] at hS1
 generalize spawnM (littleM Z 2 d) e0 0 fd0 fd0 = m1 at hpr hfr hf1 hS1 hnx
 generalize littleM Z 2 d = m0 at hL hS1
 have hS2 := sspawn_spec m1 hf1 (by rw [hnx]; decide) e0 e0_R 0 z fd0 fd0 fd0_R fd0_R
 have hE2 : spawnE m1 e0 = 10 := by
  unfold spawnE
  rw [if_pos e0_ok, hpr, hfr, q0_free, lay0_len, if_neg (by decide), if_pos (by decide)]
 unfold spawnVV at hS2
 rw [hE2, if_neg (by decide)] at hS2
 have hD := sdie_spec m1 hf1 1 (by unfold i64R; omega) 5 (by unfold u32R; omega)
 have hpd := q0_die hpr
 generalize dieM m1 1 5 = m2 at hD hpd
 have e1 : encM m1 = encMD m1 (.dat prSh [encPr q0]) := by
  show encMD m1 (encPrs m1.pr) = _
  rw [hpr]; rfl
 have e2 : encM m2 = encMD m2 (.dat prSh []) := by
  show encMD m2 (encPrs m2.pr) = _
  rw [hpd]; rfl
 rw [e1] at hS1 hS2 hD
 rw [e2] at hD
 have hq : encPr q0 = .agg [.int .i64 1, .int .i64 0, .int .i64 1, .agg [.agg (((List.replicate 16 0).set 15 2048).map (.int .u32)), .int .u32 0], .agg (sp0.map encPte), .agg ((fd0 :: fd0 :: List.replicate 6 ⟨0, 0, 0⟩ : List Fdd).map encFd), .bool false, .int .u32 0, .int .i64 0, .int .u64 0] := rfl
 have hq15 : (sp0.map encPte)[15]? = some (.agg [.bool true, .bool true, .int .i64 1]) := by kernel_rfl
 have hHq : Has prSh (encPr q0) := hasPr q0 (hf1.prR q0 (by rw [hpr]; exact List.mem_singleton.2 rfl))
 have hnq : nl (encPr q0) = true := jU q0
 simp only [e0,fd0,encExe,encWords,List.map_cons,List.map_nil,encFd] at hS1 hS2
 refine spec_ok Try.func13 rfl rfl (by kernel_rfl) (k := 0) rfl (by decide) ?_
 repeat' ((fail_if_success (with_reducible refine ok_stop 1 ?_));first|(with_reducible first|refine yrl (by constructor) ?_|refine jk (fun M hM=>?_)|(refine hM _ ?_;clear hM M)|refine yx3 ?_|refine yxa ?_ ?_|refine yxb ?_ ?_)|((with_reducible refine je ?_)<;>exact ynTG)|(with_reducible refine yxc ?_)|((with_reducible refine yxi (fun hc=>?_) (fun hc=>?_))<;>(try simp (disch:=omega) only [zhb] at hc)<;>(try (exfalso;omega))<;>(try subst hc))|(with_reducible refine yxw ?_)|(simp (config := { maxSteps := 400000 }) only [↓jt,↓reduceIte,zvs,reduceCtorEq,seval,tab,Try.results13,jTA])|(simp (disch:=omega) only [ziw]))
 refine ok_mid 2 (fun M hM => ?_)
 repeat' (first|(with_reducible first|refine yrl (by constructor) ?_|refine jk (fun M hM=>?_)|(refine hM _ ?_;clear hM M)|refine yx3 ?_|refine yxa ?_ ?_|refine yxb ?_ ?_)|((with_reducible refine je ?_)<;>exact ynTG)|(with_reducible refine yxc ?_)|((with_reducible refine yxi (fun hc=>?_) (fun hc=>?_))<;>(try simp (disch:=omega) only [zhb] at hc)<;>(try (exfalso;omega))<;>(try subst hc))|(with_reducible refine yxw ?_)|(simp (config := { maxSteps := 400000 }) only [↓jt,↓reduceIte,zvs,reduceCtorEq,seval,tab,Try.results13,jTA])|(simp (disch:=omega) only [ziw]))
 refine mid_in ⟨slots [(0, .bool false), (9, encM m0), (10, .dat .cell [.int .u32 0])], rows [], 1⟩ ?_ ?_
 ·(refine yrn [] true ?_ ?_<;>(repeat' (first|(with_reducible first|exact ya1|exact ya2|exact ya3|refine jx rfl (by first|rfl|assumption|(simp only [znl,znTG];(first|done|fail)))|exact ya5|exact ya7|exact jy|exact jz|refine jA ?_|refine ya9 ?_ ?_ ?_|refine jC rfl (by first|rfl|assumption|(simp only [znl,znTG];(first|done|fail)))|refine MR.agg (MRL.cons ?_ ?_)|refine MR.fn ?_|refine MRL.cons ?_ ?_|exact MRL.nil|refine jE ?_ ?_|exact jF|exact jG|refine yb1 ?_ ?_|refine MB.row ?_|refine jI ?_ ?_|exact ya8|refine jJ rfl (by first|rfl|assumption|(simp only [znl,znTG];(first|done|fail)))|refine yb2 ?_|rfl)|(simp only [znl,znTG];(first|done|fail))|(simp only [↓reduceIte,zlk,Nat.reduceEqDiff,reduceCtorEq])|(with_reducible first|refine jJ ?_ ?_|refine ya5 ?_|refine ju ?_|refine jv ?_|refine jw ?_|refine jx ?_ (by first|rfl|assumption|(simp only [znl,znTG];(first|done|fail)))|refine jC ?_ (by first|rfl|assumption|(simp only [znl,znTG];(first|done|fail)))))))
  all_goals (first | rfl)
 repeat' ((fail_if_success (with_reducible refine ok_stop 4 ?_));first|(with_reducible first|refine yrl (by constructor) ?_|refine jk (fun M hM=>?_)|(refine hM _ ?_;clear hM M)|refine yx3 ?_|refine yxa ?_ ?_|refine yxb ?_ ?_)|((with_reducible refine je ?_)<;>exact ynTG)|(with_reducible refine yxc ?_)|((with_reducible refine yxi (fun hc=>?_) (fun hc=>?_))<;>(try simp (disch:=omega) only [zhb] at hc)<;>(try (exfalso;omega))<;>(try subst hc))|(with_reducible refine yxw ?_)|(simp (config := { maxSteps := 400000 }) only [↓jt,↓reduceIte,zvs,reduceCtorEq,seval,tab,hHq,hq15,hq,Try.results13,jTA])|(simp (disch:=omega) only [ziw]))
 all_goals (try (exfalso; omega))
 refine ok_mid 2 (fun M hM => ?_)
 repeat' (first|(with_reducible first|refine yrl (by constructor) ?_|refine jk (fun M hM=>?_)|(refine hM _ ?_;clear hM M)|refine yx3 ?_|refine yxa ?_ ?_|refine yxb ?_ ?_)|((with_reducible refine je ?_)<;>exact ynTG)|(with_reducible refine yxc ?_)|((with_reducible refine yxi (fun hc=>?_) (fun hc=>?_))<;>(try simp (disch:=omega) only [zhb] at hc)<;>(try (exfalso;omega))<;>(try subst hc))|(with_reducible refine yxw ?_)|(simp (config := { maxSteps := 400000 }) only [↓jt,↓reduceIte,zvs,reduceCtorEq,seval,tab,Try.results13,jTA])|(simp (disch:=omega) only [ziw]))
 refine mid_in ⟨slots [(0, .bool false), (1, .ptr 1 []), (51, encMD m1 (.dat prSh [encPr q0])), (52, .dat .cell [.int .u32 0])], rows [(1, .row machSh (encMD m1 (.dat prSh [encPr q0])))], 3⟩ ?_ ?_
 ·(refine yrn [(1, 1)] true ?_ ?_<;>(repeat' (first|(with_reducible first|exact ya1|exact ya2|exact ya3|refine jx rfl (by first|rfl|assumption|(simp only [znl,znTG];(first|done|fail)))|exact ya5|exact ya7|exact jy|exact jz|refine jA ?_|refine ya9 ?_ ?_ ?_|refine jC rfl (by first|rfl|assumption|(simp only [znl,znTG];(first|done|fail)))|refine MR.agg (MRL.cons ?_ ?_)|refine MR.fn ?_|refine MRL.cons ?_ ?_|exact MRL.nil|refine jE ?_ ?_|exact jF|exact jG|refine yb1 ?_ ?_|refine MB.row ?_|refine jI ?_ ?_|exact ya8|refine jJ rfl (by first|rfl|assumption|(simp only [znl,znTG];(first|done|fail)))|refine yb2 ?_|rfl)|(simp only [znl,znTG];(first|done|fail))|(simp only [↓reduceIte,zlk,Nat.reduceEqDiff,reduceCtorEq])|(with_reducible first|refine jJ ?_ ?_|refine ya5 ?_|refine ju ?_|refine jv ?_|refine jw ?_|refine jx ?_ (by first|rfl|assumption|(simp only [znl,znTG];(first|done|fail)))|refine jC ?_ (by first|rfl|assumption|(simp only [znl,znTG];(first|done|fail)))))))
  all_goals (first | rfl)
 repeat' (first|(with_reducible first|refine yrl (by constructor) ?_|refine jk (fun M hM=>?_)|(refine hM _ ?_;clear hM M)|refine yx3 ?_|refine yxa ?_ ?_|refine yxb ?_ ?_)|((with_reducible refine je ?_)<;>exact ynTG)|(with_reducible refine yxc ?_)|((with_reducible refine yxi (fun hc=>?_) (fun hc=>?_))<;>(try simp (disch:=omega) only [zhb] at hc)<;>(try (exfalso;omega))<;>(try subst hc))|(with_reducible refine yxw ?_)|(simp (config := { maxSteps := 400000 }) only [↓jt,↓reduceIte,zvs,reduceCtorEq,seval,tab,Try.results13,jTA])|(simp (disch:=omega) only [ziw]))
 all_goals (try (exfalso; omega))
 all_goals first
  | (simp only [zrds]; done)
  | (simp only [show (((0 : Nat) : Int) == 0) = true from rfl]; simp only [zrds]; done)
end Go.Proofs.Ytpdhdkpebbfnnaa.V
end
section
namespace Go.Proofs.Ytpdhdkpebbfnnaa.V
open Go
theorem ynTH {l : List VV} (h : nls l = true := by first|rfl|assumption|(simp only [znl,znTH];(first|done|fail))) : nls l = true := h
set_option maxRecDepth 100000
def znTH := And.intro @jO <| And.intro @jP <| And.intro @jQ <| And.intro @jR <| And.intro @jS <| And.intro @jT <| And.intro @jU <| True.intro
set_option maxHeartbeats 8000000
def nearM (m : Mach) : Prop := m.fr.length ≤ 20 ∧ m.pr.length ≤ 8 ∧ m.pipes.length ≤ 20 ∧ m.dr.bl.length ≤ 120 ∧ m.dr.pe.length ≤ 80 ∧ m.dirty.length ≤ 20 ∧ m.inp.length ≤ 300
def seenM (m : Mach) : Prop := nearM m ∧ chkM m = 0 ∧ m.next ≤ 900000000 ∧ m.newp ≤ 900000000
instance (m : Mach) : Decidable (nearM m) := by unfold nearM; infer_instance
instance (m : Mach) : Decidable (seenM m) := by unfold seenM; infer_instance
theorem near_fit {m : Mach} (hm : MFit (2 ^ 47) m) (h : nearM m) : MFit 20000 m := by
 obtain ⟨h1, h2, h3, h4, h5, h6, h7⟩ := h
 exact ⟨hm.clock, hm.quantum, hm.cur, hm.left, by omega, hm.frS, by omega, hm.prR, hm.next, hm.init, by omega, hm.pipesR, hm.newp, hm.inp, hm.told, by omega, hm.blS, by omega, hm.peS, hm.dleft, by omega, hm.dirtyS⟩
theorem pwide_spec (m : Mach) (hm : MFit (2 ^ 47) m) : Spec Try.prog 14 [encM m] (.int .i64 (if seenM m then 0 else 1)) := by
 obtain ⟨R, hR⟩ : ∃ R : Int, R = if seenM m then 0 else 1 := ⟨_, rfl⟩
 rw [← hR]
 have b1 := hm.fr
 have b2 := hm.pr
 have b3 := hm.pipes
 have b4 := hm.bl
 have b5 := hm.pe
 have b6 := hm.dirty
 have b7 := hm.inp
 by_cases hn : nearM m
 ·have hC := rcheckM_spec m (near_fit hm hn)
  have hyes : chkM m = 0 → m.next ≤ 900000000 → m.newp ≤ 900000000 → R = 0 := fun h1 h2 h3 => by rw [hR, if_pos ⟨hn, h1, h2, h3⟩]
  have hno : ¬(chkM m = 0 ∧ m.next ≤ 900000000 ∧ m.newp ≤ 900000000) → R = 1 := fun h => by rw [hR, if_neg fun h' => h h'.2]
  clear hR
  generalize chkM m = c at hC hyes hno
  obtain ⟨h1, h2, h3, h4, h5, h6, h7⟩ := hn
  refine spec_ok Try.func14 rfl rfl (by kernel_rfl) (k := 1) rfl (by decide) ?_
  repeat' (first|(with_reducible first|refine yrl (by constructor) ?_|refine jk (fun M hM=>?_)|(refine hM _ ?_;clear hM M)|refine yx3 ?_|refine yxa ?_ ?_|refine yxb ?_ ?_)|((with_reducible refine je ?_)<;>exact ynTH)|(with_reducible refine yxc ?_)|((with_reducible refine yxi (fun hc=>?_) (fun hc=>?_))<;>(try simp (disch:=omega) only [zhb] at hc)<;>(try (exfalso;omega))<;>(try subst hc))|(with_reducible refine yxw ?_)|(simp (config := { maxSteps := 400000 }) only [↓jt,↓reduceIte,zvs,reduceCtorEq,seval,tab,encDr,Try.results14,jTA])|(simp (disch:=omega) only [ziw]))
  all_goals first
   | (exfalso; omega)
   | (rw [hyes (by omega) (by omega) (by omega)]; simp only [zrds]; done)
   | (rw [hno (by omega)]; simp only [zrds]; done)
 ·have hno : R = 1 := by rw [hR, if_neg fun h => hn h.1]
  rw [hno]
  unfold nearM at hn
  clear hR hno R
  refine spec_ok Try.func14 rfl rfl (by kernel_rfl) (k := 1) rfl (by decide) ?_
  repeat' (first|(with_reducible first|refine yrl (by constructor) ?_|refine jk (fun M hM=>?_)|(refine hM _ ?_;clear hM M)|refine yx3 ?_|refine yxa ?_ ?_|refine yxb ?_ ?_)|((with_reducible refine je ?_)<;>exact ynTH)|(with_reducible refine yxc ?_)|((with_reducible refine yxi (fun hc=>?_) (fun hc=>?_))<;>(try simp (disch:=omega) only [zhb] at hc)<;>(try (exfalso;omega))<;>(try subst hc))|(with_reducible refine yxw ?_)|(simp (config := { maxSteps := 400000 }) only [↓jt,↓reduceIte,zvs,reduceCtorEq,seval,tab,encDr,Try.results14,jTA])|(simp (disch:=omega) only [ziw]))
  all_goals first
   | (exfalso; omega)
   | (simp only [zrds]; done)
def seenE (e : Exe) : Prop := e.ws.length ≤ 200 ∧ e.data.length ≤ 600
instance (e : Exe) : Decidable (seenE e) := by unfold seenE; infer_instance
theorem pgreat_spec (e : Exe) (h1 : e.ws.length ≤ 2 ^ 47) (h2 : e.data.length ≤ 2 ^ 47) : Spec Try.prog 15 [encExe e] (.bool (!decide (seenE e))) := by
 obtain ⟨R, hR⟩ : ∃ R, R = !decide (seenE e) := ⟨_, rfl⟩
 rw [← hR]
 have hyes : seenE e → R = false := fun h => by rw [hR, decide_eq_true h]; rfl
 have hno : ¬seenE e → R = true := fun h => by rw [hR, decide_eq_false h]; rfl
 clear hR
 unfold seenE at hyes hno
 by_cases h3 : e.ws.length ≤ 200
 ·by_cases h4 : e.data.length ≤ 600
  ·rw [hyes ⟨h3, h4⟩]
   have hd : decide ((e.data.length : Int) > 600) = false := decide_eq_false (by omega)
   refine spec_ok Try.func15 rfl rfl (by kernel_rfl) (k := 1) rfl (by decide) ?_
   repeat' (first|(with_reducible first|refine yrl (by constructor) ?_|refine jk (fun M hM=>?_)|(refine hM _ ?_;clear hM M)|refine yx3 ?_|refine yxa ?_ ?_|refine yxb ?_ ?_)|((with_reducible refine je ?_)<;>exact ynTH)|(with_reducible refine yxc ?_)|((with_reducible refine yxi (fun hc=>?_) (fun hc=>?_))<;>(try simp (disch:=omega) only [zhb] at hc)<;>(try (exfalso;omega))<;>(try subst hc))|(with_reducible refine yxw ?_)|(simp (config := { maxSteps := 400000 }) only [↓jt,↓reduceIte,zvs,reduceCtorEq,seval,tab,hd,Try.results15,jTA])|(simp (disch:=omega) only [ziw]))
   all_goals first
    | (exfalso; omega)
    | (simp only [zrds]; done)
  ·rw [hno (by omega)]
   have hd : decide ((e.data.length : Int) > 600) = true := decide_eq_true (by omega)
   refine spec_ok Try.func15 rfl rfl (by kernel_rfl) (k := 1) rfl (by decide) ?_
   repeat' (first|(with_reducible first|refine yrl (by constructor) ?_|refine jk (fun M hM=>?_)|(refine hM _ ?_;clear hM M)|refine yx3 ?_|refine yxa ?_ ?_|refine yxb ?_ ?_)|((with_reducible refine je ?_)<;>exact ynTH)|(with_reducible refine yxc ?_)|((with_reducible refine yxi (fun hc=>?_) (fun hc=>?_))<;>(try simp (disch:=omega) only [zhb] at hc)<;>(try (exfalso;omega))<;>(try subst hc))|(with_reducible refine yxw ?_)|(simp (config := { maxSteps := 400000 }) only [↓jt,↓reduceIte,zvs,reduceCtorEq,seval,tab,hd,Try.results15,jTA])|(simp (disch:=omega) only [ziw]))
   all_goals first
    | (exfalso; omega)
    | (simp only [zrds]; done)
 ·rw [hno (by omega)]
  have hd : (0 : Nat) = 0 := rfl
  refine spec_ok Try.func15 rfl rfl (by kernel_rfl) (k := 1) rfl (by decide) ?_
  repeat' (first|(with_reducible first|refine yrl (by constructor) ?_|refine jk (fun M hM=>?_)|(refine hM _ ?_;clear hM M)|refine yx3 ?_|refine yxa ?_ ?_|refine yxb ?_ ?_)|((with_reducible refine je ?_)<;>exact ynTH)|(with_reducible refine yxc ?_)|((with_reducible refine yxi (fun hc=>?_) (fun hc=>?_))<;>(try simp (disch:=omega) only [zhb] at hc)<;>(try (exfalso;omega))<;>(try subst hc))|(with_reducible refine yxw ?_)|(simp (config := { maxSteps := 400000 }) only [↓jt,↓reduceIte,zvs,reduceCtorEq,seval,tab,Try.results15,jTA])|(simp (disch:=omega) only [ziw]))
  all_goals first
   | (exfalso; omega)
   | (simp only [zrds]; done)
abbrev exeT : Ty := .fcons (.sl (.int .u32)) (.fcons .str (.fcons (.int .i64) (.fcons (.int .u32) .fnil)))
abbrev ExeD := List Int × List UInt8 × Int × Int × Unit
def mExe (x : ExeD) : Exe := ⟨x.1, x.2.1, x.2.2.1, x.2.2.2.1⟩
theorem toV_exe (x : ExeD) : toV exeT x = encExe (mExe x) := by
 have e : toV (.sl (.int .u32)) x.1 = encWords x.1 := by simp only [toV,tsh]; rfl
 show VV.agg [toV (.sl (.int .u32)) x.1, .str x.2.1, .int .i64 x.2.2.1, .int .u32 x.2.2.2.1] = _
 rw [e]; rfl
structure ExeG (e : Exe) : Prop where
 ws : e.ws.length ≤ 2 ^ 47
 wsR : ∀ x ∈ e.ws, u32R x
 data : e.data.length ≤ 2 ^ 47
 z : i64R e.z
 en : u32R e.en
theorem exe_good (x : ExeD) (g : good exeT x) (l : Ty.lite exeT x) : ExeG (mExe x) := by
 obtain ⟨g1, g2, g3, g4, _⟩ := g
 obtain ⟨l1, l2, l3, l4, _⟩ := l
 exact ⟨Nat.le_trans l1.1 mreach47, fun y hy => bounds_u32 (g1 y hy), Nat.le_trans l2 mreach47, bounds_i64 g3, bounds_u32 g4⟩
theorem exe_R {e : Exe} (h : ExeG e) (hs : seenE e) : ExeR e := by
 obtain ⟨h1, h2⟩ := hs
 exact ⟨by omega, h.wsR, by omega, h.z, h.en⟩
theorem nilM_fit : MFit 20000 nilM := by
 have z : i64R 0 := by unfold i64R; omega
 have zu : u64R 0 := by unfold u64R; omega
 exact ⟨zu, z, z, z, Nat.zero_le _, (fun _ h => by cases h), Nat.zero_le _, (fun _ h => by cases h), z, Nat.zero_le _, Nat.zero_le _, (fun _ h => by cases h), z, Nat.zero_le _, zu, Nat.zero_le _, (fun _ h => by cases h), Nat.zero_le _, (fun _ h => by cases h), z, Nat.zero_le _, (fun _ h => by cases h)⟩
theorem spawnE_ok {m : Mach} {e : Exe} (h : spawnE m e = 0) : okE e ∧ m.pr.length < 8 ∧ (layE e).length ≤ (freeK m.pr m.fr.length).length := by
 unfold spawnE at h
 split at h
 ·rename_i h1
  split at h
  ·omega
  ·split at h
   ·omega
   ·exact ⟨h1, by omega, by omega⟩
 ·omega
theorem nl_encExe (e : Exe) : nl (encExe e) = true := by
 show (nls (e.ws.map (VV.int .u32)) && (true && (true && (true && true)))) = true
 rw [jT]; rfl
end Go.Proofs.Ytpdhdkpebbfnnaa.V
end
section
namespace Go.Proofs.Ytpdhdkpebbfnnaa.V
open Go
set_option maxRecDepth 100000
set_option maxHeartbeats 8000000
def topK (s : List Pte) : Nat → Nat
 | 0 => 0
 | k + 1 => if (s.getD k default).is = true then k + 1 else topK s k
theorem topK_le (s : List Pte) : ∀ k, topK s k ≤ k
 | 0 => Nat.le_refl _
 | k + 1 => by
  rw [topK]
  split
  ·exact Nat.le_refl _
  ·exact Nat.le_succ_of_le (topK_le s k)
theorem topK_in {s : List Pte} {k : Nat} (h : (s.getD k default).is = true) : topK s (k + 1) = k + 1 := by rw [topK, if_pos h]
theorem topK_out {s : List Pte} {k : Nat} (h : (s.getD k default).is = false) : topK s (k + 1) = topK s k := by rw [topK, h]; rfl
def growL (f n : Nat) : List Lay := (List.range n).map fun k : Nat => ⟨(f : Int) + (k : Int), List.replicate 128 0, true⟩
theorem growL_len (f n : Nat) : (growL f n).length = n := by unfold growL; rw [List.length_map, List.length_range]
theorem growL_at {f n k : Nat} (h : k < n) : (growL f n).getD k default = ⟨(f : Int) + (k : Int), List.replicate 128 0, true⟩ := by
 unfold growL
 rw [List.getD_eq_getElem?_getD, List.getElem?_map, List.getElem?_range h]; rfl
theorem growL_R {f n : Nat} (h : f + n ≤ 15) : LayR (growL f n) := by
 refine ⟨by rw [growL_len]; omega, fun x hx => ?_⟩
 obtain ⟨k, hk, rfl⟩ := List.mem_map.1 hx
 have := List.mem_range.1 hk
 dsimp only
 omega
def growM (m : Mach) (i n : Nat) : Mach := { tookM m (growL (topK (m.pr.getD i default).sp 15) n) with pr := m.pr.set i (tookP m (m.pr.getD i default) (growL (topK (m.pr.getD i default).sp 15) n)) }
def growE (m : Mach) (i : Nat) (n : Int) : Int :=
 if (m.pr.getD i default).st = 3 then 9 else if n < 0 then 1 else if 15 - (topK (m.pr.getD i default).sp 15 : Int) < n then 6 else if ((freeK m.pr m.fr.length).length : Int) < n then 10 else 0
def growVV (m : Mach) (pid n : Int) : VV := match findI m.pr pid with
 | none => .tup [encM nilM, .int .i64 0, .int .i64 9]
 | some i => if growE m i n = 0 then .tup [encM (growM m i n.toNat), .int .i64 (128 * (topK (m.pr.getD i default).sp 15 : Int)), .int .i64 0] else .tup [encM nilM, .int .i64 0, .int .i64 (growE m i n)]
end Go.Proofs.Ytpdhdkpebbfnnaa.V
end
section
namespace Go.Proofs.Ytpdhdkpebbfnnaa.V
open Go
set_option maxRecDepth 100000
set_option maxHeartbeats 8000000
def kidP (par pid : Int) (p : Pr) : Prop := p.par = par ∧ (pid = 0 ∨ p.pid = pid)
instance (par pid : Int) (p : Pr) : Decidable (kidP par pid p) := by unfold kidP; infer_instance
def betP (l : List Pr) (p : Pr) : Option Nat → Prop
 | none => True
 | some c => p.pid < (l.getD c default).pid
instance (l : List Pr) (p : Pr) (o : Option Nat) : Decidable (betP l p o) := by unfold betP; cases o <;> infer_instance
def kidK (l : List Pr) (par pid : Int) : Nat → Option Nat
 | 0 => none
 | k + 1 => if kidP par pid (l.getD k default) ∧ (l.getD k default).st = 3 ∧ betP l (l.getD k default) (kidK l par pid k) then some k else kidK l par pid k
def metK (l : List Pr) (par pid : Int) : Nat → Bool
 | 0 => false
 | k + 1 => metK l par pid k || decide (kidP par pid (l.getD k default))
def chI : Option Nat → Int
 | none => -1
 | some c => c
theorem kidK_lt {l : List Pr} {par pid : Int} : ∀ {k c : Nat}, kidK l par pid k = some c → c < k
 | 0, c, h => by cases h
 | k + 1, c, h => by
  rw [kidK] at h
  split at h
  ·injection h with h; omega
  ·exact Nat.lt_succ_of_lt (kidK_lt h)
theorem kid_no {l : List Pr} {par pid : Int} {k : Nat} (h : ¬kidP par pid (l.getD k default)) : kidK l par pid (k + 1) = kidK l par pid k ∧ metK l par pid (k + 1) = metK l par pid k := by
 refine ⟨?_, ?_⟩
 ·rw [kidK, if_neg fun h' => h h'.1]
 ·rw [metK, decide_eq_false h, Bool.or_false]
theorem kid_yes {l : List Pr} {par pid : Int} {k : Nat} (h : kidP par pid (l.getD k default)) : metK l par pid (k + 1) = true := by rw [metK, decide_eq_true h, Bool.or_true]
theorem kid_keep {l : List Pr} {par pid : Int} {k : Nat} (h : ¬((l.getD k default).st = 3 ∧ betP l (l.getD k default) (kidK l par pid k))) : kidK l par pid (k + 1) = kidK l par pid k := by rw [kidK, if_neg fun h' => h h'.2]
theorem kid_take {l : List Pr} {par pid : Int} {k : Nat} (h : kidP par pid (l.getD k default)) (h1 : (l.getD k default).st = 3) (h2 : betP l (l.getD k default) (kidK l par pid k)) : kidK l par pid (k + 1) = some k := by rw [kidK, if_pos ⟨h, h1, h2⟩]
def reapM (m : Mach) (c : Nat) : Mach := prM m (m.pr.take c ++ m.pr.drop (c + 1))
def reapVV (m : Mach) (par pid : Int) : VV :=
 if metK m.pr par pid m.pr.length = false then .tup [encM nilM, .int .i64 0, .int .u32 0, .int .i64 9] else match kidK m.pr par pid m.pr.length with
 | none => .tup [encM nilM, .int .i64 0, .int .u32 0, .int .i64 12]
 | some c => .tup [encM (reapM m c), .int .i64 (m.pr.getD c default).pid, .int .u32 (m.pr.getD c default).code, .int .i64 0]
end Go.Proofs.Ytpdhdkpebbfnnaa.V
end
section
namespace Go.Proofs.Ytpdhdkpebbfnnaa.V
open Go Go.RowKit Go.Proofs.Ytpdhdkpebbfnnaa
theorem delSize : (Try.prog.info? 63).map (·.size) = some 96 := by kernel_rfl
set_option maxHeartbeats 4000000 in
set_option maxRecDepth 1000000 in
theorem del_calls (blk off len cap i : Nat) (ts zs : List Value) (w : World) (hi : i < len) (hlc : len ≤ cap) (hlb : len ≤ 1000000000) (hts : ts.length = (len - (i + 1)) * 96) (hone : ∀ u ∈ ts, u.oneCell' = true) (hrg : w.rangeAt blk (off + (i + 1) * 96) ts) (hth : w.there blk off (len * 96))
  (hcl0 : ∀ ty c W, W.there blk (off + (len - 1) * 96) 96 → (Builtin.clear_ #[24] ty #[.slice (some ⟨blk, off + (len - 1) * 96, none⟩) 1 c]).run Try.prog W = .ok (.tuple #[]) (W.setCells blk (off + (len - 1) * 96) zs)) :
  Calls Try.prog 52 #[.slice (some ⟨blk, off, none⟩) len cap, .int .i64 i, .int .i64 ((i : Int) + 1)] w fun e w' => e = .returned (.slice (some ⟨blk, off, none⟩) (len - 1) cap) ∧ w' = (w.drew.setCells blk (off + i * 96) ts).setCells blk (off + (len - 1) * 96) zs := by
 obtain ⟨j0, hj0, hjs⟩ := Option.map_eq_some_iff.1 delSize
 obtain ⟨A, hA, hsrc⟩ : ∃ A : Addr, (if cap = i + 1 then some (⟨blk, off, none⟩ : Addr) else some ⟨blk, off + (i + 1) * 96, none⟩) = some A ∧ Hid (∀ t u, ts[t]? = some u → w.drew.cell? (A.add t) = some u) := by
  by_cases h : cap = i + 1
  ·refine ⟨⟨blk, off, none⟩, by simp [h], fun t u hu => ?_⟩
   have h0 : ts.length = 0 := by rw [hts]; omega
   rw [List.length_eq_zero_iff.1 h0] at hu
   simp at hu
  ·refine ⟨⟨blk, off + (i + 1) * 96, none⟩, by simp [h], fun t u hu => ?_⟩
   rw [Addr.add_lit]
   exact hrg t u hu
 have s1 : Hid (ts.length = (len - (i + 1)) * 96) := hts
 have s2 : Hid (∀ u ∈ ts, u.oneCell' = true) := hone
 have s3 : Hid (∀ t, t < ts.length → (w.drew.cell? ⟨blk, off + i * 96 + t, none⟩).isSome = true ∧ w.drew.frozen? ⟨blk, off + i * 96 + t, none⟩ = false) := by
  intro t ht
  rw [hts] at ht
  have := hth (i * 96 + t) (by omega)
  rw [← Nat.add_assoc] at this
  exact this
 obtain ⟨W1, hW1⟩ : ∃ W1, W1 = w.drew.setCells blk (off + i * 96) ts := ⟨_, rfl⟩
 have ht1 : W1.there blk (off + (len - 1) * 96) 96 := by
  rw [hW1]
  refine World.there_setCells ?_ _ _ _
  intro t ht
  have := hth ((len - 1) * 96 + t) (by omega)
  rw [← Nat.add_assoc] at this
  exact this
 have e1 : Hid (i + (len - (i + 1)) = len - 1) := by show i + (len - (i + 1)) = len - 1; omega
 have hcl : ∀ ty c, (Builtin.clear_ #[24] ty #[.slice (some ⟨blk, off + (i + (len - (i + 1))) * 96, none⟩) (len - (i + (len - (i + 1)))) c]).run Try.prog W1 = .ok (.tuple #[]) (W1.setCells blk (off + (i + (len - (i + 1))) * 96) zs) := fun ty c => by
  rw [e1.out, show len - (len - 1) = 1 by omega]
  exact hcl0 ty c W1 ht1
 have hW : Hid (W1 = w.drew.setCells blk (off + i * 96) ts) := hW1
 have hic : i ≤ cap := by omega
 have hjc : i + 1 ≤ cap := by omega
 have hwr : IntKind.i64.wrap ((i : Int) + 1) = (i : Int) + 1 := by rw [IntKind.wrap_i64]; omega
 have hp0 : (0 : Int) ≤ (i : Int) + 1 := by omega
 have hp1 : (i : Int) + 1 ≤ (len : Int) := by omega
 have hp2 : ((i : Int) + 1).toNat = i + 1 := by omega
 have hp3 : (i : Int) ≤ (i : Int) + 1 := by omega
 clear hcl0 hW1 ht1 hth hrg hone hts
 go_enter Try.func52, Try.ntmps52
 go_wp2_with fail
 go_region_law (refine step_append_room rfl (.tmp 22) (.tmp 25) 24 rfl 63 j0 96 Try.underlying24 hj0 hjs blk off i cap (by simp [Act.eval, Act.put]) A (len - (i + 1)) (cap - (i + 1)) ts (by simp [Act.eval, Act.put]) s1.out hsrc.out s2.out (by omega) s3.out ?_; rw [← hW.out])
 go_wp2
 go_ret
 exact ⟨by rw [e1.out]; rfl, by rw [hW.out, e1.out]⟩
end Go.Proofs.Ytpdhdkpebbfnnaa.V
end
section
namespace Go.Proofs.Ytpdhdkpebbfnnaa.V
open Go Go.RowKit
set_option maxRecDepth 100000
theorem prSize : prSh.size = 96 := by decide
theorem del_se : SH Try.prog 63 = some prSh := by simp only [tab]
theorem del_ze : ZE Try.prog 63 = some zPr := by simp only [tab]
theorem call_del {H : Heap} {n m len i j : Nat} {els : List VV} {K : VV → Heap → Nat → Prop} (hb : H m = some (.row (.arr j prSh) (.agg els))) (hl : len = els.length) (hi : i < len) (hlb : len ≤ 1000000000)
  (hk : K (.sl (some (m, [], 0)) (len - 1)) (upd H m (some (.row (.arr j prSh) (.agg (els.take i ++ els.drop (i + 1) ++ [zPr]))))) n) :
  vcall Try.prog 52 [.sl (some (m, [], 0)) len, .int .i64 i, .int .i64 ((i : Int) + 1)] H n K := by
 intro B ρ w xs hh ha
 obtain ⟨x0, ys, rfl, hx, ha⟩ := ha
 obtain ⟨x1, ys, rfl, h1, ha⟩ := ha
 obtain ⟨x2, ys, rfl, h2, ha⟩ := ha
 obtain rfl : ys = [] := ha
 simp only [VR,VR1,C1,List.cons.injEq,and_true] at h1 h2
 subst h1 h2 hl
 rcases hx.sl with ⟨h0, _⟩ | ⟨l, cap, e', j', hlm, hp, hcap, hate, hroom⟩
 ·omega
 have hrow := hh.row m _ _ l hb hlm
 obtain ⟨cs, q1, q2, q3⟩ := hrow.cells
 have hhas := hrow.has
 simp only [Has] at hhas
 simp only [C1] at q1
 have hsh := hrow.sh
 have he' : e' = prSh := by
  rw [hsh] at hate
  simp [Sh.at] at hate
  exact hate.2.symm
 subst he'
 have hoff0 : l.sh.off ([] ++ [0]) = 0 := by rw [hsh]; simp [Sh.off]
 have hoffn : l.sh.off [] = 0 := by rw [hsh]; simp [Sh.off]
 rw [hoff0] at hroom hp
 rw [Nat.zero_add, prSize] at hroom
 rw [Nat.add_zero] at hp
 obtain ⟨pr, md, ps, rfl, r1, r2, r3⟩ := CR.part q1 hhas.2 (i + 1) els.length (by omega) (Nat.le_refl _)
 have hdt : ((els.drop (i + 1)).take (els.length - (i + 1))) = els.drop (i + 1) := List.take_of_length_le (by rw [List.length_drop]; omega)
 rw [hdt] at r3
 rw [prSize] at r1 r2
 have hmem : ∀ v ∈ els.drop (i + 1), Has prSh v := fun v hv => hhas.2 v (List.mem_of_mem_drop hv)
 have hone := HasA.one _ _ hmem r3
 have hrg := range_part q3
 rw [r1] at hrg
 have hth : w.there l.block l.base (els.length * 96) := by
  have := there_part (g := 0) (k := els.length * 96) hrow.room (by omega)
  rwa [Nat.add_zero] at this
 obtain ⟨s', zv, inf, hs', hinf, hzv, hHz, hsz, hV⟩ := ZE_spec del_ze
 rw [del_se] at hs'; injection hs' with hs'; subst hs'
 have hCall := del_calls l.block l.base els.length cap i md zv.cells.toList w hi hcap hlb r2 hone hrg hth (fun ty c W hW => by
  have hcz := (hV ρ W).2
  have hone1 : ∀ u ∈ zv.cells.toList, u.oneCell' = true := by
   have hcr : CR ρ W [zPr] zv.cells.toList := by simp only [CR]; exact ⟨_, [], by simp, hcz, rfl⟩
   exact HasA.one (s := prSh) _ _ (fun e he => by rw [List.mem_singleton.1 he]; exact hHz) hcr
  have hsz2 : zv.cells.toList.length = 96 := by rw [Array.length_toList, hsz, prSize]
  have hrc := run_cells_there (P := Try.prog) (w := W) (b := l.block) (f := l.base + (els.length - 1) * 96) (by rw [hsz2]; exact hW) hone1
  have hzr : (zeroValue 63).run Try.prog W = .ok zv W := by simp [zeroValue, typeInfo, hinf, hzv]
  have hzc : (Builtin.zeroCells zv.cells 1).toList = zv.cells.toList := (zeros_flat zv.cells 1).trans (by simp)
  have hul := EL_spec (show EL Try.prog 24 = some 63 by simp only [tab])
  simp [Builtin.clear_, run_underlying hul W, hzr, hzc, hrc])
 rw [hp]
 refine hCall.mono fun e w' ⟨he, hw⟩ => ⟨_, he, ?_⟩
 have hdl : (els.drop (i + 1)).length = els.length - (i + 1) := List.length_drop
 obtain ⟨t1, g1, x1, b1⟩ := splice_part hh.drew (p := []) (i := i) (news := els.drop (i + 1)) hb hlm rfl rfl (by rw [hdl]; omega) hmem (CR.ext (ext_drew ρ w) _ _ r3)
 rw [hoffn, Nat.zero_add, prSize] at g1 x1 b1
 have hcr : CR ρ (w.drew.setCells l.block (l.base + i * 96) md) [zPr] zv.cells.toList := by simp only [CR]; exact ⟨_, [], by simp, (hV _ _).2, rfl⟩
 obtain ⟨E1, hE1⟩ : ∃ E1, E1 = els.take i ++ els.drop (i + 1) ++ els.drop (i + (els.drop (i + 1)).length) := ⟨_, rfl⟩
 have hEl : E1.length = els.length := by rw [hE1]; simp only [List.length_append,List.length_take,List.length_drop]; omega
 have hbb : (upd H m (some (.row (.arr j prSh) (VV.set (.agg els) [] (.agg E1))))) m = some (.row (.arr j prSh) (.agg E1)) := by rw [upd_ap, if_pos rfl]; rfl
 rw [← hE1] at g1
 obtain ⟨t2, g2, x2, b2⟩ := splice_part g1 (p := []) (i := els.length - 1) (news := [zPr]) hbb hlm rfl rfl (by rw [hEl, List.length_singleton]; omega) (fun e he => by rw [List.mem_singleton.1 he]; exact hHz) hcr
 rw [hoffn, Nat.zero_add, prSize] at g2 x2 b2
 have hEE : E1.take (els.length - 1) ++ [zPr] ++ E1.drop (els.length - 1 + [zPr].length) = els.take i ++ els.drop (i + 1) ++ [zPr] := by
  rw [List.drop_of_length_le (by rw [hEl, List.length_singleton]; omega), List.append_nil, hE1]
  congr 1
  have : (els.take i ++ els.drop (i + 1)).length = els.length - 1 := by simp only [List.length_append,List.length_take,List.length_drop]; omega
  rw [← this, List.take_left]
 rw [hEE] at g2
 have hH2 : upd (upd H m (some (.row (.arr j prSh) (VV.set (.agg els) [] (.agg E1))))) m (some (.row (.arr j prSh) (VV.set (.agg E1) [] (.agg (els.take i ++ els.drop (i + 1) ++ [zPr]))))) = upd H m (some (.row (.arr j prSh) (.agg (els.take i ++ els.drop (i + 1) ++ [zPr])))) := by
  funext k
  simp only [upd_ap]
  split
  ·rfl
  ·rfl
 rw [hH2] at g2
 rw [hw]
 refine ⟨_, _, n, ρ, hk, ?_, g2, ((ext_drew ρ w).trans x1).trans x2, ((Below.refl B w).drew.trans b1).trans b2⟩
 simp only [VR,VR1,C1]
 refine .inr ⟨l, cap, prSh, j', hlm, by rw [hoff0, Nat.add_zero], by omega, hate, ?_⟩
 rw [hoff0, Nat.zero_add, prSize]; exact hroom
end Go.Proofs.Ytpdhdkpebbfnnaa.V
end
section
namespace Go.Proofs.Ytpdhdkpebbfnnaa.V
open Go
theorem ynTN {l : List VV} (h : nls l = true := by first|rfl|assumption|(simp only [znl,znTN];(first|done|fail))) : nls l = true := h
set_option maxRecDepth 100000
def znTN := And.intro @jO <| And.intro @jP <| And.intro @jQ <| And.intro @jR <| And.intro @jS <| And.intro @jT <| And.intro @jU <| And.intro @nls_lay <| And.intro @nl_lay <| And.intro @nls_nats <| True.intro
set_option maxHeartbeats 8000000
theorem sreap_spec (m : Mach) (hm : MFit 20000 m) (par : Int) (hp : i64R par) (pid : Int) (hq : i64R pid) : Spec Try.prog 25 [encM m, .int .i64 par, .int .i64 pid] (reapVV m par pid) := by
 have hl := hm.pr
 have hnM := nl_encM m
 obtain ⟨hp1, hp2⟩ := hp
 obtain ⟨hq1, hq2⟩ := hq
 obtain ⟨R, hR⟩ : ∃ R, R = reapVV m par pid := ⟨_, rfl⟩
 rw [← hR]
 unfold reapVV at hR
 refine spec_ok Try.func25 rfl rfl (by kernel_rfl) (k := 3) rfl (by decide) ?_
 repeat' (first|(with_reducible first|refine yrl (by constructor) ?_|refine jk (fun M hM=>?_)|(refine hM _ ?_;clear hM M)|refine yx3 ?_|refine yxa ?_ ?_|refine yxb ?_ ?_)|((with_reducible refine je ?_)<;>exact ynTN)|(with_reducible refine yxc ?_)|((with_reducible refine yxi (fun hc=>?_) (fun hc=>?_))<;>(try simp (disch:=omega) only [zhb] at hc)<;>(try (exfalso;omega))<;>(try subst hc))|(with_reducible refine yxw ?_)|(simp (config := { maxSteps := 400000 }) only [↓jt,↓reduceIte,zvs,reduceCtorEq,seval,tab,Try.results25,jTA])|(simp (disch:=omega) only [ziw]))
 refine ok_loop (fun k : Nat => ⟨slots [(1, .int .i64 par), (2, .int .i64 pid), (3, .ptr 0 []), (6, .ptr 1 []), (10, .int .i64 (chI (kidK m.pr par pid k))), (11, .bool (metK m.pr par pid k)), (17, encPrs m.pr), (18, .int .i64 m.pr.length), (19, .int .i64 k)], rows [(0, .row machSh (encM m)), (1, .row machSh nilMD)], 2⟩) (fun k => k ≤ m.pr.length) (fun k => m.pr.length - k) 0 ?_ (Nat.zero_le _) (fun k hk => ?_)
 ·(refine yrn [(0, 0), (1, 1)] false ?_ ?_<;>(repeat' (first|(with_reducible first|exact ya1|exact ya2|exact ya3|refine jx rfl (by first|rfl|assumption|(simp only [znl,znTN];(first|done|fail)))|exact ya5|exact ya7|exact jy|exact jz|refine jA ?_|refine ya9 ?_ ?_ ?_|refine jC rfl (by first|rfl|assumption|(simp only [znl,znTN];(first|done|fail)))|refine MR.agg (MRL.cons ?_ ?_)|refine MR.fn ?_|refine MRL.cons ?_ ?_|exact MRL.nil|refine jE ?_ ?_|exact jF|exact jG|refine yb1 ?_ ?_|refine MB.row ?_|refine jI ?_ ?_|exact ya8|refine jJ rfl (by first|rfl|assumption|(simp only [znl,znTN];(first|done|fail)))|refine yb2 ?_|rfl)|(simp only [znl,znTN];(first|done|fail))|(simp only [↓reduceIte,zlk,Nat.reduceEqDiff,reduceCtorEq])|(with_reducible first|refine jJ ?_ ?_|refine ya5 ?_|refine ju ?_|refine jv ?_|refine jw ?_|refine jx ?_ (by first|rfl|assumption|(simp only [znl,znTN];(first|done|fail)))|refine jC ?_ (by first|rfl|assumption|(simp only [znl,znTN];(first|done|fail)))))))
  all_goals (first | rfl)
 obtain ⟨ch, hch⟩ : ∃ ch, ch = chI (kidK m.pr par pid k) := ⟨_, rfl⟩
 rw [← hch]
 by_cases hlt : k < m.pr.length
 ·have hb := hm.prR _ (getD_mem' hlt)
  obtain ⟨hS1, hS2, hS3⟩ := pr3 hb
  by_cases hkid : kidP par pid (m.pr.getD k default)
  ·have e1 := kid_yes hkid
   have hkp : (m.pr.getD k default).par = par ∧ (pid = 0 ∨ (m.pr.getD k default).pid = pid) := hkid
   by_cases h3 : (m.pr.getD k default).st = 3
   ·cases hkk : kidK m.pr par pid k with
    | none =>
     have e2 : chI (kidK m.pr par pid (k + 1)) = (k : Int) := by rw [kid_take hkid h3 (by rw [hkk]; trivial)]; rfl
     have h0 : ch = -1 := by rw [hch, hkk]; rfl
     rw [h0]
     clear hch
     repeat' (first|(with_reducible first|refine yrl (by constructor) ?_|refine jk (fun M hM=>?_)|(refine hM _ ?_;clear hM M)|refine yx3 ?_|refine yxa ?_ ?_|refine yxb ?_ ?_)|((with_reducible refine je ?_)<;>exact ynTN)|(with_reducible refine yxc ?_)|((with_reducible refine yxi (fun hc=>?_) (fun hc=>?_))<;>(try simp (disch:=omega) only [zhb] at hc)<;>(try (exfalso;omega))<;>(try subst hc))|(with_reducible refine yxw ?_)|(simp (config := { maxSteps := 400000 }) only [↓jt,↓reduceIte,zvs,reduceCtorEq,seval,tab,hS1,hS2,hS3,encPr,Try.results25,jTA])|(simp (disch:=omega) only [ziw]))
     all_goals (try (exfalso; omega))
     all_goals (refine ok_drawC 15 (by kernel_rfl) (by decide +kernel) (by intro m hm; simp only [upd_ap,rows_cons,rows_nil]; (repeat (first | rfl | rw [if_neg (by omega)]))) (fun M hM => ?_); simp only [List.take_succ_cons,List.take_zero,List.drop_succ_cons,List.drop_zero])
     all_goals (repeat' (first|(with_reducible first|refine yrl (by constructor) ?_|refine jk (fun M hM=>?_)|(refine hM _ ?_;clear hM M)|refine yx3 ?_|refine yxa ?_ ?_|refine yxb ?_ ?_)|((with_reducible refine je ?_)<;>exact ynTN)|(with_reducible refine yxc ?_)|((with_reducible refine yxi (fun hc=>?_) (fun hc=>?_))<;>(try simp (disch:=omega) only [zhb] at hc)<;>(try (exfalso;omega))<;>(try subst hc))|(with_reducible refine yxw ?_)|(simp (config := { maxSteps := 400000 }) only [↓jt,↓reduceIte,zvs,reduceCtorEq,seval,tab,hS1,hS2,hS3,encPr,Try.results25,jTA])|(simp (disch:=omega) only [ziw])))
     all_goals first
      | (exfalso; omega)
      | (refine xl1 (k + 1) ?_ (by show k + 1 ≤ m.pr.length; omega) (by show m.pr.length - (k + 1) < m.pr.length - k; omega); (refine yrn [(0, 0), (1, 1)] false ?_ ?_<;>(repeat' (first|(with_reducible first|exact ya1|exact ya2|exact ya3|refine jx rfl (by first|rfl|assumption|(simp only [znl,znTN];(first|done|fail)))|exact ya5|exact ya7|exact jy|exact jz|refine jA ?_|refine ya9 ?_ ?_ ?_|refine jC rfl (by first|rfl|assumption|(simp only [znl,znTN];(first|done|fail)))|refine MR.agg (MRL.cons ?_ ?_)|refine MR.fn ?_|refine MRL.cons ?_ ?_|exact MRL.nil|refine jE ?_ ?_|exact jF|exact jG|refine yb1 ?_ ?_|refine MB.row ?_|refine jI ?_ ?_|exact ya8|refine jJ rfl (by first|rfl|assumption|(simp only [znl,znTN];(first|done|fail)))|refine yb2 ?_|rfl)|(simp only [znl,znTN];(first|done|fail))|(simp only [↓reduceIte,zlk,Nat.reduceEqDiff,reduceCtorEq])|(with_reducible first|refine jJ ?_ ?_|refine ya5 ?_|refine ju ?_|refine jv ?_|refine jw ?_|refine jx ?_ (by first|rfl|assumption|(simp only [znl,znTN];(first|done|fail)))|refine jC ?_ (by first|rfl|assumption|(simp only [znl,znTN];(first|done|fail))))))); all_goals (first | rfl | (rw [e1]; done) | (rw [e2]; done)); done)
    | some c =>
     have hc0 := kidK_lt hkk
     have h0 : ch = (c : Int) := by rw [hch, hkk]; rfl
     rw [h0]
     by_cases hbt : (m.pr.getD k default).pid < (m.pr.getD c default).pid
     ·have e2 : chI (kidK m.pr par pid (k + 1)) = (k : Int) := by rw [kid_take hkid h3 (by rw [hkk]; exact hbt)]; rfl
      clear hch
      repeat' (first|(with_reducible first|refine yrl (by constructor) ?_|refine jk (fun M hM=>?_)|(refine hM _ ?_;clear hM M)|refine yx3 ?_|refine yxa ?_ ?_|refine yxb ?_ ?_)|((with_reducible refine je ?_)<;>exact ynTN)|(with_reducible refine yxc ?_)|((with_reducible refine yxi (fun hc=>?_) (fun hc=>?_))<;>(try simp (disch:=omega) only [zhb] at hc)<;>(try (exfalso;omega))<;>(try subst hc))|(with_reducible refine yxw ?_)|(simp (config := { maxSteps := 400000 }) only [↓jt,↓reduceIte,zvs,reduceCtorEq,seval,tab,hS1,hS2,hS3,encPr,Try.results25,jTA])|(simp (disch:=omega) only [ziw]))
      all_goals (try (exfalso; omega))
      all_goals (refine ok_drawC 15 (by kernel_rfl) (by decide +kernel) (by intro m hm; simp only [upd_ap,rows_cons,rows_nil]; (repeat (first | rfl | rw [if_neg (by omega)]))) (fun M hM => ?_); simp only [List.take_succ_cons,List.take_zero,List.drop_succ_cons,List.drop_zero])
      all_goals (repeat' (first|(with_reducible first|refine yrl (by constructor) ?_|refine jk (fun M hM=>?_)|(refine hM _ ?_;clear hM M)|refine yx3 ?_|refine yxa ?_ ?_|refine yxb ?_ ?_)|((with_reducible refine je ?_)<;>exact ynTN)|(with_reducible refine yxc ?_)|((with_reducible refine yxi (fun hc=>?_) (fun hc=>?_))<;>(try simp (disch:=omega) only [zhb] at hc)<;>(try (exfalso;omega))<;>(try subst hc))|(with_reducible refine yxw ?_)|(simp (config := { maxSteps := 400000 }) only [↓jt,↓reduceIte,zvs,reduceCtorEq,seval,tab,hS1,hS2,hS3,encPr,Try.results25,jTA])|(simp (disch:=omega) only [ziw])))
      all_goals first
       | (exfalso; omega)
       | (refine xl1 (k + 1) ?_ (by show k + 1 ≤ m.pr.length; omega) (by show m.pr.length - (k + 1) < m.pr.length - k; omega); (refine yrn [(0, 0), (1, 1)] false ?_ ?_<;>(repeat' (first|(with_reducible first|exact ya1|exact ya2|exact ya3|refine jx rfl (by first|rfl|assumption|(simp only [znl,znTN];(first|done|fail)))|exact ya5|exact ya7|exact jy|exact jz|refine jA ?_|refine ya9 ?_ ?_ ?_|refine jC rfl (by first|rfl|assumption|(simp only [znl,znTN];(first|done|fail)))|refine MR.agg (MRL.cons ?_ ?_)|refine MR.fn ?_|refine MRL.cons ?_ ?_|exact MRL.nil|refine jE ?_ ?_|exact jF|exact jG|refine yb1 ?_ ?_|refine MB.row ?_|refine jI ?_ ?_|exact ya8|refine jJ rfl (by first|rfl|assumption|(simp only [znl,znTN];(first|done|fail)))|refine yb2 ?_|rfl)|(simp only [znl,znTN];(first|done|fail))|(simp only [↓reduceIte,zlk,Nat.reduceEqDiff,reduceCtorEq])|(with_reducible first|refine jJ ?_ ?_|refine ya5 ?_|refine ju ?_|refine jv ?_|refine jw ?_|refine jx ?_ (by first|rfl|assumption|(simp only [znl,znTN];(first|done|fail)))|refine jC ?_ (by first|rfl|assumption|(simp only [znl,znTN];(first|done|fail))))))); all_goals (first | rfl | (rw [e1]; done) | (rw [e2]; done)); done)
     ·have e2 : chI (kidK m.pr par pid (k + 1)) = (c : Int) := by rw [kid_keep (by rw [hkk]; exact fun h => hbt h.2), hkk]; rfl
      clear hch
      repeat' (first|(with_reducible first|refine yrl (by constructor) ?_|refine jk (fun M hM=>?_)|(refine hM _ ?_;clear hM M)|refine yx3 ?_|refine yxa ?_ ?_|refine yxb ?_ ?_)|((with_reducible refine je ?_)<;>exact ynTN)|(with_reducible refine yxc ?_)|((with_reducible refine yxi (fun hc=>?_) (fun hc=>?_))<;>(try simp (disch:=omega) only [zhb] at hc)<;>(try (exfalso;omega))<;>(try subst hc))|(with_reducible refine yxw ?_)|(simp (config := { maxSteps := 400000 }) only [↓jt,↓reduceIte,zvs,reduceCtorEq,seval,tab,hS1,hS2,hS3,encPr,Try.results25,jTA])|(simp (disch:=omega) only [ziw]))
      all_goals (try (exfalso; omega))
      all_goals (refine ok_drawC 15 (by kernel_rfl) (by decide +kernel) (by intro m hm; simp only [upd_ap,rows_cons,rows_nil]; (repeat (first | rfl | rw [if_neg (by omega)]))) (fun M hM => ?_); simp only [List.take_succ_cons,List.take_zero,List.drop_succ_cons,List.drop_zero])
      all_goals (repeat' (first|(with_reducible first|refine yrl (by constructor) ?_|refine jk (fun M hM=>?_)|(refine hM _ ?_;clear hM M)|refine yx3 ?_|refine yxa ?_ ?_|refine yxb ?_ ?_)|((with_reducible refine je ?_)<;>exact ynTN)|(with_reducible refine yxc ?_)|((with_reducible refine yxi (fun hc=>?_) (fun hc=>?_))<;>(try simp (disch:=omega) only [zhb] at hc)<;>(try (exfalso;omega))<;>(try subst hc))|(with_reducible refine yxw ?_)|(simp (config := { maxSteps := 400000 }) only [↓jt,↓reduceIte,zvs,reduceCtorEq,seval,tab,hS1,hS2,hS3,encPr,Try.results25,jTA])|(simp (disch:=omega) only [ziw])))
      all_goals first
       | (exfalso; omega)
       | (refine xl1 (k + 1) ?_ (by show k + 1 ≤ m.pr.length; omega) (by show m.pr.length - (k + 1) < m.pr.length - k; omega); (refine yrn [(0, 0), (1, 1)] false ?_ ?_<;>(repeat' (first|(with_reducible first|exact ya1|exact ya2|exact ya3|refine jx rfl (by first|rfl|assumption|(simp only [znl,znTN];(first|done|fail)))|exact ya5|exact ya7|exact jy|exact jz|refine jA ?_|refine ya9 ?_ ?_ ?_|refine jC rfl (by first|rfl|assumption|(simp only [znl,znTN];(first|done|fail)))|refine MR.agg (MRL.cons ?_ ?_)|refine MR.fn ?_|refine MRL.cons ?_ ?_|exact MRL.nil|refine jE ?_ ?_|exact jF|exact jG|refine yb1 ?_ ?_|refine MB.row ?_|refine jI ?_ ?_|exact ya8|refine jJ rfl (by first|rfl|assumption|(simp only [znl,znTN];(first|done|fail)))|refine yb2 ?_|rfl)|(simp only [znl,znTN];(first|done|fail))|(simp only [↓reduceIte,zlk,Nat.reduceEqDiff,reduceCtorEq])|(with_reducible first|refine jJ ?_ ?_|refine ya5 ?_|refine ju ?_|refine jv ?_|refine jw ?_|refine jx ?_ (by first|rfl|assumption|(simp only [znl,znTN];(first|done|fail)))|refine jC ?_ (by first|rfl|assumption|(simp only [znl,znTN];(first|done|fail))))))); all_goals (first | rfl | (rw [e1]; done) | (rw [e2]; done)); done)
   ·have e2 : chI (kidK m.pr par pid (k + 1)) = ch := by rw [kid_keep (fun h => h3 h.1), hch]
    clear hch
    repeat' (first|(with_reducible first|refine yrl (by constructor) ?_|refine jk (fun M hM=>?_)|(refine hM _ ?_;clear hM M)|refine yx3 ?_|refine yxa ?_ ?_|refine yxb ?_ ?_)|((with_reducible refine je ?_)<;>exact ynTN)|(with_reducible refine yxc ?_)|((with_reducible refine yxi (fun hc=>?_) (fun hc=>?_))<;>(try simp (disch:=omega) only [zhb] at hc)<;>(try (exfalso;omega))<;>(try subst hc))|(with_reducible refine yxw ?_)|(simp (config := { maxSteps := 400000 }) only [↓jt,↓reduceIte,zvs,reduceCtorEq,seval,tab,hS1,hS2,hS3,encPr,Try.results25,jTA])|(simp (disch:=omega) only [ziw]))
    all_goals (try (exfalso; omega))
    all_goals (refine ok_drawC 15 (by kernel_rfl) (by decide +kernel) (by intro m hm; simp only [upd_ap,rows_cons,rows_nil]; (repeat (first | rfl | rw [if_neg (by omega)]))) (fun M hM => ?_); simp only [List.take_succ_cons,List.take_zero,List.drop_succ_cons,List.drop_zero])
    all_goals (repeat' (first|(with_reducible first|refine yrl (by constructor) ?_|refine jk (fun M hM=>?_)|(refine hM _ ?_;clear hM M)|refine yx3 ?_|refine yxa ?_ ?_|refine yxb ?_ ?_)|((with_reducible refine je ?_)<;>exact ynTN)|(with_reducible refine yxc ?_)|((with_reducible refine yxi (fun hc=>?_) (fun hc=>?_))<;>(try simp (disch:=omega) only [zhb] at hc)<;>(try (exfalso;omega))<;>(try subst hc))|(with_reducible refine yxw ?_)|(simp (config := { maxSteps := 400000 }) only [↓jt,↓reduceIte,zvs,reduceCtorEq,seval,tab,hS1,hS2,hS3,encPr,Try.results25,jTA])|(simp (disch:=omega) only [ziw])))
    all_goals first
     | (exfalso; omega)
     | (refine xl1 (k + 1) ?_ (by show k + 1 ≤ m.pr.length; omega) (by show m.pr.length - (k + 1) < m.pr.length - k; omega); (refine yrn [(0, 0), (1, 1)] false ?_ ?_<;>(repeat' (first|(with_reducible first|exact ya1|exact ya2|exact ya3|refine jx rfl (by first|rfl|assumption|(simp only [znl,znTN];(first|done|fail)))|exact ya5|exact ya7|exact jy|exact jz|refine jA ?_|refine ya9 ?_ ?_ ?_|refine jC rfl (by first|rfl|assumption|(simp only [znl,znTN];(first|done|fail)))|refine MR.agg (MRL.cons ?_ ?_)|refine MR.fn ?_|refine MRL.cons ?_ ?_|exact MRL.nil|refine jE ?_ ?_|exact jF|exact jG|refine yb1 ?_ ?_|refine MB.row ?_|refine jI ?_ ?_|exact ya8|refine jJ rfl (by first|rfl|assumption|(simp only [znl,znTN];(first|done|fail)))|refine yb2 ?_|rfl)|(simp only [znl,znTN];(first|done|fail))|(simp only [↓reduceIte,zlk,Nat.reduceEqDiff,reduceCtorEq])|(with_reducible first|refine jJ ?_ ?_|refine ya5 ?_|refine ju ?_|refine jv ?_|refine jw ?_|refine jx ?_ (by first|rfl|assumption|(simp only [znl,znTN];(first|done|fail)))|refine jC ?_ (by first|rfl|assumption|(simp only [znl,znTN];(first|done|fail))))))); all_goals (first | rfl | (rw [e1]; done) | (rw [e2]; done)); done)
  ·obtain ⟨e2, e1⟩ := kid_no hkid
   have e2 : chI (kidK m.pr par pid (k + 1)) = ch := by rw [e2, hch]
   clear hch
   have hkp : ¬((m.pr.getD k default).par = par ∧ (pid = 0 ∨ (m.pr.getD k default).pid = pid)) := hkid
   repeat' (first|(with_reducible first|refine yrl (by constructor) ?_|refine jk (fun M hM=>?_)|(refine hM _ ?_;clear hM M)|refine yx3 ?_|refine yxa ?_ ?_|refine yxb ?_ ?_)|((with_reducible refine je ?_)<;>exact ynTN)|(with_reducible refine yxc ?_)|((with_reducible refine yxi (fun hc=>?_) (fun hc=>?_))<;>(try simp (disch:=omega) only [zhb] at hc)<;>(try (exfalso;omega))<;>(try subst hc))|(with_reducible refine yxw ?_)|(simp (config := { maxSteps := 400000 }) only [↓jt,↓reduceIte,zvs,reduceCtorEq,seval,tab,hS1,hS2,hS3,encPr,Try.results25,jTA])|(simp (disch:=omega) only [ziw]))
   all_goals first
    | (exfalso; omega)
    | (refine xl1 (k + 1) ?_ (by show k + 1 ≤ m.pr.length; omega) (by show m.pr.length - (k + 1) < m.pr.length - k; omega); (refine yrn [(0, 0), (1, 1)] false ?_ ?_<;>(repeat' (first|(with_reducible first|exact ya1|exact ya2|exact ya3|refine jx rfl (by first|rfl|assumption|(simp only [znl,znTN];(first|done|fail)))|exact ya5|exact ya7|exact jy|exact jz|refine jA ?_|refine ya9 ?_ ?_ ?_|refine jC rfl (by first|rfl|assumption|(simp only [znl,znTN];(first|done|fail)))|refine MR.agg (MRL.cons ?_ ?_)|refine MR.fn ?_|refine MRL.cons ?_ ?_|exact MRL.nil|refine jE ?_ ?_|exact jF|exact jG|refine yb1 ?_ ?_|refine MB.row ?_|refine jI ?_ ?_|exact ya8|refine jJ rfl (by first|rfl|assumption|(simp only [znl,znTN];(first|done|fail)))|refine yb2 ?_|rfl)|(simp only [znl,znTN];(first|done|fail))|(simp only [↓reduceIte,zlk,Nat.reduceEqDiff,reduceCtorEq])|(with_reducible first|refine jJ ?_ ?_|refine ya5 ?_|refine ju ?_|refine jv ?_|refine jw ?_|refine jx ?_ (by first|rfl|assumption|(simp only [znl,znTN];(first|done|fail)))|refine jC ?_ (by first|rfl|assumption|(simp only [znl,znTN];(first|done|fail))))))); all_goals (first | rfl | (rw [e1]; done) | (rw [e2]; done)); done)
 obtain rfl : k = m.pr.length := by omega
 cases hmt : metK m.pr par pid m.pr.length with
 | false =>
  rw [hmt, if_pos rfl] at hR
  repeat' (first|(with_reducible first|refine yrl (by constructor) ?_|refine jk (fun M hM=>?_)|(refine hM _ ?_;clear hM M)|refine yx3 ?_|refine yxa ?_ ?_|refine yxb ?_ ?_)|((with_reducible refine je ?_)<;>exact ynTN)|(with_reducible refine yxc ?_)|((with_reducible refine yxi (fun hc=>?_) (fun hc=>?_))<;>(try simp (disch:=omega) only [zhb] at hc)<;>(try (exfalso;omega))<;>(try subst hc))|(with_reducible refine yxw ?_)|(simp (config := { maxSteps := 400000 }) only [↓jt,↓reduceIte,zvs,reduceCtorEq,seval,tab,Try.results25,jTA])|(simp (disch:=omega) only [ziw]))
  all_goals first
   | (exfalso; omega)
   | (rw [hR]; ((try simp only [nilM,List.map_nil]); simp only [zrds]; (repeat' (first | exact rd_nil | exact Rd.refl _ _ (by first|rfl|assumption|(simp only [znl,znTN];(first|done|fail))) | (refine And.intro ?_ ?_) | (refine rd_own (by (simp only [↓reduceIte,zlk,Nat.reduceEqDiff,reduceCtorEq]); exact rfl) ?_ ?_ ?_) | rfl | assumption | (simp only [znl,znTN];(first|done|fail)) | (simp; done) | (simp; omega)))); done)
 | true =>
  rw [hmt, if_neg (by decide)] at hR
  cases hkk : kidK m.pr par pid m.pr.length with
  | none =>
   rw [hkk] at hR
   dsimp only at hR
   rw [hkk] at hch
   have h0 : ch = -1 := hch
   rw [h0]
   clear hch h0
   repeat' (first|(with_reducible first|refine yrl (by constructor) ?_|refine jk (fun M hM=>?_)|(refine hM _ ?_;clear hM M)|refine yx3 ?_|refine yxa ?_ ?_|refine yxb ?_ ?_)|((with_reducible refine je ?_)<;>exact ynTN)|(with_reducible refine yxc ?_)|((with_reducible refine yxi (fun hc=>?_) (fun hc=>?_))<;>(try simp (disch:=omega) only [zhb] at hc)<;>(try (exfalso;omega))<;>(try subst hc))|(with_reducible refine yxw ?_)|(simp (config := { maxSteps := 400000 }) only [↓jt,↓reduceIte,zvs,reduceCtorEq,seval,tab,Try.results25,jTA])|(simp (disch:=omega) only [ziw]))
   all_goals first
    | (exfalso; omega)
    | (rw [hR]; ((try simp only [nilM,List.map_nil]); simp only [zrds]; (repeat' (first | exact rd_nil | exact Rd.refl _ _ (by first|rfl|assumption|(simp only [znl,znTN];(first|done|fail))) | (refine And.intro ?_ ?_) | (refine rd_own (by (simp only [↓reduceIte,zlk,Nat.reduceEqDiff,reduceCtorEq]); exact rfl) ?_ ?_ ?_) | rfl | assumption | (simp only [znl,znTN];(first|done|fail)) | (simp; done) | (simp; omega)))); done)
  | some c =>
   rw [hkk] at hR
   dsimp only at hR
   rw [hkk] at hch
   have h0 : ch = (c : Int) := hch
   rw [h0]
   clear hch h0
   have hc0 := kidK_lt hkk
   have hb := hm.prR _ (getD_mem' hc0)
   obtain ⟨hS1, hS2, hS3⟩ := pr3 hb
   obtain ⟨L, hL⟩ : ∃ L, L = m.pr.take c ++ m.pr.drop (c + 1) := ⟨_, rfl⟩
   have eR : reapM m c = prM m L := by rw [hL]; rfl
   rw [eR] at hR
   have hnL := jP L
   have hLl : L.length = m.pr.length - 1 := by rw [hL, List.length_append, List.length_take, List.length_drop]; omega
   have f2 : List.take c (m.pr.map encPr) ++ List.drop (c + 1) (m.pr.map encPr) = L.map encPr := by rw [hL, List.map_append, List.map_take, List.map_drop]
   have f3 : List.take (m.pr.length - 1) (L.map encPr ++ [zPr]) = L.map encPr := List.take_left' (by rw [List.length_map, hLl])
   have hA := list_str m.fr hm.fr
   have hB := list_pi m.pipes hm.pipes
   have hE := own_drive m.dr hm.bl hm.pe
   have hG := list_wr m.dirty hm.dirty
   have hat0 : (m.pr.map encPr)[c]? = some (encPr (m.pr.getD c default)) := map_getD encPr m.pr c hc0
   simp only [encPr] at hat0
   repeat' (first|(with_reducible first|refine yrl (by constructor) ?_|refine jk (fun M hM=>?_)|(refine hM _ ?_;clear hM M)|refine yx3 ?_|refine yxa ?_ ?_|refine yxb ?_ ?_)|((with_reducible refine je ?_)<;>exact ynTN)|(with_reducible refine yxc ?_)|((with_reducible refine yxi (fun hc=>?_) (fun hc=>?_))<;>(try simp (disch:=omega) only [zhb] at hc)<;>(try (exfalso;omega))<;>(try subst hc))|(with_reducible refine yxw ?_)|(simp (config := { maxSteps := 400000 }) only [↓jt,↓reduceIte,zvs,reduceCtorEq,seval,tab,hS1,hS2,hS3,encPr,Try.results90, Try.results41, Try.results25, List.toList_toArray])|(simp (disch:=omega) only [ziw]))
   all_goals (try (exfalso; omega))
   refine ja (ok_body Try.func41 rfl rfl (by kernel_rfl) (k := 1) (by rfl) (by decide) ?_)
   repeat' (first|(with_reducible first|refine yrl (by constructor) ?_|refine jk (fun M hM=>?_)|(refine hM _ ?_;clear hM M)|refine yx3 ?_|refine yxa ?_ ?_|refine yxb ?_ ?_)|((with_reducible refine je ?_)<;>exact ynTN)|(with_reducible refine yxc ?_)|((with_reducible refine yxi (fun hc=>?_) (fun hc=>?_))<;>(try simp (disch:=omega) only [zhb] at hc)<;>(try (exfalso;omega))<;>(try subst hc))|(with_reducible refine yxw ?_)|(simp (config := { maxSteps := 400000 }) only [↓jt,↓reduceIte,zvs,reduceCtorEq,seval,tab,Try.results90, Try.results41, Try.results25, List.toList_toArray])|(simp (disch:=omega) only [ziw]))
   refine ja (ok_body Try.func90 rfl rfl (by kernel_rfl) (k := 1) (by rfl) (by decide) ?_)
   repeat' (first|(with_reducible first|refine yrl (by constructor) ?_|refine jk (fun M hM=>?_)|(refine hM _ ?_;clear hM M)|refine yx3 ?_|refine yxa ?_ ?_|refine yxb ?_ ?_)|((with_reducible refine je ?_)<;>exact ynTN)|(with_reducible refine yxc ?_)|((with_reducible refine yxi (fun hc=>?_) (fun hc=>?_))<;>(try simp (disch:=omega) only [zhb] at hc)<;>(try (exfalso;omega))<;>(try subst hc))|(with_reducible refine yxw ?_)|(simp (config := { maxSteps := 400000 }) only [↓jt,↓reduceIte,zvs,reduceCtorEq,seval,tab,hS1,hS2,hS3,hat0,Try.results90, Try.results41, Try.results25, List.toList_toArray])|(simp (disch:=omega) only [ziw]))
   all_goals (try (exfalso; omega))
   refine ja (call_del (els := m.pr.map encPr) (by simp only [↓reduceIte,zlk,Nat.reduceEqDiff,reduceCtorEq]; exact rfl) (by rw [List.length_map]) hc0 (by omega) ?_)
   rw [f2]
   repeat' (first|(with_reducible first|refine yrl (by constructor) ?_|refine jk (fun M hM=>?_)|(refine hM _ ?_;clear hM M)|refine yx3 ?_|refine yxa ?_ ?_|refine yxb ?_ ?_)|((with_reducible refine je ?_)<;>exact ynTN)|(with_reducible refine yxc ?_)|((with_reducible refine yxi (fun hc=>?_) (fun hc=>?_))<;>(try simp (disch:=omega) only [zhb] at hc)<;>(try (exfalso;omega))<;>(try subst hc))|(with_reducible refine yxw ?_)|(simp (config := { maxSteps := 400000 }) only [↓jt,↓reduceIte,zvs,reduceCtorEq,seval,tab,hS1,hS2,hS3,hat0,Try.results90, Try.results41, Try.results25, List.toList_toArray])|(simp (disch:=omega) only [ziw]))
   all_goals (try (exfalso; omega))
   refine ok_drawE 7 [0, 1, 2, 3, 4, 6] 5 1 (by kernel_rfl) (by decide +kernel) (by decide) (by decide) (by (simp only [↓reduceIte,zlk,Nat.reduceEqDiff,reduceCtorEq]); exact rfl) (by intro m hm; simp only [upd_ap,rows_cons,rows_nil]; (repeat (first | rfl | rw [if_neg (by omega)]))) (fun M hM => ?_); simp only [picks,List.getElem?_cons_succ,List.getElem?_cons_zero,List.drop_succ_cons,List.drop_zero]
   repeat' (first|(with_reducible first|refine yrl (by constructor) ?_|refine jk (fun M hM=>?_)|(refine hM _ ?_;clear hM M)|refine yx3 ?_|refine yxa ?_ ?_|refine yxb ?_ ?_)|((with_reducible refine je ?_)<;>exact ynTN)|(with_reducible refine yxc ?_)|((with_reducible refine yxi (fun hc=>?_) (fun hc=>?_))<;>(try simp (disch:=omega) only [zhb] at hc)<;>(try (exfalso;omega))<;>(try subst hc))|(with_reducible refine yxw ?_)|(simp (config := { maxSteps := 400000 }) only [↓jt,↓reduceIte,zvs,reduceCtorEq,seval,tab,storeAt_go,isP_ptr,hS1,hS2,hS3,Try.results90, Try.results41, Try.results25, List.toList_toArray])|(simp (disch:=omega) only [ziw]))
   all_goals first
    | (exfalso; omega)
    | (rw [hR]; ((try simp only [prM,f3,List.map_nil]); simp only [zrds]; (repeat' (first | exact rd_nil | exact Rd.refl _ _ (by first|rfl|assumption|(simp only [znl,znTN];(first|done|fail))) | (refine And.intro ?_ ?_) | (refine rd_pre (by (simp only [↓reduceIte,zlk,Nat.reduceEqDiff,reduceCtorEq]); exact rfl) ?_ ?_ ?_) | rfl | assumption | (simp only [znl,znTN];(first|done|fail)) | (simp; done) | (simp; omega)))); done)
end Go.Proofs.Ytpdhdkpebbfnnaa.V
end
section
namespace Go.Proofs.Ytpdhdkpebbfnnaa.V
open Go
set_option maxRecDepth 100000
set_option maxHeartbeats 8000000
theorem reapM_fit {m : Mach} (hm : MFit 20000 m) (c : Nat) : MFit 20000 (reapM m c) :=
 prM_fit hm (by have := hm.pr; rw [List.length_append, List.length_take, List.length_drop]; omega) (fun p hp => by
  rcases List.mem_append.1 hp with hp | hp
  ·exact hm.prR p (List.mem_of_mem_take hp)
  ·exact hm.prR p (List.mem_of_mem_drop hp))
theorem sweepM_fit {m : Mach} (h : MFit 20000 m) : MFit 20000 (sweepM m) :=
 ⟨h.clock, h.quantum, h.cur, h.left, h.fr, h.frS, h.pr, h.prR, h.next, h.init, Nat.le_trans (List.length_filter_le _ _) h.pipes, fun p hp => h.pipesR p (List.mem_filter.1 hp).1, h.newp, h.inp, h.told, h.bl, h.blS, h.pe, h.peS, h.dleft, h.dirty, h.dirtyS⟩
theorem dieM_fit {m : Mach} (hm : MFit 20000 m) (pid : Int) {code : Int} (hc : u32R code) : MFit 20000 (dieM m pid code) := by
 unfold dieM
 cases hf : findI m.pr pid with
 | none => exact hm
 | some i =>
  obtain ⟨hi, _⟩ := findI_some hf
  obtain ⟨h1, h2⟩ := dieL_fit hm hi pid hc
  dsimp only
  split
  ·exact hm
  ·refine sweepM_fit (prM_fit hm ?_ fun p hp => h2 p (List.mem_filter.1 hp).1)
   have := List.length_filter_le (stayB (dieL m i pid code)) (dieL m i pid code)
   have := hm.pr
   omega
end Go.Proofs.Ytpdhdkpebbfnnaa.V
end
section
namespace Go.Proofs.Ytpdhdkpebbfnnaa.V
open Go
set_option maxRecDepth 100000
theorem procs_of {m : Mach} (hinc : m.pr.Pairwise fun p q => p.pid < q.pid) (hall : ∀ p ∈ m.pr, procB m p = true) : procsB m = true := by
 unfold procsB
 rw [List.all_eq_true]
 intro i hi
 have hi : i < m.pr.length := List.mem_range.1 hi
 rw [Bool.and_eq_true]
 refine ⟨?_, hall _ (getD_mem' hi)⟩
 by_cases h0 : 0 < i
 ·have := (List.pairwise_iff_getElem.1 hinc) (i - 1) i (by omega) hi (by omega)
  rw [decide_eq_true h0, Bool.true_and, Bool.not_eq_true', decide_eq_false_iff_not]
  rw [List.getD_eq_getElem?_getD, List.getD_eq_getElem?_getD, List.getElem?_eq_getElem hi, List.getElem?_eq_getElem (show i - 1 < m.pr.length by omega)]
  show ¬(_ ≤ _)
  simp only [Option.getD_some]
  omega
 ·rw [decide_eq_false h0]; rfl
theorem procs_each {m : Mach} (h : chkM m = 0) : ∀ p ∈ m.pr, procB m p = true := fun p hp => by
 obtain ⟨_, _, _, _, h5, _⟩ := chk_parts h
 obtain ⟨i, hi, rfl⟩ := List.mem_iff_getElem.1 hp
 have hq := (List.all_eq_true.1 h5) i (List.mem_range.2 hi)
 rw [Bool.and_eq_true] at hq
 have := hq.2
 rwa [List.getD_eq_getElem?_getD, List.getElem?_eq_getElem hi] at this
theorem chk_new {m : Mach} (h : chkM m = 0) (fr : Frames) (pr : List Pr) (next : Int) (hn : 1 ≤ next ∧ next ≤ 1000000000) (hf : fr.length = m.fr.length) (hfs : ∀ s ∈ fr, s.length = 128) (hl : pr.length ≤ 8)
  (hp : procsB { m with fr := fr, pr := pr, next := next } = true) : chkM { m with fr := fr, pr := pr, next := next } = 0 := by
 obtain ⟨h1, h2, h3, h4, h5, h6, h7, h8, h9, h10⟩ := chk_parts h
 have hN : numB { m with fr := fr, pr := pr, next := next } = false := by
  unfold numB at h1 ⊢
  have h1 := of_decide_eq_false h1
  refine decide_eq_false ?_
  show ¬(m.quantum < 1 ∨ 1000 < m.quantum ∨ m.left < 0 ∨ m.quantum < m.left ∨ m.cur < 0 ∨ next < 1 ∨ 1000000000 < next ∨ m.newp < 1 ∨ 1000000000 < m.newp)
  omega
 have hF : (fr.any fun s => decide (s.length ≠ 128)) = false := by
  rw [List.any_eq_false]
  intro s hs
  simpa using hfs s hs
 unfold chkM
 rw [if_neg (by rw [hN]; decide)]
 rw [if_neg (by show ¬(fr.length < 1 ∨ 64 < fr.length); omega)]
 rw [if_neg (by show ¬((fr.any fun s => decide (s.length ≠ 128)) = true); rw [hF]; decide)]
 rw [if_neg (by show ¬(8 < pr.length); omega)]
 rw [if_neg (by rw [hp]; decide)]
 rw [if_neg (by show ¬(64 < m.pipes.length); omega)]
 rw [if_neg (by show ¬(pipesB m = false); rw [h7]; decide)]
 rw [if_neg (by show ¬(65536 < m.inp.length ∨ 128 < m.init.length); omega)]
 exact h10
end Go.Proofs.Ytpdhdkpebbfnnaa.V
end
section
namespace Go.Proofs.Ytpdhdkpebbfnnaa.V
open Go
set_option maxRecDepth 100000
theorem usersN_pos {l : List Pr} {p : Pr} (hp : p ∈ l) {x : Pte} (hx : x ∈ p.sp) (hi : x.is = true) : 1 ≤ usersN l x.fr := by
 obtain ⟨a, b, rfl⟩ := List.append_of_mem hp
 have h1 : 1 ≤ usersS x.fr p.sp := List.countP_pos_iff.2 ⟨x, hx, by simp [hi]⟩
 rw [usersN_app]
 have : usersN (p :: b) x.fr = usersS x.fr p.sp + usersN b x.fr := by simp [usersN]
 omega
theorem usersN_sub {l k : List Pr} (h : l.Sublist k) (f : Int) : usersN l f ≤ usersN k f := by
 induction h with
 | slnil => exact Nat.le_refl _
 | cons a _ ih => simp only [usersN,List.map_cons,List.sum_cons] at ih ⊢; omega
 | cons_cons a _ ih => simp only [usersN,List.map_cons,List.sum_cons] at ih ⊢; omega
theorem livesB_mem {l : List Pr} {pid : Int} : livesB l pid = true ↔ ∃ p ∈ l, p.pid = pid ∧ livesP p = true := by
 unfold livesB
 rw [List.any_eq_true]
 constructor
 ·rintro ⟨p, hp, h⟩
  rw [Bool.and_eq_true] at h
  exact ⟨p, hp, of_decide_eq_true h.1, h.2⟩
 ·rintro ⟨p, hp, h1, h2⟩
  exact ⟨p, hp, by rw [decide_eq_true h1, h2]; rfl⟩
theorem livesP_no {p : Pr} (h : p.st = 3) : livesP p = false := by unfold livesP; rw [h]; rfl
theorem procB_to {m m' : Mach} {p : Pr} (h : procB m p = true) (hn : m.next ≤ m'.next) (hl : livesB m.pr p.par = true → livesB m'.pr p.par = true) (hf : m'.fr.length = m.fr.length) (hu : ∀ x ∈ p.sp, x.is = true → usersN m'.pr x.fr = 1) (hpi : m'.pipes = m.pipes) : procB m' p = true := by
 unfold procB at h ⊢
 rw [Bool.and_eq_true, Bool.and_eq_true] at h ⊢
 obtain ⟨⟨h1, h2⟩, h3⟩ := h
 refine ⟨⟨?_, ?_⟩, ?_⟩
 ·unfold procH at h1 ⊢
  split at h1
  ·cases h1
  split at h1
  ·cases h1
  split at h1
  ·cases h1
  rename_i a1 a2 a3
  rw [if_neg (by omega), if_neg (fun hc => ?_), if_neg a3]
  refine a2 ⟨?_, hc.2⟩
  cases hb : livesB m.pr p.par with
  | false => rfl
  | true => rw [hl hb] at hc; cases hc.1
 ·rw [List.all_eq_true] at h2 ⊢
  intro x hx
  have h0 := h2 x hx
  unfold pteB at h0 ⊢
  cases hi : x.is with
  | false => rw [hi] at h0; exact h0
  | true =>
   rw [hi] at h0
   simp only [if_true,decide_eq_true_eq] at h0 ⊢
   rw [hf, hu x hx hi]
   exact ⟨h0.1, h0.2.1, h0.2.2.1, rfl⟩
 ·rw [List.all_eq_true] at h3 ⊢
  intro f hf
  have h0 := h3 f hf
  unfold fdsB at h0 ⊢
  rw [hpi]; exact h0
theorem procB_users {m : Mach} {p : Pr} (h : procB m p = true) {x : Pte} (hx : x ∈ p.sp) (hi : x.is = true) : usersN m.pr x.fr = 1 ∧ p.st ≠ 3 ∧ 0 ≤ x.fr ∧ x.fr < m.fr.length := by
 unfold procB at h
 rw [Bool.and_eq_true, Bool.and_eq_true] at h
 have h0 := List.all_eq_true.1 h.1.2 x hx
 unfold pteB at h0
 rw [hi] at h0
 simp only [if_true,decide_eq_true_eq] at h0
 exact ⟨h0.2.2.2, h0.1, h0.2.1, h0.2.2.1⟩
theorem reap_chk {m : Mach} (h : chkM m = 0) {c : Nat} (hc : c < m.pr.length) (h3 : (m.pr.getD c default).st = 3) : chkM (reapM m c) = 0 := by
 have hall := procs_each h
 have hpo := chk_pids h
 obtain ⟨h1, h2, hfs, h4, _⟩ := chk_parts h
 have hn1 : 1 ≤ m.next ∧ m.next ≤ 1000000000 := by
  unfold numB at h1
  have := of_decide_eq_false h1
  omega
 have hsub : (m.pr.take c ++ m.pr.drop (c + 1)).Sublist m.pr := by
  have : m.pr.drop (c + 1) = (m.pr.drop c).drop 1 := by rw [List.drop_drop]
  rw [this]
  conv => rhs; rw [← List.take_append_drop c m.pr]
  exact List.Sublist.append (List.Sublist.refl _) (List.drop_sublist _ _)
 refine chk_new h m.fr (m.pr.take c ++ m.pr.drop (c + 1)) m.next hn1 rfl hfs (Nat.le_trans hsub.length_le h4) (procs_of ?_ ?_)
 ·exact hpo.inc.sublist hsub
 ·intro p hp
  have hpm := hsub.subset hp
  refine procB_to (hall p hpm) (Int.le_refl _) (fun hl => ?_) rfl (fun x hx hi => ?_) rfl
  ·obtain ⟨q, hq, hq1, hq2⟩ := livesB_mem.1 hl
   refine livesB_mem.2 ⟨q, ?_, hq1, hq2⟩
   obtain ⟨j, hj, rfl⟩ := List.mem_iff_getElem.1 hq
   have hjc : j ≠ c := fun e => by
    subst e
    rw [List.getD_eq_getElem?_getD, List.getElem?_eq_getElem hj] at h3
    have := livesP_no (p := m.pr[j]) h3
    rw [hq2] at this; cases this
   show m.pr[j] ∈ m.pr.take c ++ m.pr.drop (c + 1)
   rw [List.mem_append]
   rcases Nat.lt_or_gt_of_ne hjc with hlt | hgt
   ·exact .inl (List.mem_take_iff_getElem.2 ⟨j, by omega, rfl⟩)
   ·exact .inr (List.mem_drop_iff_getElem.2 ⟨j - (c + 1), by omega, by congr 1; omega⟩)
  ·have e1 := (procB_users (hall p hpm) hx hi).1
   have e2 := usersN_sub hsub x.fr
   have e3 : 1 ≤ usersN (m.pr.take c ++ m.pr.drop (c + 1)) x.fr := usersN_pos hp hx hi
   show usersN (m.pr.take c ++ m.pr.drop (c + 1)) x.fr = 1
   omega
end Go.Proofs.Ytpdhdkpebbfnnaa.V
end
section
namespace Go.Proofs.Ytpdhdkpebbfnnaa.V
open Go
set_option maxRecDepth 100000
theorem dieL_at (m : Mach) (i : Nat) (pid code : Int) {j : Nat} (hj : j < m.pr.length) : ∃ h : j < (dieL m i pid code).length, (dieL m i pid code)[j] = freeP pid (if i = j then deadP (m.pr.getD i default) code else m.pr[j]) := by
 have hl : (dieL m i pid code).length = m.pr.length := by unfold dieL; rw [List.length_map, List.length_set]
 refine ⟨by omega, ?_⟩
 unfold dieL
 rw [List.getElem_map, List.getElem_set]
theorem freeP_pid (pid : Int) (p : Pr) : (freeP pid p).pid = p.pid := by unfold freeP; split <;> rfl
theorem freeP_st (pid : Int) (p : Pr) : (freeP pid p).st = p.st := by unfold freeP; split <;> rfl
theorem freeP_sp (pid : Int) (p : Pr) : (freeP pid p).sp = p.sp := by unfold freeP; split <;> rfl
theorem dieL_pid (m : Mach) {i : Nat} (hi : i < m.pr.length) (pid code : Int) {j : Nat} (hj : j < m.pr.length) : ∃ h : j < (dieL m i pid code).length, ((dieL m i pid code)[j]).pid = m.pr[j].pid := by
 obtain ⟨h, e⟩ := dieL_at m i pid code hj
 refine ⟨h, ?_⟩
 rw [e, freeP_pid]
 split
 ·rename_i e; subst e
  show (m.pr.getD i default).pid = _
  rw [List.getD_eq_getElem?_getD, List.getElem?_eq_getElem hi]; rfl
 ·rfl
theorem dieL_inc {m : Mach} (hpo : PidOk m) {i : Nat} (hi : i < m.pr.length) (pid code : Int) : (dieL m i pid code).Pairwise fun p q => p.pid < q.pid := by
 have hl : (dieL m i pid code).length = m.pr.length := by unfold dieL; rw [List.length_map, List.length_set]
 rw [List.pairwise_iff_getElem]
 intro a b ha hb hab
 obtain ⟨_, e1⟩ := dieL_pid m hi pid code (j := a) (by omega)
 obtain ⟨_, e2⟩ := dieL_pid m hi pid code (j := b) (by omega)
 rw [e1, e2]
 exact (List.pairwise_iff_getElem.1 hpo.inc) a b (by omega) (by omega) hab
theorem usersS_dead (p : Pr) (code f : Int) : usersS f (deadP p code).sp = 0 := by
 unfold usersS deadP
 rw [List.countP_replicate]; rfl
theorem usersN_die (m : Mach) (i : Nat) (pid code : Int) (f : Int) : usersN (dieL m i pid code) f ≤ usersN m.pr f := by
 have e : usersN (dieL m i pid code) f = usersN (m.pr.set i (deadP (m.pr.getD i default) code)) f := by
  unfold usersN dieL
  rw [List.map_map]
  congr 2
  funext p
  show usersS f (freeP pid p).sp = _
  rw [freeP_sp]
 rw [e]
 clear e
 generalize m.pr.getD i default = p
 generalize m.pr = l
 induction l generalizing i with
 | nil => exact Nat.le_refl _
 | cons a l ih =>
  cases i with
  | zero =>
   have := usersS_dead p code f
   simp only [List.set_cons_zero,usersN,List.map_cons,List.sum_cons]
   omega
  | succ i =>
   have := ih i
   simp only [List.set_cons_succ,usersN,List.map_cons,List.sum_cons] at this ⊢
   omega
theorem die_stays {m : Mach} (hpo : PidOk m) {i : Nat} {pid : Int} (hi : i < m.pr.length) (hpid : (m.pr.getD i default).pid = pid) (code : Int) {r : Pr} (hr : r ∈ m.pr) (hl : livesP r = true) (hn : r.pid ≠ pid) :
  freeP pid r ∈ (dieL m i pid code).filter (stayB (dieL m i pid code)) := by
 obtain ⟨j, hj, rfl⟩ := List.mem_iff_getElem.1 hr
 obtain ⟨h1, e⟩ := dieL_at m i pid code hj
 have hij : ¬i = j := fun e => by
  subst e
  rw [List.getD_eq_getElem?_getD, List.getElem?_eq_getElem hi] at hpid
  exact hn hpid
 rw [if_neg hij] at e
 have h3 : m.pr[j].st ≠ 3 := fun h => by rw [livesP_no h] at hl; cases hl
 refine List.mem_filter.2 ⟨by rw [← e]; exact List.getElem_mem h1, ?_⟩
 unfold stayB
 rw [freeP_st, decide_eq_false h3]; rfl
theorem freeP_lives (pid : Int) (p : Pr) : livesP (freeP pid p) = livesP p := by unfold livesP; rw [freeP_st]
theorem procB_free {m : Mach} {p : Pr} (h : procB m p = true) (h3 : p.st ≠ 3) : procB m { p with par := 0 } = true := by
 unfold procB at h ⊢
 rw [Bool.and_eq_true, Bool.and_eq_true] at h ⊢
 obtain ⟨⟨h1, h2⟩, h4⟩ := h
 refine ⟨⟨?_, h2⟩, h4⟩
 unfold procH at h1 ⊢
 split at h1
 ·cases h1
 split at h1
 ·cases h1
 split at h1
 ·cases h1
 rename_i a1 a2 a3
 rw [if_neg a1, if_neg (fun hc => by rcases hc.2 with hc | hc; exact h3 hc; exact hc rfl), if_neg a3]
theorem procB_par {m : Mach} {p : Pr} (h : procB m p = true) (h0 : p.par ≠ 0) : livesB m.pr p.par = true := by
 unfold procB at h
 rw [Bool.and_eq_true, Bool.and_eq_true] at h
 have h1 := h.1.1
 unfold procH at h1
 split at h1
 ·cases h1
 split at h1
 ·cases h1
 rename_i a1 a2
 cases hb : livesB m.pr p.par with
 | true => rfl
 | false => exact absurd ⟨hb, .inr h0⟩ a2
theorem procB_dead {m m' : Mach} {p : Pr} (h : procB m p = true) (hn : m'.next = m.next) (hl : livesB m'.pr p.par = true) (code : Int) : procB m' (deadP p code) = true := by
 unfold procB at h ⊢
 rw [Bool.and_eq_true, Bool.and_eq_true] at h ⊢
 refine ⟨⟨?_, ?_⟩, ?_⟩
 ·have h1 := h.1.1
  unfold procH at h1 ⊢
  split at h1
  ·cases h1
  rename_i a1
  rw [if_neg (by rw [hn]; show ¬(p.pid < 1 ∨ m.next ≤ p.pid ∨ ((3 : Int) ≠ 1 ∧ (3 : Int) ≠ 2 ∧ (3 : Int) ≠ 3) ∨ p.rs.getD 0 0 ≠ 0); omega)]
  rw [if_neg (fun hc => by have h2 := hc.1; rw [show (deadP p code).par = p.par from rfl, hl] at h2; cases h2)]
  rw [if_neg (by show ¬(¬((3 : Int) = 2 ↔ (0 : Int) ≠ 0) ∨ (0 : Int) < 0 ∨ (5 : Int) < 0 ∨ ((3 : Int) ≠ 2 ∧ (0 : Int) ≠ 0) ∨ ((3 : Int) ≠ 3 ∧ code ≠ 0)); omega)]
 ·rw [List.all_eq_true]
  intro x hx
  rw [List.eq_of_mem_replicate hx]; rfl
 ·rw [List.all_eq_true]
  intro x hx
  rw [List.eq_of_mem_replicate hx]; rfl
theorem die_chk {m : Mach} (h : chkM m = 0) (pid code : Int) : chkM (dieM m pid code) = 0 := by
 have hall := procs_each h
 have hpo := chk_pids h
 obtain ⟨h1, h2, hfs, h4, _⟩ := chk_parts h
 have hn1 : 1 ≤ m.next ∧ m.next ≤ 1000000000 := by
  unfold numB at h1
  have := of_decide_eq_false h1
  omega
 unfold dieM
 cases hf : findI m.pr pid with
 | none => exact h
 | some i =>
  obtain ⟨hi, hpid⟩ := findI_some hf
  dsimp only
  split
  ·exact h
  refine sweep_chk ?_
  have hdl : (dieL m i pid code).length = m.pr.length := by unfold dieL; rw [List.length_map, List.length_set]
  have hsub : ((dieL m i pid code).filter (stayB (dieL m i pid code))).Sublist (dieL m i pid code) := List.filter_sublist
  have hlive : ∀ a : Int, a ≠ pid → livesB m.pr a = true → livesB ((dieL m i pid code).filter (stayB (dieL m i pid code))) a = true := fun a ha hl => by
   obtain ⟨r, hr, hr1, hr2⟩ := livesB_mem.1 hl
   exact livesB_mem.2 ⟨freeP pid r, die_stays hpo hi hpid code hr hr2 (by omega), by rw [freeP_pid, hr1], by rw [freeP_lives]; exact hr2⟩
  have huse : ∀ f, usersN ((dieL m i pid code).filter (stayB (dieL m i pid code))) f ≤ usersN m.pr f := fun f => Nat.le_trans (usersN_sub hsub f) (usersN_die m i pid code f)
  refine chk_new h m.fr ((dieL m i pid code).filter (stayB (dieL m i pid code))) m.next hn1 rfl hfs (Nat.le_trans hsub.length_le (by omega)) (procs_of ((dieL_inc hpo hi pid code).sublist hsub) ?_)
  intro p' hp'
  obtain ⟨hp1, hst⟩ := List.mem_filter.1 hp'
  obtain ⟨j, hj, rfl⟩ := List.mem_iff_getElem.1 hp1
  obtain ⟨_, e⟩ := dieL_at m i pid code (j := j) (by omega)
  have hpi := hall _ (getD_mem' hi)
  have hp0 : (m.pr.getD i default).pid ≥ 1 := hpo.pos _ (getD_mem' hi)
  rw [e] at hst hp' ⊢
  by_cases hij : i = j
  ·rw [if_pos hij] at hst hp' ⊢
   have hs3 : (freeP pid (deadP (m.pr.getD i default) code)).st = 3 := by rw [freeP_st]; rfl
   have hp0' : (freeP pid (deadP (m.pr.getD i default) code)).par ≠ 0 := fun h0 => by
    rw [stay1 hs3 h0] at hst; cases hst
   have hne : (m.pr.getD i default).par ≠ pid := fun h0 => hp0' (by unfold freeP; rw [if_pos (show (deadP (m.pr.getD i default) code).par = pid from h0)])
   have hfe : freeP pid (deadP (m.pr.getD i default) code) = deadP (m.pr.getD i default) code := by unfold freeP; rw [if_neg (show ¬(deadP (m.pr.getD i default) code).par = pid from hne)]
   rw [hfe] at hp0' ⊢
   refine procB_dead hpi ?_ ?_ code
   ·rfl
   ·exact hlive _ hne (procB_par hpi hp0')
  ·rw [if_neg hij] at hst hp' ⊢
   have hq := hall _ (List.getElem_mem (show j < m.pr.length by omega))
   generalize m.pr[j] = q at hq hst hp' ⊢
   have hu : ∀ x ∈ q.sp, x.is = true → usersN ((dieL m i pid code).filter (stayB (dieL m i pid code))) x.fr = 1 := fun x hx hi' => by
    have e1 := (procB_users hq hx hi').1
    have e2 := huse x.fr
    have e3 : 1 ≤ usersN ((dieL m i pid code).filter (stayB (dieL m i pid code))) x.fr := usersN_pos hp' (show x ∈ (freeP pid q).sp by rw [freeP_sp]; exact hx) hi'
    omega
   by_cases hqp : q.par = pid
   ·have hfe : freeP pid q = { q with par := 0 } := by unfold freeP; rw [if_pos hqp]
    rw [hfe] at hst ⊢
    have h3 : q.st ≠ 3 := fun h3 => by rw [stay1 (p := { q with par := 0 }) h3 rfl] at hst; cases hst
    exact procB_to (procB_free hq h3) (Int.le_refl _) (fun hl => hlive 0 (by omega) hl) rfl hu rfl
   ·have hfe : freeP pid q = q := by unfold freeP; rw [if_neg hqp]
    rw [hfe]
    exact procB_to hq (Int.le_refl _) (fun hl => hlive _ hqp hl) rfl hu rfl
end Go.Proofs.Ytpdhdkpebbfnnaa.V
end
section
namespace Go.Proofs.Ytpdhdkpebbfnnaa.V
open Go
set_option maxRecDepth 100000
theorem usersS_set {s : List Pte} {i : Nat} (hi : i < s.length) (h0 : (s.getD i default).is = false) (x : Pte) (hx : x.is = true) (f : Int) : usersS f (s.set i x) = usersS f s + if x.fr = f then 1 else 0 := by
 induction s generalizing i with
 | nil => cases hi
 | cons a s ih =>
  cases i with
  | zero =>
   have ha : a.is = false := h0
   simp only [List.set_cons_zero,usersS,List.countP_cons,hx,ha,Bool.true_and,Bool.false_and,decide_eq_true_eq]
   simp
  | succ i =>
   have := ih (i := i) (by simpa using hi) h0
   simp only [List.set_cons_succ,usersS,List.countP_cons] at this ⊢
   omega
structure LaidOk (s : List Pte) (l : List Lay) : Prop where
 at0 : ∀ j, j < l.length → (l.getD j default).at_.toNat < s.length ∧ (s.getD (l.getD j default).at_.toNat default).is = false
 dis : ∀ i j, i < j → j < l.length → (l.getD i default).at_.toNat ≠ (l.getD j default).at_.toNat
theorem spK_off {s : List Pte} {F : List Nat} {l : List Lay} {i : Nat} : ∀ {k : Nat}, (∀ j, j < k → (l.getD j default).at_.toNat ≠ i) → (spK s F l k).getD i default = s.getD i default
 | 0, _ => rfl
 | k + 1, h => by
  rw [spK, List.getD_eq_getElem?_getD, List.getElem?_set_ne (h k (by omega)), ← List.getD_eq_getElem?_getD, spK_off fun j hj => h j (by omega)]
theorem usersS_spK {s : List Pte} {F : List Nat} {l : List Lay} (h : LaidOk s l) (f : Int) : ∀ {k : Nat}, k ≤ l.length → k ≤ F.length → usersS f (spK s F l k) = usersS f s + (F.take k).countP fun x : Nat => decide ((x : Int) = f)
 | 0, _, _ => by simp [spK]
 | k + 1, h1, h2 => by
  have ih := usersS_spK (F := F) h f (k := k) (by omega) (by omega)
  obtain ⟨a1, a2⟩ := h.at0 k (by omega)
  have e := spK_off (s := s) (F := F) (l := l) (i := (l.getD k default).at_.toNat) (k := k) fun j hj => h.dis j k hj (by omega)
  have e2 := usersS_set (s := spK s F l k) (i := (l.getD k default).at_.toNat) (by rw [spK_len]; exact a1) (by rw [e]; exact a2) ⟨true, (l.getD k default).w, ((F.getD k default : Nat) : Int)⟩ rfl f
  rw [spK, e2, ih]
  have e3 : F.take (k + 1) = F.take k ++ [F.getD k default] := by
   rw [List.take_add_one, List.getD_eq_getElem?_getD, List.getElem?_eq_getElem (by omega)]; rfl
  rw [e3, List.countP_append, Nat.add_assoc]
  congr 2
  simp only [List.countP_cons,List.countP_nil,Nat.zero_add,decide_eq_true_eq]
end Go.Proofs.Ytpdhdkpebbfnnaa.V
end
section
namespace Go.Proofs.Ytpdhdkpebbfnnaa.V
open Go
set_option maxRecDepth 100000
theorem spK_mem {s : List Pte} {F : List Nat} {l : List Lay} {x : Pte} : ∀ {k : Nat}, x ∈ spK s F l k → x ∈ s ∨ ∃ j, j < k ∧ x = ⟨true, (l.getD j default).w, ((F.getD j default : Nat) : Int)⟩
 | 0, h => .inl h
 | k + 1, h => by
  rw [spK] at h
  rcases List.mem_or_eq_of_mem_set h with h | rfl
  ·rcases spK_mem h with h | ⟨j, hj, e⟩
   ·exact .inl h
   ·exact .inr ⟨j, by omega, e⟩
  ·exact .inr ⟨k, by omega, rfl⟩
theorem freeK_in (l : List Pr) (n : Nat) : (freeK l n).Pairwise (· < ·) ∧ ∀ i ∈ freeK l n, i < n ∧ usersN l (i : Nat) = 0 := by
 unfold freeK
 refine ⟨List.Pairwise.filter _ List.pairwise_lt_range, fun i hi => ?_⟩
 obtain ⟨h1, h2⟩ := List.mem_filter.1 hi
 exact ⟨List.mem_range.1 h1, by simpa using h2⟩
theorem took_other {l : List Pr} {n k : Nat} {f : Int} (h : usersN l f ≠ 0) : ((freeK l n).take k).countP (fun x : Nat => decide ((x : Int) = f)) = 0 := by
 rw [List.countP_eq_zero]
 intro x hx
 have := ((freeK_in l n).2 x (List.mem_of_mem_take hx)).2
 rw [decide_eq_true_eq]
 intro e
 rw [e] at this
 exact h this
theorem took_once {l : List Pr} {n k j : Nat} (hj : j < k) (hk : k ≤ (freeK l n).length) : ((freeK l n).take k).countP (fun x : Nat => decide ((x : Int) = (((freeK l n).getD j default : Nat) : Int))) = 1 := by
 have hp := (freeK_in l n).1
 have hnd : ((freeK l n).take k).Nodup := (hp.imp fun h => Nat.ne_of_lt h).sublist (List.take_sublist _ _)
 have hm : (freeK l n).getD j default ∈ (freeK l n).take k := by
  rw [List.getD_eq_getElem?_getD, List.getElem?_eq_getElem (by omega)]
  exact List.mem_take_iff_getElem.2 ⟨j, by omega, rfl⟩
 generalize (freeK l n).getD j default = a at hm ⊢
 have e : (fun x : Nat => decide ((x : Int) = (a : Int))) = fun x => x == a := by
  funext x
  by_cases h : x = a
  ·subst h; simp
  ·have : ¬(x : Int) = (a : Int) := by omega
   simp [h, this]
 rw [e]
 have := hnd.count (a := a)
 rw [if_pos hm] at this
 exact this
end Go.Proofs.Ytpdhdkpebbfnnaa.V
end
section
namespace Go.Proofs.Ytpdhdkpebbfnnaa.V
open Go
set_option maxRecDepth 100000
theorem zSpace_at (j : Nat) : (zSpace.getD j default).is = false := by
 unfold zSpace
 rw [List.getD_eq_getElem?_getD]
 cases h : (List.replicate 16 (⟨false, false, 0⟩ : Pte))[j]? with
 | none => rfl
 | some x =>
  have := List.mem_of_getElem? h
  rw [List.eq_of_mem_replicate this]; rfl
theorem layE_ok (e : Exe) (h : okE e) : LaidOk zSpace (layE e) := by
 have h1 := layTo_len e h
 have hlen : (layE e).length = (layTo e).length + 1 := by rw [layE, List.length_append, List.length_singleton]
 have hat : ∀ j, j < (layTo e).length → ((layE e).getD j default).at_.toNat = j := fun j hj => by
  rw [layE, List.getD_eq_getElem?_getD, List.getElem?_append_left hj, List.getElem?_eq_getElem hj]
  show ((layTo e)[j]).at_.toNat = j
  rw [layTo_at e j hj]; omega
 have hlast : ((layE e).getD (layTo e).length default).at_.toNat = 15 := by
  rw [layE, List.getD_eq_getElem?_getD, List.getElem?_append_right (Nat.le_refl _), Nat.sub_self]; rfl
 refine ⟨fun j hj => ⟨?_, zSpace_at _⟩, fun i j hij hj => ?_⟩
 ·rcases Nat.lt_or_ge j (layTo e).length with h2 | h2
  ·rw [hat j h2]; show j < 16; omega
  ·obtain rfl : j = (layTo e).length := by omega
   rw [hlast]; decide
 ·rw [hat i (by omega)]
  rcases Nat.lt_or_ge j (layTo e).length with h2 | h2
  ·rw [hat j h2]; omega
  ·obtain rfl : j = (layTo e).length := by omega
   rw [hlast]; omega
theorem frK_each {fr : Frames} {F : List Nat} {l : List Lay} {P : List UInt8 → Prop} (h : ∀ s ∈ fr, P s) (hl : ∀ x ∈ l, P x.d) : ∀ {k : Nat}, k ≤ l.length → ∀ s ∈ frK fr F l k, P s
 | 0, _ => h
 | k + 1, hk => fun s hs => by
  rw [frK] at hs
  rcases List.mem_or_eq_of_mem_set hs with hs | rfl
  ·exact frK_each h hl (by omega) s hs
  ·exact hl _ (getD_mem' hk)
theorem took_users {m : Mach} {s : List Pte} {l : List Lay} (hl : LaidOk s l) (hn : l.length ≤ (freeK m.pr m.fr.length).length) {f : Int} (hf : usersN m.pr f ≠ 0) : usersS f (spK s (freeK m.pr m.fr.length) l l.length) = usersS f s := by
 rw [usersS_spK hl f (Nat.le_refl _) hn, took_other hf, Nat.add_zero]
theorem took_mine {m : Mach} {s : List Pte} {l : List Lay} (hl : LaidOk s l) (hn : l.length ≤ (freeK m.pr m.fr.length).length) {j : Nat} (hj : j < l.length) : usersS (((freeK m.pr m.fr.length).getD j default : Nat) : Int) (spK s (freeK m.pr m.fr.length) l l.length) = usersS (((freeK m.pr m.fr.length).getD j default : Nat) : Int) s + 1 := by
 rw [usersS_spK hl _ (Nat.le_refl _) hn, took_once hj hn]
theorem free_in {m : Mach} {j : Nat} (hj : j < (freeK m.pr m.fr.length).length) : (freeK m.pr m.fr.length).getD j default < m.fr.length ∧ usersN m.pr (((freeK m.pr m.fr.length).getD j default : Nat) : Int) = 0 :=
 (freeK_in m.pr m.fr.length).2 _ (getD_mem' hj)
def fdZ : Fdd := ⟨0, 0, 0⟩
theorem spawn_chk {m : Mach} {e : Exe} {par : Int} (h : chkM m = 0) (hpr : m.pr.length < 8) (hok : okE e) (hnx : m.next < 1000000000) (hfr : (layE e).length ≤ (freeK m.pr m.fr.length).length) (hpar : par = 0 ∨ livesB m.pr par = true) : chkM (spawnM m e par fdZ fdZ) = 0 := by
 have hall := procs_each h
 have hpo := chk_pids h
 obtain ⟨h1, h2, hfs, h4, _⟩ := chk_parts h
 have hn1 : 1 ≤ m.next ∧ m.next ≤ 1000000000 := by
  unfold numB at h1
  have := of_decide_eq_false h1
  omega
 have hlt : ∀ p ∈ m.pr, p.pid < m.next := fun p hp => by
  have := hall p hp
  unfold procB at this
  rw [Bool.and_eq_true, Bool.and_eq_true] at this
  have := this.1.1
  unfold procH at this
  split at this
  ·cases this
  ·omega
 have hL := layE_ok e hok
 obtain ⟨q, hq⟩ : ∃ q, q = tookP m (newPr m e par fdZ fdZ) (layE e) := ⟨_, rfl⟩
 have hqs : q.sp = spK zSpace (freeK m.pr m.fr.length) (layE e) (layE e).length := by rw [hq]; rfl
 have hz : ∀ f, usersS f zSpace = 0 := fun f => by unfold usersS zSpace; rw [List.countP_replicate]; rfl
 have e1 : ∀ f, usersN (m.pr ++ [q]) f = usersN m.pr f + usersS f q.sp := fun f => usersN_snoc m.pr q f
 have eS : spawnM m e par fdZ fdZ = { m with fr := frK m.fr (freeK m.pr m.fr.length) (layE e) (layE e).length, pr := m.pr ++ [q], next := m.next + 1 } := by rw [hq]; rfl
 rw [eS]
 have hfl := frK_len m.fr (freeK m.pr m.fr.length) (layE e) (layE e).length
 refine chk_new h _ _ _ ⟨by omega, by omega⟩ hfl (frK_each hfs (fun x hx => layE_d e x hx) (Nat.le_refl _)) (by rw [List.length_append, List.length_singleton]; omega) (procs_of ?_ ?_)
 ·show (m.pr ++ [q]).Pairwise _
  rw [List.pairwise_append]
  refine ⟨hpo.inc, by simp, fun a ha b hb => ?_⟩
  rw [List.mem_singleton.1 hb, hq]
  exact hlt a ha
 ·intro p hp
  rcases List.mem_append.1 hp with hp | hp
  ·refine procB_to (hall p hp) (by show m.next ≤ m.next + 1; omega) (fun hl => ?_) hfl (fun x hx hi => ?_) rfl
   ·obtain ⟨r, hr, hr1, hr2⟩ := livesB_mem.1 hl
    exact livesB_mem.2 ⟨r, List.mem_append_left _ hr, hr1, hr2⟩
   ·have hu := (procB_users (hall p hp) hx hi).1
    show usersN (m.pr ++ [q]) x.fr = 1
    rw [e1, hqs, took_users hL hfr (by omega), hz, hu]
  ·rw [List.mem_singleton.1 hp]
   unfold procB
   rw [Bool.and_eq_true, Bool.and_eq_true]
   refine ⟨⟨?_, ?_⟩, ?_⟩
   ·unfold procH
    rw [if_neg, if_neg, if_neg]
    ·rw [hq]
     show ¬(¬((1 : Int) = 2 ↔ (0 : Int) ≠ 0) ∨ (0 : Int) < 0 ∨ (5 : Int) < 0 ∨ ((1 : Int) ≠ 2 ∧ (0 : Int) ≠ 0) ∨ ((1 : Int) ≠ 3 ∧ (0 : Int) ≠ 0))
     omega
    ·rw [hq]
     show ¬(livesB (m.pr ++ [_]) par = false ∧ ((1 : Int) = 3 ∨ par ≠ 0))
     rintro ⟨a1, a2⟩
     rcases hpar with hpar | hpar
     ·omega
     ·obtain ⟨r, hr, hr1, hr2⟩ := livesB_mem.1 hpar
      rw [livesB_mem.2 ⟨r, List.mem_append_left _ hr, hr1, hr2⟩] at a1
      cases a1
    ·rw [hq]
     show ¬(m.next < 1 ∨ m.next + 1 ≤ m.next ∨ ((1 : Int) ≠ 1 ∧ (1 : Int) ≠ 2 ∧ (1 : Int) ≠ 3) ∨ ((List.replicate 16 (0 : Int)).set 15 2048).getD 0 0 ≠ 0)
     have : ((List.replicate 16 (0 : Int)).set 15 2048).getD 0 0 = 0 := rfl
     omega
   ·rw [List.all_eq_true]
    intro x hx
    rw [hqs] at hx
    rcases spK_mem hx with hx | ⟨j, hj, rfl⟩
    ·rw [List.eq_of_mem_replicate hx]; rfl
    ·obtain ⟨f1, f2⟩ := free_in (m := m) (j := j) (by omega)
     have hu : usersN (m.pr ++ [q]) (((freeK m.pr m.fr.length).getD j default : Nat) : Int) = 1 := by rw [e1, f2, hqs, took_mine hL hfr hj, hz]
     unfold pteB
     simp only [if_true,decide_eq_true_eq]
     have hst : q.st = 1 := by rw [hq]; rfl
     refine ⟨by omega, by omega, ?_, hu⟩
     show _ < ((frK m.fr (freeK m.pr m.fr.length) (layE e) (layE e).length).length : Int)
     rw [hfl]; omega
   ·rw [List.all_eq_true]
    intro f hf
    rw [hq] at hf
    have hf : f ∈ fdZ :: fdZ :: List.replicate 6 ⟨0, 0, 0⟩ := hf
    have hf0 : f = ⟨0, 0, 0⟩ := by
     simp only [List.mem_cons] at hf
     rcases hf with hf | hf | hf
     ·exact hf
     ·exact hf
     ·exact List.eq_of_mem_replicate hf
    rw [hf0, hq]; rfl
end Go.Proofs.Ytpdhdkpebbfnnaa.V
end
