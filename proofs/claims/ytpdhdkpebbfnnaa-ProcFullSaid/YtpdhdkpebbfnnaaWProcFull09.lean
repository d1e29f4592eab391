/-
  Parts of the proof of ProcFull: TF, Vkeep, Vmid, TG, TH, TI, TM, Vdel, TL, TN, TO, TP, TQ, TR, TS, TU, TV, TJ, TK, TW, NU, P5, P4, NV, NW, P6, P7, TX, TY, TZ, U1.
  Conditions: none.
-/
import Derived.Test.YtpdhdkpebbfnnaaWProcFull08
import Derived.Test.YtpdhdkpebbfnnaaWProcFull06
import Derived.Test.YtpdhdkpebbfnnaaWProcFull07
import Derived.Test.YtpdhdkpebbfnnaaWProcFull04
import Derived.Test.YtpdhdkpebbfnnaaWProcFull05
import Derived.WalkKit
import Derived.Deep.RegionLaw
set_option linter.unusedVariables false
set_option linter.unusedSimpArgs false
set_option linter.unusedSectionVars false
set_option linter.defProp false
section
namespace Go.Proofs.Ytpdhdkpebbfnnaa.V
open Go
set_option maxRecDepth 100000
def znTF := And.intro @jO <| And.intro @jP <| And.intro @jQ <| And.intro @jR <| And.intro @jS <| And.intro @jT <| And.intro @jU <| True.intro
set_option maxHeartbeats 8000000
def bl2s (L Z w : List UInt8) : List VV := (L :: Z :: w :: List.replicate 13 Z).map .str
theorem bl2s_len (L Z w : List UInt8) : (bl2s L Z w).length = 16 := by simp [bl2s]
theorem bl1_2s (L Z : List UInt8) : bl1 L Z 15 = bl2s L Z Z := rfl
theorem bl2s_at (L Z w : List UInt8) : (bl2s L Z w)[2]? = some (.str w) := rfl
theorem bl2s_set (L Z w x : List UInt8) : (bl2s L Z w).set 2 (.str x) = bl2s L Z x := rfl
theorem bl2s_nl (L Z w : List UInt8) : nls (bl2s L Z w) = true := nls_mapStr _
def vol16 : Frames := headG 16 4 :: List.replicate 128 0 :: bitsT 5 :: List.replicate 13 (List.replicate 128 0)
theorem vol16_len : vol16.length = 16 := rfl
theorem vol16_all : ∀ s ∈ vol16, s.length = 128 := by
  intro s hs
  simp only [vol16,List.mem_cons,List.mem_replicate] at hs
  rcases hs with rfl | rfl | rfl | ⟨_, rfl⟩
  · simp [headG, putLE_len]
  · exact List.length_replicate
  · exact bitsT_len 5 (by omega)
  · exact List.length_replicate
theorem fmt17s_spec : Spec Try.prog 85 [.int .i64 16, .int .i64 4] (.tup [encStrs vol16, .int .i64 0]) := by
  have hP : Spec Try.prog 120 [.int .i64 16, .int .i64 4] (.tup [.agg [.int .i64 16, .int .i64 4, .int .i64 1, .int .i64 2, .int .i64 3, .int .i64 5], .int .i64 0]) := plan_spec 16 4 (by omega) (by omega)
  have hH : Spec Try.prog 121 [.agg [.int .i64 16, .int .i64 4, .int .i64 1, .int .i64 2, .int .i64 3, .int .i64 5]] (.str (headG 16 4)) := head_spec ⟨16, 4, 1, 2, 3, 5⟩ (by decide) (by decide)
  have hL : (headG 16 4).length = 128 := by simp [headG, putLE_len]
  have hZ : Spec Try.prog 122 [.int .i64 128] (.str (List.replicate 128 0)) := zeros17_spec 128 (by omega)
  have hv0 : vol16 = headG 16 4 :: List.replicate 128 0 :: bitsT 5 :: List.replicate 13 (List.replicate 128 0) := rfl
  have key : ∃ t : Nat → List UInt8, t = bitsT ∧ t 0 = List.replicate 128 0 ∧ ∀ k, k < 5 → (t k).length = 128 ∧ (t (k + 1)).length = 128 ∧ Spec Try.prog 123 [.str (t k), .int .i64 k] (.str (t (k + 1))) :=
    ⟨bitsT, rfl, rfl, fun k hk => ⟨bitsT_len k (by omega), bitsT_len (k + 1) (by omega), turn_specX _ (bitsT_len k (by omega)) k (by omega)⟩⟩
  obtain ⟨t, et, t0, ht⟩ := key
  rw [hv0, ← et]
  clear et hv0
  obtain ⟨Z, eZ⟩ : ∃ Z : List UInt8, Z = List.replicate 128 0 := ⟨_, rfl⟩
  have hZl : Z.length = 128 := by rw [eZ, List.length_replicate]
  rw [← eZ] at hZ t0
  rw [← eZ]
  clear eZ
  generalize headG 16 4 = L at hH hL
  have h6 : ∀ a : VV, List.replicate 6 a = [a, a, a, a, a, a] := fun _ => rfl
  obtain ⟨b1, e1, b1s, b1l, b1n⟩ : ∃ b1 : Nat → List VV, b1 = bl1 L Z ∧ (∀ j, b1 j ++ [.str Z] = b1 (j + 1)) ∧ (∀ j, (b1 j).length = j + 1) ∧ ∀ j, nls (b1 j) = true := ⟨_, rfl, bl1_succ L Z, bl1_len L Z, bl1_nl L Z⟩
  obtain ⟨b2, e2, b2l, b2n, b2a, b2s⟩ : ∃ b2 : List UInt8 → List VV, b2 = bl2s L Z ∧ (∀ w, (b2 w).length = 16) ∧ (∀ w, nls (b2 w) = true) ∧ (∀ w, (b2 w)[2]? = some (.str w)) ∧ ∀ w x, (b2 w).set 2 (.str x) = b2 x := ⟨_, rfl, bl2s_len L Z, bl2s_nl L Z, bl2s_at L Z, bl2s_set L Z⟩
  have e12 : b1 15 = b2 Z := by rw [e1, e2]; exact bl1_2s L Z
  have e10 : [.str L] = b1 0 := by rw [e1]; rfl
  have e25 : b2 (t 5) = (L :: Z :: t 5 :: List.replicate 13 Z).map .str := by rw [e2]; rfl
  have b10n := b1n 0
  have b20n := b2n Z
  clear e1 e2
  refine spec_ok Try.func85 rfl rfl (by kernel_rfl) (k := 2) rfl (by decide) ?_
  repeat' (first|(with_reducible first|refine yrl (by constructor) ?_|refine jk (fun M hM=>?_)|(refine hM _ ?_;clear hM M)|refine xb3 (by decide) ?_|refine yqa (by assumption) ?_ ?_|refine yqb (by assumption) ?_ ?_)|((with_reducible refine je ?_)<;>(first|rfl|assumption|(simp only [znl,znTF];(first|done|fail))))|(with_reducible refine jf (by (simp only [↓reduceIte,zlk,Nat.reduceEqDiff,reduceCtorEq]);exact rfl) ?_)|((with_reducible first|refine jg (fun hc=>?_) (fun hc=>?_)|refine jh (fun hc=>?_) (fun hc=>?_))<;>(try simp (disch:=omega) only [zhb] at hc)<;>(try (exfalso;omega))<;>(try subst hc))|(with_reducible refine ji (by omega) ?_)|(simp (config := { maxSteps := 400000 }) only [↓jt,↓reduceIte,zvs,reduceCtorEq,seval,-List.reduceReplicate,tab,h6,Try.results85,jTA])|(simp (disch:=omega) only [ziw]))
  refine ok_loop (fun j : Nat => ⟨slots [(0, .int .i64 16), (6, .ptr 0 []), (8, .sl (some (1, [], 0)) (j + 1)), (9, .int .i64 ((j + 1 : Nat) : Int))], rows [(0, .row geoSh (.agg [.int .i64 16, .int .i64 4, .int .i64 1, .int .i64 2, .int .i64 3, .int .i64 5])), (1, .row (.arr (j + 1) .cell) (.agg (b1 j)))], 2⟩) (fun j => j ≤ 15) (fun j => 15 - j) 0 ?_ (Nat.zero_le _) (fun j hj => ?_)
  · (refine yrn [(0, 0), (1, 1)] false ?_ ?_<;>(repeat' (first|(with_reducible first|exact ya1|exact ya2|exact ya3|refine jx rfl (by first|rfl|assumption|(simp only [znl,znTF];(first|done|fail)))|exact ya5|exact ya7|exact jy|exact jz|refine jA ?_|refine ya9 ?_ ?_ ?_|refine jC rfl (by first|rfl|assumption|(simp only [znl,znTF];(first|done|fail)))|refine MR.agg (MRL.cons ?_ ?_)|refine MR.fn ?_|refine MRL.cons ?_ ?_|exact MRL.nil|refine jE ?_ ?_|exact jF|exact jG|refine yb1 ?_ ?_|refine MB.row ?_|refine jI ?_ ?_|exact ya8|refine jJ rfl (by first|rfl|assumption|(simp only [znl,znTF];(first|done|fail)))|refine yb2 ?_|rfl)|(simp only [znl,znTF];(first|done|fail))|(simp only [↓reduceIte,zlk,Nat.reduceEqDiff,reduceCtorEq])|(with_reducible first|refine jJ ?_ ?_|refine ya5 ?_|refine ju ?_|refine jv ?_|refine jw ?_|refine jx ?_ (by first|rfl|assumption|(simp only [znl,znTF];(first|done|fail)))|refine jC ?_ (by first|rfl|assumption|(simp only [znl,znTF];(first|done|fail)))))))
    all_goals (first | rfl | exact e10 | exact e10.symm)
  by_cases hlt : j < 15
  · have hb := b1l j
    have hn1 := b1n j
    have hn2 := b1n (j + 1)
    repeat' (first|(with_reducible first|refine yrl (by constructor) ?_|refine jk (fun M hM=>?_)|(refine hM _ ?_;clear hM M)|refine xb3 (by decide) ?_|refine yqa (by assumption) ?_ ?_|refine yqb (by assumption) ?_ ?_)|((with_reducible refine je ?_)<;>(first|rfl|assumption|(simp only [znl,znTF];(first|done|fail))))|(with_reducible refine jf (by (simp only [↓reduceIte,zlk,Nat.reduceEqDiff,reduceCtorEq]);exact rfl) ?_)|((with_reducible first|refine jg (fun hc=>?_) (fun hc=>?_)|refine jh (fun hc=>?_) (fun hc=>?_))<;>(try simp (disch:=omega) only [zhb] at hc)<;>(try (exfalso;omega))<;>(try subst hc))|(with_reducible refine ji (by omega) ?_)|(simp (config := { maxSteps := 400000 }) only [↓jt,↓reduceIte,zvs,reduceCtorEq,seval,-List.reduceReplicate,tab,h6,hb,Try.results85,jTA])|(simp (disch:=omega) only [ziw]))
    refine xl1 (j + 1) ?_ (by show j + 1 ≤ 15; omega) (by show 15 - (j + 1) < 15 - j; omega)
    (refine yrn [(0, 0), (1, 3)] false ?_ ?_<;>(repeat' (first|(with_reducible first|exact ya1|exact ya2|exact ya3|refine jx rfl (by first|rfl|assumption|(simp only [znl,znTF];(first|done|fail)))|exact ya5|exact ya7|exact jy|exact jz|refine jA ?_|refine ya9 ?_ ?_ ?_|refine jC rfl (by first|rfl|assumption|(simp only [znl,znTF];(first|done|fail)))|refine MR.agg (MRL.cons ?_ ?_)|refine MR.fn ?_|refine MRL.cons ?_ ?_|exact MRL.nil|refine jE ?_ ?_|exact jF|exact jG|refine yb1 ?_ ?_|refine MB.row ?_|refine jI ?_ ?_|exact ya8|refine jJ rfl (by first|rfl|assumption|(simp only [znl,znTF];(first|done|fail)))|refine yb2 ?_|rfl)|(simp only [znl,znTF];(first|done|fail))|(simp only [↓reduceIte,zlk,Nat.reduceEqDiff,reduceCtorEq])|(with_reducible first|refine jJ ?_ ?_|refine ya5 ?_|refine ju ?_|refine jv ?_|refine jw ?_|refine jx ?_ (by first|rfl|assumption|(simp only [znl,znTF];(first|done|fail)))|refine jC ?_ (by first|rfl|assumption|(simp only [znl,znTF];(first|done|fail)))))))
    all_goals (first | rfl | exact b1s j | exact (b1s j).symm)
  · obtain rfl : j = 15 := by omega
    have z16 : ((15 + 1 : Nat) : Int) = 16 := rfl
    repeat' (first|(with_reducible first|refine yrl (by constructor) ?_|refine jk (fun M hM=>?_)|(refine hM _ ?_;clear hM M)|refine xb3 (by decide) ?_|refine yqa (by assumption) ?_ ?_|refine yqb (by assumption) ?_ ?_)|((with_reducible refine je ?_)<;>(first|rfl|assumption|(simp only [znl,znTF];(first|done|fail))))|(with_reducible refine jf (by (simp only [↓reduceIte,zlk,Nat.reduceEqDiff,reduceCtorEq]);exact rfl) ?_)|((with_reducible first|refine jg (fun hc=>?_) (fun hc=>?_)|refine jh (fun hc=>?_) (fun hc=>?_))<;>(try simp (disch:=omega) only [zhb] at hc)<;>(try (exfalso;omega))<;>(try subst hc))|(with_reducible refine ji (by omega) ?_)|(simp (config := { maxSteps := 400000 }) only [↓jt,↓reduceIte,zvs,reduceCtorEq,seval,-List.reduceReplicate,tab,h6,z16,Try.results85,jTA])|(simp (disch:=omega) only [ziw]))
    refine ok_loop (fun k : Nat => ⟨slots [(6, .ptr 0 []), (8, .sl (some (1, [], 0)) 16), (10, .int .i64 k)], rows [(0, .row geoSh (.agg [.int .i64 16, .int .i64 4, .int .i64 1, .int .i64 2, .int .i64 3, .int .i64 5])), (1, .row (.arr 16 .cell) (.agg (b2 (t k))))], 2⟩) (fun k => k ≤ 5) (fun k => 5 - k) 0 ?_ (Nat.zero_le _) (fun k hk => ?_)
    · rw [← t0] at b20n
      (refine yrn [(0, 0), (1, 1)] false ?_ ?_<;>(repeat' (first|(with_reducible first|exact ya1|exact ya2|exact ya3|refine jx rfl (by first|rfl|assumption|(simp only [znl,znTF];(first|done|fail)))|exact ya5|exact ya7|exact jy|exact jz|refine jA ?_|refine ya9 ?_ ?_ ?_|refine jC rfl (by first|rfl|assumption|(simp only [znl,znTF];(first|done|fail)))|refine MR.agg (MRL.cons ?_ ?_)|refine MR.fn ?_|refine MRL.cons ?_ ?_|exact MRL.nil|refine jE ?_ ?_|exact jF|exact jG|refine yb1 ?_ ?_|refine MB.row ?_|refine jI ?_ ?_|exact ya8|refine jJ rfl (by first|rfl|assumption|(simp only [znl,znTF];(first|done|fail)))|refine yb2 ?_|rfl)|(simp only [znl,znTF];(first|done|fail))|(simp only [↓reduceIte,zlk,Nat.reduceEqDiff,reduceCtorEq])|(with_reducible first|refine jJ ?_ ?_|refine ya5 ?_|refine ju ?_|refine jv ?_|refine jw ?_|refine jx ?_ (by first|rfl|assumption|(simp only [znl,znTF];(first|done|fail)))|refine jC ?_ (by first|rfl|assumption|(simp only [znl,znTF];(first|done|fail)))))))
      all_goals (first | rfl | (rw [t0]; exact e12) | (rw [t0]; exact e12.symm))
    by_cases hlt : k < 5
    · obtain ⟨hk1, hk2, hk3⟩ := ht k hlt
      have hb := b2l (t k)
      have hb2 := b2a (t k)
      have hb3 := b2s (t k)
      have hn1 := b2n (t k)
      have hn2 := b2n (t (k + 1))
      repeat' (first|(with_reducible first|refine yrl (by constructor) ?_|refine jk (fun M hM=>?_)|(refine hM _ ?_;clear hM M)|refine xb3 (by decide) ?_|refine yqa (by assumption) ?_ ?_|refine yqb (by assumption) ?_ ?_)|((with_reducible refine je ?_)<;>(first|rfl|assumption|(simp only [znl,znTF];(first|done|fail))))|(with_reducible refine jf (by (simp only [↓reduceIte,zlk,Nat.reduceEqDiff,reduceCtorEq]);exact rfl) ?_)|((with_reducible first|refine jg (fun hc=>?_) (fun hc=>?_)|refine jh (fun hc=>?_) (fun hc=>?_))<;>(try simp (disch:=omega) only [zhb] at hc)<;>(try (exfalso;omega))<;>(try subst hc))|(with_reducible refine ji (by omega) ?_)|(simp (config := { maxSteps := 400000 }) only [↓jt,↓reduceIte,zvs,reduceCtorEq,seval,-List.reduceReplicate,tab,h6,hb,hb2,hb3,Try.results85,jTA])|(simp (disch:=omega) only [ziw]))
      refine xl1 (k + 1) ?_ (by show k + 1 ≤ 5; omega) (by show 5 - (k + 1) < 5 - k; omega)
      (refine yrn [(0, 0), (1, 1)] false ?_ ?_<;>(repeat' (first|(with_reducible first|exact ya1|exact ya2|exact ya3|refine jx rfl (by first|rfl|assumption|(simp only [znl,znTF];(first|done|fail)))|exact ya5|exact ya7|exact jy|exact jz|refine jA ?_|refine ya9 ?_ ?_ ?_|refine jC rfl (by first|rfl|assumption|(simp only [znl,znTF];(first|done|fail)))|refine MR.agg (MRL.cons ?_ ?_)|refine MR.fn ?_|refine MRL.cons ?_ ?_|exact MRL.nil|refine jE ?_ ?_|exact jF|exact jG|refine yb1 ?_ ?_|refine MB.row ?_|refine jI ?_ ?_|exact ya8|refine jJ rfl (by first|rfl|assumption|(simp only [znl,znTF];(first|done|fail)))|refine yb2 ?_|rfl)|(simp only [znl,znTF];(first|done|fail))|(simp only [↓reduceIte,zlk,Nat.reduceEqDiff,reduceCtorEq])|(with_reducible first|refine jJ ?_ ?_|refine ya5 ?_|refine ju ?_|refine jv ?_|refine jw ?_|refine jx ?_ (by first|rfl|assumption|(simp only [znl,znTF];(first|done|fail)))|refine jC ?_ (by first|rfl|assumption|(simp only [znl,znTF];(first|done|fail)))))))
      all_goals (first | rfl | (simp; done))
    · obtain rfl : k = 5 := by omega
      repeat' (first|(with_reducible first|refine yrl (by constructor) ?_|refine jk (fun M hM=>?_)|(refine hM _ ?_;clear hM M)|refine xb3 (by decide) ?_|refine yqa (by assumption) ?_ ?_|refine yqb (by assumption) ?_ ?_)|((with_reducible refine je ?_)<;>(first|rfl|assumption|(simp only [znl,znTF];(first|done|fail))))|(with_reducible refine jf (by (simp only [↓reduceIte,zlk,Nat.reduceEqDiff,reduceCtorEq]);exact rfl) ?_)|((with_reducible first|refine jg (fun hc=>?_) (fun hc=>?_)|refine jh (fun hc=>?_) (fun hc=>?_))<;>(try simp (disch:=omega) only [zhb] at hc)<;>(try (exfalso;omega))<;>(try subst hc))|(with_reducible refine ji (by omega) ?_)|(simp (config := { maxSteps := 400000 }) only [↓jt,↓reduceIte,zvs,reduceCtorEq,seval,-List.reduceReplicate,tab,h6,Try.results85,jTA])|(simp (disch:=omega) only [ziw]))
      all_goals (try (exfalso; omega))
      rw [e25]
      have hl6 : (L :: Z :: t 5 :: List.replicate 13 Z).length = 16 := rfl
      simp only [zrds]
      (refine rd_own (by (simp only [↓reduceIte,zlk,Nat.reduceEqDiff,reduceCtorEq]); exact rfl) ?_ ?_ ?_) <;> (first | rfl | assumption | (simp only [znl,znTF];(first|done|fail)) | (simp; done) | (simp; omega) | skip)
theorem fmt16s_spec (v : Frames) (hv : v.length = 16) (hs : ∀ s ∈ v, s.length = 128) : ∃ Z : List UInt8, Z.length = 128 ∧ Spec Try.prog 86 [encStrs v] (drV (⟨List.replicate 33 Z ++ v, [], -1⟩, 0)) := by
  have hZ : Spec Try.prog 124 [.int .i64 128] (.str (List.replicate 128 0)) := zeros16_spec 128 (by omega)
  obtain ⟨Z, eZ⟩ : ∃ Z : List UInt8, Z = List.replicate 128 0 := ⟨_, rfl⟩
  have hZl : Z.length = 128 := by rw [eZ, List.length_replicate]
  rw [← eZ] at hZ
  clear eZ
  refine ⟨Z, hZl, ?_⟩
  refine spec_ok Try.func86 rfl rfl (by kernel_rfl) (k := 1) rfl (by decide) ?_
  repeat' (first|(with_reducible first|refine yrl (by constructor) ?_|refine jk (fun M hM=>?_)|(refine hM _ ?_;clear hM M)|refine xb3 (by decide) ?_|refine yqa (by assumption) ?_ ?_|refine yqb (by assumption) ?_ ?_)|((with_reducible refine je ?_)<;>(first|rfl|assumption|(simp only [znl,znTF];(first|done|fail))))|(with_reducible refine jf (by (simp only [↓reduceIte,zlk,Nat.reduceEqDiff,reduceCtorEq]);exact rfl) ?_)|((with_reducible first|refine jg (fun hc=>?_) (fun hc=>?_)|refine jh (fun hc=>?_) (fun hc=>?_))<;>(try simp (disch:=omega) only [zhb] at hc)<;>(try (exfalso;omega))<;>(try subst hc))|(with_reducible refine ji (by omega) ?_)|(simp (config := { maxSteps := 400000 }) only [↓jt,↓reduceIte,zvs,reduceCtorEq,seval,-List.reduceReplicate,tab,Try.results86,jTA])|(simp (disch:=omega) only [ziw]))
  all_goals (try (exfalso; omega))
  refine ok_loop (fun k : Nat => ⟨slots [(0, encStrs v), (2, .ptr 0 []), (3, .int .i64 0), (4, .ptr 1 []), (5, .int .i64 k)], rows [(0, .row (.st [.cell, .cell, .cell]) (.agg [.sl none 0, .sl none 0, .int .i64 0])), (1, .row (.st [.cell, .cell, .cell]) (.agg [.sl (some (2, [], 0)) k, .sl none 0, .int .i64 (-1)])), (2, .row (.arr k .cell) (.agg (List.replicate k (.str Z))))], 3⟩) (fun k => k ≤ 33) (fun k => 33 - k) 0 ?_ (Nat.zero_le _) (fun k hk => ?_)
  · (refine yrn [(0, 0), (1, 1)] false ?_ ?_<;>(repeat' (first|(with_reducible first|exact ya1|exact ya2|exact ya3|refine jx rfl (by first|rfl|assumption|(simp only [znl,znTF];(first|done|fail)))|exact ya5|exact ya7|exact jy|exact jz|refine jA ?_|refine ya9 ?_ ?_ ?_|refine jC rfl (by first|rfl|assumption|(simp only [znl,znTF];(first|done|fail)))|refine MR.agg (MRL.cons ?_ ?_)|refine MR.fn ?_|refine MRL.cons ?_ ?_|exact MRL.nil|refine jE ?_ ?_|exact jF|exact jG|refine yb1 ?_ ?_|refine MB.row ?_|refine jI ?_ ?_|exact ya8|refine jJ rfl (by first|rfl|assumption|(simp only [znl,znTF];(first|done|fail)))|refine yb2 ?_|rfl)|(simp only [znl,znTF];(first|done|fail))|(simp only [↓reduceIte,zlk,Nat.reduceEqDiff,reduceCtorEq])|(with_reducible first|refine jJ ?_ ?_|refine ya5 ?_|refine ju ?_|refine jv ?_|refine jw ?_|refine jx ?_ (by first|rfl|assumption|(simp only [znl,znTF];(first|done|fail)))|refine jC ?_ (by first|rfl|assumption|(simp only [znl,znTF];(first|done|fail)))))))
    all_goals (first | rfl | (simp; done))
  by_cases hlt : k < 33
  · repeat' (first|(with_reducible first|refine yrl (by constructor) ?_|refine jk (fun M hM=>?_)|(refine hM _ ?_;clear hM M)|refine xb3 (by decide) ?_|refine yqa (by assumption) ?_ ?_|refine yqb (by assumption) ?_ ?_)|((with_reducible refine je ?_)<;>(first|rfl|assumption|(simp only [znl,znTF];(first|done|fail))))|(with_reducible refine jf (by (simp only [↓reduceIte,zlk,Nat.reduceEqDiff,reduceCtorEq]);exact rfl) ?_)|((with_reducible first|refine jg (fun hc=>?_) (fun hc=>?_)|refine jh (fun hc=>?_) (fun hc=>?_))<;>(try simp (disch:=omega) only [zhb] at hc)<;>(try (exfalso;omega))<;>(try subst hc))|(with_reducible refine ji (by omega) ?_)|(simp (config := { maxSteps := 400000 }) only [↓jt,↓reduceIte,zvs,reduceCtorEq,seval,-List.reduceReplicate,tab,Try.results86,jTA])|(simp (disch:=omega) only [ziw]))
    refine ok_draw 4 (by kernel_rfl) (by decide +kernel) (by intro m hm; simp only [upd_ap,rows_cons,rows_nil]; (repeat (first | rfl | rw [if_neg (by omega)]))) (fun M hM => ?_); simp only [List.take_succ_cons,List.take_zero,List.drop_succ_cons,List.drop_zero]
    repeat' (first|(with_reducible first|refine yrl (by constructor) ?_|refine jk (fun M hM=>?_)|(refine hM _ ?_;clear hM M)|refine xb3 (by decide) ?_|refine yqa (by assumption) ?_ ?_|refine yqb (by assumption) ?_ ?_)|((with_reducible refine je ?_)<;>(first|rfl|assumption|(simp only [znl,znTF];(first|done|fail))))|(with_reducible refine jf (by (simp only [↓reduceIte,zlk,Nat.reduceEqDiff,reduceCtorEq]);exact rfl) ?_)|((with_reducible first|refine jg (fun hc=>?_) (fun hc=>?_)|refine jh (fun hc=>?_) (fun hc=>?_))<;>(try simp (disch:=omega) only [zhb] at hc)<;>(try (exfalso;omega))<;>(try subst hc))|(with_reducible refine ji (by omega) ?_)|(simp (config := { maxSteps := 400000 }) only [↓jt,↓reduceIte,zvs,reduceCtorEq,seval,-List.reduceReplicate,tab,Try.results86,jTA])|(simp (disch:=omega) only [ziw]))
    refine xl1 (k + 1) ?_ (by show k + 1 ≤ 33; omega) (by show 33 - (k + 1) < 33 - k; omega)
    (refine yrn [(0, 0), (1, 1), (2, 259)] false ?_ ?_<;>(repeat' (first|(with_reducible first|exact ya1|exact ya2|exact ya3|refine jx rfl (by first|rfl|assumption|(simp only [znl,znTF];(first|done|fail)))|exact ya5|exact ya7|exact jy|exact jz|refine jA ?_|refine ya9 ?_ ?_ ?_|refine jC rfl (by first|rfl|assumption|(simp only [znl,znTF];(first|done|fail)))|refine MR.agg (MRL.cons ?_ ?_)|refine MR.fn ?_|refine MRL.cons ?_ ?_|exact MRL.nil|refine jE ?_ ?_|exact jF|exact jG|refine yb1 ?_ ?_|refine MB.row ?_|refine jI ?_ ?_|exact ya8|refine jJ rfl (by first|rfl|assumption|(simp only [znl,znTF];(first|done|fail)))|refine yb2 ?_|rfl)|(simp only [znl,znTF];(first|done|fail))|(simp only [↓reduceIte,zlk,Nat.reduceEqDiff,reduceCtorEq])|(with_reducible first|refine jJ ?_ ?_|refine ya5 ?_|refine ju ?_|refine jv ?_|refine jw ?_|refine jx ?_ (by first|rfl|assumption|(simp only [znl,znTF];(first|done|fail)))|refine jC ?_ (by first|rfl|assumption|(simp only [znl,znTF];(first|done|fail)))))))
    all_goals (first | rfl | (simp [List.replicate_succ']; done))
  · obtain rfl : k = 33 := by omega
    repeat' (first|(with_reducible first|refine yrl (by constructor) ?_|refine jk (fun M hM=>?_)|(refine hM _ ?_;clear hM M)|refine xb3 (by decide) ?_|refine yqa (by assumption) ?_ ?_|refine yqb (by assumption) ?_ ?_)|((with_reducible refine je ?_)<;>(first|rfl|assumption|(simp only [znl,znTF];(first|done|fail))))|(with_reducible refine jf (by (simp only [↓reduceIte,zlk,Nat.reduceEqDiff,reduceCtorEq]);exact rfl) ?_)|((with_reducible first|refine jg (fun hc=>?_) (fun hc=>?_)|refine jh (fun hc=>?_) (fun hc=>?_))<;>(try simp (disch:=omega) only [zhb] at hc)<;>(try (exfalso;omega))<;>(try subst hc))|(with_reducible refine ji (by omega) ?_)|(simp (config := { maxSteps := 400000 }) only [↓jt,↓reduceIte,zvs,reduceCtorEq,seval,-List.reduceReplicate,tab,Try.results86,jTA])|(simp (disch:=omega) only [ziw]))
    obtain ⟨W, hW, hWl⟩ : ∃ W : Frames, W = List.replicate 33 Z ∧ W.length = 33 := ⟨_, rfl, List.length_replicate⟩
    rw [← hW]
    refine ok_loop (fun k : Nat => ⟨slots [(0, encStrs v), (2, .ptr 0 []), (3, .int .i64 0), (4, .ptr 1 []), (28, .int .i64 16), (29, .int .i64 k)], rows [(0, .row (.st [.cell, .cell, .cell]) (.agg [.sl none 0, .sl none 0, .int .i64 0])), (1, .row (.st [.cell, .cell, .cell]) (.agg [.sl (some (2, [], 0)) (33 + k), .sl none 0, .int .i64 (-1)])), (2, .row (.arr (33 + k) .cell) (.agg ((W ++ v.take k).map .str)))], 3⟩) (fun k => k ≤ 16) (fun k => 16 - k) 0 ?_ (Nat.zero_le _) (fun k hk => ?_)
    · (refine yrn [(0, 0), (1, 1), (2, 2)] false ?_ ?_<;>(repeat' (first|(with_reducible first|exact ya1|exact ya2|exact ya3|refine jx rfl (by first|rfl|assumption|(simp only [znl,znTF];(first|done|fail)))|exact ya5|exact ya7|exact jy|exact jz|refine jA ?_|refine ya9 ?_ ?_ ?_|refine jC rfl (by first|rfl|assumption|(simp only [znl,znTF];(first|done|fail)))|refine MR.agg (MRL.cons ?_ ?_)|refine MR.fn ?_|refine MRL.cons ?_ ?_|exact MRL.nil|refine jE ?_ ?_|exact jF|exact jG|refine yb1 ?_ ?_|refine MB.row ?_|refine jI ?_ ?_|exact ya8|refine jJ rfl (by first|rfl|assumption|(simp only [znl,znTF];(first|done|fail)))|refine yb2 ?_|rfl)|(simp only [znl,znTF];(first|done|fail))|(simp only [↓reduceIte,zlk,Nat.reduceEqDiff,reduceCtorEq])|(with_reducible first|refine jJ ?_ ?_|refine ya5 ?_|refine ju ?_|refine jv ?_|refine jw ?_|refine jx ?_ (by first|rfl|assumption|(simp only [znl,znTF];(first|done|fail)))|refine jC ?_ (by first|rfl|assumption|(simp only [znl,znTF];(first|done|fail)))))))
      all_goals (first | rfl | (rw [hW]; simp; done) | (simp; done))
    by_cases hlt : k < 16
    · have e1 := take_snoc v k (by omega)
      have hsk := hs _ (getD_mem' (show k < v.length by omega))
      rw [default_str] at e1 hsk
      repeat' (first|(with_reducible first|refine yrl (by constructor) ?_|refine jk (fun M hM=>?_)|(refine hM _ ?_;clear hM M)|refine xb3 (by decide) ?_|refine yqa (by assumption) ?_ ?_|refine yqb (by assumption) ?_ ?_)|((with_reducible refine je ?_)<;>(first|rfl|assumption|(simp only [znl,znTF];(first|done|fail))))|(with_reducible refine jf (by (simp only [↓reduceIte,zlk,Nat.reduceEqDiff,reduceCtorEq]);exact rfl) ?_)|((with_reducible first|refine jg (fun hc=>?_) (fun hc=>?_)|refine jh (fun hc=>?_) (fun hc=>?_))<;>(try simp (disch:=omega) only [zhb] at hc)<;>(try (exfalso;omega))<;>(try subst hc))|(with_reducible refine ji (by omega) ?_)|(simp (config := { maxSteps := 400000 }) only [↓jt,↓reduceIte,zvs,reduceCtorEq,seval,-List.reduceReplicate,tab,hsk,hWl,Try.results86,jTA])|(simp (disch:=omega) only [ziw]))
      refine ok_draw 7 (by kernel_rfl) (by decide +kernel) (by intro m hm; simp only [upd_ap,rows_cons,rows_nil]; (repeat (first | rfl | rw [if_neg (by omega)]))) (fun M hM => ?_); simp only [List.take_succ_cons,List.take_zero,List.drop_succ_cons,List.drop_zero]
      repeat' (first|(with_reducible first|refine yrl (by constructor) ?_|refine jk (fun M hM=>?_)|(refine hM _ ?_;clear hM M)|refine xb3 (by decide) ?_|refine yqa (by assumption) ?_ ?_|refine yqb (by assumption) ?_ ?_)|((with_reducible refine je ?_)<;>(first|rfl|assumption|(simp only [znl,znTF];(first|done|fail))))|(with_reducible refine jf (by (simp only [↓reduceIte,zlk,Nat.reduceEqDiff,reduceCtorEq]);exact rfl) ?_)|((with_reducible first|refine jg (fun hc=>?_) (fun hc=>?_)|refine jh (fun hc=>?_) (fun hc=>?_))<;>(try simp (disch:=omega) only [zhb] at hc)<;>(try (exfalso;omega))<;>(try subst hc))|(with_reducible refine ji (by omega) ?_)|(simp (config := { maxSteps := 400000 }) only [↓jt,↓reduceIte,zvs,reduceCtorEq,seval,-List.reduceReplicate,tab,hsk,hWl,Try.results86,jTA])|(simp (disch:=omega) only [ziw]))
      refine xl1 (k + 1) ?_ (by show k + 1 ≤ 16; omega) (by show 16 - (k + 1) < 16 - k; omega)
      (refine yrn [(0, 0), (1, 1), (2, 451)] false ?_ ?_<;>(repeat' (first|(with_reducible first|exact ya1|exact ya2|exact ya3|refine jx rfl (by first|rfl|assumption|(simp only [znl,znTF];(first|done|fail)))|exact ya5|exact ya7|exact jy|exact jz|refine jA ?_|refine ya9 ?_ ?_ ?_|refine jC rfl (by first|rfl|assumption|(simp only [znl,znTF];(first|done|fail)))|refine MR.agg (MRL.cons ?_ ?_)|refine MR.fn ?_|refine MRL.cons ?_ ?_|exact MRL.nil|refine jE ?_ ?_|exact jF|exact jG|refine yb1 ?_ ?_|refine MB.row ?_|refine jI ?_ ?_|exact ya8|refine jJ rfl (by first|rfl|assumption|(simp only [znl,znTF];(first|done|fail)))|refine yb2 ?_|rfl)|(simp only [znl,znTF];(first|done|fail))|(simp only [↓reduceIte,zlk,Nat.reduceEqDiff,reduceCtorEq])|(with_reducible first|refine jJ ?_ ?_|refine ya5 ?_|refine ju ?_|refine jv ?_|refine jw ?_|refine jx ?_ (by first|rfl|assumption|(simp only [znl,znTF];(first|done|fail)))|refine jC ?_ (by first|rfl|assumption|(simp only [znl,znTF];(first|done|fail)))))))
      all_goals (first | rfl | omega | (rw [e1]; simp; done))
    · obtain rfl : k = 16 := by omega
      have et : v.take 16 = v := List.take_of_length_le (by omega)
      repeat' (first|(with_reducible first|refine yrl (by constructor) ?_|refine jk (fun M hM=>?_)|(refine hM _ ?_;clear hM M)|refine xb3 (by decide) ?_|refine yqa (by assumption) ?_ ?_|refine yqb (by assumption) ?_ ?_)|((with_reducible refine je ?_)<;>(first|rfl|assumption|(simp only [znl,znTF];(first|done|fail))))|(with_reducible refine jf (by (simp only [↓reduceIte,zlk,Nat.reduceEqDiff,reduceCtorEq]);exact rfl) ?_)|((with_reducible first|refine jg (fun hc=>?_) (fun hc=>?_)|refine jh (fun hc=>?_) (fun hc=>?_))<;>(try simp (disch:=omega) only [zhb] at hc)<;>(try (exfalso;omega))<;>(try subst hc))|(with_reducible refine ji (by omega) ?_)|(simp (config := { maxSteps := 400000 }) only [↓jt,↓reduceIte,zvs,reduceCtorEq,seval,-List.reduceReplicate,tab,et,hWl,Try.results86,jTA])|(simp (disch:=omega) only [ziw]))
      all_goals (try (exfalso; omega))
      simp only [drV,encDr,List.map_nil]
      simp only [zrds]
      refine ⟨?_, rd_nil⟩
      (refine rd_own (by (simp only [↓reduceIte,zlk,Nat.reduceEqDiff,reduceCtorEq]); exact rfl) ?_ ?_ ?_) <;> (first | rfl | assumption | (simp only [znl,znTF];(first|done|fail)) | (simp; done) | (simp; omega) | skip)
def littleM (Z : List UInt8) (n : Nat) (d : Dr) : Mach := ⟨0, 1, 0, 0, List.replicate n Z, [], 1, [], [], 1, [], false, 0, d, []⟩
theorem little_spec : ∃ (Z : List UInt8) (d : Dr), Z.length = 128 ∧ d.bl.length = 49 ∧ (∀ s ∈ d.bl, s.length = 128) ∧ d.pe = [] ∧ d.left = -1 ∧ Spec Try.prog 39 [.int .i64 2] (encM (littleM Z 2 d)) := by
  have hF := fmt17s_spec
  have hv := vol16_len
  have hs := vol16_all
  generalize vol16 = v at hF hv hs
  obtain ⟨Z, hZl, hG⟩ := fmt16s_spec v hv hs
  have h1 : (List.replicate 33 Z ++ v).length = 49 := by rw [List.length_append, List.length_replicate, hv]
  have h2 : ∀ s ∈ List.replicate 33 Z ++ v, s.length = 128 := by
    intro s h
    rcases List.mem_append.1 h with h | h
    · rw [(List.mem_replicate.1 h).2]; exact hZl
    · exact hs s h
  refine ⟨List.replicate 128 0, ⟨List.replicate 33 Z ++ v, [], -1⟩, List.length_replicate, h1, h2, rfl, rfl, ?_⟩
  simp only [drV] at hG
  generalize List.replicate 33 Z ++ v = bl at hG h1 h2
  refine spec_ok Try.func39 rfl rfl (by kernel_rfl) (k := 1) rfl (by decide) ?_
  repeat' (first|(with_reducible first|refine yrl (by constructor) ?_|refine jk (fun M hM=>?_)|(refine hM _ ?_;clear hM M)|refine xb3 (by decide) ?_|refine yqa (by assumption) ?_ ?_|refine yqb (by assumption) ?_ ?_)|((with_reducible refine je ?_)<;>(first|rfl|assumption|(simp only [znl,znTF];(first|done|fail))))|(with_reducible refine jf (by (simp only [↓reduceIte,zlk,Nat.reduceEqDiff,reduceCtorEq]);exact rfl) ?_)|((with_reducible first|refine jg (fun hc=>?_) (fun hc=>?_)|refine jh (fun hc=>?_) (fun hc=>?_))<;>(try simp (disch:=omega) only [zhb] at hc)<;>(try (exfalso;omega))<;>(try subst hc))|(with_reducible refine ji (by omega) ?_)|(simp (config := { maxSteps := 400000 }) only [↓jt,↓reduceIte,zvs,reduceCtorEq,seval,-List.reduceReplicate,tab,Try.results39,jTA])|(simp (disch:=omega) only [ziw]))
  all_goals (try (exfalso; omega))
  obtain ⟨z, hz⟩ : ∃ z : List UInt8, z = List.replicate 128 0 := ⟨_, rfl⟩
  have hzb : bytesOf (List.replicate 128 (VV.int .u8 0)) = some z := by rw [hz]; exact bytesOf_enc (List.replicate 128 0)
  have hzc : bytesOf (List.take 128 (List.replicate 128 (VV.int .u8 0))) = some z := by rw [List.take_of_length_le (by simp)]; exact hzb
  have hzl : z.length = 128 := by rw [hz]; exact List.length_replicate
  rw [← hz]
  refine ok_loop (fun k : Nat => ⟨slots [(0, .int .i64 2), (2, .ptr 0 []), (7, .ptr 2 []), (8, .int .i64 k)], rows [(0, .row machSh nilMD), (2, .row machSh (.agg [.int .u64 0, .int .i64 1, .int .i64 0, .int .i64 0, .sl (some (3, [], 0)) k, .sl none 0, .int .i64 1, .str [], .sl none 0, .int .i64 1, .str [], .bool false, .int .u64 0, encDr ⟨bl, [], -1⟩, .sl none 0])), (3, .row (.arr k .cell) (.agg (List.replicate k (.str z))))], 4⟩) (fun k => k ≤ 2) (fun k => 2 - k) 0 ?_ (Nat.zero_le _) (fun k hk => ?_)
  · (refine yrn [(0, 0), (2, 2)] false ?_ ?_<;>(repeat' (first|(with_reducible first|exact ya1|exact ya2|exact ya3|refine jx rfl (by first|rfl|assumption|(simp only [znl,znTF];(first|done|fail)))|exact ya5|exact ya7|exact jy|exact jz|refine jA ?_|refine ya9 ?_ ?_ ?_|refine jC rfl (by first|rfl|assumption|(simp only [znl,znTF];(first|done|fail)))|refine MR.agg (MRL.cons ?_ ?_)|refine MR.fn ?_|refine MRL.cons ?_ ?_|exact MRL.nil|refine jE ?_ ?_|exact jF|exact jG|refine yb1 ?_ ?_|refine MB.row ?_|refine jI ?_ ?_|exact ya8|refine jJ rfl (by first|rfl|assumption|(simp only [znl,znTF];(first|done|fail)))|refine yb2 ?_|rfl)|(simp only [znl,znTF];(first|done|fail))|(simp only [↓reduceIte,zlk,Nat.reduceEqDiff,reduceCtorEq])|(with_reducible first|refine jJ ?_ ?_|refine ya5 ?_|refine ju ?_|refine jv ?_|refine jw ?_|refine jx ?_ (by first|rfl|assumption|(simp only [znl,znTF];(first|done|fail)))|refine jC ?_ (by first|rfl|assumption|(simp only [znl,znTF];(first|done|fail)))))))
    all_goals (first | rfl)
  by_cases hlt : k < 2
  · have hs : List.replicate k (VV.str z) ++ [.str z] = List.replicate (k + 1) (.str z) := List.replicate_succ'.symm
    repeat' (first|(with_reducible first|refine yrl (by constructor) ?_|refine jk (fun M hM=>?_)|(refine hM _ ?_;clear hM M)|refine xb3 (by decide) ?_|refine yqa (by assumption) ?_ ?_|refine yqb (by assumption) ?_ ?_)|((with_reducible refine je ?_)<;>(first|rfl|assumption|(simp only [znl,znTF];(first|done|fail))))|(with_reducible refine jf (by (simp only [↓reduceIte,zlk,Nat.reduceEqDiff,reduceCtorEq]);exact rfl) ?_)|((with_reducible first|refine jg (fun hc=>?_) (fun hc=>?_)|refine jh (fun hc=>?_) (fun hc=>?_))<;>(try simp (disch:=omega) only [zhb] at hc)<;>(try (exfalso;omega))<;>(try subst hc))|(with_reducible refine ji (by omega) ?_)|(simp (config := { maxSteps := 400000 }) only [↓jt,↓reduceIte,zvs,reduceCtorEq,seval,-List.reduceReplicate,tab,hzb,Try.results39,jTA])|(simp (disch:=omega) only [ziw]))
    all_goals (try (exfalso; omega))
    refine ok_drawC 5 (by kernel_rfl) (by decide +kernel) (by intro m hm; simp only [upd_ap,rows_cons,rows_nil]; (repeat (first | rfl | rw [if_neg (by omega)]))) (fun M hM => ?_); simp only [List.take_succ_cons,List.take_zero,List.drop_succ_cons,List.drop_zero]
    repeat' (first|(with_reducible first|refine yrl (by constructor) ?_|refine jk (fun M hM=>?_)|(refine hM _ ?_;clear hM M)|refine xb3 (by decide) ?_|refine yqa (by assumption) ?_ ?_|refine yqb (by assumption) ?_ ?_)|((with_reducible refine je ?_)<;>(first|rfl|assumption|(simp only [znl,znTF];(first|done|fail))))|(with_reducible refine jf (by (simp only [↓reduceIte,zlk,Nat.reduceEqDiff,reduceCtorEq]);exact rfl) ?_)|((with_reducible first|refine jg (fun hc=>?_) (fun hc=>?_)|refine jh (fun hc=>?_) (fun hc=>?_))<;>(try simp (disch:=omega) only [zhb] at hc)<;>(try (exfalso;omega))<;>(try subst hc))|(with_reducible refine ji (by omega) ?_)|(simp (config := { maxSteps := 400000 }) only [↓jt,↓reduceIte,zvs,reduceCtorEq,seval,-List.reduceReplicate,tab,hzb,hzc,hs,Try.results39,jTA])|(simp (disch:=omega) only [ziw]))
    all_goals (try (exfalso; omega))
    all_goals (refine xl1 (k + 1) ?_ (by show k + 1 ≤ 2; omega) (by show 2 - (k + 1) < 2 - k; omega); (refine yrn [(0, 0), (2, 2), (3, 324)] false ?_ ?_<;>(repeat' (first|(with_reducible first|exact ya1|exact ya2|exact ya3|refine jx rfl (by first|rfl|assumption|(simp only [znl,znTF];(first|done|fail)))|exact ya5|exact ya7|exact jy|exact jz|refine jA ?_|refine ya9 ?_ ?_ ?_|refine jC rfl (by first|rfl|assumption|(simp only [znl,znTF];(first|done|fail)))|refine MR.agg (MRL.cons ?_ ?_)|refine MR.fn ?_|refine MRL.cons ?_ ?_|exact MRL.nil|refine jE ?_ ?_|exact jF|exact jG|refine yb1 ?_ ?_|refine MB.row ?_|refine jI ?_ ?_|exact ya8|refine jJ rfl (by first|rfl|assumption|(simp only [znl,znTF];(first|done|fail)))|refine yb2 ?_|rfl)|(simp only [znl,znTF];(first|done|fail))|(simp only [↓reduceIte,zlk,Nat.reduceEqDiff,reduceCtorEq])|(with_reducible first|refine jJ ?_ ?_|refine ya5 ?_|refine ju ?_|refine jv ?_|refine jw ?_|refine jx ?_ (by first|rfl|assumption|(simp only [znl,znTF];(first|done|fail)))|refine jC ?_ (by first|rfl|assumption|(simp only [znl,znTF];(first|done|fail))))))); all_goals (first | rfl | exact hs))
  · obtain rfl : k = 2 := by omega
    repeat' (first|(with_reducible first|refine yrl (by constructor) ?_|refine jk (fun M hM=>?_)|(refine hM _ ?_;clear hM M)|refine xb3 (by decide) ?_|refine yqa (by assumption) ?_ ?_|refine yqb (by assumption) ?_ ?_)|((with_reducible refine je ?_)<;>(first|rfl|assumption|(simp only [znl,znTF];(first|done|fail))))|(with_reducible refine jf (by (simp only [↓reduceIte,zlk,Nat.reduceEqDiff,reduceCtorEq]);exact rfl) ?_)|((with_reducible first|refine jg (fun hc=>?_) (fun hc=>?_)|refine jh (fun hc=>?_) (fun hc=>?_))<;>(try simp (disch:=omega) only [zhb] at hc)<;>(try (exfalso;omega))<;>(try subst hc))|(with_reducible refine ji (by omega) ?_)|(simp (config := { maxSteps := 400000 }) only [↓jt,↓reduceIte,zvs,reduceCtorEq,seval,-List.reduceReplicate,tab,Try.results39,jTA])|(simp (disch:=omega) only [ziw]))
    all_goals (try (exfalso; omega))
    simp only [littleM]
    all_goals first
      | (((try simp only [List.map_nil]); simp only [zrds]; (repeat' (first | exact rd_nil | exact Rd.refl _ _ (by first|rfl|assumption|(simp only [znl,znTF];(first|done|fail))) | (refine And.intro ?_ ?_) | (refine rd_own (by (simp only [↓reduceIte,zlk,Nat.reduceEqDiff,reduceCtorEq]); exact rfl) ?_ ?_ ?_) | rfl | assumption | (simp only [znl,znTF];(first|done|fail)) | (simp; done) | (simp; omega)))); done)
end Go.Proofs.Ytpdhdkpebbfnnaa.V
end
section
namespace Go.Proofs.Ytpdhdkpebbfnnaa.V
open Go Go.RowKit

section
variable {P : Program} {N : NN} {B : Nat} {ρ0 ρ : Names} {w0 w : World} {a : Act} {S : VS}
theorem vlist_soundR {ops : Array Oper} {Q : Exit → Act → World → Prop} {K : VS → Prop} (rest : List Oper) : ∀ (l : List Oper) (S : VS) (a : Act) (w : World) (ρ : Names), (∀ o ∈ l, ∀ t, o.dst = some t → t < N) → vlist P ops.toList l S K → SR N B ρ0 w0 S a w ρ →
    (∀ S' a' w' ρ', K S' → SR N B ρ0 w0 S' a' w' ρ' → wpList P ops Q rest a' w') → wpList P ops Q (l ++ rest) a w
  | [], S, a, w, ρ, _, h, hS, next => next S a w ρ h hS
  | o :: l, S, a, w, ρ, hd, h, hS, next => by
    show wpList P ops Q (o :: (l ++ rest)) a w
    refine wpList_step fun Kx hKx => ?_
    exact vstep_sound (hd o (by simp)) h hS fun S' a' w' ρ' hk hS' => hKx _ _ (vlist_soundR rest l S' a' w' ρ' (fun o ho => hd o (by simp [ho])) hk hS' next)
end
section
variable {P : Program} {n0 : Nat} {S : VS} {K : VX → VS → Prop}
end
end Go.Proofs.Ytpdhdkpebbfnnaa.V
end
section
namespace Go.Proofs.Ytpdhdkpebbfnnaa.V
open Go Go.RowKit
section
variable {P : Program} {n0 : Nat} {S : VS} {K : VX → VS → Prop}
def Mid (P : Program) (n0 : Nat) (l r : List Oper) (M : VS → Prop) (S : VS) : Prop := ∃ T, Ren n0 S T ∧ vl P l r T M
theorem mid_in {l r : List Oper} {M : VS → Prop} {S : VS} (T : VS) (h : Ren n0 S T) (h' : vl P l r T M) : Mid P n0 l r M S := ⟨T, h, h'⟩
theorem ok_mid {id : Nat} {l : List Oper} (i : Nat)
    (h : ∀ M : VS → Prop, (∀ S, K .normal S → M S) → vl P l (l.take i) S (Mid P n0 l (l.drop i) M)) : Ok P n0 (.region id l.toArray false) S K := fun N B ρ0 w0 Q a w ρ h0 hok hS next => by
  simp only [codeOk,List.all_eq_true] at hok
  have hok' : ∀ o ∈ l, ∀ t, o.dst = some t → t < N := fun o ho t ht => by have := hok o ho; rw [ht] at this; simpa using this
  have hmem : ∀ o, o ∈ l.take i → o ∈ l := fun o h => List.mem_of_mem_take h
  have hmem2 : ∀ o, o ∈ l.drop i → o ∈ l := fun o h => List.mem_of_mem_drop h
  have h := h _ fun _ h => h
  rw [vl_def] at h
  refine wp_region_list ?_
  show wpList P l.toArray Q l a w
  conv => arg 4; rw [← List.take_append_drop i l]
  refine vlist_soundR (K := Mid P n0 l (l.drop i) (K .normal)) _ _ S a w ρ (fun o ho t ht => hok' o (hmem o ho) t ht) h hS fun S1 a1 w1 ρ1 hk hs1 => ?_
  obtain ⟨T, hT, hk2⟩ := hk
  obtain ⟨ρ2, hs2⟩ := hT N B ρ0 w0 a1 w1 ρ1 h0 hs1
  rw [vl_def] at hk2
  exact vlist_sound (K := K .normal) _ T a1 w1 ρ2 (fun o ho t ht => hok' o (hmem2 o ho) t ht) hk2 hs2 fun S' a' w' ρ' hk hS' => next .normal S' a' w' ρ' hk hS'
end
end Go.Proofs.Ytpdhdkpebbfnnaa.V
end
section
namespace Go.Proofs.Ytpdhdkpebbfnnaa.V
open Go
set_option maxRecDepth 100000
def znTG := And.intro @jO <| And.intro @jP <| And.intro @jQ <| And.intro @jR <| And.intro @jS <| And.intro @jT <| And.intro @jU <| True.intro
set_option maxHeartbeats 8000000
def e0 : Exe := ⟨[0], [], 0, 0⟩
def fd0 : Fdd := ⟨0, 0, 0⟩
theorem e0_R : ExeR e0 := ⟨by decide, fun x hx => by simp [e0] at hx; subst hx; unfold u32R; omega, by decide, by unfold i64R; decide, by unfold u32R; decide⟩
theorem e0_ok : okE e0 := by unfold okE; decide
theorem fd0_R : fdR fd0 := by unfold fdR fd0 i64R; decide
def sp0 : List Pte := spK zSpace [0, 1] (layE e0) 2
def q0 : Pr := ⟨1, 0, 1, (List.replicate 16 0).set 15 2048, 0, sp0, fd0 :: fd0 :: List.replicate 6 ⟨0, 0, 0⟩, false, 0, 0, 0⟩
theorem lay0_len : (layE e0).length = 2 := by kernel_rfl
theorem little_free (Z : List UInt8) (d : Dr) : freeK (littleM Z 2 d).pr (littleM Z 2 d).fr.length = [0, 1] := by kernel_rfl
theorem q0_free : freeK [q0] 2 = [] := by kernel_rfl
theorem little_E (Z : List UInt8) (d : Dr) : spawnE (littleM Z 2 d) e0 = 0 := by
  unfold spawnE
  rw [if_pos e0_ok, little_free, lay0_len, if_neg (show ¬8 ≤ (littleM Z 2 d).pr.length from (by decide : ¬8 ≤ 0)), if_neg (by decide)]
theorem little_pr (Z : List UInt8) (d : Dr) : (spawnM (littleM Z 2 d) e0 0 fd0 fd0).pr = [q0] := by
  have h := little_free Z d
  show (littleM Z 2 d).pr ++ [tookP (littleM Z 2 d) (newPr (littleM Z 2 d) e0 0 fd0 fd0) (layE e0)] = [q0]
  unfold tookP
  rw [h, lay0_len]
  rfl
theorem little_fr (Z : List UInt8) (d : Dr) : (spawnM (littleM Z 2 d) e0 0 fd0 fd0).fr.length = 2 := by
  show (frK (littleM Z 2 d).fr _ _ _).length = 2
  rw [frK_len]; rfl
theorem frK_all {fr : Frames} {F : List Nat} {l : List Lay} {P : List UInt8 → Prop} (h : ∀ s ∈ fr, P s) (hl : ∀ x ∈ l, P x.d) (hd : P []) : ∀ k, ∀ s ∈ frK fr F l k, P s
  | 0 => h
  | k + 1 => fun s hs => by
    rw [frK] at hs
    rcases List.mem_or_eq_of_mem_set hs with hs | rfl
    · exact frK_all h hl hd k s hs
    · by_cases hk : k < l.length
      · exact hl _ (getD_mem' hk)
      · rw [List.getD_eq_getElem?_getD, List.getElem?_eq_none (by omega)]; exact hd
theorem layE_d (e : Exe) : ∀ x ∈ layE e, x.d.length = 128 := by
  intro x hx
  simp only [layE,layTo,layN,List.mem_append,List.mem_map,List.mem_singleton] at hx
  rcases hx with (⟨i, _, rfl⟩ | ⟨i, _, rfl⟩) | rfl
  · exact pgB_len _ _
  · exact pgB_len _ _
  · exact List.length_replicate
theorem spawnM_fit {m : Mach} (hm : MFit 20000 m) (hp1 : m.pr.length < 20000) (hn : m.next < 4611686018427387904) {e : Exe} (he : ExeR e) (hok : okE e) {par : Int} (hp : i64R par) {i o : Fdd} (hi : fdR i) (ho : fdR o) : MFit 20000 (spawnM m e par i o) := by
  have hR := tookP_R m hm (newPr_R m hm e he par hp i o hi ho) (layR_E e hok)
  obtain ⟨n1, _⟩ := hm.next
  refine ⟨hm.clock, hm.quantum, hm.cur, hm.left, ?_, ?_, ?_, ?_, ?_, hm.init, hm.pipes, hm.pipesR, hm.newp, hm.inp, hm.told, hm.bl, hm.blS, hm.pe, hm.peS, hm.dleft, hm.dirty, hm.dirtyS⟩
  · show (frK m.fr _ _ _).length ≤ 20000
    rw [frK_len]; exact hm.fr
  · exact frK_all hm.frS (fun x hx => by rw [layE_d e x hx]; decide) (Nat.zero_le _) _
  · show (m.pr ++ [_]).length ≤ 20000
    rw [List.length_append, List.length_singleton]; omega
  · intro p hp
    rcases List.mem_append.1 hp with hp | hp
    · exact hm.prR p hp
    · rw [List.mem_singleton.1 hp]; exact hR
  · show i64R (m.next + 1)
    unfold i64R; omega
theorem little_fit (Z : List UInt8) (d : Dr) (hZ : Z.length = 128) (h1 : d.bl.length = 49) (h2 : ∀ s ∈ d.bl, s.length = 128) (h3 : d.pe = []) (h4 : d.left = -1) : MFit 20000 (littleM Z 2 d) := by
  have z : i64R 0 := by unfold i64R; omega
  have o : i64R 1 := by unfold i64R; omega
  have zu : u64R 0 := by unfold u64R; omega
  refine ⟨zu, o, z, z, (by decide : (2 : Nat) ≤ 20000), fun s hs => ?_, Nat.zero_le _, (fun p hp => by cases hp), o, Nat.zero_le _, Nat.zero_le _, (fun p hp => by cases hp), o, Nat.zero_le _, zu, ?_, fun s hs => ?_, ?_, fun w hw => ?_, ?_, Nat.zero_le _, fun w hw => by cases hw⟩
  · rw [List.eq_of_mem_replicate hs, hZ]; decide
  · show d.bl.length ≤ 20000; omega
  · rw [h2 s hs]; decide
  · show d.pe.length ≤ 20000; rw [h3]; decide
  · have hw : w ∈ d.pe := hw
    rw [h3] at hw; cases hw
  · show i64R d.left; rw [h4]; unfold i64R; omega
theorem q0_die {m : Mach} (h : m.pr = [q0]) : (dieM m 1 5).pr = [] := by
  have h1 : findI m.pr 1 = some 0 := by rw [h]; kernel_rfl
  unfold dieM
  rw [h1]
  dsimp only
  rw [h, if_neg (by show ¬(q0.st = 3); decide)]
  show (sweepM (prM m ((dieL m 0 1 5).filter (stayB (dieL m 0 1 5))))).pr = []
  show (dieL m 0 1 5).filter (stayB (dieL m 0 1 5)) = []
  unfold dieL
  rw [h]
  kernel_rfl
theorem palive_spec : Spec Try.prog 13 [] (.bool true) := by
  obtain ⟨Z, d, hZ, h1, h2, h3, h4, hL⟩ := little_spec
  have hf := little_fit Z d hZ h1 h2 h3 h4
  have hE := little_E Z d
  have hpr := little_pr Z d
  have hfr := little_fr Z d
  have z : i64R 0 := by unfold i64R; omega
  have hf1 := spawnM_fit hf (by show 0 < 20000; decide) (by show (1 : Int) < _; decide) e0_R e0_ok z fd0_R fd0_R
  have hS1 := sspawn_spec _ hf (by show (1 : Int) < _; decide) e0 e0_R 0 z fd0 fd0 fd0_R fd0_R
  unfold spawnVV at hS1
  rw [if_pos hE] at hS1
  have hnx : (spawnM (littleM Z 2 d) e0 0 fd0 fd0).next = 2 := rfl
  have hn1 : (littleM Z 2 d).next = 1 := rfl
  rw [hn1] at hS1
  generalize spawnM (littleM Z 2 d) e0 0 fd0 fd0 = m1 at hpr hfr hf1 hS1 hnx
  generalize littleM Z 2 d = m0 at hL hS1
  have hS2 := sspawn_spec m1 hf1 (by rw [hnx]; decide) e0 e0_R 0 z fd0 fd0 fd0_R fd0_R
  have hE2 : spawnE m1 e0 = 10 := by
    unfold spawnE
    rw [if_pos e0_ok, hpr, hfr, q0_free, lay0_len, if_neg (by decide), if_pos (by decide)]
  unfold spawnVV at hS2
  rw [hE2, if_neg (by decide)] at hS2
  have hD := sdie_spec m1 hf1 1 (by unfold i64R; omega) 5 (by unfold u32R; omega)
  have hpd := q0_die hpr
  generalize dieM m1 1 5 = m2 at hD hpd
  have e1 : encM m1 = encMD m1 (.dat prSh [encPr q0]) := by
    show encMD m1 (encPrs m1.pr) = _
    rw [hpr]; rfl
  have e2 : encM m2 = encMD m2 (.dat prSh []) := by
    show encMD m2 (encPrs m2.pr) = _
    rw [hpd]; rfl
  rw [e1] at hS1 hS2 hD
  rw [e2] at hD
  have hq : encPr q0 = .agg [.int .i64 1, .int .i64 0, .int .i64 1, .agg [.agg (((List.replicate 16 0).set 15 2048).map (.int .u32)), .int .u32 0], .agg (sp0.map encPte), .agg ((fd0 :: fd0 :: List.replicate 6 ⟨0, 0, 0⟩ : List Fdd).map encFd), .bool false, .int .u32 0, .int .i64 0, .int .u64 0] := rfl
  have hq15 : (sp0.map encPte)[15]? = some (.agg [.bool true, .bool true, .int .i64 1]) := by kernel_rfl
  have hHq : Has prSh (encPr q0) := hasPr q0 (hf1.prR q0 (by rw [hpr]; exact List.mem_singleton.2 rfl))
  have hnq : nl (encPr q0) = true := jU q0
  simp only [e0,fd0,encExe,encWords,List.map_cons,List.map_nil,encFd] at hS1 hS2
  refine spec_ok Try.func13 rfl rfl (by kernel_rfl) (k := 0) rfl (by decide) ?_
  repeat' ((fail_if_success (with_reducible refine ok_stop 1 ?_));first|(with_reducible first|refine yrl (by constructor) ?_|refine jk (fun M hM=>?_)|(refine hM _ ?_;clear hM M)|refine xb3 (by decide) ?_|refine yqa (by assumption) ?_ ?_|refine yqb (by assumption) ?_ ?_)|((with_reducible refine je ?_)<;>(first|rfl|assumption|(simp only [znl,znTG];(first|done|fail))))|(with_reducible refine jf (by (simp only [↓reduceIte,zlk,Nat.reduceEqDiff,reduceCtorEq]);exact rfl) ?_)|((with_reducible first|refine jg (fun hc=>?_) (fun hc=>?_)|refine jh (fun hc=>?_) (fun hc=>?_))<;>(try simp (disch:=omega) only [zhb] at hc)<;>(try (exfalso;omega))<;>(try subst hc))|(with_reducible refine ji (by omega) ?_)|(simp (config := { maxSteps := 400000 }) only [↓jt,↓reduceIte,zvs,reduceCtorEq,seval,-List.reduceReplicate,tab,Try.results13,jTA])|(simp (disch:=omega) only [ziw]))
  refine ok_mid 2 (fun M hM => ?_)
  repeat' (first|(with_reducible first|refine yrl (by constructor) ?_|refine jk (fun M hM=>?_)|(refine hM _ ?_;clear hM M)|refine xb3 (by decide) ?_|refine yqa (by assumption) ?_ ?_|refine yqb (by assumption) ?_ ?_)|((with_reducible refine je ?_)<;>(first|rfl|assumption|(simp only [znl,znTG];(first|done|fail))))|(with_reducible refine jf (by (simp only [↓reduceIte,zlk,Nat.reduceEqDiff,reduceCtorEq]);exact rfl) ?_)|((with_reducible first|refine jg (fun hc=>?_) (fun hc=>?_)|refine jh (fun hc=>?_) (fun hc=>?_))<;>(try simp (disch:=omega) only [zhb] at hc)<;>(try (exfalso;omega))<;>(try subst hc))|(with_reducible refine ji (by omega) ?_)|(simp (config := { maxSteps := 400000 }) only [↓jt,↓reduceIte,zvs,reduceCtorEq,seval,-List.reduceReplicate,tab,Try.results13,jTA])|(simp (disch:=omega) only [ziw]))
  refine mid_in ⟨slots [(0, .bool false), (9, encM m0), (10, .dat .cell [.int .u32 0])], rows [], 1⟩ ?_ ?_
  · (refine yrn [] true ?_ ?_<;>(repeat' (first|(with_reducible first|exact ya1|exact ya2|exact ya3|refine jx rfl (by first|rfl|assumption|(simp only [znl,znTG];(first|done|fail)))|exact ya5|exact ya7|exact jy|exact jz|refine jA ?_|refine ya9 ?_ ?_ ?_|refine jC rfl (by first|rfl|assumption|(simp only [znl,znTG];(first|done|fail)))|refine MR.agg (MRL.cons ?_ ?_)|refine MR.fn ?_|refine MRL.cons ?_ ?_|exact MRL.nil|refine jE ?_ ?_|exact jF|exact jG|refine yb1 ?_ ?_|refine MB.row ?_|refine jI ?_ ?_|exact ya8|refine jJ rfl (by first|rfl|assumption|(simp only [znl,znTG];(first|done|fail)))|refine yb2 ?_|rfl)|(simp only [znl,znTG];(first|done|fail))|(simp only [↓reduceIte,zlk,Nat.reduceEqDiff,reduceCtorEq])|(with_reducible first|refine jJ ?_ ?_|refine ya5 ?_|refine ju ?_|refine jv ?_|refine jw ?_|refine jx ?_ (by first|rfl|assumption|(simp only [znl,znTG];(first|done|fail)))|refine jC ?_ (by first|rfl|assumption|(simp only [znl,znTG];(first|done|fail)))))))
    all_goals (first | rfl)
  repeat' ((fail_if_success (with_reducible refine ok_stop 4 ?_));first|(with_reducible first|refine yrl (by constructor) ?_|refine jk (fun M hM=>?_)|(refine hM _ ?_;clear hM M)|refine xb3 (by decide) ?_|refine yqa (by assumption) ?_ ?_|refine yqb (by assumption) ?_ ?_)|((with_reducible refine je ?_)<;>(first|rfl|assumption|(simp only [znl,znTG];(first|done|fail))))|(with_reducible refine jf (by (simp only [↓reduceIte,zlk,Nat.reduceEqDiff,reduceCtorEq]);exact rfl) ?_)|((with_reducible first|refine jg (fun hc=>?_) (fun hc=>?_)|refine jh (fun hc=>?_) (fun hc=>?_))<;>(try simp (disch:=omega) only [zhb] at hc)<;>(try (exfalso;omega))<;>(try subst hc))|(with_reducible refine ji (by omega) ?_)|(simp (config := { maxSteps := 400000 }) only [↓jt,↓reduceIte,zvs,reduceCtorEq,seval,-List.reduceReplicate,tab,hHq,hq15,hq,Try.results13,jTA])|(simp (disch:=omega) only [ziw]))
  all_goals (try (exfalso; omega))
  refine ok_mid 2 (fun M hM => ?_)
  repeat' (first|(with_reducible first|refine yrl (by constructor) ?_|refine jk (fun M hM=>?_)|(refine hM _ ?_;clear hM M)|refine xb3 (by decide) ?_|refine yqa (by assumption) ?_ ?_|refine yqb (by assumption) ?_ ?_)|((with_reducible refine je ?_)<;>(first|rfl|assumption|(simp only [znl,znTG];(first|done|fail))))|(with_reducible refine jf (by (simp only [↓reduceIte,zlk,Nat.reduceEqDiff,reduceCtorEq]);exact rfl) ?_)|((with_reducible first|refine jg (fun hc=>?_) (fun hc=>?_)|refine jh (fun hc=>?_) (fun hc=>?_))<;>(try simp (disch:=omega) only [zhb] at hc)<;>(try (exfalso;omega))<;>(try subst hc))|(with_reducible refine ji (by omega) ?_)|(simp (config := { maxSteps := 400000 }) only [↓jt,↓reduceIte,zvs,reduceCtorEq,seval,-List.reduceReplicate,tab,Try.results13,jTA])|(simp (disch:=omega) only [ziw]))
  refine mid_in ⟨slots [(0, .bool false), (1, .ptr 1 []), (51, encMD m1 (.dat prSh [encPr q0])), (52, .dat .cell [.int .u32 0])], rows [(1, .row machSh (encMD m1 (.dat prSh [encPr q0])))], 3⟩ ?_ ?_
  · (refine yrn [(1, 1)] true ?_ ?_<;>(repeat' (first|(with_reducible first|exact ya1|exact ya2|exact ya3|refine jx rfl (by first|rfl|assumption|(simp only [znl,znTG];(first|done|fail)))|exact ya5|exact ya7|exact jy|exact jz|refine jA ?_|refine ya9 ?_ ?_ ?_|refine jC rfl (by first|rfl|assumption|(simp only [znl,znTG];(first|done|fail)))|refine MR.agg (MRL.cons ?_ ?_)|refine MR.fn ?_|refine MRL.cons ?_ ?_|exact MRL.nil|refine jE ?_ ?_|exact jF|exact jG|refine yb1 ?_ ?_|refine MB.row ?_|refine jI ?_ ?_|exact ya8|refine jJ rfl (by first|rfl|assumption|(simp only [znl,znTG];(first|done|fail)))|refine yb2 ?_|rfl)|(simp only [znl,znTG];(first|done|fail))|(simp only [↓reduceIte,zlk,Nat.reduceEqDiff,reduceCtorEq])|(with_reducible first|refine jJ ?_ ?_|refine ya5 ?_|refine ju ?_|refine jv ?_|refine jw ?_|refine jx ?_ (by first|rfl|assumption|(simp only [znl,znTG];(first|done|fail)))|refine jC ?_ (by first|rfl|assumption|(simp only [znl,znTG];(first|done|fail)))))))
    all_goals (first | rfl)
  repeat' (first|(with_reducible first|refine yrl (by constructor) ?_|refine jk (fun M hM=>?_)|(refine hM _ ?_;clear hM M)|refine xb3 (by decide) ?_|refine yqa (by assumption) ?_ ?_|refine yqb (by assumption) ?_ ?_)|((with_reducible refine je ?_)<;>(first|rfl|assumption|(simp only [znl,znTG];(first|done|fail))))|(with_reducible refine jf (by (simp only [↓reduceIte,zlk,Nat.reduceEqDiff,reduceCtorEq]);exact rfl) ?_)|((with_reducible first|refine jg (fun hc=>?_) (fun hc=>?_)|refine jh (fun hc=>?_) (fun hc=>?_))<;>(try simp (disch:=omega) only [zhb] at hc)<;>(try (exfalso;omega))<;>(try subst hc))|(with_reducible refine ji (by omega) ?_)|(simp (config := { maxSteps := 400000 }) only [↓jt,↓reduceIte,zvs,reduceCtorEq,seval,-List.reduceReplicate,tab,Try.results13,jTA])|(simp (disch:=omega) only [ziw]))
  all_goals (try (exfalso; omega))
  all_goals first
    | (simp only [zrds]; done)
    | (simp only [show (((0 : Nat) : Int) == 0) = true from rfl]; simp only [zrds]; done)
end Go.Proofs.Ytpdhdkpebbfnnaa.V
end
section
namespace Go.Proofs.Ytpdhdkpebbfnnaa.V
open Go
set_option maxRecDepth 100000
def znTH := And.intro @jO <| And.intro @jP <| And.intro @jQ <| And.intro @jR <| And.intro @jS <| And.intro @jT <| And.intro @jU <| True.intro
set_option maxHeartbeats 8000000
def nearM (m : Mach) : Prop := m.fr.length ≤ 20 ∧ m.pr.length ≤ 8 ∧ m.pipes.length ≤ 20 ∧ m.dr.bl.length ≤ 120 ∧ m.dr.pe.length ≤ 80 ∧ m.dirty.length ≤ 20 ∧ m.inp.length ≤ 300
def seenM (m : Mach) : Prop := nearM m ∧ chkM m = 0 ∧ m.next ≤ 900000000 ∧ m.newp ≤ 900000000
instance (m : Mach) : Decidable (nearM m) := by unfold nearM; infer_instance
instance (m : Mach) : Decidable (seenM m) := by unfold seenM; infer_instance
theorem near_fit {m : Mach} (hm : MFit (2 ^ 47) m) (h : nearM m) : MFit 20000 m := by
  obtain ⟨h1, h2, h3, h4, h5, h6, h7⟩ := h
  exact ⟨hm.clock, hm.quantum, hm.cur, hm.left, by omega, hm.frS, by omega, hm.prR, hm.next, hm.init, by omega, hm.pipesR, hm.newp, hm.inp, hm.told, by omega, hm.blS, by omega, hm.peS, hm.dleft, by omega, hm.dirtyS⟩
theorem pwide_spec (m : Mach) (hm : MFit (2 ^ 47) m) : Spec Try.prog 14 [encM m] (.int .i64 (if seenM m then 0 else 1)) := by
  obtain ⟨R, hR⟩ : ∃ R : Int, R = if seenM m then 0 else 1 := ⟨_, rfl⟩
  rw [← hR]
  have b1 := hm.fr
  have b2 := hm.pr
  have b3 := hm.pipes
  have b4 := hm.bl
  have b5 := hm.pe
  have b6 := hm.dirty
  have b7 := hm.inp
  by_cases hn : nearM m
  · have hC := rcheckM_spec m (near_fit hm hn)
    have hyes : chkM m = 0 → m.next ≤ 900000000 → m.newp ≤ 900000000 → R = 0 := fun h1 h2 h3 => by rw [hR, if_pos ⟨hn, h1, h2, h3⟩]
    have hno : ¬(chkM m = 0 ∧ m.next ≤ 900000000 ∧ m.newp ≤ 900000000) → R = 1 := fun h => by rw [hR, if_neg fun h' => h h'.2]
    clear hR
    generalize chkM m = c at hC hyes hno
    obtain ⟨h1, h2, h3, h4, h5, h6, h7⟩ := hn
    refine spec_ok Try.func14 rfl rfl (by kernel_rfl) (k := 1) rfl (by decide) ?_
    repeat' (first|(with_reducible first|refine yrl (by constructor) ?_|refine jk (fun M hM=>?_)|(refine hM _ ?_;clear hM M)|refine xb3 (by decide) ?_|refine yqa (by assumption) ?_ ?_|refine yqb (by assumption) ?_ ?_)|((with_reducible refine je ?_)<;>(first|rfl|assumption|(simp only [znl,znTH];(first|done|fail))))|(with_reducible refine jf (by (simp only [↓reduceIte,zlk,Nat.reduceEqDiff,reduceCtorEq]);exact rfl) ?_)|((with_reducible first|refine jg (fun hc=>?_) (fun hc=>?_)|refine jh (fun hc=>?_) (fun hc=>?_))<;>(try simp (disch:=omega) only [zhb] at hc)<;>(try (exfalso;omega))<;>(try subst hc))|(with_reducible refine ji (by omega) ?_)|(simp (config := { maxSteps := 400000 }) only [↓jt,↓reduceIte,zvs,reduceCtorEq,seval,-List.reduceReplicate,tab,encDr,Try.results14,jTA])|(simp (disch:=omega) only [ziw]))
    all_goals first
      | (exfalso; omega)
      | (rw [hyes (by omega) (by omega) (by omega)]; simp only [zrds]; done)
      | (rw [hno (by omega)]; simp only [zrds]; done)
  · have hno : R = 1 := by rw [hR, if_neg fun h => hn h.1]
    rw [hno]
    unfold nearM at hn
    clear hR hno R
    refine spec_ok Try.func14 rfl rfl (by kernel_rfl) (k := 1) rfl (by decide) ?_
    repeat' (first|(with_reducible first|refine yrl (by constructor) ?_|refine jk (fun M hM=>?_)|(refine hM _ ?_;clear hM M)|refine xb3 (by decide) ?_|refine yqa (by assumption) ?_ ?_|refine yqb (by assumption) ?_ ?_)|((with_reducible refine je ?_)<;>(first|rfl|assumption|(simp only [znl,znTH];(first|done|fail))))|(with_reducible refine jf (by (simp only [↓reduceIte,zlk,Nat.reduceEqDiff,reduceCtorEq]);exact rfl) ?_)|((with_reducible first|refine jg (fun hc=>?_) (fun hc=>?_)|refine jh (fun hc=>?_) (fun hc=>?_))<;>(try simp (disch:=omega) only [zhb] at hc)<;>(try (exfalso;omega))<;>(try subst hc))|(with_reducible refine ji (by omega) ?_)|(simp (config := { maxSteps := 400000 }) only [↓jt,↓reduceIte,zvs,reduceCtorEq,seval,-List.reduceReplicate,tab,encDr,Try.results14,jTA])|(simp (disch:=omega) only [ziw]))
    all_goals first
      | (exfalso; omega)
      | (simp only [zrds]; done)
def seenE (e : Exe) : Prop := e.ws.length ≤ 200 ∧ e.data.length ≤ 600
instance (e : Exe) : Decidable (seenE e) := by unfold seenE; infer_instance
theorem pgreat_spec (e : Exe) (h1 : e.ws.length ≤ 2 ^ 47) (h2 : e.data.length ≤ 2 ^ 47) : Spec Try.prog 15 [encExe e] (.bool (!decide (seenE e))) := by
  obtain ⟨R, hR⟩ : ∃ R, R = !decide (seenE e) := ⟨_, rfl⟩
  rw [← hR]
  have hyes : seenE e → R = false := fun h => by rw [hR, decide_eq_true h]; rfl
  have hno : ¬seenE e → R = true := fun h => by rw [hR, decide_eq_false h]; rfl
  clear hR
  unfold seenE at hyes hno
  by_cases h3 : e.ws.length ≤ 200
  · by_cases h4 : e.data.length ≤ 600
    · rw [hyes ⟨h3, h4⟩]
      have hd : decide ((e.data.length : Int) > 600) = false := decide_eq_false (by omega)
      refine spec_ok Try.func15 rfl rfl (by kernel_rfl) (k := 1) rfl (by decide) ?_
      repeat' (first|(with_reducible first|refine yrl (by constructor) ?_|refine jk (fun M hM=>?_)|(refine hM _ ?_;clear hM M)|refine xb3 (by decide) ?_|refine yqa (by assumption) ?_ ?_|refine yqb (by assumption) ?_ ?_)|((with_reducible refine je ?_)<;>(first|rfl|assumption|(simp only [znl,znTH];(first|done|fail))))|(with_reducible refine jf (by (simp only [↓reduceIte,zlk,Nat.reduceEqDiff,reduceCtorEq]);exact rfl) ?_)|((with_reducible first|refine jg (fun hc=>?_) (fun hc=>?_)|refine jh (fun hc=>?_) (fun hc=>?_))<;>(try simp (disch:=omega) only [zhb] at hc)<;>(try (exfalso;omega))<;>(try subst hc))|(with_reducible refine ji (by omega) ?_)|(simp (config := { maxSteps := 400000 }) only [↓jt,↓reduceIte,zvs,reduceCtorEq,seval,-List.reduceReplicate,tab,hd,Try.results15,jTA])|(simp (disch:=omega) only [ziw]))
      all_goals first
        | (exfalso; omega)
        | (simp only [zrds]; done)
    · rw [hno (by omega)]
      have hd : decide ((e.data.length : Int) > 600) = true := decide_eq_true (by omega)
      refine spec_ok Try.func15 rfl rfl (by kernel_rfl) (k := 1) rfl (by decide) ?_
      repeat' (first|(with_reducible first|refine yrl (by constructor) ?_|refine jk (fun M hM=>?_)|(refine hM _ ?_;clear hM M)|refine xb3 (by decide) ?_|refine yqa (by assumption) ?_ ?_|refine yqb (by assumption) ?_ ?_)|((with_reducible refine je ?_)<;>(first|rfl|assumption|(simp only [znl,znTH];(first|done|fail))))|(with_reducible refine jf (by (simp only [↓reduceIte,zlk,Nat.reduceEqDiff,reduceCtorEq]);exact rfl) ?_)|((with_reducible first|refine jg (fun hc=>?_) (fun hc=>?_)|refine jh (fun hc=>?_) (fun hc=>?_))<;>(try simp (disch:=omega) only [zhb] at hc)<;>(try (exfalso;omega))<;>(try subst hc))|(with_reducible refine ji (by omega) ?_)|(simp (config := { maxSteps := 400000 }) only [↓jt,↓reduceIte,zvs,reduceCtorEq,seval,-List.reduceReplicate,tab,hd,Try.results15,jTA])|(simp (disch:=omega) only [ziw]))
      all_goals first
        | (exfalso; omega)
        | (simp only [zrds]; done)
  · rw [hno (by omega)]
    have hd : (0 : Nat) = 0 := rfl
    refine spec_ok Try.func15 rfl rfl (by kernel_rfl) (k := 1) rfl (by decide) ?_
    repeat' (first|(with_reducible first|refine yrl (by constructor) ?_|refine jk (fun M hM=>?_)|(refine hM _ ?_;clear hM M)|refine xb3 (by decide) ?_|refine yqa (by assumption) ?_ ?_|refine yqb (by assumption) ?_ ?_)|((with_reducible refine je ?_)<;>(first|rfl|assumption|(simp only [znl,znTH];(first|done|fail))))|(with_reducible refine jf (by (simp only [↓reduceIte,zlk,Nat.reduceEqDiff,reduceCtorEq]);exact rfl) ?_)|((with_reducible first|refine jg (fun hc=>?_) (fun hc=>?_)|refine jh (fun hc=>?_) (fun hc=>?_))<;>(try simp (disch:=omega) only [zhb] at hc)<;>(try (exfalso;omega))<;>(try subst hc))|(with_reducible refine ji (by omega) ?_)|(simp (config := { maxSteps := 400000 }) only [↓jt,↓reduceIte,zvs,reduceCtorEq,seval,-List.reduceReplicate,tab,Try.results15,jTA])|(simp (disch:=omega) only [ziw]))
    all_goals first
      | (exfalso; omega)
      | (simp only [zrds]; done)
abbrev exeT : Ty := .fcons (.sl (.int .u32)) (.fcons .str (.fcons (.int .i64) (.fcons (.int .u32) .fnil)))
abbrev ExeD := List Int × List UInt8 × Int × Int × Unit
def mExe (x : ExeD) : Exe := ⟨x.1, x.2.1, x.2.2.1, x.2.2.2.1⟩
theorem toV_exe (x : ExeD) : toV exeT x = encExe (mExe x) := by
  have e : toV (.sl (.int .u32)) x.1 = encWords x.1 := by simp only [toV,tsh]; rfl
  show VV.agg [toV (.sl (.int .u32)) x.1, .str x.2.1, .int .i64 x.2.2.1, .int .u32 x.2.2.2.1] = _
  rw [e]; rfl
structure ExeG (e : Exe) : Prop where
  ws : e.ws.length ≤ 2 ^ 47
  wsR : ∀ x ∈ e.ws, u32R x
  data : e.data.length ≤ 2 ^ 47
  z : i64R e.z
  en : u32R e.en
theorem exe_good (x : ExeD) (g : good exeT x) (l : Ty.lite exeT x) : ExeG (mExe x) := by
  obtain ⟨g1, g2, g3, g4, _⟩ := g
  obtain ⟨l1, l2, l3, l4, _⟩ := l
  exact ⟨Nat.le_trans l1.1 mreach47, fun y hy => bounds_u32 (g1 y hy), Nat.le_trans l2 mreach47, bounds_i64 g3, bounds_u32 g4⟩
theorem exe_R {e : Exe} (h : ExeG e) (hs : seenE e) : ExeR e := by
  obtain ⟨h1, h2⟩ := hs
  exact ⟨by omega, h.wsR, by omega, h.z, h.en⟩
theorem spawnE_ok {m : Mach} {e : Exe} (h : spawnE m e = 0) : okE e ∧ m.pr.length < 8 ∧ (layE e).length ≤ (freeK m.pr m.fr.length).length := by
  unfold spawnE at h
  split at h
  · rename_i h1
    split at h
    · omega
    · split at h
      · omega
      · exact ⟨h1, by omega, by omega⟩
  · omega
theorem nl_encExe (e : Exe) : nl (encExe e) = true := by
  show (nls (e.ws.map (VV.int .u32)) && (true && (true && (true && true)))) = true
  rw [jT]; rfl
end Go.Proofs.Ytpdhdkpebbfnnaa.V
end
section
namespace Go.Proofs.Ytpdhdkpebbfnnaa.V
open Go
set_option maxRecDepth 100000
set_option maxHeartbeats 8000000
end Go.Proofs.Ytpdhdkpebbfnnaa.V
end
section
namespace Go.Proofs.Ytpdhdkpebbfnnaa.V
open Go
set_option maxRecDepth 100000
set_option maxHeartbeats 8000000
def kidP (par pid : Int) (p : Pr) : Prop := p.par = par ∧ (pid = 0 ∨ p.pid = pid)
instance (par pid : Int) (p : Pr) : Decidable (kidP par pid p) := by unfold kidP; infer_instance
def betP (l : List Pr) (p : Pr) : Option Nat → Prop
  | none => True
  | some c => p.pid < (l.getD c default).pid
instance (l : List Pr) (p : Pr) (o : Option Nat) : Decidable (betP l p o) := by unfold betP; cases o <;> infer_instance
end Go.Proofs.Ytpdhdkpebbfnnaa.V
end
section
namespace Go.Proofs.Ytpdhdkpebbfnnaa.V
open Go Go.RowKit Go.Proofs.Ytpdhdkpebbfnnaa
end Go.Proofs.Ytpdhdkpebbfnnaa.V
end
section
namespace Go.Proofs.Ytpdhdkpebbfnnaa.V
open Go Go.RowKit
set_option maxRecDepth 100000
end Go.Proofs.Ytpdhdkpebbfnnaa.V
end
section
namespace Go.Proofs.Ytpdhdkpebbfnnaa.V
open Go
set_option maxRecDepth 100000
set_option maxHeartbeats 8000000
end Go.Proofs.Ytpdhdkpebbfnnaa.V
end
section
namespace Go.Proofs.Ytpdhdkpebbfnnaa.V
open Go
set_option maxRecDepth 100000
set_option maxHeartbeats 8000000
theorem sweepM_fit {m : Mach} (h : MFit 20000 m) : MFit 20000 (sweepM m) :=
  ⟨h.clock, h.quantum, h.cur, h.left, h.fr, h.frS, h.pr, h.prR, h.next, h.init, Nat.le_trans (List.length_filter_le _ _) h.pipes, fun p hp => h.pipesR p (List.mem_filter.1 hp).1, h.newp, h.inp, h.told, h.bl, h.blS, h.pe, h.peS, h.dleft, h.dirty, h.dirtyS⟩
theorem dieM_fit {m : Mach} (hm : MFit 20000 m) (pid : Int) {code : Int} (hc : u32R code) : MFit 20000 (dieM m pid code) := by
  unfold dieM
  cases hf : findI m.pr pid with
  | none => exact hm
  | some i =>
    obtain ⟨hi, _⟩ := findI_some hf
    obtain ⟨h1, h2⟩ := dieL_fit hm hi pid hc
    dsimp only
    split
    · exact hm
    · refine sweepM_fit (prM_fit hm ?_ fun p hp => h2 p (List.mem_filter.1 hp).1)
      have := List.length_filter_le (stayB (dieL m i pid code)) (dieL m i pid code)
      have := hm.pr
      omega
end Go.Proofs.Ytpdhdkpebbfnnaa.V
end
section
namespace Go.Proofs.Ytpdhdkpebbfnnaa.V
open Go
set_option maxRecDepth 100000
theorem procs_each {m : Mach} (h : chkM m = 0) : ∀ p ∈ m.pr, procB m p = true := fun p hp => by
  obtain ⟨_, _, _, _, h5, _⟩ := chk_parts h
  obtain ⟨i, hi, rfl⟩ := List.mem_iff_getElem.1 hp
  have hq := (List.all_eq_true.1 h5) i (List.mem_range.2 hi)
  rw [Bool.and_eq_true] at hq
  have := hq.2
  rwa [List.getD_eq_getElem?_getD, List.getElem?_eq_getElem hi] at this
end Go.Proofs.Ytpdhdkpebbfnnaa.V
end
section
namespace Go.Proofs.Ytpdhdkpebbfnnaa.V
open Go
set_option maxRecDepth 100000
theorem livesB_mem {l : List Pr} {pid : Int} : livesB l pid = true ↔ ∃ p ∈ l, p.pid = pid ∧ livesP p = true := by
  unfold livesB
  rw [List.any_eq_true]
  constructor
  · rintro ⟨p, hp, h⟩
    rw [Bool.and_eq_true] at h
    exact ⟨p, hp, of_decide_eq_true h.1, h.2⟩
  · rintro ⟨p, hp, h1, h2⟩
    exact ⟨p, hp, by rw [decide_eq_true h1, h2]; rfl⟩
end Go.Proofs.Ytpdhdkpebbfnnaa.V
end
section
namespace Go.Proofs.Ytpdhdkpebbfnnaa.V
open Go
set_option maxRecDepth 100000
theorem find_none {l : List Pr} {pid : Int} : findI l pid = none ↔ ∀ p ∈ l, p.pid ≠ pid := by
  unfold findI
  rw [List.findIdx?_eq_none_iff]
  constructor
  · intro h p hp; simpa using h p hp
  · intro h p hp; simpa using h p hp
end Go.Proofs.Ytpdhdkpebbfnnaa.V
end
section
namespace Go.Proofs.Ytpdhdkpebbfnnaa.V
open Go
set_option maxRecDepth 100000
structure LaidOk (s : List Pte) (l : List Lay) : Prop where
  at0 : ∀ j, j < l.length → (l.getD j default).at_.toNat < s.length ∧ (s.getD (l.getD j default).at_.toNat default).is = false
  dis : ∀ i j, i < j → j < l.length → (l.getD i default).at_.toNat ≠ (l.getD j default).at_.toNat
end Go.Proofs.Ytpdhdkpebbfnnaa.V
end
section
namespace Go.Proofs.Ytpdhdkpebbfnnaa.V
open Go
set_option maxRecDepth 100000
end Go.Proofs.Ytpdhdkpebbfnnaa.V
end
section
namespace Go.Proofs.Ytpdhdkpebbfnnaa.V
open Go
set_option maxRecDepth 100000
def fdZ : Fdd := ⟨0, 0, 0⟩
end Go.Proofs.Ytpdhdkpebbfnnaa.V
end
section
namespace Go.Proofs.Ytpdhdkpebbfnnaa.V
open Go
set_option maxRecDepth 100000
set_option maxHeartbeats 8000000
end Go.Proofs.Ytpdhdkpebbfnnaa.V
end
section
namespace Go.Proofs.Ytpdhdkpebbfnnaa.V
open Go
set_option maxRecDepth 100000
set_option maxHeartbeats 8000000
end Go.Proofs.Ytpdhdkpebbfnnaa.V
end
section
namespace Go.Proofs.Ytpdhdkpebbfnnaa.V
open Go
set_option maxRecDepth 100000
end Go.Proofs.Ytpdhdkpebbfnnaa.V
end
section
namespace Go.Proofs.Ytpdhdkpebbfnnaa.V
open Go
set_option maxRecDepth 100000
set_option maxHeartbeats 4000000
end Go.Proofs.Ytpdhdkpebbfnnaa.V
end
section
namespace Go.Proofs.Ytpdhdkpebbfnnaa.V
open Go
set_option maxRecDepth 100000
set_option maxHeartbeats 4000000
end Go.Proofs.Ytpdhdkpebbfnnaa.V
end
section
namespace Go.Proofs.Ytpdhdkpebbfnnaa.V
open Go
set_option maxRecDepth 100000
set_option maxHeartbeats 8000000
end Go.Proofs.Ytpdhdkpebbfnnaa.V
end
section
namespace Go.Proofs.Ytpdhdkpebbfnnaa.V
open Go
set_option maxRecDepth 100000
set_option maxHeartbeats 4000000
end Go.Proofs.Ytpdhdkpebbfnnaa.V
end
section
namespace Go.Proofs.Ytpdhdkpebbfnnaa.V
open Go
set_option maxRecDepth 100000
set_option maxHeartbeats 4000000
end Go.Proofs.Ytpdhdkpebbfnnaa.V
end
section
namespace Go.Proofs.Ytpdhdkpebbfnnaa.V
open Go
set_option maxRecDepth 100000
set_option maxHeartbeats 4000000
end Go.Proofs.Ytpdhdkpebbfnnaa.V
end
section
namespace Go.Proofs.Ytpdhdkpebbfnnaa.V
open Go
set_option maxRecDepth 100000
set_option maxHeartbeats 4000000
end Go.Proofs.Ytpdhdkpebbfnnaa.V
end
section
namespace Go.Proofs.Ytpdhdkpebbfnnaa.V
open Go
set_option maxRecDepth 100000
set_option maxHeartbeats 8000000
def mayP (m : Mach) (a : Int) : Int := match findI m.pr a with
  | none => 0
  | some i => if (m.pr.getD i default).st = 3 then 0 else a
theorem mayP_R (m : Mach) {a : Int} (h : i64R a) : i64R (mayP m a) := by
  have z : i64R 0 := by unfold i64R; omega
  unfold mayP
  split
  · exact z
  · split
    · exact z
    · exact h
theorem fdZ_R : fdR fdZ := by
  have z : i64R 0 := by unfold i64R; omega
  exact ⟨z, z, z⟩
end Go.Proofs.Ytpdhdkpebbfnnaa.V
end
section
namespace Go.Proofs.Ytpdhdkpebbfnnaa.V
open Go
set_option maxRecDepth 100000
theorem getD_appL {α : Type} {l r : List α} {k : Nat} {d : α} (h : k < l.length) : (l ++ r).getD k d = l.getD k d := by
  rw [List.getD_eq_getElem?_getD, List.getD_eq_getElem?_getD, List.getElem?_append_left h]
theorem getD_mid {α : Type} {l r : List α} {x d : α} : (l ++ x :: r).getD l.length d = x := by
  rw [List.getD_eq_getElem?_getD, List.getElem?_append_right (Nat.le_refl _), Nat.sub_self]; rfl
theorem findI_mid {l r : List Pr} {q : Pr} {pid : Int} (hl : ∀ p ∈ l, p.pid ≠ pid) (hq : q.pid = pid) : findI (l ++ q :: r) pid = some l.length :=
  find_hit (by rw [List.length_append, List.length_cons]; omega) (fun j hj => by rw [getD_appL hj]; exact hl _ (getD_mem' hj)) (by rw [getD_mid]; exact hq)
theorem freeP_no {pid : Int} {p : Pr} (h : p.par ≠ pid) : freeP pid p = p := by unfold freeP; rw [if_neg h]
theorem freeP_all {pid : Int} {l : List Pr} (h : ∀ p ∈ l, p.par ≠ pid) : l.map (freeP pid) = l := by
  conv => rhs; rw [← List.map_id l]
  exact List.map_congr_left fun p hp => freeP_no (h p hp)
theorem die_mid {m : Mach} {l r : List Pr} {q : Pr} {pid : Int} (code : Int) (hm : m.pr = l ++ q :: r) (hq : q.pid = pid) (hl : ∀ p ∈ l, p.pid ≠ pid) (h3 : q.st ≠ 3) (hpar : ∀ p ∈ l ++ q :: r, p.par ≠ pid)
    (hst : ∀ p ∈ l ++ r, p.st = 3 → p.par ≠ 0 ∧ ∃ x ∈ l ++ q :: r, x.pid = p.par) :
    dieM m pid code = sweepM (prM m (l ++ ((if q.par ≠ 0 ∧ ∃ x ∈ l ++ q :: r, x.pid = q.par then [deadP q code] else []) ++ r))) := by
  have e0 : dieL m l.length pid code = l ++ deadP q code :: r := by
    unfold dieL
    rw [hm, getD_mid, List.set_append_right _ _ (Nat.le_refl _), Nat.sub_self, List.set_cons_zero]
    refine freeP_all fun p hp => ?_
    rcases List.mem_append.1 hp with h | h
    · exact hpar p (List.mem_append_left _ h)
    · rcases List.mem_cons.1 h with rfl | h
      · exact hpar q (List.mem_append_right _ (List.mem_cons_self ..))
      · exact hpar p (List.mem_append_right _ (List.mem_cons_of_mem _ h))
  have hfind : ∀ a : Int, (∃ x ∈ l ++ q :: r, x.pid = a) ↔ findI (l ++ deadP q code :: r) a ≠ none := fun a => by
    rw [Ne, find_none]
    constructor
    · rintro ⟨x, hx, hxa⟩ hn
      rcases List.mem_append.1 hx with h | h
      · exact hn x (List.mem_append_left _ h) hxa
      · rcases List.mem_cons.1 h with rfl | h
        · exact hn (deadP x code) (List.mem_append_right _ (List.mem_cons_self ..)) hxa
        · exact hn x (List.mem_append_right _ (List.mem_cons_of_mem _ h)) hxa
    · intro hn
      by_cases h : ∃ x ∈ l ++ deadP q code :: r, x.pid = a
      · obtain ⟨x, hx, hxa⟩ := h
        rcases List.mem_append.1 hx with h | h
        · exact ⟨x, List.mem_append_left _ h, hxa⟩
        · rcases List.mem_cons.1 h with rfl | h
          · exact ⟨q, List.mem_append_right _ (List.mem_cons_self ..), hxa⟩
          · exact ⟨x, List.mem_append_right _ (List.mem_cons_of_mem _ h), hxa⟩
      · exact absurd (fun p hp e => h ⟨p, hp, e⟩) hn
  have hstay : ∀ p ∈ l ++ r, stayB (l ++ deadP q code :: r) p = true := fun p hp => by
    by_cases hp3 : p.st = 3
    · obtain ⟨h0, hx⟩ := hst p hp hp3
      have := (hfind _).1 hx
      cases hf : findI (l ++ deadP q code :: r) p.par with
      | none => exact absurd hf this
      | some x => exact stay3 hp3 h0 hf
    · exact stay0 hp3
  have hfl : ∀ k : List Pr, (∀ p ∈ k, p ∈ l ++ r) → k.filter (stayB (l ++ deadP q code :: r)) = k := fun k hk => List.filter_eq_self.2 fun p hp => hstay p (hk p hp)
  unfold dieM
  rw [show findI m.pr pid = some l.length by rw [hm]; exact findI_mid hl hq]
  dsimp only
  rw [show m.pr.getD l.length default = q by rw [hm]; exact getD_mid, if_neg h3, e0, List.filter_append, List.filter_cons, hfl l (fun p hp => List.mem_append_left _ hp), hfl r (fun p hp => List.mem_append_right _ hp)]
  congr 2
  by_cases hc : q.par ≠ 0 ∧ ∃ x ∈ l ++ q :: r, x.pid = q.par
  · rw [if_pos hc]
    have := (hfind _).1 hc.2
    cases hf : findI (l ++ deadP q code :: r) q.par with
    | none => exact absurd hf this
    | some x => rw [if_pos (stay3 (p := deadP q code) rfl hc.1 hf)]; rfl
  · rw [if_neg hc]
    have : stayB (l ++ deadP q code :: r) (deadP q code) = false := by
      by_cases h0 : q.par = 0
      · exact stay1 rfl h0
      · refine stay2 rfl ?_
        cases hf : findI (l ++ deadP q code :: r) q.par with
        | none => exact hf
        | some x => exact absurd ⟨h0, (hfind q.par).2 (by rw [hf]; exact fun h => by cases h)⟩ hc
    rw [if_neg (by rw [this]; decide)]; rfl
structure Kin (m : Mach) : Prop where
  pid : ∀ p ∈ m.pr, 1 ≤ p.pid ∧ p.pid < m.next
  par : ∀ p ∈ m.pr, p.par < m.next
  dead : ∀ p ∈ m.pr, p.st = 3 → p.par ≠ 0 ∧ ∃ x ∈ m.pr, x.pid = p.par
  next : 1 ≤ m.next
theorem chk_kin {m : Mach} (h : chkM m = 0) : Kin m := by
  have hall := procs_each h
  obtain ⟨h1, _⟩ := chk_parts h
  have hn1 : 1 ≤ m.next ∧ m.next ≤ 1000000000 := by
    unfold numB at h1
    have := of_decide_eq_false h1
    omega
  have hpid : ∀ p ∈ m.pr, 1 ≤ p.pid ∧ p.pid < m.next := fun p hp => by
    have := hall p hp
    unfold procB at this
    rw [Bool.and_eq_true, Bool.and_eq_true] at this
    have := this.1.1
    unfold procH at this
    split at this
    · cases this
    · omega
  have hpar : ∀ p ∈ m.pr, (p.st = 3 ∨ p.par ≠ 0) → ∃ x ∈ m.pr, x.pid = p.par := fun p hp h0 => by
    have := hall p hp
    unfold procB at this
    rw [Bool.and_eq_true, Bool.and_eq_true] at this
    have := this.1.1
    unfold procH at this
    split at this
    · cases this
    split at this
    · cases this
    · rename_i a2
      cases hb : livesB m.pr p.par with
      | false => exact absurd ⟨hb, h0⟩ a2
      | true =>
        obtain ⟨x, hx, hx1, _⟩ := livesB_mem.1 hb
        exact ⟨x, hx, hx1⟩
  refine ⟨hpid, fun p hp => ?_, fun p hp h3 => ?_, hn1.1⟩
  · by_cases h0 : p.par = 0
    · omega
    · obtain ⟨x, hx, hx1⟩ := hpar p hp (.inr h0)
      have := hpid x hx
      omega
  · obtain ⟨x, hx, hx1⟩ := hpar p hp (.inl h3)
    have := hpid x hx
    exact ⟨by omega, x, hx, hx1⟩
end Go.Proofs.Ytpdhdkpebbfnnaa.V
end
section
namespace Go.Proofs.Ytpdhdkpebbfnnaa.V
open Go
set_option maxRecDepth 100000
set_option maxHeartbeats 8000000
def bornP (m : Mach) (e : Exe) (par : Int) (i o : Fdd) : Pr := tookP m (newPr m e par i o) (layE e)
theorem spawn_pr (m : Mach) (e : Exe) (par : Int) (i o : Fdd) : (spawnM m e par i o).pr = m.pr ++ [bornP m e par i o] := rfl
theorem spawn_frl (m : Mach) (e : Exe) (par : Int) (i o : Fdd) : (spawnM m e par i o).fr.length = m.fr.length := frK_len ..
end Go.Proofs.Ytpdhdkpebbfnnaa.V
end
section
namespace Go.Proofs.Ytpdhdkpebbfnnaa.V
open Go
set_option maxRecDepth 100000
set_option maxHeartbeats 8000000
theorem nls_i64 (l : List Int) : nls (l.map (VV.int .i64)) = true := by
  induction l with
  | nil => rfl
  | cons a l ih => rw [List.map_cons]; simp only [nls,nl,ih,Bool.and_self]
def fullK (m : Mach) (e : Exe) : Nat → Mach
  | 0 => m
  | k + 1 => spawnM (fullK m e k) e 0 fdZ fdZ
def newL (m : Mach) (e : Exe) : Nat → List Pr
  | 0 => []
  | k + 1 => newL m e k ++ [bornP (fullK m e k) e 0 fdZ fdZ]
def pidL (a : Int) (k : Nat) : List Int := (List.range k).map fun j : Nat => a + (j : Int)
theorem pidL_len (a : Int) (k : Nat) : (pidL a k).length = k := by unfold pidL; rw [List.length_map, List.length_range]
theorem pidL_at {a : Int} {k j : Nat} (h : j < k) : (pidL a k).getD j default = a + (j : Int) := by
  unfold pidL
  rw [List.getD_eq_getElem?_getD, List.getElem?_map, List.getElem?_range h]; rfl
theorem pidL_snoc (a : Int) (k : Nat) : pidL a (k + 1) = pidL a k ++ [a + (k : Int)] := by unfold pidL; rw [List.range_succ, List.map_append]; rfl
theorem full_pr (m : Mach) (e : Exe) : ∀ k, (fullK m e k).pr = m.pr ++ newL m e k
  | 0 => by rw [newL, List.append_nil]; rfl
  | k + 1 => by rw [fullK, spawn_pr, full_pr m e k, newL, List.append_assoc]
theorem full_fr (m : Mach) (e : Exe) : ∀ k, (fullK m e k).fr.length = m.fr.length
  | 0 => rfl
  | k + 1 => by rw [fullK, spawn_frl, full_fr m e k]
theorem full_next (m : Mach) (e : Exe) : ∀ k : Nat, (fullK m e k).next = m.next + (k : Int)
  | 0 => by show m.next = _; omega
  | k + 1 => by
    show (fullK m e k).next + 1 = _
    rw [full_next m e k]; omega
theorem newL_len (m : Mach) (e : Exe) : ∀ k, (newL m e k).length = k
  | 0 => rfl
  | k + 1 => by rw [newL, List.length_append, newL_len m e k, List.length_singleton]
theorem newL_each (m : Mach) (e : Exe) : ∀ k, ∀ p ∈ newL m e k, p.par = 0 ∧ p.st = 1 ∧ m.next ≤ p.pid
  | 0, p, hp => by cases hp
  | k + 1, p, hp => by
    rw [newL, List.mem_append, List.mem_singleton] at hp
    rcases hp with hp | rfl
    · exact newL_each m e k p hp
    · refine ⟨rfl, rfl, ?_⟩
      show m.next ≤ (fullK m e k).next
      rw [full_next]; omega
theorem newL_at (m : Mach) (e : Exe) : ∀ (k j : Nat), j < k → ((newL m e k).getD j default).pid = m.next + (j : Int)
  | k + 1, j, hj => by
    rw [newL]
    rcases Nat.lt_or_ge j k with h | h
    · rw [getD_appL (by rw [newL_len]; exact h)]
      exact newL_at m e k j h
    · obtain rfl : j = k := by omega
      have : (newL m e j ++ [bornP (fullK m e j) e 0 fdZ fdZ]).getD j default = bornP (fullK m e j) e 0 fdZ fdZ := by
        have h2 := getD_mid (l := newL m e j) (r := []) (x := bornP (fullK m e j) e 0 fdZ fdZ) (d := default)
        rwa [newL_len] at h2
      rw [this]
      show (fullK m e j).next = _
      rw [full_next]
def begun (m : Mach) (e : Exe) (k : Nat) : Prop := ∀ j, j < k → spawnE (fullK m e j) e = 0
theorem full_fit {m : Mach} {e : Exe} (hm : MFit 20000 m) (hs : seenM m) (he : ExeR e) : ∀ k, begun m e k → MFit 20000 (fullK m e k) ∧ m.pr.length + k ≤ 8
  | 0, _ => ⟨hm, by have := hs.1.2.1; omega⟩
  | k + 1, h => by
    obtain ⟨h1, h2⟩ := full_fit hm hs he k fun j hj => h j (by omega)
    obtain ⟨k1, k2, k3⟩ := spawnE_ok (h k (by omega))
    have hl : (fullK m e k).pr.length = m.pr.length + k := by rw [full_pr, List.length_append, newL_len]
    have hx := hs.2.2.1
    exact ⟨spawnM_fit h1 (by omega) (by rw [full_next]; omega) he k1 (by unfold i64R; omega) fdZ_R fdZ_R, by omega⟩
structure Ended (m : Mach) (e : Exe) (n j : Nat) (d : Mach) : Prop where
  fit : MFit 20000 d
  pr : d.pr = m.pr ++ (newL m e n).drop j
  fr : d.fr.length = m.fr.length
theorem ended_next {m : Mach} {e : Exe} {n j : Nat} {d : Mach} (hs : seenM m) (h : Ended m e n j d) (hj : j < n) : Ended m e n (j + 1) (dieM d (m.next + (j : Int)) 0) := by
  have hk := chk_kin hs.2.1
  obtain ⟨q, hq⟩ : ∃ q, q = (newL m e n).getD j default := ⟨_, rfl⟩
  have hjl : j < (newL m e n).length := by rw [newL_len]; exact hj
  have q1 : q.pid = m.next + (j : Int) := by rw [hq]; exact newL_at m e n j hj
  obtain ⟨q2, q3, _⟩ := newL_each m e n q (by rw [hq]; exact getD_mem' hjl)
  have hdr : (newL m e n).drop j = q :: (newL m e n).drop (j + 1) := by
    rw [List.drop_eq_getElem_cons hjl, hq, List.getD_eq_getElem?_getD, List.getElem?_eq_getElem hjl]; rfl
  have hpr : d.pr = m.pr ++ q :: (newL m e n).drop (j + 1) := by rw [h.pr, hdr]
  have hin : ∀ p ∈ q :: (newL m e n).drop (j + 1), p.par = 0 ∧ p.st = 1 := fun p hp => by
    rw [← hdr] at hp
    have := newL_each m e n p (List.mem_of_mem_drop hp)
    exact ⟨this.1, this.2.1⟩
  have hn0 := hk.next
  have hD := die_mid 0 hpr q1 (fun p hp => by have := hk.pid p hp; omega) (by omega) (fun p hp => by
    rcases List.mem_append.1 hp with hp | hp
    · have := hk.par p hp; omega
    · have := (hin p hp).1; omega) (fun p hp h3 => by
    rcases List.mem_append.1 hp with hp | hp
    · obtain ⟨d1, x, hx, hx1⟩ := hk.dead p hp h3
      exact ⟨d1, x, List.mem_append_left _ hx, hx1⟩
    · have := (hin p (List.mem_cons_of_mem _ hp)).2; omega)
  rw [if_neg fun hc => hc.1 q2, List.nil_append] at hD
  refine ⟨dieM_fit h.fit _ (by unfold u32R; omega), ?_, ?_⟩
  · rw [hD]; rfl
  · rw [hD]; exact h.fr
theorem full_law (x0 : MachD) (x1 : ExeD) (g0 : good machT x0) (g1 : good exeT x1) (l0 : Ty.lite machT x0) (l1 : Ty.lite exeT x1) :
    Spec Try.prog 4 [toV machT x0, toV exeT x1] (.bool true) := by
  have hm := mach_good x0 g0 l0
  have he := exe_good x1 g1 l1
  rw [toV_mach, toV_exe]
  generalize mMach x0 = m at hm
  generalize mExe x1 = e at he
  clear g0 g1 l0 l1 x0 x1
  have hA := palive_spec
  have hW := pwide_spec m hm
  have hG := pgreat_spec e he.ws he.data
  have hnl := nl_encM m
  have hnlE := nl_encExe e
  by_cases hs : seenM m ∧ seenE e
  · obtain ⟨hs1, hs2⟩ := hs
    rw [if_pos hs1] at hW
    rw [decide_eq_true hs2] at hG
    have hf := near_fit hm hs1.1
    have hR := exe_R he hs2
    have hx := hs1.2.2.1
    have hn1 := (chk_kin hs1.2.1).next
    have hml := hs1.1.2.1
    refine spec_ok Try.func4 rfl rfl (by kernel_rfl) (k := 2) rfl (by decide) ?_
    repeat' (first|(with_reducible first|refine yrl (by constructor) ?_|refine jk (fun M hM=>?_)|(refine hM _ ?_;clear hM M)|refine xb3 (by decide) ?_|refine yqa (by assumption) ?_ ?_|refine yqb (by assumption) ?_ ?_)|((with_reducible refine je ?_)<;>(first|rfl|assumption|(simp only [znl,jO,jP,jQ,jR,jS,jT,jU,nls_i64];(first|done|fail))))|(with_reducible refine jf (by (simp only [↓reduceIte,zlk,Nat.reduceEqDiff,reduceCtorEq]);exact rfl) ?_)|((with_reducible first|refine jg (fun hc=>?_) (fun hc=>?_)|refine jh (fun hc=>?_) (fun hc=>?_))<;>(try simp (disch:=omega) only [zhb] at hc)<;>(try (exfalso;omega))<;>(try subst hc))|(with_reducible refine ji (by omega) ?_)|(simp (config := { maxSteps := 400000 }) only [↓jt,↓reduceIte,zvs,reduceCtorEq,seval,-List.reduceReplicate,tab,hasFd1,Try.results4,jTA])|(simp (disch:=omega) only [ziw]))
    all_goals (try (exfalso; omega))
    refine ok_loop (fun k : Nat => ⟨slots [(2, .ptr 0 []), (3, .ptr 1 []), (5, .ptr 2 []), (6, .sl (some (3, [], 0)) k), (7, .int .i64 k)], rows [(0, .row machSh (encM m)), (1, .row (.st [.cell, .cell, .cell, .cell]) (encExe e)), (2, .row machSh (encM (fullK m e k))), (3, .row (.arr k .cell) (.agg ((pidL m.next k).map (VV.int .i64))))], 4⟩) (fun k => begun m e k) (fun k => 10 - k) 0 ?_ (fun j hj => by omega) (fun n hI => ?_)
    · (refine yrn [(0, 0), (1, 1), (2, 2)] false ?_ ?_<;>(repeat' (first|(with_reducible first|exact ya1|exact ya2|exact ya3|refine jx rfl (by first|rfl|assumption|(simp only [znl,jO,jP,jQ,jR,jS,jT,jU,nls_i64];(first|done|fail)))|exact ya5|exact ya7|exact jy|exact jz|refine jA ?_|refine ya9 ?_ ?_ ?_|refine jC rfl (by first|rfl|assumption|(simp only [znl,jO,jP,jQ,jR,jS,jT,jU,nls_i64];(first|done|fail)))|refine MR.agg (MRL.cons ?_ ?_)|refine MR.fn ?_|refine MRL.cons ?_ ?_|exact MRL.nil|refine jE ?_ ?_|exact jF|exact jG|refine yb1 ?_ ?_|refine MB.row ?_|refine jI ?_ ?_|exact ya8|refine jJ rfl (by first|rfl|assumption|(simp only [znl,jO,jP,jQ,jR,jS,jT,jU,nls_i64];(first|done|fail)))|refine yb2 ?_|rfl)|(simp only [znl,jO,jP,jQ,jR,jS,jT,jU,nls_i64];(first|done|fail))|(simp only [↓reduceIte,zlk,Nat.reduceEqDiff,reduceCtorEq])|(with_reducible first|refine jJ ?_ ?_|refine ya5 ?_|refine ju ?_|refine jv ?_|refine jw ?_|refine jx ?_ (by first|rfl|assumption|(simp only [znl,jO,jP,jQ,jR,jS,jT,jU,nls_i64];(first|done|fail)))|refine jC ?_ (by first|rfl|assumption|(simp only [znl,jO,jP,jQ,jR,jS,jT,jU,nls_i64];(first|done|fail)))))))
      all_goals (first | rfl)
    obtain ⟨hfk, hn8⟩ := full_fit hf hs1 hR n hI
    have hprl : (fullK m e n).pr.length = m.pr.length + n := by rw [full_pr, List.length_append, newL_len]
    have hnk := full_next m e n
    have hpl := pidL_len m.next n
    have hS := sspawn_spec (fullK m e n) hfk (by omega) e hR 0 (by unfold i64R; omega) fdZ fdZ fdZ_R fdZ_R
    have hnlA : nls [encM (fullK m e n), encExe e, VV.int .i64 0, encFd fdZ, encFd fdZ] = true := by
      show (nl (encM (fullK m e n)) && (nl (encExe e) && (true && (nl (encFd fdZ) && (nl (encFd fdZ) && true))))) = true
      rw [nl_encM, hnlE]; rfl
    simp only [fdZ,encFd] at hS hnlA
    unfold spawnVV at hS
    have hlt : n < 10 := by omega
    by_cases hE : spawnE (fullK m e n) e = 0
    · rw [if_pos hE] at hS
      have hI' : begun m e (n + 1) := fun j hj => by
        rcases Nat.lt_or_ge j n with h | h
        · exact hI j h
        · obtain rfl : j = n := by omega
          exact hE
      have hS : Spec Try.prog 16 [encM (fullK m e n), encExe e, VV.int .i64 0, VV.agg [VV.int .i64 0, VV.int .i64 0, VV.int .i64 0], VV.agg [VV.int .i64 0, VV.int .i64 0, VV.int .i64 0]] (.tup [encM (fullK m e (n + 1)), .int .i64 (fullK m e n).next, .int .i64 0]) := hS
      have hw : (pidL m.next n).map (VV.int .i64) ++ [VV.int .i64 (fullK m e n).next] = (pidL m.next (n + 1)).map (VV.int .i64) := by rw [hnk, pidL_snoc, List.map_append]; rfl
      obtain ⟨a', ha'⟩ : ∃ a', a' = fullK m e (n + 1) := ⟨_, rfl⟩
      rw [← ha'] at hS
      generalize fullK m e n = a at hS hnlA hw hprl ⊢
      repeat' (first|(with_reducible first|refine yrl (by constructor) ?_|refine jk (fun M hM=>?_)|(refine hM _ ?_;clear hM M)|refine xb3 (by decide) ?_|refine yqa (by assumption) ?_ ?_|refine yqb (by assumption) ?_ ?_)|((with_reducible refine je ?_)<;>(first|rfl|assumption|(simp only [znl,jO,jP,jQ,jR,jS,jT,jU,nls_i64];(first|done|fail))))|(with_reducible refine jf (by (simp only [↓reduceIte,zlk,Nat.reduceEqDiff,reduceCtorEq]);exact rfl) ?_)|((with_reducible first|refine jg (fun hc=>?_) (fun hc=>?_)|refine jh (fun hc=>?_) (fun hc=>?_))<;>(try simp (disch:=omega) only [zhb] at hc)<;>(try (exfalso;omega))<;>(try subst hc))|(with_reducible refine ji (by omega) ?_)|(simp (config := { maxSteps := 400000 }) only [↓jt,↓reduceIte,zvs,reduceCtorEq,seval,-List.reduceReplicate,tab,hasFd1,hpl,hw,Try.results4,jTA])|(simp (disch:=omega) only [ziw]))
      all_goals first
        | (exfalso; omega)
        | (refine xl1 (n + 1) ?_ hI' (by show 10 - (n + 1) < 10 - n; omega); (refine yrn [(0, 0), (1, 1), (2, 2), (3, 6)] false ?_ ?_<;>(repeat' (first|(with_reducible first|exact ya1|exact ya2|exact ya3|refine jx rfl (by first|rfl|assumption|(simp only [znl,jO,jP,jQ,jR,jS,jT,jU,nls_i64];(first|done|fail)))|exact ya5|exact ya7|exact jy|exact jz|refine jA ?_|refine ya9 ?_ ?_ ?_|refine jC rfl (by first|rfl|assumption|(simp only [znl,jO,jP,jQ,jR,jS,jT,jU,nls_i64];(first|done|fail)))|refine MR.agg (MRL.cons ?_ ?_)|refine MR.fn ?_|refine MRL.cons ?_ ?_|exact MRL.nil|refine jE ?_ ?_|exact jF|exact jG|refine yb1 ?_ ?_|refine MB.row ?_|refine jI ?_ ?_|exact ya8|refine jJ rfl (by first|rfl|assumption|(simp only [znl,jO,jP,jQ,jR,jS,jT,jU,nls_i64];(first|done|fail)))|refine yb2 ?_|rfl)|(simp only [znl,jO,jP,jQ,jR,jS,jT,jU,nls_i64];(first|done|fail))|(simp only [↓reduceIte,zlk,Nat.reduceEqDiff,reduceCtorEq])|(with_reducible first|refine jJ ?_ ?_|refine ya5 ?_|refine ju ?_|refine jv ?_|refine jw ?_|refine jx ?_ (by first|rfl|assumption|(simp only [znl,jO,jP,jQ,jR,jS,jT,jU,nls_i64];(first|done|fail)))|refine jC ?_ (by first|rfl|assumption|(simp only [znl,jO,jP,jQ,jR,jS,jT,jU,nls_i64];(first|done|fail))))))); all_goals (first | rfl | (rw [hw]; done) | (rw [ha']; done)))
    · rw [if_neg hE] at hS
      have h6 : spawnE (fullK m e n) e = 6 → m.pr.length + n = 8 := fun h => by
        unfold spawnE at h
        split at h
        · split at h
          · omega
          · split at h
            · omega
            · omega
        · omega
      generalize spawnE (fullK m e n) e = v at hS hE h6
      have hEn : Ended m e n 0 (fullK m e n) := ⟨hfk, by rw [full_pr]; rfl, full_fr m e n⟩
      generalize fullK m e n = a at hS hnlA hprl hEn ⊢
      have hat := fun (j : Nat) (hj : j < n) => pidL_at (a := m.next) hj
      generalize pidL m.next n = P at hpl hat ⊢
      repeat' (first|(with_reducible first|refine yrl (by constructor) ?_|refine jk (fun M hM=>?_)|(refine hM _ ?_;clear hM M)|refine xb3 (by decide) ?_|refine yqa (by assumption) ?_ ?_|refine yqb (by assumption) ?_ ?_)|((with_reducible refine je ?_)<;>(first|rfl|assumption|(simp only [znl,jO,jP,jQ,jR,jS,jT,jU,nls_i64];(first|done|fail))))|(with_reducible refine jf (by (simp only [↓reduceIte,zlk,Nat.reduceEqDiff,reduceCtorEq]);exact rfl) ?_)|((with_reducible first|refine jg (fun hc=>?_) (fun hc=>?_)|refine jh (fun hc=>?_) (fun hc=>?_))<;>(try simp (disch:=omega) only [zhb] at hc)<;>(try (exfalso;omega))<;>(try subst hc))|(with_reducible refine ji (by omega) ?_)|(simp (config := { maxSteps := 400000 }) only [↓jt,↓reduceIte,zvs,reduceCtorEq,seval,-List.reduceReplicate,tab,hasFd1,hpl,Try.results4,jTA])|(simp (disch:=omega) only [ziw]))
      all_goals (try (exfalso; omega))
      all_goals (
        refine ok_loop (fun i : Nat => ⟨slots [(2, .ptr 0 []), (5, .ptr 1 []), (6, .dat .cell (P.map (VV.int .i64))), (11, .int .i64 i)], rows [(0, .row machSh (encM m)), (1, .row machSh (encM a))], 2⟩) (fun i => i ≤ n) (fun i => n - i) 0 ?_ (Nat.zero_le _) (fun i hi => ?_)
        · (refine yrn [(0, 0), (1, 2)] true ?_ ?_<;>(repeat' (first|(with_reducible first|exact ya1|exact ya2|exact ya3|refine jx rfl (by first|rfl|assumption|(simp only [znl,jO,jP,jQ,jR,jS,jT,jU,nls_i64];(first|done|fail)))|exact ya5|exact ya7|exact jy|exact jz|refine jA ?_|refine ya9 ?_ ?_ ?_|refine jC rfl (by first|rfl|assumption|(simp only [znl,jO,jP,jQ,jR,jS,jT,jU,nls_i64];(first|done|fail)))|refine MR.agg (MRL.cons ?_ ?_)|refine MR.fn ?_|refine MRL.cons ?_ ?_|exact MRL.nil|refine jE ?_ ?_|exact jF|exact jG|refine yb1 ?_ ?_|refine MB.row ?_|refine jI ?_ ?_|exact ya8|refine jJ rfl (by first|rfl|assumption|(simp only [znl,jO,jP,jQ,jR,jS,jT,jU,nls_i64];(first|done|fail)))|refine yb2 ?_|rfl)|(simp only [znl,jO,jP,jQ,jR,jS,jT,jU,nls_i64];(first|done|fail))|(simp only [↓reduceIte,zlk,Nat.reduceEqDiff,reduceCtorEq])|(with_reducible first|refine jJ ?_ ?_|refine ya5 ?_|refine ju ?_|refine jv ?_|refine jw ?_|refine jx ?_ (by first|rfl|assumption|(simp only [znl,jO,jP,jQ,jR,jS,jT,jU,nls_i64];(first|done|fail)))|refine jC ?_ (by first|rfl|assumption|(simp only [znl,jO,jP,jQ,jR,jS,jT,jU,nls_i64];(first|done|fail)))))))
          all_goals (first | rfl | (rw [List.length_map, hpl]; done) | (simp; done))
        by_cases hlti : i < n
        · have h1 := hat i hlti
          repeat' (first|(with_reducible first|refine yrl (by constructor) ?_|refine jk (fun M hM=>?_)|(refine hM _ ?_;clear hM M)|refine xb3 (by decide) ?_|refine yqa (by assumption) ?_ ?_|refine yqb (by assumption) ?_ ?_)|((with_reducible refine je ?_)<;>(first|rfl|assumption|(simp only [znl,jO,jP,jQ,jR,jS,jT,jU,nls_i64];(first|done|fail))))|(with_reducible refine jf (by (simp only [↓reduceIte,zlk,Nat.reduceEqDiff,reduceCtorEq]);exact rfl) ?_)|((with_reducible first|refine jg (fun hc=>?_) (fun hc=>?_)|refine jh (fun hc=>?_) (fun hc=>?_))<;>(try simp (disch:=omega) only [zhb] at hc)<;>(try (exfalso;omega))<;>(try subst hc))|(with_reducible refine ji (by omega) ?_)|(simp (config := { maxSteps := 400000 }) only [↓jt,↓reduceIte,zvs,reduceCtorEq,seval,-List.reduceReplicate,tab,hpl,Try.results4,jTA])|(simp (disch:=omega) only [ziw]))
          all_goals (try (exfalso; omega))
          refine ok_loop (fun k : Nat => ⟨slots [(2, .ptr 0 []), (5, .ptr 1 []), (6, .dat .cell (P.map (VV.int .i64))), (11, .int .i64 i), (12, .int .i64 k)], rows [(0, .row machSh (encM m)), (1, .row machSh (encM a))], 2⟩) (fun k => k ≤ i) (fun k => i - k) 0 ?_ (Nat.zero_le _) (fun k hk => ?_)
          · (refine yrn [(0, 0), (1, 1)] false ?_ ?_<;>(repeat' (first|(with_reducible first|exact ya1|exact ya2|exact ya3|refine jx rfl (by first|rfl|assumption|(simp only [znl,jO,jP,jQ,jR,jS,jT,jU,nls_i64];(first|done|fail)))|exact ya5|exact ya7|exact jy|exact jz|refine jA ?_|refine ya9 ?_ ?_ ?_|refine jC rfl (by first|rfl|assumption|(simp only [znl,jO,jP,jQ,jR,jS,jT,jU,nls_i64];(first|done|fail)))|refine MR.agg (MRL.cons ?_ ?_)|refine MR.fn ?_|refine MRL.cons ?_ ?_|exact MRL.nil|refine jE ?_ ?_|exact jF|exact jG|refine yb1 ?_ ?_|refine MB.row ?_|refine jI ?_ ?_|exact ya8|refine jJ rfl (by first|rfl|assumption|(simp only [znl,jO,jP,jQ,jR,jS,jT,jU,nls_i64];(first|done|fail)))|refine yb2 ?_|rfl)|(simp only [znl,jO,jP,jQ,jR,jS,jT,jU,nls_i64];(first|done|fail))|(simp only [↓reduceIte,zlk,Nat.reduceEqDiff,reduceCtorEq])|(with_reducible first|refine jJ ?_ ?_|refine ya5 ?_|refine ju ?_|refine jv ?_|refine jw ?_|refine jx ?_ (by first|rfl|assumption|(simp only [znl,jO,jP,jQ,jR,jS,jT,jU,nls_i64];(first|done|fail)))|refine jC ?_ (by first|rfl|assumption|(simp only [znl,jO,jP,jQ,jR,jS,jT,jU,nls_i64];(first|done|fail)))))))
            all_goals (first | rfl)
          by_cases hltk : k < i
          · have h2 := hat k (by omega)
            repeat' (first|(with_reducible first|refine yrl (by constructor) ?_|refine jk (fun M hM=>?_)|(refine hM _ ?_;clear hM M)|refine xb3 (by decide) ?_|refine yqa (by assumption) ?_ ?_|refine yqb (by assumption) ?_ ?_)|((with_reducible refine je ?_)<;>(first|rfl|assumption|(simp only [znl,jO,jP,jQ,jR,jS,jT,jU,nls_i64];(first|done|fail))))|(with_reducible refine jf (by (simp only [↓reduceIte,zlk,Nat.reduceEqDiff,reduceCtorEq]);exact rfl) ?_)|((with_reducible first|refine jg (fun hc=>?_) (fun hc=>?_)|refine jh (fun hc=>?_) (fun hc=>?_))<;>(try simp (disch:=omega) only [zhb] at hc)<;>(try (exfalso;omega))<;>(try subst hc))|(with_reducible refine ji (by omega) ?_)|(simp (config := { maxSteps := 400000 }) only [↓jt,↓reduceIte,zvs,reduceCtorEq,seval,-List.reduceReplicate,tab,hpl,Try.results4,jTA])|(simp (disch:=omega) only [ziw]))
            all_goals (try (exfalso; omega))
            refine ok_drawC 9 (by kernel_rfl) (by decide +kernel) (by intro m hm; simp only [upd_ap,rows_cons,rows_nil]; (repeat (first | rfl | rw [if_neg (by omega)]))) (fun M hM => ?_); simp only [List.take_succ_cons,List.take_zero,List.drop_succ_cons,List.drop_zero]
            repeat' (first|(with_reducible first|refine yrl (by constructor) ?_|refine jk (fun M hM=>?_)|(refine hM _ ?_;clear hM M)|refine xb3 (by decide) ?_|refine yqa (by assumption) ?_ ?_|refine yqb (by assumption) ?_ ?_)|((with_reducible refine je ?_)<;>(first|rfl|assumption|(simp only [znl,jO,jP,jQ,jR,jS,jT,jU,nls_i64];(first|done|fail))))|(with_reducible refine jf (by (simp only [↓reduceIte,zlk,Nat.reduceEqDiff,reduceCtorEq]);exact rfl) ?_)|((with_reducible first|refine jg (fun hc=>?_) (fun hc=>?_)|refine jh (fun hc=>?_) (fun hc=>?_))<;>(try simp (disch:=omega) only [zhb] at hc)<;>(try (exfalso;omega))<;>(try subst hc))|(with_reducible refine ji (by omega) ?_)|(simp (config := { maxSteps := 400000 }) only [↓jt,↓reduceIte,zvs,reduceCtorEq,seval,-List.reduceReplicate,tab,hpl,Try.results4,jTA])|(simp (disch:=omega) only [ziw]))
            all_goals first
              | (exfalso; omega)
              | (refine xl1 (k + 1) ?_ (by show k + 1 ≤ i; omega) (by show i - (k + 1) < i - k; omega); (refine yrn [(0, 0), (1, 1)] false ?_ ?_<;>(repeat' (first|(with_reducible first|exact ya1|exact ya2|exact ya3|refine jx rfl (by first|rfl|assumption|(simp only [znl,jO,jP,jQ,jR,jS,jT,jU,nls_i64];(first|done|fail)))|exact ya5|exact ya7|exact jy|exact jz|refine jA ?_|refine ya9 ?_ ?_ ?_|refine jC rfl (by first|rfl|assumption|(simp only [znl,jO,jP,jQ,jR,jS,jT,jU,nls_i64];(first|done|fail)))|refine MR.agg (MRL.cons ?_ ?_)|refine MR.fn ?_|refine MRL.cons ?_ ?_|exact MRL.nil|refine jE ?_ ?_|exact jF|exact jG|refine yb1 ?_ ?_|refine MB.row ?_|refine jI ?_ ?_|exact ya8|refine jJ rfl (by first|rfl|assumption|(simp only [znl,jO,jP,jQ,jR,jS,jT,jU,nls_i64];(first|done|fail)))|refine yb2 ?_|rfl)|(simp only [znl,jO,jP,jQ,jR,jS,jT,jU,nls_i64];(first|done|fail))|(simp only [↓reduceIte,zlk,Nat.reduceEqDiff,reduceCtorEq])|(with_reducible first|refine jJ ?_ ?_|refine ya5 ?_|refine ju ?_|refine jv ?_|refine jw ?_|refine jx ?_ (by first|rfl|assumption|(simp only [znl,jO,jP,jQ,jR,jS,jT,jU,nls_i64];(first|done|fail)))|refine jC ?_ (by first|rfl|assumption|(simp only [znl,jO,jP,jQ,jR,jS,jT,jU,nls_i64];(first|done|fail))))))); all_goals (first | rfl); done)
          · obtain rfl : k = i := by omega
            repeat' (first|(with_reducible first|refine yrl (by constructor) ?_|refine jk (fun M hM=>?_)|(refine hM _ ?_;clear hM M)|refine xb3 (by decide) ?_|refine yqa (by assumption) ?_ ?_|refine yqb (by assumption) ?_ ?_)|((with_reducible refine je ?_)<;>(first|rfl|assumption|(simp only [znl,jO,jP,jQ,jR,jS,jT,jU,nls_i64];(first|done|fail))))|(with_reducible refine jf (by (simp only [↓reduceIte,zlk,Nat.reduceEqDiff,reduceCtorEq]);exact rfl) ?_)|((with_reducible first|refine jg (fun hc=>?_) (fun hc=>?_)|refine jh (fun hc=>?_) (fun hc=>?_))<;>(try simp (disch:=omega) only [zhb] at hc)<;>(try (exfalso;omega))<;>(try subst hc))|(with_reducible refine ji (by omega) ?_)|(simp (config := { maxSteps := 400000 }) only [↓jt,↓reduceIte,zvs,reduceCtorEq,seval,-List.reduceReplicate,tab,hpl,Try.results4,jTA])|(simp (disch:=omega) only [ziw]))
            all_goals first
              | (exfalso; omega)
              | (refine xl1 (k + 1) ?_ (by show k + 1 ≤ n; omega) (by show n - (k + 1) < n - k; omega); (refine yrn [(0, 0), (1, 1)] false ?_ ?_<;>(repeat' (first|(with_reducible first|exact ya1|exact ya2|exact ya3|refine jx rfl (by first|rfl|assumption|(simp only [znl,jO,jP,jQ,jR,jS,jT,jU,nls_i64];(first|done|fail)))|exact ya5|exact ya7|exact jy|exact jz|refine jA ?_|refine ya9 ?_ ?_ ?_|refine jC rfl (by first|rfl|assumption|(simp only [znl,jO,jP,jQ,jR,jS,jT,jU,nls_i64];(first|done|fail)))|refine MR.agg (MRL.cons ?_ ?_)|refine MR.fn ?_|refine MRL.cons ?_ ?_|exact MRL.nil|refine jE ?_ ?_|exact jF|exact jG|refine yb1 ?_ ?_|refine MB.row ?_|refine jI ?_ ?_|exact ya8|refine jJ rfl (by first|rfl|assumption|(simp only [znl,jO,jP,jQ,jR,jS,jT,jU,nls_i64];(first|done|fail)))|refine yb2 ?_|rfl)|(simp only [znl,jO,jP,jQ,jR,jS,jT,jU,nls_i64];(first|done|fail))|(simp only [↓reduceIte,zlk,Nat.reduceEqDiff,reduceCtorEq])|(with_reducible first|refine jJ ?_ ?_|refine ya5 ?_|refine ju ?_|refine jv ?_|refine jw ?_|refine jx ?_ (by first|rfl|assumption|(simp only [znl,jO,jP,jQ,jR,jS,jT,jU,nls_i64];(first|done|fail)))|refine jC ?_ (by first|rfl|assumption|(simp only [znl,jO,jP,jQ,jR,jS,jT,jU,nls_i64];(first|done|fail))))))); all_goals (first | rfl); done)
        obtain rfl : i = n := by omega
        clear hi hlti
        repeat' (first|(with_reducible first|refine yrl (by constructor) ?_|refine jk (fun M hM=>?_)|(refine hM _ ?_;clear hM M)|refine xb3 (by decide) ?_|refine yqa (by assumption) ?_ ?_|refine yqb (by assumption) ?_ ?_)|((with_reducible refine je ?_)<;>(first|rfl|assumption|(simp only [znl,jO,jP,jQ,jR,jS,jT,jU,nls_i64];(first|done|fail))))|(with_reducible refine jf (by (simp only [↓reduceIte,zlk,Nat.reduceEqDiff,reduceCtorEq]);exact rfl) ?_)|((with_reducible first|refine jg (fun hc=>?_) (fun hc=>?_)|refine jh (fun hc=>?_) (fun hc=>?_))<;>(try simp (disch:=omega) only [zhb] at hc)<;>(try (exfalso;omega))<;>(try subst hc))|(with_reducible refine ji (by omega) ?_)|(simp (config := { maxSteps := 400000 }) only [↓jt,↓reduceIte,zvs,reduceCtorEq,seval,-List.reduceReplicate,tab,hpl,Try.results4,jTA])|(simp (disch:=omega) only [ziw]))
        all_goals (try (exfalso; omega))
        refine ok_loop (fun x : Nat × Mach => ⟨slots [(2, .ptr 0 []), (5, .ptr 1 []), (6, .dat .cell (P.map (VV.int .i64))), (13, .int .i64 x.1)], rows [(0, .row machSh (encM m)), (1, .row machSh (encM x.2))], 2⟩) (fun x => x.1 ≤ i ∧ Ended m e i x.1 x.2) (fun x => i - x.1) (0, a) ?_ ⟨Nat.zero_le _, hEn⟩ (fun x hx => ?_)
        · (refine yrn [(0, 0), (1, 1)] false ?_ ?_<;>(repeat' (first|(with_reducible first|exact ya1|exact ya2|exact ya3|refine jx rfl (by first|rfl|assumption|(simp only [znl,jO,jP,jQ,jR,jS,jT,jU,nls_i64];(first|done|fail)))|exact ya5|exact ya7|exact jy|exact jz|refine jA ?_|refine ya9 ?_ ?_ ?_|refine jC rfl (by first|rfl|assumption|(simp only [znl,jO,jP,jQ,jR,jS,jT,jU,nls_i64];(first|done|fail)))|refine MR.agg (MRL.cons ?_ ?_)|refine MR.fn ?_|refine MRL.cons ?_ ?_|exact MRL.nil|refine jE ?_ ?_|exact jF|exact jG|refine yb1 ?_ ?_|refine MB.row ?_|refine jI ?_ ?_|exact ya8|refine jJ rfl (by first|rfl|assumption|(simp only [znl,jO,jP,jQ,jR,jS,jT,jU,nls_i64];(first|done|fail)))|refine yb2 ?_|rfl)|(simp only [znl,jO,jP,jQ,jR,jS,jT,jU,nls_i64];(first|done|fail))|(simp only [↓reduceIte,zlk,Nat.reduceEqDiff,reduceCtorEq])|(with_reducible first|refine jJ ?_ ?_|refine ya5 ?_|refine ju ?_|refine jv ?_|refine jw ?_|refine jx ?_ (by first|rfl|assumption|(simp only [znl,jO,jP,jQ,jR,jS,jT,jU,nls_i64];(first|done|fail)))|refine jC ?_ (by first|rfl|assumption|(simp only [znl,jO,jP,jQ,jR,jS,jT,jU,nls_i64];(first|done|fail)))))))
          all_goals (first | rfl)
        obtain ⟨j, d⟩ := x
        obtain ⟨hj, hd⟩ := hx
        dsimp only at hj hd ⊢
        have hnd := nl_encM d
        by_cases hltj : j < i
        · have h1 := hat j hltj
          have hd' := ended_next hs1 hd hltj
          rw [← h1] at hd'
          have hD := sdie_spec d hd.fit (P.getD j default) (by rw [h1]; unfold i64R; omega) 0 (by unfold u32R; omega)
          generalize dieM d (P.getD j default) 0 = d' at hD hd'
          repeat' (first|(with_reducible first|refine yrl (by constructor) ?_|refine jk (fun M hM=>?_)|(refine hM _ ?_;clear hM M)|refine xb3 (by decide) ?_|refine yqa (by assumption) ?_ ?_|refine yqb (by assumption) ?_ ?_)|((with_reducible refine je ?_)<;>(first|rfl|assumption|(simp only [znl,jO,jP,jQ,jR,jS,jT,jU,nls_i64];(first|done|fail))))|(with_reducible refine jf (by (simp only [↓reduceIte,zlk,Nat.reduceEqDiff,reduceCtorEq]);exact rfl) ?_)|((with_reducible first|refine jg (fun hc=>?_) (fun hc=>?_)|refine jh (fun hc=>?_) (fun hc=>?_))<;>(try simp (disch:=omega) only [zhb] at hc)<;>(try (exfalso;omega))<;>(try subst hc))|(with_reducible refine ji (by omega) ?_)|(simp (config := { maxSteps := 400000 }) only [↓jt,↓reduceIte,zvs,reduceCtorEq,seval,-List.reduceReplicate,tab,hpl,Try.results4,jTA])|(simp (disch:=omega) only [ziw]))
          all_goals (try (exfalso; omega))
          refine ok_drawC 6 (by kernel_rfl) (by decide +kernel) (by intro m hm; simp only [upd_ap,rows_cons,rows_nil]; (repeat (first | rfl | rw [if_neg (by omega)]))) (fun M hM => ?_); simp only [List.take_succ_cons,List.take_zero,List.drop_succ_cons,List.drop_zero]
          repeat' (first|(with_reducible first|refine yrl (by constructor) ?_|refine jk (fun M hM=>?_)|(refine hM _ ?_;clear hM M)|refine xb3 (by decide) ?_|refine yqa (by assumption) ?_ ?_|refine yqb (by assumption) ?_ ?_)|((with_reducible refine je ?_)<;>(first|rfl|assumption|(simp only [znl,jO,jP,jQ,jR,jS,jT,jU,nls_i64];(first|done|fail))))|(with_reducible refine jf (by (simp only [↓reduceIte,zlk,Nat.reduceEqDiff,reduceCtorEq]);exact rfl) ?_)|((with_reducible first|refine jg (fun hc=>?_) (fun hc=>?_)|refine jh (fun hc=>?_) (fun hc=>?_))<;>(try simp (disch:=omega) only [zhb] at hc)<;>(try (exfalso;omega))<;>(try subst hc))|(with_reducible refine ji (by omega) ?_)|(simp (config := { maxSteps := 400000 }) only [↓jt,↓reduceIte,zvs,reduceCtorEq,seval,-List.reduceReplicate,tab,hpl,Try.results4,jTA])|(simp (disch:=omega) only [ziw]))
          all_goals first
            | (exfalso; omega)
            | (refine xl1 (j + 1, d') ?_ ⟨by show j + 1 ≤ i; omega, hd'⟩ (by show i - (j + 1) < i - j; omega); (refine yrn [(0, 0), (1, 1)] false ?_ ?_<;>(repeat' (first|(with_reducible first|exact ya1|exact ya2|exact ya3|refine jx rfl (by first|rfl|assumption|(simp only [znl,jO,jP,jQ,jR,jS,jT,jU,nls_i64];(first|done|fail)))|exact ya5|exact ya7|exact jy|exact jz|refine jA ?_|refine ya9 ?_ ?_ ?_|refine jC rfl (by first|rfl|assumption|(simp only [znl,jO,jP,jQ,jR,jS,jT,jU,nls_i64];(first|done|fail)))|refine MR.agg (MRL.cons ?_ ?_)|refine MR.fn ?_|refine MRL.cons ?_ ?_|exact MRL.nil|refine jE ?_ ?_|exact jF|exact jG|refine yb1 ?_ ?_|refine MB.row ?_|refine jI ?_ ?_|exact ya8|refine jJ rfl (by first|rfl|assumption|(simp only [znl,jO,jP,jQ,jR,jS,jT,jU,nls_i64];(first|done|fail)))|refine yb2 ?_|rfl)|(simp only [znl,jO,jP,jQ,jR,jS,jT,jU,nls_i64];(first|done|fail))|(simp only [↓reduceIte,zlk,Nat.reduceEqDiff,reduceCtorEq])|(with_reducible first|refine jJ ?_ ?_|refine ya5 ?_|refine ju ?_|refine jv ?_|refine jw ?_|refine jx ?_ (by first|rfl|assumption|(simp only [znl,jO,jP,jQ,jR,jS,jT,jU,nls_i64];(first|done|fail)))|refine jC ?_ (by first|rfl|assumption|(simp only [znl,jO,jP,jQ,jR,jS,jT,jU,nls_i64];(first|done|fail))))))); all_goals (first | rfl); done)
        · obtain rfl : j = i := by omega
          have k6 : d.pr = m.pr := by rw [hd.pr, List.drop_eq_nil_of_le (by rw [newL_len]; omega), List.append_nil]
          have hF1 := sfree_spec d hd.fit
          have hF2 := sfree_spec m hf
          have hSP := procs_same m.pr hf.pr hf.prR
          unfold freeV at hF1 hF2
          rw [k6, hd.fr] at hF1
          have hFl := freeK_le m.pr m.fr.length
          have hfl := hf.fr
          generalize freeK m.pr m.fr.length = F at hF1 hF2 hFl
          have hSP : Spec Try.prog 21 [encPrs d.pr, encPrs m.pr] (.bool true) := by rw [k6]; exact hSP
          repeat' (first|(with_reducible first|refine yrl (by constructor) ?_|refine jk (fun M hM=>?_)|(refine hM _ ?_;clear hM M)|refine xb3 (by decide) ?_|refine yqa (by assumption) ?_ ?_|refine yqb (by assumption) ?_ ?_)|((with_reducible refine je ?_)<;>(first|rfl|assumption|(simp only [znl,jO,jP,jQ,jR,jS,jT,jU,nls_i64];(first|done|fail))))|(with_reducible refine jf (by (simp only [↓reduceIte,zlk,Nat.reduceEqDiff,reduceCtorEq]);exact rfl) ?_)|((with_reducible first|refine jg (fun hc=>?_) (fun hc=>?_)|refine jh (fun hc=>?_) (fun hc=>?_))<;>(try simp (disch:=omega) only [zhb] at hc)<;>(try (exfalso;omega))<;>(try subst hc))|(with_reducible refine ji (by omega) ?_)|(simp (config := { maxSteps := 400000 }) only [↓jt,↓reduceIte,zvs,reduceCtorEq,seval,-List.reduceReplicate,tab,hpl,encNats,Try.results4,jTA])|(simp (disch:=omega) only [ziw]))
          all_goals (try (exfalso; omega))
          refine ok_drawC 15 (by kernel_rfl) (by decide +kernel) (by intro m hm; simp only [upd_ap,rows_cons,rows_nil]; (repeat (first | rfl | rw [if_neg (by omega)]))) (fun M hM => ?_); simp only [List.take_succ_cons,List.take_zero,List.drop_succ_cons,List.drop_zero]
          repeat' (first|(with_reducible first|refine yrl (by constructor) ?_|refine jk (fun M hM=>?_)|(refine hM _ ?_;clear hM M)|refine xb3 (by decide) ?_|refine yqa (by assumption) ?_ ?_|refine yqb (by assumption) ?_ ?_)|((with_reducible refine je ?_)<;>(first|rfl|assumption|(simp only [znl,jO,jP,jQ,jR,jS,jT,jU,nls_i64];(first|done|fail))))|(with_reducible refine jf (by (simp only [↓reduceIte,zlk,Nat.reduceEqDiff,reduceCtorEq]);exact rfl) ?_)|((with_reducible first|refine jg (fun hc=>?_) (fun hc=>?_)|refine jh (fun hc=>?_) (fun hc=>?_))<;>(try simp (disch:=omega) only [zhb] at hc)<;>(try (exfalso;omega))<;>(try subst hc))|(with_reducible refine ji (by omega) ?_)|(simp (config := { maxSteps := 400000 }) only [↓jt,↓reduceIte,zvs,reduceCtorEq,seval,-List.reduceReplicate,tab,hpl,encNats,Try.results4,jTA])|(simp (disch:=omega) only [ziw]))
          all_goals first
            | (exfalso; omega)
            | (simp only [zrds]; done)
           )
  · obtain ⟨w, hw⟩ : ∃ w : Int, w = if seenM m then 0 else 1 := ⟨_, rfl⟩
    obtain ⟨b, hb⟩ : ∃ b : Bool, b = !decide (seenE e) := ⟨_, rfl⟩
    have hor : w = 1 ∨ (w = 0 ∧ b = true) := by
      by_cases h1 : seenM m
      · have h2 : ¬seenE e := fun h => hs ⟨h1, h⟩
        exact .inr ⟨by rw [hw, if_pos h1], by rw [hb, decide_eq_false h2]; rfl⟩
      · exact .inl (by rw [hw, if_neg h1])
    rw [← hw] at hW
    rw [← hb] at hG
    clear hw hb
    rcases hor with rfl | ⟨rfl, rfl⟩ <;> (
      refine spec_ok Try.func4 rfl rfl (by kernel_rfl) (k := 2) rfl (by decide) ?_
      repeat' (first|(with_reducible first|refine yrl (by constructor) ?_|refine jk (fun M hM=>?_)|(refine hM _ ?_;clear hM M)|refine xb3 (by decide) ?_|refine yqa (by assumption) ?_ ?_|refine yqb (by assumption) ?_ ?_)|((with_reducible refine je ?_)<;>(first|rfl|assumption|(simp only [znl,jO,jP,jQ,jR,jS,jT,jU,nls_i64];(first|done|fail))))|(with_reducible refine jf (by (simp only [↓reduceIte,zlk,Nat.reduceEqDiff,reduceCtorEq]);exact rfl) ?_)|((with_reducible first|refine jg (fun hc=>?_) (fun hc=>?_)|refine jh (fun hc=>?_) (fun hc=>?_))<;>(try simp (disch:=omega) only [zhb] at hc)<;>(try (exfalso;omega))<;>(try subst hc))|(with_reducible refine ji (by omega) ?_)|(simp (config := { maxSteps := 400000 }) only [↓jt,↓reduceIte,zvs,reduceCtorEq,seval,-List.reduceReplicate,tab,hasFd1,Try.results4,jTA])|(simp (disch:=omega) only [ziw]))
      all_goals first
        | (exfalso; omega)
        | (simp only [zrds]; done)
       )
end Go.Proofs.Ytpdhdkpebbfnnaa.V
end
