/-
  Parts of the proof of StateFrames: NC, D2, N9, ND, N5, N6, N7, VregX, VregY, VregS, NE, NH, NF, NG, VregZ, NI, NK, NQ.
  Conditions: none.
-/
import Derived.Test.YtpdhdkpebbfnnaaWStateFrames05
import Derived.Test.YtpdhdkpebbfnnaaWStateFrames04
set_option linter.unusedVariables false
set_option linter.unusedSimpArgs false
set_option linter.unusedSectionVars false
set_option linter.defProp false
section
namespace Go.Proofs.Ytpdhdkpebbfnnaa.V
open Go
set_option maxRecDepth 100000
def znNC := And.intro @jO <| And.intro @jP <| And.intro @jQ <| And.intro @jR <| And.intro @jS <| And.intro @jT <| And.intro @jU <| True.intro
set_option maxHeartbeats 4000000
def bl1 (L Z : List UInt8) (j : Nat) : List VV := (L :: List.replicate j Z).map .str
def bl2 (L Z w : List UInt8) : List VV := (L :: Z :: w :: List.replicate 21 Z).map .str
theorem bl1_succ (L Z : List UInt8) (j : Nat) : bl1 L Z j ++ [.str Z] = bl1 L Z (j + 1) := by simp [bl1, List.replicate_succ']
theorem bl1_len (L Z : List UInt8) (j : Nat) : (bl1 L Z j).length = j + 1 := by simp [bl1]
theorem bl2_len (L Z w : List UInt8) : (bl2 L Z w).length = 24 := by simp [bl2]
theorem bl1_2 (L Z : List UInt8) : bl1 L Z 23 = bl2 L Z Z := rfl
theorem bl2_at (L Z w : List UInt8) : (bl2 L Z w)[2]? = some (.str w) := rfl
theorem bl2_set (L Z w x : List UInt8) : (bl2 L Z w).set 2 (.str x) = bl2 L Z x := rfl
theorem bl1_nl (L Z : List UInt8) (j : Nat) : nls (bl1 L Z j) = true := nls_mapStr _
theorem bl2_nl (L Z w : List UInt8) : nls (bl2 L Z w) = true := nls_mapStr _
def bitsT (k : Nat) : List UInt8 := Nat.rec (List.replicate 128 0) (fun k w => turnB w k) k
theorem bitsT_len (k : Nat) (hk : k ≤ 6) : (bitsT k).length = 128 := by
  induction k with
  | zero => exact List.length_replicate
  | succ k ih => exact turnB_len _ (ih (by omega)) k (by omega)
def vol0 : Frames := headG 24 6 :: List.replicate 128 0 :: bitsT 6 :: List.replicate 21 (List.replicate 128 0)
theorem vol0_len : vol0.length = 24 := rfl
theorem vol0_all : ∀ s ∈ vol0, s.length = 128 := by
  intro s hs
  simp only [vol0,List.mem_cons,List.mem_replicate] at hs
  rcases hs with rfl | rfl | rfl | ⟨_, rfl⟩
  · simp [headG, putLE_len]
  · exact List.length_replicate
  · exact bitsT_len 6 (by omega)
  · exact List.length_replicate
theorem vol0_ok : volE vol0 = 0 := by kernel_rfl
theorem fmt17_spec : Spec Try.prog 85 [.int .i64 24, .int .i64 6] (.tup [encStrs vol0, .int .i64 0]) := by
  have hP : Spec Try.prog 120 [.int .i64 24, .int .i64 6] (.tup [.agg [.int .i64 24, .int .i64 6, .int .i64 1, .int .i64 2, .int .i64 3, .int .i64 6], .int .i64 0]) := plan_spec 24 6 (by omega) (by omega)
  have hH : Spec Try.prog 121 [.agg [.int .i64 24, .int .i64 6, .int .i64 1, .int .i64 2, .int .i64 3, .int .i64 6]] (.str (headG 24 6)) := head_spec ⟨24, 6, 1, 2, 3, 6⟩ (by decide) (by decide)
  have hL : (headG 24 6).length = 128 := by simp [headG, putLE_len]
  have hZ : Spec Try.prog 122 [.int .i64 128] (.str (List.replicate 128 0)) := zeros17_spec 128 (by omega)
  have hv0 : vol0 = headG 24 6 :: List.replicate 128 0 :: bitsT 6 :: List.replicate 21 (List.replicate 128 0) := rfl
  have key : ∃ t : Nat → List UInt8, t = bitsT ∧ t 0 = List.replicate 128 0 ∧ ∀ k, k < 6 → (t k).length = 128 ∧ (t (k + 1)).length = 128 ∧ Spec Try.prog 123 [.str (t k), .int .i64 k] (.str (t (k + 1))) :=
    ⟨bitsT, rfl, rfl, fun k hk => ⟨bitsT_len k (by omega), bitsT_len (k + 1) (by omega), turn_specX _ (bitsT_len k (by omega)) k (by omega)⟩⟩
  obtain ⟨t, et, t0, ht⟩ := key
  rw [hv0, ← et]
  clear et hv0
  obtain ⟨Z, eZ⟩ : ∃ Z : List UInt8, Z = List.replicate 128 0 := ⟨_, rfl⟩
  have hZl : Z.length = 128 := by rw [eZ, List.length_replicate]
  rw [← eZ] at hZ t0
  rw [← eZ]
  clear eZ
  generalize headG 24 6 = L at hH hL
  have h6 : ∀ a : VV, List.replicate 6 a = [a, a, a, a, a, a] := fun _ => rfl
  obtain ⟨b1, e1, b1s, b1l, b1n⟩ : ∃ b1 : Nat → List VV, b1 = bl1 L Z ∧ (∀ j, b1 j ++ [.str Z] = b1 (j + 1)) ∧ (∀ j, (b1 j).length = j + 1) ∧ ∀ j, nls (b1 j) = true := ⟨_, rfl, bl1_succ L Z, bl1_len L Z, bl1_nl L Z⟩
  obtain ⟨b2, e2, b2l, b2n, b2a, b2s⟩ : ∃ b2 : List UInt8 → List VV, b2 = bl2 L Z ∧ (∀ w, (b2 w).length = 24) ∧ (∀ w, nls (b2 w) = true) ∧ (∀ w, (b2 w)[2]? = some (.str w)) ∧ ∀ w x, (b2 w).set 2 (.str x) = b2 x := ⟨_, rfl, bl2_len L Z, bl2_nl L Z, bl2_at L Z, bl2_set L Z⟩
  have e12 : b1 23 = b2 Z := by rw [e1, e2]; exact bl1_2 L Z
  have e10 : [.str L] = b1 0 := by rw [e1]; rfl
  have e26 : b2 (t 6) = (L :: Z :: t 6 :: List.replicate 21 Z).map .str := by rw [e2]; rfl
  have b10n := b1n 0
  have b20n := b2n Z
  clear e1 e2
  refine spec_ok Try.func85 rfl rfl (by kernel_rfl) (k := 2) rfl (by decide) ?_
  repeat' (first|(with_reducible first|refine yrl (by constructor) ?_|refine jk (fun M hM=>?_)|(refine hM _ ?_;clear hM M)|refine xb3 (by decide) ?_|refine yqa (by assumption) ?_ ?_|refine yqb (by assumption) ?_ ?_)|((with_reducible refine je ?_)<;>(first|rfl|assumption|(simp only [znl,znNC];(first|done|fail))))|(with_reducible refine jf (by (simp only [↓reduceIte,zlk,Nat.reduceEqDiff,reduceCtorEq]);exact rfl) ?_)|((with_reducible first|refine jg (fun hc=>?_) (fun hc=>?_)|refine jh (fun hc=>?_) (fun hc=>?_))<;>(try simp (disch:=omega) only [zhb] at hc)<;>(try (exfalso;omega))<;>(try subst hc))|(with_reducible refine ji (by omega) ?_)|(simp (config := { maxSteps := 400000 }) only [↓jt,↓reduceIte,zvs,reduceCtorEq,Nat.reduceEqDiff,Nat.reduceAdd,Nat.reduceLeDiff,Nat.reduceMul,Int.reduceBNe,Int.reduceBEq,Int.reduceEq,Int.reduceNe,Int.reduceLT,Int.reduceLE,Int.reduceGT,Int.reduceGE,Int.reduceNeg,Int.reduceToNat,Nat.reduceLT,Nat.reduceSub,tab,h6,Try.results85,jTA])|(simp (disch:=omega) only [ziw]))
  refine ok_loop (fun j : Nat => ⟨slots [(0, .int .i64 24), (6, .ptr 0 []), (8, .sl (some (1, [], 0)) (j + 1)), (9, .int .i64 ((j + 1 : Nat) : Int))], rows [(0, .row geoSh (.agg [.int .i64 24, .int .i64 6, .int .i64 1, .int .i64 2, .int .i64 3, .int .i64 6])), (1, .row (.arr (j + 1) .cell) (.agg (b1 j)))], 2⟩) (fun j => j ≤ 23) (fun j => 23 - j) 0 ?_ (Nat.zero_le _) (fun j hj => ?_)
  · (refine yrn [(0, 0), (1, 1)] false ?_ ?_<;>(repeat' (first|(with_reducible first|exact ya1|exact ya2|exact ya3|refine jx rfl (by first|rfl|assumption|(simp only [znl,znNC];(first|done|fail)))|exact ya5|exact ya7|exact jy|exact jz|refine jA ?_|refine ya9 ?_ ?_ ?_|refine jC rfl (by first|rfl|assumption|(simp only [znl,znNC];(first|done|fail)))|refine MR.agg (MRL.cons ?_ ?_)|refine MR.fn ?_|refine MRL.cons ?_ ?_|exact MRL.nil|refine jE ?_ ?_|exact jF|exact jG|refine yb1 ?_ ?_|refine MB.row ?_|refine jI ?_ ?_|exact ya8|refine jJ rfl (by first|rfl|assumption|(simp only [znl,znNC];(first|done|fail)))|refine yb2 ?_|rfl)|(simp only [znl,znNC];(first|done|fail))|(simp only [↓reduceIte,zlk,Nat.reduceEqDiff,reduceCtorEq])|(with_reducible first|refine jJ ?_ ?_|refine ya5 ?_|refine ju ?_|refine jv ?_|refine jw ?_|refine jx ?_ (by first|rfl|assumption|(simp only [znl,znNC];(first|done|fail)))|refine jC ?_ (by first|rfl|assumption|(simp only [znl,znNC];(first|done|fail)))))))
    all_goals (first | rfl | exact e10 | exact e10.symm)
  by_cases hlt : j < 23
  · have hb := b1l j
    have hn1 := b1n j
    have hn2 := b1n (j + 1)
    repeat' (first|(with_reducible first|refine yrl (by constructor) ?_|refine jk (fun M hM=>?_)|(refine hM _ ?_;clear hM M)|refine xb3 (by decide) ?_|refine yqa (by assumption) ?_ ?_|refine yqb (by assumption) ?_ ?_)|((with_reducible refine je ?_)<;>(first|rfl|assumption|(simp only [znl,znNC];(first|done|fail))))|(with_reducible refine jf (by (simp only [↓reduceIte,zlk,Nat.reduceEqDiff,reduceCtorEq]);exact rfl) ?_)|((with_reducible first|refine jg (fun hc=>?_) (fun hc=>?_)|refine jh (fun hc=>?_) (fun hc=>?_))<;>(try simp (disch:=omega) only [zhb] at hc)<;>(try (exfalso;omega))<;>(try subst hc))|(with_reducible refine ji (by omega) ?_)|(simp (config := { maxSteps := 400000 }) only [↓jt,↓reduceIte,zvs,reduceCtorEq,Nat.reduceEqDiff,Nat.reduceAdd,Nat.reduceLeDiff,Nat.reduceMul,Int.reduceBNe,Int.reduceBEq,Int.reduceEq,Int.reduceNe,Int.reduceLT,Int.reduceLE,Int.reduceGT,Int.reduceGE,Int.reduceNeg,Int.reduceToNat,Nat.reduceLT,Nat.reduceSub,tab,h6,hb,Try.results85,jTA])|(simp (disch:=omega) only [ziw]))
    refine xl1 (j + 1) ?_ (by show j + 1 ≤ 23; omega) (by show 23 - (j + 1) < 23 - j; omega)
    (refine yrn [(0, 0), (1, 3)] false ?_ ?_<;>(repeat' (first|(with_reducible first|exact ya1|exact ya2|exact ya3|refine jx rfl (by first|rfl|assumption|(simp only [znl,znNC];(first|done|fail)))|exact ya5|exact ya7|exact jy|exact jz|refine jA ?_|refine ya9 ?_ ?_ ?_|refine jC rfl (by first|rfl|assumption|(simp only [znl,znNC];(first|done|fail)))|refine MR.agg (MRL.cons ?_ ?_)|refine MR.fn ?_|refine MRL.cons ?_ ?_|exact MRL.nil|refine jE ?_ ?_|exact jF|exact jG|refine yb1 ?_ ?_|refine MB.row ?_|refine jI ?_ ?_|exact ya8|refine jJ rfl (by first|rfl|assumption|(simp only [znl,znNC];(first|done|fail)))|refine yb2 ?_|rfl)|(simp only [znl,znNC];(first|done|fail))|(simp only [↓reduceIte,zlk,Nat.reduceEqDiff,reduceCtorEq])|(with_reducible first|refine jJ ?_ ?_|refine ya5 ?_|refine ju ?_|refine jv ?_|refine jw ?_|refine jx ?_ (by first|rfl|assumption|(simp only [znl,znNC];(first|done|fail)))|refine jC ?_ (by first|rfl|assumption|(simp only [znl,znNC];(first|done|fail)))))))
    all_goals (first | rfl | exact b1s j | exact (b1s j).symm)
  · obtain rfl : j = 23 := by omega
    have z24 : ((23 + 1 : Nat) : Int) = 24 := rfl
    repeat' (first|(with_reducible first|refine yrl (by constructor) ?_|refine jk (fun M hM=>?_)|(refine hM _ ?_;clear hM M)|refine xb3 (by decide) ?_|refine yqa (by assumption) ?_ ?_|refine yqb (by assumption) ?_ ?_)|((with_reducible refine je ?_)<;>(first|rfl|assumption|(simp only [znl,znNC];(first|done|fail))))|(with_reducible refine jf (by (simp only [↓reduceIte,zlk,Nat.reduceEqDiff,reduceCtorEq]);exact rfl) ?_)|((with_reducible first|refine jg (fun hc=>?_) (fun hc=>?_)|refine jh (fun hc=>?_) (fun hc=>?_))<;>(try simp (disch:=omega) only [zhb] at hc)<;>(try (exfalso;omega))<;>(try subst hc))|(with_reducible refine ji (by omega) ?_)|(simp (config := { maxSteps := 400000 }) only [↓jt,↓reduceIte,zvs,reduceCtorEq,Nat.reduceEqDiff,Nat.reduceAdd,Nat.reduceLeDiff,Nat.reduceMul,Int.reduceBNe,Int.reduceBEq,Int.reduceEq,Int.reduceNe,Int.reduceLT,Int.reduceLE,Int.reduceGT,Int.reduceGE,Int.reduceNeg,Int.reduceToNat,Nat.reduceLT,Nat.reduceSub,tab,h6,z24,Try.results85,jTA])|(simp (disch:=omega) only [ziw]))
    refine ok_loop (fun k : Nat => ⟨slots [(6, .ptr 0 []), (8, .sl (some (1, [], 0)) 24), (10, .int .i64 k)], rows [(0, .row geoSh (.agg [.int .i64 24, .int .i64 6, .int .i64 1, .int .i64 2, .int .i64 3, .int .i64 6])), (1, .row (.arr 24 .cell) (.agg (b2 (t k))))], 2⟩) (fun k => k ≤ 6) (fun k => 6 - k) 0 ?_ (Nat.zero_le _) (fun k hk => ?_)
    · rw [← t0] at b20n
      (refine yrn [(0, 0), (1, 1)] false ?_ ?_<;>(repeat' (first|(with_reducible first|exact ya1|exact ya2|exact ya3|refine jx rfl (by first|rfl|assumption|(simp only [znl,znNC];(first|done|fail)))|exact ya5|exact ya7|exact jy|exact jz|refine jA ?_|refine ya9 ?_ ?_ ?_|refine jC rfl (by first|rfl|assumption|(simp only [znl,znNC];(first|done|fail)))|refine MR.agg (MRL.cons ?_ ?_)|refine MR.fn ?_|refine MRL.cons ?_ ?_|exact MRL.nil|refine jE ?_ ?_|exact jF|exact jG|refine yb1 ?_ ?_|refine MB.row ?_|refine jI ?_ ?_|exact ya8|refine jJ rfl (by first|rfl|assumption|(simp only [znl,znNC];(first|done|fail)))|refine yb2 ?_|rfl)|(simp only [znl,znNC];(first|done|fail))|(simp only [↓reduceIte,zlk,Nat.reduceEqDiff,reduceCtorEq])|(with_reducible first|refine jJ ?_ ?_|refine ya5 ?_|refine ju ?_|refine jv ?_|refine jw ?_|refine jx ?_ (by first|rfl|assumption|(simp only [znl,znNC];(first|done|fail)))|refine jC ?_ (by first|rfl|assumption|(simp only [znl,znNC];(first|done|fail)))))))
      all_goals (first | rfl | (rw [t0]; exact e12) | (rw [t0]; exact e12.symm))
    by_cases hlt : k < 6
    · obtain ⟨hk1, hk2, hk3⟩ := ht k hlt
      have hb := b2l (t k)
      have hb2 := b2a (t k)
      have hb3 := b2s (t k)
      have hn1 := b2n (t k)
      have hn2 := b2n (t (k + 1))
      repeat' (first|(with_reducible first|refine yrl (by constructor) ?_|refine jk (fun M hM=>?_)|(refine hM _ ?_;clear hM M)|refine xb3 (by decide) ?_|refine yqa (by assumption) ?_ ?_|refine yqb (by assumption) ?_ ?_)|((with_reducible refine je ?_)<;>(first|rfl|assumption|(simp only [znl,znNC];(first|done|fail))))|(with_reducible refine jf (by (simp only [↓reduceIte,zlk,Nat.reduceEqDiff,reduceCtorEq]);exact rfl) ?_)|((with_reducible first|refine jg (fun hc=>?_) (fun hc=>?_)|refine jh (fun hc=>?_) (fun hc=>?_))<;>(try simp (disch:=omega) only [zhb] at hc)<;>(try (exfalso;omega))<;>(try subst hc))|(with_reducible refine ji (by omega) ?_)|(simp (config := { maxSteps := 400000 }) only [↓jt,↓reduceIte,zvs,reduceCtorEq,Nat.reduceEqDiff,Nat.reduceAdd,Nat.reduceLeDiff,Nat.reduceMul,Int.reduceBNe,Int.reduceBEq,Int.reduceEq,Int.reduceNe,Int.reduceLT,Int.reduceLE,Int.reduceGT,Int.reduceGE,Int.reduceNeg,Int.reduceToNat,Nat.reduceLT,Nat.reduceSub,tab,h6,hb,hb2,hb3,Try.results85,jTA])|(simp (disch:=omega) only [ziw]))
      refine xl1 (k + 1) ?_ (by show k + 1 ≤ 6; omega) (by show 6 - (k + 1) < 6 - k; omega)
      (refine yrn [(0, 0), (1, 1)] false ?_ ?_<;>(repeat' (first|(with_reducible first|exact ya1|exact ya2|exact ya3|refine jx rfl (by first|rfl|assumption|(simp only [znl,znNC];(first|done|fail)))|exact ya5|exact ya7|exact jy|exact jz|refine jA ?_|refine ya9 ?_ ?_ ?_|refine jC rfl (by first|rfl|assumption|(simp only [znl,znNC];(first|done|fail)))|refine MR.agg (MRL.cons ?_ ?_)|refine MR.fn ?_|refine MRL.cons ?_ ?_|exact MRL.nil|refine jE ?_ ?_|exact jF|exact jG|refine yb1 ?_ ?_|refine MB.row ?_|refine jI ?_ ?_|exact ya8|refine jJ rfl (by first|rfl|assumption|(simp only [znl,znNC];(first|done|fail)))|refine yb2 ?_|rfl)|(simp only [znl,znNC];(first|done|fail))|(simp only [↓reduceIte,zlk,Nat.reduceEqDiff,reduceCtorEq])|(with_reducible first|refine jJ ?_ ?_|refine ya5 ?_|refine ju ?_|refine jv ?_|refine jw ?_|refine jx ?_ (by first|rfl|assumption|(simp only [znl,znNC];(first|done|fail)))|refine jC ?_ (by first|rfl|assumption|(simp only [znl,znNC];(first|done|fail)))))))
      all_goals (first | rfl | (simp; done))
    · obtain rfl : k = 6 := by omega
      repeat' (first|(with_reducible first|refine yrl (by constructor) ?_|refine jk (fun M hM=>?_)|(refine hM _ ?_;clear hM M)|refine xb3 (by decide) ?_|refine yqa (by assumption) ?_ ?_|refine yqb (by assumption) ?_ ?_)|((with_reducible refine je ?_)<;>(first|rfl|assumption|(simp only [znl,znNC];(first|done|fail))))|(with_reducible refine jf (by (simp only [↓reduceIte,zlk,Nat.reduceEqDiff,reduceCtorEq]);exact rfl) ?_)|((with_reducible first|refine jg (fun hc=>?_) (fun hc=>?_)|refine jh (fun hc=>?_) (fun hc=>?_))<;>(try simp (disch:=omega) only [zhb] at hc)<;>(try (exfalso;omega))<;>(try subst hc))|(with_reducible refine ji (by omega) ?_)|(simp (config := { maxSteps := 400000 }) only [↓jt,↓reduceIte,zvs,reduceCtorEq,Nat.reduceEqDiff,Nat.reduceAdd,Nat.reduceLeDiff,Nat.reduceMul,Int.reduceBNe,Int.reduceBEq,Int.reduceEq,Int.reduceNe,Int.reduceLT,Int.reduceLE,Int.reduceGT,Int.reduceGE,Int.reduceNeg,Int.reduceToNat,Nat.reduceLT,Nat.reduceSub,tab,h6,Try.results85,jTA])|(simp (disch:=omega) only [ziw]))
      all_goals (try (exfalso; omega))
      rw [e26]
      have hl6 : (L :: Z :: t 6 :: List.replicate 21 Z).length = 24 := rfl
      simp only [zrds]
      (refine rd_own (by (simp only [↓reduceIte,zlk,Nat.reduceEqDiff,reduceCtorEq]); exact rfl) ?_ ?_ ?_) <;> (first | rfl | assumption | (simp only [znl,znNC];(first|done|fail)) | (simp; done) | (simp; omega) | skip)
theorem fmt16_spec (v : Frames) (hv : v.length = 24) (hs : ∀ s ∈ v, s.length = 128) : ∃ Z : List UInt8, Z.length = 128 ∧ Spec Try.prog 86 [encStrs v] (drV (⟨List.replicate 33 Z ++ v, [], -1⟩, 0)) := by
  have hZ : Spec Try.prog 124 [.int .i64 128] (.str (List.replicate 128 0)) := zeros16_spec 128 (by omega)
  obtain ⟨Z, eZ⟩ : ∃ Z : List UInt8, Z = List.replicate 128 0 := ⟨_, rfl⟩
  have hZl : Z.length = 128 := by rw [eZ, List.length_replicate]
  rw [← eZ] at hZ
  clear eZ
  refine ⟨Z, hZl, ?_⟩
  refine spec_ok Try.func86 rfl rfl (by kernel_rfl) (k := 1) rfl (by decide) ?_
  repeat' (first|(with_reducible first|refine yrl (by constructor) ?_|refine jk (fun M hM=>?_)|(refine hM _ ?_;clear hM M)|refine xb3 (by decide) ?_|refine yqa (by assumption) ?_ ?_|refine yqb (by assumption) ?_ ?_)|((with_reducible refine je ?_)<;>(first|rfl|assumption|(simp only [znl,znNC];(first|done|fail))))|(with_reducible refine jf (by (simp only [↓reduceIte,zlk,Nat.reduceEqDiff,reduceCtorEq]);exact rfl) ?_)|((with_reducible first|refine jg (fun hc=>?_) (fun hc=>?_)|refine jh (fun hc=>?_) (fun hc=>?_))<;>(try simp (disch:=omega) only [zhb] at hc)<;>(try (exfalso;omega))<;>(try subst hc))|(with_reducible refine ji (by omega) ?_)|(simp (config := { maxSteps := 400000 }) only [↓jt,↓reduceIte,zvs,reduceCtorEq,Nat.reduceEqDiff,Nat.reduceAdd,Nat.reduceLeDiff,Nat.reduceMul,Int.reduceBNe,Int.reduceBEq,Int.reduceEq,Int.reduceNe,Int.reduceLT,Int.reduceLE,Int.reduceGT,Int.reduceGE,Int.reduceNeg,Int.reduceToNat,Nat.reduceLT,Nat.reduceSub,tab,Try.results86,jTA])|(simp (disch:=omega) only [ziw]))
  all_goals (try (exfalso; omega))
  refine ok_loop (fun k : Nat => ⟨slots [(0, encStrs v), (2, .ptr 0 []), (3, .int .i64 0), (4, .ptr 1 []), (5, .int .i64 k)], rows [(0, .row (.st [.cell, .cell, .cell]) (.agg [.sl none 0, .sl none 0, .int .i64 0])), (1, .row (.st [.cell, .cell, .cell]) (.agg [.sl (some (2, [], 0)) k, .sl none 0, .int .i64 (-1)])), (2, .row (.arr k .cell) (.agg (List.replicate k (.str Z))))], 3⟩) (fun k => k ≤ 33) (fun k => 33 - k) 0 ?_ (Nat.zero_le _) (fun k hk => ?_)
  · (refine yrn [(0, 0), (1, 1)] false ?_ ?_<;>(repeat' (first|(with_reducible first|exact ya1|exact ya2|exact ya3|refine jx rfl (by first|rfl|assumption|(simp only [znl,znNC];(first|done|fail)))|exact ya5|exact ya7|exact jy|exact jz|refine jA ?_|refine ya9 ?_ ?_ ?_|refine jC rfl (by first|rfl|assumption|(simp only [znl,znNC];(first|done|fail)))|refine MR.agg (MRL.cons ?_ ?_)|refine MR.fn ?_|refine MRL.cons ?_ ?_|exact MRL.nil|refine jE ?_ ?_|exact jF|exact jG|refine yb1 ?_ ?_|refine MB.row ?_|refine jI ?_ ?_|exact ya8|refine jJ rfl (by first|rfl|assumption|(simp only [znl,znNC];(first|done|fail)))|refine yb2 ?_|rfl)|(simp only [znl,znNC];(first|done|fail))|(simp only [↓reduceIte,zlk,Nat.reduceEqDiff,reduceCtorEq])|(with_reducible first|refine jJ ?_ ?_|refine ya5 ?_|refine ju ?_|refine jv ?_|refine jw ?_|refine jx ?_ (by first|rfl|assumption|(simp only [znl,znNC];(first|done|fail)))|refine jC ?_ (by first|rfl|assumption|(simp only [znl,znNC];(first|done|fail)))))))
    all_goals (first | rfl | (simp; done))
  by_cases hlt : k < 33
  · repeat' (first|(with_reducible first|refine yrl (by constructor) ?_|refine jk (fun M hM=>?_)|(refine hM _ ?_;clear hM M)|refine xb3 (by decide) ?_|refine yqa (by assumption) ?_ ?_|refine yqb (by assumption) ?_ ?_)|((with_reducible refine je ?_)<;>(first|rfl|assumption|(simp only [znl,znNC];(first|done|fail))))|(with_reducible refine jf (by (simp only [↓reduceIte,zlk,Nat.reduceEqDiff,reduceCtorEq]);exact rfl) ?_)|((with_reducible first|refine jg (fun hc=>?_) (fun hc=>?_)|refine jh (fun hc=>?_) (fun hc=>?_))<;>(try simp (disch:=omega) only [zhb] at hc)<;>(try (exfalso;omega))<;>(try subst hc))|(with_reducible refine ji (by omega) ?_)|(simp (config := { maxSteps := 400000 }) only [↓jt,↓reduceIte,zvs,reduceCtorEq,Nat.reduceEqDiff,Nat.reduceAdd,Nat.reduceLeDiff,Nat.reduceMul,Int.reduceBNe,Int.reduceBEq,Int.reduceEq,Int.reduceNe,Int.reduceLT,Int.reduceLE,Int.reduceGT,Int.reduceGE,Int.reduceNeg,Int.reduceToNat,Nat.reduceLT,Nat.reduceSub,tab,Try.results86,jTA])|(simp (disch:=omega) only [ziw]))
    refine ok_draw 4 (by kernel_rfl) (by decide +kernel) (by intro m hm; simp only [upd_ap,rows_cons,rows_nil]; (repeat (first | rfl | rw [if_neg (by omega)]))) (fun M hM => ?_); simp only [List.take_succ_cons,List.take_zero,List.drop_succ_cons,List.drop_zero]
    repeat' (first|(with_reducible first|refine yrl (by constructor) ?_|refine jk (fun M hM=>?_)|(refine hM _ ?_;clear hM M)|refine xb3 (by decide) ?_|refine yqa (by assumption) ?_ ?_|refine yqb (by assumption) ?_ ?_)|((with_reducible refine je ?_)<;>(first|rfl|assumption|(simp only [znl,znNC];(first|done|fail))))|(with_reducible refine jf (by (simp only [↓reduceIte,zlk,Nat.reduceEqDiff,reduceCtorEq]);exact rfl) ?_)|((with_reducible first|refine jg (fun hc=>?_) (fun hc=>?_)|refine jh (fun hc=>?_) (fun hc=>?_))<;>(try simp (disch:=omega) only [zhb] at hc)<;>(try (exfalso;omega))<;>(try subst hc))|(with_reducible refine ji (by omega) ?_)|(simp (config := { maxSteps := 400000 }) only [↓jt,↓reduceIte,zvs,reduceCtorEq,Nat.reduceEqDiff,Nat.reduceAdd,Nat.reduceLeDiff,Nat.reduceMul,Int.reduceBNe,Int.reduceBEq,Int.reduceEq,Int.reduceNe,Int.reduceLT,Int.reduceLE,Int.reduceGT,Int.reduceGE,Int.reduceNeg,Int.reduceToNat,Nat.reduceLT,Nat.reduceSub,tab,Try.results86,jTA])|(simp (disch:=omega) only [ziw]))
    refine xl1 (k + 1) ?_ (by show k + 1 ≤ 33; omega) (by show 33 - (k + 1) < 33 - k; omega)
    (refine yrn [(0, 0), (1, 1), (2, 259)] false ?_ ?_<;>(repeat' (first|(with_reducible first|exact ya1|exact ya2|exact ya3|refine jx rfl (by first|rfl|assumption|(simp only [znl,znNC];(first|done|fail)))|exact ya5|exact ya7|exact jy|exact jz|refine jA ?_|refine ya9 ?_ ?_ ?_|refine jC rfl (by first|rfl|assumption|(simp only [znl,znNC];(first|done|fail)))|refine MR.agg (MRL.cons ?_ ?_)|refine MR.fn ?_|refine MRL.cons ?_ ?_|exact MRL.nil|refine jE ?_ ?_|exact jF|exact jG|refine yb1 ?_ ?_|refine MB.row ?_|refine jI ?_ ?_|exact ya8|refine jJ rfl (by first|rfl|assumption|(simp only [znl,znNC];(first|done|fail)))|refine yb2 ?_|rfl)|(simp only [znl,znNC];(first|done|fail))|(simp only [↓reduceIte,zlk,Nat.reduceEqDiff,reduceCtorEq])|(with_reducible first|refine jJ ?_ ?_|refine ya5 ?_|refine ju ?_|refine jv ?_|refine jw ?_|refine jx ?_ (by first|rfl|assumption|(simp only [znl,znNC];(first|done|fail)))|refine jC ?_ (by first|rfl|assumption|(simp only [znl,znNC];(first|done|fail)))))))
    all_goals (first | rfl | (simp [List.replicate_succ']; done))
  · obtain rfl : k = 33 := by omega
    repeat' (first|(with_reducible first|refine yrl (by constructor) ?_|refine jk (fun M hM=>?_)|(refine hM _ ?_;clear hM M)|refine xb3 (by decide) ?_|refine yqa (by assumption) ?_ ?_|refine yqb (by assumption) ?_ ?_)|((with_reducible refine je ?_)<;>(first|rfl|assumption|(simp only [znl,znNC];(first|done|fail))))|(with_reducible refine jf (by (simp only [↓reduceIte,zlk,Nat.reduceEqDiff,reduceCtorEq]);exact rfl) ?_)|((with_reducible first|refine jg (fun hc=>?_) (fun hc=>?_)|refine jh (fun hc=>?_) (fun hc=>?_))<;>(try simp (disch:=omega) only [zhb] at hc)<;>(try (exfalso;omega))<;>(try subst hc))|(with_reducible refine ji (by omega) ?_)|(simp (config := { maxSteps := 400000 }) only [↓jt,↓reduceIte,zvs,reduceCtorEq,Nat.reduceEqDiff,Nat.reduceAdd,Nat.reduceLeDiff,Nat.reduceMul,Int.reduceBNe,Int.reduceBEq,Int.reduceEq,Int.reduceNe,Int.reduceLT,Int.reduceLE,Int.reduceGT,Int.reduceGE,Int.reduceNeg,Int.reduceToNat,Nat.reduceLT,Nat.reduceSub,tab,Try.results86,jTA])|(simp (disch:=omega) only [ziw]))
    obtain ⟨W, hW, hWl⟩ : ∃ W : Frames, W = List.replicate 33 Z ∧ W.length = 33 := ⟨_, rfl, List.length_replicate⟩
    rw [← hW]
    refine ok_loop (fun k : Nat => ⟨slots [(0, encStrs v), (2, .ptr 0 []), (3, .int .i64 0), (4, .ptr 1 []), (28, .int .i64 24), (29, .int .i64 k)], rows [(0, .row (.st [.cell, .cell, .cell]) (.agg [.sl none 0, .sl none 0, .int .i64 0])), (1, .row (.st [.cell, .cell, .cell]) (.agg [.sl (some (2, [], 0)) (33 + k), .sl none 0, .int .i64 (-1)])), (2, .row (.arr (33 + k) .cell) (.agg ((W ++ v.take k).map .str)))], 3⟩) (fun k => k ≤ 24) (fun k => 24 - k) 0 ?_ (Nat.zero_le _) (fun k hk => ?_)
    · (refine yrn [(0, 0), (1, 1), (2, 2)] false ?_ ?_<;>(repeat' (first|(with_reducible first|exact ya1|exact ya2|exact ya3|refine jx rfl (by first|rfl|assumption|(simp only [znl,znNC];(first|done|fail)))|exact ya5|exact ya7|exact jy|exact jz|refine jA ?_|refine ya9 ?_ ?_ ?_|refine jC rfl (by first|rfl|assumption|(simp only [znl,znNC];(first|done|fail)))|refine MR.agg (MRL.cons ?_ ?_)|refine MR.fn ?_|refine MRL.cons ?_ ?_|exact MRL.nil|refine jE ?_ ?_|exact jF|exact jG|refine yb1 ?_ ?_|refine MB.row ?_|refine jI ?_ ?_|exact ya8|refine jJ rfl (by first|rfl|assumption|(simp only [znl,znNC];(first|done|fail)))|refine yb2 ?_|rfl)|(simp only [znl,znNC];(first|done|fail))|(simp only [↓reduceIte,zlk,Nat.reduceEqDiff,reduceCtorEq])|(with_reducible first|refine jJ ?_ ?_|refine ya5 ?_|refine ju ?_|refine jv ?_|refine jw ?_|refine jx ?_ (by first|rfl|assumption|(simp only [znl,znNC];(first|done|fail)))|refine jC ?_ (by first|rfl|assumption|(simp only [znl,znNC];(first|done|fail)))))))
      all_goals (first | rfl | (rw [hW]; simp; done) | (simp; done))
    by_cases hlt : k < 24
    · have e1 := take_snoc v k (by omega)
      have hsk := hs _ (getD_mem' (show k < v.length by omega))
      rw [default_str] at e1 hsk
      repeat' (first|(with_reducible first|refine yrl (by constructor) ?_|refine jk (fun M hM=>?_)|(refine hM _ ?_;clear hM M)|refine xb3 (by decide) ?_|refine yqa (by assumption) ?_ ?_|refine yqb (by assumption) ?_ ?_)|((with_reducible refine je ?_)<;>(first|rfl|assumption|(simp only [znl,znNC];(first|done|fail))))|(with_reducible refine jf (by (simp only [↓reduceIte,zlk,Nat.reduceEqDiff,reduceCtorEq]);exact rfl) ?_)|((with_reducible first|refine jg (fun hc=>?_) (fun hc=>?_)|refine jh (fun hc=>?_) (fun hc=>?_))<;>(try simp (disch:=omega) only [zhb] at hc)<;>(try (exfalso;omega))<;>(try subst hc))|(with_reducible refine ji (by omega) ?_)|(simp (config := { maxSteps := 400000 }) only [↓jt,↓reduceIte,zvs,reduceCtorEq,Nat.reduceEqDiff,Nat.reduceAdd,Nat.reduceLeDiff,Nat.reduceMul,Int.reduceBNe,Int.reduceBEq,Int.reduceEq,Int.reduceNe,Int.reduceLT,Int.reduceLE,Int.reduceGT,Int.reduceGE,Int.reduceNeg,Int.reduceToNat,Nat.reduceLT,Nat.reduceSub,tab,hsk,hWl,Try.results86,jTA])|(simp (disch:=omega) only [ziw]))
      refine ok_draw 7 (by kernel_rfl) (by decide +kernel) (by intro m hm; simp only [upd_ap,rows_cons,rows_nil]; (repeat (first | rfl | rw [if_neg (by omega)]))) (fun M hM => ?_); simp only [List.take_succ_cons,List.take_zero,List.drop_succ_cons,List.drop_zero]
      repeat' (first|(with_reducible first|refine yrl (by constructor) ?_|refine jk (fun M hM=>?_)|(refine hM _ ?_;clear hM M)|refine xb3 (by decide) ?_|refine yqa (by assumption) ?_ ?_|refine yqb (by assumption) ?_ ?_)|((with_reducible refine je ?_)<;>(first|rfl|assumption|(simp only [znl,znNC];(first|done|fail))))|(with_reducible refine jf (by (simp only [↓reduceIte,zlk,Nat.reduceEqDiff,reduceCtorEq]);exact rfl) ?_)|((with_reducible first|refine jg (fun hc=>?_) (fun hc=>?_)|refine jh (fun hc=>?_) (fun hc=>?_))<;>(try simp (disch:=omega) only [zhb] at hc)<;>(try (exfalso;omega))<;>(try subst hc))|(with_reducible refine ji (by omega) ?_)|(simp (config := { maxSteps := 400000 }) only [↓jt,↓reduceIte,zvs,reduceCtorEq,Nat.reduceEqDiff,Nat.reduceAdd,Nat.reduceLeDiff,Nat.reduceMul,Int.reduceBNe,Int.reduceBEq,Int.reduceEq,Int.reduceNe,Int.reduceLT,Int.reduceLE,Int.reduceGT,Int.reduceGE,Int.reduceNeg,Int.reduceToNat,Nat.reduceLT,Nat.reduceSub,tab,hsk,hWl,Try.results86,jTA])|(simp (disch:=omega) only [ziw]))
      refine xl1 (k + 1) ?_ (by show k + 1 ≤ 24; omega) (by show 24 - (k + 1) < 24 - k; omega)
      (refine yrn [(0, 0), (1, 1), (2, 451)] false ?_ ?_<;>(repeat' (first|(with_reducible first|exact ya1|exact ya2|exact ya3|refine jx rfl (by first|rfl|assumption|(simp only [znl,znNC];(first|done|fail)))|exact ya5|exact ya7|exact jy|exact jz|refine jA ?_|refine ya9 ?_ ?_ ?_|refine jC rfl (by first|rfl|assumption|(simp only [znl,znNC];(first|done|fail)))|refine MR.agg (MRL.cons ?_ ?_)|refine MR.fn ?_|refine MRL.cons ?_ ?_|exact MRL.nil|refine jE ?_ ?_|exact jF|exact jG|refine yb1 ?_ ?_|refine MB.row ?_|refine jI ?_ ?_|exact ya8|refine jJ rfl (by first|rfl|assumption|(simp only [znl,znNC];(first|done|fail)))|refine yb2 ?_|rfl)|(simp only [znl,znNC];(first|done|fail))|(simp only [↓reduceIte,zlk,Nat.reduceEqDiff,reduceCtorEq])|(with_reducible first|refine jJ ?_ ?_|refine ya5 ?_|refine ju ?_|refine jv ?_|refine jw ?_|refine jx ?_ (by first|rfl|assumption|(simp only [znl,znNC];(first|done|fail)))|refine jC ?_ (by first|rfl|assumption|(simp only [znl,znNC];(first|done|fail)))))))
      all_goals (first | rfl | omega | (rw [e1]; simp; done))
    · obtain rfl : k = 24 := by omega
      have et : v.take 24 = v := List.take_of_length_le (by omega)
      repeat' (first|(with_reducible first|refine yrl (by constructor) ?_|refine jk (fun M hM=>?_)|(refine hM _ ?_;clear hM M)|refine xb3 (by decide) ?_|refine yqa (by assumption) ?_ ?_|refine yqb (by assumption) ?_ ?_)|((with_reducible refine je ?_)<;>(first|rfl|assumption|(simp only [znl,znNC];(first|done|fail))))|(with_reducible refine jf (by (simp only [↓reduceIte,zlk,Nat.reduceEqDiff,reduceCtorEq]);exact rfl) ?_)|((with_reducible first|refine jg (fun hc=>?_) (fun hc=>?_)|refine jh (fun hc=>?_) (fun hc=>?_))<;>(try simp (disch:=omega) only [zhb] at hc)<;>(try (exfalso;omega))<;>(try subst hc))|(with_reducible refine ji (by omega) ?_)|(simp (config := { maxSteps := 400000 }) only [↓jt,↓reduceIte,zvs,reduceCtorEq,Nat.reduceEqDiff,Nat.reduceAdd,Nat.reduceLeDiff,Nat.reduceMul,Int.reduceBNe,Int.reduceBEq,Int.reduceEq,Int.reduceNe,Int.reduceLT,Int.reduceLE,Int.reduceGT,Int.reduceGE,Int.reduceNeg,Int.reduceToNat,Nat.reduceLT,Nat.reduceSub,tab,et,hWl,Try.results86,jTA])|(simp (disch:=omega) only [ziw]))
      all_goals (try (exfalso; omega))
      simp only [drV,encDr,List.map_nil]
      simp only [zrds]
      refine ⟨?_, rd_nil⟩
      (refine rd_own (by (simp only [↓reduceIte,zlk,Nat.reduceEqDiff,reduceCtorEq]); exact rfl) ?_ ?_ ?_) <;> (first | rfl | assumption | (simp only [znl,znNC];(first|done|fail)) | (simp; done) | (simp; omega) | skip)
def bareM (f : List UInt8) (d : Dr) : Mach := ⟨0, 3, 0, 0, [f, f, f, f], [], 1, [], [], 1, [], false, 0, d, []⟩
theorem home_app (Z : List UInt8) (v : Frames) (hZ : Z.length = 128) (hv : v.length = 24) (hs : ∀ s ∈ v, s.length = 128) : checkD ⟨List.replicate 33 Z ++ v, [], -1⟩ = 0 ∧ homeD ⟨List.replicate 33 Z ++ v, [], -1⟩ = v := by
  have hl : (List.replicate 33 Z ++ v).length = 57 := by rw [List.length_append, List.length_replicate, hv]
  have hc : checkD ⟨List.replicate 33 Z ++ v, [], -1⟩ = 0 := by
    unfold checkD
    dsimp only
    rw [if_neg (by omega), if_neg]
    · rfl
    · rw [List.any_eq_true]
      rintro ⟨s, h1, h2⟩
      have h2 := of_decide_eq_true h2
      rcases List.mem_append.1 h1 with h | h
      · rw [(List.mem_replicate.1 h).2] at h2; exact h2 hZ
      · exact h2 (hs s h)
  refine ⟨hc, ?_⟩
  unfold homeD
  dsimp only
  rw [if_pos ⟨hc, by omega⟩, hl]
  refine List.ext_getElem (by simp [hv]) fun i h1 h2 => ?_
  simp only [List.getElem_map,List.getElem_range,homeB,getP]
  rw [List.getD_eq_getElem?_getD, List.getElem?_append_right (by rw [List.length_replicate]; omega), List.length_replicate, Nat.add_sub_cancel_left, List.getElem?_eq_getElem h2]
  rfl
theorem bare_specX : ∃ (f : List UInt8) (d : Dr), f.length = 128 ∧ d.bl.length = 57 ∧ (∀ s ∈ d.bl, s.length = 128) ∧ d.pe = [] ∧ d.left = -1 ∧ checkD d = 0 ∧ homeD d = vol0 ∧ Spec Try.prog 70 [] (encM (bareM f d)) := by
  have hF := fmt17_spec
  have hv := vol0_len
  have hs := vol0_all
  generalize vol0 = v at hF hv hs
  obtain ⟨Z, hZl, hG⟩ := fmt16_spec v hv hs
  obtain ⟨k1, k2⟩ := home_app Z v hZl hv hs
  have h1 : (List.replicate 33 Z ++ v).length = 57 := by rw [List.length_append, List.length_replicate, hv]
  have h2 : ∀ s ∈ List.replicate 33 Z ++ v, s.length = 128 := by
    intro s h
    rcases List.mem_append.1 h with h | h
    · rw [(List.mem_replicate.1 h).2]; exact hZl
    · exact hs s h
  have hR : Spec Try.prog 38 [.str [0], .int .i64 128] (.str zeros) := by
    have hr := repeat_spec [0] 128 (by decide) (by decide)
    rw [show (List.replicate 128 [(0 : UInt8)]).flatten = zeros from by decide] at hr
    exact hr
  refine ⟨zeros, ⟨List.replicate 33 Z ++ v, [], -1⟩, rfl, h1, h2, rfl, rfl, k1, k2, ?_⟩
  simp only [drV] at hG
  generalize zeros = z at hR
  generalize List.replicate 33 Z ++ v = bl at hG h1 h2 k1 k2
  refine spec_ok Try.func70 rfl rfl (by kernel_rfl) (k := 0) rfl (by decide) ?_
  repeat' (first|(with_reducible first|refine yrl (by constructor) ?_|refine jk (fun M hM=>?_)|(refine hM _ ?_;clear hM M)|refine xb3 (by decide) ?_|refine yqa (by assumption) ?_ ?_|refine yqb (by assumption) ?_ ?_)|((with_reducible refine je ?_)<;>(first|rfl|assumption|(simp only [znl,znNC];(first|done|fail))))|(with_reducible refine jf (by (simp only [↓reduceIte,zlk,Nat.reduceEqDiff,reduceCtorEq]);exact rfl) ?_)|((with_reducible first|refine jg (fun hc=>?_) (fun hc=>?_)|refine jh (fun hc=>?_) (fun hc=>?_))<;>(try simp (disch:=omega) only [zhb] at hc)<;>(try (exfalso;omega))<;>(try subst hc))|(with_reducible refine ji (by omega) ?_)|(simp (config := { maxSteps := 400000 }) only [↓jt,↓reduceIte,zvs,reduceCtorEq,Nat.reduceEqDiff,Nat.reduceAdd,Nat.reduceLeDiff,Nat.reduceMul,Int.reduceBNe,Int.reduceBEq,Int.reduceEq,Int.reduceNe,Int.reduceLT,Int.reduceLE,Int.reduceGT,Int.reduceGE,Int.reduceNeg,Int.reduceToNat,Nat.reduceLT,Nat.reduceSub,tab,Try.results70,jTA])|(simp (disch:=omega) only [ziw]))
  simp only [bareM]
  ((try simp only [List.map_nil]); simp only [zrds]; (repeat' (first | exact rd_nil | exact Rd.refl _ _ (by first|rfl|assumption|(simp only [znl,znNC];(first|done|fail))) | (refine And.intro ?_ ?_) | (refine rd_own (by (simp only [↓reduceIte,zlk,Nat.reduceEqDiff,reduceCtorEq]); exact rfl) ?_ ?_ ?_) | rfl | assumption | (simp only [znl,znNC];(first|done|fail)) | (simp; done) | (simp; omega))))
end Go.Proofs.Ytpdhdkpebbfnnaa.V
end
section
namespace Go.Proofs.Ytpdhdkpebbfnnaa.V
open Go
set_option maxRecDepth 100000
set_option maxHeartbeats 1000000
end Go.Proofs.Ytpdhdkpebbfnnaa.V
end
section
namespace Go.Proofs.Ytpdhdkpebbfnnaa.V
open Go
set_option maxRecDepth 100000
set_option maxHeartbeats 4000000
theorem checkD_le {d : Dr} (h : checkD d = 0) : d.bl.length ≤ 256 := by
  unfold checkD at h
  split at h
  · omega
  · omega
def badD (d : Dr) : Int := if checkD d ≠ 0 then checkD d else if d.bl.length ≤ 33 then 2 else 0
end Go.Proofs.Ytpdhdkpebbfnnaa.V
end
section
namespace Go.Proofs.Ytpdhdkpebbfnnaa.V
open Go
set_option maxRecDepth 100000
set_option maxHeartbeats 4000000
theorem wrV_len (v : Frames) (w : Wr) : (wrV v w).length = v.length := by
  unfold wrV; split <;> simp
theorem foldl_wrV_len (l : List Wr) : ∀ v : Frames, (l.foldl wrV v).length = v.length := by
  induction l with
  | nil => intro v; rfl
  | cons w l ih => intro v; rw [List.foldl_cons, ih, wrV_len]
theorem homeD_len (d : Dr) : (homeD d).length ≤ d.bl.length := by
  unfold homeD; split
  · simp
  · simp
theorem getP_mem (i : Int) : ∀ (pe : List Wr) (s : List UInt8), getP pe i s = s ∨ ∃ w ∈ pe, getP pe i s = w.d
  | [], s => .inl rfl
  | w :: l, s => by
    have e : getP (w :: l) i s = getP l i (if w.b = i then w.d else s) := rfl
    rw [e]
    rcases getP_mem i l (if w.b = i then w.d else s) with h | ⟨x, h1, h2⟩
    · by_cases hw : w.b = i
      · rw [if_pos hw] at h ⊢
        exact .inr ⟨w, by simp, h⟩
      · rw [if_neg hw] at h ⊢
        exact .inl h
    · exact .inr ⟨x, by simp [h1], h2⟩
theorem homeD_fit {d : Dr} {n : Nat} (h1 : ∀ s ∈ d.bl, s.length ≤ n) (h2 : ∀ w ∈ d.pe, w.d.length ≤ n) : ∀ s ∈ homeD d, s.length ≤ n := by
  intro s hs
  unfold homeD at hs
  split at hs
  · obtain ⟨i, hi, rfl⟩ := List.mem_map.1 hs
    have hi := List.mem_range.1 hi
    unfold homeB
    rcases getP_mem ((33 + i : Nat) : Int) d.pe (d.bl.getD (33 + i) []) with h | ⟨w, hw, h⟩
    · rw [h]
      have := h1 _ (getD_mem' (show 33 + i < d.bl.length by omega))
      rw [default_str] at this
      exact this
    · rw [h]; exact h2 w hw
  · cases hs
theorem wrV_fit {v : Frames} {w : Wr} {n : Nat} (h1 : ∀ s ∈ v, s.length ≤ n) (h2 : w.d.length ≤ n) : ∀ s ∈ wrV v w, s.length ≤ n := by
  intro s hs
  unfold wrV at hs
  split at hs
  · rcases List.mem_or_eq_of_mem_set hs with h | h
    · exact h1 s h
    · rw [h]; exact h2
  · exact h1 s hs
theorem foldl_wrV_fit {n : Nat} (l : List Wr) : ∀ v : Frames, (∀ s ∈ v, s.length ≤ n) → (∀ w ∈ l, w.d.length ≤ n) → ∀ s ∈ l.foldl wrV v, s.length ≤ n := by
  induction l with
  | nil => intro v h1 _; exact h1
  | cons w l ih => intro v h1 h2; rw [List.foldl_cons]; exact ih _ (wrV_fit h1 (h2 w (by simp))) fun x hx => h2 x (by simp [hx])
theorem dfit_of {m : Mach} (hm : MFit 20000 m) : dfit m.dr :=
  ⟨⟨by have := hm.bl; omega, fun s hs => by have := hm.blS s hs; omega⟩, by have := hm.pe; omega, fun w hw => by have := (hm.peS w hw).2; omega⟩
end Go.Proofs.Ytpdhdkpebbfnnaa.V
end
section
namespace Go.Proofs.Ytpdhdkpebbfnnaa.V
open Go
set_option maxRecDepth 100000
def znN5 := And.intro @jO <| And.intro @jP <| And.intro @jQ <| And.intro @jR <| And.intro @jS <| And.intro @jT <| And.intro @jU <| True.intro
set_option maxHeartbeats 1000000
theorem users_spec (m : Mach) (hm : MFit 20000 m) (f : Int) (hf : i64R f) : Spec Try.prog 126 [encM m, .int .i64 f] (.int .i64 (usersN m.pr f)) := by
  obtain ⟨R, hR⟩ : ∃ R, R = usersN m.pr f := ⟨_, rfl⟩
  rw [← hR]
  have hl := hm.pr
  have hpR := hm.prR
  have hU : ∀ k, k ≤ m.pr.length → usersN (m.pr.take k) f ≤ 16 * k := fun k hk => by
    have := usersN_le f (m.pr.take k) fun p hp => (hpR p (List.mem_of_mem_take hp)).sp
    rw [List.length_take] at this
    omega
  obtain ⟨hp1, hp2⟩ := hf
  refine spec_ok Try.func126 rfl rfl (by kernel_rfl) (k := 2) rfl (by decide) ?_
  repeat' (first|(with_reducible first|refine yrl (by constructor) ?_|refine jk (fun M hM=>?_)|(refine hM _ ?_;clear hM M)|refine xb3 (by decide) ?_|refine yqa (by assumption) ?_ ?_|refine yqb (by assumption) ?_ ?_)|((with_reducible refine je ?_)<;>(first|rfl|assumption|(simp only [znl,znN5];(first|done|fail))))|(with_reducible refine jf (by (simp only [↓reduceIte,zlk,Nat.reduceEqDiff,reduceCtorEq]);exact rfl) ?_)|((with_reducible first|refine jg (fun hc=>?_) (fun hc=>?_)|refine jh (fun hc=>?_) (fun hc=>?_))<;>(try simp (disch:=omega) only [zhb] at hc)<;>(try (exfalso;omega))<;>(try subst hc))|(with_reducible refine ji (by omega) ?_)|(simp (config := { maxSteps := 400000 }) only [↓jt,↓reduceIte,zvs,reduceCtorEq,Nat.reduceEqDiff,Nat.reduceAdd,Nat.reduceLeDiff,Nat.reduceMul,Int.reduceBNe,Int.reduceBEq,Int.reduceEq,Int.reduceNe,Int.reduceLT,Int.reduceLE,Int.reduceGT,Int.reduceGE,Int.reduceNeg,Int.reduceToNat,Nat.reduceLT,Nat.reduceSub,tab,Try.results126,jTA])|(simp (disch:=omega) only [ziw]))
  refine ok_loop (fun k : Nat => ⟨slots [(1, .int .i64 f), (2, .ptr 0 []), (4, .int .i64 0), (5, .int .i64 (usersN (m.pr.take k) f)), (11, encPrs m.pr), (12, .int .i64 m.pr.length), (13, .int .i64 k)], rows [(0, .row machSh (encM m))], 1⟩) (fun k => k ≤ m.pr.length) (fun k => m.pr.length - k) 0 ?_ (Nat.zero_le _) (fun k hk => ?_)
  · (refine yrn [(0, 0)] false ?_ ?_<;>(repeat' (first|(with_reducible first|exact ya1|exact ya2|exact ya3|refine jx rfl (by first|rfl|assumption|(simp only [znl,znN5];(first|done|fail)))|exact ya5|exact ya7|exact jy|exact jz|refine jA ?_|refine ya9 ?_ ?_ ?_|refine jC rfl (by first|rfl|assumption|(simp only [znl,znN5];(first|done|fail)))|refine MR.agg (MRL.cons ?_ ?_)|refine MR.fn ?_|refine MRL.cons ?_ ?_|exact MRL.nil|refine jE ?_ ?_|exact jF|exact jG|refine yb1 ?_ ?_|refine MB.row ?_|refine jI ?_ ?_|exact ya8|refine jJ rfl (by first|rfl|assumption|(simp only [znl,znN5];(first|done|fail)))|refine yb2 ?_|rfl)|(simp only [znl,znN5];(first|done|fail))|(simp only [↓reduceIte,zlk,Nat.reduceEqDiff,reduceCtorEq])|(with_reducible first|refine jJ ?_ ?_|refine ya5 ?_|refine ju ?_|refine jv ?_|refine jw ?_|refine jx ?_ (by first|rfl|assumption|(simp only [znl,znN5];(first|done|fail)))|refine jC ?_ (by first|rfl|assumption|(simp only [znl,znN5];(first|done|fail)))))))
    all_goals (first | rfl | (simp; done))
  have hUk := hU k hk
  by_cases hlt : k < m.pr.length
  · have hb := hpR _ (getD_mem' hlt)
    obtain ⟨hS1, hS2, hS3⟩ := pr3 hb
    have e1 := take_snoc m.pr k hlt
    have e2 := usersN_snoc (m.pr.take k) (m.pr.getD k default) f
    rw [← e1] at e2
    have hsl := hb.sp
    have hsR := hb.spR
    repeat' (first|(with_reducible first|refine yrl (by constructor) ?_|refine jk (fun M hM=>?_)|(refine hM _ ?_;clear hM M)|refine xb3 (by decide) ?_|refine yqa (by assumption) ?_ ?_|refine yqb (by assumption) ?_ ?_)|((with_reducible refine je ?_)<;>(first|rfl|assumption|(simp only [znl,znN5];(first|done|fail))))|(with_reducible refine jf (by (simp only [↓reduceIte,zlk,Nat.reduceEqDiff,reduceCtorEq]);exact rfl) ?_)|((with_reducible first|refine jg (fun hc=>?_) (fun hc=>?_)|refine jh (fun hc=>?_) (fun hc=>?_))<;>(try simp (disch:=omega) only [zhb] at hc)<;>(try (exfalso;omega))<;>(try subst hc))|(with_reducible refine ji (by omega) ?_)|(simp (config := { maxSteps := 400000 }) only [↓jt,↓reduceIte,zvs,reduceCtorEq,Nat.reduceEqDiff,Nat.reduceAdd,Nat.reduceLeDiff,Nat.reduceMul,Int.reduceBNe,Int.reduceBEq,Int.reduceEq,Int.reduceNe,Int.reduceLT,Int.reduceLE,Int.reduceGT,Int.reduceGE,Int.reduceNeg,Int.reduceToNat,Nat.reduceLT,Nat.reduceSub,tab,hS1,hS2,hS3,encPr,Try.results126,jTA])|(simp (disch:=omega) only [ziw]))
    refine ok_loop (fun j : Nat => ⟨slots [(1, .int .i64 f), (2, .ptr 0 []), (4, .int .i64 0), (5, .int .i64 ((usersN (m.pr.take k) f : Int) + usersS f ((m.pr.getD k default).sp.take j))), (11, encPrs m.pr), (12, .int .i64 m.pr.length), (13, .int .i64 k), (18, .agg ((m.pr.getD k default).sp.map encPte)), (19, .int .i64 j)], rows [(0, .row machSh (encM m))], 1⟩) (fun j => j ≤ 16) (fun j => 16 - j) 0 ?_ (Nat.zero_le _) (fun j hj => ?_)
    · (refine yrn [(0, 0)] false ?_ ?_<;>(repeat' (first|(with_reducible first|exact ya1|exact ya2|exact ya3|refine jx rfl (by first|rfl|assumption|(simp only [znl,znN5];(first|done|fail)))|exact ya5|exact ya7|exact jy|exact jz|refine jA ?_|refine ya9 ?_ ?_ ?_|refine jC rfl (by first|rfl|assumption|(simp only [znl,znN5];(first|done|fail)))|refine MR.agg (MRL.cons ?_ ?_)|refine MR.fn ?_|refine MRL.cons ?_ ?_|exact MRL.nil|refine jE ?_ ?_|exact jF|exact jG|refine yb1 ?_ ?_|refine MB.row ?_|refine jI ?_ ?_|exact ya8|refine jJ rfl (by first|rfl|assumption|(simp only [znl,znN5];(first|done|fail)))|refine yb2 ?_|rfl)|(simp only [znl,znN5];(first|done|fail))|(simp only [↓reduceIte,zlk,Nat.reduceEqDiff,reduceCtorEq])|(with_reducible first|refine jJ ?_ ?_|refine ya5 ?_|refine ju ?_|refine jv ?_|refine jw ?_|refine jx ?_ (by first|rfl|assumption|(simp only [znl,znN5];(first|done|fail)))|refine jC ?_ (by first|rfl|assumption|(simp only [znl,znN5];(first|done|fail)))))))
      all_goals (first | rfl | (simp [usersS]; done))
    have hUj := usersS_le f ((m.pr.getD k default).sp.take j)
    rw [List.length_take] at hUj
    by_cases hjlt : j < 16
    · have hpb := hsR _ (getD_mem' (show j < (m.pr.getD k default).sp.length by omega))
      have e3 := take_snoc (m.pr.getD k default).sp j (by omega)
      have e4 := usersS_snoc f ((m.pr.getD k default).sp.take j) ((m.pr.getD k default).sp.getD j default)
      rw [← e3] at e4
      by_cases hq : ((m.pr.getD k default).sp.getD j default).is = true ∧ ((m.pr.getD k default).sp.getD j default).fr = f
      · rw [if_pos hq] at e4
        obtain ⟨q1, q2⟩ := hq
        repeat' (first|(with_reducible first|refine yrl (by constructor) ?_|refine jk (fun M hM=>?_)|(refine hM _ ?_;clear hM M)|refine xb3 (by decide) ?_|refine yqa (by assumption) ?_ ?_|refine yqb (by assumption) ?_ ?_)|((with_reducible refine je ?_)<;>(first|rfl|assumption|(simp only [znl,znN5];(first|done|fail))))|(with_reducible refine jf (by (simp only [↓reduceIte,zlk,Nat.reduceEqDiff,reduceCtorEq]);exact rfl) ?_)|((with_reducible first|refine jg (fun hc=>?_) (fun hc=>?_)|refine jh (fun hc=>?_) (fun hc=>?_))<;>(try simp (disch:=omega) only [zhb] at hc)<;>(try (exfalso;omega))<;>(try subst hc))|(with_reducible refine ji (by omega) ?_)|(simp (config := { maxSteps := 400000 }) only [↓jt,↓reduceIte,zvs,reduceCtorEq,Nat.reduceEqDiff,Nat.reduceAdd,Nat.reduceLeDiff,Nat.reduceMul,Int.reduceBNe,Int.reduceBEq,Int.reduceEq,Int.reduceNe,Int.reduceLT,Int.reduceLE,Int.reduceGT,Int.reduceGE,Int.reduceNeg,Int.reduceToNat,Nat.reduceLT,Nat.reduceSub,tab,hS1,hS2,hS3,encPte,q1,Try.results126,jTA])|(simp (disch:=omega) only [ziw]))
        all_goals first
          | (exfalso; omega)
          | (refine xl1 (j + 1) ?_ (by show j + 1 ≤ 16; omega) (by show 16 - (j + 1) < 16 - j; omega); (refine yrn [(0, 0)] false ?_ ?_<;>(repeat' (first|(with_reducible first|exact ya1|exact ya2|exact ya3|refine jx rfl (by first|rfl|assumption|(simp only [znl,znN5];(first|done|fail)))|exact ya5|exact ya7|exact jy|exact jz|refine jA ?_|refine ya9 ?_ ?_ ?_|refine jC rfl (by first|rfl|assumption|(simp only [znl,znN5];(first|done|fail)))|refine MR.agg (MRL.cons ?_ ?_)|refine MR.fn ?_|refine MRL.cons ?_ ?_|exact MRL.nil|refine jE ?_ ?_|exact jF|exact jG|refine yb1 ?_ ?_|refine MB.row ?_|refine jI ?_ ?_|exact ya8|refine jJ rfl (by first|rfl|assumption|(simp only [znl,znN5];(first|done|fail)))|refine yb2 ?_|rfl)|(simp only [znl,znN5];(first|done|fail))|(simp only [↓reduceIte,zlk,Nat.reduceEqDiff,reduceCtorEq])|(with_reducible first|refine jJ ?_ ?_|refine ya5 ?_|refine ju ?_|refine jv ?_|refine jw ?_|refine jx ?_ (by first|rfl|assumption|(simp only [znl,znN5];(first|done|fail)))|refine jC ?_ (by first|rfl|assumption|(simp only [znl,znN5];(first|done|fail))))))); all_goals (rw [e4]; omega))
      · rw [if_neg hq] at e4
        cases hi : ((m.pr.getD k default).sp.getD j default).is with
        | true =>
          have hq2 : ((m.pr.getD k default).sp.getD j default).fr ≠ f := fun h => hq ⟨hi, h⟩
          repeat' (first|(with_reducible first|refine yrl (by constructor) ?_|refine jk (fun M hM=>?_)|(refine hM _ ?_;clear hM M)|refine xb3 (by decide) ?_|refine yqa (by assumption) ?_ ?_|refine yqb (by assumption) ?_ ?_)|((with_reducible refine je ?_)<;>(first|rfl|assumption|(simp only [znl,znN5];(first|done|fail))))|(with_reducible refine jf (by (simp only [↓reduceIte,zlk,Nat.reduceEqDiff,reduceCtorEq]);exact rfl) ?_)|((with_reducible first|refine jg (fun hc=>?_) (fun hc=>?_)|refine jh (fun hc=>?_) (fun hc=>?_))<;>(try simp (disch:=omega) only [zhb] at hc)<;>(try (exfalso;omega))<;>(try subst hc))|(with_reducible refine ji (by omega) ?_)|(simp (config := { maxSteps := 400000 }) only [↓jt,↓reduceIte,zvs,reduceCtorEq,Nat.reduceEqDiff,Nat.reduceAdd,Nat.reduceLeDiff,Nat.reduceMul,Int.reduceBNe,Int.reduceBEq,Int.reduceEq,Int.reduceNe,Int.reduceLT,Int.reduceLE,Int.reduceGT,Int.reduceGE,Int.reduceNeg,Int.reduceToNat,Nat.reduceLT,Nat.reduceSub,tab,hS1,hS2,hS3,encPte,hi,Try.results126,jTA])|(simp (disch:=omega) only [ziw]))
          all_goals first
            | (exfalso; omega)
            | (refine xl1 (j + 1) ?_ (by show j + 1 ≤ 16; omega) (by show 16 - (j + 1) < 16 - j; omega); (refine yrn [(0, 0)] false ?_ ?_<;>(repeat' (first|(with_reducible first|exact ya1|exact ya2|exact ya3|refine jx rfl (by first|rfl|assumption|(simp only [znl,znN5];(first|done|fail)))|exact ya5|exact ya7|exact jy|exact jz|refine jA ?_|refine ya9 ?_ ?_ ?_|refine jC rfl (by first|rfl|assumption|(simp only [znl,znN5];(first|done|fail)))|refine MR.agg (MRL.cons ?_ ?_)|refine MR.fn ?_|refine MRL.cons ?_ ?_|exact MRL.nil|refine jE ?_ ?_|exact jF|exact jG|refine yb1 ?_ ?_|refine MB.row ?_|refine jI ?_ ?_|exact ya8|refine jJ rfl (by first|rfl|assumption|(simp only [znl,znN5];(first|done|fail)))|refine yb2 ?_|rfl)|(simp only [znl,znN5];(first|done|fail))|(simp only [↓reduceIte,zlk,Nat.reduceEqDiff,reduceCtorEq])|(with_reducible first|refine jJ ?_ ?_|refine ya5 ?_|refine ju ?_|refine jv ?_|refine jw ?_|refine jx ?_ (by first|rfl|assumption|(simp only [znl,znN5];(first|done|fail)))|refine jC ?_ (by first|rfl|assumption|(simp only [znl,znN5];(first|done|fail))))))); all_goals (rw [e4]; omega))
            | (exfalso; exact absurd hc hq2)
        | false =>
          repeat' (first|(with_reducible first|refine yrl (by constructor) ?_|refine jk (fun M hM=>?_)|(refine hM _ ?_;clear hM M)|refine xb3 (by decide) ?_|refine yqa (by assumption) ?_ ?_|refine yqb (by assumption) ?_ ?_)|((with_reducible refine je ?_)<;>(first|rfl|assumption|(simp only [znl,znN5];(first|done|fail))))|(with_reducible refine jf (by (simp only [↓reduceIte,zlk,Nat.reduceEqDiff,reduceCtorEq]);exact rfl) ?_)|((with_reducible first|refine jg (fun hc=>?_) (fun hc=>?_)|refine jh (fun hc=>?_) (fun hc=>?_))<;>(try simp (disch:=omega) only [zhb] at hc)<;>(try (exfalso;omega))<;>(try subst hc))|(with_reducible refine ji (by omega) ?_)|(simp (config := { maxSteps := 400000 }) only [↓jt,↓reduceIte,zvs,reduceCtorEq,Nat.reduceEqDiff,Nat.reduceAdd,Nat.reduceLeDiff,Nat.reduceMul,Int.reduceBNe,Int.reduceBEq,Int.reduceEq,Int.reduceNe,Int.reduceLT,Int.reduceLE,Int.reduceGT,Int.reduceGE,Int.reduceNeg,Int.reduceToNat,Nat.reduceLT,Nat.reduceSub,tab,hS1,hS2,hS3,encPte,hi,Try.results126,jTA])|(simp (disch:=omega) only [ziw]))
          all_goals first
            | (exfalso; omega)
            | (refine xl1 (j + 1) ?_ (by show j + 1 ≤ 16; omega) (by show 16 - (j + 1) < 16 - j; omega); (refine yrn [(0, 0)] false ?_ ?_<;>(repeat' (first|(with_reducible first|exact ya1|exact ya2|exact ya3|refine jx rfl (by first|rfl|assumption|(simp only [znl,znN5];(first|done|fail)))|exact ya5|exact ya7|exact jy|exact jz|refine jA ?_|refine ya9 ?_ ?_ ?_|refine jC rfl (by first|rfl|assumption|(simp only [znl,znN5];(first|done|fail)))|refine MR.agg (MRL.cons ?_ ?_)|refine MR.fn ?_|refine MRL.cons ?_ ?_|exact MRL.nil|refine jE ?_ ?_|exact jF|exact jG|refine yb1 ?_ ?_|refine MB.row ?_|refine jI ?_ ?_|exact ya8|refine jJ rfl (by first|rfl|assumption|(simp only [znl,znN5];(first|done|fail)))|refine yb2 ?_|rfl)|(simp only [znl,znN5];(first|done|fail))|(simp only [↓reduceIte,zlk,Nat.reduceEqDiff,reduceCtorEq])|(with_reducible first|refine jJ ?_ ?_|refine ya5 ?_|refine ju ?_|refine jv ?_|refine jw ?_|refine jx ?_ (by first|rfl|assumption|(simp only [znl,znN5];(first|done|fail)))|refine jC ?_ (by first|rfl|assumption|(simp only [znl,znN5];(first|done|fail))))))); all_goals (rw [e4]; omega))
    · obtain rfl : j = 16 := by omega
      have e5 : (m.pr.getD k default).sp.take 16 = (m.pr.getD k default).sp := List.take_of_length_le (by omega)
      rw [e5] at *
      repeat' (first|(with_reducible first|refine yrl (by constructor) ?_|refine jk (fun M hM=>?_)|(refine hM _ ?_;clear hM M)|refine xb3 (by decide) ?_|refine yqa (by assumption) ?_ ?_|refine yqb (by assumption) ?_ ?_)|((with_reducible refine je ?_)<;>(first|rfl|assumption|(simp only [znl,znN5];(first|done|fail))))|(with_reducible refine jf (by (simp only [↓reduceIte,zlk,Nat.reduceEqDiff,reduceCtorEq]);exact rfl) ?_)|((with_reducible first|refine jg (fun hc=>?_) (fun hc=>?_)|refine jh (fun hc=>?_) (fun hc=>?_))<;>(try simp (disch:=omega) only [zhb] at hc)<;>(try (exfalso;omega))<;>(try subst hc))|(with_reducible refine ji (by omega) ?_)|(simp (config := { maxSteps := 400000 }) only [↓jt,↓reduceIte,zvs,reduceCtorEq,Nat.reduceEqDiff,Nat.reduceAdd,Nat.reduceLeDiff,Nat.reduceMul,Int.reduceBNe,Int.reduceBEq,Int.reduceEq,Int.reduceNe,Int.reduceLT,Int.reduceLE,Int.reduceGT,Int.reduceGE,Int.reduceNeg,Int.reduceToNat,Nat.reduceLT,Nat.reduceSub,tab,hS1,hS2,hS3,Try.results126,jTA])|(simp (disch:=omega) only [ziw]))
      all_goals first
        | (refine xl1 (k + 1) ?_ (by show k + 1 ≤ m.pr.length; omega) (by show m.pr.length - (k + 1) < m.pr.length - k; omega); (refine yrn [(0, 0)] false ?_ ?_<;>(repeat' (first|(with_reducible first|exact ya1|exact ya2|exact ya3|refine jx rfl (by first|rfl|assumption|(simp only [znl,znN5];(first|done|fail)))|exact ya5|exact ya7|exact jy|exact jz|refine jA ?_|refine ya9 ?_ ?_ ?_|refine jC rfl (by first|rfl|assumption|(simp only [znl,znN5];(first|done|fail)))|refine MR.agg (MRL.cons ?_ ?_)|refine MR.fn ?_|refine MRL.cons ?_ ?_|exact MRL.nil|refine jE ?_ ?_|exact jF|exact jG|refine yb1 ?_ ?_|refine MB.row ?_|refine jI ?_ ?_|exact ya8|refine jJ rfl (by first|rfl|assumption|(simp only [znl,znN5];(first|done|fail)))|refine yb2 ?_|rfl)|(simp only [znl,znN5];(first|done|fail))|(simp only [↓reduceIte,zlk,Nat.reduceEqDiff,reduceCtorEq])|(with_reducible first|refine jJ ?_ ?_|refine ya5 ?_|refine ju ?_|refine jv ?_|refine jw ?_|refine jx ?_ (by first|rfl|assumption|(simp only [znl,znN5];(first|done|fail)))|refine jC ?_ (by first|rfl|assumption|(simp only [znl,znN5];(first|done|fail))))))); all_goals (rw [e2]; omega))
  · obtain rfl : k = m.pr.length := by omega
    rw [List.take_length] at *
    repeat' (first|(with_reducible first|refine yrl (by constructor) ?_|refine jk (fun M hM=>?_)|(refine hM _ ?_;clear hM M)|refine xb3 (by decide) ?_|refine yqa (by assumption) ?_ ?_|refine yqb (by assumption) ?_ ?_)|((with_reducible refine je ?_)<;>(first|rfl|assumption|(simp only [znl,znN5];(first|done|fail))))|(with_reducible refine jf (by (simp only [↓reduceIte,zlk,Nat.reduceEqDiff,reduceCtorEq]);exact rfl) ?_)|((with_reducible first|refine jg (fun hc=>?_) (fun hc=>?_)|refine jh (fun hc=>?_) (fun hc=>?_))<;>(try simp (disch:=omega) only [zhb] at hc)<;>(try (exfalso;omega))<;>(try subst hc))|(with_reducible refine ji (by omega) ?_)|(simp (config := { maxSteps := 400000 }) only [↓jt,↓reduceIte,zvs,reduceCtorEq,Nat.reduceEqDiff,Nat.reduceAdd,Nat.reduceLeDiff,Nat.reduceMul,Int.reduceBNe,Int.reduceBEq,Int.reduceEq,Int.reduceNe,Int.reduceLT,Int.reduceLE,Int.reduceGT,Int.reduceGE,Int.reduceNeg,Int.reduceToNat,Nat.reduceLT,Nat.reduceSub,tab,List.take_length,Try.results126,jTA])|(simp (disch:=omega) only [ziw]))
    all_goals first
      | (simp only [zrds]; rw [hR]; done)
      | (simp only [zrds]; omega)
end Go.Proofs.Ytpdhdkpebbfnnaa.V
end
section
namespace Go.Proofs.Ytpdhdkpebbfnnaa.V
open Go
set_option maxRecDepth 100000
set_option maxHeartbeats 1000000
end Go.Proofs.Ytpdhdkpebbfnnaa.V
end
section
namespace Go.Proofs.Ytpdhdkpebbfnnaa.V
open Go
set_option maxRecDepth 100000
set_option maxHeartbeats 8000000
def headP (next pid st r0 par why n code : Int) (lb : Prop) : Prop :=
  1 ≤ pid ∧ pid < next ∧ (st = 1 ∨ st = 2 ∨ st = 3) ∧ r0 = 0 ∧ (lb ∨ (st ≠ 3 ∧ par = 0)) ∧ (st = 2 ↔ why ≠ 0) ∧ 0 ≤ why ∧ why ≤ 5 ∧ (st = 2 ∨ n = 0) ∧ (st = 3 ∨ code = 0)
theorem procH_iff (m : Mach) (p : Pr) : procH m p = true ↔ headP m.next p.pid p.st (p.rs.getD 0 default) p.par p.why p.n p.code (livesB m.pr p.par = true) := by
  unfold procH headP
  rw [show p.rs.getD 0 default = p.rs.getD 0 0 from rfl]
  cases livesB m.pr p.par
  · simp only [true_and,Bool.false_eq_true,false_or]
    (repeat' split)
    all_goals (simp only [Bool.false_eq_true,false_iff,true_iff]; omega)
  · simp only [Bool.true_eq_false,false_and,if_false,true_or,true_and]
    (repeat' split)
    all_goals (simp only [Bool.false_eq_true,false_iff,true_iff]; omega)
theorem fit_pt (a b : Bool) (c : Int) : Fit (EQ.st [EQ.bool, EQ.bool, EQ.int .i64]) (.agg [.bool a, .bool b, .int .i64 c]) := by simp [Fit, FitL]
theorem veq_pt (a b a' b' : Bool) (c c' : Int) : veq (.agg [.bool a, .bool b, .int .i64 c]) (.agg [.bool a', .bool b', .int .i64 c']) = ((a == a') && ((b == b') && (c == c'))) := by
  simp only [veq,veqs,Bool.and_true]
abbrev encPrA (p : Pr) : VV := .agg [.int .i64 p.pid, .int .i64 p.par, .int .i64 p.st, .agg [.agg (p.rs.map (.int .u32)), .int .u32 p.pc], .agg (p.sp.map encPte), .agg (p.fds.map encFd), .bool p.mask, .int .u32 p.code, .int .i64 p.why, .int .u64 p.n]
theorem pteB_is {m : Mach} {p : Pr} {x : Pte} (h : x.is = true) : pteB m p x = true ↔ (p.st ≠ 3 ∧ 0 ≤ x.fr ∧ x.fr < m.fr.length ∧ usersN m.pr x.fr = 1) := by
  unfold pteB; rw [if_pos h, decide_eq_true_eq]
theorem pteB_no {m : Mach} {p : Pr} {x : Pte} (h : x.is = false) : pteB m p x = true ↔ (x.wr = false ∧ x.fr = 0) := by
  unfold pteB; rw [if_neg (by rw [h]; simp), decide_eq_true_eq]
end Go.Proofs.Ytpdhdkpebbfnnaa.V
end
section
namespace Go.Proofs.Ytpdhdkpebbfnnaa.V
open Go Go.RowKit

def Does2 (P : Program) (env tmF : Nat → VV) (G : Heap) (n : Nat) (o : Oper) : Prop :=
  ∃ v n', (∀ t, o.dst = some t → tmF t = v) ∧ n ≤ n' ∧ n' ≤ n + 64 ∧ ∀ e' K', (∀ x ∈ o.op.operands.toList, e' x = ev env x) → K' v G n' → vopH P e' G n K' o
def Fact2 (P : Program) (ops : List Oper) (env tmF : Nat → VV) (G : Heap) (n : Nat) (o : Oper) : Prop :=
  (o.guard = none ∧ Does2 P env tmF G n o) ∨ ∃ g want d, o.guard = some (g, want) ∧ dstAt ops g = some d ∧
    ((env d = .bool want ∧ Does2 P env tmF G n o) ∨ ((env d = .bool (!want) ∨ env d = .raw undef) ∧ ∀ t, o.dst = some t → tmF t = .raw undef))
def rd2 (l : List Oper) (q : Nat) (tm tmF : Nat → VV) (t : Nat) : VV := if ((l.drop q).any fun o => o.dst == some t) = true then tm t else tmF t
def oneL : List Oper → Bool
  | [] => true
  | o :: l => (match o.dst with | some d => l.all fun o' => o'.dst != some d | none => true) && oneL l
theorem held2 {P : Program} {ops : Array Oper} {K : (Nat → VV) → Heap → Nat → Prop} : ∀ (l : List Oper) (tm : Nat → VV) (H : Heap) (n : Nat), oneL l = true → (∀ m, n ≤ m → H m = none) → vheld P ops.toList l tm H n K →
    ∃ tmF G, K tmF G (n + 64 * l.length) ∧ (∀ t, (∀ o ∈ l, o.dst ≠ some t) → tmF t = tm t) ∧ ((∀ m b, H m = some b → G m = some b) ∧ (∀ m, m < n → G m = H m)) ∧
      ∀ q o, l[q]? = some o → ∃ Hq : Heap, (∀ m, m < n → Hq m = H m) ∧ (∀ m, n + 64 * (q + 1) ≤ m → Hq m = none) ∧ (∀ m b, Hq m = some b → G m = some b) ∧
        ∀ G' : Heap, (∀ m b, Hq m = some b → G' m = some b) → Fact2 P ops.toList (rd2 l q tm tmF) tmF G' (n + 64 * q) o
  | [], tm, H, n, _, _, h => ⟨tm, H, h, fun _ _ => rfl, ⟨fun _ _ h => h, fun _ _ => rfl⟩, fun q o h => by simp at h⟩
  | o :: l, tm, H, n, hw, hn, h => by
    simp only [oneL,Bool.and_eq_true] at hw
    obtain ⟨hw1, hw3⟩ := hw
    have hd : ∀ d, o.dst = some d → ∀ o' ∈ l, o'.dst ≠ some d := fun d hd o' ho' => by
      rw [hd] at hw1
      simpa using (List.all_eq_true.1 hw1) o' ho'
    have hput : ∀ (tm' : Nat → VV) (v : VV) (t : Nat), o.dst ≠ some t → put o.dst v tm' t = tm' t := by
      intro tm' v t ht
      cases hod : o.dst with
      | none => rfl
      | some d => simp only [put,upd_ap]; rw [if_neg (by intro e; rw [e] at ht; exact ht hod)]
    have hrd0 : ∀ (tmF : Nat → VV), (∀ t, (∀ o' ∈ o :: l, o'.dst ≠ some t) → tmF t = tm t) → ∀ t, rd2 (o :: l) 0 tm tmF t = tm t := fun tmF h t => by
      unfold rd2
      split
      · rfl
      · rename_i hh
        refine h t fun o' ho' e => hh ?_
        rw [List.drop_zero, List.any_eq_true]
        exact ⟨o', ho', by simp [e]⟩
    have hrdS : ∀ (tmF : Nat → VV) (v : VV) (q : Nat) (t : Nat), rd2 l q (put o.dst v tm) tmF t = rd2 (o :: l) (q + 1) tm tmF t := fun tmF v q t => by
      unfold rd2
      rw [List.drop_succ_cons]
      split
      · rename_i hh
        rw [List.any_eq_true] at hh
        obtain ⟨o', ho', e⟩ := hh
        refine hput tm v t fun e2 => hd t e2 o' (List.mem_of_mem_drop ho') (by simpa using e)
      · rfl
    have done : vopH P (ev tm) H n (fun v H' n' => cnd (n' ≤ n + 64) (vheld P ops.toList l (put o.dst v tm) H' (n + 64) K)) o →
        ∃ tmF G, K tmF G (n + 64 * (l.length + 1)) ∧ (∀ t, (∀ o' ∈ o :: l, o'.dst ≠ some t) → tmF t = tm t) ∧ ((∀ m b, H m = some b → G m = some b) ∧ (∀ m, m < n → G m = H m)) ∧
          (∃ Hq : Heap, (∀ m, m < n → Hq m = H m) ∧ (∀ m, n + 64 ≤ m → Hq m = none) ∧ (∀ m b, Hq m = some b → G m = some b) ∧ ∀ G' : Heap, (∀ m b, Hq m = some b → G' m = some b) → Does2 P tm tmF G' n o) ∧
          ∀ q o', l[q]? = some o' → ∃ Hq : Heap, (∀ m, m < n → Hq m = H m) ∧ (∀ m, n + 64 + 64 * (q + 1) ≤ m → Hq m = none) ∧ (∀ m b, Hq m = some b → G m = some b) ∧
            ∀ G' : Heap, (∀ m b, Hq m = some b → G' m = some b) → Fact2 P ops.toList (rd2 (o :: l) (q + 1) tm tmF) tmF G' (n + 64 + 64 * q) o' := by
      intro h
      obtain ⟨v, H', n', ⟨hn', hk⟩, s1, s2, s3, s4⟩ := vopH_stable (hn n (Nat.le_refl _)) h
      have hn2 : ∀ m, n + 64 ≤ m → H' m = none := fun m hm => by rw [s3 m (.inr (by omega))]; exact hn m (by omega)
      obtain ⟨tmF, G, k1, k2, k3, k4⟩ := held2 l (put o.dst v tm) H' (n + 64) hw3 hn2 hk
      refine ⟨tmF, G, by rw [show n + 64 * (l.length + 1) = n + 64 + 64 * l.length by omega]; exact k1, fun t ht => ?_, ⟨fun m b hm => k3.1 m b (s2 m b hm), fun m hm => by rw [k3.2 m (by omega), s3 m (.inl hm)]⟩, ?_, fun q o' ho' => ?_⟩
      · rw [k2 t (fun o' ho' => ht o' (by simp [ho'])), hput tm v t (ht o (by simp))]
      · refine ⟨H', fun m hm => s3 m (.inl hm), hn2, k3.1, fun G' hG' => ⟨v, n', fun t ht => ?_, s1, hn', fun e' K' he hK => s4 e' G' K' (fun x hx => he x hx) hG' hK⟩⟩
        rw [k2 t (hd t ht), ht]
        simp [put, upd_ap]
      · obtain ⟨Hq, q1, q2, q3, q4⟩ := k4 q o' ho'
        refine ⟨Hq, fun m hm => by rw [q1 m (by omega), s3 m (.inl hm)], q2, q3, fun G' hG' => ?_⟩
        have := q4 G' hG'
        rw [show rd2 l q (put o.dst v tm) tmF = rd2 (o :: l) (q + 1) tm tmF from funext (hrdS tmF v q)] at this
        exact this
    have skip : vheld P ops.toList l (put o.dst (.raw undef) tm) H (n + 64) K →
        ∃ tmF G, K tmF G (n + 64 * (l.length + 1)) ∧ (∀ t, (∀ o' ∈ o :: l, o'.dst ≠ some t) → tmF t = tm t) ∧ ((∀ m b, H m = some b → G m = some b) ∧ (∀ m, m < n → G m = H m)) ∧ (∀ t, o.dst = some t → tmF t = .raw undef) ∧
          ∀ q o', l[q]? = some o' → ∃ Hq : Heap, (∀ m, m < n → Hq m = H m) ∧ (∀ m, n + 64 + 64 * (q + 1) ≤ m → Hq m = none) ∧ (∀ m b, Hq m = some b → G m = some b) ∧
            ∀ G' : Heap, (∀ m b, Hq m = some b → G' m = some b) → Fact2 P ops.toList (rd2 (o :: l) (q + 1) tm tmF) tmF G' (n + 64 + 64 * q) o' := by
      intro h
      obtain ⟨tmF, G, k1, k2, k3, k4⟩ := held2 l _ H (n + 64) hw3 (fun m hm => hn m (by omega)) h
      refine ⟨tmF, G, by rw [show n + 64 * (l.length + 1) = n + 64 + 64 * l.length by omega]; exact k1, fun t ht => ?_, ⟨k3.1, fun m hm => k3.2 m (by omega)⟩, fun t ht => ?_, fun q o' ho' => ?_⟩
      · rw [k2 t (fun o' ho' => ht o' (by simp [ho'])), hput tm _ t (ht o (by simp))]
      · rw [k2 t (hd t ht), ht]
        simp [put, upd_ap]
      · obtain ⟨Hq, q1, q2, q3, q4⟩ := k4 q o' ho'
        refine ⟨Hq, fun m hm => q1 m (by omega), q2, q3, fun G' hG' => ?_⟩
        have := q4 G' hG'
        rw [show rd2 l q (put o.dst (.raw undef) tm) tmF = rd2 (o :: l) (q + 1) tm tmF from funext (hrdS tmF _ q)] at this
        exact this
    -- the parts together
    have tie : ∀ (tmF : Nat → VV) (G : Heap), K tmF G (n + 64 * (l.length + 1)) → (∀ t, (∀ o' ∈ o :: l, o'.dst ≠ some t) → tmF t = tm t) → ((∀ m b, H m = some b → G m = some b) ∧ (∀ m, m < n → G m = H m)) →
        (∃ Hq : Heap, (∀ m, m < n → Hq m = H m) ∧ (∀ m, n + 64 ≤ m → Hq m = none) ∧ (∀ m b, Hq m = some b → G m = some b) ∧ ∀ G' : Heap, (∀ m b, Hq m = some b → G' m = some b) → Fact2 P ops.toList tm tmF G' n o) →
        (∀ q o', l[q]? = some o' → ∃ Hq : Heap, (∀ m, m < n → Hq m = H m) ∧ (∀ m, n + 64 + 64 * (q + 1) ≤ m → Hq m = none) ∧ (∀ m b, Hq m = some b → G m = some b) ∧
            ∀ G' : Heap, (∀ m b, Hq m = some b → G' m = some b) → Fact2 P ops.toList (rd2 (o :: l) (q + 1) tm tmF) tmF G' (n + 64 + 64 * q) o') →
        ∃ tmF G, K tmF G (n + 64 * (o :: l).length) ∧ (∀ t, (∀ o' ∈ o :: l, o'.dst ≠ some t) → tmF t = tm t) ∧ ((∀ m b, H m = some b → G m = some b) ∧ (∀ m, m < n → G m = H m)) ∧
          ∀ q o', (o :: l)[q]? = some o' → ∃ Hq : Heap, (∀ m, m < n → Hq m = H m) ∧ (∀ m, n + 64 * (q + 1) ≤ m → Hq m = none) ∧ (∀ m b, Hq m = some b → G m = some b) ∧
            ∀ G' : Heap, (∀ m b, Hq m = some b → G' m = some b) → Fact2 P ops.toList (rd2 (o :: l) q tm tmF) tmF G' (n + 64 * q) o' := by
      intro tmF G k1 k2 k3 k4 k5
      refine ⟨tmF, G, k1, k2, k3, fun q o' ho' => ?_⟩
      cases q with
      | zero =>
        simp only [List.getElem?_cons_zero,Option.some.injEq] at ho'
        subst ho'
        obtain ⟨Hq, q1, q2, q3, q4⟩ := k4
        refine ⟨Hq, q1, fun m hm => q2 m (by omega), q3, fun G' hG' => ?_⟩
        have := q4 G' hG'
        rw [show tm = rd2 (o :: l) 0 tm tmF from (funext (hrd0 tmF k2)).symm] at this
        exact this
      | succ q =>
        simp only [List.getElem?_cons_succ] at ho'
        obtain ⟨Hq, q1, q2, q3, q4⟩ := k5 q o' ho'
        exact ⟨Hq, q1, fun m hm => q2 m (by omega), q3, fun G' hG' => by
          have := q4 G' hG'
          rwa [show n + 64 + 64 * q = n + 64 * (q + 1) by omega] at this⟩
    simp only [vheld] at h
    split at h
    · rename_i hg
      obtain ⟨tmF, G, k1, k2, k3, ⟨Hq, q1, q2, q3, q4⟩, k5⟩ := done h
      exact tie tmF G k1 k2 k3 ⟨Hq, q1, q2, q3, fun G' hG' => .inl ⟨hg, q4 G' hG'⟩⟩ k5
    · rename_i g want hg
      obtain ⟨d, hdg, h⟩ := bnd_iff.1 h
      unfold onV at h
      dsimp only at h
      split at h
      · rename_i b hb
        obtain ⟨h1, h2⟩ := h
        by_cases hbw : (b == want) = true
        · have hbe : b = want := by simpa using hbw
          subst hbe
          have hu := upd_same hb
          have h1 := h1 hbw
          rw [hu] at h1
          obtain ⟨tmF, G, k1, k2, k3, ⟨Hq, q1, q2, q3, q4⟩, k5⟩ := done h1
          exact tie tmF G k1 k2 k3 ⟨Hq, q1, q2, q3, fun G' hG' => .inr ⟨g, b, d, hg, hdg, .inl ⟨hb, q4 G' hG'⟩⟩⟩ k5
        · have hbf : (b == want) = false := by simpa using hbw
          have hbe : b = !want := by cases b <;> cases want <;> simp_all
          subst hbe
          have hu := upd_same hb
          have h2 := h2 hbf
          rw [hu] at h2
          obtain ⟨tmF, G, k1, k2, k3, k4, k5⟩ := skip h2
          exact tie tmF G k1 k2 k3 ⟨H, fun _ _ => rfl, fun m hm => hn m (by omega), k3.1, fun G' hG' => .inr ⟨g, want, d, hg, hdg, .inr ⟨.inl hb, k4⟩⟩⟩ k5
      · rename_i u hb
        obtain ⟨rfl, h⟩ := h
        obtain ⟨tmF, G, k1, k2, k3, k4, k5⟩ := skip h
        exact tie tmF G k1 k2 k3 ⟨H, fun _ _ => rfl, fun m hm => hn m (by omega), k3.1, fun G' hG' => .inr ⟨g, want, d, hg, hdg, .inr ⟨.inr hb, k4⟩⟩⟩ k5
      · exact h.elim
def dstB (ops : Array Oper) (j t : Nat) : Bool := match ops[j]? with
  | some o => o.dst == some t
  | none => false
theorem dstB_iff {ops : Array Oper} {j t : Nat} : dstB ops j t = true ↔ ∃ o, ops[j]? = some o ∧ o.dst = some t := by
  unfold dstB
  split
  · rename_i o ho
    simp [ho]
  · rename_i ho; simp [ho]
def Fr2 (nx : Nat) (perm : List Nat) (listed : Array Bool) (m : Nat) : Prop := nx ≤ m ∧ ∀ (q : Nat) i, perm[q]? = some i → nx + 64 * q ≤ m → m < nx + 64 * q + 64 → listed.getD i false = false
def tmQ (ops : Array Oper) (listed : Array Bool) (k : Nat) (tm0 tmF : Nat → VV) (t : Nat) : VV := if pendB ops listed k t = true then tm0 t else tmF t
section
variable {P : Program} {N : NN} {B : Nat} {ρ0 : Names} {w0 : World} {ops : Array Oper} {k nx js : Nat} {perm : List Nat} {tm0 tmF : Nat → VV} {GA GB : Heap} {env : Nat → Nat → VV} {K : VS → Prop} {Q : Exit → Act → World → Prop}
theorem head2 (hk9 : k ≤ ops.size ∧ ops.size ≤ 1000000) (hd : ∀ o ∈ ops.toList, ∀ t, o.dst = some t → t < N)
    (hreach : ∀ j o, k ≤ j → ops[j]? = some o → (∀ i, i < j → reachB ops ops.size o i = true) ∧ ∀ e ∈ o.after, Region.binds .any e = true → e.on < j)
    (hb : ∀ j o, j < k → ops[j]? = some o → ∀ e ∈ o.after, Region.binds .any e = true → e.on < j)
    (hperm : ∀ i, i < k → i ≠ js → ∃ q : Nat, perm[q]? = some i)
    (hpk : ∀ (q : Nat) i, perm[q]? = some i → i < k ∧ i ≠ js)
    (hpl : perm.length ≤ k)
    (huniq : ∀ (q r : Nat) i, perm[q]? = some i → perm[r]? = some i → q = r)
    (hone : ∀ i j t, i < k → j < k → i ≠ j → dstB ops i t = true → dstB ops j t = false)
    (henv : ∀ (q : Nat) i o t, perm[q]? = some i → ops[i]? = some o → t ∈ o.looksAt ops → ∀ listed, listed.getD i false = false → Closed ops listed → (∀ e ∈ o.after, Region.binds .any e = true → listed.getD e.on false = true) → tmQ ops listed k tm0 tmF t = env q t)
    (hA : ∀ (q : Nat) i o, perm[q]? = some i → ops[i]? = some o → Fact2 P ops.toList (env q) tmF GA (nx + 64 * q) o)
    (hB : ∀ (q : Nat) i o, perm[q]? = some i → ops[i]? = some o → (∃ oj, ops[js]? = some oj ∧ reachB ops ops.size oj i = true) ∨ Fact2 P ops.toList (env q) tmF GB (nx + 64 * q) o)
    (hS : js < k → ∀ o, ops[js]? = some o → o.dst = none ∧ o.guard = none ∧ ∃ t y x, o.op = .store t y x ∧ (∀ listed, Closed ops listed → (∀ e ∈ o.after, Region.binds .any e = true → listed.getD e.on false = true) → ∀ z ∈ o.op.operands.toList, ev (tmQ ops listed k tm0 tmF) z = ev tmF z) ∧ (∀ z, z = y ∨ z = x → z ∈ o.op.operands.toList) ∧ vStore P (ev tmF) GA 0 (fun v G n => v = .any ∧ G = GB ∧ n = 0) t y x)
    (hGG : k ≤ js → GA = GB)
    (htail : vlist P ops.toList (ops.toList.drop k) ⟨tmF, GB, nx + 64 * k⟩ K)
    (next : ∀ S' a' w' ρ', K S' → SR N B ρ0 w0 S' a' w' ρ' → Q .normal a' w') :
    ∀ (fuel : Nat) (listed : Array Bool) (a : Act) (w : World) (ρ : Names), ops.size ≤ cnt listed k + fuel → listed.size = ops.size → (∀ i, k ≤ i → listed.getD i false = false) → Closed ops listed →
      TM ρ w (tmQ ops listed k tm0 tmF) a → a.defers = N.ds → a.tmps.size = N → HR (ZF (Fr2 nx perm listed)) B ρ (if listed.getD js false = true then GB else GA) 0 w → Below B w0 w → Ext ρ0 w0 ρ w → wpAny P .any ops Q fuel listed a w := by
  have fin : ∀ (fuel : Nat) (listed : Array Bool) (a : Act) (w : World) (ρ : Names), ops.size ≤ k + fuel → (∀ i, i < k → listed.getD i false = true) → listed.size = ops.size → (∀ i, k ≤ i → listed.getD i false = false) → Closed ops listed →
      TM ρ w (tmQ ops listed k tm0 tmF) a → a.defers = N.ds → a.tmps.size = N → HR (ZF (Fr2 nx perm listed)) B ρ (if listed.getD js false = true then GB else GA) 0 w → Below B w0 w → Ext ρ0 w0 ρ w → wpAny P .any ops Q fuel listed a w := by
    intro fuel listed a w ρ hf hall hsz hl hc hT hdf hts hh hbl he
    have hTF : TM ρ w tmF a := fun t => by
      have := hT t
      unfold tmQ at this
      rw [if_neg (by intro e; obtain ⟨j, h1, h2, _⟩ := pendB_true.1 e; rw [hall j h1] at h2; cases h2)] at this
      exact this
    have hG : (if listed.getD js false = true then GB else GA) = GB := by
      by_cases hjk : js < k
      · rw [if_pos (hall js hjk)]
      · rw [if_neg (by rw [hl js (by omega)]; simp)]
        exact hGG (by omega)
    rw [hG] at hh
    exact tail_any hd hreach next fuel k listed ⟨tmF, GB, nx + 64 * k⟩ a w ρ (Nat.le_refl _) (by omega) hsz (fun i => by
        by_cases hi : i < k
        · simp [hi, hall i hi]
        · simp [hi, hl i (by omega)]) hc htail
      ⟨hTF, hdf, hts, hh.zone (fun m (hm : nx + 64 * k ≤ m) => ⟨by omega, fun q i hq h1 h2 => by
        have : q < perm.length := (List.getElem?_eq_some_iff.1 hq).1
        omega⟩), hbl, he⟩
  obtain ⟨hk, hsm⟩ := hk9
  intro fuel
  induction fuel with
  | zero =>
    intro listed a w ρ hf hsz hl hc hT hdf hts hh hbl he
    have hkz : k = ops.size := by have := cnt_le listed k; omega
    exact fin 0 listed a w ρ (by omega) (fun i hi => by
      cases hx : listed.getD i false with
      | true => rfl
      | false => have := cnt_lt k i hi hx; omega) hsz hl hc hT hdf hts hh hbl he
  | succ fuel ih =>
    intro listed a w ρ hf hsz hl hc hT hdf hts hh hbl he
    by_cases hall : ∀ i, i < k → listed.getD i false = true
    · exact fin (fuel + 1) listed a w ρ (by have := cnt_le listed k; omega) hall hsz hl hc hT hdf hts hh hbl he
    · simp only [Classical.not_forall] at hall
      obtain ⟨j0, hj0, hj0l⟩ := hall
      have hj0f : listed.getD j0 false = false := by simpa using hj0l
      refine ⟨fun hr => absurd hr (exists_ready hsz hk hb j0 j0 (Nat.le_refl _) hj0 hj0f), fun i hi => ?_⟩
      obtain ⟨h0, o, ho, hafter⟩ := mem_ready.1 hi
      obtain ⟨hil, hif⟩ := getD_true_false.1 h0
      have hik : i < k := by
        rcases Nat.lt_or_ge i k with h | h
        · exact h
        · exfalso
          have := reach_listed hc ops.size o j0 ((hreach i o h ho).1 j0 (by omega)) hafter
          rw [hj0f] at this
          cases this
      have hdN : ∀ t, o.dst = some t → t < a.tmps.size := fun t ht => by
        rw [hts]
        exact hd o (by obtain ⟨hlt, e⟩ := Array.getElem?_eq_some_iff.1 ho; rw [← e]; simp) t ht
      have hcl : Closed ops (listed.setIfInBounds i true) := fun x o' hx hlx e' he' hb' => by
        rw [getD_set hil] at hlx ⊢
        split
        · rfl
        · by_cases hxi : x = i
          · subst hxi
            rw [ho] at hx
            injection hx with hx
            subst hx
            exact hafter e' he' hb'
          · rw [if_neg hxi] at hlx
            exact hc x o' hx hlx e' he' hb'
      -- the slots behind the operation
      have htm : ∀ (ρ' : Names) (x : Value) (w' : World) (v : VV), (∀ t, o.dst = some t → tmF t = v) → VR ρ' w' v x → Ext ρ w ρ' w' → TM ρ' w' (tmQ ops (listed.setIfInBounds i true) k tm0 tmF) (a.put o.dst x) := by
        intro ρ' x w' v hv hvx he' t
        have hput := (hT.ext he').put hdN hvx t
        have e : V.put o.dst v (tmQ ops listed k tm0 tmF) t = tmQ ops (listed.setIfInBounds i true) k tm0 tmF t := by
          by_cases htd : o.dst = some t
          · have h1 : V.put o.dst v (tmQ ops listed k tm0 tmF) t = v := by rw [htd]; simp [V.put, upd_ap]
            rw [h1]
            unfold tmQ
            rw [if_neg]
            · exact (hv t htd).symm
            · intro e
              obtain ⟨j, h1, h2, o', ho', h3⟩ := pendB_true.1 e
              rw [getD_set hil] at h2
              split at h2
              · cases h2
              · rename_i hji
                have := hone i j t hik h1 (Ne.symm hji) (dstB_iff.2 ⟨o, ho, htd⟩)
                rw [dstB_iff.2 ⟨o', ho', h3⟩] at this
                cases this
          · have h1 : V.put o.dst v (tmQ ops listed k tm0 tmF) t = tmQ ops listed k tm0 tmF t := by
              cases hod : o.dst with
              | none => rfl
              | some d => simp only [V.put,upd_ap]; rw [if_neg (by intro e; rw [e] at htd; exact htd hod)]
            rw [h1]
            unfold tmQ
            have : pendB ops (listed.setIfInBounds i true) k t = pendB ops listed k t := by
              rw [Bool.eq_iff_iff, pendB_true, pendB_true]
              constructor
              · rintro ⟨j, h1, h2, o', ho', h3⟩
                rw [getD_set hil] at h2
                split at h2
                · cases h2
                · exact ⟨j, h1, h2, o', ho', h3⟩
              · rintro ⟨j, h1, h2, o', ho', h3⟩
                refine ⟨j, h1, ?_, o', ho', h3⟩
                rw [getD_set hil, if_neg]
                · exact h2
                · intro e; subst e; rw [ho] at ho'; injection ho' with ho'; subst ho'; exact htd h3
            rw [this]
        rw [e] at hput
        exact hput
      by_cases hjs : i = js
      · -- the store
        subst hjs
        obtain ⟨hdst, hg, t, y, x, hop, hev, hyx, hst⟩ := hS hik o ho
        have hev := hev listed hc hafter
        rw [if_neg (by rw [hif]; simp)] at hh
        have hst2 : vStore P (ev (tmQ ops listed k tm0 tmF)) GA 0 (fun v G n => v = .any ∧ G = GB ∧ n = 0) t y x := by
          unfold vStore at hst ⊢
          unfold onV at hst ⊢
          rw [hev y (hyx y (.inl rfl)), hev x (hyx x (.inr rfl))]
          exact hst
        have hr := store_sound hT hh t y x hop hst2
        have after : ∀ (ρ' : Names) (x : Value) (w' : World), HR (ZF (Fr2 nx perm listed)) B ρ' GB 0 w' → Ext ρ w ρ' w' → Below B w w' → wpAny P .any ops Q fuel (listed.setIfInBounds i true) (a.put o.dst x) w' := by
          intro ρ' x w' hh' he' hb'
          have hz := put_size a o.dst x
          refine ih _ _ _ ρ' ?_ (by simpa using hsz) (fun j hj => by rw [getD_set hil, if_neg (by omega)]; exact hl j hj) hcl ?_ (by rw [hz.2]; exact hdf) (by rw [hz.1]; exact hts) ?_ (hbl.trans hb') (he.trans he')
          · rw [cnt_set hil hif, if_pos hik]; omega
          · exact htm ρ' x w' .any (fun t ht => by rw [hdst] at ht; cases ht) (by simp [VR, VR1]) he'
          · rw [if_pos (by rw [getD_set hil, if_pos rfl])]
            refine hh'.zone fun m hm => ⟨hm.1, fun q j hq h1 h2 => ?_⟩
            have := hm.2 q j hq h1 h2
            rw [getD_set hil, if_neg (hpk q j hq).2] at this
            exact this
        have hw : (if Region.wanted o (yielded ops a.tmps) = true then o.wp P a w (wpAny P .any ops Q fuel (listed.setIfInBounds i true)) Q else wpAny P .any ops Q fuel (listed.setIfInBounds i true) (a.put o.dst undef) w) := by
          rw [if_pos (by simp [Region.wanted, hg])]
          unfold Oper.wp
          rcases hr with ⟨x, w', hr, hg⟩ | ⟨w', hr, hg⟩ | ⟨f, xs, hr, hcl'⟩
          · rw [hr]
            obtain ⟨v', H', n'', ρ', ⟨rfl, rfl, rfl⟩, h1, h2, h3, h4⟩ := hg
            exact after ρ' x w' h2 h3 h4
          · rw [hr]
            obtain ⟨v', H', n'', ρ', ⟨rfl, rfl, rfl⟩, h1, h2, h3, h4⟩ := hg
            exact after ρ' undef w' h2 h3 h4
          · rw [hr]
            refine Calls.mono hcl' fun e w' hee => ?_
            obtain ⟨x, rfl, v', H', n'', ρ', ⟨rfl, rfl, rfl⟩, h1, h2, h3, h4⟩ := hee
            exact after ρ' x w' h2 h3 h4
        unfold wpOp
        rw [ho]
        dsimp only
        split
        · rename_i hx; rw [if_pos hx] at hw; exact .inl hw
        · rename_i hx; rw [if_neg hx] at hw; exact hw
      -- another one
      obtain ⟨q, hq⟩ := hperm i hik hjs
      have hseen : ∀ t ∈ o.looksAt ops, tmQ ops listed k tm0 tmF t = env q t := fun t ht => henv q i o t hq ho ht listed hif hc hafter
      obtain ⟨G, hGe, hFi⟩ : ∃ G, (if listed.getD js false = true then GB else GA) = G ∧ Fact2 P ops.toList (env q) tmF G (nx + 64 * q) o := by
        by_cases hj : listed.getD js false = true
        · rw [if_pos hj]
          rcases hB q i o hq ho with ⟨oj, hoj, hr⟩ | h
          · exfalso
            have := reach_listed hc ops.size oj i hr (fun e he hb' => hc js oj hoj hj e he hb')
            rw [hif] at this
            cases this
          · exact ⟨GB, rfl, h⟩
        · rw [if_neg hj]
          exact ⟨GA, rfl, hA q i o hq ho⟩
      have hGe' : (if (listed.setIfInBounds i true).getD js false = true then GB else GA) = G := by
        rw [getD_set hil, if_neg (Ne.symm hjs)]
        exact hGe
      rw [hGe] at hh
      -- on behind the operation
      have go : ∀ (ρ' : Names) (x : Value) (w' : World) (v : VV) (n' : Nat), (∀ t, o.dst = some t → tmF t = v) → VR ρ' w' v x → HR (ZI (Fr2 nx perm listed) (nx + 64 * q)) B ρ' G n' w' → n' ≤ nx + 64 * q + 64 → Ext ρ w ρ' w' → Below B w w' →
          wpAny P .any ops Q fuel (listed.setIfInBounds i true) (a.put o.dst x) w' := by
        intro ρ' x w' v n' hv hvx hh' hn' he' hb'
        have hz := put_size a o.dst x
        refine ih _ _ _ ρ' ?_ (by simpa using hsz) (fun j hj => by rw [getD_set hil, if_neg (by omega)]; exact hl j hj) hcl (htm ρ' x w' v hv hvx he') (by rw [hz.2]; exact hdf) (by rw [hz.1]; exact hts) ?_ (hbl.trans hb') (he.trans he')
        · rw [cnt_set hil hif, if_pos hik]; omega
        · rw [hGe']
          refine hh'.zone fun m hm => .inr ⟨⟨hm.1, fun r j hr h1 h2 => ?_⟩, fun hc' => ?_⟩
          · have := hm.2 r j hr h1 h2
            rw [getD_set hil] at this
            split at this
            · cases this
            · exact this
          · have := hm.2 q i hq hc'.1 hc'.2
            rw [getD_set hil, if_pos rfl] at this
            cases this
      have hhI : HR (ZI (Fr2 nx perm listed) (nx + 64 * q)) B ρ G (nx + 64 * q) w := hh.zone fun m hm => by
        rcases hm with hm | hm
        · refine ⟨by omega, fun r j hr h1 h2 => ?_⟩
          have : r = q := by omega
          subst this
          rw [hq] at hr
          injection hr with hr
          subst hr
          exact hif
        · exact hm.1
      have run : Does2 P (env q) tmF G (nx + 64 * q) o → o.wp P a w (wpAny P .any ops Q fuel (listed.setIfInBounds i true)) Q := by
        rintro ⟨v, n', hv, hn1, hn2, hdo⟩
        have hop := hdo (ev (tmQ ops listed k tm0 tmF)) (fun v' H' n'' => v' = v ∧ H' = G ∧ n'' = n') (fun x hx => by
          cases x with
          | tmp t => exact hseen t (looks_operand hx)
          | _ => rfl) ⟨rfl, rfl, rfl⟩
        have hr := vopH_sound (Z := ZI (Fr2 nx perm listed) (nx + 64 * q)) hT hhI (fun v' H' n'' h1 h2 => (⟨Nat.le_refl _, by omega⟩ : nx + 64 * q ≤ nx + 64 * q ∧ nx + 64 * q < nx + 64 * q + 64)) (fun m hm => hh.fresh m ⟨by omega, fun r j hr h1 h2 => by have := (List.getElem?_eq_some_iff.1 hr).1; omega⟩) hop
        unfold Oper.wp
        rcases hr with ⟨x, w', hr, hg⟩ | ⟨w', hr, hg⟩ | ⟨f, xs, hr, hcl'⟩
        · rw [hr]
          obtain ⟨v', H', n'', ρ', ⟨rfl, rfl, rfl⟩, h1, h2, h3, h4⟩ := hg
          exact go ρ' x w' v' n'' hv h1 h2 hn2 h3 h4
        · rw [hr]
          obtain ⟨v', H', n'', ρ', ⟨rfl, rfl, rfl⟩, h1, h2, h3, h4⟩ := hg
          exact go ρ' undef w' v' n'' hv h1 h2 hn2 h3 h4
        · rw [hr]
          refine Calls.mono hcl' fun e w' hee => ?_
          obtain ⟨x, rfl, v', H', n'', ρ', ⟨rfl, rfl, rfl⟩, h1, h2, h3, h4⟩ := hee
          exact go ρ' x w' v' n'' hv h1 h2 hn2 h3 h4
      have skip : (∀ t, o.dst = some t → tmF t = .raw undef) → wpAny P .any ops Q fuel (listed.setIfInBounds i true) (a.put o.dst undef) w := fun hv =>
        go ρ undef w (.raw undef) (nx + 64 * q) hv (by simp [VR, VR1, C1]) hhI (by omega) (Ext.refl _ _) (Below.refl _ _)
      have hst : if Region.wanted o (yielded ops a.tmps) = true then o.wp P a w (wpAny P .any ops Q fuel (listed.setIfInBounds i true)) Q else wpAny P .any ops Q fuel (listed.setIfInBounds i true) (a.put o.dst undef) w := by
        rcases hFi with ⟨hg, hdo⟩ | ⟨g, want, d, hg, hdg, hrest⟩
        · rw [if_pos (by simp [Region.wanted, hg])]
          exact run hdo
        · have hTd := hT d
          rw [hseen d (looks_guard hg hdg)] at hTd
          have hyd : yielded ops a.tmps g = match a.tmps[d]? with | some (.bool b) => some b | _ => none := by
            unfold yielded
            rw [dstAt_eq, Array.getElem?_toList] at hdg
            rw [hdg]
            simp only [Option.bind_some]
            rfl
          have hbool : ∀ b, env q d = .bool b → Region.wanted o (yielded ops a.tmps) = (b == want) := fun b hb2 => by
            rw [hb2] at hTd
            have hx := hTd.bool
            have hbd : a.tmps[d]? = some (.bool b) := by
              rw [Array.getD_eq_getD_getElem?] at hx
              cases hy : a.tmps[d]? with
              | none => rw [hy] at hx; simp [undef] at hx
              | some y => rw [hy] at hx; simp at hx; rw [hx]
            simp only [Region.wanted,hg,hyd,hbd]
            cases b <;> cases want <;> rfl
          rcases hrest with ⟨hdv, hdo⟩ | ⟨hdv, hu⟩
          · rw [hbool want hdv, if_pos (by simp)]
            exact run hdo
          · have hw : Region.wanted o (yielded ops a.tmps) = false := by
              rcases hdv with hdv | hdv
              · rw [hbool _ hdv]; cases want <;> rfl
              · rw [hdv] at hTd
                have hx : a.tmps.getD d undef = undef := by simpa [VR, VR1, C1] using hTd
                simp only [Region.wanted,hg,hyd]
                rw [Array.getD_eq_getD_getElem?] at hx
                cases hy : a.tmps[d]? with
                | none => cases want <;> rfl
                | some y =>
                  rw [hy] at hx
                  simp only [Option.getD_some] at hx
                  subst hx
                  cases want <;> rfl
            rw [hw, if_neg (by simp)]
            exact skip hu
      unfold wpOp
      rw [ho]
      dsimp only
      split
      · rename_i hw; rw [if_pos hw] at hst; exact .inl hst
      · rename_i hw; rw [if_neg hw] at hst; exact hst
end
end Go.Proofs.Ytpdhdkpebbfnnaa.V
end
section
namespace Go.Proofs.Ytpdhdkpebbfnnaa.V
open Go Go.RowKit

def picks (l : List Oper) : List Nat → List Oper
  | [] => []
  | i :: p => match l[i]? with
    | some o => o :: picks l p
    | none => picks l p
theorem picks_get (l : List Oper) : ∀ (perm : List Nat), (∀ i ∈ perm, i < l.length) → ∀ q : Nat, (picks l perm)[q]? = (perm[q]?).bind fun i : Nat => l[i]?
  | [], _, q => by simp [picks]
  | i :: p, h, q => by
    have hi : i < l.length := h i (by simp)
    have e : picks l (i :: p) = l[i] :: picks l p := by simp only [picks,List.getElem?_eq_getElem hi]
    rw [e]
    cases q with
    | zero => simp [hi]
    | succ q =>
      simp only [List.getElem?_cons_succ]
      exact picks_get l p (fun j hj => h j (by simp [hj])) q
def isSt : Op → Bool
  | .store _ _ _ => true
  | _ => false
def opD (ops : Array Oper) (i : Nat) (f : Oper → Bool) : Bool := match ops[i]? with
  | some o => f o
  | none => false
theorem opD_some {ops : Array Oper} {i : Nat} {f : Oper → Bool} (h : opD ops i f = true) : ∃ o, ops[i]? = some o ∧ f o = true := by
  unfold opD at h
  split at h
  · rename_i o ho; exact ⟨o, ho, h⟩
  · cases h
def drawOk2 (ops : Array Oper) (k : Nat) (perm : List Nat) (js qa : Nat) : Bool :=
  decide (k ≤ ops.size ∧ ops.size ≤ 1000000) && decide (perm.length ≤ k) && oneL (picks ops.toList perm) && (perm.all fun i => decide (i < k) && i != js) &&
  ((List.range perm.length).all fun q => (List.range perm.length).all fun r => decide (q = r) || (perm.getD q 0 != perm.getD r 0)) &&
  ((List.range k).all fun i => i == js || perm.contains i) &&
  ((List.range k).all fun j => opD ops j fun o => o.after.all fun e => !Region.binds .any e || decide (e.on < j)) &&
  ((List.range perm.length).all fun q => opD ops (perm.getD q 0) fun o => (o.looksAt ops).all fun t => (List.range perm.length).all fun r =>
    !dstB ops (perm.getD r 0) t || decide (r = q) || (if r < q then reachB ops ops.size o (perm.getD r 0) else opD ops (perm.getD r 0) fun o' => reachB ops ops.size o' (perm.getD q 0))) &&
  (decide (k ≤ js) || opD ops js fun o => o.dst == none && o.guard == none && isSt o.op && ((o.looksAt ops).all fun t => (List.range k).all fun j => !dstB ops j t || reachB ops ops.size o j) &&
    (List.range perm.length).all fun q => decide (q < qa) || reachB ops ops.size o (perm.getD q 0)) &&
  ((List.range ops.size).all fun j => decide (j < k) || (match ops[j]? with
    | some o => (List.range j).all (fun i => reachB ops ops.size o i) && o.after.all (fun e => !Region.binds .any e || decide (e.on < j))
    | none => true))
def isP (m : Nat) : VV → Prop
  | .ptr m' _ => m' = m
  | _ => False
def storeAt (P : Program) (m : Nat) (e : Operand → VV) (H : Heap) (K : Heap → Prop) (o : Option Oper) : Prop := match o with
  | some o => match o.op with
    | .store t y x => cnd (isP m (e y)) (vStore P e H 0 (fun _ G _ => K G) t y x)
    | _ => False
  | none => False
theorem storeAt_some {P : Program} {m : Nat} {e : Operand → VV} {H : Heap} {K : Heap → Prop} {o : Oper} {t : TypeId} {y x : Operand} (ho : o.op = .store t y x) (h : storeAt P m e H K (some o)) :
    ∃ b, K (upd H m (some b)) ∧ vStore P e H 0 (fun v G n => v = .any ∧ G = upd H m (some b) ∧ n = 0) t y x := by
  unfold storeAt at h
  simp only [ho] at h
  obtain ⟨hp, h⟩ := h
  unfold vStore onV at h ⊢
  dsimp only at h ⊢
  cases hy : e y <;> rw [hy] at hp h <;> simp only [isP] at hp <;> try exact hp.elim
  subst hp
  dsimp only at h ⊢
  obtain ⟨b, hb, h⟩ := bnd_iff.1 h
  cases b with
  | map es => exact h.elim
  | row s c =>
    obtain ⟨st, hst, hc, h⟩ := bnd_iff.1 h
    obtain ⟨u, hu, h⟩ := bnd_iff.1 h
    exact ⟨_, h, bnd_intro hb (bnd_intro hst ⟨hc, bnd_intro hu ⟨rfl, rfl, rfl⟩⟩)⟩
theorem oneL_one : ∀ (l : List Oper) (i j : Nat) (o o' : Oper) (t : Nat), oneL l = true → i < j → l[i]? = some o → l[j]? = some o' → o.dst = some t → o'.dst ≠ some t
  | [], _, _, _, _, _, _, _, h, _, _ => by simp at h
  | x :: l, i, 0, _, _, _, _, hij, _, _, _ => by omega
  | x :: l, 0, j + 1, o, o', t, hw, _, h, h', hd => by
    simp only [oneL,Bool.and_eq_true] at hw
    rw [List.getElem?_cons_zero] at h
    injection h with h
    subst h
    rw [hd] at hw
    rw [List.getElem?_cons_succ] at h'
    simpa using (List.all_eq_true.1 hw.1) o' (List.mem_of_getElem? h')
  | x :: l, i + 1, j + 1, o, o', t, hw, hij, h, h', hd => by
    simp only [oneL,Bool.and_eq_true] at hw
    rw [List.getElem?_cons_succ] at h h'
    exact oneL_one l i j o o' t hw.2 (by omega) h h' hd
section
variable {P : Program} {ops : Array Oper} {k js qa : Nat} {perm : List Nat} {K : VS → Prop}
theorem region2p {S : VS} (hm : P.follows .mixedOrders = true) (hfr : ∀ m, S.nx ≤ m → S.hp m = none) (hok : drawOk2 ops k perm js qa = true) {tmF : Nat → VV} {GA GB : Heap}
    (hsame : ∀ t, (∀ o ∈ picks ops.toList perm, o.dst ≠ some t) → tmF t = S.tm t)
    (hnm : ∀ m, m < S.nx → GA m = S.hp m)
    (hA : ∀ (q : Nat) o, (picks ops.toList perm)[q]? = some o → Fact2 P ops.toList (rd2 (picks ops.toList perm) q S.tm tmF) tmF GA (S.nx + 64 * q) o)
    (hB : ∀ (q : Nat) o, (picks ops.toList perm)[q]? = some o → q < qa → (js < k → opD ops js (fun s => reachB ops ops.size s (perm.getD q 0)) = false) → Fact2 P ops.toList (rd2 (picks ops.toList perm) q S.tm tmF) tmF GB (S.nx + 64 * q) o)
    (hqa : k ≤ js → GA = GB)
    (hS : js < k → ∀ o t y x, ops[js]? = some o → o.op = .store t y x → vStore P (ev tmF) GA 0 (fun v G n => v = .any ∧ G = GB ∧ n = 0) t y x)
    (htail : vlist P ops.toList (ops.toList.drop k) ⟨tmF, GB, S.nx + 64 * k⟩ K) : vdraw P ops S K := by
  intro id N B ρ0 w0 Q a w ρ hd hT hdf hts hh hbl he next
  unfold drawOk2 at hok
  simp only [Bool.and_eq_true,decide_eq_true_eq] at hok
  obtain ⟨⟨⟨⟨⟨⟨⟨⟨⟨hk9, hpl⟩, hone⟩, hpk⟩, hun⟩, hall⟩, hbk⟩, hrd⟩, hst⟩, htl⟩ := hok
  have hk := hk9.1
  have rep : ∀ i, (Array.replicate ops.size false).getD i false = false := fun i => by
    rw [Array.getD_eq_getD_getElem?, Array.getElem?_replicate]
    split <;> rfl
  have hpk' : ∀ (q : Nat) i, perm[q]? = some i → i < k ∧ i ≠ js := fun q i hq => by
    have := (List.all_eq_true.1 hpk) i (List.mem_of_getElem? hq)
    simpa using this
  have hlt : ∀ i ∈ perm, i < ops.toList.length := fun i hi => by
    obtain ⟨q, hq, e⟩ := List.mem_iff_getElem.1 hi
    have := (hpk' q i (by rw [List.getElem?_eq_getElem hq, e])).1
    rw [Array.length_toList]; omega
  have hget : ∀ (q i : Nat) o, perm[q]? = some i → ops[i]? = some o → (picks ops.toList perm)[q]? = some o := fun q i o hq ho => by
    rw [picks_get _ _ hlt, hq]
    simpa using ho
  have hgetD : ∀ (q i : Nat), perm[q]? = some i → perm.getD q 0 = i := fun q i hq => by
    rw [List.getD_eq_getElem?_getD, hq]; rfl
  have hql : ∀ (q i : Nat), perm[q]? = some i → q < perm.length := fun q i hq => (List.getElem?_eq_some_iff.1 hq).1
  have hsome : ∀ i, i < k → ∃ o, ops[i]? = some o := fun i hi => ⟨ops[i], by simp [show i < ops.size by omega]⟩
  have hperm : ∀ i, i < k → i ≠ js → ∃ q : Nat, perm[q]? = some i := fun i hi hne => by
    have := (List.all_eq_true.1 hall) i (List.mem_range.2 hi)
    simp only [Bool.or_eq_true,beq_iff_eq] at this
    rcases this with h | h
    · exact absurd h hne
    · obtain ⟨q, hq, e⟩ := List.mem_iff_getElem.1 (List.contains_iff_mem.1 h)
      exact ⟨q, by rw [List.getElem?_eq_getElem hq, e]⟩
  have hstore : js < k → ∃ o, ops[js]? = some o ∧ o.dst = none ∧ o.guard = none ∧ isSt o.op = true ∧ (∀ t ∈ o.looksAt ops, ∀ j, j < k → dstB ops j t = true → reachB ops ops.size o j = true) ∧ ∀ (q i : Nat), perm[q]? = some i → qa ≤ q → reachB ops ops.size o i = true := fun hjk => by
    simp only [Bool.or_eq_true,decide_eq_true_eq] at hst
    rcases hst with h | h
    · omega
    · obtain ⟨o, ho, h⟩ := opD_some h
      simp only [Bool.and_eq_true,beq_iff_eq] at h
      obtain ⟨⟨⟨⟨h1, h2⟩, h3⟩, h4⟩, h5⟩ := h
      refine ⟨o, ho, h1, h2, h3, fun t ht j hj hdj => ?_, fun q i hq hqq => ?_⟩
      · have := (List.all_eq_true.1 ((List.all_eq_true.1 h4) t ht)) j (List.mem_range.2 hj)
        simpa [hdj] using this
      · have := (List.all_eq_true.1 h5) q (List.mem_range.2 (hql q i hq))
        rw [hgetD q i hq] at this
        simp only [Bool.or_eq_true,decide_eq_true_eq] at this
        rcases this with h | h
        · omega
        · exact h
  have hdj : ∀ j t, j < k → dstB ops j t = true → j ≠ js := fun j t hj hdt e => by
    subst e
    obtain ⟨o, ho, h1, _⟩ := hstore hj
    obtain ⟨o', ho', h2⟩ := dstB_iff.1 hdt
    rw [ho] at ho'; injection ho' with ho'; subst ho'
    rw [h1] at h2; cases h2
  have hone' : ∀ i j t, i < k → j < k → i ≠ j → dstB ops i t = true → dstB ops j t = false := fun i j t hi hj hij h => by
    cases hx : dstB ops j t with
    | false => rfl
    | true =>
      exfalso
      obtain ⟨q, hq⟩ := hperm i hi (hdj i t hi h)
      obtain ⟨r, hr⟩ := hperm j hj (hdj j t hj hx)
      obtain ⟨o, ho, h1⟩ := dstB_iff.1 h
      obtain ⟨o', ho', h2⟩ := dstB_iff.1 hx
      rcases Nat.lt_trichotomy q r with h' | h' | h'
      · exact oneL_one _ q r o o' t hone h' (hget q i o hq ho) (hget r j o' hr ho') h1 h2
      · subst h'
        rw [hq] at hr; injection hr with hr; exact hij hr
      · exact oneL_one _ r q o' o t hone h' (hget r j o' hr ho') (hget q i o hq ho) h2 h1
  refine wp_region_any hm ?_
  have hnamed : ∀ m l, ρ m = some l → m < S.nx := fun m l hm' => by
    rcases Nat.lt_or_ge m S.nx with h' | h'
    · exact h'
    · have := hh.fresh m h'
      rw [this] at hm'
      cases hm'
  have hh0 : HR (ZF (Fr2 S.nx perm (Array.replicate ops.size false))) B ρ GA 0 { w with drawn := w.drawn + 1 } := by
    have hd0 := hh.drew
    refine ⟨hd0.base, fun m hm' => hh.fresh m hm'.1, hd0.lt, fun m m' l l' h1 h2 g1 g2 => ?_, fun m s v l hs hl' => ?_, fun m es l hs hl' => ?_⟩
    · rw [hnm m (hnamed m l h1)] at g1
      rw [hnm m' (hnamed m' l' h2)] at g2
      exact hd0.apart m m' l l' h1 h2 g1 g2
    · rw [hnm m (hnamed m l hl')] at hs
      exact hd0.row m s v l hs hl'
    · rw [hnm m (hnamed m l hl')] at hs
      exact hd0.map m es l hs hl'
  have hext : Ext ρ w ρ { w with drawn := w.drawn + 1 } := ⟨fun _ _ h => h, Nat.le_refl _, fun _ _ _ => rfl, fun _ _ h => .inl h, fun _ h => h, fun _ h => .inl h⟩
  have henv : ∀ (q : Nat) i o t, perm[q]? = some i → ops[i]? = some o → t ∈ o.looksAt ops → ∀ listed, listed.getD i false = false → Closed ops listed → (∀ e ∈ o.after, Region.binds .any e = true → listed.getD e.on false = true) → tmQ ops listed k S.tm tmF t = rd2 (picks ops.toList perm) q S.tm tmF t := by
    intro q i o t hq ho ht listed hif hc hafter
    have hrd2 := (List.all_eq_true.1 hrd) q (List.mem_range.2 (hql q i hq))
    rw [hgetD q i hq] at hrd2
    obtain ⟨o2, ho2, hrd2⟩ := opD_some hrd2
    rw [ho] at ho2; injection ho2 with ho2; subst ho2
    have hrd3 := fun (r j : Nat) (hr : perm[r]? = some j) => by
      have := (List.all_eq_true.1 ((List.all_eq_true.1 hrd2) t ht)) r (List.mem_range.2 (hql r j hr))
      rw [hgetD r j hr] at this
      exact this
    unfold rd2 tmQ
    by_cases hany : (((picks ops.toList perm).drop q).any fun o => o.dst == some t) = true
    · rw [if_pos hany, if_pos]
      rw [List.any_eq_true] at hany
      obtain ⟨o', ho', hdt⟩ := hany
      obtain ⟨r0, hr0, e⟩ := List.mem_iff_getElem.1 ho'
      have hr : (picks ops.toList perm)[q + r0]? = some o' := by
        rw [← List.getElem?_drop, List.getElem?_eq_getElem hr0, e]
      rw [picks_get _ _ hlt] at hr
      obtain ⟨j, hj, hjo⟩ := Option.bind_eq_some_iff.1 hr
      have hjo : ops[j]? = some o' := by simpa using hjo
      have hjk := (hpk' _ j hj).1
      have hdt : o'.dst = some t := by simpa using hdt
      refine pendB_true.2 ⟨j, hjk, ?_, o', hjo, hdt⟩
      by_cases h0 : r0 = 0
      · subst h0
        rw [Nat.add_zero, hq] at hj; injection hj with hj
        rw [← hj]; exact hif
      · have := hrd3 (q + r0) j hj
        rw [dstB_iff.2 ⟨o', hjo, hdt⟩] at this
        simp only [Bool.not_true,Bool.false_or,Bool.or_eq_true,decide_eq_true_eq] at this
        rcases this with h | h
        · omega
        · rw [if_neg (by omega)] at h
          obtain ⟨o3, ho3, h⟩ := opD_some h
          rw [hjo] at ho3; injection ho3 with ho3; subst ho3
          cases hx : listed.getD j false with
          | false => rfl
          | true =>
            have := reach_listed hc ops.size o' i h (fun e he hb' => hc j o' hjo hx e he hb')
            rw [hif] at this
            cases this
    · rw [if_neg hany, if_neg]
      intro e
      obtain ⟨j, h1, h2, o', ho', h3⟩ := pendB_true.1 e
      obtain ⟨r, hr⟩ := hperm j h1 (hdj j t h1 (dstB_iff.2 ⟨o', ho', h3⟩))
      by_cases hrq : q ≤ r
      · refine hany ?_
        rw [List.any_eq_true]
        refine ⟨o', ?_, by simp [h3]⟩
        have hpr := hget r j o' hr ho'
        have : ((picks ops.toList perm).drop q)[r - q]? = some o' := by rw [List.getElem?_drop, show q + (r - q) = r by omega]; exact hpr
        exact List.mem_of_getElem? this
      · have := hrd3 r j hr
        rw [dstB_iff.2 ⟨o', ho', h3⟩] at this
        simp only [Bool.not_true,Bool.false_or,Bool.or_eq_true,decide_eq_true_eq] at this
        rcases this with h | h
        · omega
        · rw [if_pos (by omega)] at h
          have := reach_listed hc ops.size o j h hafter
          rw [h2] at this
          cases this
  refine head2 (K := K) (GA := GA) (GB := GB) (tm0 := S.tm) (tmF := tmF) (nx := S.nx) (N := N) (B := B) (ρ0 := ρ0) (w0 := w0) (k := k) (js := js) (perm := perm) (env := fun q => rd2 (picks ops.toList perm) q S.tm tmF) hk9 hd ?_ ?_ hperm hpk' hpl ?_ hone' henv ?_ ?_ ?_ hqa htail ?_ ops.size _ a _ ρ (by omega) (by simp) ?_ ?_ ?_ hdf hts ?_ ?_ (he.trans hext)
  · intro j o hj ho
    have hlt : j < ops.size := (Array.getElem?_eq_some_iff.1 ho).1
    have := (List.all_eq_true.1 htl) j (List.mem_range.2 hlt)
    rw [ho] at this
    simp only [Bool.or_eq_true,decide_eq_true_eq,Bool.and_eq_true] at this
    rcases this with this | ⟨t1, t2⟩
    · omega
    · exact ⟨fun i hi => (List.all_eq_true.1 t1) i (List.mem_range.2 hi), fun e he' hb => by
        have := (Array.all_eq_true_iff_forall_mem.1 t2) e he'
        simpa [hb] using this⟩
  · intro j o hj ho e he' hb
    have := (List.all_eq_true.1 hbk) j (List.mem_range.2 hj)
    obtain ⟨o2, ho2, this⟩ := opD_some this
    rw [ho] at ho2; injection ho2 with ho2; subst ho2
    have := (Array.all_eq_true_iff_forall_mem.1 this) e he'
    simpa [hb] using this
  · intro q r i hq hr
    have := (List.all_eq_true.1 ((List.all_eq_true.1 hun) q (List.mem_range.2 (hql q i hq)))) r (List.mem_range.2 (hql r i hr))
    rw [hgetD q i hq, hgetD r i hr] at this
    simpa using this
  · intro q i o hq ho
    exact hA q o (hget q i o hq ho)
  · intro q i o hq ho
    by_cases h : q < qa
    · by_cases hp : js < k ∧ opD ops js (fun s => reachB ops ops.size s (perm.getD q 0)) = true
      · obtain ⟨oj, hoj, h5⟩ := opD_some hp.2
        rw [hgetD q i hq] at h5
        exact .inl ⟨oj, hoj, h5⟩
      · exact .inr (hB q o (hget q i o hq ho) h fun hj => by
          cases hc : opD ops js (fun s => reachB ops ops.size s (perm.getD q 0)) with
          | false => rfl
          | true => exact absurd ⟨hj, hc⟩ hp)
    · by_cases hjk : js < k
      · obtain ⟨oj, hoj, _, _, _, _, h5⟩ := hstore hjk
        exact .inl ⟨oj, hoj, h5 q i hq (by omega)⟩
      · right
        rw [← hqa (by omega)]
        exact hA q o (hget q i o hq ho)
  · intro hjk o ho
    obtain ⟨o2, ho2, h1, h2, h3, h4, h5⟩ := hstore hjk
    rw [ho] at ho2; injection ho2 with ho2; subst ho2
    cases hop : o.op <;> rw [hop] at h3 <;> simp only [isSt,Bool.false_eq_true] at h3
    rename_i t y x
    refine ⟨h1, h2, t, y, x, rfl, fun listed hc hafter z hz => ?_, fun z hz => ?_, hS hjk o t y x ho hop⟩
    · cases z with
      | tmp u =>
        show tmQ ops listed k S.tm tmF u = tmF u
        unfold tmQ
        rw [if_neg]
        intro e
        obtain ⟨j, g1, g2, o', ho', g3⟩ := pendB_true.1 e
        have := h4 u (looks_operand (by rw [hop]; exact hz)) j g1 (dstB_iff.2 ⟨o', ho', g3⟩)
        have := reach_listed hc ops.size o j this hafter
        rw [g2] at this
        cases this
      | _ => rfl
    · rcases hz with rfl | rfl <;> simp [Op.operands]
  · intro S' a' w' ρ' hk' hS'
    exact next S' a' w' ρ' hk' hS'.tm hS'.defers hS'.size hS'.heap hS'.below hS'.ext
  · intro i _
    exact rep i
  · intro i o _ hli
    rw [rep i] at hli
    cases hli
  · intro t
    unfold tmQ
    split
    · exact (hT.ext hext) t
    · rename_i hp
      rw [hsame t]
      · exact (hT.ext hext) t
      · intro o ho e
        obtain ⟨q, hq, e2⟩ := List.mem_iff_getElem.1 ho
        have hq2 : (picks ops.toList perm)[q]? = some o := by rw [List.getElem?_eq_getElem hq, e2]
        rw [picks_get _ _ hlt] at hq2
        obtain ⟨j, hj, hjo⟩ := Option.bind_eq_some_iff.1 hq2
        exact hp (pendB_true.2 ⟨j, (hpk' q j hj).1, rep j, o, by simpa using hjo, e⟩)
  · rw [if_neg (by rw [rep]; simp)]
    exact hh0
  · exact hbl.drew
theorem region2 {S : VS} (hm : P.follows .mixedOrders = true) (hfr : ∀ m, S.nx ≤ m → S.hp m = none) (hok : drawOk2 ops k perm js qa = true) {tmF : Nat → VV} {GA GB : Heap}
    (hsame : ∀ t, (∀ o ∈ picks ops.toList perm, o.dst ≠ some t) → tmF t = S.tm t)
    (hnm : ∀ m, m < S.nx → GA m = S.hp m)
    (hA : ∀ (q : Nat) o, (picks ops.toList perm)[q]? = some o → Fact2 P ops.toList (rd2 (picks ops.toList perm) q S.tm tmF) tmF GA (S.nx + 64 * q) o)
    (hB : ∀ (q : Nat) o, (picks ops.toList perm)[q]? = some o → q < qa → Fact2 P ops.toList (rd2 (picks ops.toList perm) q S.tm tmF) tmF GB (S.nx + 64 * q) o)
    (hqa : k ≤ js → GA = GB)
    (hS : js < k → ∀ o t y x, ops[js]? = some o → o.op = .store t y x → vStore P (ev tmF) GA 0 (fun v G n => v = .any ∧ G = GB ∧ n = 0) t y x)
    (htail : vlist P ops.toList (ops.toList.drop k) ⟨tmF, GB, S.nx + 64 * k⟩ K) : vdraw P ops S K :=
  region2p hm hfr hok hsame hnm hA (fun q o ho hq _ => hB q o ho hq) hqa hS htail
theorem regionN {S : VS} (hm : P.follows .mixedOrders = true) (hfr : ∀ m, S.nx ≤ m → S.hp m = none) (hok : drawOk2 ops k perm ops.size perm.length = true)
    (h : vheld P ops.toList (picks ops.toList perm) S.tm S.hp S.nx fun tm H n => vlist P ops.toList (ops.toList.drop k) ⟨tm, H, S.nx + 64 * k⟩ K) : vdraw P ops S K := by
  have hok' := hok
  unfold drawOk2 at hok'
  simp only [Bool.and_eq_true,decide_eq_true_eq] at hok'
  obtain ⟨⟨⟨⟨⟨⟨⟨⟨⟨hk9, hpl⟩, hone⟩, hpk⟩, hun⟩, hall⟩, hbk⟩, hrd⟩, hst⟩, htl⟩ := hok'
  have hk := hk9.1
  obtain ⟨tmF, G, k1, k2, k3, k4⟩ := held2 (ops := ops) _ S.tm S.hp S.nx hone hfr h
  have hA : ∀ (q : Nat) o, (picks ops.toList perm)[q]? = some o → Fact2 P ops.toList (rd2 (picks ops.toList perm) q S.tm tmF) tmF G (S.nx + 64 * q) o := fun q o ho => by
    obtain ⟨Hq, q1, q2, q3, q4⟩ := k4 q o ho
    exact q4 G q3
  exact region2 hm hfr hok (GA := G) (GB := G) k2 (fun m hm' => k3.2 m hm') hA (fun q o ho _ => hA q o ho) (fun _ => rfl) (fun h => by omega) k1
theorem regionF {S : VS} (hm : P.follows .mixedOrders = true) (hfr : ∀ m, S.nx ≤ m → S.hp m = none) (hok : drawOk2 ops k perm js qa = true) (hjk : js < k) (m : Nat) (hmq : S.nx + 64 * qa ≤ m)
    (h : vheld P ops.toList (picks ops.toList perm) S.tm S.hp S.nx fun tm H n => storeAt P m (ev tm) H (fun G => vlist P ops.toList (ops.toList.drop k) ⟨tm, G, S.nx + 64 * k⟩ K) ops[js]?) : vdraw P ops S K := by
  have hok' := hok
  unfold drawOk2 at hok'
  simp only [Bool.and_eq_true,decide_eq_true_eq] at hok'
  obtain ⟨⟨⟨⟨⟨⟨⟨⟨⟨hk9, hpl⟩, hone⟩, hpk⟩, hun⟩, hall⟩, hbk⟩, hrd⟩, hst⟩, htl⟩ := hok'
  have hk := hk9.1
  obtain ⟨tmF, G, k1, k2, k3, k4⟩ := held2 (ops := ops) _ S.tm S.hp S.nx hone hfr h
  have hst' : opD ops js (fun o => isSt o.op) = true := by
    simp only [Bool.or_eq_true,decide_eq_true_eq] at hst
    rcases hst with h | h
    · omega
    · obtain ⟨o, ho, h⟩ := opD_some h
      simp only [Bool.and_eq_true] at h
      unfold opD
      rw [ho]
      exact h.1.1.2
  obtain ⟨o, ho, hs⟩ := opD_some hst'
  rw [ho] at k1
  cases hop : o.op <;> rw [hop] at hs <;> simp only [isSt,Bool.false_eq_true] at hs
  rename_i t y x
  obtain ⟨b, g1, g2⟩ := storeAt_some hop k1
  refine region2 hm hfr hok (GA := G) (GB := upd G m (some b)) k2 (fun m' hm' => k3.2 m' hm') (fun q o ho => ?_) (fun q o ho hq => ?_) (fun h => by omega) (fun _ o' t' y' x' ho' hop' => ?_) g1
  · obtain ⟨Hq, q1, q2, q3, q4⟩ := k4 q o ho
    exact q4 G q3
  · obtain ⟨Hq, q1, q2, q3, q4⟩ := k4 q o ho
    refine q4 _ fun m' b' hb' => ?_
    rw [upd_ap, if_neg]
    · exact q3 m' b' hb'
    · intro e
      subst e
      rw [q2 m' (by omega)] at hb'
      cases hb'
  · rw [ho] at ho'; injection ho' with ho'; subst ho'
    rw [hop] at hop'; injection hop' with e1 e2 e3
    subst e1 e2 e3
    exact g2
theorem regionE {S : VS} (hm : P.follows .mixedOrders = true) (hfr : ∀ m, S.nx ≤ m → S.hp m = none) (hok : drawOk2 ops k perm js perm.length = true) (hjk : js < k) (m : Nat) (hmn : m < S.nx) (old : Blk) (hold : S.hp m = some old)
    (h : vheld P ops.toList (picks ops.toList perm) S.tm (upd S.hp m none) S.nx fun tm H n => storeAt P m (ev tm) (upd H m (some old)) (fun G => vlist P ops.toList (ops.toList.drop k) ⟨tm, G, S.nx + 64 * k⟩ K) ops[js]?) : vdraw P ops S K := by
  have hok' := hok
  unfold drawOk2 at hok'
  simp only [Bool.and_eq_true,decide_eq_true_eq] at hok'
  obtain ⟨⟨⟨⟨⟨⟨⟨⟨⟨hk9, hpl⟩, hone⟩, hpk⟩, hun⟩, hall⟩, hbk⟩, hrd⟩, hst⟩, htl⟩ := hok'
  have hk := hk9.1
  obtain ⟨tmF, G, k1, k2, k3, k4⟩ := held2 (ops := ops) _ S.tm (upd S.hp m none) S.nx hone (fun m' hm' => by rw [upd_ap]; split; rfl; exact hfr m' hm') h
  have hst' : opD ops js (fun o => isSt o.op) = true := by
    simp only [Bool.or_eq_true,decide_eq_true_eq] at hst
    rcases hst with h | h
    · omega
    · obtain ⟨o, ho, h⟩ := opD_some h
      simp only [Bool.and_eq_true] at h
      unfold opD
      rw [ho]
      exact h.1.1.2
  obtain ⟨o, ho, hs⟩ := opD_some hst'
  rw [ho] at k1
  cases hop : o.op <;> rw [hop] at hs <;> simp only [isSt,Bool.false_eq_true] at hs
  rename_i t y x
  obtain ⟨b, g1, g2⟩ := storeAt_some hop k1
  have key : ∀ (b : Blk) (q : Nat) o, (picks ops.toList perm)[q]? = some o → Fact2 P ops.toList (rd2 (picks ops.toList perm) q S.tm tmF) tmF (upd G m (some b)) (S.nx + 64 * q) o := fun b q o ho => by
    obtain ⟨Hq, q1, q2, q3, q4⟩ := k4 q o ho
    refine q4 _ fun m' b' hb' => ?_
    rw [upd_ap, if_neg]
    · exact q3 m' b' hb'
    · intro e
      subst e
      rw [q1 m' hmn, upd_ap, if_pos rfl] at hb'
      cases hb'
  have hupd : upd (upd G m (some old)) m (some b) = upd G m (some b) := by
    funext m'
    simp only [upd_ap]
    split <;> rfl
  rw [hupd] at g1 g2
  refine region2 hm hfr hok (GA := upd G m (some old)) (GB := upd G m (some b)) k2 (fun m' hm' => ?_) (key old) (fun q o ho _ => key b q o ho) (fun h => by omega) (fun _ o' t' y' x' ho' hop' => ?_) g1
  · rw [upd_ap]
    split
    · rename_i e; rw [e, hold]
    · rename_i e; rw [k3.2 m' hm', upd_ap, if_neg e]
  · rw [ho] at ho'; injection ho' with ho'; subst ho'
    rw [hop] at hop'; injection hop' with e1 e2 e3
    subst e1 e2 e3
    exact g2
end
section
variable {P : Program} {n0 : Nat} {K : VX → VS → Prop}
theorem ok_drawN {id : Nat} {l : List Oper} {tm : Nat → VV} {H : Heap} {n : Nat} (k : Nat) (perm : List Nat) (hm : P.follows .mixedOrders = true) (hd : drawOk2 l.toArray k perm l.toArray.size perm.length = true) (hfr : ∀ m, n ≤ m → H m = none)
    (h : ∀ M : VS → Prop, (∀ S, K .normal S → M S) → vh P l (picks l perm) tm H n fun tm H _ => vl P l (l.drop k) ⟨tm, H, n + 64 * k⟩ M) : Ok P n0 (.region id l.toArray true) ⟨tm, H, n⟩ K := fun N B ρ0 w0 Q a w ρ h0 hok hS next => by
  simp only [codeOk,List.all_eq_true] at hok
  exact regionN (S := ⟨tm, H, n⟩) hm hfr hd (by simpa only [vh_def,vl_def] using h _ fun _ h => h) id N B ρ0 w0 Q a w ρ (fun o ho t ht => by have := hok o ho; rw [ht] at this; simpa using this) hS.tm hS.defers hS.size hS.heap hS.below hS.ext
    fun S' a' w' ρ' hk h1 h2 h3 h4 h5 h6 => next .normal S' a' w' ρ' hk ⟨h1, h2, h3, h4, h5, h6⟩
theorem ok_drawF {id : Nat} {l : List Oper} {tm : Nat → VV} {H : Heap} {n : Nat} (k : Nat) (perm : List Nat) (js qa m : Nat) (hm : P.follows .mixedOrders = true) (hd : drawOk2 l.toArray k perm js qa = true) (hjk : js < k) (hmq : n + 64 * qa ≤ m) (hfr : ∀ m, n ≤ m → H m = none)
    (h : ∀ M : VS → Prop, (∀ S, K .normal S → M S) → vh P l (picks l perm) tm H n fun tm H _ => storeAt P m (ev tm) H (fun G => vl P l (l.drop k) ⟨tm, G, n + 64 * k⟩ M) l[js]?) : Ok P n0 (.region id l.toArray true) ⟨tm, H, n⟩ K := fun N B ρ0 w0 Q a w ρ h0 hok hS next => by
  simp only [codeOk,List.all_eq_true] at hok
  exact regionF (S := ⟨tm, H, n⟩) hm hfr hd hjk m hmq (by simpa only [vh_def,vl_def,List.getElem?_toArray] using h _ fun _ h => h) id N B ρ0 w0 Q a w ρ (fun o ho t ht => by have := hok o ho; rw [ht] at this; simpa using this) hS.tm hS.defers hS.size hS.heap hS.below hS.ext
    fun S' a' w' ρ' hk h1 h2 h3 h4 h5 h6 => next .normal S' a' w' ρ' hk ⟨h1, h2, h3, h4, h5, h6⟩
theorem ok_drawE {id : Nat} {l : List Oper} {tm : Nat → VV} {H : Heap} {n : Nat} (k : Nat) (perm : List Nat) (js m : Nat) (hm : P.follows .mixedOrders = true) (hd : drawOk2 l.toArray k perm js perm.length = true) (hjk : js < k) (hmn : m < n) {old : Blk} (hold : H m = some old) (hfr : ∀ m, n ≤ m → H m = none)
    (h : ∀ M : VS → Prop, (∀ S, K .normal S → M S) → vh P l (picks l perm) tm (upd H m none) n fun tm H _ => storeAt P m (ev tm) (upd H m (some old)) (fun G => vl P l (l.drop k) ⟨tm, G, n + 64 * k⟩ M) l[js]?) : Ok P n0 (.region id l.toArray true) ⟨tm, H, n⟩ K := fun N B ρ0 w0 Q a w ρ h0 hok hS next => by
  simp only [codeOk,List.all_eq_true] at hok
  exact regionE (S := ⟨tm, H, n⟩) hm hfr hd hjk m hmn old hold (by simpa only [vh_def,vl_def,List.getElem?_toArray] using h _ fun _ h => h) id N B ρ0 w0 Q a w ρ (fun o ho t ht => by have := hok o ho; rw [ht] at this; simpa using this) hS.tm hS.defers hS.size hS.heap hS.below hS.ext
    fun S' a' w' ρ' hk h1 h2 h3 h4 h5 h6 => next .normal S' a' w' ρ' hk ⟨h1, h2, h3, h4, h5, h6⟩
end
theorem storeAt_go (P : Program) (m : Nat) (e : Operand → VV) (H : Heap) (K : Heap → Prop) (d : Option Tmp) (t : TypeId) (y x : Operand) (ty : TypeId) (ps : String) (af : Array Edge) (g : Option (Nat × Bool)) :
    storeAt P m e H K (some ⟨d, .store t y x, ty, ps, af, g⟩) = cnd (isP m (e y)) (vStore P e H 0 (fun _ G _ => K G) t y x) := id (Eq.refl _)
theorem isP_ptr (m m' : Nat) (p : List Nat) : isP m (.ptr m' p) = (m' = m) := id (Eq.refl _)
end Go.Proofs.Ytpdhdkpebbfnnaa.V
end
section
namespace Go.Proofs.Ytpdhdkpebbfnnaa.V
open Go Go.RowKit

def reachC (ops : Array Oper) : Nat → Oper → Nat → Bool
  | 0, _, _ => false
  | f + 1, o, j => o.after.any fun e => Region.binds .any e && (e.on == j || (decide (j < e.on) && (match ops[e.on]? with | some o' => reachC ops f o' j | none => false)))
theorem reachC_B {ops : Array Oper} : ∀ (f : Nat) (o : Oper) (j : Nat), reachC ops f o j = true → reachB ops f o j = true
  | 0, _, _, h => by simp [reachC] at h
  | f + 1, o, j, h => by
    simp only [reachC,reachB,Array.any_eq_true'] at h ⊢
    obtain ⟨e, he, h⟩ := h
    refine ⟨e, he, ?_⟩
    simp only [Bool.and_eq_true,Bool.or_eq_true,beq_iff_eq,decide_eq_true_eq] at h ⊢
    obtain ⟨hb, h⟩ := h
    refine ⟨hb, ?_⟩
    rcases h with h | ⟨_, h⟩
    · exact .inl h
    · right
      split at h
      · rename_i o' ho'
        rw [ho']
        exact reachC_B f o' j h
      · cases h
def drawOkC (ops : Array Oper) (k : Nat) : Bool :=
  decide (k ≤ ops.size ∧ ops.size ≤ 1000000) && wfL ops (ops.toList.take k) && (List.range k).all (fun j => match ops[j]? with | some o => o.after.all (fun e => !Region.binds .any e || decide (e.on < j)) | none => true) &&
  ((List.range k).all fun i => match ops[i]? with
    | some o => (o.looksAt ops).all fun t => (List.range k).all fun j => (match ops[j]? with | some o' => o'.dst != some t | none => true) || reachC ops ops.size o j
    | none => true) &&
  ((List.range ops.size).all fun j => decide (j < k) || (match ops[j]? with
    | some o => (List.range j).all (fun i => reachC ops ops.size o i) && o.after.all (fun e => !Region.binds .any e || decide (e.on < j))
    | none => true))
theorem all_mono {α : Type} {p q : α → Bool} {l : List α} (hpq : ∀ x ∈ l, p x = true → q x = true) (h : l.all p = true) : l.all q = true :=
  List.all_eq_true.2 fun x hx => hpq x hx (List.all_eq_true.1 h x hx)
theorem or_mono {a b c : Bool} (hbc : b = true → c = true) (h : (a || b) = true) : (a || c) = true := by
  cases a
  · exact hbc h
  · rfl
theorem drawOkC_ok {ops : Array Oper} {k : Nat} (h : drawOkC ops k = true) : drawOk ops k = true := by
  unfold drawOkC at h
  unfold drawOk
  simp only [Bool.and_eq_true] at h ⊢
  obtain ⟨⟨⟨⟨h1, h2⟩, h3⟩, h4⟩, h5⟩ := h
  refine ⟨⟨⟨⟨h1, h2⟩, h3⟩, all_mono (fun i _ hi => ?_) h4⟩, all_mono (fun j _ hj => or_mono (fun hj => ?_) hj) h5⟩
  · split at hi
    · rename_i o ho
      rw [ho]
      exact all_mono (fun t _ ht => all_mono (fun j _ hj => or_mono (reachC_B _ _ _) hj) ht) hi
    · rename_i ho; rw [ho]
  · split at hj
    · rename_i o ho
      rw [ho]
      simp only [Bool.and_eq_true] at hj ⊢
      exact ⟨all_mono (fun i _ hi => reachC_B _ _ _ hi) hj.1, hj.2⟩
    · rename_i ho; rw [ho]
section
variable {P : Program} {n0 : Nat} {K : VX → VS → Prop}
theorem ok_drawC {id : Nat} {l : List Oper} {tm : Nat → VV} {H : Heap} {n : Nat} (k : Nat) (hm : P.follows .mixedOrders = true) (hd : drawOkC l.toArray k = true) (hfr : ∀ m, n ≤ m → H m = none)
    (h : ∀ M : VS → Prop, (∀ S, K .normal S → M S) → vh P l (l.take k) tm H n fun tm H n => vl P l (l.drop k) ⟨tm, H, n⟩ M) : Ok P n0 (.region id l.toArray true) ⟨tm, H, n⟩ K := ok_draw k hm (drawOkC_ok hd) hfr h
end
section
variable {P : Program} {N : NN} {B : Nat} {ρ0 : Names} {w0 : World} {ops : Array Oper} {k nx : Nat} {sts : List (Nat × Nat × Blk)} {perm : List Nat} {tm0 tmF : Nat → VV} {GA : Heap} {env : Nat → Nat → VV} {K : VS → Prop} {Q : Exit → Act → World → Prop}
end
section
variable {P : Program} {ops : Array Oper} {k : Nat} {perm : List Nat} {ss : List (Nat × Nat)} {sts : List (Nat × Nat × Blk)} {K : VS → Prop}
end
section
variable {P : Program} {n0 : Nat} {K : VX → VS → Prop}
end
end Go.Proofs.Ytpdhdkpebbfnnaa.V
end
section
namespace Go.Proofs.Ytpdhdkpebbfnnaa.V
open Go
set_option maxRecDepth 100000
set_option maxHeartbeats 4000000
def dirtyQ (v : Frames) (l : List Wr) (i : Nat) : Bool := !(decide ((l.getD i default).b < 0) || decide ((v.length : Int) ≤ (l.getD i default).b) || decide ((l.getD i default).d.length ≠ 128) || (decide (0 < i) && decide ((l.getD i default).b ≤ (l.getD (i - 1) default).b)))
theorem volM_fit {m : Mach} (hm : MFit 20000 m) : (volM m).length ≤ 20000 ∧ ∀ s ∈ volM m, s.length ≤ 20000 := by
  refine ⟨?_, ?_⟩
  · unfold volM
    rw [foldl_wrV_len]
    exact Nat.le_trans (homeD_len _) hm.bl
  · exact foldl_wrV_fit _ _ (homeD_fit hm.blS fun w hw => (hm.peS w hw).2) fun w hw => (hm.dirtyS w hw).2
end Go.Proofs.Ytpdhdkpebbfnnaa.V
end
section
namespace Go.Proofs.Ytpdhdkpebbfnnaa.V
open Go
set_option maxRecDepth 100000
set_option maxHeartbeats 8000000
def procQ (m : Mach) (i : Nat) : Bool := !(decide (0 < i) && decide ((m.pr.getD i default).pid ≤ (m.pr.getD (i - 1) default).pid)) && procB m (m.pr.getD i default)
theorem step_all {q : Nat → Bool} {k : Nat} (hq : ∀ j, j < k → q j = true) (h : q k = true) : ∀ j, j < k + 1 → q j = true := fun j hj => by
  by_cases e : j = k
  · rw [e]; exact h
  · exact hq j (by omega)
end Go.Proofs.Ytpdhdkpebbfnnaa.V
end
section
namespace Go.Proofs.Ytpdhdkpebbfnnaa.V
open Go
set_option maxRecDepth 100000
def znNF := And.intro @jO <| And.intro @jP <| And.intro @jQ <| And.intro @jR <| And.intro @jS <| And.intro @jT <| And.intro @jU <| True.intro
set_option maxHeartbeats 4000000
theorem list_str (l : Frames) (hl : l.length ≤ 20000) : Spec Try.prog 89 [encStrs l] (encStrs l) := by
  refine spec_ok Try.func89 rfl rfl (by kernel_rfl) (k := 1) rfl (by decide) ?_
  repeat' (first|(with_reducible first|refine yrl (by constructor) ?_|refine jk (fun M hM=>?_)|(refine hM _ ?_;clear hM M)|refine xb3 (by decide) ?_|refine yqa (by assumption) ?_ ?_|refine yqb (by assumption) ?_ ?_)|((with_reducible refine je ?_)<;>(first|rfl|assumption|(simp only [znl,znNF];(first|done|fail))))|(with_reducible refine jf (by (simp only [↓reduceIte,zlk,Nat.reduceEqDiff,reduceCtorEq]);exact rfl) ?_)|((with_reducible first|refine jg (fun hc=>?_) (fun hc=>?_)|refine jh (fun hc=>?_) (fun hc=>?_))<;>(try simp (disch:=omega) only [zhb] at hc)<;>(try (exfalso;omega))<;>(try subst hc))|(with_reducible refine ji (by omega) ?_)|(simp (config := { maxSteps := 400000 }) only [↓jt,↓reduceIte,zvs,reduceCtorEq,Nat.reduceEqDiff,Nat.reduceAdd,Nat.reduceLeDiff,Nat.reduceMul,Int.reduceBNe,Int.reduceBEq,Int.reduceEq,Int.reduceNe,Int.reduceLT,Int.reduceLE,Int.reduceGT,Int.reduceGE,Int.reduceNeg,Int.reduceToNat,Nat.reduceLT,Nat.reduceSub,tab,Try.results89, List.toList_toArray])|(simp (disch:=omega) only [ziw]))
  all_goals first
    | (refine rdt_of ?_ (by rfl); (refine rd_own (by (simp only [↓reduceIte,zlk,Nat.reduceEqDiff,reduceCtorEq]); exact rfl) ?_ ?_ ?_) <;> (first | rfl | assumption | (simp only [znl,znNF];(first|done|fail)) | (simp; done) | (simp; omega) | skip); done)
theorem list_pr (l : List Pr) (hl : l.length ≤ 20000) : Spec Try.prog 90 [encPrs l] (encPrs l) := by
  refine spec_ok Try.func90 rfl rfl (by kernel_rfl) (k := 1) rfl (by decide) ?_
  repeat' (first|(with_reducible first|refine yrl (by constructor) ?_|refine jk (fun M hM=>?_)|(refine hM _ ?_;clear hM M)|refine xb3 (by decide) ?_|refine yqa (by assumption) ?_ ?_|refine yqb (by assumption) ?_ ?_)|((with_reducible refine je ?_)<;>(first|rfl|assumption|(simp only [znl,znNF];(first|done|fail))))|(with_reducible refine jf (by (simp only [↓reduceIte,zlk,Nat.reduceEqDiff,reduceCtorEq]);exact rfl) ?_)|((with_reducible first|refine jg (fun hc=>?_) (fun hc=>?_)|refine jh (fun hc=>?_) (fun hc=>?_))<;>(try simp (disch:=omega) only [zhb] at hc)<;>(try (exfalso;omega))<;>(try subst hc))|(with_reducible refine ji (by omega) ?_)|(simp (config := { maxSteps := 400000 }) only [↓jt,↓reduceIte,zvs,reduceCtorEq,Nat.reduceEqDiff,Nat.reduceAdd,Nat.reduceLeDiff,Nat.reduceMul,Int.reduceBNe,Int.reduceBEq,Int.reduceEq,Int.reduceNe,Int.reduceLT,Int.reduceLE,Int.reduceGT,Int.reduceGE,Int.reduceNeg,Int.reduceToNat,Nat.reduceLT,Nat.reduceSub,tab,Try.results90, List.toList_toArray])|(simp (disch:=omega) only [ziw]))
  all_goals first
    | (refine rdt_of ?_ (by rfl); (refine rd_own (by (simp only [↓reduceIte,zlk,Nat.reduceEqDiff,reduceCtorEq]); exact rfl) ?_ ?_ ?_) <;> (first | rfl | assumption | (simp only [znl,znNF];(first|done|fail)) | (simp; done) | (simp; omega) | skip); done)
theorem list_wr (l : List Wr) (hl : l.length ≤ 20000) : Spec Try.prog 93 [encWrs l] (encWrs l) := by
  refine spec_ok Try.func93 rfl rfl (by kernel_rfl) (k := 1) rfl (by decide) ?_
  repeat' (first|(with_reducible first|refine yrl (by constructor) ?_|refine jk (fun M hM=>?_)|(refine hM _ ?_;clear hM M)|refine xb3 (by decide) ?_|refine yqa (by assumption) ?_ ?_|refine yqb (by assumption) ?_ ?_)|((with_reducible refine je ?_)<;>(first|rfl|assumption|(simp only [znl,znNF];(first|done|fail))))|(with_reducible refine jf (by (simp only [↓reduceIte,zlk,Nat.reduceEqDiff,reduceCtorEq]);exact rfl) ?_)|((with_reducible first|refine jg (fun hc=>?_) (fun hc=>?_)|refine jh (fun hc=>?_) (fun hc=>?_))<;>(try simp (disch:=omega) only [zhb] at hc)<;>(try (exfalso;omega))<;>(try subst hc))|(with_reducible refine ji (by omega) ?_)|(simp (config := { maxSteps := 400000 }) only [↓jt,↓reduceIte,zvs,reduceCtorEq,Nat.reduceEqDiff,Nat.reduceAdd,Nat.reduceLeDiff,Nat.reduceMul,Int.reduceBNe,Int.reduceBEq,Int.reduceEq,Int.reduceNe,Int.reduceLT,Int.reduceLE,Int.reduceGT,Int.reduceGE,Int.reduceNeg,Int.reduceToNat,Nat.reduceLT,Nat.reduceSub,tab,Try.results93, List.toList_toArray])|(simp (disch:=omega) only [ziw]))
  all_goals first
    | (refine rdt_of ?_ (by rfl); (refine rd_own (by (simp only [↓reduceIte,zlk,Nat.reduceEqDiff,reduceCtorEq]); exact rfl) ?_ ?_ ?_) <;> (first | rfl | assumption | (simp only [znl,znNF];(first|done|fail)) | (simp; done) | (simp; omega) | skip); done)
theorem own_drive (d : Dr) (h1 : d.bl.length ≤ 20000) (h2 : d.pe.length ≤ 20000) : Spec Try.prog 92 [encDr d] (encDr d) := by
  have hA := list_str d.bl h1
  have hB := list_wr d.pe h2
  refine spec_ok Try.func92 rfl rfl (by kernel_rfl) (k := 1) rfl (by decide) ?_
  repeat' (first|(with_reducible first|refine yrl (by constructor) ?_|refine jk (fun M hM=>?_)|(refine hM _ ?_;clear hM M)|refine xb3 (by decide) ?_|refine yqa (by assumption) ?_ ?_|refine yqb (by assumption) ?_ ?_)|((with_reducible refine je ?_)<;>(first|rfl|assumption|(simp only [znl,znNF];(first|done|fail))))|(with_reducible refine jf (by (simp only [↓reduceIte,zlk,Nat.reduceEqDiff,reduceCtorEq]);exact rfl) ?_)|((with_reducible first|refine jg (fun hc=>?_) (fun hc=>?_)|refine jh (fun hc=>?_) (fun hc=>?_))<;>(try simp (disch:=omega) only [zhb] at hc)<;>(try (exfalso;omega))<;>(try subst hc))|(with_reducible refine ji (by omega) ?_)|(simp (config := { maxSteps := 400000 }) only [↓jt,↓reduceIte,zvs,reduceCtorEq,Nat.reduceEqDiff,Nat.reduceAdd,Nat.reduceLeDiff,Nat.reduceMul,Int.reduceBNe,Int.reduceBEq,Int.reduceEq,Int.reduceNe,Int.reduceLT,Int.reduceLE,Int.reduceGT,Int.reduceGE,Int.reduceNeg,Int.reduceToNat,Nat.reduceLT,Nat.reduceSub,tab,Try.results92,jTA])|(simp (disch:=omega) only [ziw]))
  all_goals first
    | (((try simp only [List.map_nil]); simp only [zrds]; (repeat' (first | exact rd_nil | exact Rd.refl _ _ (by first|rfl|assumption|(simp only [znl,znNF];(first|done|fail))) | (refine And.intro ?_ ?_) | (refine rd_own (by (simp only [↓reduceIte,zlk,Nat.reduceEqDiff,reduceCtorEq]); exact rfl) ?_ ?_ ?_) | rfl | assumption | (simp only [znl,znNF];(first|done|fail)) | (simp; done) | (simp; omega)))); done)
end Go.Proofs.Ytpdhdkpebbfnnaa.V
end
section
namespace Go.Proofs.Ytpdhdkpebbfnnaa.V
open Go
set_option maxRecDepth 100000
set_option maxHeartbeats 4000000
structure PidOk (m : Mach) : Prop where
  pos : ∀ p ∈ m.pr, 1 ≤ p.pid
  inc : m.pr.Pairwise (fun p q => p.pid < q.pid)
  cur : 0 ≤ m.cur
end Go.Proofs.Ytpdhdkpebbfnnaa.V
end
section
namespace Go.Proofs.Ytpdhdkpebbfnnaa.V
open Go Go.RowKit
section
variable {P : Program} {ops : Array Oper} {k js : Nat} {perm : List Nat} {K : VS → Prop}
end
section
variable {P : Program} {n0 : Nat} {K : VX → VS → Prop}
end
end Go.Proofs.Ytpdhdkpebbfnnaa.V
end
section
namespace Go.Proofs.Ytpdhdkpebbfnnaa.V
open Go
set_option maxRecDepth 100000
set_option maxHeartbeats 4000000
end Go.Proofs.Ytpdhdkpebbfnnaa.V
end
section
namespace Go.Proofs.Ytpdhdkpebbfnnaa.V
open Go
set_option maxRecDepth 100000
set_option maxHeartbeats 4000000
theorem procQ_pos {m : Mach} {i : Nat} (h : procQ m i = true) : 1 ≤ (m.pr.getD i default).pid ∧ procB m (m.pr.getD i default) = true := by
  unfold procQ at h
  rw [Bool.and_eq_true] at h
  refine ⟨?_, h.2⟩
  have h2 := h.2
  unfold procB at h2
  simp only [Bool.and_eq_true] at h2
  have := (procH_iff m _).1 h2.1.1
  unfold headP at this
  exact this.1
theorem procQ_inc {m : Mach} {i : Nat} (h : procQ m (i + 1) = true) : (m.pr.getD i default).pid < (m.pr.getD (i + 1) default).pid := by
  unfold procQ at h
  rw [Bool.and_eq_true, Nat.add_sub_cancel, decide_eq_true (Nat.succ_pos i)] at h
  have h1 := h.1
  simp only [Bool.true_and,Bool.not_eq_true',decide_eq_false_iff_not] at h1
  omega
theorem chk_parts {m : Mach} (h : chkM m = 0) : numB m = false ∧ (1 ≤ m.fr.length ∧ m.fr.length ≤ 64) ∧ (∀ s ∈ m.fr, s.length = 128) ∧ m.pr.length ≤ 8 ∧ procsB m = true ∧ m.pipes.length ≤ 64 ∧ pipesB m = true ∧ m.inp.length ≤ 65536 ∧ m.init.length ≤ 128 ∧ diskE m = 0 := by
  unfold chkM at h
  split at h
  · omega
  split at h
  · omega
  split at h
  · omega
  split at h
  · omega
  split at h
  · omega
  split at h
  · omega
  split at h
  · omega
  split at h
  · omega
  rename_i h1 h2 h3 h4 h5 h6 h7 h8
  refine ⟨by simpa using h1, by omega, fun s hs => ?_, by omega, by simpa using h5, by omega, by simpa using h7, by omega, by omega, h⟩
  refine Decidable.byContradiction fun hc => h3 ?_
  rw [List.any_eq_true]
  exact ⟨s, hs, decide_eq_true hc⟩
structure MOk (m : Mach) : Prop where
  fit : MFit 20000 m
  chk : chkM m = 0
end Go.Proofs.Ytpdhdkpebbfnnaa.V
end
section
namespace Go.Proofs.Ytpdhdkpebbfnnaa.V
open Go
set_option maxRecDepth 100000
def znNQ := And.intro @jO <| And.intro @jP <| And.intro @jQ <| And.intro @jR <| And.intro @jS <| And.intro @jT <| And.intro @jU <| True.intro
set_option maxHeartbeats 4000000
theorem numbers_ok (m : Mach) (h : numB m = false) : Spec Try.prog 73 [encM m] (.int .i64 0) := by
  unfold numB at h
  have h := of_decide_eq_false h
  refine spec_ok Try.func73 rfl rfl (by kernel_rfl) (k := 1) rfl (by decide) ?_
  repeat' (first|(with_reducible first|refine yrl (by constructor) ?_|refine jk (fun M hM=>?_)|(refine hM _ ?_;clear hM M)|refine xb3 (by decide) ?_|refine yqa (by assumption) ?_ ?_|refine yqb (by assumption) ?_ ?_)|((with_reducible refine je ?_)<;>(first|rfl|assumption|(simp only [znl,znNQ];(first|done|fail))))|(with_reducible refine jf (by (simp only [↓reduceIte,zlk,Nat.reduceEqDiff,reduceCtorEq]);exact rfl) ?_)|((with_reducible first|refine jg (fun hc=>?_) (fun hc=>?_)|refine jh (fun hc=>?_) (fun hc=>?_))<;>(try simp (disch:=omega) only [zhb] at hc)<;>(try (exfalso;omega))<;>(try subst hc))|(with_reducible refine ji (by omega) ?_)|(simp (config := { maxSteps := 400000 }) only [↓jt,↓reduceIte,zvs,reduceCtorEq,Nat.reduceEqDiff,Nat.reduceAdd,Nat.reduceLeDiff,Nat.reduceMul,Int.reduceBNe,Int.reduceBEq,Int.reduceEq,Int.reduceNe,Int.reduceLT,Int.reduceLE,Int.reduceGT,Int.reduceGE,Int.reduceNeg,Int.reduceToNat,Nat.reduceLT,Nat.reduceSub,tab,Try.results73,jTA])|(simp (disch:=omega) only [ziw]))
  all_goals first
    | (exfalso; omega)
    | (simp only [zrds]; done)
theorem frames_ok (m : Mach) (h : 1 ≤ m.fr.length ∧ m.fr.length ≤ 64) (hs : ∀ s ∈ m.fr, s.length = 128) : Spec Try.prog 74 [encM m] (.int .i64 0) := by
  refine spec_ok Try.func74 rfl rfl (by kernel_rfl) (k := 1) rfl (by decide) ?_
  repeat' (first|(with_reducible first|refine yrl (by constructor) ?_|refine jk (fun M hM=>?_)|(refine hM _ ?_;clear hM M)|refine xb3 (by decide) ?_|refine yqa (by assumption) ?_ ?_|refine yqb (by assumption) ?_ ?_)|((with_reducible refine je ?_)<;>(first|rfl|assumption|(simp only [znl,znNQ];(first|done|fail))))|(with_reducible refine jf (by (simp only [↓reduceIte,zlk,Nat.reduceEqDiff,reduceCtorEq]);exact rfl) ?_)|((with_reducible first|refine jg (fun hc=>?_) (fun hc=>?_)|refine jh (fun hc=>?_) (fun hc=>?_))<;>(try simp (disch:=omega) only [zhb] at hc)<;>(try (exfalso;omega))<;>(try subst hc))|(with_reducible refine ji (by omega) ?_)|(simp (config := { maxSteps := 400000 }) only [↓jt,↓reduceIte,zvs,reduceCtorEq,Nat.reduceEqDiff,Nat.reduceAdd,Nat.reduceLeDiff,Nat.reduceMul,Int.reduceBNe,Int.reduceBEq,Int.reduceEq,Int.reduceNe,Int.reduceLT,Int.reduceLE,Int.reduceGT,Int.reduceGE,Int.reduceNeg,Int.reduceToNat,Nat.reduceLT,Nat.reduceSub,tab,Try.results74,jTA])|(simp (disch:=omega) only [ziw]))
  all_goals (try (exfalso; omega))
  refine ok_loop (fun k : Nat => ⟨slots [(1, .ptr 0 []), (16, encStrs m.fr), (17, .int .i64 m.fr.length), (18, .int .i64 k)], rows [(0, .row machSh (encM m))], 1⟩) (fun k => k ≤ m.fr.length) (fun k => m.fr.length - k) 0 ?_ (Nat.zero_le _) (fun k hk => ?_)
  · (refine yrn [(0, 0)] false ?_ ?_<;>(repeat' (first|(with_reducible first|exact ya1|exact ya2|exact ya3|refine jx rfl (by first|rfl|assumption|(simp only [znl,znNQ];(first|done|fail)))|exact ya5|exact ya7|exact jy|exact jz|refine jA ?_|refine ya9 ?_ ?_ ?_|refine jC rfl (by first|rfl|assumption|(simp only [znl,znNQ];(first|done|fail)))|refine MR.agg (MRL.cons ?_ ?_)|refine MR.fn ?_|refine MRL.cons ?_ ?_|exact MRL.nil|refine jE ?_ ?_|exact jF|exact jG|refine yb1 ?_ ?_|refine MB.row ?_|refine jI ?_ ?_|exact ya8|refine jJ rfl (by first|rfl|assumption|(simp only [znl,znNQ];(first|done|fail)))|refine yb2 ?_|rfl)|(simp only [znl,znNQ];(first|done|fail))|(simp only [↓reduceIte,zlk,Nat.reduceEqDiff,reduceCtorEq])|(with_reducible first|refine jJ ?_ ?_|refine ya5 ?_|refine ju ?_|refine jv ?_|refine jw ?_|refine jx ?_ (by first|rfl|assumption|(simp only [znl,znNQ];(first|done|fail)))|refine jC ?_ (by first|rfl|assumption|(simp only [znl,znNQ];(first|done|fail)))))))
    all_goals (first | rfl)
  by_cases hlt : k < m.fr.length
  · have hsk := hs _ (getD_mem' hlt)
    rw [default_str] at hsk
    repeat' (first|(with_reducible first|refine yrl (by constructor) ?_|refine jk (fun M hM=>?_)|(refine hM _ ?_;clear hM M)|refine xb3 (by decide) ?_|refine yqa (by assumption) ?_ ?_|refine yqb (by assumption) ?_ ?_)|((with_reducible refine je ?_)<;>(first|rfl|assumption|(simp only [znl,znNQ];(first|done|fail))))|(with_reducible refine jf (by (simp only [↓reduceIte,zlk,Nat.reduceEqDiff,reduceCtorEq]);exact rfl) ?_)|((with_reducible first|refine jg (fun hc=>?_) (fun hc=>?_)|refine jh (fun hc=>?_) (fun hc=>?_))<;>(try simp (disch:=omega) only [zhb] at hc)<;>(try (exfalso;omega))<;>(try subst hc))|(with_reducible refine ji (by omega) ?_)|(simp (config := { maxSteps := 400000 }) only [↓jt,↓reduceIte,zvs,reduceCtorEq,Nat.reduceEqDiff,Nat.reduceAdd,Nat.reduceLeDiff,Nat.reduceMul,Int.reduceBNe,Int.reduceBEq,Int.reduceEq,Int.reduceNe,Int.reduceLT,Int.reduceLE,Int.reduceGT,Int.reduceGE,Int.reduceNeg,Int.reduceToNat,Nat.reduceLT,Nat.reduceSub,tab,hsk,Try.results74,jTA])|(simp (disch:=omega) only [ziw]))
    all_goals first
      | (exfalso; omega)
      | (refine xl1 (k + 1) ?_ (by show k + 1 ≤ m.fr.length; omega) (by show m.fr.length - (k + 1) < m.fr.length - k; omega); (refine yrn [(0, 0)] false ?_ ?_<;>(repeat' (first|(with_reducible first|exact ya1|exact ya2|exact ya3|refine jx rfl (by first|rfl|assumption|(simp only [znl,znNQ];(first|done|fail)))|exact ya5|exact ya7|exact jy|exact jz|refine jA ?_|refine ya9 ?_ ?_ ?_|refine jC rfl (by first|rfl|assumption|(simp only [znl,znNQ];(first|done|fail)))|refine MR.agg (MRL.cons ?_ ?_)|refine MR.fn ?_|refine MRL.cons ?_ ?_|exact MRL.nil|refine jE ?_ ?_|exact jF|exact jG|refine yb1 ?_ ?_|refine MB.row ?_|refine jI ?_ ?_|exact ya8|refine jJ rfl (by first|rfl|assumption|(simp only [znl,znNQ];(first|done|fail)))|refine yb2 ?_|rfl)|(simp only [znl,znNQ];(first|done|fail))|(simp only [↓reduceIte,zlk,Nat.reduceEqDiff,reduceCtorEq])|(with_reducible first|refine jJ ?_ ?_|refine ya5 ?_|refine ju ?_|refine jv ?_|refine jw ?_|refine jx ?_ (by first|rfl|assumption|(simp only [znl,znNQ];(first|done|fail)))|refine jC ?_ (by first|rfl|assumption|(simp only [znl,znNQ];(first|done|fail))))))); done)
  · obtain rfl : k = m.fr.length := by omega
    repeat' (first|(with_reducible first|refine yrl (by constructor) ?_|refine jk (fun M hM=>?_)|(refine hM _ ?_;clear hM M)|refine xb3 (by decide) ?_|refine yqa (by assumption) ?_ ?_|refine yqb (by assumption) ?_ ?_)|((with_reducible refine je ?_)<;>(first|rfl|assumption|(simp only [znl,znNQ];(first|done|fail))))|(with_reducible refine jf (by (simp only [↓reduceIte,zlk,Nat.reduceEqDiff,reduceCtorEq]);exact rfl) ?_)|((with_reducible first|refine jg (fun hc=>?_) (fun hc=>?_)|refine jh (fun hc=>?_) (fun hc=>?_))<;>(try simp (disch:=omega) only [zhb] at hc)<;>(try (exfalso;omega))<;>(try subst hc))|(with_reducible refine ji (by omega) ?_)|(simp (config := { maxSteps := 400000 }) only [↓jt,↓reduceIte,zvs,reduceCtorEq,Nat.reduceEqDiff,Nat.reduceAdd,Nat.reduceLeDiff,Nat.reduceMul,Int.reduceBNe,Int.reduceBEq,Int.reduceEq,Int.reduceNe,Int.reduceLT,Int.reduceLE,Int.reduceGT,Int.reduceGE,Int.reduceNeg,Int.reduceToNat,Nat.reduceLT,Nat.reduceSub,tab,Try.results74,jTA])|(simp (disch:=omega) only [ziw]))
    all_goals first
      | (exfalso; omega)
      | (simp only [zrds]; done)
theorem texts_ok (m : Mach) (h : m.inp.length ≤ 65536 ∧ m.init.length ≤ 128) : Spec Try.prog 77 [encM m] (.int .i64 0) := by
  refine spec_ok Try.func77 rfl rfl (by kernel_rfl) (k := 1) rfl (by decide) ?_
  repeat' (first|(with_reducible first|refine yrl (by constructor) ?_|refine jk (fun M hM=>?_)|(refine hM _ ?_;clear hM M)|refine xb3 (by decide) ?_|refine yqa (by assumption) ?_ ?_|refine yqb (by assumption) ?_ ?_)|((with_reducible refine je ?_)<;>(first|rfl|assumption|(simp only [znl,znNQ];(first|done|fail))))|(with_reducible refine jf (by (simp only [↓reduceIte,zlk,Nat.reduceEqDiff,reduceCtorEq]);exact rfl) ?_)|((with_reducible first|refine jg (fun hc=>?_) (fun hc=>?_)|refine jh (fun hc=>?_) (fun hc=>?_))<;>(try simp (disch:=omega) only [zhb] at hc)<;>(try (exfalso;omega))<;>(try subst hc))|(with_reducible refine ji (by omega) ?_)|(simp (config := { maxSteps := 400000 }) only [↓jt,↓reduceIte,zvs,reduceCtorEq,Nat.reduceEqDiff,Nat.reduceAdd,Nat.reduceLeDiff,Nat.reduceMul,Int.reduceBNe,Int.reduceBEq,Int.reduceEq,Int.reduceNe,Int.reduceLT,Int.reduceLE,Int.reduceGT,Int.reduceGE,Int.reduceNeg,Int.reduceToNat,Nat.reduceLT,Nat.reduceSub,tab,Try.results77,jTA])|(simp (disch:=omega) only [ziw]))
  all_goals first
    | (exfalso; omega)
    | (simp only [zrds]; done)
def lastP (l : List Pip) : Nat → Int
  | 0 => 0
  | k + 1 => (l.getD k default).id
theorem pipeB_facts {m : Mach} {k : Nat} (h : pipeB m k = true) : 1 ≤ (m.pipes.getD k default).id ∧ (m.pipes.getD k default).id < m.newp ∧ (m.pipes.getD k default).d.length ≤ 64 ∧ (0 < k → (m.pipes.getD (k - 1) default).id < (m.pipes.getD k default).id) := by
  unfold pipeB longB at h
  simp only [Bool.not_eq_true',Bool.or_eq_false_iff,decide_eq_false_iff_not,Bool.and_eq_false_iff] at h
  omega
theorem lastP_lt {m : Mach} {k : Nat} (h : pipeB m k = true) : lastP m.pipes k < (m.pipes.getD k default).id := by
  have := pipeB_facts h
  cases k with
  | zero => show (0 : Int) < _; omega
  | succ k => have h2 := this.2.2.2 (by omega); rw [Nat.add_sub_cancel] at h2; exact h2
theorem spipes_ok (m : Mach) (hm : MFit 20000 m) (h : m.pipes.length ≤ 64) (hs : pipesB m = true) : Spec Try.prog 76 [encM m] (.int .i64 0) := by
  have hpiR := hm.pipesR
  have hq : ∀ i, i < m.pipes.length → pipeB m i = true := fun i hi => (List.all_eq_true.1 hs) i (List.mem_range.2 hi)
  refine spec_ok Try.func76 rfl rfl (by kernel_rfl) (k := 1) rfl (by decide) ?_
  repeat' (first|(with_reducible first|refine yrl (by constructor) ?_|refine jk (fun M hM=>?_)|(refine hM _ ?_;clear hM M)|refine xb3 (by decide) ?_|refine yqa (by assumption) ?_ ?_|refine yqb (by assumption) ?_ ?_)|((with_reducible refine je ?_)<;>(first|rfl|assumption|(simp only [znl,znNQ];(first|done|fail))))|(with_reducible refine jf (by (simp only [↓reduceIte,zlk,Nat.reduceEqDiff,reduceCtorEq]);exact rfl) ?_)|((with_reducible first|refine jg (fun hc=>?_) (fun hc=>?_)|refine jh (fun hc=>?_) (fun hc=>?_))<;>(try simp (disch:=omega) only [zhb] at hc)<;>(try (exfalso;omega))<;>(try subst hc))|(with_reducible refine ji (by omega) ?_)|(simp (config := { maxSteps := 400000 }) only [↓jt,↓reduceIte,zvs,reduceCtorEq,Nat.reduceEqDiff,Nat.reduceAdd,Nat.reduceLeDiff,Nat.reduceMul,Int.reduceBNe,Int.reduceBEq,Int.reduceEq,Int.reduceNe,Int.reduceLT,Int.reduceLE,Int.reduceGT,Int.reduceGE,Int.reduceNeg,Int.reduceToNat,Nat.reduceLT,Nat.reduceSub,tab,Try.results76,jTA])|(simp (disch:=omega) only [ziw]))
  all_goals (try (exfalso; omega))
  refine ok_loop (fun k : Nat => ⟨slots [(1, .ptr 0 []), (3, .int .i64 (lastP m.pipes k)), (11, encPis m.pipes), (12, .int .i64 m.pipes.length), (13, .int .i64 k)], rows [(0, .row machSh (encM m))], 1⟩) (fun k => k ≤ m.pipes.length) (fun k => m.pipes.length - k) 0 ?_ (Nat.zero_le _) (fun k hk => ?_)
  · (refine yrn [(0, 0)] false ?_ ?_<;>(repeat' (first|(with_reducible first|exact ya1|exact ya2|exact ya3|refine jx rfl (by first|rfl|assumption|(simp only [znl,znNQ];(first|done|fail)))|exact ya5|exact ya7|exact jy|exact jz|refine jA ?_|refine ya9 ?_ ?_ ?_|refine jC rfl (by first|rfl|assumption|(simp only [znl,znNQ];(first|done|fail)))|refine MR.agg (MRL.cons ?_ ?_)|refine MR.fn ?_|refine MRL.cons ?_ ?_|exact MRL.nil|refine jE ?_ ?_|exact jF|exact jG|refine yb1 ?_ ?_|refine MB.row ?_|refine jI ?_ ?_|exact ya8|refine jJ rfl (by first|rfl|assumption|(simp only [znl,znNQ];(first|done|fail)))|refine yb2 ?_|rfl)|(simp only [znl,znNQ];(first|done|fail))|(simp only [↓reduceIte,zlk,Nat.reduceEqDiff,reduceCtorEq])|(with_reducible first|refine jJ ?_ ?_|refine ya5 ?_|refine ju ?_|refine jv ?_|refine jw ?_|refine jx ?_ (by first|rfl|assumption|(simp only [znl,znNQ];(first|done|fail)))|refine jC ?_ (by first|rfl|assumption|(simp only [znl,znNQ];(first|done|fail)))))))
    all_goals (first | rfl)
  by_cases hlt : k < m.pipes.length
  · obtain ⟨⟨p1, p2⟩, p3⟩ := hpiR _ (getD_mem' hlt)
    have hf := pipeB_facts (hq k hlt)
    have hl := lastP_lt (hq k hlt)
    have hn : lastP m.pipes (k + 1) = (m.pipes.getD k default).id := rfl
    repeat' (first|(with_reducible first|refine yrl (by constructor) ?_|refine jk (fun M hM=>?_)|(refine hM _ ?_;clear hM M)|refine xb3 (by decide) ?_|refine yqa (by assumption) ?_ ?_|refine yqb (by assumption) ?_ ?_)|((with_reducible refine je ?_)<;>(first|rfl|assumption|(simp only [znl,znNQ];(first|done|fail))))|(with_reducible refine jf (by (simp only [↓reduceIte,zlk,Nat.reduceEqDiff,reduceCtorEq]);exact rfl) ?_)|((with_reducible first|refine jg (fun hc=>?_) (fun hc=>?_)|refine jh (fun hc=>?_) (fun hc=>?_))<;>(try simp (disch:=omega) only [zhb] at hc)<;>(try (exfalso;omega))<;>(try subst hc))|(with_reducible refine ji (by omega) ?_)|(simp (config := { maxSteps := 400000 }) only [↓jt,↓reduceIte,zvs,reduceCtorEq,Nat.reduceEqDiff,Nat.reduceAdd,Nat.reduceLeDiff,Nat.reduceMul,Int.reduceBNe,Int.reduceBEq,Int.reduceEq,Int.reduceNe,Int.reduceLT,Int.reduceLE,Int.reduceGT,Int.reduceGE,Int.reduceNeg,Int.reduceToNat,Nat.reduceLT,Nat.reduceSub,tab,encPi,Try.results76,jTA])|(simp (disch:=omega) only [ziw]))
    all_goals first
      | (exfalso; omega)
      | (refine xl1 (k + 1) ?_ (by show k + 1 ≤ m.pipes.length; omega) (by show m.pipes.length - (k + 1) < m.pipes.length - k; omega); (refine yrn [(0, 0)] false ?_ ?_<;>(repeat' (first|(with_reducible first|exact ya1|exact ya2|exact ya3|refine jx rfl (by first|rfl|assumption|(simp only [znl,znNQ];(first|done|fail)))|exact ya5|exact ya7|exact jy|exact jz|refine jA ?_|refine ya9 ?_ ?_ ?_|refine jC rfl (by first|rfl|assumption|(simp only [znl,znNQ];(first|done|fail)))|refine MR.agg (MRL.cons ?_ ?_)|refine MR.fn ?_|refine MRL.cons ?_ ?_|exact MRL.nil|refine jE ?_ ?_|exact jF|exact jG|refine yb1 ?_ ?_|refine MB.row ?_|refine jI ?_ ?_|exact ya8|refine jJ rfl (by first|rfl|assumption|(simp only [znl,znNQ];(first|done|fail)))|refine yb2 ?_|rfl)|(simp only [znl,znNQ];(first|done|fail))|(simp only [↓reduceIte,zlk,Nat.reduceEqDiff,reduceCtorEq])|(with_reducible first|refine jJ ?_ ?_|refine ya5 ?_|refine ju ?_|refine jv ?_|refine jw ?_|refine jx ?_ (by first|rfl|assumption|(simp only [znl,znNQ];(first|done|fail)))|refine jC ?_ (by first|rfl|assumption|(simp only [znl,znNQ];(first|done|fail))))))); all_goals (first | rfl | omega))
  · obtain rfl : k = m.pipes.length := by omega
    repeat' (first|(with_reducible first|refine yrl (by constructor) ?_|refine jk (fun M hM=>?_)|(refine hM _ ?_;clear hM M)|refine xb3 (by decide) ?_|refine yqa (by assumption) ?_ ?_|refine yqb (by assumption) ?_ ?_)|((with_reducible refine je ?_)<;>(first|rfl|assumption|(simp only [znl,znNQ];(first|done|fail))))|(with_reducible refine jf (by (simp only [↓reduceIte,zlk,Nat.reduceEqDiff,reduceCtorEq]);exact rfl) ?_)|((with_reducible first|refine jg (fun hc=>?_) (fun hc=>?_)|refine jh (fun hc=>?_) (fun hc=>?_))<;>(try simp (disch:=omega) only [zhb] at hc)<;>(try (exfalso;omega))<;>(try subst hc))|(with_reducible refine ji (by omega) ?_)|(simp (config := { maxSteps := 400000 }) only [↓jt,↓reduceIte,zvs,reduceCtorEq,Nat.reduceEqDiff,Nat.reduceAdd,Nat.reduceLeDiff,Nat.reduceMul,Int.reduceBNe,Int.reduceBEq,Int.reduceEq,Int.reduceNe,Int.reduceLT,Int.reduceLE,Int.reduceGT,Int.reduceGE,Int.reduceNeg,Int.reduceToNat,Nat.reduceLT,Nat.reduceSub,tab,Try.results76,jTA])|(simp (disch:=omega) only [ziw]))
    all_goals first
      | (exfalso; omega)
      | (simp only [zrds]; done)
theorem slives_spec (p : Pr) (hp : PrR p) : Spec Try.prog 136 [encPr p] (.bool (livesP p)) := by
  obtain ⟨hS1, hS2, hS3⟩ := pr3 hp
  unfold livesP
  refine spec_ok Try.func136 rfl rfl (by kernel_rfl) (k := 1) rfl (by decide) ?_
  repeat' (first|(with_reducible first|refine yrl (by constructor) ?_|refine jk (fun M hM=>?_)|(refine hM _ ?_;clear hM M)|refine xb3 (by decide) ?_|refine yqa (by assumption) ?_ ?_|refine yqb (by assumption) ?_ ?_)|((with_reducible refine je ?_)<;>(first|rfl|assumption|(simp only [znl,znNQ];(first|done|fail))))|(with_reducible refine jf (by (simp only [↓reduceIte,zlk,Nat.reduceEqDiff,reduceCtorEq]);exact rfl) ?_)|((with_reducible first|refine jg (fun hc=>?_) (fun hc=>?_)|refine jh (fun hc=>?_) (fun hc=>?_))<;>(try simp (disch:=omega) only [zhb] at hc)<;>(try (exfalso;omega))<;>(try subst hc))|(with_reducible refine ji (by omega) ?_)|(simp (config := { maxSteps := 400000 }) only [↓jt,↓reduceIte,zvs,reduceCtorEq,Nat.reduceEqDiff,Nat.reduceAdd,Nat.reduceLeDiff,Nat.reduceMul,Int.reduceBNe,Int.reduceBEq,Int.reduceEq,Int.reduceNe,Int.reduceLT,Int.reduceLE,Int.reduceGT,Int.reduceGE,Int.reduceNeg,Int.reduceToNat,Nat.reduceLT,Nat.reduceSub,tab,hS1,hS2,hS3,encPr,Try.results136,jTA])|(simp (disch:=omega) only [ziw]))
  all_goals first
    | (exfalso; omega)
    | (simp only [zrds]; rw [decide_eq_true (by assumption)]; rfl)
    | (simp only [zrds]; rw [decide_eq_false (by assumption), Bool.false_or]; first | rfl | (rw [Bool.eq_iff_iff]; simp))
theorem fields_ok (m : Mach) (p : Pr) (hp : PrR p) (h : headP m.next p.pid p.st (p.rs.getD 0 default) p.par p.why p.n p.code (livesB m.pr p.par = true)) : Spec Try.prog 109 [encPr p] (.bool true) := by
  obtain ⟨hS1, hS2, hS3⟩ := pr3 hp
  have hL := slives_spec p hp
  have hrl := hp.rs
  unfold headP at h
  have hlv : livesP p = true ↔ (p.st = 1 ∨ p.st = 2) := by simp [livesP]
  simp only [encPr] at hL
  obtain ⟨b, hb⟩ : ∃ b, livesP p = b := ⟨_, rfl⟩
  rw [hb] at hL hlv
  cases b
  all_goals
    simp only [true_iff,Bool.false_eq_true,false_iff] at hlv
    refine spec_ok Try.func109 rfl rfl (by kernel_rfl) (k := 1) rfl (by decide) ?_
    repeat' (first|(with_reducible first|refine yrl (by constructor) ?_|refine jk (fun M hM=>?_)|(refine hM _ ?_;clear hM M)|refine xb3 (by decide) ?_|refine yqa (by assumption) ?_ ?_|refine yqb (by assumption) ?_ ?_)|((with_reducible refine je ?_)<;>(first|rfl|assumption|(simp only [znl,znNQ];(first|done|fail))))|(with_reducible refine jf (by (simp only [↓reduceIte,zlk,Nat.reduceEqDiff,reduceCtorEq]);exact rfl) ?_)|((with_reducible first|refine jg (fun hc=>?_) (fun hc=>?_)|refine jh (fun hc=>?_) (fun hc=>?_))<;>(try simp (disch:=omega) only [zhb] at hc)<;>(try (exfalso;omega))<;>(try subst hc))|(with_reducible refine ji (by omega) ?_)|(simp (config := { maxSteps := 400000 }) only [↓jt,↓reduceIte,zvs,reduceCtorEq,Nat.reduceEqDiff,Nat.reduceAdd,Nat.reduceLeDiff,Nat.reduceMul,Int.reduceBNe,Int.reduceBEq,Int.reduceEq,Int.reduceNe,Int.reduceLT,Int.reduceLE,Int.reduceGT,Int.reduceGE,Int.reduceNeg,Int.reduceToNat,Nat.reduceLT,Nat.reduceSub,tab,hS1,hS2,hS3,encPr,Try.results109,jTA])|(simp (disch:=omega) only [ziw]))
    all_goals first
      | (exfalso; omega)
      | (simp only [zrds]; done)
      | (simp only [zrds]; rfl)
      | (simp only [zrds]; rw [Bool.eq_iff_iff]; simp only [beq_iff_eq,true_iff,iff_true]; omega)
end Go.Proofs.Ytpdhdkpebbfnnaa.V
end
