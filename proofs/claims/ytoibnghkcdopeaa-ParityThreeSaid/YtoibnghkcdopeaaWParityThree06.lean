/-
  Parts of the proof of ParityThree: A6, Vrf, A7, M1, M2, M3, Vshelf, M4, A8, Bd, AJ, VregZ.
  Conditions: none.
-/
import Derived.Test.YtoibnghkcdopeaaWParityThree05
import Derived.Test.YtoibnghkcdopeaaWParityThree04
import Derived.RangeFuncWrites
import Derived.RangeFuncLeaves
import Derived.RangeFuncCalls
import Derived.RangeFuncNested
import Derived.RangeFuncBound
import Derived.Shelf.Abstract
import Derived.Shelf.RegionOpen
import Derived.OwnWalkIn
import Derived.TacticsInMore
import Derived.LoopNIn
import Derived.LoopIn
import Derived.Lib.EndianBits
import Derived.Shelf.Strings.Builder1
import Derived.Shelf.Strings.Builder2
import Derived.Shelf.Strings.BuilderF
import Derived.Shelf.Strings.BuilderK
import Derived.Shelf.Strings.Builder2Cap
import Derived.Shelf.Strings.Prefix
import Derived.Shelf.Bits.Mul64
import Derived.Shelf.Strings.Repeat
import Derived.Shelf.Strings.BuilderCap
import Derived.Test.YtoibnghkcdopeaaProg
import Derived.WalkKit
import Derived.Lib.BufStepsIn
set_option linter.unusedVariables false
set_option linter.unusedSimpArgs false
set_option linter.unusedSectionVars false
set_option linter.defProp false
section
namespace Go.Proofs.Ytoibnghkcdopeaa.V
open Go Go.Proofs.Ytoibnghkcdopeaa Go.Proofs.Ytoibnghkcdopeaa.Gf
set_option maxRecDepth 100000
def znA6 := And.intro @nls_u <| And.intro @nls_prt <| And.intro @nl_prt <| True.intro
set_option maxHeartbeats 4000000
def wts (w0 w1 w2 : UInt8) : Nat → List UInt8
  | 0 => [0, 0, 0]
  | 1 => [w0, 0, 0]
  | 2 => [w0, w1, 0]
  | _ => [w0, w1, w2]
def prt3 (p0 p1 p2 : UInt8) : Nat → UInt8
  | 0 => 0
  | 1 => p0
  | 2 => p0 ^^^ p1
  | _ => (p0 ^^^ p1) ^^^ p2
theorem fillU_same (n k : Nat) (f : Nat → UInt8) (h : k < n) : (fillU n k f).set k 0 = fillU n k f := by
  unfold fillU
  rw [List.set_append_right _ _ (by rw [tabU_len]; exact Nat.le_refl _), tabU_len, Nat.sub_self, show n - k = (n - (k + 1)) + 1 by omega, List.replicate_succ, List.set_cons_zero]
theorem line_spec (x y z : UInt8) (hne : x ≠ y ∧ x ≠ z ∧ y ≠ z) (a b c : List UInt8) (n : Nat) (hn : n ≤ 100000) (ha : a.length = n) (hb : b.length = n) (hc : c.length = n) (t : UInt8) :
    Spec Try.prog 33 [.agg [.int .u8 (B8 x), .int .u8 (B8 y), .int .u8 (B8 z)], .agg [.str a, .str b, .str c], .int .u8 (B8 t)] (.str (lineP x y z a b c n t)) := by
  obtain ⟨f, hf⟩ : ∃ f : Nat → UInt8, f = fun i => lag [x, y, z] [nth a i, nth b i, nth c i] t := ⟨_, rfl⟩
  have hL : lineP x y z a b c n t = tabU n f := by rw [hf]; rfl
  rw [hL]
  obtain ⟨w0, h0⟩ : ∃ w, w = lag [x, y, z] [1, 0, 0] t := ⟨_, rfl⟩
  obtain ⟨w1, h1⟩ : ∃ w, w = lag [x, y, z] [0, 1, 0] t := ⟨_, rfl⟩
  obtain ⟨w2, h2⟩ : ∃ w, w = lag [x, y, z] [0, 0, 1] t := ⟨_, rfl⟩
  have A0 := at_spec [x, y, z] [1, 0, 0] (by simp) (by simp) t
  have A1 := at_spec [x, y, z] [0, 1, 0] (by simp) (by simp) t
  have A2 := at_spec [x, y, z] [0, 0, 1] (by simp) (by simp) t
  rw [val3 hne, ← h0] at A0
  rw [val3 hne, ← h1] at A1
  rw [val3 hne, ← h2] at A2
  have hfi : ∀ i, (mul w0 (nth a i) ^^^ mul w1 (nth b i)) ^^^ mul w2 (nth c i) = f i := fun i => by
    rw [h0, h1, h2, hf]; exact lag3_lin hne.1 hne.2.1 hne.2.2 _ _ _ _
  have e2 : ∀ a b c : UInt8, [a, b, c].map encU = [.int .u8 (B8 a), .int .u8 (B8 b), .int .u8 (B8 c)] := fun _ _ _ => rfl
  have b0 : B8 0 = 0 := rfl
  have b1 : B8 1 = 1 := rfl
  simp only [encBs,e2,b0,b1] at A0 A1 A2
  clear h0 h1 h2 hf hL
  have hX : Has (.arr 3 .cell) (.agg [.int .u8 (B8 x), .int .u8 (B8 y), .int .u8 (B8 z)]) := by simp [Has, VV.leaf]
  have hF : Has (.arr 3 .cell) (.agg [.str a, .str b, .str c]) := by simp [Has, VV.leaf]
  refine spec_ok Try.func33 rfl rfl (by kernel_rfl) (k := 3) rfl (by decide) ?_
  repeat' (first|(with_reducible first|refine yrl (by constructor) ?_|refine jk (fun M hM=>?_)|(refine hM _ ?_;clear hM M)|refine xb3 (by decide) ?_|refine yqa (by assumption) ?_ ?_|refine yqb (by assumption) ?_ ?_)|((with_reducible refine je ?_)<;>(first|rfl|assumption|(simp only [znl,znA6];(first|done|fail))))|(with_reducible refine jf (by (simp only [↓reduceIte,zlk,Nat.reduceEqDiff,reduceCtorEq]);exact rfl) ?_)|((with_reducible first|refine jg (fun hc=>?_) (fun hc=>?_)|refine jh (fun hc=>?_) (fun hc=>?_))<;>(try simp (disch:=omega) only [zhb] at hc)<;>(try (exfalso;omega))<;>(try subst hc))|(with_reducible refine ji (by omega) ?_)|(simp (config := { maxSteps := 400000 }) only [↓jt,↓reduceIte,zvs,reduceCtorEq,Nat.reduceEqDiff,Nat.reduceAdd,Nat.reduceLeDiff,Nat.reduceMul,Int.reduceBNe,Int.reduceBEq,Int.reduceEq,Int.reduceNe,Int.reduceLT,Int.reduceLE,Int.reduceGT,Int.reduceGE,Int.reduceNeg,Int.reduceToNat,Nat.reduceLT,Nat.reduceSub,tab,hX,hF,Try.results33,jTA])|(simp (disch:=omega) only [ziw]))
  refine ok_loop (fun k : Nat => ⟨slots [(2, .int .u8 (B8 t)), (3, .ptr 0 []), (4, .ptr 1 []), (6, .str []), (7, .ptr 2 []), (14, .int .i64 k)], rows [(0, .row (.arr 3 .cell) (.agg [.int .u8 (B8 x), .int .u8 (B8 y), .int .u8 (B8 z)])), (1, .row (.arr 3 .cell) (.agg [.str a, .str b, .str c])), (2, .row (.arr 3 .cell) (.agg ((wts w0 w1 w2 k).map encU)))], 3⟩) (fun k => k ≤ 3) (fun k => 3 - k) 0 ?_ (Nat.zero_le _) (fun k hk => ?_)
  · (refine yrn [(0, 0), (1, 1), (2, 2)] false ?_ ?_<;>(repeat' (first|(with_reducible first|exact ya1|exact ya2|exact ya3|refine jx rfl (by first|rfl|assumption|(simp only [znl,znA6];(first|done|fail)))|exact ya5|exact ya7|exact jy|exact jz|refine jA ?_|refine ya9 ?_ ?_ ?_|refine jC rfl (by first|rfl|assumption|(simp only [znl,znA6];(first|done|fail)))|refine MR.agg (MRL.cons ?_ ?_)|refine MR.fn ?_|refine MRL.cons ?_ ?_|exact MRL.nil|refine jE ?_ ?_|exact jF|exact jG|refine yb1 ?_ ?_|refine MB.row ?_|refine jI ?_ ?_|exact ya8|refine jJ rfl (by first|rfl|assumption|(simp only [znl,znA6];(first|done|fail)))|refine yb2 ?_|rfl)|(simp only [znl,znA6];(first|done|fail))|(simp only [↓reduceIte,zlk,Nat.reduceEqDiff,reduceCtorEq])|(with_reducible first|refine jJ ?_ ?_|refine ya5 ?_|refine ju ?_|refine jv ?_|refine jw ?_|refine jx ?_ (by first|rfl|assumption|(simp only [znl,znA6];(first|done|fail)))|refine jC ?_ (by first|rfl|assumption|(simp only [znl,znA6];(first|done|fail)))))))
    all_goals (first | rfl)
  have u0 : (wts w0 w1 w2 0).map encU = [.int .u8 0, .int .u8 0, .int .u8 0] := rfl
  have u1 : (wts w0 w1 w2 1).map encU = [.int .u8 (B8 w0), .int .u8 0, .int .u8 0] := rfl
  have u2 : (wts w0 w1 w2 2).map encU = [.int .u8 (B8 w0), .int .u8 (B8 w1), .int .u8 0] := rfl
  have u3 : (wts w0 w1 w2 3).map encU = [.int .u8 (B8 w0), .int .u8 (B8 w1), .int .u8 (B8 w2)] := rfl
  by_cases hlt : k < 3
  · have hk3 : k = 0 ∨ k = 1 ∨ k = 2 := by omega
    rcases hk3 with rfl | rfl | rfl
    · rw [u0]
      repeat' (first|(with_reducible first|refine yrl (by constructor) ?_|refine jk (fun M hM=>?_)|(refine hM _ ?_;clear hM M)|refine xb3 (by decide) ?_|refine yqa (by assumption) ?_ ?_|refine yqb (by assumption) ?_ ?_)|((with_reducible refine je ?_)<;>(first|rfl|assumption|(simp only [znl,znA6];(first|done|fail))))|(with_reducible refine jf (by (simp only [↓reduceIte,zlk,Nat.reduceEqDiff,reduceCtorEq]);exact rfl) ?_)|((with_reducible first|refine jg (fun hc=>?_) (fun hc=>?_)|refine jh (fun hc=>?_) (fun hc=>?_))<;>(try simp (disch:=omega) only [zhb] at hc)<;>(try (exfalso;omega))<;>(try subst hc))|(with_reducible refine ji (by omega) ?_)|(simp (config := { maxSteps := 400000 }) only [↓jt,↓reduceIte,zvs,reduceCtorEq,Nat.reduceEqDiff,Nat.reduceAdd,Nat.reduceLeDiff,Nat.reduceMul,Int.reduceBNe,Int.reduceBEq,Int.reduceEq,Int.reduceNe,Int.reduceLT,Int.reduceLE,Int.reduceGT,Int.reduceGE,Int.reduceNeg,Int.reduceToNat,Nat.reduceLT,Nat.reduceSub,tab,Try.results33,jTA])|(simp (disch:=omega) only [ziw]))
      all_goals (try (exfalso; omega))
      refine ok_drawM 10 [0, 1, 2, 3, 4, 5, 6, 7, 8] [9] 2 (by kernel_rfl) (by decide +kernel) (by decide) (by intro m hm; simp only [upd_ap,rows_cons,rows_nil]; (repeat (first | rfl | rw [if_neg (by omega)]))) (fun M hM => ?_); simp only [picks,hdM_nil,hdM_cons,List.getElem?_cons_succ,List.getElem?_cons_zero,List.drop_succ_cons,List.drop_zero]
      repeat' (first|(with_reducible first|refine yrl (by constructor) ?_|refine jk (fun M hM=>?_)|(refine hM _ ?_;clear hM M)|refine xb3 (by decide) ?_|refine yqa (by assumption) ?_ ?_|refine yqb (by assumption) ?_ ?_)|((with_reducible refine je ?_)<;>(first|rfl|assumption|(simp only [znl,znA6];(first|done|fail))))|(with_reducible refine jf (by (simp only [↓reduceIte,zlk,Nat.reduceEqDiff,reduceCtorEq]);exact rfl) ?_)|((with_reducible first|refine jg (fun hc=>?_) (fun hc=>?_)|refine jh (fun hc=>?_) (fun hc=>?_))<;>(try simp (disch:=omega) only [zhb] at hc)<;>(try (exfalso;omega))<;>(try subst hc))|(with_reducible refine ji (by omega) ?_)|(simp (config := { maxSteps := 400000 }) only [↓jt,↓reduceIte,zvs,reduceCtorEq,Nat.reduceEqDiff,Nat.reduceAdd,Nat.reduceLeDiff,Nat.reduceMul,Int.reduceBNe,Int.reduceBEq,Int.reduceEq,Int.reduceNe,Int.reduceLT,Int.reduceLE,Int.reduceGT,Int.reduceGE,Int.reduceNeg,Int.reduceToNat,Nat.reduceLT,Nat.reduceSub,tab,storeAt_go,isP_ptr,Try.results33,jTA])|(simp (disch:=omega) only [ziw]))
      all_goals (try (exfalso; omega))
      refine jb (hcall_read (A0) rfl (by repeat (first | exact rdl_nil | refine rdl_cons ?_ ?_ | exact Rd.refl _ _ (by first|rfl|assumption|(simp only [znl,znA6];(first|done|fail))) | (refine rd_own (by (simp only [↓reduceIte,zlk,Nat.reduceEqDiff,reduceCtorEq]); exact rfl) (by first | rfl | (simp; done) | (simp; omega)) rfl (by first|rfl|assumption|(simp only [znl,znA6];(first|done|fail)))) | exact rd_nil | refine (rd_a _ _ _).mpr ?_)) rfl) ?_
      repeat' (first|(with_reducible first|refine yrl (by constructor) ?_|refine jk (fun M hM=>?_)|(refine hM _ ?_;clear hM M)|refine xb3 (by decide) ?_|refine yqa (by assumption) ?_ ?_|refine yqb (by assumption) ?_ ?_)|((with_reducible refine je ?_)<;>(first|rfl|assumption|(simp only [znl,znA6];(first|done|fail))))|(with_reducible refine jf (by (simp only [↓reduceIte,zlk,Nat.reduceEqDiff,reduceCtorEq]);exact rfl) ?_)|((with_reducible first|refine jg (fun hc=>?_) (fun hc=>?_)|refine jh (fun hc=>?_) (fun hc=>?_))<;>(try simp (disch:=omega) only [zhb] at hc)<;>(try (exfalso;omega))<;>(try subst hc))|(with_reducible refine ji (by omega) ?_)|(simp (config := { maxSteps := 400000 }) only [↓jt,↓reduceIte,zvs,reduceCtorEq,Nat.reduceEqDiff,Nat.reduceAdd,Nat.reduceLeDiff,Nat.reduceMul,Int.reduceBNe,Int.reduceBEq,Int.reduceEq,Int.reduceNe,Int.reduceLT,Int.reduceLE,Int.reduceGT,Int.reduceGE,Int.reduceNeg,Int.reduceToNat,Nat.reduceLT,Nat.reduceSub,tab,storeAt_go,isP_ptr,Try.results33,jTA])|(simp (disch:=omega) only [ziw]))
      refine jb (hcall_read (A0) rfl (by repeat (first | exact rdl_nil | refine rdl_cons ?_ ?_ | exact Rd.refl _ _ (by first|rfl|assumption|(simp only [znl,znA6];(first|done|fail))) | (refine rd_own (by (simp only [↓reduceIte,zlk,Nat.reduceEqDiff,reduceCtorEq]); exact rfl) (by first | rfl | (simp; done) | (simp; omega)) rfl (by first|rfl|assumption|(simp only [znl,znA6];(first|done|fail)))) | exact rd_nil | refine (rd_a _ _ _).mpr ?_)) rfl) ?_
      repeat' (first|(with_reducible first|refine yrl (by constructor) ?_|refine jk (fun M hM=>?_)|(refine hM _ ?_;clear hM M)|refine xb3 (by decide) ?_|refine yqa (by assumption) ?_ ?_|refine yqb (by assumption) ?_ ?_)|((with_reducible refine je ?_)<;>(first|rfl|assumption|(simp only [znl,znA6];(first|done|fail))))|(with_reducible refine jf (by (simp only [↓reduceIte,zlk,Nat.reduceEqDiff,reduceCtorEq]);exact rfl) ?_)|((with_reducible first|refine jg (fun hc=>?_) (fun hc=>?_)|refine jh (fun hc=>?_) (fun hc=>?_))<;>(try simp (disch:=omega) only [zhb] at hc)<;>(try (exfalso;omega))<;>(try subst hc))|(with_reducible refine ji (by omega) ?_)|(simp (config := { maxSteps := 400000 }) only [↓jt,↓reduceIte,zvs,reduceCtorEq,Nat.reduceEqDiff,Nat.reduceAdd,Nat.reduceLeDiff,Nat.reduceMul,Int.reduceBNe,Int.reduceBEq,Int.reduceEq,Int.reduceNe,Int.reduceLT,Int.reduceLE,Int.reduceGT,Int.reduceGE,Int.reduceNeg,Int.reduceToNat,Nat.reduceLT,Nat.reduceSub,tab,storeAt_go,isP_ptr,Try.results33,jTA])|(simp (disch:=omega) only [ziw]))
      all_goals first
        | (exfalso; omega)
        | (refine xl1 1 ?_ (by decide) (by decide); (refine yrn [(0, 0), (1, 1), (2, 2)] false ?_ ?_<;>(repeat' (first|(with_reducible first|exact ya1|exact ya2|exact ya3|refine jx rfl (by first|rfl|assumption|(simp only [znl,znA6];(first|done|fail)))|exact ya5|exact ya7|exact jy|exact jz|refine jA ?_|refine ya9 ?_ ?_ ?_|refine jC rfl (by first|rfl|assumption|(simp only [znl,znA6];(first|done|fail)))|refine MR.agg (MRL.cons ?_ ?_)|refine MR.fn ?_|refine MRL.cons ?_ ?_|exact MRL.nil|refine jE ?_ ?_|exact jF|exact jG|refine yb1 ?_ ?_|refine MB.row ?_|refine jI ?_ ?_|exact ya8|refine jJ rfl (by first|rfl|assumption|(simp only [znl,znA6];(first|done|fail)))|refine yb2 ?_|rfl)|(simp only [znl,znA6];(first|done|fail))|(simp only [↓reduceIte,zlk,Nat.reduceEqDiff,reduceCtorEq])|(with_reducible first|refine jJ ?_ ?_|refine ya5 ?_|refine ju ?_|refine jv ?_|refine jw ?_|refine jx ?_ (by first|rfl|assumption|(simp only [znl,znA6];(first|done|fail)))|refine jC ?_ (by first|rfl|assumption|(simp only [znl,znA6];(first|done|fail))))))); all_goals (first | rfl | exact u1.symm); done)
    · rw [u1]
      repeat' (first|(with_reducible first|refine yrl (by constructor) ?_|refine jk (fun M hM=>?_)|(refine hM _ ?_;clear hM M)|refine xb3 (by decide) ?_|refine yqa (by assumption) ?_ ?_|refine yqb (by assumption) ?_ ?_)|((with_reducible refine je ?_)<;>(first|rfl|assumption|(simp only [znl,znA6];(first|done|fail))))|(with_reducible refine jf (by (simp only [↓reduceIte,zlk,Nat.reduceEqDiff,reduceCtorEq]);exact rfl) ?_)|((with_reducible first|refine jg (fun hc=>?_) (fun hc=>?_)|refine jh (fun hc=>?_) (fun hc=>?_))<;>(try simp (disch:=omega) only [zhb] at hc)<;>(try (exfalso;omega))<;>(try subst hc))|(with_reducible refine ji (by omega) ?_)|(simp (config := { maxSteps := 400000 }) only [↓jt,↓reduceIte,zvs,reduceCtorEq,Nat.reduceEqDiff,Nat.reduceAdd,Nat.reduceLeDiff,Nat.reduceMul,Int.reduceBNe,Int.reduceBEq,Int.reduceEq,Int.reduceNe,Int.reduceLT,Int.reduceLE,Int.reduceGT,Int.reduceGE,Int.reduceNeg,Int.reduceToNat,Nat.reduceLT,Nat.reduceSub,tab,Try.results33,jTA])|(simp (disch:=omega) only [ziw]))
      all_goals (try (exfalso; omega))
      refine ok_drawM 10 [0, 1, 2, 3, 4, 5, 6, 7, 8] [9] 2 (by kernel_rfl) (by decide +kernel) (by decide) (by intro m hm; simp only [upd_ap,rows_cons,rows_nil]; (repeat (first | rfl | rw [if_neg (by omega)]))) (fun M hM => ?_); simp only [picks,hdM_nil,hdM_cons,List.getElem?_cons_succ,List.getElem?_cons_zero,List.drop_succ_cons,List.drop_zero]
      repeat' (first|(with_reducible first|refine yrl (by constructor) ?_|refine jk (fun M hM=>?_)|(refine hM _ ?_;clear hM M)|refine xb3 (by decide) ?_|refine yqa (by assumption) ?_ ?_|refine yqb (by assumption) ?_ ?_)|((with_reducible refine je ?_)<;>(first|rfl|assumption|(simp only [znl,znA6];(first|done|fail))))|(with_reducible refine jf (by (simp only [↓reduceIte,zlk,Nat.reduceEqDiff,reduceCtorEq]);exact rfl) ?_)|((with_reducible first|refine jg (fun hc=>?_) (fun hc=>?_)|refine jh (fun hc=>?_) (fun hc=>?_))<;>(try simp (disch:=omega) only [zhb] at hc)<;>(try (exfalso;omega))<;>(try subst hc))|(with_reducible refine ji (by omega) ?_)|(simp (config := { maxSteps := 400000 }) only [↓jt,↓reduceIte,zvs,reduceCtorEq,Nat.reduceEqDiff,Nat.reduceAdd,Nat.reduceLeDiff,Nat.reduceMul,Int.reduceBNe,Int.reduceBEq,Int.reduceEq,Int.reduceNe,Int.reduceLT,Int.reduceLE,Int.reduceGT,Int.reduceGE,Int.reduceNeg,Int.reduceToNat,Nat.reduceLT,Nat.reduceSub,tab,storeAt_go,isP_ptr,Try.results33,jTA])|(simp (disch:=omega) only [ziw]))
      all_goals (try (exfalso; omega))
      refine jb (hcall_read (A1) rfl (by repeat (first | exact rdl_nil | refine rdl_cons ?_ ?_ | exact Rd.refl _ _ (by first|rfl|assumption|(simp only [znl,znA6];(first|done|fail))) | (refine rd_own (by (simp only [↓reduceIte,zlk,Nat.reduceEqDiff,reduceCtorEq]); exact rfl) (by first | rfl | (simp; done) | (simp; omega)) rfl (by first|rfl|assumption|(simp only [znl,znA6];(first|done|fail)))) | exact rd_nil | refine (rd_a _ _ _).mpr ?_)) rfl) ?_
      repeat' (first|(with_reducible first|refine yrl (by constructor) ?_|refine jk (fun M hM=>?_)|(refine hM _ ?_;clear hM M)|refine xb3 (by decide) ?_|refine yqa (by assumption) ?_ ?_|refine yqb (by assumption) ?_ ?_)|((with_reducible refine je ?_)<;>(first|rfl|assumption|(simp only [znl,znA6];(first|done|fail))))|(with_reducible refine jf (by (simp only [↓reduceIte,zlk,Nat.reduceEqDiff,reduceCtorEq]);exact rfl) ?_)|((with_reducible first|refine jg (fun hc=>?_) (fun hc=>?_)|refine jh (fun hc=>?_) (fun hc=>?_))<;>(try simp (disch:=omega) only [zhb] at hc)<;>(try (exfalso;omega))<;>(try subst hc))|(with_reducible refine ji (by omega) ?_)|(simp (config := { maxSteps := 400000 }) only [↓jt,↓reduceIte,zvs,reduceCtorEq,Nat.reduceEqDiff,Nat.reduceAdd,Nat.reduceLeDiff,Nat.reduceMul,Int.reduceBNe,Int.reduceBEq,Int.reduceEq,Int.reduceNe,Int.reduceLT,Int.reduceLE,Int.reduceGT,Int.reduceGE,Int.reduceNeg,Int.reduceToNat,Nat.reduceLT,Nat.reduceSub,tab,storeAt_go,isP_ptr,Try.results33,jTA])|(simp (disch:=omega) only [ziw]))
      refine jb (hcall_read (A1) rfl (by repeat (first | exact rdl_nil | refine rdl_cons ?_ ?_ | exact Rd.refl _ _ (by first|rfl|assumption|(simp only [znl,znA6];(first|done|fail))) | (refine rd_own (by (simp only [↓reduceIte,zlk,Nat.reduceEqDiff,reduceCtorEq]); exact rfl) (by first | rfl | (simp; done) | (simp; omega)) rfl (by first|rfl|assumption|(simp only [znl,znA6];(first|done|fail)))) | exact rd_nil | refine (rd_a _ _ _).mpr ?_)) rfl) ?_
      repeat' (first|(with_reducible first|refine yrl (by constructor) ?_|refine jk (fun M hM=>?_)|(refine hM _ ?_;clear hM M)|refine xb3 (by decide) ?_|refine yqa (by assumption) ?_ ?_|refine yqb (by assumption) ?_ ?_)|((with_reducible refine je ?_)<;>(first|rfl|assumption|(simp only [znl,znA6];(first|done|fail))))|(with_reducible refine jf (by (simp only [↓reduceIte,zlk,Nat.reduceEqDiff,reduceCtorEq]);exact rfl) ?_)|((with_reducible first|refine jg (fun hc=>?_) (fun hc=>?_)|refine jh (fun hc=>?_) (fun hc=>?_))<;>(try simp (disch:=omega) only [zhb] at hc)<;>(try (exfalso;omega))<;>(try subst hc))|(with_reducible refine ji (by omega) ?_)|(simp (config := { maxSteps := 400000 }) only [↓jt,↓reduceIte,zvs,reduceCtorEq,Nat.reduceEqDiff,Nat.reduceAdd,Nat.reduceLeDiff,Nat.reduceMul,Int.reduceBNe,Int.reduceBEq,Int.reduceEq,Int.reduceNe,Int.reduceLT,Int.reduceLE,Int.reduceGT,Int.reduceGE,Int.reduceNeg,Int.reduceToNat,Nat.reduceLT,Nat.reduceSub,tab,storeAt_go,isP_ptr,Try.results33,jTA])|(simp (disch:=omega) only [ziw]))
      all_goals first
        | (exfalso; omega)
        | (refine xl1 2 ?_ (by decide) (by decide); (refine yrn [(0, 0), (1, 1), (2, 2)] false ?_ ?_<;>(repeat' (first|(with_reducible first|exact ya1|exact ya2|exact ya3|refine jx rfl (by first|rfl|assumption|(simp only [znl,znA6];(first|done|fail)))|exact ya5|exact ya7|exact jy|exact jz|refine jA ?_|refine ya9 ?_ ?_ ?_|refine jC rfl (by first|rfl|assumption|(simp only [znl,znA6];(first|done|fail)))|refine MR.agg (MRL.cons ?_ ?_)|refine MR.fn ?_|refine MRL.cons ?_ ?_|exact MRL.nil|refine jE ?_ ?_|exact jF|exact jG|refine yb1 ?_ ?_|refine MB.row ?_|refine jI ?_ ?_|exact ya8|refine jJ rfl (by first|rfl|assumption|(simp only [znl,znA6];(first|done|fail)))|refine yb2 ?_|rfl)|(simp only [znl,znA6];(first|done|fail))|(simp only [↓reduceIte,zlk,Nat.reduceEqDiff,reduceCtorEq])|(with_reducible first|refine jJ ?_ ?_|refine ya5 ?_|refine ju ?_|refine jv ?_|refine jw ?_|refine jx ?_ (by first|rfl|assumption|(simp only [znl,znA6];(first|done|fail)))|refine jC ?_ (by first|rfl|assumption|(simp only [znl,znA6];(first|done|fail))))))); all_goals (first | rfl | exact u2.symm); done)
    · rw [u2]
      repeat' (first|(with_reducible first|refine yrl (by constructor) ?_|refine jk (fun M hM=>?_)|(refine hM _ ?_;clear hM M)|refine xb3 (by decide) ?_|refine yqa (by assumption) ?_ ?_|refine yqb (by assumption) ?_ ?_)|((with_reducible refine je ?_)<;>(first|rfl|assumption|(simp only [znl,znA6];(first|done|fail))))|(with_reducible refine jf (by (simp only [↓reduceIte,zlk,Nat.reduceEqDiff,reduceCtorEq]);exact rfl) ?_)|((with_reducible first|refine jg (fun hc=>?_) (fun hc=>?_)|refine jh (fun hc=>?_) (fun hc=>?_))<;>(try simp (disch:=omega) only [zhb] at hc)<;>(try (exfalso;omega))<;>(try subst hc))|(with_reducible refine ji (by omega) ?_)|(simp (config := { maxSteps := 400000 }) only [↓jt,↓reduceIte,zvs,reduceCtorEq,Nat.reduceEqDiff,Nat.reduceAdd,Nat.reduceLeDiff,Nat.reduceMul,Int.reduceBNe,Int.reduceBEq,Int.reduceEq,Int.reduceNe,Int.reduceLT,Int.reduceLE,Int.reduceGT,Int.reduceGE,Int.reduceNeg,Int.reduceToNat,Nat.reduceLT,Nat.reduceSub,tab,Try.results33,jTA])|(simp (disch:=omega) only [ziw]))
      all_goals (try (exfalso; omega))
      refine ok_drawM 10 [0, 1, 2, 3, 4, 5, 6, 7, 8] [9] 2 (by kernel_rfl) (by decide +kernel) (by decide) (by intro m hm; simp only [upd_ap,rows_cons,rows_nil]; (repeat (first | rfl | rw [if_neg (by omega)]))) (fun M hM => ?_); simp only [picks,hdM_nil,hdM_cons,List.getElem?_cons_succ,List.getElem?_cons_zero,List.drop_succ_cons,List.drop_zero]
      repeat' (first|(with_reducible first|refine yrl (by constructor) ?_|refine jk (fun M hM=>?_)|(refine hM _ ?_;clear hM M)|refine xb3 (by decide) ?_|refine yqa (by assumption) ?_ ?_|refine yqb (by assumption) ?_ ?_)|((with_reducible refine je ?_)<;>(first|rfl|assumption|(simp only [znl,znA6];(first|done|fail))))|(with_reducible refine jf (by (simp only [↓reduceIte,zlk,Nat.reduceEqDiff,reduceCtorEq]);exact rfl) ?_)|((with_reducible first|refine jg (fun hc=>?_) (fun hc=>?_)|refine jh (fun hc=>?_) (fun hc=>?_))<;>(try simp (disch:=omega) only [zhb] at hc)<;>(try (exfalso;omega))<;>(try subst hc))|(with_reducible refine ji (by omega) ?_)|(simp (config := { maxSteps := 400000 }) only [↓jt,↓reduceIte,zvs,reduceCtorEq,Nat.reduceEqDiff,Nat.reduceAdd,Nat.reduceLeDiff,Nat.reduceMul,Int.reduceBNe,Int.reduceBEq,Int.reduceEq,Int.reduceNe,Int.reduceLT,Int.reduceLE,Int.reduceGT,Int.reduceGE,Int.reduceNeg,Int.reduceToNat,Nat.reduceLT,Nat.reduceSub,tab,storeAt_go,isP_ptr,Try.results33,jTA])|(simp (disch:=omega) only [ziw]))
      all_goals (try (exfalso; omega))
      refine jb (hcall_read (A2) rfl (by repeat (first | exact rdl_nil | refine rdl_cons ?_ ?_ | exact Rd.refl _ _ (by first|rfl|assumption|(simp only [znl,znA6];(first|done|fail))) | (refine rd_own (by (simp only [↓reduceIte,zlk,Nat.reduceEqDiff,reduceCtorEq]); exact rfl) (by first | rfl | (simp; done) | (simp; omega)) rfl (by first|rfl|assumption|(simp only [znl,znA6];(first|done|fail)))) | exact rd_nil | refine (rd_a _ _ _).mpr ?_)) rfl) ?_
      repeat' (first|(with_reducible first|refine yrl (by constructor) ?_|refine jk (fun M hM=>?_)|(refine hM _ ?_;clear hM M)|refine xb3 (by decide) ?_|refine yqa (by assumption) ?_ ?_|refine yqb (by assumption) ?_ ?_)|((with_reducible refine je ?_)<;>(first|rfl|assumption|(simp only [znl,znA6];(first|done|fail))))|(with_reducible refine jf (by (simp only [↓reduceIte,zlk,Nat.reduceEqDiff,reduceCtorEq]);exact rfl) ?_)|((with_reducible first|refine jg (fun hc=>?_) (fun hc=>?_)|refine jh (fun hc=>?_) (fun hc=>?_))<;>(try simp (disch:=omega) only [zhb] at hc)<;>(try (exfalso;omega))<;>(try subst hc))|(with_reducible refine ji (by omega) ?_)|(simp (config := { maxSteps := 400000 }) only [↓jt,↓reduceIte,zvs,reduceCtorEq,Nat.reduceEqDiff,Nat.reduceAdd,Nat.reduceLeDiff,Nat.reduceMul,Int.reduceBNe,Int.reduceBEq,Int.reduceEq,Int.reduceNe,Int.reduceLT,Int.reduceLE,Int.reduceGT,Int.reduceGE,Int.reduceNeg,Int.reduceToNat,Nat.reduceLT,Nat.reduceSub,tab,storeAt_go,isP_ptr,Try.results33,jTA])|(simp (disch:=omega) only [ziw]))
      refine jb (hcall_read (A2) rfl (by repeat (first | exact rdl_nil | refine rdl_cons ?_ ?_ | exact Rd.refl _ _ (by first|rfl|assumption|(simp only [znl,znA6];(first|done|fail))) | (refine rd_own (by (simp only [↓reduceIte,zlk,Nat.reduceEqDiff,reduceCtorEq]); exact rfl) (by first | rfl | (simp; done) | (simp; omega)) rfl (by first|rfl|assumption|(simp only [znl,znA6];(first|done|fail)))) | exact rd_nil | refine (rd_a _ _ _).mpr ?_)) rfl) ?_
      repeat' (first|(with_reducible first|refine yrl (by constructor) ?_|refine jk (fun M hM=>?_)|(refine hM _ ?_;clear hM M)|refine xb3 (by decide) ?_|refine yqa (by assumption) ?_ ?_|refine yqb (by assumption) ?_ ?_)|((with_reducible refine je ?_)<;>(first|rfl|assumption|(simp only [znl,znA6];(first|done|fail))))|(with_reducible refine jf (by (simp only [↓reduceIte,zlk,Nat.reduceEqDiff,reduceCtorEq]);exact rfl) ?_)|((with_reducible first|refine jg (fun hc=>?_) (fun hc=>?_)|refine jh (fun hc=>?_) (fun hc=>?_))<;>(try simp (disch:=omega) only [zhb] at hc)<;>(try (exfalso;omega))<;>(try subst hc))|(with_reducible refine ji (by omega) ?_)|(simp (config := { maxSteps := 400000 }) only [↓jt,↓reduceIte,zvs,reduceCtorEq,Nat.reduceEqDiff,Nat.reduceAdd,Nat.reduceLeDiff,Nat.reduceMul,Int.reduceBNe,Int.reduceBEq,Int.reduceEq,Int.reduceNe,Int.reduceLT,Int.reduceLE,Int.reduceGT,Int.reduceGE,Int.reduceNeg,Int.reduceToNat,Nat.reduceLT,Nat.reduceSub,tab,storeAt_go,isP_ptr,Try.results33,jTA])|(simp (disch:=omega) only [ziw]))
      all_goals first
        | (exfalso; omega)
        | (refine xl1 3 ?_ (by decide) (by decide); (refine yrn [(0, 0), (1, 1), (2, 2)] false ?_ ?_<;>(repeat' (first|(with_reducible first|exact ya1|exact ya2|exact ya3|refine jx rfl (by first|rfl|assumption|(simp only [znl,znA6];(first|done|fail)))|exact ya5|exact ya7|exact jy|exact jz|refine jA ?_|refine ya9 ?_ ?_ ?_|refine jC rfl (by first|rfl|assumption|(simp only [znl,znA6];(first|done|fail)))|refine MR.agg (MRL.cons ?_ ?_)|refine MR.fn ?_|refine MRL.cons ?_ ?_|exact MRL.nil|refine jE ?_ ?_|exact jF|exact jG|refine yb1 ?_ ?_|refine MB.row ?_|refine jI ?_ ?_|exact ya8|refine jJ rfl (by first|rfl|assumption|(simp only [znl,znA6];(first|done|fail)))|refine yb2 ?_|rfl)|(simp only [znl,znA6];(first|done|fail))|(simp only [↓reduceIte,zlk,Nat.reduceEqDiff,reduceCtorEq])|(with_reducible first|refine jJ ?_ ?_|refine ya5 ?_|refine ju ?_|refine jv ?_|refine jw ?_|refine jx ?_ (by first|rfl|assumption|(simp only [znl,znA6];(first|done|fail)))|refine jC ?_ (by first|rfl|assumption|(simp only [znl,znA6];(first|done|fail))))))); all_goals (first | rfl | exact u3.symm); done)
  · obtain rfl : k = 3 := by omega
    rw [u3]
    clear A0 A1 A2 u0 u1 u2
    repeat' (first|(with_reducible first|refine yrl (by constructor) ?_|refine jk (fun M hM=>?_)|(refine hM _ ?_;clear hM M)|refine xb3 (by decide) ?_|refine yqa (by assumption) ?_ ?_|refine yqb (by assumption) ?_ ?_)|((with_reducible refine je ?_)<;>(first|rfl|assumption|(simp only [znl,znA6];(first|done|fail))))|(with_reducible refine jf (by (simp only [↓reduceIte,zlk,Nat.reduceEqDiff,reduceCtorEq]);exact rfl) ?_)|((with_reducible first|refine jg (fun hc=>?_) (fun hc=>?_)|refine jh (fun hc=>?_) (fun hc=>?_))<;>(try simp (disch:=omega) only [zhb] at hc)<;>(try (exfalso;omega))<;>(try subst hc))|(with_reducible refine ji (by omega) ?_)|(simp (config := { maxSteps := 400000 }) only [↓jt,↓reduceIte,zvs,reduceCtorEq,Nat.reduceEqDiff,Nat.reduceAdd,Nat.reduceLeDiff,Nat.reduceMul,Int.reduceBNe,Int.reduceBEq,Int.reduceEq,Int.reduceNe,Int.reduceLT,Int.reduceLE,Int.reduceGT,Int.reduceGE,Int.reduceNeg,Int.reduceToNat,Nat.reduceLT,Nat.reduceSub,tab,Try.results33,jTA])|(simp (disch:=omega) only [ziw]))
    all_goals (try (exfalso; omega))
    have hrep : List.replicate n (VV.int .u8 0) = (fillU n 0 f).map encU := by rw [fillU_zero, List.map_replicate]; rfl
    refine ok_loop (fun i : Nat => ⟨slots [(2, .int .u8 (B8 t)), (3, .ptr 0 []), (4, .ptr 1 []), (6, .str []), (7, .ptr 2 []), (10, .sl (some (3, [], 0)) n), (34, .int .i64 n), (35, .int .i64 i)], rows [(0, .row (.arr 3 .cell) (.agg [.int .u8 (B8 x), .int .u8 (B8 y), .int .u8 (B8 z)])), (1, .row (.arr 3 .cell) (.agg [.str a, .str b, .str c])), (2, .row (.arr 3 .cell) (.agg [.int .u8 (B8 w0), .int .u8 (B8 w1), .int .u8 (B8 w2)])), (3, .row (.arr n .cell) (.agg ((fillU n i f).map encU)))], 4⟩) (fun i => i ≤ n) (fun i => n - i) 0 ?_ (Nat.zero_le _) (fun i hi => ?_)
    · (refine yrn [(0, 0), (1, 1), (2, 2), (3, 3)] false ?_ ?_<;>(repeat' (first|(with_reducible first|exact ya1|exact ya2|exact ya3|refine jx rfl (by first|rfl|assumption|(simp only [znl,znA6];(first|done|fail)))|exact ya5|exact ya7|exact jy|exact jz|refine jA ?_|refine ya9 ?_ ?_ ?_|refine jC rfl (by first|rfl|assumption|(simp only [znl,znA6];(first|done|fail)))|refine MR.agg (MRL.cons ?_ ?_)|refine MR.fn ?_|refine MRL.cons ?_ ?_|exact MRL.nil|refine jE ?_ ?_|exact jF|exact jG|refine yb1 ?_ ?_|refine MB.row ?_|refine jI ?_ ?_|exact ya8|refine jJ rfl (by first|rfl|assumption|(simp only [znl,znA6];(first|done|fail)))|refine yb2 ?_|rfl)|(simp only [znl,znA6];(first|done|fail))|(simp only [↓reduceIte,zlk,Nat.reduceEqDiff,reduceCtorEq])|(with_reducible first|refine jJ ?_ ?_|refine ya5 ?_|refine ju ?_|refine jv ?_|refine jw ?_|refine jx ?_ (by first|rfl|assumption|(simp only [znl,znA6];(first|done|fail)))|refine jC ?_ (by first|rfl|assumption|(simp only [znl,znA6];(first|done|fail)))))))
      all_goals (first | rfl | exact hrep | (rw [ha]; done) | (rw [ha]; exact hrep))
    by_cases hli : i < n
    · have hfs := fillU_set n i f hli
      have hfz := fillU_same n i f hli
      have hfl := fillU_len n i f (by omega)
      have hfi := hfi i
      obtain ⟨F, hF2⟩ : ∃ F, F = fillU n i f := ⟨_, rfl⟩
      rw [← hF2] at hfs hfz hfl ⊢
      have gat : ∀ v, ((F.set i v).map encU)[i]? = some (.int .u8 (B8 v)) := fun v => by rw [List.getElem?_map, List.getElem?_set_self (by omega)]; rfl
      have sat : ∀ v v', ((F.set i v).map encU).set i (.int .u8 (B8 v')) = (F.set i v').map encU := fun v v' => by
        have e : VV.int .u8 (B8 v') = encU v' := rfl
        rw [e, ← List.map_set, List.set_set]
      have q0 : prt3 (mul w0 (nth a i)) (mul w1 (nth b i)) (mul w2 (nth c i)) 0 = 0 := rfl
      have q1 : prt3 (mul w0 (nth a i)) (mul w1 (nth b i)) (mul w2 (nth c i)) 1 = 0 ^^^ mul w0 (nth a i) := by rw [UInt8.zero_xor]; rfl
      have q2 : prt3 (mul w0 (nth a i)) (mul w1 (nth b i)) (mul w2 (nth c i)) 2 = (0 ^^^ mul w0 (nth a i)) ^^^ mul w1 (nth b i) := by rw [UInt8.zero_xor]; rfl
      have q3 : prt3 (mul w0 (nth a i)) (mul w1 (nth b i)) (mul w2 (nth c i)) 3 = ((0 ^^^ mul w0 (nth a i)) ^^^ mul w1 (nth b i)) ^^^ mul w2 (nth c i) := by rw [UInt8.zero_xor]; rfl
      rw [← UInt8.zero_xor (a := mul w0 (nth a i))] at hfi
      rw [← q3] at hfi
      repeat' (first|(with_reducible first|refine yrl (by constructor) ?_|refine jk (fun M hM=>?_)|(refine hM _ ?_;clear hM M)|refine xb3 (by decide) ?_|refine yqa (by assumption) ?_ ?_|refine yqb (by assumption) ?_ ?_)|((with_reducible refine je ?_)<;>(first|rfl|assumption|(simp only [znl,znA6];(first|done|fail))))|(with_reducible refine jf (by (simp only [↓reduceIte,zlk,Nat.reduceEqDiff,reduceCtorEq]);exact rfl) ?_)|((with_reducible first|refine jg (fun hc=>?_) (fun hc=>?_)|refine jh (fun hc=>?_) (fun hc=>?_))<;>(try simp (disch:=omega) only [zhb] at hc)<;>(try (exfalso;omega))<;>(try subst hc))|(with_reducible refine ji (by omega) ?_)|(simp (config := { maxSteps := 400000 }) only [↓jt,↓reduceIte,zvs,reduceCtorEq,Nat.reduceEqDiff,Nat.reduceAdd,Nat.reduceLeDiff,Nat.reduceMul,Int.reduceBNe,Int.reduceBEq,Int.reduceEq,Int.reduceNe,Int.reduceLT,Int.reduceLE,Int.reduceGT,Int.reduceGE,Int.reduceNeg,Int.reduceToNat,Nat.reduceLT,Nat.reduceSub,tab,Try.results33,jTA])|(simp (disch:=omega) only [ziw]))
      all_goals (try (exfalso; omega))
      refine ok_loop (fun j : Nat => ⟨slots [(2, .int .u8 (B8 t)), (3, .ptr 0 []), (4, .ptr 1 []), (6, .str []), (7, .ptr 2 []), (10, .sl (some (3, [], 0)) n), (34, .int .i64 n), (35, .int .i64 i), (11, .int .i64 i), (38, .agg [.int .u8 (B8 w0), .int .u8 (B8 w1), .int .u8 (B8 w2)]), (39, .int .i64 j)], rows [(0, .row (.arr 3 .cell) (.agg [.int .u8 (B8 x), .int .u8 (B8 y), .int .u8 (B8 z)])), (1, .row (.arr 3 .cell) (.agg [.str a, .str b, .str c])), (2, .row (.arr 3 .cell) (.agg [.int .u8 (B8 w0), .int .u8 (B8 w1), .int .u8 (B8 w2)])), (3, .row (.arr n .cell) (.agg ((F.set i (prt3 (mul w0 (nth a i)) (mul w1 (nth b i)) (mul w2 (nth c i)) j)).map encU)))], 4⟩) (fun j => j ≤ 3) (fun j => 3 - j) 0 ?_ (Nat.zero_le _) (fun j hj => ?_)
      · (refine yrn [(0, 0), (1, 1), (2, 2), (3, 3)] false ?_ ?_<;>(repeat' (first|(with_reducible first|exact ya1|exact ya2|exact ya3|refine jx rfl (by first|rfl|assumption|(simp only [znl,znA6];(first|done|fail)))|exact ya5|exact ya7|exact jy|exact jz|refine jA ?_|refine ya9 ?_ ?_ ?_|refine jC rfl (by first|rfl|assumption|(simp only [znl,znA6];(first|done|fail)))|refine MR.agg (MRL.cons ?_ ?_)|refine MR.fn ?_|refine MRL.cons ?_ ?_|exact MRL.nil|refine jE ?_ ?_|exact jF|exact jG|refine yb1 ?_ ?_|refine MB.row ?_|refine jI ?_ ?_|exact ya8|refine jJ rfl (by first|rfl|assumption|(simp only [znl,znA6];(first|done|fail)))|refine yb2 ?_|rfl)|(simp only [znl,znA6];(first|done|fail))|(simp only [↓reduceIte,zlk,Nat.reduceEqDiff,reduceCtorEq])|(with_reducible first|refine jJ ?_ ?_|refine ya5 ?_|refine ju ?_|refine jv ?_|refine jw ?_|refine jx ?_ (by first|rfl|assumption|(simp only [znl,znA6];(first|done|fail)))|refine jC ?_ (by first|rfl|assumption|(simp only [znl,znA6];(first|done|fail)))))))
        all_goals (first | rfl | (rw [q0, hfz]; done))
      by_cases hlj : j < 3
      · have hj3 : j = 0 ∨ j = 1 ∨ j = 2 := by omega
        have hWg : Has (.arr 3 .cell) (.agg [.int .u8 (B8 w0), .int .u8 (B8 w1), .int .u8 (B8 w2)]) := by simp [Has, VV.leaf]
        have hx0 : bits .xor .u8 0 = bits .xor .u8 (B8 0) := rfl
        rcases hj3 with rfl | rfl | rfl
        · have hM := mul_spec w0 (nth a i)
          rw [q0]
          have hgj := gat (prt3 (mul w0 (nth a i)) (mul w1 (nth b i)) (mul w2 (nth c i)) 0)
          have hsj := sat (prt3 (mul w0 (nth a i)) (mul w1 (nth b i)) (mul w2 (nth c i)) 0) (prt3 (mul w0 (nth a i)) (mul w1 (nth b i)) (mul w2 (nth c i)) 1)
          rw [q0] at hgj hsj
          rw [q1] at hsj
          repeat' (first|(with_reducible first|refine yrl (by constructor) ?_|refine jk (fun M hM=>?_)|(refine hM _ ?_;clear hM M)|refine xb3 (by decide) ?_|refine yqa (by assumption) ?_ ?_|refine yqb (by assumption) ?_ ?_)|((with_reducible refine je ?_)<;>(first|rfl|assumption|(simp only [znl,znA6];(first|done|fail))))|(with_reducible refine jf (by (simp only [↓reduceIte,zlk,Nat.reduceEqDiff,reduceCtorEq]);exact rfl) ?_)|((with_reducible first|refine jg (fun hc=>?_) (fun hc=>?_)|refine jh (fun hc=>?_) (fun hc=>?_))<;>(try simp (disch:=omega) only [zhb] at hc)<;>(try (exfalso;omega))<;>(try subst hc))|(with_reducible refine ji (by omega) ?_)|(simp (config := { maxSteps := 400000 }) only [↓jt,↓reduceIte,zvs,reduceCtorEq,Nat.reduceEqDiff,Nat.reduceAdd,Nat.reduceLeDiff,Nat.reduceMul,Int.reduceBNe,Int.reduceBEq,Int.reduceEq,Int.reduceNe,Int.reduceLT,Int.reduceLE,Int.reduceGT,Int.reduceGE,Int.reduceNeg,Int.reduceToNat,Nat.reduceLT,Nat.reduceSub,tab,Try.results33,jTA])|(simp (disch:=omega) only [ziw]))
          all_goals (try (exfalso; omega))
          refine ok_drawC 13 (by kernel_rfl) (by decide +kernel) (by intro m hm; simp only [upd_ap,rows_cons,rows_nil]; (repeat (first | rfl | rw [if_neg (by omega)]))) (fun M hM => ?_); simp only [List.take_succ_cons,List.take_zero,List.drop_succ_cons,List.drop_zero]
          repeat' (first|(with_reducible first|refine yrl (by constructor) ?_|refine jk (fun M hM=>?_)|(refine hM _ ?_;clear hM M)|refine xb3 (by decide) ?_|refine yqa (by assumption) ?_ ?_|refine yqb (by assumption) ?_ ?_)|((with_reducible refine je ?_)<;>(first|rfl|assumption|(simp only [znl,znA6];(first|done|fail))))|(with_reducible refine jf (by (simp only [↓reduceIte,zlk,Nat.reduceEqDiff,reduceCtorEq]);exact rfl) ?_)|((with_reducible first|refine jg (fun hc=>?_) (fun hc=>?_)|refine jh (fun hc=>?_) (fun hc=>?_))<;>(try simp (disch:=omega) only [zhb] at hc)<;>(try (exfalso;omega))<;>(try subst hc))|(with_reducible refine ji (by omega) ?_)|(simp (config := { maxSteps := 400000 }) only [↓jt,↓reduceIte,zvs,reduceCtorEq,Nat.reduceEqDiff,Nat.reduceAdd,Nat.reduceLeDiff,Nat.reduceMul,Int.reduceBNe,Int.reduceBEq,Int.reduceEq,Int.reduceNe,Int.reduceLT,Int.reduceLE,Int.reduceGT,Int.reduceGE,Int.reduceNeg,Int.reduceToNat,Nat.reduceLT,Nat.reduceSub,tab,nthB,hgj,bits_xor8,Int.toNat_natCast,Try.results33,jTA])|(simp (disch:=omega) only [ziw]))
          all_goals first
            | (exfalso; omega)
            | (refine xl1 1 ?_ (by decide) (by decide); (refine yrn [(0, 0), (1, 1), (2, 2), (3, 3)] false ?_ ?_<;>(repeat' (first|(with_reducible first|exact ya1|exact ya2|exact ya3|refine jx rfl (by first|rfl|assumption|(simp only [znl,znA6];(first|done|fail)))|exact ya5|exact ya7|exact jy|exact jz|refine jA ?_|refine ya9 ?_ ?_ ?_|refine jC rfl (by first|rfl|assumption|(simp only [znl,znA6];(first|done|fail)))|refine MR.agg (MRL.cons ?_ ?_)|refine MR.fn ?_|refine MRL.cons ?_ ?_|exact MRL.nil|refine jE ?_ ?_|exact jF|exact jG|refine yb1 ?_ ?_|refine MB.row ?_|refine jI ?_ ?_|exact ya8|refine jJ rfl (by first|rfl|assumption|(simp only [znl,znA6];(first|done|fail)))|refine yb2 ?_|rfl)|(simp only [znl,znA6];(first|done|fail))|(simp only [↓reduceIte,zlk,Nat.reduceEqDiff,reduceCtorEq])|(with_reducible first|refine jJ ?_ ?_|refine ya5 ?_|refine ju ?_|refine jv ?_|refine jw ?_|refine jx ?_ (by first|rfl|assumption|(simp only [znl,znA6];(first|done|fail)))|refine jC ?_ (by first|rfl|assumption|(simp only [znl,znA6];(first|done|fail))))))); all_goals (first | rfl | (rw [q1]; exact hsj)); done)
        · have hM := mul_spec w1 (nth b i)
          rw [q1]
          have hgj := gat (prt3 (mul w0 (nth a i)) (mul w1 (nth b i)) (mul w2 (nth c i)) 1)
          have hsj := sat (prt3 (mul w0 (nth a i)) (mul w1 (nth b i)) (mul w2 (nth c i)) 1) (prt3 (mul w0 (nth a i)) (mul w1 (nth b i)) (mul w2 (nth c i)) 2)
          rw [q1] at hgj hsj
          rw [q2] at hsj
          repeat' (first|(with_reducible first|refine yrl (by constructor) ?_|refine jk (fun M hM=>?_)|(refine hM _ ?_;clear hM M)|refine xb3 (by decide) ?_|refine yqa (by assumption) ?_ ?_|refine yqb (by assumption) ?_ ?_)|((with_reducible refine je ?_)<;>(first|rfl|assumption|(simp only [znl,znA6];(first|done|fail))))|(with_reducible refine jf (by (simp only [↓reduceIte,zlk,Nat.reduceEqDiff,reduceCtorEq]);exact rfl) ?_)|((with_reducible first|refine jg (fun hc=>?_) (fun hc=>?_)|refine jh (fun hc=>?_) (fun hc=>?_))<;>(try simp (disch:=omega) only [zhb] at hc)<;>(try (exfalso;omega))<;>(try subst hc))|(with_reducible refine ji (by omega) ?_)|(simp (config := { maxSteps := 400000 }) only [↓jt,↓reduceIte,zvs,reduceCtorEq,Nat.reduceEqDiff,Nat.reduceAdd,Nat.reduceLeDiff,Nat.reduceMul,Int.reduceBNe,Int.reduceBEq,Int.reduceEq,Int.reduceNe,Int.reduceLT,Int.reduceLE,Int.reduceGT,Int.reduceGE,Int.reduceNeg,Int.reduceToNat,Nat.reduceLT,Nat.reduceSub,tab,Try.results33,jTA])|(simp (disch:=omega) only [ziw]))
          all_goals (try (exfalso; omega))
          refine ok_drawC 13 (by kernel_rfl) (by decide +kernel) (by intro m hm; simp only [upd_ap,rows_cons,rows_nil]; (repeat (first | rfl | rw [if_neg (by omega)]))) (fun M hM => ?_); simp only [List.take_succ_cons,List.take_zero,List.drop_succ_cons,List.drop_zero]
          repeat' (first|(with_reducible first|refine yrl (by constructor) ?_|refine jk (fun M hM=>?_)|(refine hM _ ?_;clear hM M)|refine xb3 (by decide) ?_|refine yqa (by assumption) ?_ ?_|refine yqb (by assumption) ?_ ?_)|((with_reducible refine je ?_)<;>(first|rfl|assumption|(simp only [znl,znA6];(first|done|fail))))|(with_reducible refine jf (by (simp only [↓reduceIte,zlk,Nat.reduceEqDiff,reduceCtorEq]);exact rfl) ?_)|((with_reducible first|refine jg (fun hc=>?_) (fun hc=>?_)|refine jh (fun hc=>?_) (fun hc=>?_))<;>(try simp (disch:=omega) only [zhb] at hc)<;>(try (exfalso;omega))<;>(try subst hc))|(with_reducible refine ji (by omega) ?_)|(simp (config := { maxSteps := 400000 }) only [↓jt,↓reduceIte,zvs,reduceCtorEq,Nat.reduceEqDiff,Nat.reduceAdd,Nat.reduceLeDiff,Nat.reduceMul,Int.reduceBNe,Int.reduceBEq,Int.reduceEq,Int.reduceNe,Int.reduceLT,Int.reduceLE,Int.reduceGT,Int.reduceGE,Int.reduceNeg,Int.reduceToNat,Nat.reduceLT,Nat.reduceSub,tab,nthB,hgj,bits_xor8,Int.toNat_natCast,Try.results33,jTA])|(simp (disch:=omega) only [ziw]))
          all_goals first
            | (exfalso; omega)
            | (refine xl1 2 ?_ (by decide) (by decide); (refine yrn [(0, 0), (1, 1), (2, 2), (3, 3)] false ?_ ?_<;>(repeat' (first|(with_reducible first|exact ya1|exact ya2|exact ya3|refine jx rfl (by first|rfl|assumption|(simp only [znl,znA6];(first|done|fail)))|exact ya5|exact ya7|exact jy|exact jz|refine jA ?_|refine ya9 ?_ ?_ ?_|refine jC rfl (by first|rfl|assumption|(simp only [znl,znA6];(first|done|fail)))|refine MR.agg (MRL.cons ?_ ?_)|refine MR.fn ?_|refine MRL.cons ?_ ?_|exact MRL.nil|refine jE ?_ ?_|exact jF|exact jG|refine yb1 ?_ ?_|refine MB.row ?_|refine jI ?_ ?_|exact ya8|refine jJ rfl (by first|rfl|assumption|(simp only [znl,znA6];(first|done|fail)))|refine yb2 ?_|rfl)|(simp only [znl,znA6];(first|done|fail))|(simp only [↓reduceIte,zlk,Nat.reduceEqDiff,reduceCtorEq])|(with_reducible first|refine jJ ?_ ?_|refine ya5 ?_|refine ju ?_|refine jv ?_|refine jw ?_|refine jx ?_ (by first|rfl|assumption|(simp only [znl,znA6];(first|done|fail)))|refine jC ?_ (by first|rfl|assumption|(simp only [znl,znA6];(first|done|fail))))))); all_goals (first | rfl | (rw [q2]; exact hsj)); done)
        · have hM := mul_spec w2 (nth c i)
          rw [q2]
          have hgj := gat (prt3 (mul w0 (nth a i)) (mul w1 (nth b i)) (mul w2 (nth c i)) 2)
          have hsj := sat (prt3 (mul w0 (nth a i)) (mul w1 (nth b i)) (mul w2 (nth c i)) 2) (prt3 (mul w0 (nth a i)) (mul w1 (nth b i)) (mul w2 (nth c i)) 3)
          rw [q2] at hgj hsj
          rw [q3] at hsj
          repeat' (first|(with_reducible first|refine yrl (by constructor) ?_|refine jk (fun M hM=>?_)|(refine hM _ ?_;clear hM M)|refine xb3 (by decide) ?_|refine yqa (by assumption) ?_ ?_|refine yqb (by assumption) ?_ ?_)|((with_reducible refine je ?_)<;>(first|rfl|assumption|(simp only [znl,znA6];(first|done|fail))))|(with_reducible refine jf (by (simp only [↓reduceIte,zlk,Nat.reduceEqDiff,reduceCtorEq]);exact rfl) ?_)|((with_reducible first|refine jg (fun hc=>?_) (fun hc=>?_)|refine jh (fun hc=>?_) (fun hc=>?_))<;>(try simp (disch:=omega) only [zhb] at hc)<;>(try (exfalso;omega))<;>(try subst hc))|(with_reducible refine ji (by omega) ?_)|(simp (config := { maxSteps := 400000 }) only [↓jt,↓reduceIte,zvs,reduceCtorEq,Nat.reduceEqDiff,Nat.reduceAdd,Nat.reduceLeDiff,Nat.reduceMul,Int.reduceBNe,Int.reduceBEq,Int.reduceEq,Int.reduceNe,Int.reduceLT,Int.reduceLE,Int.reduceGT,Int.reduceGE,Int.reduceNeg,Int.reduceToNat,Nat.reduceLT,Nat.reduceSub,tab,Try.results33,jTA])|(simp (disch:=omega) only [ziw]))
          all_goals (try (exfalso; omega))
          refine ok_drawC 13 (by kernel_rfl) (by decide +kernel) (by intro m hm; simp only [upd_ap,rows_cons,rows_nil]; (repeat (first | rfl | rw [if_neg (by omega)]))) (fun M hM => ?_); simp only [List.take_succ_cons,List.take_zero,List.drop_succ_cons,List.drop_zero]
          repeat' (first|(with_reducible first|refine yrl (by constructor) ?_|refine jk (fun M hM=>?_)|(refine hM _ ?_;clear hM M)|refine xb3 (by decide) ?_|refine yqa (by assumption) ?_ ?_|refine yqb (by assumption) ?_ ?_)|((with_reducible refine je ?_)<;>(first|rfl|assumption|(simp only [znl,znA6];(first|done|fail))))|(with_reducible refine jf (by (simp only [↓reduceIte,zlk,Nat.reduceEqDiff,reduceCtorEq]);exact rfl) ?_)|((with_reducible first|refine jg (fun hc=>?_) (fun hc=>?_)|refine jh (fun hc=>?_) (fun hc=>?_))<;>(try simp (disch:=omega) only [zhb] at hc)<;>(try (exfalso;omega))<;>(try subst hc))|(with_reducible refine ji (by omega) ?_)|(simp (config := { maxSteps := 400000 }) only [↓jt,↓reduceIte,zvs,reduceCtorEq,Nat.reduceEqDiff,Nat.reduceAdd,Nat.reduceLeDiff,Nat.reduceMul,Int.reduceBNe,Int.reduceBEq,Int.reduceEq,Int.reduceNe,Int.reduceLT,Int.reduceLE,Int.reduceGT,Int.reduceGE,Int.reduceNeg,Int.reduceToNat,Nat.reduceLT,Nat.reduceSub,tab,nthB,hgj,bits_xor8,Int.toNat_natCast,Try.results33,jTA])|(simp (disch:=omega) only [ziw]))
          all_goals first
            | (exfalso; omega)
            | (refine xl1 3 ?_ (by decide) (by decide); (refine yrn [(0, 0), (1, 1), (2, 2), (3, 3)] false ?_ ?_<;>(repeat' (first|(with_reducible first|exact ya1|exact ya2|exact ya3|refine jx rfl (by first|rfl|assumption|(simp only [znl,znA6];(first|done|fail)))|exact ya5|exact ya7|exact jy|exact jz|refine jA ?_|refine ya9 ?_ ?_ ?_|refine jC rfl (by first|rfl|assumption|(simp only [znl,znA6];(first|done|fail)))|refine MR.agg (MRL.cons ?_ ?_)|refine MR.fn ?_|refine MRL.cons ?_ ?_|exact MRL.nil|refine jE ?_ ?_|exact jF|exact jG|refine yb1 ?_ ?_|refine MB.row ?_|refine jI ?_ ?_|exact ya8|refine jJ rfl (by first|rfl|assumption|(simp only [znl,znA6];(first|done|fail)))|refine yb2 ?_|rfl)|(simp only [znl,znA6];(first|done|fail))|(simp only [↓reduceIte,zlk,Nat.reduceEqDiff,reduceCtorEq])|(with_reducible first|refine jJ ?_ ?_|refine ya5 ?_|refine ju ?_|refine jv ?_|refine jw ?_|refine jx ?_ (by first|rfl|assumption|(simp only [znl,znA6];(first|done|fail)))|refine jC ?_ (by first|rfl|assumption|(simp only [znl,znA6];(first|done|fail))))))); all_goals (first | rfl | (rw [q3]; exact hsj)); done)
      · obtain rfl : j = 3 := by omega
        rw [hfi, hfs]
        repeat' (first|(with_reducible first|refine yrl (by constructor) ?_|refine jk (fun M hM=>?_)|(refine hM _ ?_;clear hM M)|refine xb3 (by decide) ?_|refine yqa (by assumption) ?_ ?_|refine yqb (by assumption) ?_ ?_)|((with_reducible refine je ?_)<;>(first|rfl|assumption|(simp only [znl,znA6];(first|done|fail))))|(with_reducible refine jf (by (simp only [↓reduceIte,zlk,Nat.reduceEqDiff,reduceCtorEq]);exact rfl) ?_)|((with_reducible first|refine jg (fun hc=>?_) (fun hc=>?_)|refine jh (fun hc=>?_) (fun hc=>?_))<;>(try simp (disch:=omega) only [zhb] at hc)<;>(try (exfalso;omega))<;>(try subst hc))|(with_reducible refine ji (by omega) ?_)|(simp (config := { maxSteps := 400000 }) only [↓jt,↓reduceIte,zvs,reduceCtorEq,Nat.reduceEqDiff,Nat.reduceAdd,Nat.reduceLeDiff,Nat.reduceMul,Int.reduceBNe,Int.reduceBEq,Int.reduceEq,Int.reduceNe,Int.reduceLT,Int.reduceLE,Int.reduceGT,Int.reduceGE,Int.reduceNeg,Int.reduceToNat,Nat.reduceLT,Nat.reduceSub,tab,Try.results33,jTA])|(simp (disch:=omega) only [ziw]))
        all_goals first
          | (exfalso; omega)
          | (refine xl1 (i + 1) ?_ (by show i + 1 ≤ n; omega) (by show n - (i + 1) < n - i; omega); (refine yrn [(0, 0), (1, 1), (2, 2), (3, 3)] false ?_ ?_<;>(repeat' (first|(with_reducible first|exact ya1|exact ya2|exact ya3|refine jx rfl (by first|rfl|assumption|(simp only [znl,znA6];(first|done|fail)))|exact ya5|exact ya7|exact jy|exact jz|refine jA ?_|refine ya9 ?_ ?_ ?_|refine jC rfl (by first|rfl|assumption|(simp only [znl,znA6];(first|done|fail)))|refine MR.agg (MRL.cons ?_ ?_)|refine MR.fn ?_|refine MRL.cons ?_ ?_|exact MRL.nil|refine jE ?_ ?_|exact jF|exact jG|refine yb1 ?_ ?_|refine MB.row ?_|refine jI ?_ ?_|exact ya8|refine jJ rfl (by first|rfl|assumption|(simp only [znl,znA6];(first|done|fail)))|refine yb2 ?_|rfl)|(simp only [znl,znA6];(first|done|fail))|(simp only [↓reduceIte,zlk,Nat.reduceEqDiff,reduceCtorEq])|(with_reducible first|refine jJ ?_ ?_|refine ya5 ?_|refine ju ?_|refine jv ?_|refine jw ?_|refine jx ?_ (by first|rfl|assumption|(simp only [znl,znA6];(first|done|fail)))|refine jC ?_ (by first|rfl|assumption|(simp only [znl,znA6];(first|done|fail))))))); all_goals (first | rfl); done)
    · obtain rfl : i = n := by omega
      rw [fillU_all]
      have hbo := bytesOf_u (tabU i f)
      have htl := tabU_len i f
      have htk : ((tabU i f).map encU).take i = (tabU i f).map encU := by rw [← List.map_take]; congr 1; exact List.take_of_length_le (by omega)
      repeat' (first|(with_reducible first|refine yrl (by constructor) ?_|refine jk (fun M hM=>?_)|(refine hM _ ?_;clear hM M)|refine xb3 (by decide) ?_|refine yqa (by assumption) ?_ ?_|refine yqb (by assumption) ?_ ?_)|((with_reducible refine je ?_)<;>(first|rfl|assumption|(simp only [znl,znA6];(first|done|fail))))|(with_reducible refine jf (by (simp only [↓reduceIte,zlk,Nat.reduceEqDiff,reduceCtorEq]);exact rfl) ?_)|((with_reducible first|refine jg (fun hc=>?_) (fun hc=>?_)|refine jh (fun hc=>?_) (fun hc=>?_))<;>(try simp (disch:=omega) only [zhb] at hc)<;>(try (exfalso;omega))<;>(try subst hc))|(with_reducible refine ji (by omega) ?_)|(simp (config := { maxSteps := 400000 }) only [↓jt,↓reduceIte,zvs,reduceCtorEq,Nat.reduceEqDiff,Nat.reduceAdd,Nat.reduceLeDiff,Nat.reduceMul,Int.reduceBNe,Int.reduceBEq,Int.reduceEq,Int.reduceNe,Int.reduceLT,Int.reduceLE,Int.reduceGT,Int.reduceGE,Int.reduceNeg,Int.reduceToNat,Nat.reduceLT,Nat.reduceSub,tab,hbo,htk,htl,Try.results33,jTA])|(simp (disch:=omega) only [ziw]))
      all_goals first
        | (exfalso; omega)
        | (simp only [zrds]; done)
end Go.Proofs.Ytoibnghkcdopeaa.V
end
section
namespace Go.Proofs.Ytoibnghkcdopeaa.V
open Go Go.RowKit

def fen : Option Nat → Fence
  | none => Fence.wide
  | some l => Fence.wide.inRound l
theorem fen_fn (ro : Option Nat) (f : FuncId) : (fen ro).fn f := by cases ro <;> trivial
theorem fen_depth (ro : Option Nat) (n : Nat) : (fen ro).depth.isSome = true → 1 ≤ n := by cases ro <;> (intro h; cases h)
theorem callsIn_fen {P : Program} {f : FuncId} {args : Array Value} {w : World} {R : Ending → World → Prop} (ro : Option Nat) (n : Nat) (h : Calls P f args w R) : CallsIn (fen ro) n P f args w R := by
  cases ro with
  | none => exact callsIn_wide.2 h
  | some l => exact (callsIn_wide.2 h).inRound l
theorem rowsIn_fen {P : Program} {row : String} {args : Array Value} {w : World} {R : Value → World → Prop} (ro : Option Nat) (n : Nat) (h : Rows P row args w R) : RowsIn (fen ro) n P row args w R := fun c cs _ => by
  obtain ⟨v, w', hR, hs⟩ := h c cs
  cases ro with
  | none => exact ⟨v, w', hR, stepsIn_wide.2 hs⟩
  | some l => exact ⟨v, w', hR, stepsIn_wide.2 hs⟩
def noDefer (o : Oper) : Bool := match o.op with
  | .defer _ => false
  | _ => true
theorem opIn_of_wp {P : Program} {o : Oper} {a : Act} {w : World} {Nx : Act → World → Prop} {Q : Exit → Act → World → Prop} (ro : Option Nat) (n : Nat) (hnd : noDefer o = true) (h : o.wp P a w Nx Q) : o.wpIn (fen ro) n P a w Nx Q := by
  refine ⟨fun f _ => fen_fn ro f, ?_⟩
  have hsem : o.semAt (fen ro).round a.eval = execOp a.eval o := by
    cases ro with
    | none => rfl
    | some l => exact Oper.semAt_some l _ _ (fun c e => by simp [noDefer, e] at hnd)
  rw [hsem]
  unfold Oper.wp at h
  generalize (execOp a.eval o).run P w = r at h ⊢
  cases r with
  | ok x w' =>
    cases x <;> first
      | exact h
      | exact ⟨fen_depth ro n, callsIn_fen ro (n - 1) h⟩
      | exact ⟨fen_depth ro n, rowsIn_fen ro (n - 1) h⟩
      | exact h.elim
  | halt x w' => cases x <;> first | exact h | exact h.elim
section
variable {P : Program} {N : NN} {B : Nat} {ρ0 : Names} {w0 : World} {ops : Array Oper} {Q : Exit → Act → World → Prop} {K : VS → Prop}
theorem vlist_soundI (ro : Option Nat) (n : Nat) (rest : List Oper) : ∀ (l : List Oper) (S : VS) (a : Act) (w : World) (ρ : Names), (∀ o ∈ l, (∀ t, o.dst = some t → t < N) ∧ noDefer o = true) → vlist P ops.toList l S K → SR N B ρ0 w0 S a w ρ →
    (∀ S' a' w' ρ', K S' → SR N B ρ0 w0 S' a' w' ρ' → wpListIn (fen ro) n P ops Q rest a' w') → wpListIn (fen ro) n P ops Q (l ++ rest) a w
  | [], S, a, w, ρ, _, h, hS, next => next S a w ρ h hS
  | o :: l, S, a, w, ρ, hd, h, hS, next => by
    obtain ⟨hd1, hd2⟩ := hd o (by simp)
    show wpListIn (fen ro) n P ops Q (o :: (l ++ rest)) a w
    refine wpListIn_step fun Kx hKx => ?_
    have := vstep_sound (Nx := Kx) (Q := Q) hd1 h hS fun S' a' w' ρ' hk hS' => hKx _ _ (vlist_soundI ro n rest l S' a' w' ρ' (fun o ho => hd o (by simp [ho])) hk hS' next)
    split at this
    · rename_i hw; rw [if_pos hw]; exact opIn_of_wp ro n hd2 this
    · rename_i hw; rw [if_neg hw]; exact ⟨fun f _ => fen_fn ro f, this⟩
end
def listOk (N : Nat) (l : List Oper) : Bool := l.all fun o => (match o.dst with | some d => decide (d < N) | none => true) && noDefer o
theorem region_soundI {P : Program} {N : NN} {B : Nat} {ρ0 : Names} {w0 : World} {Q : Exit → Act → World → Prop} {K : VS → Prop} {ro : Option Nat} {n id : Nat} {l : List Oper} {S : VS} {a : Act} {w : World} {ρ : Names} (hok : listOk N l = true)
    (h : vl P l l S K) (hS : SR N B ρ0 w0 S a w ρ) (next : ∀ S' a' w' ρ', K S' → SR N B ρ0 w0 S' a' w' ρ' → Q .normal a' w') : (Code.region id l.toArray false).wpIn (fen ro) n P Q a w := by
  refine wpIn_region_lit ?_
  have hx : ∀ o ∈ l, (∀ t, o.dst = some t → t < N) ∧ noDefer o = true := fun o ho => by
    have := List.all_eq_true.1 hok o ho
    simp only [Bool.and_eq_true] at this
    exact ⟨fun t ht => by have := this.1; rw [ht] at this; simpa using this, this.2⟩
  have := vlist_soundI (ops := l.toArray) (Q := Q) (K := K) (P := P) ro n [] l S a w ρ hx (by rw [← vl_def]; simpa using h) hS (fun S' a' w' ρ' hk hs => wpListIn_nil (next S' a' w' ρ' hk hs))
  simpa using this

structure Gr (w w' : World) : Prop where
  size : w.heap.size ≤ w'.heap.size
  same : ∀ (b : Nat) (o : Obj), w.heap[b]? = some o → o.isCells = true → w'.heap[b]? = some o
theorem Gr.of {w w' : World} {row : Option Nat} (hg : w.grownBy w' row) (hr : ∀ r, row = some r → ∃ o : Obj, w.heap[r]? = some o ∧ o.isCells = false) : Gr w w' := by
  refine ⟨hg.size, fun b o hb ho => ?_⟩
  rw [hg.block b (Array.getElem?_eq_some_iff.1 hb).1 (fun e => ?_)]
  · exact hb
  · obtain ⟨o', h1, h2⟩ := hr b e.symm
    rw [hb] at h1
    injection h1 with h1
    subst h1
    rw [ho] at h2; cases h2
theorem Gr.of_below {w w' : World} (h : Below w.heap.size w w') : Gr w w' := ⟨h.size, fun b o hb _ => by rw [h.block b (Array.getElem?_eq_some_iff.1 hb).1]; exact hb⟩
theorem cells_of {w : World} {b o : Nat} {v : Value} (h : w.cell? ⟨b, o, none⟩ = some v) : ∃ x : Obj, w.heap[b]? = some x ∧ x.isCells = true := by
  unfold World.cell? at h
  dsimp only at h
  split at h
  · rename_i c e f hb; exact ⟨_, hb, rfl⟩
  · cases h
theorem Gr.at {w w' : World} (h : Gr w w') {b o : Nat} {v : Value} (hc : w.cell? ⟨b, o, none⟩ = some v) : w'.heap[b]? = w.heap[b]? := by
  obtain ⟨x, h1, h2⟩ := cells_of hc
  rw [h1, h.same b x h1 h2]
theorem Gr.cell {w w' : World} (h : Gr w w') {b o : Nat} {v : Value} (hc : w.cell? ⟨b, o, none⟩ = some v) : w'.cell? ⟨b, o, none⟩ = some v := by
  rw [cell_of_block (h.at hc)]; exact hc
theorem Gr.range {w w' : World} (h : Gr w w') {b o : Nat} {cs : List Value} (hr : w.rangeAt b o cs) : w'.rangeAt b o cs := fun j v hv => h.cell (hr j v hv)
theorem Gr.there {w w' : World} (h : Gr w w') {b o n : Nat} (hr : w.there b o n) : w'.there b o n := fun j hj => by
  obtain ⟨h1, h2⟩ := hr j hj
  obtain ⟨v, hv⟩ := Option.isSome_iff_exists.1 h1
  rw [h.cell hv, frozen_of_block (h.at hv)]
  exact ⟨rfl, h2⟩
section
variable {ρ : Names} {w w' : World}
mutual
theorem C1.gr (h : Gr w w') : ∀ (v : VV) (cs : List Value), C1 ρ w v cs → C1 ρ w' v cs
  | .int _ _, _, hc => by simpa only [C1] using hc
  | .bool _, _, hc => by simpa only [C1] using hc
  | .str _, _, hc => by simpa only [C1] using hc
  | .agg vs, cs, hc => by simp only [C1] at hc ⊢; exact CR.gr h vs cs hc
  | .tup _, _, hc => by simp only [C1] at hc
  | .sl none _, _, hc => by simpa only [C1] using hc
  | .sl (some (m, p, i)) n, cs, hc => by simpa only [C1] using hc
  | .ptr m p, cs, hc => by simpa only [C1] using hc
  | .fn f caps, cs, hc => by
    simp only [C1] at hc ⊢
    obtain ⟨xs, h1, h2⟩ := hc
    exact ⟨xs, h1, CV.gr h caps _ h2⟩
  | .map m, cs, hc => by simpa only [C1] using hc
  | .dat s els, cs, hc => by
    simp only [C1] at hc ⊢
    obtain ⟨A, c, h1, h2, h3⟩ := hc
    refine ⟨A, c, h1, h2, fun hne => ?_⟩
    obtain ⟨b, o, ecs, g1, g2, g3, g4, g5, g6⟩ := h3 hne
    exact ⟨b, o, ecs, g1, CR.gr h els ecs g2, g3, h.range g4, g5, Nat.lt_of_lt_of_le g6 h.size⟩
  | .pd s v, cs, hc => by
    simp only [C1] at hc ⊢
    obtain ⟨b, o, ecs, g1, g2, g3, g4, g5, g6⟩ := hc
    exact ⟨b, o, ecs, g1, C1.gr h v ecs g2, g3, h.range g4, g5, Nat.lt_of_lt_of_le g6 h.size⟩
  | .vec _ _, _, hc => by simp only [C1] at hc
  | .any, _, hc => by simpa only [C1] using hc
  | .raw _, _, hc => by simpa only [C1] using hc
theorem CR.gr (h : Gr w w') : ∀ (vs : List VV) (cs : List Value), CR ρ w vs cs → CR ρ w' vs cs
  | [], _, hc => by simpa only [CR] using hc
  | v :: vs, cs, hc => by
    simp only [CR] at hc ⊢
    obtain ⟨c1, c2, h1, h2, h3⟩ := hc
    exact ⟨c1, c2, h1, C1.gr h v c1 h2, CR.gr h vs c2 h3⟩
theorem CV.gr (h : Gr w w') : ∀ (vs : List VV) (cs : List Value), CV ρ w vs cs → CV ρ w' vs cs
  | [], _, hc => by simpa only [CV] using hc
  | v :: vs, cs, hc => by
    simp only [CV] at hc ⊢
    obtain ⟨c1, c2, h1, h2, h3, h4⟩ := hc
    exact ⟨c1, c2, h1, h2, C1.gr h v [c1] h3, CV.gr h vs c2 h4⟩
end
theorem VR1.gr (h : Gr w w') (v : VV) (x : Value) (hc : VR1 ρ w v x) : VR1 ρ w' v x := by
  cases v with
  | agg vs => obtain ⟨cs, h1, h2⟩ := hc; exact ⟨cs, h1, CR.gr h vs _ h2⟩
  | any => trivial
  | _ => exact C1.gr h _ _ hc
theorem VRs.gr (h : Gr w w') : ∀ (vs : List VV) (xs : List Value), VRs ρ w vs xs → VRs ρ w' vs xs
  | [], _, hc => hc
  | v :: vs, xs, hc => by
    obtain ⟨x, ys, h1, h2, h3⟩ := hc
    exact ⟨x, ys, h1, VR1.gr h v x h2, VRs.gr h vs ys h3⟩
theorem VR.gr (h : Gr w w') (v : VV) (x : Value) (hc : VR ρ w v x) : VR ρ w' v x := by
  cases v with
  | tup vs => obtain ⟨cs, h1, h2⟩ := hc; exact ⟨cs, h1, VRs.gr h vs _ h2⟩
  | _ => simp only [VR] at hc ⊢; exact VR1.gr h _ _ hc
end
theorem HR.gr {Z : Nat → Nat → Prop} [Zone Z] {B n : Nat} {ρ : Names} {w w' : World} {H : Heap} (hm : ∀ m es, H m ≠ some (.map es)) (h : HR Z B ρ H n w) (g : Gr w w') : HR Z B ρ H n w' :=
  ⟨Nat.le_trans h.base g.size, h.fresh, fun m l hl => ⟨(h.lt m l hl).1, Nat.lt_of_lt_of_le (h.lt m l hl).2 g.size⟩, h.apart, fun m s v l h1 h2 => by
    have hr := h.row m s v l h1 h2
    obtain ⟨cs, c1, c2, c3⟩ := hr.cells
    exact ⟨hr.sh, hr.has, ⟨cs, C1.gr g v cs c1, c2, g.range c3⟩, g.there hr.room⟩, fun m es l h1 _ => absurd h1 (hm m es)⟩
theorem SR.gr {N : NN} {B : Nat} {ρ0 ρ : Names} {w0 w w' : World} {S : VS} {a : Act} (hm : ∀ m es, S.hp m ≠ some (.map es)) (hB : B ≤ w0.heap.size) (h : SR N B ρ0 w0 S a w ρ) {row : Option Nat} (hg : w.grownBy w' row)
    (hr : ∀ r, row = some r → w0.heap.size ≤ r ∧ ∃ o : Obj, w.heap[r]? = some o ∧ o.isCells = false) : SR N B ρ0 w0 S a w' ρ := by
  have g : Gr w w' := Gr.of hg fun r e => (hr r e).2
  refine ⟨fun t => VR.gr g _ _ (h.tm t), h.defers, h.size, h.heap.gr hm g, h.below.trans ⟨hg.os, hg.tape, hg.output, hg.size, fun k hk => hg.block k (Nat.lt_of_lt_of_le hk h.heap.base) fun e => ?_⟩, ⟨h.ext.names, Nat.le_trans h.ext.size hg.size, fun b hb hu => ?_, h.ext.fresh, h.ext.im, h.ext.imb⟩⟩
  · have := (hr k e.symm).1; omega
  · rw [hg.block b (Nat.lt_of_lt_of_le hb h.ext.size) (fun e => ?_)]
    · exact h.ext.block b hb hu
    · have := (hr b e.symm).1; omega
def moreIm (ρ : Names) (X : Nat → Prop) : Names := ⟨ρ.nm, fun b => ρ.im b ∨ X b⟩
theorem moreIm_un {ρ : Names} {X : Nat → Prop} {b : Nat} (h : Unnamed ρ b) : Unnamed (moreIm ρ X) b := ⟨.inl h.1, h.2⟩
theorem SR.more {N : NN} {B : Nat} {ρ0 ρ : Names} {w0 w : World} {S : VS} {a : Act} (X : Nat → Prop) (hX : ∀ b, X b → w0.heap.size ≤ b) (h : SR N B ρ0 w0 S a w ρ) : SR N B ρ0 w0 S a w (moreIm ρ X) := by
  have hN : ∀ m l, ρ m = some l → (moreIm ρ X) m = some l := fun _ _ h => h
  have hU : ∀ b, b < w.heap.size → Unnamed ρ b → Unnamed (moreIm ρ X) b := fun _ _ h => moreIm_un h
  refine ⟨fun t => VR.mono hN hU (h.tm t), h.defers, h.size, ⟨h.heap.base, h.heap.fresh, h.heap.lt, h.heap.apart, fun m s v l h1 h2 => ?_, fun m es l h1 h2 => ?_⟩, h.below, ⟨h.ext.names, h.ext.size, h.ext.block, h.ext.fresh, fun b hb => .inl (h.ext.im b hb), fun b hb => hb.elim (h.ext.imb b) fun hx => .inr (hX b hx)⟩⟩
  · have hr := h.heap.row m s v l h1 h2
    obtain ⟨cs, c1, c2, c3⟩ := hr.cells
    exact ⟨hr.sh, hr.has, ⟨cs, C1.mono hN hU v cs c1, c2, c3⟩, hr.room⟩
  · have hr := h.heap.map m es l h1 h2
    obtain ⟨xs, c, m1, m2⟩ := hr.obj
    have key : ∀ (es : List (VV × VV)) (xs : List MapEntry), ME ρ w es xs → ME (moreIm ρ X) w es xs := by
      intro es
      induction es with
      | nil => exact fun _ h => h
      | cons x es ih =>
        intro xs h
        obtain ⟨y, ys, g1, g2, g3, g4, g5⟩ := h
        exact ⟨y, ys, g1, g2, VR1.mono hN hU g3, VR1.mono hN hU g4, ih ys g5⟩
    exact ⟨⟨xs, c, m1, key _ _ m2⟩, hr.born⟩
theorem SR.here {N : NN} {B : Nat} {ρ0 ρ : Names} {w0 w : World} {S : VS} {a : Act} (h : SR N B ρ0 w0 S a w ρ) : SR N B ρ w S a w ρ := ⟨h.tm, h.defers, h.size, h.heap, Below.refl _ _, Ext.refl _ _⟩

def Cont (P : Program) (N : NN) (B : Nat) (ρ0 : Names) (w0 : World) (Q : Exit → Act → World → Prop) (c : Code) (S : VS) : Prop := ∀ a w ρ, SR N B ρ0 w0 S a w ρ → c.wp P Q a w
section
variable {P : Program} {N : NN} {B : Nat} {ρ0 : Names} {w0 : World} {Q : Exit → Act → World → Prop} {S T : VS} {x y z : Code} {n0 : Nat}
theorem cont_seq (h0 : ∀ m, n0 ≤ m → ρ0 m = none) (hok : codeOk N x = true) (h : Ok P n0 x S fun e S' => e = .normal ∧ Cont P N B ρ0 w0 Q y S') : Cont P N B ρ0 w0 Q (.seq x y) S := fun a w ρ hs =>
  wp_seq (h N B ρ0 w0 _ a w ρ h0 hok hs fun e S' a' w' ρ' ⟨he, hk⟩ hs' => by subst he; exact hk a' w' ρ' hs')
theorem cont_ren (h0 : ∀ m, n0 ≤ m → ρ0 m = none) (h : Ren n0 S T) (hT : Cont P N B ρ0 w0 Q x T) : Cont P N B ρ0 w0 Q x S := fun a w ρ hs => by
  obtain ⟨ρ', h'⟩ := h N B ρ0 w0 a w ρ h0 hs
  exact hT a w ρ' h'
theorem cont_left (h : Cont P N B ρ0 w0 (Exit.then (y.wp P Q) Q) x S) : Cont P N B ρ0 w0 Q (.seq x y) S := fun a w ρ hs => wp_seq (h a w ρ hs)
end
section
variable {P : Program} {N : NN} {B : Nat} {ρ0 : Names} {w0 : World} {Q : Exit → Act → World → Prop} {S T : VS} {x y z : Code} {n0 : Nat} {rs : List ResultVar} {Kf : VV → Heap → Nat → Prop}
def FinQ (P : Program) (N : NN) (B : Nat) (ρ0 : Names) (w0 : World) (Q : Exit → Act → World → Prop) (rs : List ResultVar) (Kf : VV → Heap → Nat → Prop) : Prop := ∀ S a w ρ, fin P rs Kf .ret S → SR N B ρ0 w0 S a w ρ → Q .ret a w
theorem cont_seqR (hQ : FinQ P N B ρ0 w0 Q rs Kf) (h0 : ∀ m, n0 ≤ m → ρ0 m = none) (hok : codeOk N x = true) (h : Ok P n0 x S (VX.seq (Cont P N B ρ0 w0 Q y) (fin P rs Kf))) : Cont P N B ρ0 w0 Q (.seq x y) S := fun a w ρ hs =>
  wp_seq (h N B ρ0 w0 _ a w ρ h0 hok hs fun e S' a' w' ρ' hk hs' => by
    cases e with
    | normal => exact hk a' w' ρ' hs'
    | ret => exact hQ S' a' w' ρ' hk hs'
    | exit i => exact hk.elim)
theorem cont_cut {α : Type} (fr : α → VS) (I : α → Prop) (hQ : FinQ P N B ρ0 w0 Q rs Kf) (h0 : ∀ m, n0 ≤ m → ρ0 m = none) (hok : codeOk N x = true) (h : Ok P n0 x S (CX n0 fr I (fin P rs Kf))) (h2 : ∀ x, I x → Cont P N B ρ0 w0 Q y (fr x)) : Cont P N B ρ0 w0 Q (.seq x y) S := fun a w ρ hs =>
  wp_seq (h N B ρ0 w0 _ a w ρ h0 hok hs fun e S' a' w' ρ' hk hs' => by
    cases e with
    | normal =>
      obtain ⟨x, h3, h4⟩ := hk
      obtain ⟨ρ1, h5⟩ := h3 N B ρ0 w0 a' w' ρ' h0 hs'
      exact h2 x h4 a' w' ρ1 h5
    | ret => exact hQ S' a' w' ρ' hk hs'
    | exit i => exact hk.elim)
theorem finQ_marks {fn : Func} {r : VV} {U : Nat → Prop} {n : Nat} {w : World} : FinQ P ⟨fn.ntmps, []⟩ w.heap.size (.bare U) w (bodyPostM Fence.wide n P fn fun e w' => ∃ x, e = .returned x ∧ Below w.heap.size w w' ∧ VR (.bare fun b => U b ∨ w.heap.size ≤ b) w' r x) fn.results.toList fun v H _ => RdT H v r := fun S a w' ρ hk hs => by
  obtain ⟨v, x, k1, k2, k3⟩ := vres_sound hs fn _ hk
  show LeavesInM Fence.wide n P fn a.tmps _ a.defers .returning w'
  rw [hs.defers]
  exact ⟨x, k3, x, rfl, hs.below, k1.value hs.heap hs.ext.imb (fun m l hl => .inr (hs.heap.lt m l hl).1) k2⟩
end
theorem sr_enter {fn : Func} {args : List VV} {k : Nat} (hl : args.length = k) (hlen : k ≤ fn.ntmps) {B : Nat} {ρ : Names} {w : World} {xs : List Value} {H : Heap} {n : Nat} (hh : HR ZT B ρ H n w) (ha : VRA ρ w args xs) :
    SR ⟨fn.ntmps, []⟩ B ρ w ⟨argsF 0 args (fun _ => .any), H, n⟩ { tmps := xs.toArray ++ Array.replicate (fn.ntmps - xs.toArray.size) undef, defers := [] } w ρ := by
  have hxl := ha.len
  refine ⟨?_, rfl, by simp; omega, hh, Below.refl _ _, Ext.refl _ _⟩
  intro t
  show VR ρ w (argsF 0 args (fun _ => .any) t) _
  rw [argsF_at]
  split
  · rename_i ht
    have ht' : t < xs.length := by omega
    have key : ∀ (vs : List VV) (xs : List Value) (t : Nat), VRA ρ w vs xs → t < xs.length → VR ρ w (vs.getD t .any) (xs.getD t undef) := by
      intro vs
      induction vs with
      | nil => intro xs t h ht; have h : xs = [] := h; subst h; simp at ht
      | cons v vs ih =>
        intro xs t h ht
        obtain ⟨x, ys, rfl, h1, h2⟩ := h
        cases t with
        | zero => simpa using h1
        | succ t => simpa using ih ys t h2 (by simpa using ht)
    have := key args xs t ha ht'
    simpa [Array.getD_eq_getD_getElem?, Array.getElem?_append, ht', List.getD_eq_getElem?_getD] using this
  · simp [VR, VR1]
theorem hr_bare (U : Nat → Prop) (w : World) : HR ZT w.heap.size (.bare U) (fun _ => none) 0 w := ⟨Nat.le_refl _, fun _ _ => rfl, fun m l h => (by cases h), fun m m' l l' h => (by cases h), fun m s v l h => (by cases h), fun m es l h => (by cases h)⟩
theorem in_assign {r k : Nat} {P : Program} {ops : Array Oper} {Q : Exit → Act → World → Prop} {rest : List Oper} {a : Act} {w : World} {d : Nat} {x : Operand} {ty : TypeId} {pos : String} {aft : Array Edge}
    (h : wpListIn (Fence.wide.inRound r) k P ops Q rest (a.put (some d) (a.eval x)) w) : wpListIn (Fence.wide.inRound r) k P ops Q ({ dst := some d, op := .assign x, type := ty, pos := pos, after := aft, guard := none } :: rest) a w :=
  wpListIn_plain rfl fun K hK => opIn_of_wp (some r) k rfl (by
    unfold Oper.wp
    simp only [execOp]
    exact hK _ _ h)
theorem wp_range {α : Type} {P : Program} {g : Operand} {ps : Array Tmp} {assign : Code} {bid rid : Nat} {l : List Oper} {Q : Exit → Act → World → Prop} {a : Act} {w1 w0 : World} {N : NN} {B : Nat} {ρ0 ρ : Names} {n0 : Nat}
    (m : Nat) {gf : Nat} {lb : Array Value} {encs : α → Array Value} {S : List α → Prop} {M : Nat} (fr : List α → VS) (h0 : ∀ m, n0 ≤ m → ρ0 m = none) (hB : B ≤ w0.heap.size) (hS : SR N B ρ0 w0 (fr []) a w1 ρ)
    (hg : a.eval g = .func (.func gf) #[] lb) (eg : ∀ args w, (callFunc gf args).run P w = .ok (.enter gf args) w) (Hd : World → Prop)
    (hseq : SeqStopsK Fence.wide m P gf lb encs (fun W W' => Hd W → Hd W') S (fun _ => True) M w1) (hHd : ∀ pre W ρ', SR N B ρ0 w0 (fr pre) a W ρ' → Hd W) (hHg : ∀ W W', Gr W W' → Hd W → Hd W') (hps : ∀ x, (encs x).size = ps.size)
    (hmaps : ∀ pre k es, (fr pre).hp k ≠ some (.map es)) (hnew : ∀ pre x k, k < (fr (pre ++ [x])).nx → ∃ s v, (fr (pre ++ [x])).hp k = some (.row s v) ∧ 0 < s.size)
    (a₁ : α → Act) (tm₁ : List α → α → Nat → VV)
    (hassign : ∀ (r : Nat) (x : α) (W : World) (K : Act → World → Prop), K (a₁ x) W → assign.wpIn (Fence.wide.inRound r) (m - 1) P (Exit.then K (fun _ _ _ => False)) { tmps := (ps.zip (encs x)).foldl (fun t (p, v) => t.setIfInBounds p v) a.tmps, defers := [] } W)
    (hpar : ∀ pre x W ρ', SR N B ρ0 w0 (fr pre) a W ρ' → TM ρ' W (tm₁ pre x) (a₁ x)) (hsz : ∀ x, (a₁ x).tmps.size = N.n) (hdf : ∀ x, (a₁ x).defers = []) (hok : listOk N.n l = true)
    (hbody : ∀ pre x, pre.length < M → ∀ Mm : VS → Prop, (∀ S', Ren n0 ⟨(fr pre).tm, S'.hp, S'.nx⟩ (fr (pre ++ [x])) → Mm S') → vl P l l ⟨tm₁ pre x, (fr pre).hp, (fr pre).nx⟩ Mm)
    (hdone : ∀ (D : Nat) (xs : List α) (W : World) (ρ' : Names), w1.heap.size ≤ D → S xs → SR N B ρ0 w0 (fr xs) a W ρ' → (∀ m l, ρ' m = some l → l.block ≠ D) → W.heap[D]? = some (.deferred (some [])) → Q .normal { a with defers := { target := .collected D, args := #[] } :: a.defers } W) :
    (Code.rangeFunc g ps assign (.block bid (.region rid l.toArray false))).wp P Q a w1 := by
  have h01 : w0.heap.size ≤ w1.heap.size := hS.ext.size
  let NC : Names → World → Prop := fun ρ' W => ∀ m l, ρ' m = some l → l.block < w1.heap.size ∨ ∃ o : Obj, W.heap[l.block]? = some o ∧ o.isCells = true
  let I : List α → World → Prop := fun pre W => ∃ ρ', SR N B ρ0 w0 (fr pre) a W ρ' ∧ NC ρ' W
  refine (wpIn_wide (n := m + 1)).1 ?_
  refine wpIn_rangeFunc_ownG (w0 := w1) rfl (by omega) hg trivial eg hseq (fun {A B C} h k x => k (h x)) (fun W l o o' _ hl ho _ => hHg _ _ (Gr.of (grownBy_putObj' W l o') fun r e => by cases e; exact ⟨o, hl, ho⟩)) (Below.refl _ _) hps
    I (fun _ _ _ => False) ?_ (fun _ _ _ _ _ h => h.elim) ⟨ρ, hS, fun m l hm => .inl (hS.heap.lt m l hm).2⟩ a₁ hassign ?_ ?_ (fun _ _ _ _ _ _ h => h.elim)
  · rintro pre W W' row ⟨ρ', h, hnc⟩ hg hr
    refine ⟨ρ', h.gr (hmaps pre) hB hg (fun r e => ⟨Nat.le_trans h01 (hr r e).1, (hr r e).2⟩), fun m l hm => ?_⟩
    rcases hnc m l hm with h1 | ⟨o, h1, h2⟩
    · exact .inl h1
    · exact .inr ⟨o, (Gr.of hg fun r e => (hr r e).2).same _ o h1 h2, h2⟩
  · rintro r pre x W ⟨ρ', h, hnc⟩ hlen
    let X : Nat → Prop := fun k => w1.heap.size ≤ k ∧ ∃ o : Obj, W.heap[k]? = some o ∧ o.isCells = false
    have hb := h.more X (fun b hb => Nat.le_trans h01 hb.1)
    have hr : SR ⟨N.n, []⟩ B (moreIm ρ' X) W ⟨tm₁ pre x, (fr pre).hp, (fr pre).nx⟩ (a₁ x) W (moreIm ρ' X) := ⟨hpar _ _ _ _ hb, hdf x, hsz x, hb.heap, Below.refl _ _, Ext.refl _ _⟩
    refine wpIn_block (region_soundI (N := ⟨N.n, []⟩) (ro := some r) hok (hbody pre x hlen _ fun S' h => h) hr fun S' a' W' ρ2 hk hs => ?_)
    have hU : SR N B ρ0 w0 ⟨(fr pre).tm, S'.hp, S'.nx⟩ a W' ρ2 := ⟨hb.tm.ext hs.ext, hb.defers, hb.size, hs.heap, hb.below.trans hs.below, hb.ext.trans hs.ext⟩
    obtain ⟨ρ3, h3⟩ := hk N B ρ0 w0 a W' ρ2 h0 hU
    refine ⟨⟨hs.ext.size, fun k o hk1 hk2 ho => ?_⟩, fun _ => hHd _ _ _ h3, ρ3, h3, fun m l hm => ?_⟩
    · have hlt : k < W.heap.size := (Array.getElem?_eq_some_iff.1 hk2).1
      rw [hs.ext.block k hlt ⟨.inr ⟨hk1, o, hk2, ho⟩, fun n l hn e => ?_⟩]
      · exact hk2
      · rcases hnc n l hn with h1 | ⟨o', h1, h2⟩
        · omega
        · rw [e, hk2] at h1; injection h1 with h1; subst h1; rw [ho] at h2; cases h2
    · have hmn : m < (fr (pre ++ [x])).nx := by
        rcases Nat.lt_or_ge m (fr (pre ++ [x])).nx with h | h
        · exact h
        · rw [h3.heap.fresh m h] at hm; cases hm
      obtain ⟨s, v, g1, g2⟩ := hnew pre x m hmn
      have hrow := h3.heap.row m s v l g1 hm
      obtain ⟨cs, c1, c2, c3⟩ := hrow.cells
      have hlen := Has.len s v cs hrow.has c1
      cases cs with
      | nil => simp at hlen; omega
      | cons y ys => exact .inr (cells_of (c3 0 y rfl))
  · rintro D xs W hD hs ⟨ρ', h, hnc⟩ hK
    refine hdone D xs W ρ' hD hs h (fun m l hm e => ?_) hK
    rcases hnc m l hm with h1 | ⟨o, h1, h2⟩
    · omega
    · rw [e, hK] at h1; injection h1 with h1; subst h1; cases h2
end Go.Proofs.Ytoibnghkcdopeaa.V
end
section
namespace Go.Proofs.Ytoibnghkcdopeaa.V
open Go Go.RowKit Go.Proofs.Ytoibnghkcdopeaa Go.Proofs.Ytoibnghkcdopeaa.Gf
attribute [local go_sem] Oper.semAt_some
def heldC (w : World) (p : Nat × Nat) (cs : List Value) : Prop := w.rangeAt p.1 p.2 cs ∧ p.1 < w.heap.size
structure Held (p1 p2 p3 p4 : Nat × Nat) (last : Nat) (x y z : UInt8) (a b c : List UInt8) (w : World) : Prop where
  c1 : heldC w p1 [.int .i64 1]
  c2 : heldC w p2 [.int .i64 last]
  c3 : heldC w p3 [.int .u8 (B8 x), .int .u8 (B8 y), .int .u8 (B8 z)]
  c4 : heldC w p4 [.string ⟨a.toArray⟩, .string ⟨b.toArray⟩, .string ⟨c.toArray⟩]
theorem heldC.below {w w' : World} {p : Nat × Nat} {cs : List Value} (h : heldC w p cs) (hb : Below w.heap.size w w') : heldC w' p cs :=
  ⟨range_same (hb.block p.1 h.2) h.1, Nat.lt_of_lt_of_le h.2 hb.size⟩
theorem Held.below {p1 p2 p3 p4 : Nat × Nat} {last : Nat} {x y z : UInt8} {a b c : List UInt8} {w w' : World} (h : Held p1 p2 p3 p4 last x y z a b c w) (hb : Below w.heap.size w w') : Held p1 p2 p3 p4 last x y z a b c w' :=
  ⟨h.c1.below hb, h.c2.below hb, h.c3.below hb, h.c4.below hb⟩
abbrev LP := { p : Prt // p.d.length ≤ 200000 ∧ i64P p.i }
def encLP (p : LP) : Array Value := #[.int .i64 p.1.i, .string ⟨p.1.d.toArray⟩]
def linesL (x y z : UInt8) (a b c : List UInt8) (n last : Nat) : List Prt := (List.range last).map fun j : Nat => (⟨(j : Int) + 1, lineP x y z a b c n (u8n (j + 1))⟩ : Prt)
theorem linesL_snoc (x y z : UInt8) (a b c : List UInt8) (n k : Nat) : linesL x y z a b c n (k + 1) = linesL x y z a b c n k ++ [⟨(k : Int) + 1, lineP x y z a b c n (u8n (k + 1))⟩] := by simp [linesL, List.range_succ]
abbrev ptrV (p : Nat × Nat) : Value := .pointer (some ⟨p.1, p.2, none⟩)
section
variable (p1 p2 p3 p4 : Nat × Nat) (last : Nat) (x y z : UInt8) (a b c : List UInt8) (n : Nat)
theorem line_call (hne : x ≠ y ∧ x ≠ z ∧ y ≠ z) (hn : n ≤ 100000) (ha : a.length = n) (hb : b.length = n) (hc : c.length = n) (t : UInt8) (w : World) :
    Calls Try.prog 33 #[.agg #[.int .u8 (B8 x), .int .u8 (B8 y), .int .u8 (B8 z)], .agg #[.string ⟨a.toArray⟩, .string ⟨b.toArray⟩, .string ⟨c.toArray⟩], .int .u8 (B8 t)] w fun e w' => e = .returned (.string ⟨(lineP x y z a b c n t).toArray⟩) ∧ Below w.heap.size w w' := by
  refine (line_spec x y z hne a b c n hn ha hb hc t (fun _ => True) w [.agg #[.int .u8 (B8 x), .int .u8 (B8 y), .int .u8 (B8 z)], .agg #[.string ⟨a.toArray⟩, .string ⟨b.toArray⟩, .string ⟨c.toArray⟩], .int .u8 (B8 t)] ?_).mono fun e w' ⟨v, he, hb, hv⟩ => ⟨by rw [he, hv.str], hb⟩
  refine ⟨_, _, rfl, ⟨_, rfl, ?_⟩, _, _, rfl, ⟨_, rfl, ?_⟩, _, _, rfl, ?_, rfl⟩
  · simp only [CR,C1]; exact ⟨_, _, rfl, rfl, _, _, rfl, rfl, _, _, rfl, rfl, rfl⟩
  · simp only [CR,C1]; exact ⟨_, _, rfl, rfl, _, _, rfl, rfl, _, _, rfl, rfl, rfl⟩
  · simp [VR, VR1, C1]
set_option maxRecDepth 100000 in
set_option maxHeartbeats 4000000 in
theorem lines1_in (m l : Nat) (hne : x ≠ y ∧ x ≠ z ∧ y ≠ z) (hn : n ≤ 100000) (ha : a.length = n) (hb : b.length = n) (hc : c.length = n) (hlast : last ≤ 200) (J Jx : List LP → World → Prop)
    (hJb : ∀ pre (w w' : World), J pre w → Below w.heap.size w w' → J pre w')
    (hY : ∀ pre p w, J pre w → pre.length < last → YieldAt Fence.wide (m - 1) Try.prog l (encLP p) w fun e w' =>
      (e = .returned (.bool true) ∧ J (pre ++ [p]) w' ∧ (Held p1 p2 p3 p4 last x y z a b c w → Held p1 p2 p3 p4 last x y z a b c w')) ∨ (e = .returned (.bool false) ∧ Jx (pre ++ [p]) w'))
    (w : World) (hH : Held p1 p2 p3 p4 last x y z a b c w) (h0 : J [] w) :
    CallsIn Fence.wide m Try.prog 32 #[.func (.yield l) #[] #[], ptrV p1, ptrV p2, ptrV p3, ptrV p4] w fun e w' => (∃ v, e = .returned v) ∧
      ((∃ ys : List LP, ys.map (·.1) = linesL x y z a b c n last ∧ J ys w') ∨ (∃ pre, True ∧ Jx pre w')) := by
  refine callsIn_of_wp Try.func32 rfl trivial ?_ rfl
  simp only [Try.ntmps32,List.size_toArray,List.length_cons,List.length_nil,Nat.reduceAdd,Nat.reduceSub,Array.replicate_succ,Array.replicate_zero,List.push_toArray,List.append_toArray,List.nil_append,List.cons_append]
  have g1 : w.cell? ⟨p1.1, p1.2, none⟩ = some (.int .i64 1) := hH.c1.1 0 _ rfl
  gi_wp2
  gi_loopw [6] (fun v wr => ∃ (k : Nat) (pre : List LP), v = .int .i64 ((k : Int) + 1) ∧ k ≤ last ∧ pre.map (·.1) = linesL x y z a b c n k ∧ J pre wr ∧ Held p1 p2 p3 p4 last x y z a b c wr)
    (fun v wr => last + 1 - (intOf v).toNat)
  case atStart => exact ⟨0, [], rfl, Nat.zero_le _, rfl, h0, hH⟩
  case round =>
    obtain ⟨k, pre, rfl, hk, hpre, hJ, hHr⟩ := hrel
    have g2 : wr.cell? ⟨p2.1, p2.2, none⟩ = some (.int .i64 last) := hHr.c2.1 0 _ rfl
    have d0 : wr.cell? ⟨p3.1, p3.2, none⟩ = some (.int .u8 (B8 x)) := hHr.c3.1 0 _ rfl
    have d1 : wr.cell? ⟨p3.1, p3.2 + 1, none⟩ = some (.int .u8 (B8 y)) := hHr.c3.1 1 _ rfl
    have d2 : wr.cell? ⟨p3.1, p3.2 + 2, none⟩ = some (.int .u8 (B8 z)) := hHr.c3.1 2 _ rfl
    have e0 : wr.cell? ⟨p4.1, p4.2, none⟩ = some (.string ⟨a.toArray⟩) := hHr.c4.1 0 _ rfl
    have e1 : wr.cell? ⟨p4.1, p4.2 + 1, none⟩ = some (.string ⟨b.toArray⟩) := hHr.c4.1 1 _ rfl
    have e2 : wr.cell? ⟨p4.1, p4.2 + 2, none⟩ = some (.string ⟨c.toArray⟩) := hHr.c4.1 2 _ rfl
    gi_wp2
    · have hlt : k < last := by omega
      have hb8 := B8_u8n (k + 1) (by omega)
      push_cast at hb8
      have LC := line_call x y z a b c n hne hn ha hb hc (u8n (k + 1)) wr
      rw [hb8] at LC
      refine ⟨trivial, (fun h => by cases h), (callsIn_wide.2 LC).mono ?_⟩
      rintro e W1 ⟨rfl, hB1⟩
      have hJ1 := hJb pre wr W1 hJ hB1
      have hH1 := hHr.below hB1
      have hsn := linesL_snoc x y z a b c n k
      obtain ⟨L, hL⟩ : ∃ L, L = lineP x y z a b c n (u8n (k + 1)) := ⟨_, rfl⟩
      have hLl : L.length = n := by rw [hL, lineP_len]
      rw [← hL] at hsn ⊢
      have hr1 : L.length ≤ 200000 := by omega
      have hr2 : i64P ((k : Int) + 1) := by unfold i64P; omega
      obtain ⟨q, hq⟩ : ∃ q : LP, q.1 = ⟨(k : Int) + 1, L⟩ := ⟨⟨⟨(k : Int) + 1, L⟩, hr1, hr2⟩, rfl⟩
      have hqn : (pre ++ [q]).map (·.1) = linesL x y z a b c n (k + 1) := by rw [hsn, List.map_append, hpre, List.map_cons, List.map_nil, hq]
      have hpl : pre.length < last := by
        have := congrArg List.length hpre
        rw [List.length_map] at this
        rw [this]; simp [linesL]; exact hlt
      have hqe : encLP q = #[.int .i64 ((k : Int) + 1), .string ⟨L.toArray⟩] := by unfold encLP; rw [hq]
      obtain ⟨fn, tmps, assign, body, hy, hR⟩ := hY pre q W1 hJ1 hpl
      rw [hqe] at hy
      clear hL LC
      gi_wp2
      refine ⟨(fun h => by cases h), hR.mono ?_⟩
      rintro e W3 (⟨rfl, hJ3, hk3⟩ | ⟨rfl, hJx3⟩)
      · gi_wp2
        go_roundw
        case rel => exact ⟨k + 1, pre ++ [q], by push_cast; rfl, by omega, hqn, hJ3, hk3 hH1⟩
        case measure => simp [intOf]; omega
      · gi_wp2
        refine bodyPost_ret (results_none rfl _ _ _) rfl ?_
        exact ⟨⟨_, rfl⟩, .inr ⟨pre ++ [q], trivial, hJx3⟩⟩
    · have hkl : k = last := by omega
      subst hkl
      go_end0
      exact ⟨⟨_, rfl⟩, .inl ⟨pre, hpre, hJ⟩⟩
theorem lines_stops (m : Nat) (hne : x ≠ y ∧ x ≠ z ∧ y ≠ z) (hn : n ≤ 100000) (ha : a.length = n) (hb : b.length = n) (hc : c.length = n) (hlast : last ≤ 200) (w : World) (hH : Held p1 p2 p3 p4 last x y z a b c w) :
    SeqStopsK Fence.wide m Try.prog 32 #[ptrV p1, ptrV p2, ptrV p3, ptrV p4] encLP (fun W W' => Held p1 p2 p3 p4 last x y z a b c W → Held p1 p2 p3 p4 last x y z a b c W')
      (fun ys => ys.map (·.1) = linesL x y z a b c n last) (fun _ => True) last w := fun l J Jx W hW hJ hJx hY h0 =>
  lines1_in p1 p2 p3 p4 last x y z a b c n m l hne hn ha hb hc hlast J Jx (fun pre w1 w2 hj hB => hJ pre w1 w2 none hj ⟨hB.os, hB.tape, hB.output, hB.size, fun k hk _ => hB.block k hk⟩ fun r e => by cases e) hY W (hH.below hW) h0
end
end Go.Proofs.Ytoibnghkcdopeaa.V
end
section
namespace Go.Proofs.Ytoibnghkcdopeaa.V
open Go
set_option maxRecDepth 100000
set_option maxHeartbeats 1000000
structure Pte where
  is : Bool
  wr : Bool
  fr : Int
instance : Inhabited Pte := ⟨⟨false, false, 0⟩⟩
end Go.Proofs.Ytoibnghkcdopeaa.V
end
section
namespace Go.Proofs.Ytoibnghkcdopeaa.V
open Go
set_option maxRecDepth 100000
set_option maxHeartbeats 1000000
end Go.Proofs.Ytoibnghkcdopeaa.V
end
section
namespace Go.Proofs.Ytoibnghkcdopeaa.V
open Go
set_option maxRecDepth 100000
set_option maxHeartbeats 1000000
abbrev Frames := List (List UInt8)
def fits (l : Frames) : Prop := l.length < 2 ^ 36 ∧ ∀ s ∈ l, s.length < 2 ^ 36
end Go.Proofs.Ytoibnghkcdopeaa.V
end
section
namespace Go.Proofs
open Go.Shelf
def Try.lays170_ren : Go.Shelf.Ren := ⟨fun | 170 => 31 | n => n, fun | 70 => 55 | 3 => 3 | 0 => 0 | 72 => 57 | 37 => 28 | 5 => 5 | n => n, fun | n => n⟩
theorem Try.lays170 : Go.Proofs.Lays.n170 Try.prog Try.lays170_ren := {
  mixed := by kernel_rfl
  f170 := Try.func31.trans (congrArg some (by kernel_rfl))
  t0 := Try.underlying0
  a0 := Try.isAgg0
  z0 := Try.sizeOf0
  v0 := Try.zeroValue0
  t3 := Try.underlying3
  a3 := Try.isAgg3
  z3 := Try.sizeOf3
  v3 := Try.zeroValue3
  t37 := Try.underlying28
  a37 := Try.isAgg28
  z37 := Try.sizeOf28
  v37 := Try.zeroValue28
  t70 := Try.underlying55
  a70 := Try.isAgg55
  z70 := Try.sizeOf55
  v70 := Try.zeroValue55
  t72 := Try.underlying57
  a72 := Try.isAgg57
  z72 := Try.sizeOf57
  v72 := Try.zeroValue57 }
open Go.RowKit in
theorem Try.Builder_Len (B b : Nat) (bs : List Value) (w : World) (h : Lib.IsBuilder 57 5 B b bs w) :
    Calls Try.prog 31 #[.pointer (some ⟨b, 0, none⟩)] w fun e w' => e = .returned (.int .i64 bs.length) ∧ w' = w := Any.Builder_Len Try.lays170 B b bs w h
def Try.lays169_ren : Go.Shelf.Ren := ⟨fun | 169 => 26 | n => n, fun | 70 => 55 | 9 => 9 | 0 => 0 | 72 => 57 | 37 => 28 | 127 => 73 | 3 => 3 | 5 => 5 | n => n, fun | n => n⟩
theorem Try.lays169 : Go.Proofs.Lays.n169 Try.prog Try.lays169_ren := {
  mixed := by kernel_rfl
  f169 := Try.func26.trans (congrArg some (by kernel_rfl))
  t0 := Try.underlying0
  a0 := Try.isAgg0
  z0 := Try.sizeOf0
  v0 := Try.zeroValue0
  t3 := Try.underlying3
  a3 := Try.isAgg3
  z3 := Try.sizeOf3
  v3 := Try.zeroValue3
  t9 := Try.underlying9
  a9 := Try.isAgg9
  z9 := Try.sizeOf9
  v9 := Try.zeroValue9
  t37 := Try.underlying28
  a37 := Try.isAgg28
  z37 := Try.sizeOf28
  v37 := Try.zeroValue28
  t70 := Try.underlying55
  a70 := Try.isAgg55
  z70 := Try.sizeOf55
  v70 := Try.zeroValue55
  t72 := Try.underlying57
  a72 := Try.isAgg57
  z72 := Try.sizeOf57
  v72 := Try.zeroValue57
  t127 := Try.underlying73
  a127 := Try.isAgg73
  z127 := Try.sizeOf73
  v127 := Try.zeroValue73 }
theorem Try.Builder_Extra_169 : Builder.Extra Try.prog Try.lays169_ren := {
  sizeBuilder := by kernel_rfl
  liesBuilder := by kernel_rfl
  t5 := Try.underlying5
  a5 := Try.isAgg5
  z5 := Try.sizeOf5
  v5 := Try.zeroValue5
  infoByte := by kernel_rfl
  cellsByte := by kernel_rfl
  sizeByte := by kernel_rfl
  neB5 := by decide }
open Go.RowKit in
theorem Try.Builder_String (B b : Nat) (l : List UInt8) (w : World) (h : Lib.IsBuilder 57 5 B b (Lib.byteCells l) w) (h0 : l ≠ []) :
    Calls Try.prog 26 #[.pointer (some ⟨b, 0, none⟩)] w fun e w' => e = .returned (.string ⟨l.toArray⟩) ∧ Below B w w' := Any.Builder_String Try.lays169 Try.Builder_Extra_169 B b l w h h0
open Go.RowKit in
theorem Try.Builder_String_empty (B b : Nat) (w : World) (h : Lib.IsBuilder 57 5 B b [] w) (hBw : B ≤ w.heap.size) :
    Calls Try.prog 26 #[.pointer (some ⟨b, 0, none⟩)] w fun e w' => e = .returned (.string ⟨#[]⟩) ∧ Below B w w' := Any.Builder_String_empty Try.lays169 Try.Builder_Extra_169 B b w h hBw
open Go.RowKit in
theorem Try.Builder_String_any (B b : Nat) (l : List UInt8) (w : World) (h : Lib.IsBuilder 57 5 B b (Lib.byteCells l) w) (hBw : B ≤ w.heap.size) :
    Calls Try.prog 26 #[.pointer (some ⟨b, 0, none⟩)] w fun e w' => e = .returned (.string ⟨l.toArray⟩) ∧ Below B w w' := Any.Builder_String_any Try.lays169 Try.Builder_Extra_169 B b l w h hBw
def Try.lays241_ren : Go.Shelf.Ren := ⟨fun | 241 => 41 | 277 => 43 | n => n, fun | 70 => 55 | 3 => 3 | 0 => 0 | 72 => 57 | 37 => 28 | 5 => 5 | n => n, fun | n => n⟩
theorem Try.lays241 : Go.Proofs.Lays.n241 Try.prog Try.lays241_ren := {
  mixed := by kernel_rfl
  f241 := Try.func41.trans (congrArg some (by kernel_rfl))
  f277 := Try.func43.trans (congrArg some (by kernel_rfl))
  t0 := Try.underlying0
  a0 := Try.isAgg0
  z0 := Try.sizeOf0
  v0 := Try.zeroValue0
  t3 := Try.underlying3
  a3 := Try.isAgg3
  z3 := Try.sizeOf3
  v3 := Try.zeroValue3
  t37 := Try.underlying28
  a37 := Try.isAgg28
  z37 := Try.sizeOf28
  v37 := Try.zeroValue28
  t70 := Try.underlying55
  a70 := Try.isAgg55
  z70 := Try.sizeOf55
  v70 := Try.zeroValue55
  t72 := Try.underlying57
  a72 := Try.isAgg57
  z72 := Try.sizeOf57
  v72 := Try.zeroValue57 }
theorem Try.Builder_Extra_241 : Builder.Extra Try.prog Try.lays241_ren := {
  sizeBuilder := by kernel_rfl
  liesBuilder := by kernel_rfl
  t5 := Try.underlying5
  a5 := Try.isAgg5
  z5 := Try.sizeOf5
  v5 := Try.zeroValue5
  infoByte := by kernel_rfl
  cellsByte := by kernel_rfl
  sizeByte := by kernel_rfl
  neB5 := by decide }
open Go.RowKit in
theorem Try.Builder_grow_fresh (B b n : Nat) (w : World) (hB : B ≤ b) (hbk : w.heap[b]? = some (.cells #[.pointer (some ⟨b, 0, none⟩), .slice none 0 0] 57 (0, 0))) (hBw : B ≤ w.heap.size) (hn : n ≤ 281474976710656) :
    Calls Try.prog 41 #[.pointer (some ⟨b, 0, none⟩), .int .i64 n] w fun e w' => e = .returned (.tuple #[]) ∧ (Lib.BuilderAt 57 5 B b (.pointer (some ⟨b, 0, none⟩)) [] w' ∧ Below B w w') := Any.Builder_grow_fresh Try.lays241 Try.Builder_Extra_241 B b n w hB hbk hBw hn
def Try.lays165_ren : Go.Shelf.Ren := ⟨fun | 165 => 30 | 240 => 36 | 241 => 41 | 276 => 42 | 277 => 43 | n => n, fun | 70 => 55 | 3 => 3 | 0 => 0 | 4 => 4 | 9 => 9 | 20 => 20 | 72 => 57 | 37 => 28 | 164 => 80 | 5 => 5 | n => n, fun | n => n⟩
theorem Try.lays165 : Go.Proofs.Lays.n165 Try.prog Try.lays165_ren := {
  mixed := by kernel_rfl
  f165 := Try.func30.trans (congrArg some (by kernel_rfl))
  f240 := Try.func36.trans (congrArg some (by kernel_rfl))
  f241 := Try.func41.trans (congrArg some (by kernel_rfl))
  f276 := Try.func42.trans (congrArg some (by kernel_rfl))
  f277 := Try.func43.trans (congrArg some (by kernel_rfl))
  t0 := Try.underlying0
  a0 := Try.isAgg0
  z0 := Try.sizeOf0
  v0 := Try.zeroValue0
  t3 := Try.underlying3
  a3 := Try.isAgg3
  z3 := Try.sizeOf3
  v3 := Try.zeroValue3
  t4 := Try.underlying4
  a4 := Try.isAgg4
  z4 := Try.sizeOf4
  v4 := Try.zeroValue4
  t9 := Try.underlying9
  a9 := Try.isAgg9
  z9 := Try.sizeOf9
  v9 := Try.zeroValue9
  t20 := Try.underlying20
  a20 := Try.isAgg20
  z20 := Try.sizeOf20
  v20 := Try.zeroValue20
  t37 := Try.underlying28
  a37 := Try.isAgg28
  z37 := Try.sizeOf28
  v37 := Try.zeroValue28
  t70 := Try.underlying55
  a70 := Try.isAgg55
  z70 := Try.sizeOf55
  v70 := Try.zeroValue55
  t72 := Try.underlying57
  a72 := Try.isAgg57
  z72 := Try.sizeOf57
  v72 := Try.zeroValue57
  t164 := Try.underlying80
  a164 := Try.isAgg80
  z164 := Try.sizeOf80
  v164 := Try.zeroValue80 }
theorem Try.Builder_Extra_165 : Builder.Extra Try.prog Try.lays165_ren := {
  sizeBuilder := by kernel_rfl
  liesBuilder := by kernel_rfl
  t5 := Try.underlying5
  a5 := Try.isAgg5
  z5 := Try.sizeOf5
  v5 := Try.zeroValue5
  infoByte := by kernel_rfl
  cellsByte := by kernel_rfl
  sizeByte := by kernel_rfl
  neB5 := by decide }
open Go.RowKit in
theorem Try.Builder_Grow_fresh (B b n : Nat) (w : World) (hB : B ≤ b) (hbk : w.heap[b]? = some (.cells #[.pointer none, .slice none 0 0] 57 (0, 0))) (hBw : B ≤ w.heap.size) (hn : n ≤ 281474976710656) :
    Calls Try.prog 30 #[.pointer (some ⟨b, 0, none⟩), .int .i64 n] w fun e w' => e = .returned (.tuple #[]) ∧ (Lib.BuilderAt 57 5 B b (.pointer (some ⟨b, 0, none⟩)) [] w' ∧ Below B w w') := Any.Builder_Grow_fresh Try.lays165 Try.Builder_Extra_165 B b n w hB hbk hBw hn
open Go.RowKit in
theorem Try.Builder_Len_f (B b : Nat) (bs : List Value) (w : World) (h : Lib.IsBuilderF 57 5 B b bs w) :
    Calls Try.prog 31 #[.pointer (some ⟨b, 0, none⟩)] w fun e w' => e = .returned (.int .i64 bs.length) ∧ w' = w := Any.Builder_Len_f Try.lays170 B b bs w h
open Go.RowKit in
theorem Try.Builder_String_f (B b : Nat) (l : List UInt8) (w : World) (h : Lib.IsBuilderF 57 5 B b (Lib.byteCells l) w) (h0 : l ≠ []) :
    Calls Try.prog 26 #[.pointer (some ⟨b, 0, none⟩)] w fun e w' => e = .returned (.string ⟨l.toArray⟩) ∧ (Lib.IsBuilderF 57 5 B b (Lib.byteCells l) w' ∧ Below B w w') := Any.Builder_String_f Try.lays169 Try.Builder_Extra_169 B b l w h h0
open Go.RowKit in
theorem Try.Builder_String_empty_f (B b : Nat) (w : World) (h : Lib.IsBuilderF 57 5 B b [] w) (hBw : B ≤ w.heap.size) :
    Calls Try.prog 26 #[.pointer (some ⟨b, 0, none⟩)] w fun e w' => e = .returned (.string ⟨#[]⟩) ∧ (Lib.IsBuilderF 57 5 B b [] w' ∧ Below B w w') := Any.Builder_String_empty_f Try.lays169 Try.Builder_Extra_169 B b w h hBw
open Go.RowKit in
theorem Try.Builder_String_any_f (B b : Nat) (l : List UInt8) (w : World) (h : Lib.IsBuilderF 57 5 B b (Lib.byteCells l) w) (hBw : B ≤ w.heap.size) :
    Calls Try.prog 26 #[.pointer (some ⟨b, 0, none⟩)] w fun e w' => e = .returned (.string ⟨l.toArray⟩) ∧ (Lib.IsBuilderF 57 5 B b (Lib.byteCells l) w' ∧ Below B w w') := Any.Builder_String_any_f Try.lays169 Try.Builder_Extra_169 B b l w h hBw
open Go.RowKit in
theorem Try.Builder_String_k (B b : Nat) (l : List UInt8) (w : World) (h : Lib.IsBuilderF 57 5 B b (Lib.byteCells l) w) (h0 : l ≠ []) :
    Calls Try.prog 26 #[.pointer (some ⟨b, 0, none⟩)] w fun e w' => e = .returned (.string ⟨l.toArray⟩) ∧ (Lib.IsBuilderF 57 5 B b (Lib.byteCells l) w' ∧ Below B w w' ∧ Lib.OthersKept 5 (some b) w w') := Any.Builder_String_k Try.lays169 Try.Builder_Extra_169 B b l w h h0
open Go.RowKit in
theorem Try.Builder_String_empty_k (B b : Nat) (w : World) (h : Lib.IsBuilderF 57 5 B b [] w) (hBw : B ≤ w.heap.size) :
    Calls Try.prog 26 #[.pointer (some ⟨b, 0, none⟩)] w fun e w' => e = .returned (.string ⟨#[]⟩) ∧ (Lib.IsBuilderF 57 5 B b [] w' ∧ Below B w w' ∧ Lib.OthersKept 5 (some b) w w') := Any.Builder_String_empty_k Try.lays169 Try.Builder_Extra_169 B b w h hBw
open Go.RowKit in
theorem Try.Builder_String_any_k (B b : Nat) (l : List UInt8) (w : World) (h : Lib.IsBuilderF 57 5 B b (Lib.byteCells l) w) (hBw : B ≤ w.heap.size) :
    Calls Try.prog 26 #[.pointer (some ⟨b, 0, none⟩)] w fun e w' => e = .returned (.string ⟨l.toArray⟩) ∧ (Lib.IsBuilderF 57 5 B b (Lib.byteCells l) w' ∧ Below B w w' ∧ Lib.OthersKept 5 (some b) w w') := Any.Builder_String_any_k Try.lays169 Try.Builder_Extra_169 B b l w h hBw
open Go.RowKit in
theorem Try.Builder_grow_fresh_cap (B b n : Nat) (w : World) (hB : B ≤ b) (hbk : w.heap[b]? = some (.cells #[.pointer (some ⟨b, 0, none⟩), .slice none 0 0] 57 (0, 0))) (hBw : B ≤ w.heap.size) (hn : n ≤ 281474976710656) :
    Calls Try.prog 41 #[.pointer (some ⟨b, 0, none⟩), .int .i64 n] w fun e w' => e = .returned (.tuple #[]) ∧ (Lib.BuilderAt 57 5 B b (.pointer (some ⟨b, 0, none⟩)) [] w' ∧ Below B w w') ∧ ∃ p cap, w'.cell? ⟨b, 1, none⟩ = some (.slice p 0 cap) ∧ n ≤ cap := Any.Builder_grow_fresh_cap Try.lays241 Try.Builder_Extra_241 B b n w hB hbk hBw hn
open Go.RowKit in
theorem Try.Builder_Grow_fresh_cap (B b n : Nat) (w : World) (hB : B ≤ b) (hbk : w.heap[b]? = some (.cells #[.pointer none, .slice none 0 0] 57 (0, 0))) (hBw : B ≤ w.heap.size) (hn : n ≤ 281474976710656) :
    Calls Try.prog 30 #[.pointer (some ⟨b, 0, none⟩), .int .i64 n] w fun e w' => e = .returned (.tuple #[]) ∧ (Lib.BuilderAt 57 5 B b (.pointer (some ⟨b, 0, none⟩)) [] w' ∧ Below B w w') ∧ ∃ p cap, w'.cell? ⟨b, 1, none⟩ = some (.slice p 0 cap) ∧ n ≤ cap := Any.Builder_Grow_fresh_cap Try.lays165 Try.Builder_Extra_165 B b n w hB hbk hBw hn
def Try.lays206_ren : Go.Shelf.Ren := ⟨fun | 206 => 40 | n => n, fun | 9 => 9 | 4 => 4 | 3 => 3 | n => n, fun | n => n⟩
theorem Try.lays206 : Go.Proofs.Lays.n206 Try.prog Try.lays206_ren := {
  mixed := by kernel_rfl
  f206 := Try.func40.trans (congrArg some (by kernel_rfl))
  t3 := Try.underlying3
  a3 := Try.isAgg3
  z3 := Try.sizeOf3
  v3 := Try.zeroValue3
  t4 := Try.underlying4
  a4 := Try.isAgg4
  z4 := Try.sizeOf4
  v4 := Try.zeroValue4
  t9 := Try.underlying9
  a9 := Try.isAgg9
  z9 := Try.sizeOf9
  v9 := Try.zeroValue9 }
open Go.RowKit Go.Lib in
theorem Try.stringslite_HasPrefix (s p : ByteArray) (w : World) :
    Calls Try.prog 40 #[.string s, .string p] w fun e w' => e = .returned (.bool (Lib.hasPrefix s.data.toList p.data.toList)) ∧ w' = w := Any.stringslite_HasPrefix Try.lays206 s p w
def Try.lays99_ren : Go.Shelf.Ren := ⟨fun | 99 => 29 | 206 => 40 | n => n, fun | 9 => 9 | 4 => 4 | 3 => 3 | n => n, fun | n => n⟩
theorem Try.lays99 : Go.Proofs.Lays.n99 Try.prog Try.lays99_ren := {
  mixed := by kernel_rfl
  f99 := Try.func29.trans (congrArg some (by kernel_rfl))
  f206 := Try.func40.trans (congrArg some (by kernel_rfl))
  t3 := Try.underlying3
  a3 := Try.isAgg3
  z3 := Try.sizeOf3
  v3 := Try.zeroValue3
  t4 := Try.underlying4
  a4 := Try.isAgg4
  z4 := Try.sizeOf4
  v4 := Try.zeroValue4
  t9 := Try.underlying9
  a9 := Try.isAgg9
  z9 := Try.sizeOf9
  v9 := Try.zeroValue9 }
open Go.RowKit Go.Lib in
theorem Try.strings_HasPrefix (s p : ByteArray) (w : World) :
    Calls Try.prog 29 #[.string s, .string p] w fun e w' => e = .returned (.bool (Lib.hasPrefix s.data.toList p.data.toList)) ∧ w' = w := Any.strings_HasPrefix Try.lays99 s p w
def Try.lays264_ren : Go.Shelf.Ren := ⟨fun | 264 => 39 | n => n, fun | 53 => 77 | 46 => 65 | n => n, fun | n => n⟩
theorem Try.lays264 : Go.Proofs.Lays.n264 Try.prog Try.lays264_ren := {
  mixed := by kernel_rfl
  f264 := Try.func39.trans (congrArg some (by kernel_rfl))
  t46 := Try.underlying65
  a46 := Try.isAgg65
  z46 := Try.sizeOf65
  v46 := Try.zeroValue65
  t53 := Try.underlying77
  a53 := Try.isAgg77
  z53 := Try.sizeOf77
  v53 := Try.zeroValue77 }
open Go.RowKit Go.Lib in
theorem Try.bits_Mul64 (x y : Nat) (hx : x < 18446744073709551616) (hy : y < 18446744073709551616) (w : World) :
    Calls Try.prog 39 #[.int .u64 x, .int .u64 y] w fun e w' => e = .returned (.tuple #[.int .u64 ((x * y / 18446744073709551616 : Nat) : Int), .int .u64 ((x * y % 18446744073709551616 : Nat) : Int)]) ∧ w' = w := Any.bits_Mul64 Try.lays264 x y hx hy w
def Try.lays212_ren : Go.Shelf.Ren := ⟨fun | 212 => 28 | 263 => 38 | 264 => 39 | n => n, fun | 46 => 65 | 51 => 74 | 146 => 75 | 53 => 77 | 148 => 78 | n => n, fun | n => n⟩
theorem Try.lays212 : Go.Proofs.Lays.n212 Try.prog Try.lays212_ren := {
  mixed := by kernel_rfl
  f212 := Try.func28.trans (congrArg some (by kernel_rfl))
  f263 := Try.func38.trans (congrArg some (by kernel_rfl))
  f264 := Try.func39.trans (congrArg some (by kernel_rfl))
  t46 := Try.underlying65
  a46 := Try.isAgg65
  z46 := Try.sizeOf65
  v46 := Try.zeroValue65
  t51 := Try.underlying74
  a51 := Try.isAgg74
  z51 := Try.sizeOf74
  v51 := Try.zeroValue74
  t53 := Try.underlying77
  a53 := Try.isAgg77
  z53 := Try.sizeOf77
  v53 := Try.zeroValue77
  t146 := Try.underlying75
  a146 := Try.isAgg75
  z146 := Try.sizeOf75
  v146 := Try.zeroValue75
  t148 := Try.underlying78
  a148 := Try.isAgg78
  z148 := Try.sizeOf78
  v148 := Try.zeroValue78 }
open Go.RowKit Go.Lib in
theorem Try.bits_Mul (x y : Nat) (hx : x < 18446744073709551616) (hy : y < 18446744073709551616) (w : World) :
    Calls Try.prog 28 #[.int .u64 x, .int .u64 y] w fun e w' => e = .returned (.tuple #[.int .u64 ((x * y / 18446744073709551616 : Nat) : Int), .int .u64 ((x * y % 18446744073709551616 : Nat) : Int)]) ∧ w' = w := Any.bits_Mul Try.lays212 x y hx hy w
def Try.lays105_ren : Go.Shelf.Ren := ⟨fun | 105 => 18 | 212 => 28 | 99 => 29 | 165 => 30 | 166 => 25 | 170 => 31 | 169 => 26 | 263 => 38 | 264 => 39 | 206 => 40 | 240 => 36 | 241 => 41 | 276 => 42 | 277 => 43 | n => n, fun | 9 => 9 | 3 => 3 | 4 => 4 | 20 => 20 | 0 => 0 | 46 => 65 | 109 => 66 | 5 => 5 | 72 => 57 | 76 => 60 | 51 => 74 | 146 => 75 | 53 => 77 | 148 => 78 | 70 => 55 | 37 => 28 | 75 => 59 | 127 => 73 | 164 => 80 | 80 => 62 | n => n, fun | n => n⟩
theorem Try.lays105 : Go.Proofs.Lays.n105 Try.prog Try.lays105_ren := {
  mixed := by kernel_rfl
  f99 := Try.func29.trans (congrArg some (by kernel_rfl))
  f105 := Try.func18.trans (congrArg some (by kernel_rfl))
  f165 := Try.func30.trans (congrArg some (by kernel_rfl))
  f166 := Try.func25.trans (congrArg some (by kernel_rfl))
  f169 := Try.func26.trans (congrArg some (by kernel_rfl))
  f170 := Try.func31.trans (congrArg some (by kernel_rfl))
  f206 := Try.func40.trans (congrArg some (by kernel_rfl))
  f212 := Try.func28.trans (congrArg some (by kernel_rfl))
  f240 := Try.func36.trans (congrArg some (by kernel_rfl))
  f241 := Try.func41.trans (congrArg some (by kernel_rfl))
  f263 := Try.func38.trans (congrArg some (by kernel_rfl))
  f264 := Try.func39.trans (congrArg some (by kernel_rfl))
  f276 := Try.func42.trans (congrArg some (by kernel_rfl))
  f277 := Try.func43.trans (congrArg some (by kernel_rfl))
  t0 := Try.underlying0
  a0 := Try.isAgg0
  z0 := Try.sizeOf0
  v0 := Try.zeroValue0
  t3 := Try.underlying3
  a3 := Try.isAgg3
  z3 := Try.sizeOf3
  v3 := Try.zeroValue3
  t4 := Try.underlying4
  a4 := Try.isAgg4
  z4 := Try.sizeOf4
  v4 := Try.zeroValue4
  t5 := Try.underlying5
  a5 := Try.isAgg5
  z5 := Try.sizeOf5
  v5 := Try.zeroValue5
  t9 := Try.underlying9
  a9 := Try.isAgg9
  z9 := Try.sizeOf9
  v9 := Try.zeroValue9
  t20 := Try.underlying20
  a20 := Try.isAgg20
  z20 := Try.sizeOf20
  v20 := Try.zeroValue20
  t37 := Try.underlying28
  a37 := Try.isAgg28
  z37 := Try.sizeOf28
  v37 := Try.zeroValue28
  t46 := Try.underlying65
  a46 := Try.isAgg65
  z46 := Try.sizeOf65
  v46 := Try.zeroValue65
  t51 := Try.underlying74
  a51 := Try.isAgg74
  z51 := Try.sizeOf74
  v51 := Try.zeroValue74
  t53 := Try.underlying77
  a53 := Try.isAgg77
  z53 := Try.sizeOf77
  v53 := Try.zeroValue77
  t70 := Try.underlying55
  a70 := Try.isAgg55
  z70 := Try.sizeOf55
  v70 := Try.zeroValue55
  t72 := Try.underlying57
  a72 := Try.isAgg57
  z72 := Try.sizeOf57
  v72 := Try.zeroValue57
  t75 := Try.underlying59
  a75 := Try.isAgg59
  z75 := Try.sizeOf59
  v75 := Try.zeroValue59
  t76 := Try.underlying60
  a76 := Try.isAgg60
  z76 := Try.sizeOf60
  v76 := Try.zeroValue60
  t109 := Try.underlying66
  a109 := Try.isAgg66
  z109 := Try.sizeOf66
  v109 := Try.zeroValue66
  t127 := Try.underlying73
  a127 := Try.isAgg73
  z127 := Try.sizeOf73
  v127 := Try.zeroValue73
  t146 := Try.underlying75
  a146 := Try.isAgg75
  z146 := Try.sizeOf75
  v146 := Try.zeroValue75
  t148 := Try.underlying78
  a148 := Try.isAgg78
  z148 := Try.sizeOf78
  v148 := Try.zeroValue78
  t164 := Try.underlying80
  a164 := Try.isAgg80
  z164 := Try.sizeOf80
  v164 := Try.zeroValue80 }
theorem Try.Builder_Extra_105 : Builder.Extra Try.prog Try.lays105_ren := {
  sizeBuilder := by kernel_rfl
  liesBuilder := by kernel_rfl
  t5 := Try.underlying5
  a5 := Try.isAgg5
  z5 := Try.sizeOf5
  v5 := Try.zeroValue5
  infoByte := by kernel_rfl
  cellsByte := by kernel_rfl
  sizeByte := by kernel_rfl
  neB5 := by decide }
open Go.RowKit Go.Lib in
theorem Try.strings_Repeat_main (s : ByteArray) (c : Nat) (w : World) (hc2 : 2 ≤ c) (hc : c ≤ 9223372036854775807) (hlen : s.size * c ≤ 140737488355328) (h0 : 0 < s.size) :
    Calls Try.prog 18 #[.string s, .int .i64 c] w fun e w' => e = .returned (.string ⟨(Lib.repeatL s.data.toList c).toArray⟩) ∧ Below w.heap.size w w' := Any.strings_Repeat_main Try.lays105 Try.Builder_Extra_105 s c w hc2 hc hlen h0
open Go.RowKit Go.Lib in
theorem Try.strings_Repeat_zero (s : ByteArray) (w : World) :
    Calls Try.prog 18 #[.string s, .int .i64 0] w fun e w' => e = .returned (.string ⟨#[]⟩) ∧ w' = w := Any.strings_Repeat_zero Try.lays105 s w
open Go.RowKit Go.Lib in
theorem Try.strings_Repeat_one (s : ByteArray) (w : World) :
    Calls Try.prog 18 #[.string s, .int .i64 1] w fun e w' => e = .returned (.string s) ∧ w' = w := Any.strings_Repeat_one Try.lays105 s w
open Go.RowKit Go.Lib in
theorem Try.strings_Repeat_empty (s : ByteArray) (c : Nat) (w : World) (hc2 : 2 ≤ c) (hc : c ≤ 9223372036854775807) (h0 : s.size = 0) :
    Calls Try.prog 18 #[.string s, .int .i64 c] w fun e w' => e = .returned (.string ⟨#[]⟩) ∧ w' = w := Any.strings_Repeat_empty Try.lays105 s c w hc2 hc h0
open Go.RowKit Go.Lib in
theorem Try.strings_Repeat_negative (s : ByteArray) (c : Int) (w : World) (hc : c < 0) :
    Calls Try.prog 18 #[.string s, .int .i64 c] w fun e w' => e = .panicked [{ v := repeatPanic Try.lays105_ren "strings: negative Repeat count", recovered := false }] ∧ w' = w := Any.strings_Repeat_negative Try.lays105 s c w hc
open Go.RowKit Go.Lib in
theorem Try.strings_Repeat_overflow (s : ByteArray) (c : Nat) (w : World) (hc : c ≤ 9223372036854775807) (hs : s.size ≤ 9223372036854775807) (hbig : 9223372036854775807 < s.size * c) :
    Calls Try.prog 18 #[.string s, .int .i64 c] w fun e w' => e = .panicked [{ v := repeatPanic Try.lays105_ren "strings: Repeat output length overflow", recovered := false }] ∧ w' = w := Any.strings_Repeat_overflow Try.lays105 s c w hc hs hbig
open Go.RowKit Go.Lib in
theorem Try.strings_Repeat (s : ByteArray) (c : Nat) (w : World) (hc : c ≤ 9223372036854775807) (hlen : s.size * c ≤ 140737488355328) :
    Calls Try.prog 18 #[.string s, .int .i64 c] w fun e w' => e = .returned (.string ⟨(Lib.repeatL s.data.toList c).toArray⟩) ∧ Below w.heap.size w w' := Any.strings_Repeat Try.lays105 Try.Builder_Extra_105 s c w hc hlen
end Go.Proofs
end
section
namespace Go.Proofs.Ytoibnghkcdopeaa.V
open Go
set_option maxRecDepth 100000
set_option maxHeartbeats 1000000
theorem repeat_spec (s : List UInt8) (c : Nat) (h : s.length * c ≤ 140737488355328) (hc : c ≤ 9223372036854775807) : Spec Try.prog 18 [.str s, .int .i64 c] (.str (List.replicate c s).flatten) := by
  intro U w xs hx
  obtain ⟨x, ys, rfl, h1, y, zs, rfl, h2, h3⟩ := hx
  have h3 : zs = [] := h3
  subst h3
  rw [h1.str, h2.int]
  have e : Lib.repeatL s c = (List.replicate c s).flatten := by
    clear h hc h1 h2
    induction c with
    | zero => rfl
    | succ c ih => simp [Lib.repeatL, List.replicate_succ, ih]
  refine (Try.strings_Repeat ⟨s.toArray⟩ c w hc (by show s.toArray.size * c ≤ _; simpa using h)).mono fun e' w' ⟨he, hb⟩ => ⟨_, he, hb, ?_⟩
  rw [e]
  exact VR_str
end Go.Proofs.Ytoibnghkcdopeaa.V
end
section
namespace Go.Proofs.Ytoibnghkcdopeaa.V
open Go Go.RowKit Go.Proofs.Ytoibnghkcdopeaa Go.Proofs.Ytoibnghkcdopeaa.Gf
set_option maxRecDepth 100000
def znA8 := And.intro @nls_u <| And.intro @nls_prt <| And.intro @nl_prt <| True.intro
set_option maxHeartbeats 4000000
theorem off_nil (s : Sh) : s.off [] = 0 := by cases s <;> rfl
theorem box_at {B n : Nat} {ρ : Names} {H : Heap} {w : World} {m : Nat} {l : Loc} {s : Sh} {v : VV} {cs : List Value} (hh : HR ZT B ρ H n w) (hm : H m = some (.row s v)) (hl : ρ m = some l) (hc : ∀ cs', C1 ρ w v cs' → cs' = cs) : heldC w (l.block, l.base + l.sh.off []) cs := by
  have hr := hh.row m s v l hm hl
  obtain ⟨cs', c1, c2, c3⟩ := hr.cells
  rw [hc cs' c1] at c3
  refine ⟨?_, (hh.lt m l hl).2⟩
  show w.rangeAt l.block (l.base + l.sh.off []) cs
  rw [off_nil, Nat.add_zero]; exact c3
theorem caps4 {ρ : Names} {w : World} {f m1 m2 m3 m4 : Nat} {x : Value} (h : VR ρ w (.fn f [.ptr m1 [], .ptr m2 [], .ptr m3 [], .ptr m4 []]) x) :
    ∃ l1 l2 l3 l4, ρ m1 = some l1 ∧ ρ m2 = some l2 ∧ ρ m3 = some l3 ∧ ρ m4 = some l4 ∧ x = .func (.func f) #[] #[ptrV (l1.block, l1.base + l1.sh.off []), ptrV (l2.block, l2.base + l2.sh.off []), ptrV (l3.block, l3.base + l3.sh.off []), ptrV (l4.block, l4.base + l4.sh.off [])] := by
  obtain ⟨cs, rfl, hc⟩ := h.fn
  simp only [CV,C1] at hc
  obtain ⟨x1, c1, e1, -, ⟨l1, hl1, p1⟩, x2, c2, e2, -, ⟨l2, hl2, p2⟩, x3, c3, e3, -, ⟨l3, hl3, p3⟩, x4, c4, e4, -, ⟨l4, hl4, p4⟩, e5⟩ := hc
  refine ⟨l1, l2, l3, l4, hl1, hl2, hl3, hl4, ?_⟩
  congr 1
  apply Array.ext'
  rw [e1, e2, e3, e4, e5]
  injection p1 with p1; injection p2 with p2; injection p3 with p3; injection p4 with p4
  rw [p1, p2, p3, p4]
theorem Held.gr {p1 p2 p3 p4 : Nat × Nat} {last : Nat} {x y z : UInt8} {a b c : List UInt8} {w w' : World} (g : Gr w w') (h : Held p1 p2 p3 p4 last x y z a b c w) : Held p1 p2 p3 p4 last x y z a b c w' :=
  ⟨⟨g.range h.c1.1, Nat.lt_of_lt_of_le h.c1.2 g.size⟩, ⟨g.range h.c2.1, Nat.lt_of_lt_of_le h.c2.2 g.size⟩, ⟨g.range h.c3.1, Nat.lt_of_lt_of_le h.c3.2 g.size⟩, ⟨g.range h.c4.1, Nat.lt_of_lt_of_le h.c4.2 g.size⟩⟩
theorem held_of {N : NN} {B : Nat} {ρ0 ρ : Names} {w0 w : World} {S : VS} {a : Act} {f t m1 m2 m3 m4 last : Nat} {x y z : UInt8} {A C D : List UInt8} (hS : SR N B ρ0 w0 S a w ρ) (ht : S.tm t = .fn f [.ptr m1 [], .ptr m2 [], .ptr m3 [], .ptr m4 []])
    (h1 : S.hp m1 = some (.row .cell (.int .i64 1))) (h2 : S.hp m2 = some (.row .cell (.int .i64 last))) (h3 : S.hp m3 = some (.row (.arr 3 .cell) (.agg [.int .u8 (B8 x), .int .u8 (B8 y), .int .u8 (B8 z)]))) (h4 : S.hp m4 = some (.row (.arr 3 .cell) (.agg [.str A, .str C, .str D]))) :
    ∃ p1 p2 p3 p4, a.tmps.getD t undef = .func (.func f) #[] #[ptrV p1, ptrV p2, ptrV p3, ptrV p4] ∧ Held p1 p2 p3 p4 last x y z A C D w := by
  have hv := hS.tm t
  rw [ht] at hv
  obtain ⟨l1, l2, l3, l4, g1, g2, g3, g4, e⟩ := caps4 hv
  refine ⟨_, _, _, _, e, ?_, ?_, ?_, ?_⟩
  · exact box_at hS.heap h1 g1 fun cs' h => by simpa only [C1] using h
  · exact box_at hS.heap h2 g2 fun cs' h => by simpa only [C1] using h
  · refine box_at hS.heap h3 g3 fun cs' h => ?_
    simp only [C1,CR] at h
    obtain ⟨_, _, rfl, rfl, _, _, rfl, rfl, _, _, rfl, rfl, rfl⟩ := h
    rfl
  · refine box_at hS.heap h4 g4 fun cs' h => ?_
    simp only [C1,CR] at h
    obtain ⟨_, _, rfl, rfl, _, _, rfl, rfl, _, _, rfl, rfl, rfl⟩ := h
    rfl
theorem ptr4_inj {f : Nat} {p1 p2 p3 p4 q1 q2 q3 q4 : Nat × Nat} (h : (Value.func (.func f) #[] #[ptrV p1, ptrV p2, ptrV p3, ptrV p4]) = .func (.func f) #[] #[ptrV q1, ptrV q2, ptrV q3, ptrV q4]) : p1 = q1 ∧ p2 = q2 ∧ p3 = q3 ∧ p4 = q4 := by
  simp only [Value.func.injEq,Array.mk.injEq,List.cons.injEq,Value.pointer.injEq,Option.some.injEq,Addr.mk.injEq] at h
  obtain ⟨-, -, ⟨h1, h1', -⟩, ⟨h2, h2', -⟩, ⟨h3, h3', -⟩, ⟨h4, h4', -⟩, -⟩ := h
  exact ⟨Prod.ext h1 h1', Prod.ext h2 h2', Prod.ext h3 h3', Prod.ext h4 h4'⟩
theorem lineP_congr {x y z : UInt8} {a b c a' b' c' : List UInt8} {n : Nat} {t : UInt8} (ha : ∀ i, i < n → nth a i = nth a' i) (hb : ∀ i, i < n → nth b i = nth b' i) (hc : ∀ i, i < n → nth c i = nth c' i) : lineP x y z a b c n t = lineP x y z a' b' c' n t := by
  unfold lineP
  refine List.map_congr_left fun i hi => ?_
  have hi := List.mem_range.1 hi
  rw [ha i hi, hb i hi, hc i hi]
theorem nth_drop (l : List UInt8) (k i : Nat) : nth (l.drop k) i = nth l (k + i) := by simp [nth, List.getD_eq_getElem?_getD, List.getElem?_drop]
theorem nth_pad (d : List UInt8) (k i : Nat) : nth (d ++ List.replicate k 0) i = nth d i := by
  rw [nth_append]
  split
  · rfl
  · rename_i h
    rw [nth_ge (l := d) (by omega)]
    by_cases hk : i - d.length < k
    · rw [nth_lt (by simpa using hk)]; simp
    · exact nth_ge (by simp; omega)
def cutFr (A B C : List UInt8) (pre : List LP) : VS := ⟨slots [(6, .ptr 0 []), (36, .fn 32 [.ptr 3 [], .ptr 4 [], .ptr 1 [], .ptr 2 []])], rows [(0, .row .cell (.sl (some (5, [], 0)) pre.length)), (1, .row (.arr 3 .cell) (.agg [.int .u8 1, .int .u8 2, .int .u8 3])), (2, .row (.arr 3 .cell) (.agg [.str A, .str B, .str C])), (3, .row .cell (.int .i64 1)), (4, .row .cell (.int .i64 5)), (5, .row (.arr pre.length prtSh) (.agg ((pre.map (·.1)).map encPrt)))], 6⟩
theorem cut_spec (d : List UInt8) (hd : d.length ≤ 100000) : Spec Try.prog 11 [.str d] (encPrts (cutS d)) := by
  intro U w xs ha
  obtain ⟨n, hn⟩ : ∃ n, n = rowsN d.length := ⟨_, rfl⟩
  have hnb : d.length ≤ 3 * n ∧ 3 * n ≤ d.length + 2 := by rw [hn]; unfold rowsN; omega
  have hR := srows_spec d.length (by unfold i64P; omega)
  rw [rowsI_nat, ← hn] at hR
  have hP := repeat_spec [0] (3 * n - d.length) (by simp; omega) (by omega)
  have hfl : (List.replicate (3 * n - d.length) ([0] : List UInt8)).flatten = List.replicate (3 * n - d.length) 0 := by
    generalize 3 * n - d.length = k
    induction k with
    | zero => rfl
    | succ k ih => simp [List.replicate_succ, ih]
  rw [hfl] at hP
  have ei : ((3 * n - d.length : Nat) : Int) = 3 * (n : Int) - d.length := by omega
  rw [ei] at hP
  obtain ⟨fl, hf⟩ : ∃ fl, fl = d ++ List.replicate (3 * n - d.length) 0 := ⟨_, rfl⟩
  have hfll : fl.length = 3 * n := by rw [hf]; simp; omega
  have hSR := sr_enter (fn := Try.f11) (args := [.str d]) (k := 1) rfl (by decide) (hr_bare U w) ha
  refine callsIn_wide.1 (callsIn_of_wp_marks (n := 5) Try.func11 rfl trivial (wpIn_wide.2 ?_) rfl)
  obtain ⟨Q, hQ⟩ : ∃ Q, Q = bodyPostM Fence.wide 5 Try.prog Try.f11 (fun e w' => ∃ x, e = .returned x ∧ Below w.heap.size w w' ∧ VR (.bare fun b => U b ∨ w.heap.size ≤ b) w' (encPrts (cutS d)) x) := ⟨_, rfl⟩
  rw [← hQ]
  have h0 : ∀ m, 0 ≤ m → (Names.bare U) m = none := fun _ _ => rfl
  revert hSR
  suffices hC : Cont Try.prog ⟨46, []⟩ w.heap.size (.bare U) w Q _ ⟨argsF 0 [.str d] (fun _ => .any), fun _ => none, 0⟩ from fun hSR => hC _ _ _ hSR
  refine cont_seq h0 (by kernel_rfl) ?_
  repeat' (first|(with_reducible first|refine yrl (by constructor) ?_|refine jk (fun M hM=>?_)|(refine hM _ ?_;clear hM M)|refine xb3 (by decide) ?_|refine yqa (by assumption) ?_ ?_|refine yqb (by assumption) ?_ ?_)|((with_reducible refine je ?_)<;>(first|rfl|assumption|(simp only [znl,znA8];(first|done|fail))))|(with_reducible refine jf (by (simp only [↓reduceIte,zlk,Nat.reduceEqDiff,reduceCtorEq]);exact rfl) ?_)|((with_reducible first|refine jg (fun hc=>?_) (fun hc=>?_)|refine jh (fun hc=>?_) (fun hc=>?_))<;>(try simp (disch:=omega) only [zhb] at hc)<;>(try (exfalso;omega))<;>(try subst hc))|(with_reducible refine ji (by omega) ?_)|(simp (config := { maxSteps := 400000 }) only [↓jt,↓reduceIte,zvs,reduceCtorEq,Nat.reduceEqDiff,Nat.reduceAdd,Nat.reduceLeDiff,Nat.reduceMul,Int.reduceBNe,Int.reduceBEq,Int.reduceEq,Int.reduceNe,Int.reduceLT,Int.reduceLE,Int.reduceGT,Int.reduceGE,Int.reduceNeg,Int.reduceToNat,Nat.reduceLT,Nat.reduceSub,tab])|(simp (disch:=omega) only [ziw]))
  refine cont_seq h0 (by kernel_rfl) ?_
  repeat' (first|(with_reducible first|refine yrl (by constructor) ?_|refine jk (fun M hM=>?_)|(refine hM _ ?_;clear hM M)|refine xb3 (by decide) ?_|refine yqa (by assumption) ?_ ?_|refine yqb (by assumption) ?_ ?_)|((with_reducible refine je ?_)<;>(first|rfl|assumption|(simp only [znl,znA8];(first|done|fail))))|(with_reducible refine jf (by (simp only [↓reduceIte,zlk,Nat.reduceEqDiff,reduceCtorEq]);exact rfl) ?_)|((with_reducible first|refine jg (fun hc=>?_) (fun hc=>?_)|refine jh (fun hc=>?_) (fun hc=>?_))<;>(try simp (disch:=omega) only [zhb] at hc)<;>(try (exfalso;omega))<;>(try subst hc))|(with_reducible refine ji (by omega) ?_)|(simp (config := { maxSteps := 400000 }) only [↓jt,↓reduceIte,zvs,reduceCtorEq,Nat.reduceEqDiff,Nat.reduceAdd,Nat.reduceLeDiff,Nat.reduceMul,Int.reduceBNe,Int.reduceBEq,Int.reduceEq,Int.reduceNe,Int.reduceLT,Int.reduceLE,Int.reduceGT,Int.reduceGE,Int.reduceNeg,Int.reduceToNat,Nat.reduceLT,Nat.reduceSub,tab])|(simp (disch:=omega) only [ziw]))
  refine cont_seq h0 (by kernel_rfl) ?_
  repeat' (first|(with_reducible first|refine yrl (by constructor) ?_|refine jk (fun M hM=>?_)|(refine hM _ ?_;clear hM M)|refine xb3 (by decide) ?_|refine yqa (by assumption) ?_ ?_|refine yqb (by assumption) ?_ ?_)|((with_reducible refine je ?_)<;>(first|rfl|assumption|(simp only [znl,znA8];(first|done|fail))))|(with_reducible refine jf (by (simp only [↓reduceIte,zlk,Nat.reduceEqDiff,reduceCtorEq]);exact rfl) ?_)|((with_reducible first|refine jg (fun hc=>?_) (fun hc=>?_)|refine jh (fun hc=>?_) (fun hc=>?_))<;>(try simp (disch:=omega) only [zhb] at hc)<;>(try (exfalso;omega))<;>(try subst hc))|(with_reducible refine ji (by omega) ?_)|(simp (config := { maxSteps := 400000 }) only [↓jt,↓reduceIte,zvs,reduceCtorEq,Nat.reduceEqDiff,Nat.reduceAdd,Nat.reduceLeDiff,Nat.reduceMul,Int.reduceBNe,Int.reduceBEq,Int.reduceEq,Int.reduceNe,Int.reduceLT,Int.reduceLE,Int.reduceGT,Int.reduceGE,Int.reduceNeg,Int.reduceToNat,Nat.reduceLT,Nat.reduceSub,tab])|(simp (disch:=omega) only [ziw]))
  rw [← hf]
  refine cont_seq h0 (by kernel_rfl) ?_
  refine ok_drawC 14 (by kernel_rfl) (by decide +kernel) (by intro m hm; simp only [upd_ap,rows_cons,rows_nil]; (repeat (first | rfl | rw [if_neg (by omega)]))) (fun M hM => ?_); simp only [List.take_succ_cons,List.take_zero,List.drop_succ_cons,List.drop_zero]
  have e2 : (2 * (n : Int)).toNat = 2 * n := by omega
  have e3 : 3 * n - 2 * n = n := by omega
  have e4 : 2 * n - n = n := by omega
  have has3 : ∀ a b c : List UInt8, Has (.arr 3 .cell) (.agg [.str a, .str b, .str c]) := fun a b c => by simp [Has, VV.leaf]
  have hasX : Has (.arr 3 .cell) (.agg [.int .u8 1, .int .u8 2, .int .u8 3]) := by simp [Has, VV.leaf]
  repeat' (first|(with_reducible first|refine yrl (by constructor) ?_|refine jk (fun M hM=>?_)|(refine hM _ ?_;clear hM M)|refine xb3 (by decide) ?_|refine yqa (by assumption) ?_ ?_|refine yqb (by assumption) ?_ ?_)|((with_reducible refine je ?_)<;>(first|rfl|assumption|(simp only [znl,znA8];(first|done|fail))))|(with_reducible refine jf (by (simp only [↓reduceIte,zlk,Nat.reduceEqDiff,reduceCtorEq]);exact rfl) ?_)|((with_reducible first|refine jg (fun hc=>?_) (fun hc=>?_)|refine jh (fun hc=>?_) (fun hc=>?_))<;>(try simp (disch:=omega) only [zhb] at hc)<;>(try (exfalso;omega))<;>(try subst hc))|(with_reducible refine ji (by omega) ?_)|(simp (config := { maxSteps := 400000 }) only [↓jt,↓reduceIte,zvs,reduceCtorEq,Nat.reduceEqDiff,Nat.reduceAdd,Nat.reduceLeDiff,Nat.reduceMul,Int.reduceBNe,Int.reduceBEq,Int.reduceEq,Int.reduceNe,Int.reduceLT,Int.reduceLE,Int.reduceGT,Int.reduceGE,Int.reduceNeg,Int.reduceToNat,Nat.reduceLT,Nat.reduceSub,tab,hfll,Int.toNat_natCast,e2,e3,e4,has3])|(simp (disch:=omega) only [ziw]))
  obtain ⟨A, hA⟩ : ∃ A, A = List.take n fl := ⟨_, rfl⟩
  obtain ⟨B, hB⟩ : ∃ B, B = List.take n (List.drop n fl) := ⟨_, rfl⟩
  obtain ⟨C, hC⟩ : ∃ C, C = List.take n (List.drop (2 * n) fl) := ⟨_, rfl⟩
  rw [← hA, ← hB, ← hC]
  refine cont_seq h0 (by kernel_rfl) ?_
  repeat' (first|(with_reducible first|refine yrl (by constructor) ?_|refine jk (fun M hM=>?_)|(refine hM _ ?_;clear hM M)|refine xb3 (by decide) ?_|refine yqa (by assumption) ?_ ?_|refine yqb (by assumption) ?_ ?_)|((with_reducible refine je ?_)<;>(first|rfl|assumption|(simp only [znl,znA8];(first|done|fail))))|(with_reducible refine jf (by (simp only [↓reduceIte,zlk,Nat.reduceEqDiff,reduceCtorEq]);exact rfl) ?_)|((with_reducible first|refine jg (fun hc=>?_) (fun hc=>?_)|refine jh (fun hc=>?_) (fun hc=>?_))<;>(try simp (disch:=omega) only [zhb] at hc)<;>(try (exfalso;omega))<;>(try subst hc))|(with_reducible refine ji (by omega) ?_)|(simp (config := { maxSteps := 400000 }) only [↓jt,↓reduceIte,zvs,reduceCtorEq,Nat.reduceEqDiff,Nat.reduceAdd,Nat.reduceLeDiff,Nat.reduceMul,Int.reduceBNe,Int.reduceBEq,Int.reduceEq,Int.reduceNe,Int.reduceLT,Int.reduceLE,Int.reduceGT,Int.reduceGE,Int.reduceNeg,Int.reduceToNat,Nat.reduceLT,Nat.reduceSub,tab])|(simp (disch:=omega) only [ziw]))
  refine cont_left ?_
  refine cont_seq h0 (by kernel_rfl) ?_
  repeat' (first|(with_reducible first|refine yrl (by constructor) ?_|refine jk (fun M hM=>?_)|(refine hM _ ?_;clear hM M)|refine xb3 (by decide) ?_|refine yqa (by assumption) ?_ ?_|refine yqb (by assumption) ?_ ?_)|((with_reducible refine je ?_)<;>(first|rfl|assumption|(simp only [znl,znA8];(first|done|fail))))|(with_reducible refine jf (by (simp only [↓reduceIte,zlk,Nat.reduceEqDiff,reduceCtorEq]);exact rfl) ?_)|((with_reducible first|refine jg (fun hc=>?_) (fun hc=>?_)|refine jh (fun hc=>?_) (fun hc=>?_))<;>(try simp (disch:=omega) only [zhb] at hc)<;>(try (exfalso;omega))<;>(try subst hc))|(with_reducible refine ji (by omega) ?_)|(simp (config := { maxSteps := 400000 }) only [↓jt,↓reduceIte,zvs,reduceCtorEq,Nat.reduceEqDiff,Nat.reduceAdd,Nat.reduceLeDiff,Nat.reduceMul,Int.reduceBNe,Int.reduceBEq,Int.reduceEq,Int.reduceNe,Int.reduceLT,Int.reduceLE,Int.reduceGT,Int.reduceGE,Int.reduceNeg,Int.reduceToNat,Nat.reduceLT,Nat.reduceSub,tab,has3,hasX])|(simp (disch:=omega) only [ziw]))
  refine ja (ok_body Try.func19 rfl rfl (by kernel_rfl) (k := 4) (by rfl) (by decide) ?_)
  repeat' (first|(with_reducible first|refine yrl (by constructor) ?_|refine jk (fun M hM=>?_)|(refine hM _ ?_;clear hM M)|refine xb3 (by decide) ?_|refine yqa (by assumption) ?_ ?_|refine yqb (by assumption) ?_ ?_)|((with_reducible refine je ?_)<;>(first|rfl|assumption|(simp only [znl,znA8];(first|done|fail))))|(with_reducible refine jf (by (simp only [↓reduceIte,zlk,Nat.reduceEqDiff,reduceCtorEq]);exact rfl) ?_)|((with_reducible first|refine jg (fun hc=>?_) (fun hc=>?_)|refine jh (fun hc=>?_) (fun hc=>?_))<;>(try simp (disch:=omega) only [zhb] at hc)<;>(try (exfalso;omega))<;>(try subst hc))|(with_reducible refine ji (by omega) ?_)|(simp (config := { maxSteps := 400000 }) only [↓jt,↓reduceIte,zvs,reduceCtorEq,Nat.reduceEqDiff,Nat.reduceAdd,Nat.reduceLeDiff,Nat.reduceMul,Int.reduceBNe,Int.reduceBEq,Int.reduceEq,Int.reduceNe,Int.reduceLT,Int.reduceLE,Int.reduceGT,Int.reduceGE,Int.reduceNeg,Int.reduceToNat,Nat.reduceLT,Nat.reduceSub,tab,has3,hasX,Try.results19,jTA])|(simp (disch:=omega) only [ziw]))
  refine cont_ren h0 (T := cutFr A B C []) ?_ ?_
  · unfold cutFr
    (refine yrn [(0, 897), (1, 898), (2, 899), (3, 900), (4, 901), (5, 896)] false ?_ ?_<;>(repeat' (first|(with_reducible first|exact ya1|exact ya2|exact ya3|refine jx rfl (by first|rfl|assumption|(simp only [znl,znA8];(first|done|fail)))|exact ya5|exact ya7|exact jy|exact jz|refine jA ?_|refine ya9 ?_ ?_ ?_|refine jC rfl (by first|rfl|assumption|(simp only [znl,znA8];(first|done|fail)))|refine MR.agg (MRL.cons ?_ ?_)|refine MR.fn ?_|refine MRL.cons ?_ ?_|exact MRL.nil|refine jE ?_ ?_|exact jF|exact jG|refine yb1 ?_ ?_|refine MB.row ?_|refine jI ?_ ?_|exact ya8|refine jJ rfl (by first|rfl|assumption|(simp only [znl,znA8];(first|done|fail)))|refine yb2 ?_|rfl)|(simp only [znl,znA8];(first|done|fail))|(simp only [↓reduceIte,zlk,Nat.reduceEqDiff,reduceCtorEq])|(with_reducible first|refine jJ ?_ ?_|refine ya5 ?_|refine ju ?_|refine jv ?_|refine jw ?_|refine jx ?_ (by first|rfl|assumption|(simp only [znl,znA8];(first|done|fail)))|refine jC ?_ (by first|rfl|assumption|(simp only [znl,znA8];(first|done|fail)))))))
    all_goals (first | rfl)
  intro a w1 ρ hS
  obtain ⟨p1, p2, p3, p4, hfn, hH⟩ := held_of (x := 1) (y := 2) (z := 3) hS (t := 36) rfl rfl (last := 5) rfl rfl rfl
  refine wp_block ?_
  refine wp_range (n0 := 0) 4 (cutFr A B C) h0 (Nat.le_refl _) hS hfn (enters_of Try.func32 (by kernel_rfl) rfl) (Held p1 p2 p3 p4 5 1 2 3 A B C)
    (lines_stops p1 p2 p3 p4 5 1 2 3 A B C n 4 ⟨by decide, by decide, by decide⟩ (by omega) ?_ ?_ ?_ (by decide) w1 hH) (fun pre W ρ' h => ?_) (fun W W' g h => h.gr g) (fun _ => rfl) ?_ ?_
    (fun x => ((((⟨a.tmps, []⟩ : Act).put (some 37) (.int .i64 x.1.i)).put (some 38) (.string ⟨x.1.d.toArray⟩)).put (some 7) (.int .i64 x.1.i)).put (some 8) (.string ⟨x.1.d.toArray⟩))
    (fun pre x => put (some 8) (.str x.1.d) (put (some 7) (.int .i64 x.1.i) (put (some 38) (.str x.1.d) (put (some 37) (.int .i64 x.1.i) (cutFr A B C pre).tm)))) ?_ ?_ ?_ (fun _ => rfl) (by kernel_rfl) ?_ ?_
  · rw [hA, List.length_take, hfll]; omega
  · rw [hB, List.length_take, List.length_drop, hfll]; omega
  · rw [hC, List.length_take, List.length_drop, hfll]; omega
  · obtain ⟨q1, q2, q3, q4, e, hq⟩ := held_of (x := 1) (y := 2) (z := 3) h (t := 36) rfl rfl (last := 5) rfl rfl rfl
    rw [hfn] at e
    obtain ⟨rfl, rfl, rfl, rfl⟩ := ptr4_inj e
    exact hq
  · intro pre k es h
    simp only [cutFr,rows_cons,rows_nil] at h
    repeat' split at h
    all_goals cases h
  · intro pre x k hk
    have hk6 : k < 6 := hk
    have hk' : k = 0 ∨ k = 1 ∨ k = 2 ∨ k = 3 ∨ k = 4 ∨ k = 5 := by omega
    rcases hk' with rfl | rfl | rfl | rfl | rfl | rfl <;> refine ⟨_, _, rfl, ?_⟩
    all_goals first | decide | (simp [Sh.size, Sh.sizes]; done)
  · intro r x W K hK
    refine wpIn_seq (wpIn_region_lit (in_assign (wpListIn_nil ?_)))
    refine wpIn_region_lit (in_assign (wpListIn_nil ?_))
    have hsz := hS.size
    have hsz : a.tmps.size = 46 := hsz
    refine cast ?_ hK
    congr 1
    simp [Act.put, Act.eval, encLP, Array.getD_eq_getD_getElem?, Array.getElem?_setIfInBounds, hsz]
  · intro pre x W ρ' h
    have hsz : a.tmps.size = 46 := h.size
    have hT0 : TM ρ' W (cutFr A B C pre).tm (⟨a.tmps, []⟩ : Act) := h.tm
    refine (((hT0.put (d := some 37) ?_ (VR_int)).put (d := some 38) ?_ VR_str).put (d := some 7) ?_ VR_int).put (d := some 8) ?_ VR_str
    all_goals
      intro t ht
      injection ht with ht
      subst ht
      simp [Act.put, hsz]
  · intro x
    have hsz : a.tmps.size = 46 := hS.size
    simp [Act.put, hsz]
  · intro pre x hlen M hM
    unfold cutFr
    have hin : (pre.map (·.1)).map encPrt ++ [.agg [.int .i64 x.1.i, .str x.1.d]] = ((pre ++ [x]).map (·.1)).map encPrt := by rw [List.map_append, List.map_append]; rfl
    have hil : (pre ++ [x]).length = pre.length + 1 := by simp
    have hml : ((pre.map (·.1)).map encPrt).length = pre.length := by simp
    unfold cutFr at hM
    generalize (pre.map (·.1)).map encPrt = E at hin hml hM ⊢
    repeat' (first|(with_reducible first|refine yrl (by constructor) ?_|refine jk (fun M hM=>?_)|(refine hM _ ?_;clear hM M)|refine xb3 (by decide) ?_|refine yqa (by assumption) ?_ ?_|refine yqb (by assumption) ?_ ?_)|((with_reducible refine je ?_)<;>(first|rfl|assumption|(simp only [znl,znA8];(first|done|fail))))|(with_reducible refine jf (by (simp only [↓reduceIte,zlk,Nat.reduceEqDiff,reduceCtorEq]);exact rfl) ?_)|((with_reducible first|refine jg (fun hc=>?_) (fun hc=>?_)|refine jh (fun hc=>?_) (fun hc=>?_))<;>(try simp (disch:=omega) only [zhb] at hc)<;>(try (exfalso;omega))<;>(try subst hc))|(with_reducible refine ji (by omega) ?_)|(simp (config := { maxSteps := 400000 }) only [↓jt,↓reduceIte,zvs,reduceCtorEq,Nat.reduceEqDiff,Nat.reduceAdd,Nat.reduceLeDiff,Nat.reduceMul,Int.reduceBNe,Int.reduceBEq,Int.reduceEq,Int.reduceNe,Int.reduceLT,Int.reduceLE,Int.reduceGT,Int.reduceGE,Int.reduceNeg,Int.reduceToNat,Nat.reduceLT,Nat.reduceSub,tab,hml])|(simp (disch:=omega) only [ziw]))
    (refine yrn [(0, 0), (1, 1), (2, 2), (3, 3), (4, 4), (5, 7)] false ?_ ?_<;>(repeat' (first|(with_reducible first|exact ya1|exact ya2|exact ya3|refine jx rfl (by first|rfl|assumption|(simp only [znl,znA8];(first|done|fail)))|exact ya5|exact ya7|exact jy|exact jz|refine jA ?_|refine ya9 ?_ ?_ ?_|refine jC rfl (by first|rfl|assumption|(simp only [znl,znA8];(first|done|fail)))|refine MR.agg (MRL.cons ?_ ?_)|refine MR.fn ?_|refine MRL.cons ?_ ?_|exact MRL.nil|refine jE ?_ ?_|exact jF|exact jG|refine yb1 ?_ ?_|refine MB.row ?_|refine jI ?_ ?_|exact ya8|refine jJ rfl (by first|rfl|assumption|(simp only [znl,znA8];(first|done|fail)))|refine yb2 ?_|rfl)|(simp only [znl,znA8];(first|done|fail))|(simp only [↓reduceIte,zlk,Nat.reduceEqDiff,reduceCtorEq])|(with_reducible first|refine jJ ?_ ?_|refine ya5 ?_|refine ju ?_|refine jv ?_|refine jw ?_|refine jx ?_ (by first|rfl|assumption|(simp only [znl,znA8];(first|done|fail)))|refine jC ?_ (by first|rfl|assumption|(simp only [znl,znA8];(first|done|fail)))))))
    all_goals (first | rfl | exact hin | (rw [hil]; done))
  · intro D ys W ρ' hD hys h hnm hK
    have hcut : ys.map (·.1) = cutS d := by
      rw [hys, ← cutTo_five]
      refine List.map_congr_left fun j _ => ?_
      congr 1
      rw [partOf, ← hn]
      refine lineP_congr (fun i hi => ?_) (fun i hi => ?_) (fun i hi => ?_)
      · rw [hA, nth_take _ _ _ hi, hf, nth_pad, third_nth, Nat.zero_mul, Nat.zero_add]
      · rw [hB, nth_take _ _ _ hi, nth_drop, hf, nth_pad, third_nth, Nat.one_mul, ← hn]
      · rw [hC, nth_take _ _ _ hi, nth_drop, hf, nth_pad, third_nth, ← hn]
    have hyl : ys.length = 5 := by
      have := congrArg List.length hcut
      simpa [cutS] using this
    have h1 := (h.more (fun b => b = D) (fun b hb => by subst hb; exact Nat.le_trans hS.ext.size hD)).here
    have had : a.defers = [] := h.defers
    have hX : SR ⟨46, [{ target := .collected D, args := #[] }]⟩ w.heap.size (moreIm ρ' fun b => b = D) W (cutFr A B C ys) { a with defers := { target := .collected D, args := #[] } :: a.defers } W (moreIm ρ' fun b => b = D) :=
      ⟨h1.tm, by show _ :: a.defers = _; rw [had], h1.size, h1.heap, Below.refl _ _, Ext.refl _ _⟩
    refine (?_ : Ok Try.prog 6 _ (cutFr A B C ys) (fin Try.prog Try.f11.results.toList fun v H _ => RdT H v (encPrts (cutS d)))) _ _ (moreIm ρ' fun b => b = D) W Q _ W _ (fun m hm => h.heap.fresh m hm) (by kernel_rfl) hX fun e S' a' w' ρ2 hk hs => ?_
    · unfold cutFr
      rw [hcut, hyl]
      repeat' (first|(with_reducible first|refine yrl (by constructor) ?_|refine jk (fun M hM=>?_)|(refine hM _ ?_;clear hM M)|refine xb3 (by decide) ?_|refine yqa (by assumption) ?_ ?_|refine yqb (by assumption) ?_ ?_)|((with_reducible refine je ?_)<;>(first|rfl|assumption|(simp only [znl,znA8];(first|done|fail))))|(with_reducible refine jf (by (simp only [↓reduceIte,zlk,Nat.reduceEqDiff,reduceCtorEq]);exact rfl) ?_)|((with_reducible first|refine jg (fun hc=>?_) (fun hc=>?_)|refine jh (fun hc=>?_) (fun hc=>?_))<;>(try simp (disch:=omega) only [zhb] at hc)<;>(try (exfalso;omega))<;>(try subst hc))|(with_reducible refine ji (by omega) ?_)|(simp (config := { maxSteps := 400000 }) only [↓jt,↓reduceIte,zvs,reduceCtorEq,Nat.reduceEqDiff,Nat.reduceAdd,Nat.reduceLeDiff,Nat.reduceMul,Int.reduceBNe,Int.reduceBEq,Int.reduceEq,Int.reduceNe,Int.reduceLT,Int.reduceLE,Int.reduceGT,Int.reduceGE,Int.reduceNeg,Int.reduceToNat,Nat.reduceLT,Nat.reduceSub,tab,Try.results11,jTA])|(simp (disch:=omega) only [ziw]))
      all_goals ((refine rd_own (by (simp only [↓reduceIte,zlk,Nat.reduceEqDiff,reduceCtorEq]); exact rfl) ?_ ?_ ?_) <;> (first | rfl | assumption | (simp only [znl,znA8];(first|done|fail)) | (simp; done) | (simp; omega) | skip); done)
    · have key : LeavesInM Fence.wide 5 Try.prog Try.f11 a'.tmps (fun e w' => ∃ x, e = .returned x ∧ Below w.heap.size w w' ∧ VR (.bare fun b => U b ∨ w.heap.size ≤ b) w' (encPrts (cutS d)) x) a'.defers .returning w' := by
        have hv : vres Try.prog S' Try.f11.results.toList (fun v => RdT S'.hp v (encPrts (cutS d))) := by cases e with | exit i => exact hk.elim | normal => exact hk | ret => exact hk
        obtain ⟨v, x, k1, k2, k3⟩ := vres_sound hs Try.f11 _ hv
        have hDl : D < W.heap.size := (Array.getElem?_eq_some_iff.1 hK).1
        have hK' : w'.heap[D]? = some (.deferred (some [])) := by
          rw [hs.ext.block D hDl ⟨.inr rfl, hnm⟩]; exact hK
        have g : Gr w' (w'.putObj D (.deferred none)) := Gr.of (grownBy_putObj' w' D _) fun r e => by cases e; exact ⟨_, hK', rfl⟩
        rw [hs.defers]
        refine ⟨by simp, .inl ⟨D, _, rfl, run_takeDeferred hK', ?_⟩⟩
        rw [results_tmp rfl] at k3
        injection k3 with k3 _
        refine ⟨_, results_tmp rfl _ _ _, x, by rw [k3], ?_, VR.gr g _ _ (k1.value hs.heap ?_ (fun m l hl => .inr (hs.heap.lt m l hl).1) k2)⟩
        · have hB := h.below.trans hs.below
          refine hB.trans ⟨rfl, rfl, rfl, by simp, fun k hk => World.putObj_heap_other (fun e => ?_)⟩
          have := hS.ext.size
          omega
        · intro b hb
          rcases hs.ext.imb b hb with h2 | h2
          · rcases h2 with h2 | h2
            · exact h.ext.imb b h2
            · right; have := hS.ext.size; omega
          · right; have := h.ext.size; omega
      rw [hQ]
      cases e with
      | exit i => exact hk.elim
      | normal => exact key
      | ret => exact key
end Go.Proofs.Ytoibnghkcdopeaa.V
end
section
namespace Go.Proofs.Ytoibnghkcdopeaa
open Go Go.RowKit Go.Proofs
theorem sizeBuilder : (Try.prog.info? 57).map (·.size) = some 2 := by kernel_rfl
theorem liesBuilder : liesAt Try.prog Try.prog.depth 57 (2 / Try.prog.cellsOf 57) 0 57 1 = true := by kernel_rfl
theorem infoByte : (Try.prog.info? 5).map (fun i => (i.zero, i.size, i.bytes)) = some (some (.int .u8 0), 1, 1) := by kernel_rfl
set_option maxHeartbeats 1000000 in
set_option maxRecDepth 100000 in
theorem copyCheck_used (b : Nat) (w : World) (h0 : w.cell? ⟨b, 0, none⟩ = some (.pointer (some ⟨b, 0, none⟩))) :
    Calls Try.prog 36 #[.pointer (some ⟨b, 0, none⟩)] w fun e w' => e = .returned (.tuple #[]) ∧ w' = w := by
  obtain ⟨j, hj, _⟩ := Option.map_eq_some_iff.1 sizeBuilder
  go_enter Try.func36, Try.ntmps36
  go_wp2
  rw [Lib.run_neq_ptr_same w _ Try.underlying55 hj]
  go_wp2
  go_end0
  exact ⟨rfl, rfl⟩
set_option maxHeartbeats 1000000 in
set_option maxRecDepth 100000 in
theorem copyCheck_fresh (b : Nat) (w : World) (h0 : w.cell? ⟨b, 0, none⟩ = some (.pointer none)) (hsh : w.shape? b = some (57, 2)) (hfz : w.frozen? ⟨b, 0, none⟩ = false) :
    Calls Try.prog 36 #[.pointer (some ⟨b, 0, none⟩)] w fun e w' => e = .returned (.tuple #[]) ∧ w' = w.setCell ⟨b, 0, none⟩ (.pointer (some ⟨b, 0, none⟩)) := by
  obtain ⟨j, hj, hjs⟩ := Option.map_eq_some_iff.1 sizeBuilder
  go_enter Try.func36, Try.ntmps36
  go_wp2
  rw [Lib.run_to_unsafe w ⟨b, 0, none⟩ Try.underlying55 Try.underlying80 hj (by rw [hjs]; decide) hsh (Nat.zero_lt_succ 1)]
  simp only [Result.andThen]
  rw [Oper.upon_value]
  go_wp2
  rw [run_callFunc_extern Try.func42 (by kernel_rfl) (by kernel_rfl) (by kernel_rfl) (e := Extern.AbiNoEscape.same) (by kernel_rfl)]
  rw [Lib.run_noEscape]
  simp only [Result.andThen]
  rw [Oper.upon_value]
  go_wp2
  rw [Lib.run_from_unsafe w ⟨b, 0, none⟩ Try.underlying80 Try.underlying55 hj hsh liesBuilder]
  simp only [Result.andThen]
  rw [Oper.upon_value]
  go_wp2
  go_end0
  exact ⟨rfl, rfl⟩
theorem copyCheck_k (B b : Nat) (bs : List Value) (w : World) (h : Lib.IsBuilderF 57 5 B b bs w) :
    Calls Try.prog 36 #[.pointer (some ⟨b, 0, none⟩)] w fun e w' => e = .returned (.tuple #[]) ∧ (Lib.BuilderAtF 57 5 B b (.pointer (some ⟨b, 0, none⟩)) bs w' ∧ Below B w w' ∧ Lib.OthersKept 5 (some b) w w') := by
  rcases h with h | h
  · refine (copyCheck_fresh b w h.cell0 h.shape h.frozen0).mono ?_
    rintro e w' ⟨rfl, rfl⟩
    exact ⟨rfl, h.used _, (Below.refl B w).setCell (p := ⟨b, 0, none⟩) h.1 _, (Lib.OthersKept.refl _ _ w).setCell ⟨b, 0, none⟩ rfl _⟩
  · refine (copyCheck_used b w h.cell0).mono ?_
    rintro e w' ⟨rfl, rfl⟩
    exact ⟨rfl, h, Below.refl B _, Lib.OthersKept.refl _ _ _⟩
set_option maxHeartbeats 2000000 in
set_option maxRecDepth 100000 in
theorem writeString_k (B b : Nat) (bs : List Value) (s : ByteArray) (w : World) (h : Lib.IsBuilderF 57 5 B b bs w) (hlen : bs.length + s.size ≤ 140737488355328) (hBw : B ≤ w.heap.size) :
    Calls Try.prog 25 #[.pointer (some ⟨b, 0, none⟩), .string s] w fun e w' => e = .returned (.tuple #[.int .i64 s.size, .nilIface]) ∧ (Lib.BuilderAtF 57 5 B b (.pointer (some ⟨b, 0, none⟩)) (bs ++ Lib.strCells s) w' ∧ Below B w w' ∧ Lib.OthersKept 5 (some b) w w') := by
  obtain ⟨i0, hi, hz0, hz1, hz2⟩ := info_parts infoByte
  go_enter Try.func25, Try.ntmps25
  go_wp2_with (go_at_call 36; refine (copyCheck_k B b bs _ h).mono ?_)
  rintro e w1 ⟨rfl, h1, hb1, hk1⟩
  obtain ⟨hB, v, hbk, hown, hne⟩ := h1
  have c0 : w1.cell? ⟨b, 0, none⟩ = some (.pointer (some ⟨b, 0, none⟩)) := by rw [Lib.cell_of_heap hbk]; rfl
  have c1 : w1.cell? ⟨b, 1, none⟩ = some v := by rw [Lib.cell_of_heap hbk]; rfl
  go_wp2_with (at_builtin; refine Lib.wpList_append_own_stringF _ rfl _ _ 28 9 rfl B 5 i0 Try.underlying28 Try.underlying9 hi hz0 hz1 hz2 _ _ _ rfl hown s rfl ?c3 ?c4 ?c5 ?_)
  case c3 => unfold maxLen; omega
  case c4 => omega
  case c5 => have := hb1.size; omega
  intro v' w2 hown' hgrow _
  have hlt : b < w1.heap.size := by
    rcases Nat.lt_or_ge b w1.heap.size with h' | h'
    · exact h'
    · simp [Array.getElem?_eq_none h'] at hbk
  have hb2 : w2.heap[b]? = some (.cells #[.pointer (some ⟨b, 0, none⟩), v] 57 (0, 0)) := by
    rw [hgrow.block b hlt (fun e => hne e.symm)]
    exact hbk
  have d0 : w2.cell? ⟨b, 0, none⟩ = some (.pointer (some ⟨b, 0, none⟩)) := by rw [Lib.cell_of_heap hb2]; rfl
  have d1 : w2.cell? ⟨b, 1, none⟩ = some v := by rw [Lib.cell_of_heap hb2]; rfl
  have f1 : w2.frozen? ⟨b, 1, none⟩ = false := Lib.frozen_of_heap hb2 1
  obtain ⟨ao, n', cap, rfl⟩ : ∃ ao n' cap, v' = .slice ao n' cap := by
    rcases hown'.2 with ⟨hv, _⟩ | ⟨g, cap, cur, fz, hv, _⟩
    · exact ⟨_, _, _, hv⟩
    · exact ⟨_, _, _, hv⟩
  go_wp2
  go_ret2
  refine ⟨rfl, ?_, ?_, (hk1.grown hgrow (Lib.ownsRowF_kind hown)).setCell ⟨b, 1, none⟩ rfl _⟩
  · exact Lib.BuilderAtF.put (T := 57) (e := 5) hB hb2 (bs' := bs ++ Lib.strCells s) (by simpa [Lib.strCells_length] using hown') (by decide)
  · exact (hb1.grown hgrow (by have := hb1.size; omega) (fun k hk => (hown.lt k hk).1)).setCell (p := ⟨b, 1, none⟩) hB _
end Go.Proofs.Ytoibnghkcdopeaa
end
section
namespace Go.Proofs.Ytoibnghkcdopeaa.V
open Go Go.RowKit Go.Proofs.Ytoibnghkcdopeaa Go.Proofs.Ytoibnghkcdopeaa.Gf
theorem isBuilder_gr {T e : TypeId} {B b : Nat} {bs : List Value} {w w' : World} (h : Lib.IsBuilderF T e B b bs w) (g : Gr w w') : Lib.IsBuilderF T e B b bs w' := by
  have key : ∀ p, Lib.BuilderAtF T e B b p bs w → Lib.BuilderAtF T e B b p bs w' := by
    rintro p ⟨hB, v, hb, ⟨hl, ho⟩, hne⟩
    refine ⟨hB, v, g.same _ _ hb rfl, ⟨hl, ?_⟩, hne⟩
    rcases ho with ho | ⟨q, cap, cur, fz, h1, h2, h3, h4⟩
    · exact .inl ho
    · exact .inr ⟨q, cap, cur, fz, h1, h2, g.same _ _ h3 rfl, h4⟩
  exact h.imp (key _) (key _)
theorem isBuilder_new {T e : TypeId} {b : Nat} {w : World} (h : w.heap[b]? = some (.cells #[.pointer none, .slice none 0 0] T (0, 0))) : Lib.IsBuilderF T e b b [] w :=
  .inl ⟨Nat.le_refl _, .slice none 0 0, h, World.ownsRowF_nil _ _ _ _, by simp [Value.ownBlock]⟩
section
variable {P : Program} {ops : Array Oper} {Q : Exit → Act → World → Prop} {rest : List Oper} {o : Oper} {a : Act} {w w' : World}
theorem wl_val {v : Value} (hg : o.guard = none) (hr : (execOp a.eval o).run P w = .ok (.value v) w') (h : wpList P ops Q rest (a.put o.dst v) w') : wpList P ops Q (o :: rest) a w :=
  wpList_plain hg fun K hK => by unfold Oper.wp; rw [hr]; exact hK _ _ h
theorem wl_call {f : FuncId} {args : Array Value} (hg : o.guard = none) (hr : (execOp a.eval o).run P w = .ok (.enter f args) w) (hc : Calls P f args w fun e w' => ∃ v, e = .returned v ∧ wpList P ops Q rest (a.put o.dst v) w') : wpList P ops Q (o :: rest) a w :=
  wpList_plain hg fun K hK => by
    unfold Oper.wp
    rw [hr]
    refine Calls.mono hc fun e w' he => ?_
    obtain ⟨v, rfl, h⟩ := he
    exact hK _ _ h
theorem load_raw {B n : Nat} {ρ : Names} {H : Heap} {d : Option Nat} {t : Nat} {ty : TypeId} {typ : TypeId} {pos : String} {aft : Array Edge} {gd : Option (Nat × Bool)} {m : Nat} {s : Sh} {v : VV} (hh : HR ZT B ρ H n w) (ht : VR ρ w (.ptr m []) (a.tmps.getD t undef)) (hm : H m = some (.row s v)) (hs : SH P ty = some s) :
    ∃ x, (execOp a.eval { dst := d, op := .load ty (.tmp t), type := typ, pos := pos, after := aft, guard := gd }).run P w = .ok (.value x) w ∧ VR ρ w v x := by
  obtain ⟨l, hl, hp⟩ := ht.ptr
  have hrow := hh.row m s v l hm hl
  obtain ⟨cs, g1, g2, g3⟩ := hrow.cells
  obtain ⟨y, hy1, hy2⟩ := load_run (P := P) hs hrow.has g1 g3
  refine ⟨y, ?_, hy2⟩
  have hev : a.eval (.tmp t) = a.tmps.getD t undef := rfl
  simp only [execOp,hev,hp,Instr.loadAt,Instr.sureAddr,Sem.run_bind,Sem.run_pure,Result.andThen_ok]
  rw [off_nil, Nat.add_zero, hy1]
  rfl
end
theorem put_same {a : Act} {d : Nat} {v : Value} (h : d < a.tmps.size) : (a.put (some d) v).tmps.getD d undef = v := by simp [Act.put, Array.getD_eq_getD_getElem?, h]
theorem put_other {a : Act} {d t : Nat} {v : Value} (h : t ≠ d) : (a.put (some d) v).tmps.getD t undef = a.tmps.getD t undef := by simp [Act.put, Array.getD_eq_getD_getElem?, Array.getElem?_setIfInBounds_ne (Ne.symm h)]
theorem put_len {a : Act} {d : Nat} {v : Value} : (a.put (some d) v).tmps.size = a.tmps.size := by simp [Act.put]
section
variable {P : Program} {ops : Array Oper} {Q : Exit → Act → World → Prop} {rest : List Oper} {o : Oper} {a : Act} {w w' : World} {r k : Nat}
theorem in_val {v : Value} (hg : o.guard = none) (hnd : noDefer o = true) (hr : (execOp a.eval o).run P w = .ok (.value v) w') (h : wpListIn (Fence.wide.inRound r) k P ops Q rest (a.put o.dst v) w') : wpListIn (Fence.wide.inRound r) k P ops Q (o :: rest) a w :=
  wpListIn_plain hg fun K hK => opIn_of_wp (some r) k hnd (by unfold Oper.wp; rw [hr]; exact hK _ _ h)
theorem in_call {f : FuncId} {args : Array Value} (hg : o.guard = none) (hnd : noDefer o = true) (hr : (execOp a.eval o).run P w = .ok (.enter f args) w) (hc : Calls P f args w fun e w' => ∃ v, e = .returned v ∧ wpListIn (Fence.wide.inRound r) k P ops Q rest (a.put o.dst v) w') : wpListIn (Fence.wide.inRound r) k P ops Q (o :: rest) a w :=
  wpListIn_plain hg fun K hK => opIn_of_wp (some r) k hnd (by
    unfold Oper.wp
    rw [hr]
    refine Calls.mono hc fun e w' he => ?_
    obtain ⟨v, rfl, h⟩ := he
    exact hK _ _ h)
theorem run_allocBuilder {d : Option Nat} {typ : TypeId} {pos : String} {aft : Array Edge} {gd : Option (Nat × Bool)} :
    (execOp a.eval { dst := d, op := .alloc 57, type := typ, pos := pos, after := aft, guard := gd }).run Try.prog w = .ok (.value (.pointer (some ⟨w.heap.size, 0, none⟩))) (w.alloc (.cells #[.pointer none, .slice none 0 0] 57)) := by
  simp [execOp, Instr.alloc, newVar, newRow, Try.zeroValue57, go_sem]
theorem run_call {f : Nat} {args : Array Operand} {ts : Array TypeId} {d : Option Nat} {typ : TypeId} {pos : String} {aft : Array Edge} {gd : Option (Nat × Bool)} (he : ∀ args w, (callFunc f args).run P w = .ok (.enter f args) w) :
    (execOp a.eval { dst := d, op := .call { callee := .value (.func f), args := args, argTypes := ts }, type := typ, pos := pos, after := aft, guard := gd }).run P w = .ok (.enter f (args.map a.eval)) w := by
  have hp : a.eval (.func f) = .func (.func f) #[] #[] := rfl
  simp [execOp, resolve, hp, Deferred.ofValue, invoke, he]
end
theorem agg3 {ρ : Names} {w : World} {u1 u2 u3 : VV} {c1 c2 c3 x : Value} (h : VR ρ w (.agg [u1, u2, u3]) x) (h1 : ∀ cs, C1 ρ w u1 cs → cs = [c1]) (h2 : ∀ cs, C1 ρ w u2 cs → cs = [c2]) (h3 : ∀ cs, C1 ρ w u3 cs → cs = [c3]) : x = .agg #[c1, c2, c3] := by
  obtain ⟨cs, rfl, hc⟩ := h.agg
  simp only [CR] at hc
  obtain ⟨a1, r1, e1, k1, a2, r2, e2, k2, a3, r3, e3, k3, e4⟩ := hc
  congr 1
  apply Array.ext'
  rw [e1, e2, e3, e4, h1 _ k1, h2 _ k2, h3 _ k3]
  rfl
set_option maxRecDepth 100000 in
set_option maxHeartbeats 1000000 in
theorem lines_call (x y z a b c : Value) (fi la : Int) (w : World) :
    Calls Try.prog 19 #[.agg #[x, y, z], .agg #[a, b, c], .int .i64 fi, .int .i64 la] w fun e w' =>
      e = .returned (.func (.func 32) #[] #[ptrV (w.heap.size + 2, 0), ptrV (w.heap.size + 3, 0), ptrV (w.heap.size, 0), ptrV (w.heap.size + 1, 0)]) ∧
      w' = (((w.alloc (.cells #[x, y, z] 40)).alloc (.cells #[a, b, c] 46)).alloc (.cells #[.int .i64 fi] 3)).alloc (.cells #[.int .i64 la] 3) := by
  go_enter Try.func19, Try.ntmps19
  go_wp2
  go_ret
  exact ⟨rfl, rfl⟩
def catL (ys : List LP) : List UInt8 := (ys.map (·.1.d)).flatten
theorem catL_snoc (ys : List LP) (x : LP) : catL (ys ++ [x]) = catL ys ++ x.1.d := by simp [catL]
theorem catL_len (ys : List LP) : (catL ys).length ≤ ys.length * 200000 := by
  induction ys with
  | nil => simp [catL]
  | cons x ys ih =>
    have e : catL (x :: ys) = x.1.d ++ catL ys := by simp [catL]
    rw [e, List.length_append, List.length_cons]
    have := x.2.1
    omega
structure Boxes (p : Nat) (x y z a b c : Value) (la : Int) (w : World) : Prop where
  b0 : w.heap[p]? = some (.cells #[x, y, z] 40)
  b1 : w.heap[p + 1]? = some (.cells #[a, b, c] 46)
  b2 : w.heap[p + 2]? = some (.cells #[.int .i64 1] 3)
  b3 : w.heap[p + 3]? = some (.cells #[.int .i64 la] 3)
theorem Boxes.gr {p : Nat} {x y z a b c : Value} {la : Int} {w w' : World} (h : Boxes p x y z a b c la w) (g : Gr w w') : Boxes p x y z a b c la w' :=
  ⟨g.same _ _ h.b0 rfl, g.same _ _ h.b1 rfl, g.same _ _ h.b2 rfl, g.same _ _ h.b3 rfl⟩
theorem Boxes.others {p k : Nat} {x y z a b c : Value} {la : Int} {w w' : World} (h : Boxes p x y z a b c la w) (hk : k < p) (g : Lib.OthersKept 5 (some k) w w') : Boxes p x y z a b c la w' := by
  refine ⟨g _ _ h.b0 ?_ ?_, g _ _ h.b1 ?_ ?_, g _ _ h.b2 ?_ ?_, g _ _ h.b3 ?_ ?_⟩
  all_goals first
    | (intro e; injection e with e; omega)
    | (intro c fz e; injection e with _ e; exact absurd e (by decide))
theorem range1 {w : World} {b : Nat} {c1 : Value} {t : TypeId} (h : w.heap[b]? = some (.cells #[c1] t)) : heldC w (b, 0) [c1] := by
  refine ⟨fun j v hv => ?_, (Array.getElem?_eq_some_iff.1 h).1⟩
  have hj : j < 1 := by simpa using (List.getElem?_eq_some_iff.1 hv).1
  obtain rfl : j = 0 := by omega
  simp at hv
  subst hv
  simp [World.cell?, h]
theorem range3 {w : World} {b : Nat} {c1 c2 c3 : Value} {t : TypeId} (h : w.heap[b]? = some (.cells #[c1, c2, c3] t)) : heldC w (b, 0) [c1, c2, c3] := by
  refine ⟨fun j v hv => ?_, (Array.getElem?_eq_some_iff.1 h).1⟩
  have hj : j < 3 := by simpa using (List.getElem?_eq_some_iff.1 hv).1
  have hj3 : j = 0 ∨ j = 1 ∨ j = 2 := by omega
  rcases hj3 with rfl | rfl | rfl <;> (simp at hv; subst hv; simp [World.cell?, h])
theorem Boxes.held {p last : Nat} {x y z : UInt8} {a b c : List UInt8} {w : World} (h : Boxes p (.int .u8 (B8 x)) (.int .u8 (B8 y)) (.int .u8 (B8 z)) (.string ⟨a.toArray⟩) (.string ⟨b.toArray⟩) (.string ⟨c.toArray⟩) last w) : Held (p + 2, 0) (p + 3, 0) (p, 0) (p + 1, 0) last x y z a b c w :=
  ⟨range1 h.b2, range1 h.b3, range3 h.b0, range3 h.b1⟩
theorem boxes_new (w : World) (x y z a b c : Value) (la : Int) : Boxes w.heap.size x y z a b c la ((((w.alloc (.cells #[x, y, z] 40)).alloc (.cells #[a, b, c] 46)).alloc (.cells #[.int .i64 1] 3)).alloc (.cells #[.int .i64 la] 3)) := by
  have s1 : ∀ (w : World) (o : Obj), (w.alloc o).heap.size = w.heap.size + 1 := fun w o => by simp
  have e0 : ∀ (w : World) (o : Obj), (w.alloc o).heap[w.heap.size]? = some o := fun w o => World.alloc_heap_new w o
  have e1 : ∀ (w : World) (o : Obj) (k : Nat), k < w.heap.size → (w.alloc o).heap[k]? = w.heap[k]? := fun w o k hk => Below.heap_alloc w o k hk
  refine ⟨?_, ?_, ?_, ?_⟩
  · rw [e1 _ _ _ (by simp only [s1]; omega), e1 _ _ _ (by simp only [s1]; omega), e1 _ _ _ (by simp only [s1]; omega), e0]
  · rw [e1 _ _ _ (by simp only [s1]; omega), e1 _ _ _ (by simp only [s1]; omega)]; have := e0 (w.alloc (.cells #[x, y, z] 40)) (.cells #[a, b, c] 46); rwa [s1] at this
  · rw [e1 _ _ _ (by simp only [s1]; omega)]; have := e0 ((w.alloc (.cells #[x, y, z] 40)).alloc (.cells #[a, b, c] 46)) (.cells #[.int .i64 1] 3); rwa [s1, s1] at this
  · have := e0 (((w.alloc (.cells #[x, y, z] 40)).alloc (.cells #[a, b, c] 46)).alloc (.cells #[.int .i64 1] 3)) (.cells #[.int .i64 la] 3); rwa [s1, s1, s1] at this
end Go.Proofs.Ytoibnghkcdopeaa.V
end
section
namespace Go.Proofs.Ytoibnghkcdopeaa.V
open Go Go.RowKit
section
variable {P : Program} {ops : Array Oper} {k js : Nat} {perm : List Nat} {K : VS → Prop}
theorem regionG {S : VS} (hm : P.follows .mixedOrders = true) (hfr : ∀ m, S.nx ≤ m → S.hp m = none) (hok : drawOk2 ops k perm js perm.length = true) (hjk : js < k) (m : Nat) (hmn : m < S.nx)
    (h : vheld P ops.toList (picks ops.toList perm) S.tm S.hp S.nx fun tm H _ => cnd (H = S.hp) (storeAt P m (ev tm) S.hp (fun G => vheld P ops.toList (picks ops.toList perm) S.tm G S.nx fun tm' H' _ => cnd (tm' = tm ∧ H' = G) (vlist P ops.toList (ops.toList.drop k) ⟨tm, G, S.nx + 64 * k⟩ K)) ops[js]?)) : vdraw P ops S K := by
  have hok' := hok
  unfold drawOk2 at hok'
  simp only [Bool.and_eq_true,decide_eq_true_eq] at hok'
  obtain ⟨⟨⟨⟨⟨⟨⟨⟨⟨hk9, hpl⟩, hone⟩, hpk⟩, hun⟩, hall⟩, hbk⟩, hrd⟩, hst⟩, htl⟩ := hok'
  have hk := hk9.1
  obtain ⟨tmF, G1, k1, k2, k3, k4⟩ := held2 (ops := ops) _ S.tm S.hp S.nx hone hfr h
  obtain ⟨e1, k1⟩ := k1
  have hst' : opD ops js (fun o => isSt o.op) = true := by
    simp only [Bool.or_eq_true,decide_eq_true_eq] at hst
    rcases hst with h | h
    · omega
    · obtain ⟨o, ho, h⟩ := opD_some h
      simp only [Bool.and_eq_true] at h
      unfold opD
      rw [ho]
      exact h.1.1.2
  obtain ⟨o, ho, hs⟩ := opD_some hst'
  rw [ho] at k1
  cases hop : o.op <;> rw [hop] at hs <;> simp only [isSt,Bool.false_eq_true] at hs
  rename_i t y x
  obtain ⟨b, g1, g2⟩ := storeAt_some hop k1
  obtain ⟨tmG, G2, ⟨⟨et, eH⟩, l1⟩, l2, l3, l4⟩ := held2 (ops := ops) _ S.tm (upd S.hp m (some b)) S.nx hone (fun m' hm' => by rw [upd_ap, if_neg (by omega)]; exact hfr m' hm') g1
  subst et
  refine region2 hm hfr hok (GA := S.hp) (GB := upd S.hp m (some b)) k2 (fun m' hm' => rfl) (fun q o ho => ?_) (fun q o ho hq => ?_) (fun h => by omega) (fun _ o' t' y' x' ho' hop' => ?_) l1
  · obtain ⟨Hq, q1, q2, q3, q4⟩ := k4 q o ho
    rw [← e1]
    exact q4 G1 q3
  · obtain ⟨Hq, q1, q2, q3, q4⟩ := l4 q o ho
    rw [← eH]
    exact q4 G2 q3
  · rw [ho] at ho'; injection ho' with ho'; subst ho'
    rw [hop] at hop'; injection hop' with e1 e2 e3
    subst e1 e2 e3
    exact g2
end
section
variable {P : Program} {n0 : Nat} {K : VX → VS → Prop}
theorem ok_drawG {id : Nat} {l : List Oper} {tm : Nat → VV} {H : Heap} {n : Nat} (k : Nat) (perm : List Nat) (js m : Nat) (hm : P.follows .mixedOrders = true) (hd : drawOk2 l.toArray k perm js perm.length = true) (hjk : js < k) (hmn : m < n) (hfr : ∀ m, n ≤ m → H m = none)
    (h : ∀ M : VS → Prop, (∀ S, K .normal S → M S) → vh P l (picks l perm) tm H n fun tm2 H2 _ => cnd (H2 = H) (storeAt P m (ev tm2) H (fun G => vh P l (picks l perm) tm G n fun tm' H' _ => cnd (tm' = tm2 ∧ H' = G) (vl P l (l.drop k) ⟨tm2, G, n + 64 * k⟩ M)) l[js]?)) : Ok P n0 (.region id l.toArray true) ⟨tm, H, n⟩ K := fun N B ρ0 w0 Q a w ρ h0 hok hS next => by
  simp only [codeOk,List.all_eq_true] at hok
  exact regionG (S := ⟨tm, H, n⟩) hm hfr hd hjk m hmn (by simpa only [vh_def,vl_def,List.getElem?_toArray] using h _ fun _ h => h) id N B ρ0 w0 Q a w ρ (fun o ho t ht => by have := hok o ho; rw [ht] at this; simpa using this) hS.tm hS.defers hS.size hS.heap hS.below hS.ext
    fun S' a' w' ρ' hk h1 h2 h3 h4 h5 h6 => next .normal S' a' w' ρ' hk ⟨h1, h2, h3, h4, h5, h6⟩
end
end Go.Proofs.Ytoibnghkcdopeaa.V
end
