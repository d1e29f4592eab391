/-
  Parts of the proof of WalSwaps: H2, H3, H4, H5, H6, H7, H8.
  Conditions: none.
-/
import Derived.Test.YtcilmfhncjfdbaaDoorWWalSwaps05
section
/-
  HASH, part 2: words turned, and four words mixed, by the document and by the program.
-/
set_option linter.unusedVariables false
set_option linter.unusedSimpArgs false
namespace Go.Proofs.YtcilmfhncjfdbaaDoor.V
open Go
set_option maxRecDepth 100000
-- nlx: nls_VW
set_option maxHeartbeats 4000000
theorem turned16 (x : W32) : Spec Tryd.prog 82 [.int .u32 (x.toNat : Int), .int .u64 16] (.int .u32 ((rot 16 x).toNat : Int)) := by
  have s1 := w_shr x 16 (by decide)
  have s2 := w_shl x 16 (by decide)
  have e1 : ((32 : Int) - 16).toNat = 16 := rfl
  have r1 : x >>> 16 ||| x <<< 16 = rot 16 x := rfl
  refine spec_ok Tryd.func82 rfl rfl (by kernel_rfl) (k := 2) rfl (by decide) ?_
  repeat' (first|(with_reducible first|refine yrl (by constructor) ?_|refine jk (fun M hM=>?_)|(refine hM _ ?_;clear hM M)|refine xb3 (by decide) ?_|refine yqa (by assumption) ?_ ?_|refine yqb (by assumption) ?_ ?_)|((with_reducible refine je ?_)<;>(first|rfl|assumption|(simp only [znl,nls_VW];(first|done|fail))))|(with_reducible refine jf (by (simp only [↓reduceIte,zlk,Nat.reduceEqDiff,reduceCtorEq]);exact rfl) ?_)|((with_reducible first|refine jg (fun hc=>?_) (fun hc=>?_)|refine jh (fun hc=>?_) (fun hc=>?_))<;>(try simp (disch:=omega) only [zhb] at hc)<;>(try (exfalso;omega))<;>(try subst hc))|(with_reducible refine ji (by omega) ?_)|(simp (config := { maxSteps := 400000 }) only [↓jt,↓reduceIte,zvs,reduceCtorEq,Nat.reduceEqDiff,Nat.reduceAdd,Nat.reduceLeDiff,Nat.reduceMul,Int.reduceBNe,Int.reduceBEq,Int.reduceEq,Int.reduceNe,Int.reduceLT,Int.reduceLE,Int.reduceGT,Int.reduceGE,Int.reduceNeg,Int.reduceToNat,Nat.reduceLT,Nat.reduceSub,tab,e1,s1,s2,r1,w_or,Tryd.results82,List.toList_toArray])|(simp (disch:=omega) only [ziw]))
  simp only [zrds]
theorem rotl16 (x : W32) : Spec Tryd.prog 85 [.int .u32 (x.toNat : Int), .int .i64 (-16)] (.int .u32 ((rot 16 x).toNat : Int)) := by
  have s1 := w_shr x 16 (by decide)
  have s2 := w_shl x 16 (by decide)
  have e0 : bits .and .u64 (IntKind.u64.wrap (-16)) 31 = 16 := by decide
  have e1 : ((32 : Int) - 16).toNat = 16 := rfl
  have r1 : x <<< 16 ||| x >>> 16 = rot 16 x := rot_or x 16 16 rfl
  refine spec_ok Tryd.func85 rfl rfl (by kernel_rfl) (k := 2) rfl (by decide) ?_
  repeat' (first|(with_reducible first|refine yrl (by constructor) ?_|refine jk (fun M hM=>?_)|(refine hM _ ?_;clear hM M)|refine xb3 (by decide) ?_|refine yqa (by assumption) ?_ ?_|refine yqb (by assumption) ?_ ?_)|((with_reducible refine je ?_)<;>(first|rfl|assumption|(simp only [znl,nls_VW];(first|done|fail))))|(with_reducible refine jf (by (simp only [↓reduceIte,zlk,Nat.reduceEqDiff,reduceCtorEq]);exact rfl) ?_)|((with_reducible first|refine jg (fun hc=>?_) (fun hc=>?_)|refine jh (fun hc=>?_) (fun hc=>?_))<;>(try simp (disch:=omega) only [zhb] at hc)<;>(try (exfalso;omega))<;>(try subst hc))|(with_reducible refine ji (by omega) ?_)|(simp (config := { maxSteps := 400000 }) only [↓jt,↓reduceIte,zvs,reduceCtorEq,Nat.reduceEqDiff,Nat.reduceAdd,Nat.reduceLeDiff,Nat.reduceMul,Int.reduceBNe,Int.reduceBEq,Int.reduceEq,Int.reduceNe,Int.reduceLT,Int.reduceLE,Int.reduceGT,Int.reduceGE,Int.reduceNeg,Int.reduceToNat,Nat.reduceLT,Nat.reduceSub,tab,e0,e1,s1,s2,r1,w_or,Tryd.results85,List.toList_toArray])|(simp (disch:=omega) only [ziw]))
  simp only [zrds]
theorem turned12 (x : W32) : Spec Tryd.prog 82 [.int .u32 (x.toNat : Int), .int .u64 12] (.int .u32 ((rot 12 x).toNat : Int)) := by
  have s1 := w_shr x 12 (by decide)
  have s2 := w_shl x 20 (by decide)
  have e1 : ((32 : Int) - 12).toNat = 20 := rfl
  have r1 : x >>> 12 ||| x <<< 20 = rot 12 x := rfl
  refine spec_ok Tryd.func82 rfl rfl (by kernel_rfl) (k := 2) rfl (by decide) ?_
  repeat' (first|(with_reducible first|refine yrl (by constructor) ?_|refine jk (fun M hM=>?_)|(refine hM _ ?_;clear hM M)|refine xb3 (by decide) ?_|refine yqa (by assumption) ?_ ?_|refine yqb (by assumption) ?_ ?_)|((with_reducible refine je ?_)<;>(first|rfl|assumption|(simp only [znl,nls_VW];(first|done|fail))))|(with_reducible refine jf (by (simp only [↓reduceIte,zlk,Nat.reduceEqDiff,reduceCtorEq]);exact rfl) ?_)|((with_reducible first|refine jg (fun hc=>?_) (fun hc=>?_)|refine jh (fun hc=>?_) (fun hc=>?_))<;>(try simp (disch:=omega) only [zhb] at hc)<;>(try (exfalso;omega))<;>(try subst hc))|(with_reducible refine ji (by omega) ?_)|(simp (config := { maxSteps := 400000 }) only [↓jt,↓reduceIte,zvs,reduceCtorEq,Nat.reduceEqDiff,Nat.reduceAdd,Nat.reduceLeDiff,Nat.reduceMul,Int.reduceBNe,Int.reduceBEq,Int.reduceEq,Int.reduceNe,Int.reduceLT,Int.reduceLE,Int.reduceGT,Int.reduceGE,Int.reduceNeg,Int.reduceToNat,Nat.reduceLT,Nat.reduceSub,tab,e1,s1,s2,r1,w_or,Tryd.results82,List.toList_toArray])|(simp (disch:=omega) only [ziw]))
  simp only [zrds]
theorem rotl12 (x : W32) : Spec Tryd.prog 85 [.int .u32 (x.toNat : Int), .int .i64 (-12)] (.int .u32 ((rot 12 x).toNat : Int)) := by
  have s1 := w_shr x 12 (by decide)
  have s2 := w_shl x 20 (by decide)
  have e0 : bits .and .u64 (IntKind.u64.wrap (-12)) 31 = 20 := by decide
  have e1 : ((32 : Int) - 20).toNat = 12 := rfl
  have r1 : x <<< 20 ||| x >>> 12 = rot 12 x := rot_or x 12 20 rfl
  refine spec_ok Tryd.func85 rfl rfl (by kernel_rfl) (k := 2) rfl (by decide) ?_
  repeat' (first|(with_reducible first|refine yrl (by constructor) ?_|refine jk (fun M hM=>?_)|(refine hM _ ?_;clear hM M)|refine xb3 (by decide) ?_|refine yqa (by assumption) ?_ ?_|refine yqb (by assumption) ?_ ?_)|((with_reducible refine je ?_)<;>(first|rfl|assumption|(simp only [znl,nls_VW];(first|done|fail))))|(with_reducible refine jf (by (simp only [↓reduceIte,zlk,Nat.reduceEqDiff,reduceCtorEq]);exact rfl) ?_)|((with_reducible first|refine jg (fun hc=>?_) (fun hc=>?_)|refine jh (fun hc=>?_) (fun hc=>?_))<;>(try simp (disch:=omega) only [zhb] at hc)<;>(try (exfalso;omega))<;>(try subst hc))|(with_reducible refine ji (by omega) ?_)|(simp (config := { maxSteps := 400000 }) only [↓jt,↓reduceIte,zvs,reduceCtorEq,Nat.reduceEqDiff,Nat.reduceAdd,Nat.reduceLeDiff,Nat.reduceMul,Int.reduceBNe,Int.reduceBEq,Int.reduceEq,Int.reduceNe,Int.reduceLT,Int.reduceLE,Int.reduceGT,Int.reduceGE,Int.reduceNeg,Int.reduceToNat,Nat.reduceLT,Nat.reduceSub,tab,e0,e1,s1,s2,r1,w_or,Tryd.results85,List.toList_toArray])|(simp (disch:=omega) only [ziw]))
  simp only [zrds]
theorem turned8 (x : W32) : Spec Tryd.prog 82 [.int .u32 (x.toNat : Int), .int .u64 8] (.int .u32 ((rot 8 x).toNat : Int)) := by
  have s1 := w_shr x 8 (by decide)
  have s2 := w_shl x 24 (by decide)
  have e1 : ((32 : Int) - 8).toNat = 24 := rfl
  have r1 : x >>> 8 ||| x <<< 24 = rot 8 x := rfl
  refine spec_ok Tryd.func82 rfl rfl (by kernel_rfl) (k := 2) rfl (by decide) ?_
  repeat' (first|(with_reducible first|refine yrl (by constructor) ?_|refine jk (fun M hM=>?_)|(refine hM _ ?_;clear hM M)|refine xb3 (by decide) ?_|refine yqa (by assumption) ?_ ?_|refine yqb (by assumption) ?_ ?_)|((with_reducible refine je ?_)<;>(first|rfl|assumption|(simp only [znl,nls_VW];(first|done|fail))))|(with_reducible refine jf (by (simp only [↓reduceIte,zlk,Nat.reduceEqDiff,reduceCtorEq]);exact rfl) ?_)|((with_reducible first|refine jg (fun hc=>?_) (fun hc=>?_)|refine jh (fun hc=>?_) (fun hc=>?_))<;>(try simp (disch:=omega) only [zhb] at hc)<;>(try (exfalso;omega))<;>(try subst hc))|(with_reducible refine ji (by omega) ?_)|(simp (config := { maxSteps := 400000 }) only [↓jt,↓reduceIte,zvs,reduceCtorEq,Nat.reduceEqDiff,Nat.reduceAdd,Nat.reduceLeDiff,Nat.reduceMul,Int.reduceBNe,Int.reduceBEq,Int.reduceEq,Int.reduceNe,Int.reduceLT,Int.reduceLE,Int.reduceGT,Int.reduceGE,Int.reduceNeg,Int.reduceToNat,Nat.reduceLT,Nat.reduceSub,tab,e1,s1,s2,r1,w_or,Tryd.results82,List.toList_toArray])|(simp (disch:=omega) only [ziw]))
  simp only [zrds]
theorem rotl8 (x : W32) : Spec Tryd.prog 85 [.int .u32 (x.toNat : Int), .int .i64 (-8)] (.int .u32 ((rot 8 x).toNat : Int)) := by
  have s1 := w_shr x 8 (by decide)
  have s2 := w_shl x 24 (by decide)
  have e0 : bits .and .u64 (IntKind.u64.wrap (-8)) 31 = 24 := by decide
  have e1 : ((32 : Int) - 24).toNat = 8 := rfl
  have r1 : x <<< 24 ||| x >>> 8 = rot 8 x := rot_or x 8 24 rfl
  refine spec_ok Tryd.func85 rfl rfl (by kernel_rfl) (k := 2) rfl (by decide) ?_
  repeat' (first|(with_reducible first|refine yrl (by constructor) ?_|refine jk (fun M hM=>?_)|(refine hM _ ?_;clear hM M)|refine xb3 (by decide) ?_|refine yqa (by assumption) ?_ ?_|refine yqb (by assumption) ?_ ?_)|((with_reducible refine je ?_)<;>(first|rfl|assumption|(simp only [znl,nls_VW];(first|done|fail))))|(with_reducible refine jf (by (simp only [↓reduceIte,zlk,Nat.reduceEqDiff,reduceCtorEq]);exact rfl) ?_)|((with_reducible first|refine jg (fun hc=>?_) (fun hc=>?_)|refine jh (fun hc=>?_) (fun hc=>?_))<;>(try simp (disch:=omega) only [zhb] at hc)<;>(try (exfalso;omega))<;>(try subst hc))|(with_reducible refine ji (by omega) ?_)|(simp (config := { maxSteps := 400000 }) only [↓jt,↓reduceIte,zvs,reduceCtorEq,Nat.reduceEqDiff,Nat.reduceAdd,Nat.reduceLeDiff,Nat.reduceMul,Int.reduceBNe,Int.reduceBEq,Int.reduceEq,Int.reduceNe,Int.reduceLT,Int.reduceLE,Int.reduceGT,Int.reduceGE,Int.reduceNeg,Int.reduceToNat,Nat.reduceLT,Nat.reduceSub,tab,e0,e1,s1,s2,r1,w_or,Tryd.results85,List.toList_toArray])|(simp (disch:=omega) only [ziw]))
  simp only [zrds]
theorem turned7 (x : W32) : Spec Tryd.prog 82 [.int .u32 (x.toNat : Int), .int .u64 7] (.int .u32 ((rot 7 x).toNat : Int)) := by
  have s1 := w_shr x 7 (by decide)
  have s2 := w_shl x 25 (by decide)
  have e1 : ((32 : Int) - 7).toNat = 25 := rfl
  have r1 : x >>> 7 ||| x <<< 25 = rot 7 x := rfl
  refine spec_ok Tryd.func82 rfl rfl (by kernel_rfl) (k := 2) rfl (by decide) ?_
  repeat' (first|(with_reducible first|refine yrl (by constructor) ?_|refine jk (fun M hM=>?_)|(refine hM _ ?_;clear hM M)|refine xb3 (by decide) ?_|refine yqa (by assumption) ?_ ?_|refine yqb (by assumption) ?_ ?_)|((with_reducible refine je ?_)<;>(first|rfl|assumption|(simp only [znl,nls_VW];(first|done|fail))))|(with_reducible refine jf (by (simp only [↓reduceIte,zlk,Nat.reduceEqDiff,reduceCtorEq]);exact rfl) ?_)|((with_reducible first|refine jg (fun hc=>?_) (fun hc=>?_)|refine jh (fun hc=>?_) (fun hc=>?_))<;>(try simp (disch:=omega) only [zhb] at hc)<;>(try (exfalso;omega))<;>(try subst hc))|(with_reducible refine ji (by omega) ?_)|(simp (config := { maxSteps := 400000 }) only [↓jt,↓reduceIte,zvs,reduceCtorEq,Nat.reduceEqDiff,Nat.reduceAdd,Nat.reduceLeDiff,Nat.reduceMul,Int.reduceBNe,Int.reduceBEq,Int.reduceEq,Int.reduceNe,Int.reduceLT,Int.reduceLE,Int.reduceGT,Int.reduceGE,Int.reduceNeg,Int.reduceToNat,Nat.reduceLT,Nat.reduceSub,tab,e1,s1,s2,r1,w_or,Tryd.results82,List.toList_toArray])|(simp (disch:=omega) only [ziw]))
  simp only [zrds]
theorem rotl7 (x : W32) : Spec Tryd.prog 85 [.int .u32 (x.toNat : Int), .int .i64 (-7)] (.int .u32 ((rot 7 x).toNat : Int)) := by
  have s1 := w_shr x 7 (by decide)
  have s2 := w_shl x 25 (by decide)
  have e0 : bits .and .u64 (IntKind.u64.wrap (-7)) 31 = 25 := by decide
  have e1 : ((32 : Int) - 25).toNat = 7 := rfl
  have r1 : x <<< 25 ||| x >>> 7 = rot 7 x := rot_or x 7 25 rfl
  refine spec_ok Tryd.func85 rfl rfl (by kernel_rfl) (k := 2) rfl (by decide) ?_
  repeat' (first|(with_reducible first|refine yrl (by constructor) ?_|refine jk (fun M hM=>?_)|(refine hM _ ?_;clear hM M)|refine xb3 (by decide) ?_|refine yqa (by assumption) ?_ ?_|refine yqb (by assumption) ?_ ?_)|((with_reducible refine je ?_)<;>(first|rfl|assumption|(simp only [znl,nls_VW];(first|done|fail))))|(with_reducible refine jf (by (simp only [↓reduceIte,zlk,Nat.reduceEqDiff,reduceCtorEq]);exact rfl) ?_)|((with_reducible first|refine jg (fun hc=>?_) (fun hc=>?_)|refine jh (fun hc=>?_) (fun hc=>?_))<;>(try simp (disch:=omega) only [zhb] at hc)<;>(try (exfalso;omega))<;>(try subst hc))|(with_reducible refine ji (by omega) ?_)|(simp (config := { maxSteps := 400000 }) only [↓jt,↓reduceIte,zvs,reduceCtorEq,Nat.reduceEqDiff,Nat.reduceAdd,Nat.reduceLeDiff,Nat.reduceMul,Int.reduceBNe,Int.reduceBEq,Int.reduceEq,Int.reduceNe,Int.reduceLT,Int.reduceLE,Int.reduceGT,Int.reduceGE,Int.reduceNeg,Int.reduceToNat,Nat.reduceLT,Nat.reduceSub,tab,e0,e1,s1,s2,r1,w_or,Tryd.results85,List.toList_toArray])|(simp (disch:=omega) only [ziw]))
  simp only [zrds]
def ix (a : Int) : Prop := 0 ≤ a ∧ a < 16
theorem rmix_spec (v : Nat → W32) (a b c d : Int) (ha : ix a) (hb : ix b) (hc : ix c) (hd : ix d) (x y : W32) : Spec Tryd.prog 75 [.agg (VW 16 v), .int .i64 a, .int .i64 b, .int .i64 c, .int .i64 d, .int .u32 (x.toNat : Int), .int .u32 (y.toNat : Int)] (.agg (VW 16 (mixF v a.toNat b.toNat c.toNat d.toNat x y))) := by
  obtain ⟨ha1, ha2⟩ := ha
  obtain ⟨hb1, hb2⟩ := hb
  obtain ⟨hc1, hc2⟩ := hc
  obtain ⟨hd1, hd2⟩ := hd
  have hH : ∀ u, Has (.arr 16 .cell) (.agg (VW 16 u)) := has_VW 16
  have ga : ∀ u, (VW 16 u)[a.toNat]? = some (.int .u32 ((u a.toNat).toNat : Int)) := fun u => VW_get (by omega)
  have gb : ∀ u, (VW 16 u)[b.toNat]? = some (.int .u32 ((u b.toNat).toNat : Int)) := fun u => VW_get (by omega)
  have gc : ∀ u, (VW 16 u)[c.toNat]? = some (.int .u32 ((u c.toNat).toNat : Int)) := fun u => VW_get (by omega)
  have gd : ∀ u, (VW 16 u)[d.toNat]? = some (.int .u32 ((u d.toNat).toNat : Int)) := fun u => VW_get (by omega)
  refine spec_ok Tryd.func75 rfl rfl (by kernel_rfl) (k := 7) rfl (by decide) ?_
  repeat' (first|(with_reducible first|refine yrl (by constructor) ?_|refine jk (fun M hM=>?_)|(refine hM _ ?_;clear hM M)|refine xb3 (by decide) ?_|refine yqa (by assumption) ?_ ?_|refine yqb (by assumption) ?_ ?_)|((with_reducible refine je ?_)<;>(first|rfl|assumption|(simp only [znl,nls_VW];(first|done|fail))))|(with_reducible refine jf (by (simp only [↓reduceIte,zlk,Nat.reduceEqDiff,reduceCtorEq]);exact rfl) ?_)|((with_reducible first|refine jg (fun hc=>?_) (fun hc=>?_)|refine jh (fun hc=>?_) (fun hc=>?_))<;>(try simp (disch:=omega) only [zhb] at hc)<;>(try (exfalso;omega))<;>(try subst hc))|(with_reducible refine ji (by omega) ?_)|(simp (config := { maxSteps := 400000 }) only [↓jt,↓reduceIte,zvs,reduceCtorEq,Nat.reduceEqDiff,Nat.reduceAdd,Nat.reduceLeDiff,Nat.reduceMul,Int.reduceBNe,Int.reduceBEq,Int.reduceEq,Int.reduceNe,Int.reduceLT,Int.reduceLE,Int.reduceGT,Int.reduceGE,Int.reduceNeg,Int.reduceToNat,Nat.reduceLT,Nat.reduceSub,tab,hH,VW_len,Tryd.results75,List.toList_toArray])|(simp (disch:=omega) only [ziw]))
  refine ok_drawC 11 (by kernel_rfl) (by decide +kernel) (by intro m hm; simp only [upd_ap,rows_cons,rows_nil]; (repeat (first | rfl | rw [if_neg (by omega)]))) (fun M hM => ?_); simp only [List.take_succ_cons,List.take_zero,List.drop_succ_cons,List.drop_zero]
  repeat' (first|(with_reducible first|refine yrl (by constructor) ?_|refine jk (fun M hM=>?_)|(refine hM _ ?_;clear hM M)|refine xb3 (by decide) ?_|refine yqa (by assumption) ?_ ?_|refine yqb (by assumption) ?_ ?_)|((with_reducible refine je ?_)<;>(first|rfl|assumption|(simp only [znl,nls_VW];(first|done|fail))))|(with_reducible refine jf (by (simp only [↓reduceIte,zlk,Nat.reduceEqDiff,reduceCtorEq]);exact rfl) ?_)|((with_reducible first|refine jg (fun hc=>?_) (fun hc=>?_)|refine jh (fun hc=>?_) (fun hc=>?_))<;>(try simp (disch:=omega) only [zhb] at hc)<;>(try (exfalso;omega))<;>(try subst hc))|(with_reducible refine ji (by omega) ?_)|(simp (config := { maxSteps := 400000 }) only [↓jt,↓reduceIte,zvs,reduceCtorEq,Nat.reduceEqDiff,Nat.reduceAdd,Nat.reduceLeDiff,Nat.reduceMul,Int.reduceBNe,Int.reduceBEq,Int.reduceEq,Int.reduceNe,Int.reduceLT,Int.reduceLE,Int.reduceGT,Int.reduceGE,Int.reduceNeg,Int.reduceToNat,Nat.reduceLT,Nat.reduceSub,tab,hH,VW_len,ga,gb,gc,gd,w_add,w_xor,VW_sA2,VW_sC,VW_sD,Tryd.results75,List.toList_toArray])|(simp (disch:=omega) only [ziw]))
  refine ok_drawC 10 (by kernel_rfl) (by decide +kernel) (by intro m hm; simp only [upd_ap,rows_cons,rows_nil]; (repeat (first | rfl | rw [if_neg (by omega)]))) (fun M hM => ?_); simp only [List.take_succ_cons,List.take_zero,List.drop_succ_cons,List.drop_zero]
  repeat' (first|(with_reducible first|refine yrl (by constructor) ?_|refine jk (fun M hM=>?_)|(refine hM _ ?_;clear hM M)|refine xb3 (by decide) ?_|refine yqa (by assumption) ?_ ?_|refine yqb (by assumption) ?_ ?_)|((with_reducible refine je ?_)<;>(first|rfl|assumption|(simp only [znl,nls_VW];(first|done|fail))))|(with_reducible refine jf (by (simp only [↓reduceIte,zlk,Nat.reduceEqDiff,reduceCtorEq]);exact rfl) ?_)|((with_reducible first|refine jg (fun hc=>?_) (fun hc=>?_)|refine jh (fun hc=>?_) (fun hc=>?_))<;>(try simp (disch:=omega) only [zhb] at hc)<;>(try (exfalso;omega))<;>(try subst hc))|(with_reducible refine ji (by omega) ?_)|(simp (config := { maxSteps := 400000 }) only [↓jt,↓reduceIte,zvs,reduceCtorEq,Nat.reduceEqDiff,Nat.reduceAdd,Nat.reduceLeDiff,Nat.reduceMul,Int.reduceBNe,Int.reduceBEq,Int.reduceEq,Int.reduceNe,Int.reduceLT,Int.reduceLE,Int.reduceGT,Int.reduceGE,Int.reduceNeg,Int.reduceToNat,Nat.reduceLT,Nat.reduceSub,tab,hH,VW_len,ga,gb,gc,gd,w_add,w_xor,VW_sA2,VW_sC,VW_sD,Tryd.results75,List.toList_toArray])|(simp (disch:=omega) only [ziw]))
  refine jb (jd (turned16 _) rfl (by first|rfl|assumption|(simp only [znl,nls_VW];(first|done|fail)))) ?_
  repeat' (first|(with_reducible first|refine yrl (by constructor) ?_|refine jk (fun M hM=>?_)|(refine hM _ ?_;clear hM M)|refine xb3 (by decide) ?_|refine yqa (by assumption) ?_ ?_|refine yqb (by assumption) ?_ ?_)|((with_reducible refine je ?_)<;>(first|rfl|assumption|(simp only [znl,nls_VW];(first|done|fail))))|(with_reducible refine jf (by (simp only [↓reduceIte,zlk,Nat.reduceEqDiff,reduceCtorEq]);exact rfl) ?_)|((with_reducible first|refine jg (fun hc=>?_) (fun hc=>?_)|refine jh (fun hc=>?_) (fun hc=>?_))<;>(try simp (disch:=omega) only [zhb] at hc)<;>(try (exfalso;omega))<;>(try subst hc))|(with_reducible refine ji (by omega) ?_)|(simp (config := { maxSteps := 400000 }) only [↓jt,↓reduceIte,zvs,reduceCtorEq,Nat.reduceEqDiff,Nat.reduceAdd,Nat.reduceLeDiff,Nat.reduceMul,Int.reduceBNe,Int.reduceBEq,Int.reduceEq,Int.reduceNe,Int.reduceLT,Int.reduceLE,Int.reduceGT,Int.reduceGE,Int.reduceNeg,Int.reduceToNat,Nat.reduceLT,Nat.reduceSub,tab,hH,VW_len,ga,gb,gc,gd,w_add,w_xor,VW_sA2,VW_sC,VW_sD,Tryd.results75,List.toList_toArray])|(simp (disch:=omega) only [ziw]))
  refine ok_drawC 9 (by kernel_rfl) (by decide +kernel) (by intro m hm; simp only [upd_ap,rows_cons,rows_nil]; (repeat (first | rfl | rw [if_neg (by omega)]))) (fun M hM => ?_); simp only [List.take_succ_cons,List.take_zero,List.drop_succ_cons,List.drop_zero]
  repeat' (first|(with_reducible first|refine yrl (by constructor) ?_|refine jk (fun M hM=>?_)|(refine hM _ ?_;clear hM M)|refine xb3 (by decide) ?_|refine yqa (by assumption) ?_ ?_|refine yqb (by assumption) ?_ ?_)|((with_reducible refine je ?_)<;>(first|rfl|assumption|(simp only [znl,nls_VW];(first|done|fail))))|(with_reducible refine jf (by (simp only [↓reduceIte,zlk,Nat.reduceEqDiff,reduceCtorEq]);exact rfl) ?_)|((with_reducible first|refine jg (fun hc=>?_) (fun hc=>?_)|refine jh (fun hc=>?_) (fun hc=>?_))<;>(try simp (disch:=omega) only [zhb] at hc)<;>(try (exfalso;omega))<;>(try subst hc))|(with_reducible refine ji (by omega) ?_)|(simp (config := { maxSteps := 400000 }) only [↓jt,↓reduceIte,zvs,reduceCtorEq,Nat.reduceEqDiff,Nat.reduceAdd,Nat.reduceLeDiff,Nat.reduceMul,Int.reduceBNe,Int.reduceBEq,Int.reduceEq,Int.reduceNe,Int.reduceLT,Int.reduceLE,Int.reduceGT,Int.reduceGE,Int.reduceNeg,Int.reduceToNat,Nat.reduceLT,Nat.reduceSub,tab,hH,VW_len,ga,gb,gc,gd,w_add,w_xor,VW_sA2,VW_sC,VW_sD,Tryd.results75,List.toList_toArray])|(simp (disch:=omega) only [ziw]))
  refine ok_drawC 10 (by kernel_rfl) (by decide +kernel) (by intro m hm; simp only [upd_ap,rows_cons,rows_nil]; (repeat (first | rfl | rw [if_neg (by omega)]))) (fun M hM => ?_); simp only [List.take_succ_cons,List.take_zero,List.drop_succ_cons,List.drop_zero]
  repeat' (first|(with_reducible first|refine yrl (by constructor) ?_|refine jk (fun M hM=>?_)|(refine hM _ ?_;clear hM M)|refine xb3 (by decide) ?_|refine yqa (by assumption) ?_ ?_|refine yqb (by assumption) ?_ ?_)|((with_reducible refine je ?_)<;>(first|rfl|assumption|(simp only [znl,nls_VW];(first|done|fail))))|(with_reducible refine jf (by (simp only [↓reduceIte,zlk,Nat.reduceEqDiff,reduceCtorEq]);exact rfl) ?_)|((with_reducible first|refine jg (fun hc=>?_) (fun hc=>?_)|refine jh (fun hc=>?_) (fun hc=>?_))<;>(try simp (disch:=omega) only [zhb] at hc)<;>(try (exfalso;omega))<;>(try subst hc))|(with_reducible refine ji (by omega) ?_)|(simp (config := { maxSteps := 400000 }) only [↓jt,↓reduceIte,zvs,reduceCtorEq,Nat.reduceEqDiff,Nat.reduceAdd,Nat.reduceLeDiff,Nat.reduceMul,Int.reduceBNe,Int.reduceBEq,Int.reduceEq,Int.reduceNe,Int.reduceLT,Int.reduceLE,Int.reduceGT,Int.reduceGE,Int.reduceNeg,Int.reduceToNat,Nat.reduceLT,Nat.reduceSub,tab,hH,VW_len,ga,gb,gc,gd,w_add,w_xor,VW_sA2,VW_sC,VW_sD,Tryd.results75,List.toList_toArray])|(simp (disch:=omega) only [ziw]))
  refine jb (jd (turned12 _) rfl (by first|rfl|assumption|(simp only [znl,nls_VW];(first|done|fail)))) ?_
  repeat' (first|(with_reducible first|refine yrl (by constructor) ?_|refine jk (fun M hM=>?_)|(refine hM _ ?_;clear hM M)|refine xb3 (by decide) ?_|refine yqa (by assumption) ?_ ?_|refine yqb (by assumption) ?_ ?_)|((with_reducible refine je ?_)<;>(first|rfl|assumption|(simp only [znl,nls_VW];(first|done|fail))))|(with_reducible refine jf (by (simp only [↓reduceIte,zlk,Nat.reduceEqDiff,reduceCtorEq]);exact rfl) ?_)|((with_reducible first|refine jg (fun hc=>?_) (fun hc=>?_)|refine jh (fun hc=>?_) (fun hc=>?_))<;>(try simp (disch:=omega) only [zhb] at hc)<;>(try (exfalso;omega))<;>(try subst hc))|(with_reducible refine ji (by omega) ?_)|(simp (config := { maxSteps := 400000 }) only [↓jt,↓reduceIte,zvs,reduceCtorEq,Nat.reduceEqDiff,Nat.reduceAdd,Nat.reduceLeDiff,Nat.reduceMul,Int.reduceBNe,Int.reduceBEq,Int.reduceEq,Int.reduceNe,Int.reduceLT,Int.reduceLE,Int.reduceGT,Int.reduceGE,Int.reduceNeg,Int.reduceToNat,Nat.reduceLT,Nat.reduceSub,tab,hH,VW_len,ga,gb,gc,gd,w_add,w_xor,VW_sA2,VW_sC,VW_sD,Tryd.results75,List.toList_toArray])|(simp (disch:=omega) only [ziw]))
  refine ok_drawC 11 (by kernel_rfl) (by decide +kernel) (by intro m hm; simp only [upd_ap,rows_cons,rows_nil]; (repeat (first | rfl | rw [if_neg (by omega)]))) (fun M hM => ?_); simp only [List.take_succ_cons,List.take_zero,List.drop_succ_cons,List.drop_zero]
  repeat' (first|(with_reducible first|refine yrl (by constructor) ?_|refine jk (fun M hM=>?_)|(refine hM _ ?_;clear hM M)|refine xb3 (by decide) ?_|refine yqa (by assumption) ?_ ?_|refine yqb (by assumption) ?_ ?_)|((with_reducible refine je ?_)<;>(first|rfl|assumption|(simp only [znl,nls_VW];(first|done|fail))))|(with_reducible refine jf (by (simp only [↓reduceIte,zlk,Nat.reduceEqDiff,reduceCtorEq]);exact rfl) ?_)|((with_reducible first|refine jg (fun hc=>?_) (fun hc=>?_)|refine jh (fun hc=>?_) (fun hc=>?_))<;>(try simp (disch:=omega) only [zhb] at hc)<;>(try (exfalso;omega))<;>(try subst hc))|(with_reducible refine ji (by omega) ?_)|(simp (config := { maxSteps := 400000 }) only [↓jt,↓reduceIte,zvs,reduceCtorEq,Nat.reduceEqDiff,Nat.reduceAdd,Nat.reduceLeDiff,Nat.reduceMul,Int.reduceBNe,Int.reduceBEq,Int.reduceEq,Int.reduceNe,Int.reduceLT,Int.reduceLE,Int.reduceGT,Int.reduceGE,Int.reduceNeg,Int.reduceToNat,Nat.reduceLT,Nat.reduceSub,tab,hH,VW_len,ga,gb,gc,gd,w_add,w_xor,VW_sA2,VW_sC,VW_sD,Tryd.results75,List.toList_toArray])|(simp (disch:=omega) only [ziw]))
  refine ok_drawC 10 (by kernel_rfl) (by decide +kernel) (by intro m hm; simp only [upd_ap,rows_cons,rows_nil]; (repeat (first | rfl | rw [if_neg (by omega)]))) (fun M hM => ?_); simp only [List.take_succ_cons,List.take_zero,List.drop_succ_cons,List.drop_zero]
  repeat' (first|(with_reducible first|refine yrl (by constructor) ?_|refine jk (fun M hM=>?_)|(refine hM _ ?_;clear hM M)|refine xb3 (by decide) ?_|refine yqa (by assumption) ?_ ?_|refine yqb (by assumption) ?_ ?_)|((with_reducible refine je ?_)<;>(first|rfl|assumption|(simp only [znl,nls_VW];(first|done|fail))))|(with_reducible refine jf (by (simp only [↓reduceIte,zlk,Nat.reduceEqDiff,reduceCtorEq]);exact rfl) ?_)|((with_reducible first|refine jg (fun hc=>?_) (fun hc=>?_)|refine jh (fun hc=>?_) (fun hc=>?_))<;>(try simp (disch:=omega) only [zhb] at hc)<;>(try (exfalso;omega))<;>(try subst hc))|(with_reducible refine ji (by omega) ?_)|(simp (config := { maxSteps := 400000 }) only [↓jt,↓reduceIte,zvs,reduceCtorEq,Nat.reduceEqDiff,Nat.reduceAdd,Nat.reduceLeDiff,Nat.reduceMul,Int.reduceBNe,Int.reduceBEq,Int.reduceEq,Int.reduceNe,Int.reduceLT,Int.reduceLE,Int.reduceGT,Int.reduceGE,Int.reduceNeg,Int.reduceToNat,Nat.reduceLT,Nat.reduceSub,tab,hH,VW_len,ga,gb,gc,gd,w_add,w_xor,VW_sA2,VW_sC,VW_sD,Tryd.results75,List.toList_toArray])|(simp (disch:=omega) only [ziw]))
  refine jb (jd (turned8 _) rfl (by first|rfl|assumption|(simp only [znl,nls_VW];(first|done|fail)))) ?_
  repeat' (first|(with_reducible first|refine yrl (by constructor) ?_|refine jk (fun M hM=>?_)|(refine hM _ ?_;clear hM M)|refine xb3 (by decide) ?_|refine yqa (by assumption) ?_ ?_|refine yqb (by assumption) ?_ ?_)|((with_reducible refine je ?_)<;>(first|rfl|assumption|(simp only [znl,nls_VW];(first|done|fail))))|(with_reducible refine jf (by (simp only [↓reduceIte,zlk,Nat.reduceEqDiff,reduceCtorEq]);exact rfl) ?_)|((with_reducible first|refine jg (fun hc=>?_) (fun hc=>?_)|refine jh (fun hc=>?_) (fun hc=>?_))<;>(try simp (disch:=omega) only [zhb] at hc)<;>(try (exfalso;omega))<;>(try subst hc))|(with_reducible refine ji (by omega) ?_)|(simp (config := { maxSteps := 400000 }) only [↓jt,↓reduceIte,zvs,reduceCtorEq,Nat.reduceEqDiff,Nat.reduceAdd,Nat.reduceLeDiff,Nat.reduceMul,Int.reduceBNe,Int.reduceBEq,Int.reduceEq,Int.reduceNe,Int.reduceLT,Int.reduceLE,Int.reduceGT,Int.reduceGE,Int.reduceNeg,Int.reduceToNat,Nat.reduceLT,Nat.reduceSub,tab,hH,VW_len,ga,gb,gc,gd,w_add,w_xor,VW_sA2,VW_sC,VW_sD,Tryd.results75,List.toList_toArray])|(simp (disch:=omega) only [ziw]))
  refine ok_drawC 9 (by kernel_rfl) (by decide +kernel) (by intro m hm; simp only [upd_ap,rows_cons,rows_nil]; (repeat (first | rfl | rw [if_neg (by omega)]))) (fun M hM => ?_); simp only [List.take_succ_cons,List.take_zero,List.drop_succ_cons,List.drop_zero]
  repeat' (first|(with_reducible first|refine yrl (by constructor) ?_|refine jk (fun M hM=>?_)|(refine hM _ ?_;clear hM M)|refine xb3 (by decide) ?_|refine yqa (by assumption) ?_ ?_|refine yqb (by assumption) ?_ ?_)|((with_reducible refine je ?_)<;>(first|rfl|assumption|(simp only [znl,nls_VW];(first|done|fail))))|(with_reducible refine jf (by (simp only [↓reduceIte,zlk,Nat.reduceEqDiff,reduceCtorEq]);exact rfl) ?_)|((with_reducible first|refine jg (fun hc=>?_) (fun hc=>?_)|refine jh (fun hc=>?_) (fun hc=>?_))<;>(try simp (disch:=omega) only [zhb] at hc)<;>(try (exfalso;omega))<;>(try subst hc))|(with_reducible refine ji (by omega) ?_)|(simp (config := { maxSteps := 400000 }) only [↓jt,↓reduceIte,zvs,reduceCtorEq,Nat.reduceEqDiff,Nat.reduceAdd,Nat.reduceLeDiff,Nat.reduceMul,Int.reduceBNe,Int.reduceBEq,Int.reduceEq,Int.reduceNe,Int.reduceLT,Int.reduceLE,Int.reduceGT,Int.reduceGE,Int.reduceNeg,Int.reduceToNat,Nat.reduceLT,Nat.reduceSub,tab,hH,VW_len,ga,gb,gc,gd,w_add,w_xor,VW_sA2,VW_sC,VW_sD,Tryd.results75,List.toList_toArray])|(simp (disch:=omega) only [ziw]))
  refine ok_drawC 10 (by kernel_rfl) (by decide +kernel) (by intro m hm; simp only [upd_ap,rows_cons,rows_nil]; (repeat (first | rfl | rw [if_neg (by omega)]))) (fun M hM => ?_); simp only [List.take_succ_cons,List.take_zero,List.drop_succ_cons,List.drop_zero]
  repeat' (first|(with_reducible first|refine yrl (by constructor) ?_|refine jk (fun M hM=>?_)|(refine hM _ ?_;clear hM M)|refine xb3 (by decide) ?_|refine yqa (by assumption) ?_ ?_|refine yqb (by assumption) ?_ ?_)|((with_reducible refine je ?_)<;>(first|rfl|assumption|(simp only [znl,nls_VW];(first|done|fail))))|(with_reducible refine jf (by (simp only [↓reduceIte,zlk,Nat.reduceEqDiff,reduceCtorEq]);exact rfl) ?_)|((with_reducible first|refine jg (fun hc=>?_) (fun hc=>?_)|refine jh (fun hc=>?_) (fun hc=>?_))<;>(try simp (disch:=omega) only [zhb] at hc)<;>(try (exfalso;omega))<;>(try subst hc))|(with_reducible refine ji (by omega) ?_)|(simp (config := { maxSteps := 400000 }) only [↓jt,↓reduceIte,zvs,reduceCtorEq,Nat.reduceEqDiff,Nat.reduceAdd,Nat.reduceLeDiff,Nat.reduceMul,Int.reduceBNe,Int.reduceBEq,Int.reduceEq,Int.reduceNe,Int.reduceLT,Int.reduceLE,Int.reduceGT,Int.reduceGE,Int.reduceNeg,Int.reduceToNat,Nat.reduceLT,Nat.reduceSub,tab,hH,VW_len,ga,gb,gc,gd,w_add,w_xor,VW_sA2,VW_sC,VW_sD,Tryd.results75,List.toList_toArray])|(simp (disch:=omega) only [ziw]))
  refine jb (jd (turned7 _) rfl (by first|rfl|assumption|(simp only [znl,nls_VW];(first|done|fail)))) ?_
  repeat' (first|(with_reducible first|refine yrl (by constructor) ?_|refine jk (fun M hM=>?_)|(refine hM _ ?_;clear hM M)|refine xb3 (by decide) ?_|refine yqa (by assumption) ?_ ?_|refine yqb (by assumption) ?_ ?_)|((with_reducible refine je ?_)<;>(first|rfl|assumption|(simp only [znl,nls_VW];(first|done|fail))))|(with_reducible refine jf (by (simp only [↓reduceIte,zlk,Nat.reduceEqDiff,reduceCtorEq]);exact rfl) ?_)|((with_reducible first|refine jg (fun hc=>?_) (fun hc=>?_)|refine jh (fun hc=>?_) (fun hc=>?_))<;>(try simp (disch:=omega) only [zhb] at hc)<;>(try (exfalso;omega))<;>(try subst hc))|(with_reducible refine ji (by omega) ?_)|(simp (config := { maxSteps := 400000 }) only [↓jt,↓reduceIte,zvs,reduceCtorEq,Nat.reduceEqDiff,Nat.reduceAdd,Nat.reduceLeDiff,Nat.reduceMul,Int.reduceBNe,Int.reduceBEq,Int.reduceEq,Int.reduceNe,Int.reduceLT,Int.reduceLE,Int.reduceGT,Int.reduceGE,Int.reduceNeg,Int.reduceToNat,Nat.reduceLT,Nat.reduceSub,tab,hH,VW_len,ga,gb,gc,gd,w_add,w_xor,VW_sA2,VW_sC,VW_sD,Tryd.results75,List.toList_toArray])|(simp (disch:=omega) only [ziw]))
  all_goals first
    | (exfalso; omega)
    | (((try simp only [mixF,List.map_nil]); simp only [zrds]; (repeat' (first | exact rd_nil | exact Rd.refl _ _ (by first|rfl|assumption|(simp only [znl,nls_VW];(first|done|fail))) | (refine And.intro ?_ ?_) | (refine rd_own (by (simp only [↓reduceIte,zlk,Nat.reduceEqDiff,reduceCtorEq]); exact rfl) ?_ ?_ ?_) | rfl | assumption | (simp only [znl,nls_VW];(first|done|fail)) | (simp; done) | (simp; omega)))); all_goals (exact RdL.refl _ _ (nls_VW _ _)))
    | trace_state
theorem pmix_own (v : Nat → W32) (a b c d : Int) (ha : ix a) (hb : ix b) (hc : ix c) (hd : ix d) (x y : W32) : SpecO Tryd.prog 84 (.arr 16 .cell) (.agg (VW 16 v)) [.int .i64 a, .int .i64 b, .int .i64 c, .int .i64 d, .int .u32 (x.toNat : Int), .int .u32 (y.toNat : Int)] (.agg (VW 16 (mixF v a.toNat b.toNat c.toNat d.toNat x y))) (.tup []) := by
  obtain ⟨ha1, ha2⟩ := ha
  obtain ⟨hb1, hb2⟩ := hb
  obtain ⟨hc1, hc2⟩ := hc
  obtain ⟨hd1, hd2⟩ := hd
  have hH : ∀ u, Has (.arr 16 .cell) (.agg (VW 16 u)) := has_VW 16
  have ga : ∀ u, (VW 16 u)[a.toNat]? = some (.int .u32 ((u a.toNat).toNat : Int)) := fun u => VW_get (by omega)
  have gb : ∀ u, (VW 16 u)[b.toNat]? = some (.int .u32 ((u b.toNat).toNat : Int)) := fun u => VW_get (by omega)
  have gc : ∀ u, (VW 16 u)[c.toNat]? = some (.int .u32 ((u c.toNat).toNat : Int)) := fun u => VW_get (by omega)
  have gd : ∀ u, (VW 16 u)[d.toNat]? = some (.int .u32 ((u d.toNat).toNat : Int)) := fun u => VW_get (by omega)
  unfold SpecO
  refine ok_body Tryd.func84 rfl rfl (by kernel_rfl) (k := 7) rfl (by decide) ?_
  repeat' (first|(with_reducible first|refine yrl (by constructor) ?_|refine jk (fun M hM=>?_)|(refine hM _ ?_;clear hM M)|refine xb3 (by decide) ?_|refine yqa (by assumption) ?_ ?_|refine yqb (by assumption) ?_ ?_)|((with_reducible refine je ?_)<;>(first|rfl|assumption|(simp only [znl,nls_VW];(first|done|fail))))|(with_reducible refine jf (by (simp only [↓reduceIte,zlk,Nat.reduceEqDiff,reduceCtorEq]);exact rfl) ?_)|((with_reducible first|refine jg (fun hc=>?_) (fun hc=>?_)|refine jh (fun hc=>?_) (fun hc=>?_))<;>(try simp (disch:=omega) only [zhb] at hc)<;>(try (exfalso;omega))<;>(try subst hc))|(with_reducible refine ji (by omega) ?_)|(simp (config := { maxSteps := 400000 }) only [↓jt,↓reduceIte,zvs,reduceCtorEq,Nat.reduceEqDiff,Nat.reduceAdd,Nat.reduceLeDiff,Nat.reduceMul,Int.reduceBNe,Int.reduceBEq,Int.reduceEq,Int.reduceNe,Int.reduceLT,Int.reduceLE,Int.reduceGT,Int.reduceGE,Int.reduceNeg,Int.reduceToNat,Nat.reduceLT,Nat.reduceSub,tab,hH,VW_len,ga,gb,gc,gd,w_add,w_xor,VW_sA1,VW_sC,VW_sD,Tryd.results84,List.toList_toArray])|(simp (disch:=omega) only [ziw]))
  refine ok_drawC 15 (by kernel_rfl) (by decide +kernel) (by intro m hm; simp only [upd_ap,rows_cons,rows_nil]; (repeat (first | rfl | rw [if_neg (by omega)]))) (fun M hM => ?_); simp only [List.take_succ_cons,List.take_zero,List.drop_succ_cons,List.drop_zero]
  repeat' (first|(with_reducible first|refine yrl (by constructor) ?_|refine jk (fun M hM=>?_)|(refine hM _ ?_;clear hM M)|refine xb3 (by decide) ?_|refine yqa (by assumption) ?_ ?_|refine yqb (by assumption) ?_ ?_)|((with_reducible refine je ?_)<;>(first|rfl|assumption|(simp only [znl,nls_VW];(first|done|fail))))|(with_reducible refine jf (by (simp only [↓reduceIte,zlk,Nat.reduceEqDiff,reduceCtorEq]);exact rfl) ?_)|((with_reducible first|refine jg (fun hc=>?_) (fun hc=>?_)|refine jh (fun hc=>?_) (fun hc=>?_))<;>(try simp (disch:=omega) only [zhb] at hc)<;>(try (exfalso;omega))<;>(try subst hc))|(with_reducible refine ji (by omega) ?_)|(simp (config := { maxSteps := 400000 }) only [↓jt,↓reduceIte,zvs,reduceCtorEq,Nat.reduceEqDiff,Nat.reduceAdd,Nat.reduceLeDiff,Nat.reduceMul,Int.reduceBNe,Int.reduceBEq,Int.reduceEq,Int.reduceNe,Int.reduceLT,Int.reduceLE,Int.reduceGT,Int.reduceGE,Int.reduceNeg,Int.reduceToNat,Nat.reduceLT,Nat.reduceSub,tab,hH,VW_len,ga,gb,gc,gd,w_add,w_xor,VW_sA1,VW_sC,VW_sD,Tryd.results84,List.toList_toArray])|(simp (disch:=omega) only [ziw]))
  refine ok_drawC 16 (by kernel_rfl) (by decide +kernel) (by intro m hm; simp only [upd_ap,rows_cons,rows_nil]; (repeat (first | rfl | rw [if_neg (by omega)]))) (fun M hM => ?_); simp only [List.take_succ_cons,List.take_zero,List.drop_succ_cons,List.drop_zero]
  repeat' (first|(with_reducible first|refine yrl (by constructor) ?_|refine jk (fun M hM=>?_)|(refine hM _ ?_;clear hM M)|refine xb3 (by decide) ?_|refine yqa (by assumption) ?_ ?_|refine yqb (by assumption) ?_ ?_)|((with_reducible refine je ?_)<;>(first|rfl|assumption|(simp only [znl,nls_VW];(first|done|fail))))|(with_reducible refine jf (by (simp only [↓reduceIte,zlk,Nat.reduceEqDiff,reduceCtorEq]);exact rfl) ?_)|((with_reducible first|refine jg (fun hc=>?_) (fun hc=>?_)|refine jh (fun hc=>?_) (fun hc=>?_))<;>(try simp (disch:=omega) only [zhb] at hc)<;>(try (exfalso;omega))<;>(try subst hc))|(with_reducible refine ji (by omega) ?_)|(simp (config := { maxSteps := 400000 }) only [↓jt,↓reduceIte,zvs,reduceCtorEq,Nat.reduceEqDiff,Nat.reduceAdd,Nat.reduceLeDiff,Nat.reduceMul,Int.reduceBNe,Int.reduceBEq,Int.reduceEq,Int.reduceNe,Int.reduceLT,Int.reduceLE,Int.reduceGT,Int.reduceGE,Int.reduceNeg,Int.reduceToNat,Nat.reduceLT,Nat.reduceSub,tab,hH,VW_len,ga,gb,gc,gd,w_add,w_xor,VW_sA1,VW_sC,VW_sD,Tryd.results84,List.toList_toArray])|(simp (disch:=omega) only [ziw]))
  refine jb (jd (rotl16 _) rfl (by first|rfl|assumption|(simp only [znl,nls_VW];(first|done|fail)))) ?_
  repeat' (first|(with_reducible first|refine yrl (by constructor) ?_|refine jk (fun M hM=>?_)|(refine hM _ ?_;clear hM M)|refine xb3 (by decide) ?_|refine yqa (by assumption) ?_ ?_|refine yqb (by assumption) ?_ ?_)|((with_reducible refine je ?_)<;>(first|rfl|assumption|(simp only [znl,nls_VW];(first|done|fail))))|(with_reducible refine jf (by (simp only [↓reduceIte,zlk,Nat.reduceEqDiff,reduceCtorEq]);exact rfl) ?_)|((with_reducible first|refine jg (fun hc=>?_) (fun hc=>?_)|refine jh (fun hc=>?_) (fun hc=>?_))<;>(try simp (disch:=omega) only [zhb] at hc)<;>(try (exfalso;omega))<;>(try subst hc))|(with_reducible refine ji (by omega) ?_)|(simp (config := { maxSteps := 400000 }) only [↓jt,↓reduceIte,zvs,reduceCtorEq,Nat.reduceEqDiff,Nat.reduceAdd,Nat.reduceLeDiff,Nat.reduceMul,Int.reduceBNe,Int.reduceBEq,Int.reduceEq,Int.reduceNe,Int.reduceLT,Int.reduceLE,Int.reduceGT,Int.reduceGE,Int.reduceNeg,Int.reduceToNat,Nat.reduceLT,Nat.reduceSub,tab,hH,VW_len,ga,gb,gc,gd,w_add,w_xor,VW_sA1,VW_sC,VW_sD,Tryd.results84,List.toList_toArray])|(simp (disch:=omega) only [ziw]))
  refine ok_drawC 13 (by kernel_rfl) (by decide +kernel) (by intro m hm; simp only [upd_ap,rows_cons,rows_nil]; (repeat (first | rfl | rw [if_neg (by omega)]))) (fun M hM => ?_); simp only [List.take_succ_cons,List.take_zero,List.drop_succ_cons,List.drop_zero]
  repeat' (first|(with_reducible first|refine yrl (by constructor) ?_|refine jk (fun M hM=>?_)|(refine hM _ ?_;clear hM M)|refine xb3 (by decide) ?_|refine yqa (by assumption) ?_ ?_|refine yqb (by assumption) ?_ ?_)|((with_reducible refine je ?_)<;>(first|rfl|assumption|(simp only [znl,nls_VW];(first|done|fail))))|(with_reducible refine jf (by (simp only [↓reduceIte,zlk,Nat.reduceEqDiff,reduceCtorEq]);exact rfl) ?_)|((with_reducible first|refine jg (fun hc=>?_) (fun hc=>?_)|refine jh (fun hc=>?_) (fun hc=>?_))<;>(try simp (disch:=omega) only [zhb] at hc)<;>(try (exfalso;omega))<;>(try subst hc))|(with_reducible refine ji (by omega) ?_)|(simp (config := { maxSteps := 400000 }) only [↓jt,↓reduceIte,zvs,reduceCtorEq,Nat.reduceEqDiff,Nat.reduceAdd,Nat.reduceLeDiff,Nat.reduceMul,Int.reduceBNe,Int.reduceBEq,Int.reduceEq,Int.reduceNe,Int.reduceLT,Int.reduceLE,Int.reduceGT,Int.reduceGE,Int.reduceNeg,Int.reduceToNat,Nat.reduceLT,Nat.reduceSub,tab,hH,VW_len,ga,gb,gc,gd,w_add,w_xor,VW_sA1,VW_sC,VW_sD,Tryd.results84,List.toList_toArray])|(simp (disch:=omega) only [ziw]))
  refine ok_drawC 16 (by kernel_rfl) (by decide +kernel) (by intro m hm; simp only [upd_ap,rows_cons,rows_nil]; (repeat (first | rfl | rw [if_neg (by omega)]))) (fun M hM => ?_); simp only [List.take_succ_cons,List.take_zero,List.drop_succ_cons,List.drop_zero]
  repeat' (first|(with_reducible first|refine yrl (by constructor) ?_|refine jk (fun M hM=>?_)|(refine hM _ ?_;clear hM M)|refine xb3 (by decide) ?_|refine yqa (by assumption) ?_ ?_|refine yqb (by assumption) ?_ ?_)|((with_reducible refine je ?_)<;>(first|rfl|assumption|(simp only [znl,nls_VW];(first|done|fail))))|(with_reducible refine jf (by (simp only [↓reduceIte,zlk,Nat.reduceEqDiff,reduceCtorEq]);exact rfl) ?_)|((with_reducible first|refine jg (fun hc=>?_) (fun hc=>?_)|refine jh (fun hc=>?_) (fun hc=>?_))<;>(try simp (disch:=omega) only [zhb] at hc)<;>(try (exfalso;omega))<;>(try subst hc))|(with_reducible refine ji (by omega) ?_)|(simp (config := { maxSteps := 400000 }) only [↓jt,↓reduceIte,zvs,reduceCtorEq,Nat.reduceEqDiff,Nat.reduceAdd,Nat.reduceLeDiff,Nat.reduceMul,Int.reduceBNe,Int.reduceBEq,Int.reduceEq,Int.reduceNe,Int.reduceLT,Int.reduceLE,Int.reduceGT,Int.reduceGE,Int.reduceNeg,Int.reduceToNat,Nat.reduceLT,Nat.reduceSub,tab,hH,VW_len,ga,gb,gc,gd,w_add,w_xor,VW_sA1,VW_sC,VW_sD,Tryd.results84,List.toList_toArray])|(simp (disch:=omega) only [ziw]))
  refine jb (jd (rotl12 _) rfl (by first|rfl|assumption|(simp only [znl,nls_VW];(first|done|fail)))) ?_
  repeat' (first|(with_reducible first|refine yrl (by constructor) ?_|refine jk (fun M hM=>?_)|(refine hM _ ?_;clear hM M)|refine xb3 (by decide) ?_|refine yqa (by assumption) ?_ ?_|refine yqb (by assumption) ?_ ?_)|((with_reducible refine je ?_)<;>(first|rfl|assumption|(simp only [znl,nls_VW];(first|done|fail))))|(with_reducible refine jf (by (simp only [↓reduceIte,zlk,Nat.reduceEqDiff,reduceCtorEq]);exact rfl) ?_)|((with_reducible first|refine jg (fun hc=>?_) (fun hc=>?_)|refine jh (fun hc=>?_) (fun hc=>?_))<;>(try simp (disch:=omega) only [zhb] at hc)<;>(try (exfalso;omega))<;>(try subst hc))|(with_reducible refine ji (by omega) ?_)|(simp (config := { maxSteps := 400000 }) only [↓jt,↓reduceIte,zvs,reduceCtorEq,Nat.reduceEqDiff,Nat.reduceAdd,Nat.reduceLeDiff,Nat.reduceMul,Int.reduceBNe,Int.reduceBEq,Int.reduceEq,Int.reduceNe,Int.reduceLT,Int.reduceLE,Int.reduceGT,Int.reduceGE,Int.reduceNeg,Int.reduceToNat,Nat.reduceLT,Nat.reduceSub,tab,hH,VW_len,ga,gb,gc,gd,w_add,w_xor,VW_sA1,VW_sC,VW_sD,Tryd.results84,List.toList_toArray])|(simp (disch:=omega) only [ziw]))
  refine ok_drawC 15 (by kernel_rfl) (by decide +kernel) (by intro m hm; simp only [upd_ap,rows_cons,rows_nil]; (repeat (first | rfl | rw [if_neg (by omega)]))) (fun M hM => ?_); simp only [List.take_succ_cons,List.take_zero,List.drop_succ_cons,List.drop_zero]
  repeat' (first|(with_reducible first|refine yrl (by constructor) ?_|refine jk (fun M hM=>?_)|(refine hM _ ?_;clear hM M)|refine xb3 (by decide) ?_|refine yqa (by assumption) ?_ ?_|refine yqb (by assumption) ?_ ?_)|((with_reducible refine je ?_)<;>(first|rfl|assumption|(simp only [znl,nls_VW];(first|done|fail))))|(with_reducible refine jf (by (simp only [↓reduceIte,zlk,Nat.reduceEqDiff,reduceCtorEq]);exact rfl) ?_)|((with_reducible first|refine jg (fun hc=>?_) (fun hc=>?_)|refine jh (fun hc=>?_) (fun hc=>?_))<;>(try simp (disch:=omega) only [zhb] at hc)<;>(try (exfalso;omega))<;>(try subst hc))|(with_reducible refine ji (by omega) ?_)|(simp (config := { maxSteps := 400000 }) only [↓jt,↓reduceIte,zvs,reduceCtorEq,Nat.reduceEqDiff,Nat.reduceAdd,Nat.reduceLeDiff,Nat.reduceMul,Int.reduceBNe,Int.reduceBEq,Int.reduceEq,Int.reduceNe,Int.reduceLT,Int.reduceLE,Int.reduceGT,Int.reduceGE,Int.reduceNeg,Int.reduceToNat,Nat.reduceLT,Nat.reduceSub,tab,hH,VW_len,ga,gb,gc,gd,w_add,w_xor,VW_sA1,VW_sC,VW_sD,Tryd.results84,List.toList_toArray])|(simp (disch:=omega) only [ziw]))
  refine ok_drawC 16 (by kernel_rfl) (by decide +kernel) (by intro m hm; simp only [upd_ap,rows_cons,rows_nil]; (repeat (first | rfl | rw [if_neg (by omega)]))) (fun M hM => ?_); simp only [List.take_succ_cons,List.take_zero,List.drop_succ_cons,List.drop_zero]
  repeat' (first|(with_reducible first|refine yrl (by constructor) ?_|refine jk (fun M hM=>?_)|(refine hM _ ?_;clear hM M)|refine xb3 (by decide) ?_|refine yqa (by assumption) ?_ ?_|refine yqb (by assumption) ?_ ?_)|((with_reducible refine je ?_)<;>(first|rfl|assumption|(simp only [znl,nls_VW];(first|done|fail))))|(with_reducible refine jf (by (simp only [↓reduceIte,zlk,Nat.reduceEqDiff,reduceCtorEq]);exact rfl) ?_)|((with_reducible first|refine jg (fun hc=>?_) (fun hc=>?_)|refine jh (fun hc=>?_) (fun hc=>?_))<;>(try simp (disch:=omega) only [zhb] at hc)<;>(try (exfalso;omega))<;>(try subst hc))|(with_reducible refine ji (by omega) ?_)|(simp (config := { maxSteps := 400000 }) only [↓jt,↓reduceIte,zvs,reduceCtorEq,Nat.reduceEqDiff,Nat.reduceAdd,Nat.reduceLeDiff,Nat.reduceMul,Int.reduceBNe,Int.reduceBEq,Int.reduceEq,Int.reduceNe,Int.reduceLT,Int.reduceLE,Int.reduceGT,Int.reduceGE,Int.reduceNeg,Int.reduceToNat,Nat.reduceLT,Nat.reduceSub,tab,hH,VW_len,ga,gb,gc,gd,w_add,w_xor,VW_sA1,VW_sC,VW_sD,Tryd.results84,List.toList_toArray])|(simp (disch:=omega) only [ziw]))
  refine jb (jd (rotl8 _) rfl (by first|rfl|assumption|(simp only [znl,nls_VW];(first|done|fail)))) ?_
  repeat' (first|(with_reducible first|refine yrl (by constructor) ?_|refine jk (fun M hM=>?_)|(refine hM _ ?_;clear hM M)|refine xb3 (by decide) ?_|refine yqa (by assumption) ?_ ?_|refine yqb (by assumption) ?_ ?_)|((with_reducible refine je ?_)<;>(first|rfl|assumption|(simp only [znl,nls_VW];(first|done|fail))))|(with_reducible refine jf (by (simp only [↓reduceIte,zlk,Nat.reduceEqDiff,reduceCtorEq]);exact rfl) ?_)|((with_reducible first|refine jg (fun hc=>?_) (fun hc=>?_)|refine jh (fun hc=>?_) (fun hc=>?_))<;>(try simp (disch:=omega) only [zhb] at hc)<;>(try (exfalso;omega))<;>(try subst hc))|(with_reducible refine ji (by omega) ?_)|(simp (config := { maxSteps := 400000 }) only [↓jt,↓reduceIte,zvs,reduceCtorEq,Nat.reduceEqDiff,Nat.reduceAdd,Nat.reduceLeDiff,Nat.reduceMul,Int.reduceBNe,Int.reduceBEq,Int.reduceEq,Int.reduceNe,Int.reduceLT,Int.reduceLE,Int.reduceGT,Int.reduceGE,Int.reduceNeg,Int.reduceToNat,Nat.reduceLT,Nat.reduceSub,tab,hH,VW_len,ga,gb,gc,gd,w_add,w_xor,VW_sA1,VW_sC,VW_sD,Tryd.results84,List.toList_toArray])|(simp (disch:=omega) only [ziw]))
  refine ok_drawC 13 (by kernel_rfl) (by decide +kernel) (by intro m hm; simp only [upd_ap,rows_cons,rows_nil]; (repeat (first | rfl | rw [if_neg (by omega)]))) (fun M hM => ?_); simp only [List.take_succ_cons,List.take_zero,List.drop_succ_cons,List.drop_zero]
  repeat' (first|(with_reducible first|refine yrl (by constructor) ?_|refine jk (fun M hM=>?_)|(refine hM _ ?_;clear hM M)|refine xb3 (by decide) ?_|refine yqa (by assumption) ?_ ?_|refine yqb (by assumption) ?_ ?_)|((with_reducible refine je ?_)<;>(first|rfl|assumption|(simp only [znl,nls_VW];(first|done|fail))))|(with_reducible refine jf (by (simp only [↓reduceIte,zlk,Nat.reduceEqDiff,reduceCtorEq]);exact rfl) ?_)|((with_reducible first|refine jg (fun hc=>?_) (fun hc=>?_)|refine jh (fun hc=>?_) (fun hc=>?_))<;>(try simp (disch:=omega) only [zhb] at hc)<;>(try (exfalso;omega))<;>(try subst hc))|(with_reducible refine ji (by omega) ?_)|(simp (config := { maxSteps := 400000 }) only [↓jt,↓reduceIte,zvs,reduceCtorEq,Nat.reduceEqDiff,Nat.reduceAdd,Nat.reduceLeDiff,Nat.reduceMul,Int.reduceBNe,Int.reduceBEq,Int.reduceEq,Int.reduceNe,Int.reduceLT,Int.reduceLE,Int.reduceGT,Int.reduceGE,Int.reduceNeg,Int.reduceToNat,Nat.reduceLT,Nat.reduceSub,tab,hH,VW_len,ga,gb,gc,gd,w_add,w_xor,VW_sA1,VW_sC,VW_sD,Tryd.results84,List.toList_toArray])|(simp (disch:=omega) only [ziw]))
  refine ok_drawC 16 (by kernel_rfl) (by decide +kernel) (by intro m hm; simp only [upd_ap,rows_cons,rows_nil]; (repeat (first | rfl | rw [if_neg (by omega)]))) (fun M hM => ?_); simp only [List.take_succ_cons,List.take_zero,List.drop_succ_cons,List.drop_zero]
  repeat' (first|(with_reducible first|refine yrl (by constructor) ?_|refine jk (fun M hM=>?_)|(refine hM _ ?_;clear hM M)|refine xb3 (by decide) ?_|refine yqa (by assumption) ?_ ?_|refine yqb (by assumption) ?_ ?_)|((with_reducible refine je ?_)<;>(first|rfl|assumption|(simp only [znl,nls_VW];(first|done|fail))))|(with_reducible refine jf (by (simp only [↓reduceIte,zlk,Nat.reduceEqDiff,reduceCtorEq]);exact rfl) ?_)|((with_reducible first|refine jg (fun hc=>?_) (fun hc=>?_)|refine jh (fun hc=>?_) (fun hc=>?_))<;>(try simp (disch:=omega) only [zhb] at hc)<;>(try (exfalso;omega))<;>(try subst hc))|(with_reducible refine ji (by omega) ?_)|(simp (config := { maxSteps := 400000 }) only [↓jt,↓reduceIte,zvs,reduceCtorEq,Nat.reduceEqDiff,Nat.reduceAdd,Nat.reduceLeDiff,Nat.reduceMul,Int.reduceBNe,Int.reduceBEq,Int.reduceEq,Int.reduceNe,Int.reduceLT,Int.reduceLE,Int.reduceGT,Int.reduceGE,Int.reduceNeg,Int.reduceToNat,Nat.reduceLT,Nat.reduceSub,tab,hH,VW_len,ga,gb,gc,gd,w_add,w_xor,VW_sA1,VW_sC,VW_sD,Tryd.results84,List.toList_toArray])|(simp (disch:=omega) only [ziw]))
  refine jb (jd (rotl7 _) rfl (by first|rfl|assumption|(simp only [znl,nls_VW];(first|done|fail)))) ?_
  repeat' (first|(with_reducible first|refine yrl (by constructor) ?_|refine jk (fun M hM=>?_)|(refine hM _ ?_;clear hM M)|refine xb3 (by decide) ?_|refine yqa (by assumption) ?_ ?_|refine yqb (by assumption) ?_ ?_)|((with_reducible refine je ?_)<;>(first|rfl|assumption|(simp only [znl,nls_VW];(first|done|fail))))|(with_reducible refine jf (by (simp only [↓reduceIte,zlk,Nat.reduceEqDiff,reduceCtorEq]);exact rfl) ?_)|((with_reducible first|refine jg (fun hc=>?_) (fun hc=>?_)|refine jh (fun hc=>?_) (fun hc=>?_))<;>(try simp (disch:=omega) only [zhb] at hc)<;>(try (exfalso;omega))<;>(try subst hc))|(with_reducible refine ji (by omega) ?_)|(simp (config := { maxSteps := 400000 }) only [↓jt,↓reduceIte,zvs,reduceCtorEq,Nat.reduceEqDiff,Nat.reduceAdd,Nat.reduceLeDiff,Nat.reduceMul,Int.reduceBNe,Int.reduceBEq,Int.reduceEq,Int.reduceNe,Int.reduceLT,Int.reduceLE,Int.reduceGT,Int.reduceGE,Int.reduceNeg,Int.reduceToNat,Nat.reduceLT,Nat.reduceSub,tab,hH,VW_len,ga,gb,gc,gd,w_add,w_xor,VW_sA1,VW_sC,VW_sD,Tryd.results84,List.toList_toArray])|(simp (disch:=omega) only [ziw]))
  all_goals first
    | (exfalso; omega)
    | (exact ⟨rfl, rfl⟩)
    | rfl
    | trace_state
end Go.Proofs.YtcilmfhncjfdbaaDoor.V
end
section
/-
  HASH, part 3: a block taken in, by the document.
-/
set_option linter.unusedVariables false
set_option linter.unusedSimpArgs false
namespace Go.Proofs.YtcilmfhncjfdbaaDoor.V
open Go
set_option maxRecDepth 100000
-- nlx: nls_VW
set_option maxHeartbeats 4000000
def upW (u : Nat → W32) (k : Nat) : Nat → W32 := fun j => if j < k then u j else 0
theorem upW_zero (n : Nat) (u : Nat → W32) : List.replicate n (VV.int .u32 0) = VW n (upW u 0) := by
  rw [VW_zero]
  exact VW_ext fun i _ => by simp [upW]
theorem upW_set (n k : Nat) (u : Nat → W32) (x : W32) (h : x = u k) : VW n (fset (upW u k) k x) = VW n (upW u (k + 1)) := VW_ext fun i _ => by
  simp only [fset,upW]
  by_cases h1 : i = k
  · subst h1; rw [if_pos rfl, if_pos (by omega), h]
  · rw [if_neg h1]
    by_cases h2 : i < k
    · rw [if_pos h2, if_pos (by omega)]
    · rw [if_neg h2, if_neg (by omega)]
theorem upW_all (n : Nat) (u : Nat → W32) : VW n (upW u n) = VW n u := VW_ext fun i hi => by simp [upW, hi]
def v0F (h : Nat → W32) : Nat → W32 := fun i => if i < 8 then h i else iv (i - 8)
theorem w_lo2 (n : Nat) : IntKind.u32.wrap (n : Int) = ((BitVec.ofNat 32 n).toNat : Int) := by
  rw [IntKind.wrap_u32, BitVec.toNat_ofNat]
  omega
theorem w_hi2 (n : Nat) (h : n < 9223372036854775808) : IntKind.u32.wrap ((n : Int).fdiv (2 ^ min 32 IntKind.u64.bits)) = ((BitVec.ofNat 32 (n / 4294967296)).toNat : Int) := by
  have e : (2 : Int) ^ min 32 IntKind.u64.bits = 4294967296 := by decide
  rw [e, IntKind.wrap_u32, BitVec.toNat_ofNat, Int.fdiv_eq_ediv_of_nonneg _ (by omega)]
  omega
theorem init_f (h : Nat → W32) (n : Nat) : VW 16 (fset (fset (upW (v0F h) 16) 12 (upW (v0F h) 16 12 ^^^ BitVec.ofNat 32 n)) 13 (fset (upW (v0F h) 16) 12 (upW (v0F h) 16 12 ^^^ BitVec.ofNat 32 n) 13 ^^^ BitVec.ofNat 32 (n / 4294967296))) = VW 16 (initV h n false) := by
  refine VW_ext fun i hi => ?_
  have h12 : (12 : Nat) < 16 := by decide
  have h13 : (13 : Nat) < 16 := by decide
  simp only [initV,fset,upW,v0F,hi,h12,h13,if_true,Bool.false_eq_true,if_false]
theorem init_t (h : Nat → W32) (n : Nat) : VW 16 (fset (fset (fset (upW (v0F h) 16) 12 (upW (v0F h) 16 12 ^^^ BitVec.ofNat 32 n)) 13 (fset (upW (v0F h) 16) 12 (upW (v0F h) 16 12 ^^^ BitVec.ofNat 32 n) 13 ^^^ BitVec.ofNat 32 (n / 4294967296))) 14 (~~~ (fset (fset (upW (v0F h) 16) 12 (upW (v0F h) 16 12 ^^^ BitVec.ofNat 32 n)) 13 (fset (upW (v0F h) 16) 12 (upW (v0F h) 16 12 ^^^ BitVec.ofNat 32 n) 13 ^^^ BitVec.ofNat 32 (n / 4294967296)) 14))) = VW 16 (initV h n true) := by
  refine VW_ext fun i hi => ?_
  have h12 : (12 : Nat) < 16 := by decide
  have h13 : (13 : Nat) < 16 := by decide
  have h14 : (14 : Nat) < 16 := by decide
  simp only [initV,fset,upW,v0F,hi,h12,h13,h14,if_true]
theorem stepsV_succ (m : Nat → W32) (r : List Int) (v : Nat → W32) (i : Nat) : stepV m r (stepsV m r v i) i = stepsV m r v (i + 1) := rfl
theorem roundsV_succ (m : Nat → W32) (v : Nat → W32) (k : Nat) : stepsV m (sigma.getD k default) (roundsV m v k) 8 = roundsV m v (k + 1) := rfl
theorem outH_set (h v : Nat → W32) (k : Nat) : VW 8 (fset (outH h v k) k (outH h v k k ^^^ v k ^^^ v (k + 8))) = VW 8 (outH h v (k + 1)) := VW_ext fun i _ => by
  simp only [fset,outH]
  by_cases h1 : i = k
  · subst h1; rw [if_pos rfl, if_neg (by omega), if_pos (by omega)]
  · rw [if_neg h1]
    by_cases h2 : i < k
    · rw [if_pos h2, if_pos (by omega)]
    · rw [if_neg h2, if_neg (by omega)]
end Go.Proofs.YtcilmfhncjfdbaaDoor.V
end
section
/-
  HASH, part 4: a block taken in, by the program.
-/
set_option linter.unusedVariables false
set_option linter.unusedSimpArgs false
namespace Go.Proofs.YtcilmfhncjfdbaaDoor.V
open Go
set_option maxRecDepth 100000
-- nlx: nls_VW
set_option maxHeartbeats 8000000
abbrev stSh : Sh := .st [.arr 8 .cell, .arr 64 .cell, .cell, .cell]
noncomputable def encSt (h : Nat → W32) (w : List UInt8) (f n : Nat) : VV := .agg [.agg (VW 8 h), .agg (w.map encB), .int .i64 (f : Int), .int .u64 (n : Int)]
theorem pls_mapB : ∀ l : List UInt8, pls (l.map encB) = true
  | [] => rfl
  | _ :: l => by simp only [List.map_cons,pls,pls_mapB l,Bool.and_true]; rfl
theorem pls_mapW (v : Nat → W32) : ∀ l : List Nat, pls (l.map fun i => VV.int .u32 ((v i).toNat : Int)) = true
  | [] => rfl
  | _ :: l => by simp only [List.map_cons,pls,pls_mapW v l,Bool.and_true]; rfl
theorem pls_VW (n : Nat) (v : Nat → W32) : pls (VW n v) = true := by rw [VW_def]; exact pls_mapW v _
theorem pl_VW (n : Nat) (v : Nat → W32) : pl (.agg (VW n v)) = true := by simp only [pl]; exact pls_VW n v
theorem pl_encSt (h : Nat → W32) (w : List UInt8) (f n : Nat) : pl (encSt h w f n) = true := by
  simp only [encSt,pl,pls,pls_VW,pls_mapB,Bool.and_true]
theorem copy_eq (h : Nat → W32) : List.take 8 (List.take 8 (VW 8 h)) ++ List.drop (min (min 8 8) 8) (List.replicate 16 (VV.int .u32 0)) = VW 16 (upW (v0F h) (8 + 0)) := by
  rw [VW_def, VW_def]
  rfl
theorem eightL_eq : eightL.map (VV.int .u32) = VW 8 iv := by rw [VW_def]; rfl
def rowsV : List VV := rowsL.map fun l => VV.agg (l.map (.int .u8))
theorem nls_rowsV : nls rowsV = true := by rfl
theorem rowsV_at : ∀ k : Nat, k < 10 → ∃ r0 r1 r2 r3 r4 r5 r6 r7 r8 r9 r10 r11 r12 r13 r14 r15 : Int, rowsV[k]? = some (.agg [.int .u8 r0, .int .u8 r1, .int .u8 r2, .int .u8 r3, .int .u8 r4, .int .u8 r5, .int .u8 r6, .int .u8 r7, .int .u8 r8, .int .u8 r9, .int .u8 r10, .int .u8 r11, .int .u8 r12, .int .u8 r13, .int .u8 r14, .int .u8 r15]) ∧ sigma.getD k default = [r0, r1, r2, r3, r4, r5, r6, r7, r8, r9, r10, r11, r12, r13, r14, r15] ∧ ix r0 ∧ ix r1 ∧ ix r2 ∧ ix r3 ∧ ix r4 ∧ ix r5 ∧ ix r6 ∧ ix r7 ∧ ix r8 ∧ ix r9 ∧ ix r10 ∧ ix r11 ∧ ix r12 ∧ ix r13 ∧ ix r14 ∧ ix r15
  | 0, _ => ⟨0, 1, 2, 3, 4, 5, 6, 7, 8, 9, 10, 11, 12, 13, 14, 15, rfl, rfl, ⟨by decide, by decide⟩, ⟨by decide, by decide⟩, ⟨by decide, by decide⟩, ⟨by decide, by decide⟩, ⟨by decide, by decide⟩, ⟨by decide, by decide⟩, ⟨by decide, by decide⟩, ⟨by decide, by decide⟩, ⟨by decide, by decide⟩, ⟨by decide, by decide⟩, ⟨by decide, by decide⟩, ⟨by decide, by decide⟩, ⟨by decide, by decide⟩, ⟨by decide, by decide⟩, ⟨by decide, by decide⟩, ⟨by decide, by decide⟩⟩
  | 1, _ => ⟨14, 10, 4, 8, 9, 15, 13, 6, 1, 12, 0, 2, 11, 7, 5, 3, rfl, rfl, ⟨by decide, by decide⟩, ⟨by decide, by decide⟩, ⟨by decide, by decide⟩, ⟨by decide, by decide⟩, ⟨by decide, by decide⟩, ⟨by decide, by decide⟩, ⟨by decide, by decide⟩, ⟨by decide, by decide⟩, ⟨by decide, by decide⟩, ⟨by decide, by decide⟩, ⟨by decide, by decide⟩, ⟨by decide, by decide⟩, ⟨by decide, by decide⟩, ⟨by decide, by decide⟩, ⟨by decide, by decide⟩, ⟨by decide, by decide⟩⟩
  | 2, _ => ⟨11, 8, 12, 0, 5, 2, 15, 13, 10, 14, 3, 6, 7, 1, 9, 4, rfl, rfl, ⟨by decide, by decide⟩, ⟨by decide, by decide⟩, ⟨by decide, by decide⟩, ⟨by decide, by decide⟩, ⟨by decide, by decide⟩, ⟨by decide, by decide⟩, ⟨by decide, by decide⟩, ⟨by decide, by decide⟩, ⟨by decide, by decide⟩, ⟨by decide, by decide⟩, ⟨by decide, by decide⟩, ⟨by decide, by decide⟩, ⟨by decide, by decide⟩, ⟨by decide, by decide⟩, ⟨by decide, by decide⟩, ⟨by decide, by decide⟩⟩
  | 3, _ => ⟨7, 9, 3, 1, 13, 12, 11, 14, 2, 6, 5, 10, 4, 0, 15, 8, rfl, rfl, ⟨by decide, by decide⟩, ⟨by decide, by decide⟩, ⟨by decide, by decide⟩, ⟨by decide, by decide⟩, ⟨by decide, by decide⟩, ⟨by decide, by decide⟩, ⟨by decide, by decide⟩, ⟨by decide, by decide⟩, ⟨by decide, by decide⟩, ⟨by decide, by decide⟩, ⟨by decide, by decide⟩, ⟨by decide, by decide⟩, ⟨by decide, by decide⟩, ⟨by decide, by decide⟩, ⟨by decide, by decide⟩, ⟨by decide, by decide⟩⟩
  | 4, _ => ⟨9, 0, 5, 7, 2, 4, 10, 15, 14, 1, 11, 12, 6, 8, 3, 13, rfl, rfl, ⟨by decide, by decide⟩, ⟨by decide, by decide⟩, ⟨by decide, by decide⟩, ⟨by decide, by decide⟩, ⟨by decide, by decide⟩, ⟨by decide, by decide⟩, ⟨by decide, by decide⟩, ⟨by decide, by decide⟩, ⟨by decide, by decide⟩, ⟨by decide, by decide⟩, ⟨by decide, by decide⟩, ⟨by decide, by decide⟩, ⟨by decide, by decide⟩, ⟨by decide, by decide⟩, ⟨by decide, by decide⟩, ⟨by decide, by decide⟩⟩
  | 5, _ => ⟨2, 12, 6, 10, 0, 11, 8, 3, 4, 13, 7, 5, 15, 14, 1, 9, rfl, rfl, ⟨by decide, by decide⟩, ⟨by decide, by decide⟩, ⟨by decide, by decide⟩, ⟨by decide, by decide⟩, ⟨by decide, by decide⟩, ⟨by decide, by decide⟩, ⟨by decide, by decide⟩, ⟨by decide, by decide⟩, ⟨by decide, by decide⟩, ⟨by decide, by decide⟩, ⟨by decide, by decide⟩, ⟨by decide, by decide⟩, ⟨by decide, by decide⟩, ⟨by decide, by decide⟩, ⟨by decide, by decide⟩, ⟨by decide, by decide⟩⟩
  | 6, _ => ⟨12, 5, 1, 15, 14, 13, 4, 10, 0, 7, 6, 3, 9, 2, 8, 11, rfl, rfl, ⟨by decide, by decide⟩, ⟨by decide, by decide⟩, ⟨by decide, by decide⟩, ⟨by decide, by decide⟩, ⟨by decide, by decide⟩, ⟨by decide, by decide⟩, ⟨by decide, by decide⟩, ⟨by decide, by decide⟩, ⟨by decide, by decide⟩, ⟨by decide, by decide⟩, ⟨by decide, by decide⟩, ⟨by decide, by decide⟩, ⟨by decide, by decide⟩, ⟨by decide, by decide⟩, ⟨by decide, by decide⟩, ⟨by decide, by decide⟩⟩
  | 7, _ => ⟨13, 11, 7, 14, 12, 1, 3, 9, 5, 0, 15, 4, 8, 6, 2, 10, rfl, rfl, ⟨by decide, by decide⟩, ⟨by decide, by decide⟩, ⟨by decide, by decide⟩, ⟨by decide, by decide⟩, ⟨by decide, by decide⟩, ⟨by decide, by decide⟩, ⟨by decide, by decide⟩, ⟨by decide, by decide⟩, ⟨by decide, by decide⟩, ⟨by decide, by decide⟩, ⟨by decide, by decide⟩, ⟨by decide, by decide⟩, ⟨by decide, by decide⟩, ⟨by decide, by decide⟩, ⟨by decide, by decide⟩, ⟨by decide, by decide⟩⟩
  | 8, _ => ⟨6, 15, 14, 9, 11, 3, 0, 8, 12, 2, 13, 7, 1, 4, 10, 5, rfl, rfl, ⟨by decide, by decide⟩, ⟨by decide, by decide⟩, ⟨by decide, by decide⟩, ⟨by decide, by decide⟩, ⟨by decide, by decide⟩, ⟨by decide, by decide⟩, ⟨by decide, by decide⟩, ⟨by decide, by decide⟩, ⟨by decide, by decide⟩, ⟨by decide, by decide⟩, ⟨by decide, by decide⟩, ⟨by decide, by decide⟩, ⟨by decide, by decide⟩, ⟨by decide, by decide⟩, ⟨by decide, by decide⟩, ⟨by decide, by decide⟩⟩
  | 9, _ => ⟨10, 2, 8, 4, 7, 6, 1, 5, 15, 11, 9, 14, 3, 12, 13, 0, rfl, rfl, ⟨by decide, by decide⟩, ⟨by decide, by decide⟩, ⟨by decide, by decide⟩, ⟨by decide, by decide⟩, ⟨by decide, by decide⟩, ⟨by decide, by decide⟩, ⟨by decide, by decide⟩, ⟨by decide, by decide⟩, ⟨by decide, by decide⟩, ⟨by decide, by decide⟩, ⟨by decide, by decide⟩, ⟨by decide, by decide⟩, ⟨by decide, by decide⟩, ⟨by decide, by decide⟩, ⟨by decide, by decide⟩, ⟨by decide, by decide⟩⟩
  | k + 10, h => absurd h (by omega)
theorem has_rowsV : Has (.arr 10 (.arr 16 .cell)) (.agg rowsV) := has_arr rfl fun v hv => by
  obtain ⟨l, hl, rfl⟩ := List.mem_map.1 hv
  have key : ∀ l ∈ rowsL, l.length = 16 := by decide
  exact has_arrMap (key l hl) (fun x => has_int _ _)
theorem tab0 : tabOf (.pointer (some ⟨0, 0, none⟩)) = some (.arr 8 .cell, .agg (VW 8 iv)) := by rw [← eightL_eq]; rfl
theorem tab1 : tabOf (.pointer (some ⟨1, 0, none⟩)) = some (.arr 10 (.arr 16 .cell), .agg rowsV) := rfl
theorem ptake_own (h : Nat → W32) (w : List UInt8) (hw : w.length = 64) (f n : Nat) (hn : n < 9223372036854775808) (last : Bool) : SpecO Tryd.prog 81 stSh (encSt h w f n) [.bool last] (encSt (takeF h w n last) w f n) (.tup []) := by
  have hH8 : ∀ u, Has (.arr 8 .cell) (.agg (VW 8 u)) := has_VW 8
  have hH16 : ∀ u, Has (.arr 16 .cell) (.agg (VW 16 u)) := has_VW 16
  have a8 : ∀ x : W32, IntKind.u32.wrap ((x.toNat : Int) * 2 ^ (min 8 IntKind.u32.bits)) = ((x <<< 8).toNat : Int) := fun x => w_shl x 8 (by decide)
  have a16 : ∀ x : W32, IntKind.u32.wrap ((x.toNat : Int) * 2 ^ (min 16 IntKind.u32.bits)) = ((x <<< 16).toNat : Int) := fun x => w_shl x 16 (by decide)
  have a24 : ∀ x : W32, IntKind.u32.wrap ((x.toNat : Int) * 2 ^ (min 24 IntKind.u32.bits)) = ((x <<< 24).toNat : Int) := fun x => w_shl x 24 (by decide)
  have hnR := nls_rowsV
  have hw2 : (w.map encB).length = 64 := by rw [List.length_map, hw]
  unfold SpecO encSt
  refine ok_body Tryd.func81 rfl rfl (by kernel_rfl) (k := 2) rfl (by decide) ?_
  repeat' (first|(with_reducible first|refine yrl (by constructor) ?_|refine jk (fun M hM=>?_)|(refine hM _ ?_;clear hM M)|refine xb3 (by decide) ?_|refine yqa (by assumption) ?_ ?_|refine yqb (by assumption) ?_ ?_)|((with_reducible refine je ?_)<;>(first|rfl|assumption|(simp only [znl,nls_VW];(first|done|fail))))|(with_reducible refine jf (by (simp only [↓reduceIte,zlk,Nat.reduceEqDiff,reduceCtorEq]);exact rfl) ?_)|((with_reducible first|refine jg (fun hc=>?_) (fun hc=>?_)|refine jh (fun hc=>?_) (fun hc=>?_))<;>(try simp (disch:=omega) only [zhb] at hc)<;>(try (exfalso;omega))<;>(try subst hc))|(with_reducible refine ji (by omega) ?_)|(simp (config := { maxSteps := 400000 }) only [↓jt,↓reduceIte,zvs,reduceCtorEq,Nat.reduceEqDiff,Nat.reduceAdd,Nat.reduceLeDiff,Nat.reduceMul,Int.reduceBNe,Int.reduceBEq,Int.reduceEq,Int.reduceNe,Int.reduceLT,Int.reduceLE,Int.reduceGT,Int.reduceGE,Int.reduceNeg,Int.reduceToNat,Nat.reduceLT,Nat.reduceSub,tab,hH8,hH16,VW_len,Tryd.results81,List.toList_toArray])|(simp (disch:=omega) only [ziw]))
  refine ok_loop (fun k : Nat => ⟨slots [(0, .ptr 0 []), (1, .bool last), (4, .ptr 1 []), (13, .int .i64 k)],
    rows [(0, .row stSh (.agg [.agg (VW 8 h), .agg (w.map encB), .int .i64 (f : Int), .int .u64 (n : Int)])), (1, .row (.arr 16 .cell) (.agg (VW 16 (upW (wordAt w) k))))], 2⟩) (fun k => k ≤ 16) (fun k => 16 - k) 0 ?_ (by omega) (fun k hk => ?_)
  · (refine yrn [(1, 1)] false ?_ ?_<;>(repeat' (first|(with_reducible first|exact ya1|exact ya2|exact ya3|refine jx rfl (by first|rfl|assumption|(simp only [znl,nls_VW];(first|done|fail)))|exact ya5|exact ya7|exact jy|exact jz|refine jA ?_|refine ya9 ?_ ?_ ?_|refine jC rfl (by first|rfl|assumption|(simp only [znl,nls_VW];(first|done|fail)))|refine MR.agg (MRL.cons ?_ ?_)|refine MR.fn ?_|refine MRL.cons ?_ ?_|exact MRL.nil|refine jE ?_ ?_|exact jF|exact jG|refine yb1 ?_ ?_|refine MB.row ?_|refine jI ?_ ?_|exact ya8|refine jJ rfl (by first|rfl|assumption|(simp only [znl,nls_VW];(first|done|fail)))|refine yb2 ?_|rfl)|(simp only [znl,nls_VW];(first|done|fail))|(simp only [↓reduceIte,zlk,Nat.reduceEqDiff,reduceCtorEq])|(with_reducible first|refine jJ ?_ ?_|refine ya5 ?_|refine ju ?_|refine jv ?_|refine jw ?_|refine jx ?_ (by first|rfl|assumption|(simp only [znl,nls_VW];(first|done|fail)))|refine jC ?_ (by first|rfl|assumption|(simp only [znl,nls_VW];(first|done|fail)))))))
    all_goals (first | rfl | exact upW_zero _ _ | trace_state)
  by_cases hlt : k < 16
  · have t0 : (4 * (k : Int)).toNat = 4 * k := by omega
    have t1 : (4 * (k : Int) + 1).toNat = 4 * k + 1 := by omega
    have t2 : (4 * (k : Int) + 2).toNat = 4 * k + 2 := by omega
    have t3 : (4 * (k : Int) + 3).toNat = 4 * k + 3 := by omega
    have g16 : ∀ u, (VW 16 u)[k]? = some (.int .u32 ((u k).toNat : Int)) := fun u => VW_get hlt
    have s3 : (VW 16 (upW (wordAt w) k)).set k (.int .u32 ((zx (w.getD (4 * k) 0) ||| zx (w.getD (4 * k + 1) 0) <<< 8 ||| zx (w.getD (4 * k + 2) 0) <<< 16 ||| zx (w.getD (4 * k + 3) 0) <<< 24).toNat : Int)) = VW 16 (upW (wordAt w) (k + 1)) := by
      rw [VW_set]
      exact upW_set 16 k (wordAt w) _ (word_or _ _ _ _)
    repeat' (first|(with_reducible first|refine yrl (by constructor) ?_|refine jk (fun M hM=>?_)|(refine hM _ ?_;clear hM M)|refine xb3 (by decide) ?_|refine yqa (by assumption) ?_ ?_|refine yqb (by assumption) ?_ ?_)|((with_reducible refine je ?_)<;>(first|rfl|assumption|(simp only [znl,nls_VW];(first|done|fail))))|(with_reducible refine jf (by (simp only [↓reduceIte,zlk,Nat.reduceEqDiff,reduceCtorEq]);exact rfl) ?_)|((with_reducible first|refine jg (fun hc=>?_) (fun hc=>?_)|refine jh (fun hc=>?_) (fun hc=>?_))<;>(try simp (disch:=omega) only [zhb] at hc)<;>(try (exfalso;omega))<;>(try subst hc))|(with_reducible refine ji (by omega) ?_)|(simp (config := { maxSteps := 400000 }) only [↓jt,↓reduceIte,zvs,reduceCtorEq,Nat.reduceEqDiff,Nat.reduceAdd,Nat.reduceLeDiff,Nat.reduceMul,Int.reduceBNe,Int.reduceBEq,Int.reduceEq,Int.reduceNe,Int.reduceLT,Int.reduceLE,Int.reduceGT,Int.reduceGE,Int.reduceNeg,Int.reduceToNat,Nat.reduceLT,Nat.reduceSub,tab,hH8,hH16,VW_len,Tryd.results81,List.toList_toArray])|(simp (disch:=omega) only [ziw]))
    refine ok_drawC 39 (by kernel_rfl) (by decide +kernel) (by intro m hm; simp only [upd_ap,rows_cons,rows_nil]; (repeat (first | rfl | rw [if_neg (by omega)]))) (fun M hM => ?_); simp only [List.take_succ_cons,List.take_zero,List.drop_succ_cons,List.drop_zero]
    repeat' (first|(with_reducible first|refine yrl (by constructor) ?_|refine jk (fun M hM=>?_)|(refine hM _ ?_;clear hM M)|refine xb3 (by decide) ?_|refine yqa (by assumption) ?_ ?_|refine yqb (by assumption) ?_ ?_)|((with_reducible refine je ?_)<;>(first|rfl|assumption|(simp only [znl,nls_VW];(first|done|fail))))|(with_reducible refine jf (by (simp only [↓reduceIte,zlk,Nat.reduceEqDiff,reduceCtorEq]);exact rfl) ?_)|((with_reducible first|refine jg (fun hc=>?_) (fun hc=>?_)|refine jh (fun hc=>?_) (fun hc=>?_))<;>(try simp (disch:=omega) only [zhb] at hc)<;>(try (exfalso;omega))<;>(try subst hc))|(with_reducible refine ji (by omega) ?_)|(simp (config := { maxSteps := 400000 }) only [↓jt,↓reduceIte,zvs,reduceCtorEq,Nat.reduceEqDiff,Nat.reduceAdd,Nat.reduceLeDiff,Nat.reduceMul,Int.reduceBNe,Int.reduceBEq,Int.reduceEq,Int.reduceNe,Int.reduceLT,Int.reduceLE,Int.reduceGT,Int.reduceGE,Int.reduceNeg,Int.reduceToNat,Nat.reduceLT,Nat.reduceSub,tab,encB,hH8,hH16,VW_len,g16,s3,t0,t1,t2,t3,w_zx,a8,a16,a24,w_or,Tryd.results81,List.toList_toArray])|(simp (disch:=omega) only [ziw]))
    all_goals first
      | (exfalso; omega)
      | (refine xl1 (k + 1) ?_ (by show k + 1 ≤ 16; omega) (by show 16 - (k + 1) < 16 - k; omega); (refine yrn [(1, 1)] false ?_ ?_<;>(repeat' (first|(with_reducible first|exact ya1|exact ya2|exact ya3|refine jx rfl (by first|rfl|assumption|(simp only [znl,nls_VW];(first|done|fail)))|exact ya5|exact ya7|exact jy|exact jz|refine jA ?_|refine ya9 ?_ ?_ ?_|refine jC rfl (by first|rfl|assumption|(simp only [znl,nls_VW];(first|done|fail)))|refine MR.agg (MRL.cons ?_ ?_)|refine MR.fn ?_|refine MRL.cons ?_ ?_|exact MRL.nil|refine jE ?_ ?_|exact jF|exact jG|refine yb1 ?_ ?_|refine MB.row ?_|refine jI ?_ ?_|exact ya8|refine jJ rfl (by first|rfl|assumption|(simp only [znl,nls_VW];(first|done|fail)))|refine yb2 ?_|rfl)|(simp only [znl,nls_VW];(first|done|fail))|(simp only [↓reduceIte,zlk,Nat.reduceEqDiff,reduceCtorEq])|(with_reducible first|refine jJ ?_ ?_|refine ya5 ?_|refine ju ?_|refine jv ?_|refine jw ?_|refine jx ?_ (by first|rfl|assumption|(simp only [znl,nls_VW];(first|done|fail)))|refine jC ?_ (by first|rfl|assumption|(simp only [znl,nls_VW];(first|done|fail))))))); all_goals (first | rfl | trace_state); done)
      | trace_state
  obtain rfl : k = 16 := by omega
  repeat' (first|(with_reducible first|refine yrl (by constructor) ?_|refine jk (fun M hM=>?_)|(refine hM _ ?_;clear hM M)|refine xb3 (by decide) ?_|refine yqa (by assumption) ?_ ?_|refine yqb (by assumption) ?_ ?_)|((with_reducible refine je ?_)<;>(first|rfl|assumption|(simp only [znl,nls_VW];(first|done|fail))))|(with_reducible refine jf (by (simp only [↓reduceIte,zlk,Nat.reduceEqDiff,reduceCtorEq]);exact rfl) ?_)|((with_reducible first|refine jg (fun hc=>?_) (fun hc=>?_)|refine jh (fun hc=>?_) (fun hc=>?_))<;>(try simp (disch:=omega) only [zhb] at hc)<;>(try (exfalso;omega))<;>(try subst hc))|(with_reducible refine ji (by omega) ?_)|(simp (config := { maxSteps := 400000 }) only [↓jt,↓reduceIte,zvs,reduceCtorEq,Nat.reduceEqDiff,Nat.reduceAdd,Nat.reduceLeDiff,Nat.reduceMul,Int.reduceBNe,Int.reduceBEq,Int.reduceEq,Int.reduceNe,Int.reduceLT,Int.reduceLE,Int.reduceGT,Int.reduceGE,Int.reduceNeg,Int.reduceToNat,Nat.reduceLT,Nat.reduceSub,tab,hH8,hH16,VW_len,Tryd.results81,List.toList_toArray])|(simp (disch:=omega) only [ziw]))
  refine ok_drawC 5 (by kernel_rfl) (by decide +kernel) (by intro m hm; simp only [upd_ap,rows_cons,rows_nil]; (repeat (first | rfl | rw [if_neg (by omega)]))) (fun M hM => ?_); simp only [List.take_succ_cons,List.take_zero,List.drop_succ_cons,List.drop_zero]
  repeat' (first|(with_reducible first|refine yrl (by constructor) ?_|refine jk (fun M hM=>?_)|(refine hM _ ?_;clear hM M)|refine xb3 (by decide) ?_|refine yqa (by assumption) ?_ ?_|refine yqb (by assumption) ?_ ?_)|((with_reducible refine je ?_)<;>(first|rfl|assumption|(simp only [znl,nls_VW];(first|done|fail))))|(with_reducible refine jf (by (simp only [↓reduceIte,zlk,Nat.reduceEqDiff,reduceCtorEq]);exact rfl) ?_)|((with_reducible first|refine jg (fun hc=>?_) (fun hc=>?_)|refine jh (fun hc=>?_) (fun hc=>?_))<;>(try simp (disch:=omega) only [zhb] at hc)<;>(try (exfalso;omega))<;>(try subst hc))|(with_reducible refine ji (by omega) ?_)|(simp (config := { maxSteps := 400000 }) only [↓jt,↓reduceIte,zvs,reduceCtorEq,Nat.reduceEqDiff,Nat.reduceAdd,Nat.reduceLeDiff,Nat.reduceMul,Int.reduceBNe,Int.reduceBEq,Int.reduceEq,Int.reduceNe,Int.reduceLT,Int.reduceLE,Int.reduceGT,Int.reduceGE,Int.reduceNeg,Int.reduceToNat,Nat.reduceLT,Nat.reduceSub,tab,tab0,hH8,hH16,VW_len,Tryd.results81,List.toList_toArray])|(simp (disch:=omega) only [ziw]))
  refine ok_loop (fun k : Nat => ⟨slots [(0, .ptr 0 []), (1, .bool last), (4, .ptr 1 []), (7, .ptr 2 []), (64, .agg (VW 8 iv)), (65, .int .i64 k)],
    rows [(0, .row stSh (.agg [.agg (VW 8 h), .agg (w.map encB), .int .i64 (f : Int), .int .u64 (n : Int)])), (1, .row (.arr 16 .cell) (.agg (VW 16 (wordAt w)))), (2, .row (.arr 16 .cell) (.agg (VW 16 (upW (v0F h) (8 + k)))))], 3⟩) (fun k => k ≤ 8) (fun k => 8 - k) 0 ?_ (by omega) (fun k hk => ?_)
  · (refine yrn [(1, 1), (2, 2)] false ?_ ?_<;>(repeat' (first|(with_reducible first|exact ya1|exact ya2|exact ya3|refine jx rfl (by first|rfl|assumption|(simp only [znl,nls_VW];(first|done|fail)))|exact ya5|exact ya7|exact jy|exact jz|refine jA ?_|refine ya9 ?_ ?_ ?_|refine jC rfl (by first|rfl|assumption|(simp only [znl,nls_VW];(first|done|fail)))|refine MR.agg (MRL.cons ?_ ?_)|refine MR.fn ?_|refine MRL.cons ?_ ?_|exact MRL.nil|refine jE ?_ ?_|exact jF|exact jG|refine yb1 ?_ ?_|refine MB.row ?_|refine jI ?_ ?_|exact ya8|refine jJ rfl (by first|rfl|assumption|(simp only [znl,nls_VW];(first|done|fail)))|refine yb2 ?_|rfl)|(simp only [znl,nls_VW];(first|done|fail))|(simp only [↓reduceIte,zlk,Nat.reduceEqDiff,reduceCtorEq])|(with_reducible first|refine jJ ?_ ?_|refine ya5 ?_|refine ju ?_|refine jv ?_|refine jw ?_|refine jx ?_ (by first|rfl|assumption|(simp only [znl,nls_VW];(first|done|fail)))|refine jC ?_ (by first|rfl|assumption|(simp only [znl,nls_VW];(first|done|fail)))))))
    all_goals (first | rfl | exact upW_all _ _ | exact copy_eq _ | trace_state)
  by_cases hlt : k < 8
  · have g8 : ∀ u, (VW 8 u)[k]? = some (.int .u32 ((u k).toNat : Int)) := fun u => VW_get hlt
    have g16 : ∀ u, (VW 16 u)[8 + k]? = some (.int .u32 ((u (8 + k)).toNat : Int)) := fun u => VW_get (by omega)
    have t8 : (8 + (k : Int)).toNat = 8 + k := by omega
    have s2 : (VW 16 (upW (v0F h) (8 + k))).set (8 + k) (.int .u32 ((iv k).toNat : Int)) = VW 16 (upW (v0F h) (8 + (k + 1))) := by
      rw [VW_set]
      exact upW_set 16 (8 + k) (v0F h) _ (by simp only [v0F]; rw [if_neg (by omega), Nat.add_sub_cancel_left])
    repeat' (first|(with_reducible first|refine yrl (by constructor) ?_|refine jk (fun M hM=>?_)|(refine hM _ ?_;clear hM M)|refine xb3 (by decide) ?_|refine yqa (by assumption) ?_ ?_|refine yqb (by assumption) ?_ ?_)|((with_reducible refine je ?_)<;>(first|rfl|assumption|(simp only [znl,nls_VW];(first|done|fail))))|(with_reducible refine jf (by (simp only [↓reduceIte,zlk,Nat.reduceEqDiff,reduceCtorEq]);exact rfl) ?_)|((with_reducible first|refine jg (fun hc=>?_) (fun hc=>?_)|refine jh (fun hc=>?_) (fun hc=>?_))<;>(try simp (disch:=omega) only [zhb] at hc)<;>(try (exfalso;omega))<;>(try subst hc))|(with_reducible refine ji (by omega) ?_)|(simp (config := { maxSteps := 400000 }) only [↓jt,↓reduceIte,zvs,reduceCtorEq,Nat.reduceEqDiff,Nat.reduceAdd,Nat.reduceLeDiff,Nat.reduceMul,Int.reduceBNe,Int.reduceBEq,Int.reduceEq,Int.reduceNe,Int.reduceLT,Int.reduceLE,Int.reduceGT,Int.reduceGE,Int.reduceNeg,Int.reduceToNat,Nat.reduceLT,Nat.reduceSub,tab,g8,g16,t8,s2,hH8,hH16,VW_len,Tryd.results81,List.toList_toArray])|(simp (disch:=omega) only [ziw]))
    all_goals first
      | (exfalso; omega)
      | (refine xl1 (k + 1) ?_ (by show k + 1 ≤ 8; omega) (by show 8 - (k + 1) < 8 - k; omega); (refine yrn [(1, 1), (2, 2)] false ?_ ?_<;>(repeat' (first|(with_reducible first|exact ya1|exact ya2|exact ya3|refine jx rfl (by first|rfl|assumption|(simp only [znl,nls_VW];(first|done|fail)))|exact ya5|exact ya7|exact jy|exact jz|refine jA ?_|refine ya9 ?_ ?_ ?_|refine jC rfl (by first|rfl|assumption|(simp only [znl,nls_VW];(first|done|fail)))|refine MR.agg (MRL.cons ?_ ?_)|refine MR.fn ?_|refine MRL.cons ?_ ?_|exact MRL.nil|refine jE ?_ ?_|exact jF|exact jG|refine yb1 ?_ ?_|refine MB.row ?_|refine jI ?_ ?_|exact ya8|refine jJ rfl (by first|rfl|assumption|(simp only [znl,nls_VW];(first|done|fail)))|refine yb2 ?_|rfl)|(simp only [znl,nls_VW];(first|done|fail))|(simp only [↓reduceIte,zlk,Nat.reduceEqDiff,reduceCtorEq])|(with_reducible first|refine jJ ?_ ?_|refine ya5 ?_|refine ju ?_|refine jv ?_|refine jw ?_|refine jx ?_ (by first|rfl|assumption|(simp only [znl,nls_VW];(first|done|fail)))|refine jC ?_ (by first|rfl|assumption|(simp only [znl,nls_VW];(first|done|fail))))))); all_goals (first | rfl | trace_state); done)
      | trace_state
  obtain rfl : k = 8 := by omega
  obtain ⟨U, hU⟩ : ∃ U, U = initV h n last := ⟨_, rfl⟩
  obtain ⟨m, hm⟩ : ∃ m, m = wordAt w := ⟨_, rfl⟩
  have hR0 : takeF h w n last = outH h (roundsV m U 10) 8 := by rw [hU, hm]; rfl
  rw [hR0, ← hm]
  clear hR0 hm
  have g12 : ∀ u, (VW 16 u)[12]? = some (.int .u32 ((u 12).toNat : Int)) := fun u => VW_get (by omega)
  have g13 : ∀ u, (VW 16 u)[13]? = some (.int .u32 ((u 13).toNat : Int)) := fun u => VW_get (by omega)
  have g14 : ∀ u, (VW 16 u)[14]? = some (.int .u32 ((u 14).toNat : Int)) := fun u => VW_get (by omega)
  have q0 := w_hi2 n hn
  have q1 := w_lo2 n
  repeat' (first|(with_reducible first|refine yrl (by constructor) ?_|refine jk (fun M hM=>?_)|(refine hM _ ?_;clear hM M)|refine xb3 (by decide) ?_|refine yqa (by assumption) ?_ ?_|refine yqb (by assumption) ?_ ?_)|((with_reducible refine je ?_)<;>(first|rfl|assumption|(simp only [znl,nls_VW];(first|done|fail))))|(with_reducible refine jf (by (simp only [↓reduceIte,zlk,Nat.reduceEqDiff,reduceCtorEq]);exact rfl) ?_)|((with_reducible first|refine jg (fun hc=>?_) (fun hc=>?_)|refine jh (fun hc=>?_) (fun hc=>?_))<;>(try simp (disch:=omega) only [zhb] at hc)<;>(try (exfalso;omega))<;>(try subst hc))|(with_reducible refine ji (by omega) ?_)|(simp (config := { maxSteps := 400000 }) only [↓jt,↓reduceIte,zvs,reduceCtorEq,Nat.reduceEqDiff,Nat.reduceAdd,Nat.reduceLeDiff,Nat.reduceMul,Int.reduceBNe,Int.reduceBEq,Int.reduceEq,Int.reduceNe,Int.reduceLT,Int.reduceLE,Int.reduceGT,Int.reduceGE,Int.reduceNeg,Int.reduceToNat,Nat.reduceLT,Nat.reduceSub,tab,hH8,hH16,VW_len,Tryd.results81,List.toList_toArray])|(simp (disch:=omega) only [ziw]))
  refine ok_drawC 9 (by kernel_rfl) (by decide +kernel) (by intro m hm; simp only [upd_ap,rows_cons,rows_nil]; (repeat (first | rfl | rw [if_neg (by omega)]))) (fun M hM => ?_); simp only [List.take_succ_cons,List.take_zero,List.drop_succ_cons,List.drop_zero]
  repeat' (first|(with_reducible first|refine yrl (by constructor) ?_|refine jk (fun M hM=>?_)|(refine hM _ ?_;clear hM M)|refine xb3 (by decide) ?_|refine yqa (by assumption) ?_ ?_|refine yqb (by assumption) ?_ ?_)|((with_reducible refine je ?_)<;>(first|rfl|assumption|(simp only [znl,nls_VW];(first|done|fail))))|(with_reducible refine jf (by (simp only [↓reduceIte,zlk,Nat.reduceEqDiff,reduceCtorEq]);exact rfl) ?_)|((with_reducible first|refine jg (fun hc=>?_) (fun hc=>?_)|refine jh (fun hc=>?_) (fun hc=>?_))<;>(try simp (disch:=omega) only [zhb] at hc)<;>(try (exfalso;omega))<;>(try subst hc))|(with_reducible refine ji (by omega) ?_)|(simp (config := { maxSteps := 400000 }) only [↓jt,↓reduceIte,zvs,reduceCtorEq,Nat.reduceEqDiff,Nat.reduceAdd,Nat.reduceLeDiff,Nat.reduceMul,Int.reduceBNe,Int.reduceBEq,Int.reduceEq,Int.reduceNe,Int.reduceLT,Int.reduceLE,Int.reduceGT,Int.reduceGE,Int.reduceNeg,Int.reduceToNat,Nat.reduceLT,Nat.reduceSub,tab,g12,q1,w_xor,VW_set,hH8,hH16,VW_len,Tryd.results81,List.toList_toArray])|(simp (disch:=omega) only [ziw]))
  refine ok_drawC 10 (by kernel_rfl) (by decide +kernel) (by intro m hm; simp only [upd_ap,rows_cons,rows_nil]; (repeat (first | rfl | rw [if_neg (by omega)]))) (fun M hM => ?_); simp only [List.take_succ_cons,List.take_zero,List.drop_succ_cons,List.drop_zero]
  repeat' (first|(with_reducible first|refine yrl (by constructor) ?_|refine jk (fun M hM=>?_)|(refine hM _ ?_;clear hM M)|refine xb3 (by decide) ?_|refine yqa (by assumption) ?_ ?_|refine yqb (by assumption) ?_ ?_)|((with_reducible refine je ?_)<;>(first|rfl|assumption|(simp only [znl,nls_VW];(first|done|fail))))|(with_reducible refine jf (by (simp only [↓reduceIte,zlk,Nat.reduceEqDiff,reduceCtorEq]);exact rfl) ?_)|((with_reducible first|refine jg (fun hc=>?_) (fun hc=>?_)|refine jh (fun hc=>?_) (fun hc=>?_))<;>(try simp (disch:=omega) only [zhb] at hc)<;>(try (exfalso;omega))<;>(try subst hc))|(with_reducible refine ji (by omega) ?_)|(simp (config := { maxSteps := 400000 }) only [↓jt,↓reduceIte,zvs,reduceCtorEq,Nat.reduceEqDiff,Nat.reduceAdd,Nat.reduceLeDiff,Nat.reduceMul,Int.reduceBNe,Int.reduceBEq,Int.reduceEq,Int.reduceNe,Int.reduceLT,Int.reduceLE,Int.reduceGT,Int.reduceGE,Int.reduceNeg,Int.reduceToNat,Nat.reduceLT,Nat.reduceSub,tab,tab1,g13,g14,q0,w_xor,w_com,VW_set,hH8,hH16,VW_len,Tryd.results81,List.toList_toArray])|(simp (disch:=omega) only [ziw]))
  all_goals (refine ok_loop (fun k : Nat => ⟨slots [(0, .ptr 0 []), (4, .ptr 1 []), (7, .ptr 2 []), (98, .agg rowsV), (99, .int .i64 k)],
    rows [(0, .row stSh (.agg [.agg (VW 8 h), .agg (w.map encB), .int .i64 (f : Int), .int .u64 (n : Int)])), (1, .row (.arr 16 .cell) (.agg (VW 16 m))), (2, .row (.arr 16 .cell) (.agg (VW 16 (roundsV m U k))))], 3⟩) (fun k => k ≤ 10) (fun k => 10 - k) 0 ?_ (by omega) (fun k hk => ?_))
  any_goals ((refine yrn [(1, 1), (2, 2)] false ?_ ?_<;>(repeat' (first|(with_reducible first|exact ya1|exact ya2|exact ya3|refine jx rfl (by first|rfl|assumption|(simp only [znl,nls_VW];(first|done|fail)))|exact ya5|exact ya7|exact jy|exact jz|refine jA ?_|refine ya9 ?_ ?_ ?_|refine jC rfl (by first|rfl|assumption|(simp only [znl,nls_VW];(first|done|fail)))|refine MR.agg (MRL.cons ?_ ?_)|refine MR.fn ?_|refine MRL.cons ?_ ?_|exact MRL.nil|refine jE ?_ ?_|exact jF|exact jG|refine yb1 ?_ ?_|refine MB.row ?_|refine jI ?_ ?_|exact ya8|refine jJ rfl (by first|rfl|assumption|(simp only [znl,nls_VW];(first|done|fail)))|refine yb2 ?_|rfl)|(simp only [znl,nls_VW];(first|done|fail))|(simp only [↓reduceIte,zlk,Nat.reduceEqDiff,reduceCtorEq])|(with_reducible first|refine jJ ?_ ?_|refine ya5 ?_|refine ju ?_|refine jv ?_|refine jw ?_|refine jx ?_ (by first|rfl|assumption|(simp only [znl,nls_VW];(first|done|fail)))|refine jC ?_ (by first|rfl|assumption|(simp only [znl,nls_VW];(first|done|fail))))))); all_goals (first | rfl | (rw [hU]; first | exact init_f _ _ | exact init_t _ _) | trace_state); done)
  all_goals (
    have hrl : rowsV.length = 10 := rfl
    have hasR := has_rowsV
    by_cases hlt : k < 10
    · obtain ⟨r0, r1, r2, r3, r4, r5, r6, r7, r8, r9, r10, r11, r12, r13, r14, r15, hrow, hs0, ⟨r0a, r0b⟩, ⟨r1a, r1b⟩, ⟨r2a, r2b⟩, ⟨r3a, r3b⟩, ⟨r4a, r4b⟩, ⟨r5a, r5b⟩, ⟨r6a, r6b⟩, ⟨r7a, r7b⟩, ⟨r8a, r8b⟩, ⟨r9a, r9b⟩, ⟨r10a, r10b⟩, ⟨r11a, r11b⟩, ⟨r12a, r12b⟩, ⟨r13a, r13b⟩, ⟨r14a, r14b⟩, ⟨r15a, r15b⟩⟩ := rowsV_at k hlt
      obtain ⟨s, hs⟩ : ∃ s, s = sigma.getD k default := ⟨_, rfl⟩
      have hsu : stepsV m s (roundsV m U k) 8 = roundsV m U (k + 1) := by rw [hs, roundsV_succ]
      rw [← hs] at hs0
      have gr0 : ∀ u, (VW 16 u)[r0.toNat]? = some (.int .u32 ((u r0.toNat).toNat : Int)) := fun u => VW_get (by omega)
      have gr1 : ∀ u, (VW 16 u)[r1.toNat]? = some (.int .u32 ((u r1.toNat).toNat : Int)) := fun u => VW_get (by omega)
      have gr2 : ∀ u, (VW 16 u)[r2.toNat]? = some (.int .u32 ((u r2.toNat).toNat : Int)) := fun u => VW_get (by omega)
      have gr3 : ∀ u, (VW 16 u)[r3.toNat]? = some (.int .u32 ((u r3.toNat).toNat : Int)) := fun u => VW_get (by omega)
      have gr4 : ∀ u, (VW 16 u)[r4.toNat]? = some (.int .u32 ((u r4.toNat).toNat : Int)) := fun u => VW_get (by omega)
      have gr5 : ∀ u, (VW 16 u)[r5.toNat]? = some (.int .u32 ((u r5.toNat).toNat : Int)) := fun u => VW_get (by omega)
      have gr6 : ∀ u, (VW 16 u)[r6.toNat]? = some (.int .u32 ((u r6.toNat).toNat : Int)) := fun u => VW_get (by omega)
      have gr7 : ∀ u, (VW 16 u)[r7.toNat]? = some (.int .u32 ((u r7.toNat).toNat : Int)) := fun u => VW_get (by omega)
      have gr8 : ∀ u, (VW 16 u)[r8.toNat]? = some (.int .u32 ((u r8.toNat).toNat : Int)) := fun u => VW_get (by omega)
      have gr9 : ∀ u, (VW 16 u)[r9.toNat]? = some (.int .u32 ((u r9.toNat).toNat : Int)) := fun u => VW_get (by omega)
      have gr10 : ∀ u, (VW 16 u)[r10.toNat]? = some (.int .u32 ((u r10.toNat).toNat : Int)) := fun u => VW_get (by omega)
      have gr11 : ∀ u, (VW 16 u)[r11.toNat]? = some (.int .u32 ((u r11.toNat).toNat : Int)) := fun u => VW_get (by omega)
      have gr12 : ∀ u, (VW 16 u)[r12.toNat]? = some (.int .u32 ((u r12.toNat).toNat : Int)) := fun u => VW_get (by omega)
      have gr13 : ∀ u, (VW 16 u)[r13.toNat]? = some (.int .u32 ((u r13.toNat).toNat : Int)) := fun u => VW_get (by omega)
      have gr14 : ∀ u, (VW 16 u)[r14.toNat]? = some (.int .u32 ((u r14.toNat).toNat : Int)) := fun u => VW_get (by omega)
      have gr15 : ∀ u, (VW 16 u)[r15.toNat]? = some (.int .u32 ((u r15.toNat).toNat : Int)) := fun u => VW_get (by omega)
      have hst0 : mixF (roundsV m U k) (0 : Int).toNat (4 : Int).toNat (8 : Int).toNat (12 : Int).toNat (m r0.toNat) (m r1.toNat) = stepsV m s (roundsV m U k) 1 := by rw [← stepsV_succ, hs0]; rfl
      have hst1 : mixF (stepsV m s (roundsV m U k) 1) (1 : Int).toNat (5 : Int).toNat (9 : Int).toNat (13 : Int).toNat (m r2.toNat) (m r3.toNat) = stepsV m s (roundsV m U k) 2 := by rw [← stepsV_succ, hs0]; rfl
      have hst2 : mixF (stepsV m s (roundsV m U k) 2) (2 : Int).toNat (6 : Int).toNat (10 : Int).toNat (14 : Int).toNat (m r4.toNat) (m r5.toNat) = stepsV m s (roundsV m U k) 3 := by rw [← stepsV_succ, hs0]; rfl
      have hst3 : mixF (stepsV m s (roundsV m U k) 3) (3 : Int).toNat (7 : Int).toNat (11 : Int).toNat (15 : Int).toNat (m r6.toNat) (m r7.toNat) = stepsV m s (roundsV m U k) 4 := by rw [← stepsV_succ, hs0]; rfl
      have hst4 : mixF (stepsV m s (roundsV m U k) 4) (0 : Int).toNat (5 : Int).toNat (10 : Int).toNat (15 : Int).toNat (m r8.toNat) (m r9.toNat) = stepsV m s (roundsV m U k) 5 := by rw [← stepsV_succ, hs0]; rfl
      have hst5 : mixF (stepsV m s (roundsV m U k) 5) (1 : Int).toNat (6 : Int).toNat (11 : Int).toNat (12 : Int).toNat (m r10.toNat) (m r11.toNat) = stepsV m s (roundsV m U k) 6 := by rw [← stepsV_succ, hs0]; rfl
      have hst6 : mixF (stepsV m s (roundsV m U k) 6) (2 : Int).toNat (7 : Int).toNat (8 : Int).toNat (13 : Int).toNat (m r12.toNat) (m r13.toNat) = stepsV m s (roundsV m U k) 7 := by rw [← stepsV_succ, hs0]; rfl
      have hst7 : mixF (stepsV m s (roundsV m U k) 7) (3 : Int).toNat (4 : Int).toNat (9 : Int).toNat (14 : Int).toNat (m r14.toNat) (m r15.toNat) = stepsV m s (roundsV m U k) 8 := by rw [← stepsV_succ, hs0]; rfl
      have hra : Has (.arr 16 .cell) (.agg [.int .u8 r0, .int .u8 r1, .int .u8 r2, .int .u8 r3, .int .u8 r4, .int .u8 r5, .int .u8 r6, .int .u8 r7, .int .u8 r8, .int .u8 r9, .int .u8 r10, .int .u8 r11, .int .u8 r12, .int .u8 r13, .int .u8 r14, .int .u8 r15]) := has_arr rfl (by intro v hv; simp only [List.mem_cons,List.not_mem_nil,or_false] at hv; rcases hv with rfl | rfl | rfl | rfl | rfl | rfl | rfl | rfl | rfl | rfl | rfl | rfl | rfl | rfl | rfl | rfl <;> exact has_int _ _)
      repeat' (first|(with_reducible first|refine yrl (by constructor) ?_|refine jk (fun M hM=>?_)|(refine hM _ ?_;clear hM M)|refine xb3 (by decide) ?_|refine yqa (by assumption) ?_ ?_|refine yqb (by assumption) ?_ ?_)|((with_reducible refine je ?_)<;>(first|rfl|assumption|(simp only [znl,nls_VW];(first|done|fail))))|(with_reducible refine jf (by (simp only [↓reduceIte,zlk,Nat.reduceEqDiff,reduceCtorEq]);exact rfl) ?_)|((with_reducible first|refine jg (fun hc=>?_) (fun hc=>?_)|refine jh (fun hc=>?_) (fun hc=>?_))<;>(try simp (disch:=omega) only [zhb] at hc)<;>(try (exfalso;omega))<;>(try subst hc))|(with_reducible refine ji (by omega) ?_)|(simp (config := { maxSteps := 400000 }) only [↓jt,↓reduceIte,zvs,reduceCtorEq,Nat.reduceEqDiff,Nat.reduceAdd,Nat.reduceLeDiff,Nat.reduceMul,Int.reduceBNe,Int.reduceBEq,Int.reduceEq,Int.reduceNe,Int.reduceLT,Int.reduceLE,Int.reduceGT,Int.reduceGE,Int.reduceNeg,Int.reduceToNat,Nat.reduceLT,Nat.reduceSub,tab,hasR,hrow,hra,hH8,hH16,VW_len,Tryd.results81,List.toList_toArray])|(simp (disch:=omega) only [ziw]))
      refine ok_drawC 8 (by kernel_rfl) (by decide +kernel) (by intro m hm; simp only [upd_ap,rows_cons,rows_nil]; (repeat (first | rfl | rw [if_neg (by omega)]))) (fun M hM => ?_); simp only [List.take_succ_cons,List.take_zero,List.drop_succ_cons,List.drop_zero]
      repeat' (first|(with_reducible first|refine yrl (by constructor) ?_|refine jk (fun M hM=>?_)|(refine hM _ ?_;clear hM M)|refine xb3 (by decide) ?_|refine yqa (by assumption) ?_ ?_|refine yqb (by assumption) ?_ ?_)|((with_reducible refine je ?_)<;>(first|rfl|assumption|(simp only [znl,nls_VW];(first|done|fail))))|(with_reducible refine jf (by (simp only [↓reduceIte,zlk,Nat.reduceEqDiff,reduceCtorEq]);exact rfl) ?_)|((with_reducible first|refine jg (fun hc=>?_) (fun hc=>?_)|refine jh (fun hc=>?_) (fun hc=>?_))<;>(try simp (disch:=omega) only [zhb] at hc)<;>(try (exfalso;omega))<;>(try subst hc))|(with_reducible refine ji (by omega) ?_)|(simp (config := { maxSteps := 400000 }) only [↓jt,↓reduceIte,zvs,reduceCtorEq,Nat.reduceEqDiff,Nat.reduceAdd,Nat.reduceLeDiff,Nat.reduceMul,Int.reduceBNe,Int.reduceBEq,Int.reduceEq,Int.reduceNe,Int.reduceLT,Int.reduceLE,Int.reduceGT,Int.reduceGE,Int.reduceNeg,Int.reduceToNat,Nat.reduceLT,Nat.reduceSub,tab,gr0,gr1,hH8,hH16,VW_len,Tryd.results81,List.toList_toArray])|(simp (disch:=omega) only [ziw]))
      refine ja (call_own (pmix_own _ _ _ _ _ (by constructor <;> omega) (by constructor <;> omega) (by constructor <;> omega) (by constructor <;> omega) _ _) (by simp only [↓reduceIte,zlk,Nat.reduceEqDiff,reduceCtorEq]; exact rfl) (pl_VW _ _) (pl_VW _ _) rfl rfl ?_)
      rw [hst0]
      repeat' (first|(with_reducible first|refine yrl (by constructor) ?_|refine jk (fun M hM=>?_)|(refine hM _ ?_;clear hM M)|refine xb3 (by decide) ?_|refine yqa (by assumption) ?_ ?_|refine yqb (by assumption) ?_ ?_)|((with_reducible refine je ?_)<;>(first|rfl|assumption|(simp only [znl,nls_VW];(first|done|fail))))|(with_reducible refine jf (by (simp only [↓reduceIte,zlk,Nat.reduceEqDiff,reduceCtorEq]);exact rfl) ?_)|((with_reducible first|refine jg (fun hc=>?_) (fun hc=>?_)|refine jh (fun hc=>?_) (fun hc=>?_))<;>(try simp (disch:=omega) only [zhb] at hc)<;>(try (exfalso;omega))<;>(try subst hc))|(with_reducible refine ji (by omega) ?_)|(simp (config := { maxSteps := 400000 }) only [↓jt,↓reduceIte,zvs,reduceCtorEq,Nat.reduceEqDiff,Nat.reduceAdd,Nat.reduceLeDiff,Nat.reduceMul,Int.reduceBNe,Int.reduceBEq,Int.reduceEq,Int.reduceNe,Int.reduceLT,Int.reduceLE,Int.reduceGT,Int.reduceGE,Int.reduceNeg,Int.reduceToNat,Nat.reduceLT,Nat.reduceSub,tab,hH8,hH16,VW_len,Tryd.results81,List.toList_toArray])|(simp (disch:=omega) only [ziw]))
      refine ok_drawC 8 (by kernel_rfl) (by decide +kernel) (by intro m hm; simp only [upd_ap,rows_cons,rows_nil]; (repeat (first | rfl | rw [if_neg (by omega)]))) (fun M hM => ?_); simp only [List.take_succ_cons,List.take_zero,List.drop_succ_cons,List.drop_zero]
      repeat' (first|(with_reducible first|refine yrl (by constructor) ?_|refine jk (fun M hM=>?_)|(refine hM _ ?_;clear hM M)|refine xb3 (by decide) ?_|refine yqa (by assumption) ?_ ?_|refine yqb (by assumption) ?_ ?_)|((with_reducible refine je ?_)<;>(first|rfl|assumption|(simp only [znl,nls_VW];(first|done|fail))))|(with_reducible refine jf (by (simp only [↓reduceIte,zlk,Nat.reduceEqDiff,reduceCtorEq]);exact rfl) ?_)|((with_reducible first|refine jg (fun hc=>?_) (fun hc=>?_)|refine jh (fun hc=>?_) (fun hc=>?_))<;>(try simp (disch:=omega) only [zhb] at hc)<;>(try (exfalso;omega))<;>(try subst hc))|(with_reducible refine ji (by omega) ?_)|(simp (config := { maxSteps := 400000 }) only [↓jt,↓reduceIte,zvs,reduceCtorEq,Nat.reduceEqDiff,Nat.reduceAdd,Nat.reduceLeDiff,Nat.reduceMul,Int.reduceBNe,Int.reduceBEq,Int.reduceEq,Int.reduceNe,Int.reduceLT,Int.reduceLE,Int.reduceGT,Int.reduceGE,Int.reduceNeg,Int.reduceToNat,Nat.reduceLT,Nat.reduceSub,tab,gr2,gr3,hH8,hH16,VW_len,Tryd.results81,List.toList_toArray])|(simp (disch:=omega) only [ziw]))
      refine ja (call_own (pmix_own _ _ _ _ _ (by constructor <;> omega) (by constructor <;> omega) (by constructor <;> omega) (by constructor <;> omega) _ _) (by simp only [↓reduceIte,zlk,Nat.reduceEqDiff,reduceCtorEq]; exact rfl) (pl_VW _ _) (pl_VW _ _) rfl rfl ?_)
      rw [hst1]
      repeat' (first|(with_reducible first|refine yrl (by constructor) ?_|refine jk (fun M hM=>?_)|(refine hM _ ?_;clear hM M)|refine xb3 (by decide) ?_|refine yqa (by assumption) ?_ ?_|refine yqb (by assumption) ?_ ?_)|((with_reducible refine je ?_)<;>(first|rfl|assumption|(simp only [znl,nls_VW];(first|done|fail))))|(with_reducible refine jf (by (simp only [↓reduceIte,zlk,Nat.reduceEqDiff,reduceCtorEq]);exact rfl) ?_)|((with_reducible first|refine jg (fun hc=>?_) (fun hc=>?_)|refine jh (fun hc=>?_) (fun hc=>?_))<;>(try simp (disch:=omega) only [zhb] at hc)<;>(try (exfalso;omega))<;>(try subst hc))|(with_reducible refine ji (by omega) ?_)|(simp (config := { maxSteps := 400000 }) only [↓jt,↓reduceIte,zvs,reduceCtorEq,Nat.reduceEqDiff,Nat.reduceAdd,Nat.reduceLeDiff,Nat.reduceMul,Int.reduceBNe,Int.reduceBEq,Int.reduceEq,Int.reduceNe,Int.reduceLT,Int.reduceLE,Int.reduceGT,Int.reduceGE,Int.reduceNeg,Int.reduceToNat,Nat.reduceLT,Nat.reduceSub,tab,hH8,hH16,VW_len,Tryd.results81,List.toList_toArray])|(simp (disch:=omega) only [ziw]))
      refine ok_drawC 8 (by kernel_rfl) (by decide +kernel) (by intro m hm; simp only [upd_ap,rows_cons,rows_nil]; (repeat (first | rfl | rw [if_neg (by omega)]))) (fun M hM => ?_); simp only [List.take_succ_cons,List.take_zero,List.drop_succ_cons,List.drop_zero]
      repeat' (first|(with_reducible first|refine yrl (by constructor) ?_|refine jk (fun M hM=>?_)|(refine hM _ ?_;clear hM M)|refine xb3 (by decide) ?_|refine yqa (by assumption) ?_ ?_|refine yqb (by assumption) ?_ ?_)|((with_reducible refine je ?_)<;>(first|rfl|assumption|(simp only [znl,nls_VW];(first|done|fail))))|(with_reducible refine jf (by (simp only [↓reduceIte,zlk,Nat.reduceEqDiff,reduceCtorEq]);exact rfl) ?_)|((with_reducible first|refine jg (fun hc=>?_) (fun hc=>?_)|refine jh (fun hc=>?_) (fun hc=>?_))<;>(try simp (disch:=omega) only [zhb] at hc)<;>(try (exfalso;omega))<;>(try subst hc))|(with_reducible refine ji (by omega) ?_)|(simp (config := { maxSteps := 400000 }) only [↓jt,↓reduceIte,zvs,reduceCtorEq,Nat.reduceEqDiff,Nat.reduceAdd,Nat.reduceLeDiff,Nat.reduceMul,Int.reduceBNe,Int.reduceBEq,Int.reduceEq,Int.reduceNe,Int.reduceLT,Int.reduceLE,Int.reduceGT,Int.reduceGE,Int.reduceNeg,Int.reduceToNat,Nat.reduceLT,Nat.reduceSub,tab,gr4,gr5,hH8,hH16,VW_len,Tryd.results81,List.toList_toArray])|(simp (disch:=omega) only [ziw]))
      refine ja (call_own (pmix_own _ _ _ _ _ (by constructor <;> omega) (by constructor <;> omega) (by constructor <;> omega) (by constructor <;> omega) _ _) (by simp only [↓reduceIte,zlk,Nat.reduceEqDiff,reduceCtorEq]; exact rfl) (pl_VW _ _) (pl_VW _ _) rfl rfl ?_)
      rw [hst2]
      repeat' (first|(with_reducible first|refine yrl (by constructor) ?_|refine jk (fun M hM=>?_)|(refine hM _ ?_;clear hM M)|refine xb3 (by decide) ?_|refine yqa (by assumption) ?_ ?_|refine yqb (by assumption) ?_ ?_)|((with_reducible refine je ?_)<;>(first|rfl|assumption|(simp only [znl,nls_VW];(first|done|fail))))|(with_reducible refine jf (by (simp only [↓reduceIte,zlk,Nat.reduceEqDiff,reduceCtorEq]);exact rfl) ?_)|((with_reducible first|refine jg (fun hc=>?_) (fun hc=>?_)|refine jh (fun hc=>?_) (fun hc=>?_))<;>(try simp (disch:=omega) only [zhb] at hc)<;>(try (exfalso;omega))<;>(try subst hc))|(with_reducible refine ji (by omega) ?_)|(simp (config := { maxSteps := 400000 }) only [↓jt,↓reduceIte,zvs,reduceCtorEq,Nat.reduceEqDiff,Nat.reduceAdd,Nat.reduceLeDiff,Nat.reduceMul,Int.reduceBNe,Int.reduceBEq,Int.reduceEq,Int.reduceNe,Int.reduceLT,Int.reduceLE,Int.reduceGT,Int.reduceGE,Int.reduceNeg,Int.reduceToNat,Nat.reduceLT,Nat.reduceSub,tab,hH8,hH16,VW_len,Tryd.results81,List.toList_toArray])|(simp (disch:=omega) only [ziw]))
      refine ok_drawC 8 (by kernel_rfl) (by decide +kernel) (by intro m hm; simp only [upd_ap,rows_cons,rows_nil]; (repeat (first | rfl | rw [if_neg (by omega)]))) (fun M hM => ?_); simp only [List.take_succ_cons,List.take_zero,List.drop_succ_cons,List.drop_zero]
      repeat' (first|(with_reducible first|refine yrl (by constructor) ?_|refine jk (fun M hM=>?_)|(refine hM _ ?_;clear hM M)|refine xb3 (by decide) ?_|refine yqa (by assumption) ?_ ?_|refine yqb (by assumption) ?_ ?_)|((with_reducible refine je ?_)<;>(first|rfl|assumption|(simp only [znl,nls_VW];(first|done|fail))))|(with_reducible refine jf (by (simp only [↓reduceIte,zlk,Nat.reduceEqDiff,reduceCtorEq]);exact rfl) ?_)|((with_reducible first|refine jg (fun hc=>?_) (fun hc=>?_)|refine jh (fun hc=>?_) (fun hc=>?_))<;>(try simp (disch:=omega) only [zhb] at hc)<;>(try (exfalso;omega))<;>(try subst hc))|(with_reducible refine ji (by omega) ?_)|(simp (config := { maxSteps := 400000 }) only [↓jt,↓reduceIte,zvs,reduceCtorEq,Nat.reduceEqDiff,Nat.reduceAdd,Nat.reduceLeDiff,Nat.reduceMul,Int.reduceBNe,Int.reduceBEq,Int.reduceEq,Int.reduceNe,Int.reduceLT,Int.reduceLE,Int.reduceGT,Int.reduceGE,Int.reduceNeg,Int.reduceToNat,Nat.reduceLT,Nat.reduceSub,tab,gr6,gr7,hH8,hH16,VW_len,Tryd.results81,List.toList_toArray])|(simp (disch:=omega) only [ziw]))
      refine ja (call_own (pmix_own _ _ _ _ _ (by constructor <;> omega) (by constructor <;> omega) (by constructor <;> omega) (by constructor <;> omega) _ _) (by simp only [↓reduceIte,zlk,Nat.reduceEqDiff,reduceCtorEq]; exact rfl) (pl_VW _ _) (pl_VW _ _) rfl rfl ?_)
      rw [hst3]
      repeat' (first|(with_reducible first|refine yrl (by constructor) ?_|refine jk (fun M hM=>?_)|(refine hM _ ?_;clear hM M)|refine xb3 (by decide) ?_|refine yqa (by assumption) ?_ ?_|refine yqb (by assumption) ?_ ?_)|((with_reducible refine je ?_)<;>(first|rfl|assumption|(simp only [znl,nls_VW];(first|done|fail))))|(with_reducible refine jf (by (simp only [↓reduceIte,zlk,Nat.reduceEqDiff,reduceCtorEq]);exact rfl) ?_)|((with_reducible first|refine jg (fun hc=>?_) (fun hc=>?_)|refine jh (fun hc=>?_) (fun hc=>?_))<;>(try simp (disch:=omega) only [zhb] at hc)<;>(try (exfalso;omega))<;>(try subst hc))|(with_reducible refine ji (by omega) ?_)|(simp (config := { maxSteps := 400000 }) only [↓jt,↓reduceIte,zvs,reduceCtorEq,Nat.reduceEqDiff,Nat.reduceAdd,Nat.reduceLeDiff,Nat.reduceMul,Int.reduceBNe,Int.reduceBEq,Int.reduceEq,Int.reduceNe,Int.reduceLT,Int.reduceLE,Int.reduceGT,Int.reduceGE,Int.reduceNeg,Int.reduceToNat,Nat.reduceLT,Nat.reduceSub,tab,hH8,hH16,VW_len,Tryd.results81,List.toList_toArray])|(simp (disch:=omega) only [ziw]))
      refine ok_drawC 8 (by kernel_rfl) (by decide +kernel) (by intro m hm; simp only [upd_ap,rows_cons,rows_nil]; (repeat (first | rfl | rw [if_neg (by omega)]))) (fun M hM => ?_); simp only [List.take_succ_cons,List.take_zero,List.drop_succ_cons,List.drop_zero]
      repeat' (first|(with_reducible first|refine yrl (by constructor) ?_|refine jk (fun M hM=>?_)|(refine hM _ ?_;clear hM M)|refine xb3 (by decide) ?_|refine yqa (by assumption) ?_ ?_|refine yqb (by assumption) ?_ ?_)|((with_reducible refine je ?_)<;>(first|rfl|assumption|(simp only [znl,nls_VW];(first|done|fail))))|(with_reducible refine jf (by (simp only [↓reduceIte,zlk,Nat.reduceEqDiff,reduceCtorEq]);exact rfl) ?_)|((with_reducible first|refine jg (fun hc=>?_) (fun hc=>?_)|refine jh (fun hc=>?_) (fun hc=>?_))<;>(try simp (disch:=omega) only [zhb] at hc)<;>(try (exfalso;omega))<;>(try subst hc))|(with_reducible refine ji (by omega) ?_)|(simp (config := { maxSteps := 400000 }) only [↓jt,↓reduceIte,zvs,reduceCtorEq,Nat.reduceEqDiff,Nat.reduceAdd,Nat.reduceLeDiff,Nat.reduceMul,Int.reduceBNe,Int.reduceBEq,Int.reduceEq,Int.reduceNe,Int.reduceLT,Int.reduceLE,Int.reduceGT,Int.reduceGE,Int.reduceNeg,Int.reduceToNat,Nat.reduceLT,Nat.reduceSub,tab,gr8,gr9,hH8,hH16,VW_len,Tryd.results81,List.toList_toArray])|(simp (disch:=omega) only [ziw]))
      refine ja (call_own (pmix_own _ _ _ _ _ (by constructor <;> omega) (by constructor <;> omega) (by constructor <;> omega) (by constructor <;> omega) _ _) (by simp only [↓reduceIte,zlk,Nat.reduceEqDiff,reduceCtorEq]; exact rfl) (pl_VW _ _) (pl_VW _ _) rfl rfl ?_)
      rw [hst4]
      repeat' (first|(with_reducible first|refine yrl (by constructor) ?_|refine jk (fun M hM=>?_)|(refine hM _ ?_;clear hM M)|refine xb3 (by decide) ?_|refine yqa (by assumption) ?_ ?_|refine yqb (by assumption) ?_ ?_)|((with_reducible refine je ?_)<;>(first|rfl|assumption|(simp only [znl,nls_VW];(first|done|fail))))|(with_reducible refine jf (by (simp only [↓reduceIte,zlk,Nat.reduceEqDiff,reduceCtorEq]);exact rfl) ?_)|((with_reducible first|refine jg (fun hc=>?_) (fun hc=>?_)|refine jh (fun hc=>?_) (fun hc=>?_))<;>(try simp (disch:=omega) only [zhb] at hc)<;>(try (exfalso;omega))<;>(try subst hc))|(with_reducible refine ji (by omega) ?_)|(simp (config := { maxSteps := 400000 }) only [↓jt,↓reduceIte,zvs,reduceCtorEq,Nat.reduceEqDiff,Nat.reduceAdd,Nat.reduceLeDiff,Nat.reduceMul,Int.reduceBNe,Int.reduceBEq,Int.reduceEq,Int.reduceNe,Int.reduceLT,Int.reduceLE,Int.reduceGT,Int.reduceGE,Int.reduceNeg,Int.reduceToNat,Nat.reduceLT,Nat.reduceSub,tab,hH8,hH16,VW_len,Tryd.results81,List.toList_toArray])|(simp (disch:=omega) only [ziw]))
      refine ok_drawC 8 (by kernel_rfl) (by decide +kernel) (by intro m hm; simp only [upd_ap,rows_cons,rows_nil]; (repeat (first | rfl | rw [if_neg (by omega)]))) (fun M hM => ?_); simp only [List.take_succ_cons,List.take_zero,List.drop_succ_cons,List.drop_zero]
      repeat' (first|(with_reducible first|refine yrl (by constructor) ?_|refine jk (fun M hM=>?_)|(refine hM _ ?_;clear hM M)|refine xb3 (by decide) ?_|refine yqa (by assumption) ?_ ?_|refine yqb (by assumption) ?_ ?_)|((with_reducible refine je ?_)<;>(first|rfl|assumption|(simp only [znl,nls_VW];(first|done|fail))))|(with_reducible refine jf (by (simp only [↓reduceIte,zlk,Nat.reduceEqDiff,reduceCtorEq]);exact rfl) ?_)|((with_reducible first|refine jg (fun hc=>?_) (fun hc=>?_)|refine jh (fun hc=>?_) (fun hc=>?_))<;>(try simp (disch:=omega) only [zhb] at hc)<;>(try (exfalso;omega))<;>(try subst hc))|(with_reducible refine ji (by omega) ?_)|(simp (config := { maxSteps := 400000 }) only [↓jt,↓reduceIte,zvs,reduceCtorEq,Nat.reduceEqDiff,Nat.reduceAdd,Nat.reduceLeDiff,Nat.reduceMul,Int.reduceBNe,Int.reduceBEq,Int.reduceEq,Int.reduceNe,Int.reduceLT,Int.reduceLE,Int.reduceGT,Int.reduceGE,Int.reduceNeg,Int.reduceToNat,Nat.reduceLT,Nat.reduceSub,tab,gr10,gr11,hH8,hH16,VW_len,Tryd.results81,List.toList_toArray])|(simp (disch:=omega) only [ziw]))
      refine ja (call_own (pmix_own _ _ _ _ _ (by constructor <;> omega) (by constructor <;> omega) (by constructor <;> omega) (by constructor <;> omega) _ _) (by simp only [↓reduceIte,zlk,Nat.reduceEqDiff,reduceCtorEq]; exact rfl) (pl_VW _ _) (pl_VW _ _) rfl rfl ?_)
      rw [hst5]
      repeat' (first|(with_reducible first|refine yrl (by constructor) ?_|refine jk (fun M hM=>?_)|(refine hM _ ?_;clear hM M)|refine xb3 (by decide) ?_|refine yqa (by assumption) ?_ ?_|refine yqb (by assumption) ?_ ?_)|((with_reducible refine je ?_)<;>(first|rfl|assumption|(simp only [znl,nls_VW];(first|done|fail))))|(with_reducible refine jf (by (simp only [↓reduceIte,zlk,Nat.reduceEqDiff,reduceCtorEq]);exact rfl) ?_)|((with_reducible first|refine jg (fun hc=>?_) (fun hc=>?_)|refine jh (fun hc=>?_) (fun hc=>?_))<;>(try simp (disch:=omega) only [zhb] at hc)<;>(try (exfalso;omega))<;>(try subst hc))|(with_reducible refine ji (by omega) ?_)|(simp (config := { maxSteps := 400000 }) only [↓jt,↓reduceIte,zvs,reduceCtorEq,Nat.reduceEqDiff,Nat.reduceAdd,Nat.reduceLeDiff,Nat.reduceMul,Int.reduceBNe,Int.reduceBEq,Int.reduceEq,Int.reduceNe,Int.reduceLT,Int.reduceLE,Int.reduceGT,Int.reduceGE,Int.reduceNeg,Int.reduceToNat,Nat.reduceLT,Nat.reduceSub,tab,hH8,hH16,VW_len,Tryd.results81,List.toList_toArray])|(simp (disch:=omega) only [ziw]))
      refine ok_drawC 8 (by kernel_rfl) (by decide +kernel) (by intro m hm; simp only [upd_ap,rows_cons,rows_nil]; (repeat (first | rfl | rw [if_neg (by omega)]))) (fun M hM => ?_); simp only [List.take_succ_cons,List.take_zero,List.drop_succ_cons,List.drop_zero]
      repeat' (first|(with_reducible first|refine yrl (by constructor) ?_|refine jk (fun M hM=>?_)|(refine hM _ ?_;clear hM M)|refine xb3 (by decide) ?_|refine yqa (by assumption) ?_ ?_|refine yqb (by assumption) ?_ ?_)|((with_reducible refine je ?_)<;>(first|rfl|assumption|(simp only [znl,nls_VW];(first|done|fail))))|(with_reducible refine jf (by (simp only [↓reduceIte,zlk,Nat.reduceEqDiff,reduceCtorEq]);exact rfl) ?_)|((with_reducible first|refine jg (fun hc=>?_) (fun hc=>?_)|refine jh (fun hc=>?_) (fun hc=>?_))<;>(try simp (disch:=omega) only [zhb] at hc)<;>(try (exfalso;omega))<;>(try subst hc))|(with_reducible refine ji (by omega) ?_)|(simp (config := { maxSteps := 400000 }) only [↓jt,↓reduceIte,zvs,reduceCtorEq,Nat.reduceEqDiff,Nat.reduceAdd,Nat.reduceLeDiff,Nat.reduceMul,Int.reduceBNe,Int.reduceBEq,Int.reduceEq,Int.reduceNe,Int.reduceLT,Int.reduceLE,Int.reduceGT,Int.reduceGE,Int.reduceNeg,Int.reduceToNat,Nat.reduceLT,Nat.reduceSub,tab,gr12,gr13,hH8,hH16,VW_len,Tryd.results81,List.toList_toArray])|(simp (disch:=omega) only [ziw]))
      refine ja (call_own (pmix_own _ _ _ _ _ (by constructor <;> omega) (by constructor <;> omega) (by constructor <;> omega) (by constructor <;> omega) _ _) (by simp only [↓reduceIte,zlk,Nat.reduceEqDiff,reduceCtorEq]; exact rfl) (pl_VW _ _) (pl_VW _ _) rfl rfl ?_)
      rw [hst6]
      repeat' (first|(with_reducible first|refine yrl (by constructor) ?_|refine jk (fun M hM=>?_)|(refine hM _ ?_;clear hM M)|refine xb3 (by decide) ?_|refine yqa (by assumption) ?_ ?_|refine yqb (by assumption) ?_ ?_)|((with_reducible refine je ?_)<;>(first|rfl|assumption|(simp only [znl,nls_VW];(first|done|fail))))|(with_reducible refine jf (by (simp only [↓reduceIte,zlk,Nat.reduceEqDiff,reduceCtorEq]);exact rfl) ?_)|((with_reducible first|refine jg (fun hc=>?_) (fun hc=>?_)|refine jh (fun hc=>?_) (fun hc=>?_))<;>(try simp (disch:=omega) only [zhb] at hc)<;>(try (exfalso;omega))<;>(try subst hc))|(with_reducible refine ji (by omega) ?_)|(simp (config := { maxSteps := 400000 }) only [↓jt,↓reduceIte,zvs,reduceCtorEq,Nat.reduceEqDiff,Nat.reduceAdd,Nat.reduceLeDiff,Nat.reduceMul,Int.reduceBNe,Int.reduceBEq,Int.reduceEq,Int.reduceNe,Int.reduceLT,Int.reduceLE,Int.reduceGT,Int.reduceGE,Int.reduceNeg,Int.reduceToNat,Nat.reduceLT,Nat.reduceSub,tab,hH8,hH16,VW_len,Tryd.results81,List.toList_toArray])|(simp (disch:=omega) only [ziw]))
      refine ok_drawC 8 (by kernel_rfl) (by decide +kernel) (by intro m hm; simp only [upd_ap,rows_cons,rows_nil]; (repeat (first | rfl | rw [if_neg (by omega)]))) (fun M hM => ?_); simp only [List.take_succ_cons,List.take_zero,List.drop_succ_cons,List.drop_zero]
      repeat' (first|(with_reducible first|refine yrl (by constructor) ?_|refine jk (fun M hM=>?_)|(refine hM _ ?_;clear hM M)|refine xb3 (by decide) ?_|refine yqa (by assumption) ?_ ?_|refine yqb (by assumption) ?_ ?_)|((with_reducible refine je ?_)<;>(first|rfl|assumption|(simp only [znl,nls_VW];(first|done|fail))))|(with_reducible refine jf (by (simp only [↓reduceIte,zlk,Nat.reduceEqDiff,reduceCtorEq]);exact rfl) ?_)|((with_reducible first|refine jg (fun hc=>?_) (fun hc=>?_)|refine jh (fun hc=>?_) (fun hc=>?_))<;>(try simp (disch:=omega) only [zhb] at hc)<;>(try (exfalso;omega))<;>(try subst hc))|(with_reducible refine ji (by omega) ?_)|(simp (config := { maxSteps := 400000 }) only [↓jt,↓reduceIte,zvs,reduceCtorEq,Nat.reduceEqDiff,Nat.reduceAdd,Nat.reduceLeDiff,Nat.reduceMul,Int.reduceBNe,Int.reduceBEq,Int.reduceEq,Int.reduceNe,Int.reduceLT,Int.reduceLE,Int.reduceGT,Int.reduceGE,Int.reduceNeg,Int.reduceToNat,Nat.reduceLT,Nat.reduceSub,tab,gr14,gr15,hH8,hH16,VW_len,Tryd.results81,List.toList_toArray])|(simp (disch:=omega) only [ziw]))
      refine ja (call_own (pmix_own _ _ _ _ _ (by constructor <;> omega) (by constructor <;> omega) (by constructor <;> omega) (by constructor <;> omega) _ _) (by simp only [↓reduceIte,zlk,Nat.reduceEqDiff,reduceCtorEq]; exact rfl) (pl_VW _ _) (pl_VW _ _) rfl rfl ?_)
      rw [hst7, hsu]
      repeat' (first|(with_reducible first|refine yrl (by constructor) ?_|refine jk (fun M hM=>?_)|(refine hM _ ?_;clear hM M)|refine xb3 (by decide) ?_|refine yqa (by assumption) ?_ ?_|refine yqb (by assumption) ?_ ?_)|((with_reducible refine je ?_)<;>(first|rfl|assumption|(simp only [znl,nls_VW];(first|done|fail))))|(with_reducible refine jf (by (simp only [↓reduceIte,zlk,Nat.reduceEqDiff,reduceCtorEq]);exact rfl) ?_)|((with_reducible first|refine jg (fun hc=>?_) (fun hc=>?_)|refine jh (fun hc=>?_) (fun hc=>?_))<;>(try simp (disch:=omega) only [zhb] at hc)<;>(try (exfalso;omega))<;>(try subst hc))|(with_reducible refine ji (by omega) ?_)|(simp (config := { maxSteps := 400000 }) only [↓jt,↓reduceIte,zvs,reduceCtorEq,Nat.reduceEqDiff,Nat.reduceAdd,Nat.reduceLeDiff,Nat.reduceMul,Int.reduceBNe,Int.reduceBEq,Int.reduceEq,Int.reduceNe,Int.reduceLT,Int.reduceLE,Int.reduceGT,Int.reduceGE,Int.reduceNeg,Int.reduceToNat,Nat.reduceLT,Nat.reduceSub,tab,hH8,hH16,VW_len,Tryd.results81,List.toList_toArray])|(simp (disch:=omega) only [ziw]))
      all_goals (try (exfalso; omega))
      refine xl1 (k + 1) ?_ (by show k + 1 ≤ 10; omega) (by show 10 - (k + 1) < 10 - k; omega)
      (refine yrn [(1, 1), (2, 2)] false ?_ ?_<;>(repeat' (first|(with_reducible first|exact ya1|exact ya2|exact ya3|refine jx rfl (by first|rfl|assumption|(simp only [znl,nls_VW];(first|done|fail)))|exact ya5|exact ya7|exact jy|exact jz|refine jA ?_|refine ya9 ?_ ?_ ?_|refine jC rfl (by first|rfl|assumption|(simp only [znl,nls_VW];(first|done|fail)))|refine MR.agg (MRL.cons ?_ ?_)|refine MR.fn ?_|refine MRL.cons ?_ ?_|exact MRL.nil|refine jE ?_ ?_|exact jF|exact jG|refine yb1 ?_ ?_|refine MB.row ?_|refine jI ?_ ?_|exact ya8|refine jJ rfl (by first|rfl|assumption|(simp only [znl,nls_VW];(first|done|fail)))|refine yb2 ?_|rfl)|(simp only [znl,nls_VW];(first|done|fail))|(simp only [↓reduceIte,zlk,Nat.reduceEqDiff,reduceCtorEq])|(with_reducible first|refine jJ ?_ ?_|refine ya5 ?_|refine ju ?_|refine jv ?_|refine jw ?_|refine jx ?_ (by first|rfl|assumption|(simp only [znl,nls_VW];(first|done|fail)))|refine jC ?_ (by first|rfl|assumption|(simp only [znl,nls_VW];(first|done|fail)))))))
      all_goals (first | rfl | trace_state)
    obtain rfl : k = 10 := by omega
    obtain ⟨V, hV⟩ : ∃ V, V = roundsV m U 10 := ⟨_, rfl⟩
    rw [← hV]
    repeat' (first|(with_reducible first|refine yrl (by constructor) ?_|refine jk (fun M hM=>?_)|(refine hM _ ?_;clear hM M)|refine xb3 (by decide) ?_|refine yqa (by assumption) ?_ ?_|refine yqb (by assumption) ?_ ?_)|((with_reducible refine je ?_)<;>(first|rfl|assumption|(simp only [znl,nls_VW];(first|done|fail))))|(with_reducible refine jf (by (simp only [↓reduceIte,zlk,Nat.reduceEqDiff,reduceCtorEq]);exact rfl) ?_)|((with_reducible first|refine jg (fun hc=>?_) (fun hc=>?_)|refine jh (fun hc=>?_) (fun hc=>?_))<;>(try simp (disch:=omega) only [zhb] at hc)<;>(try (exfalso;omega))<;>(try subst hc))|(with_reducible refine ji (by omega) ?_)|(simp (config := { maxSteps := 400000 }) only [↓jt,↓reduceIte,zvs,reduceCtorEq,Nat.reduceEqDiff,Nat.reduceAdd,Nat.reduceLeDiff,Nat.reduceMul,Int.reduceBNe,Int.reduceBEq,Int.reduceEq,Int.reduceNe,Int.reduceLT,Int.reduceLE,Int.reduceGT,Int.reduceGE,Int.reduceNeg,Int.reduceToNat,Nat.reduceLT,Nat.reduceSub,tab,hH8,hH16,VW_len,Tryd.results81,List.toList_toArray])|(simp (disch:=omega) only [ziw]))
    all_goals (try (exfalso; omega))
    refine ok_loop (fun k : Nat => ⟨slots [(0, .ptr 0 []), (7, .ptr 2 []), (175, .int .i64 k)],
      rows [(0, .row stSh (.agg [.agg (VW 8 (outH h V k)), .agg (w.map encB), .int .i64 (f : Int), .int .u64 (n : Int)])), (2, .row (.arr 16 .cell) (.agg (VW 16 V)))], 3⟩) (fun k => k ≤ 8) (fun k => 8 - k) 0 ?_ (by omega) (fun k hk => ?_)
    · (refine yrn [(2, 2)] false ?_ ?_<;>(repeat' (first|(with_reducible first|exact ya1|exact ya2|exact ya3|refine jx rfl (by first|rfl|assumption|(simp only [znl,nls_VW];(first|done|fail)))|exact ya5|exact ya7|exact jy|exact jz|refine jA ?_|refine ya9 ?_ ?_ ?_|refine jC rfl (by first|rfl|assumption|(simp only [znl,nls_VW];(first|done|fail)))|refine MR.agg (MRL.cons ?_ ?_)|refine MR.fn ?_|refine MRL.cons ?_ ?_|exact MRL.nil|refine jE ?_ ?_|exact jF|exact jG|refine yb1 ?_ ?_|refine MB.row ?_|refine jI ?_ ?_|exact ya8|refine jJ rfl (by first|rfl|assumption|(simp only [znl,nls_VW];(first|done|fail)))|refine yb2 ?_|rfl)|(simp only [znl,nls_VW];(first|done|fail))|(simp only [↓reduceIte,zlk,Nat.reduceEqDiff,reduceCtorEq])|(with_reducible first|refine jJ ?_ ?_|refine ya5 ?_|refine ju ?_|refine jv ?_|refine jw ?_|refine jx ?_ (by first|rfl|assumption|(simp only [znl,nls_VW];(first|done|fail)))|refine jC ?_ (by first|rfl|assumption|(simp only [znl,nls_VW];(first|done|fail)))))))
      all_goals (first | rfl | (rw [outH_zero]; done) | (rw [hV]; done) | trace_state)
    by_cases hlt : k < 8
    · have g8 : ∀ u, (VW 8 u)[k]? = some (.int .u32 ((u k).toNat : Int)) := fun u => VW_get hlt
      have g16 : ∀ u, (VW 16 u)[k]? = some (.int .u32 ((u k).toNat : Int)) := fun u => VW_get (by omega)
      have g24 : ∀ u, (VW 16 u)[k + 8]? = some (.int .u32 ((u (k + 8)).toNat : Int)) := fun u => VW_get (by omega)
      have t8 : ((k : Int) + 8).toNat = k + 8 := by omega
      have hset : (VW 8 (outH h V k)).set k (.int .u32 ((outH h V k k ^^^ (V k ^^^ V (k + 8))).toNat : Int)) = VW 8 (outH h V (k + 1)) := by rw [← BitVec.xor_assoc, VW_set, outH_set]
      repeat' (first|(with_reducible first|refine yrl (by constructor) ?_|refine jk (fun M hM=>?_)|(refine hM _ ?_;clear hM M)|refine xb3 (by decide) ?_|refine yqa (by assumption) ?_ ?_|refine yqb (by assumption) ?_ ?_)|((with_reducible refine je ?_)<;>(first|rfl|assumption|(simp only [znl,nls_VW];(first|done|fail))))|(with_reducible refine jf (by (simp only [↓reduceIte,zlk,Nat.reduceEqDiff,reduceCtorEq]);exact rfl) ?_)|((with_reducible first|refine jg (fun hc=>?_) (fun hc=>?_)|refine jh (fun hc=>?_) (fun hc=>?_))<;>(try simp (disch:=omega) only [zhb] at hc)<;>(try (exfalso;omega))<;>(try subst hc))|(with_reducible refine ji (by omega) ?_)|(simp (config := { maxSteps := 400000 }) only [↓jt,↓reduceIte,zvs,reduceCtorEq,Nat.reduceEqDiff,Nat.reduceAdd,Nat.reduceLeDiff,Nat.reduceMul,Int.reduceBNe,Int.reduceBEq,Int.reduceEq,Int.reduceNe,Int.reduceLT,Int.reduceLE,Int.reduceGT,Int.reduceGE,Int.reduceNeg,Int.reduceToNat,Nat.reduceLT,Nat.reduceSub,tab,hH8,hH16,VW_len,Tryd.results81,List.toList_toArray])|(simp (disch:=omega) only [ziw]))
      refine ok_drawC 18 (by kernel_rfl) (by decide +kernel) (by intro m hm; simp only [upd_ap,rows_cons,rows_nil]; (repeat (first | rfl | rw [if_neg (by omega)]))) (fun M hM => ?_); simp only [List.take_succ_cons,List.take_zero,List.drop_succ_cons,List.drop_zero]
      repeat' (first|(with_reducible first|refine yrl (by constructor) ?_|refine jk (fun M hM=>?_)|(refine hM _ ?_;clear hM M)|refine xb3 (by decide) ?_|refine yqa (by assumption) ?_ ?_|refine yqb (by assumption) ?_ ?_)|((with_reducible refine je ?_)<;>(first|rfl|assumption|(simp only [znl,nls_VW];(first|done|fail))))|(with_reducible refine jf (by (simp only [↓reduceIte,zlk,Nat.reduceEqDiff,reduceCtorEq]);exact rfl) ?_)|((with_reducible first|refine jg (fun hc=>?_) (fun hc=>?_)|refine jh (fun hc=>?_) (fun hc=>?_))<;>(try simp (disch:=omega) only [zhb] at hc)<;>(try (exfalso;omega))<;>(try subst hc))|(with_reducible refine ji (by omega) ?_)|(simp (config := { maxSteps := 400000 }) only [↓jt,↓reduceIte,zvs,reduceCtorEq,Nat.reduceEqDiff,Nat.reduceAdd,Nat.reduceLeDiff,Nat.reduceMul,Int.reduceBNe,Int.reduceBEq,Int.reduceEq,Int.reduceNe,Int.reduceLT,Int.reduceLE,Int.reduceGT,Int.reduceGE,Int.reduceNeg,Int.reduceToNat,Nat.reduceLT,Nat.reduceSub,tab,hH8,hH16,VW_len,g8,g16,g24,t8,w_xor,hset,Tryd.results81,List.toList_toArray])|(simp (disch:=omega) only [ziw]))
      all_goals first
        | (exfalso; omega)
        | (refine xl1 (k + 1) ?_ (by show k + 1 ≤ 8; omega) (by show 8 - (k + 1) < 8 - k; omega); (refine yrn [(2, 2)] false ?_ ?_<;>(repeat' (first|(with_reducible first|exact ya1|exact ya2|exact ya3|refine jx rfl (by first|rfl|assumption|(simp only [znl,nls_VW];(first|done|fail)))|exact ya5|exact ya7|exact jy|exact jz|refine jA ?_|refine ya9 ?_ ?_ ?_|refine jC rfl (by first|rfl|assumption|(simp only [znl,nls_VW];(first|done|fail)))|refine MR.agg (MRL.cons ?_ ?_)|refine MR.fn ?_|refine MRL.cons ?_ ?_|exact MRL.nil|refine jE ?_ ?_|exact jF|exact jG|refine yb1 ?_ ?_|refine MB.row ?_|refine jI ?_ ?_|exact ya8|refine jJ rfl (by first|rfl|assumption|(simp only [znl,nls_VW];(first|done|fail)))|refine yb2 ?_|rfl)|(simp only [znl,nls_VW];(first|done|fail))|(simp only [↓reduceIte,zlk,Nat.reduceEqDiff,reduceCtorEq])|(with_reducible first|refine jJ ?_ ?_|refine ya5 ?_|refine ju ?_|refine jv ?_|refine jw ?_|refine jx ?_ (by first|rfl|assumption|(simp only [znl,nls_VW];(first|done|fail)))|refine jC ?_ (by first|rfl|assumption|(simp only [znl,nls_VW];(first|done|fail))))))); all_goals (first | rfl | trace_state); done)
        | trace_state
    obtain rfl : k = 8 := by omega
    repeat' (first|(with_reducible first|refine yrl (by constructor) ?_|refine jk (fun M hM=>?_)|(refine hM _ ?_;clear hM M)|refine xb3 (by decide) ?_|refine yqa (by assumption) ?_ ?_|refine yqb (by assumption) ?_ ?_)|((with_reducible refine je ?_)<;>(first|rfl|assumption|(simp only [znl,nls_VW];(first|done|fail))))|(with_reducible refine jf (by (simp only [↓reduceIte,zlk,Nat.reduceEqDiff,reduceCtorEq]);exact rfl) ?_)|((with_reducible first|refine jg (fun hc=>?_) (fun hc=>?_)|refine jh (fun hc=>?_) (fun hc=>?_))<;>(try simp (disch:=omega) only [zhb] at hc)<;>(try (exfalso;omega))<;>(try subst hc))|(with_reducible refine ji (by omega) ?_)|(simp (config := { maxSteps := 400000 }) only [↓jt,↓reduceIte,zvs,reduceCtorEq,Nat.reduceEqDiff,Nat.reduceAdd,Nat.reduceLeDiff,Nat.reduceMul,Int.reduceBNe,Int.reduceBEq,Int.reduceEq,Int.reduceNe,Int.reduceLT,Int.reduceLE,Int.reduceGT,Int.reduceGE,Int.reduceNeg,Int.reduceToNat,Nat.reduceLT,Nat.reduceSub,tab,hH8,hH16,VW_len,Tryd.results81,List.toList_toArray])|(simp (disch:=omega) only [ziw]))
    all_goals first
      | (exfalso; omega)
      | (exact ⟨rfl, rfl⟩)
      | rfl
      | trace_state)
end Go.Proofs.YtcilmfhncjfdbaaDoor.V
end
section
/-
  HASH, part 5: digests; plain, and by the document.
-/
set_option linter.unusedVariables false
set_option linter.unusedSimpArgs false
namespace Go.Proofs.YtcilmfhncjfdbaaDoor.V
open Go
set_option maxRecDepth 100000
-- nlx: nls_VW
set_option maxHeartbeats 4000000
def pad64 (s : List UInt8) : List UInt8 := s ++ List.replicate (64 - s.length) 0
def chain (h : Nat → W32) (n : Nat) (s : List UInt8) : Nat → W32 :=
  if 64 < s.length then chain (takeF h (s.take 64) (n + 64) false) (n + 64) (s.drop 64) else takeF h (pad64 s) (n + s.length) true
termination_by s.length
decreasing_by rw [List.length_drop]; omega
theorem chain_hi {h : Nat → W32} {n : Nat} {s : List UInt8} (hs : 64 < s.length) : chain h n s = chain (takeF h (s.take 64) (n + 64) false) (n + 64) (s.drop 64) := by rw [chain, if_pos hs]
theorem chain_lo {h : Nat → W32} {n : Nat} {s : List UInt8} (hs : ¬64 < s.length) : chain h n s = takeF h (pad64 s) (n + s.length) true := by rw [chain, if_neg hs]
def digB (h : Nat → W32) : List UInt8 := (List.range 32).map fun i => UInt8.ofNat ((h (i / 4)).toNat / 256 ^ (i % 4) % 256)
theorem digB_len (h : Nat → W32) : (digB h).length = 32 := by simp [digB]
theorem digB_at (h : Nat → W32) {i : Nat} (hi : i < 32) : (digB h).getD i 0 = UInt8.ofNat ((h (i / 4)).toNat / 256 ^ (i % 4) % 256) := by simp [digB, hi]
def h0F : Nat → W32 := fset iv 0 (iv 0 ^^^ 16842784#32)
def sumF (s : List UInt8) : List UInt8 := digB (chain h0F 0 s)
theorem sumF_len (s : List UInt8) : (sumF s).length = 32 := digB_len _
def upB (D : List UInt8) (k : Nat) : List UInt8 := D.take k ++ List.replicate (D.length - k) 0
theorem upB_len (D : List UInt8) {k : Nat} (h : k ≤ D.length) : (upB D k).length = D.length := by simp only [upB,List.length_append,List.length_take,List.length_replicate]; omega
theorem upB_all (D : List UInt8) : upB D D.length = D := by simp [upB]
theorem upB_set (D : List UInt8) {k : Nat} (h : k < D.length) : (upB D k).set k (D.getD k 0) = upB D (k + 1) := by
  refine List.ext_getElem (by rw [List.length_set, upB_len D (by omega), upB_len D h]) fun i h1 h2 => ?_
  rw [List.length_set, upB_len D (by omega)] at h1
  rw [List.getElem_set]
  have key : ∀ j (hj : j ≤ D.length) (hi : i < (upB D j).length), (upB D j)[i] = if i < j then D.getD i 0 else 0 := fun j hj hi => by
    simp only [upB]
    split
    · rename_i hij
      rw [List.getElem_append_left (by rw [List.length_take]; omega), List.getElem_take, List.getD_eq_getElem?_getD, List.getElem?_eq_getElem h1]; rfl
    · rename_i hij
      rw [List.getElem_append_right (by rw [List.length_take]; omega), List.getElem_replicate]
  rw [key (k + 1) h h2]
  by_cases e : k = i
  · rw [if_pos e, if_pos (by omega), e]
  · rw [if_neg e, key k (by omega)]
    by_cases e2 : i < k
    · rw [if_pos e2, if_pos (by omega)]
    · rw [if_neg e2, if_neg (by omega)]
theorem upB_zero (D : List UInt8) : List.replicate D.length (VV.int .u8 0) = (upB D 0).map encB := by simp [upB, encB]
theorem upB_zero32 (D : List UInt8) (h : D.length = 32) : List.replicate 32 (VV.int .u8 0) = (upB D 0).map encB := by rw [← upB_zero, h]
theorem upB_setV (D : List UInt8) {k : Nat} (h : k < D.length) {b : UInt8} (hb : b = D.getD k 0) : ((upB D k).map encB).set k (.int .u8 (b.toNat : Int)) = (upB D (k + 1)).map encB := by
  rw [← upB_set D h, List.map_set, hb]; rfl
theorem dig_byte (X : Nat) : IntKind.u8.wrap (((X % 256 : Nat) : Int)) = ((UInt8.ofNat (X % 256)).toNat : Int) := by
  have e : (UInt8.ofNat (X % 256)).toNat = X % 256 := by simp
  rw [e, IntKind.wrap_u8]
  omega
theorem flat_snoc (l : List (List UInt8)) {k : Nat} (h : k < l.length) : (l.take k).flatten ++ l.getD k [] = (l.take (k + 1)).flatten := by
  rw [List.take_succ_eq_append_getElem h, List.flatten_append, List.getD_eq_getElem?_getD, List.getElem?_eq_getElem h]; simp
theorem flat_take (l : List (List UInt8)) (k : Nat) : (l.take k).flatten.length ≤ l.flatten.length := by
  conv => rhs; rw [← List.take_append_drop k l]
  rw [List.flatten_append, List.length_append]; omega
end Go.Proofs.YtcilmfhncjfdbaaDoor.V
end
section
/-
  HASH, part 6: the document's digest and sum.
-/
set_option linter.unusedVariables false
set_option linter.unusedSimpArgs false
namespace Go.Proofs.YtcilmfhncjfdbaaDoor.V
open Go
set_option maxRecDepth 100000
-- nlx: nls_VW
set_option maxHeartbeats 8000000
theorem x_iv : bits .xor .u32 ((iv 0).toNat : Int) 16842784 = ((iv 0 ^^^ 16842784#32).toNat : Int) := w_xor (iv 0) 16842784#32
end Go.Proofs.YtcilmfhncjfdbaaDoor.V
end
section
/-
  HASH, part 7: the program's sum.
-/
set_option linter.unusedVariables false
set_option linter.unusedSimpArgs false
namespace Go.Proofs.YtcilmfhncjfdbaaDoor.V
open Go
set_option maxRecDepth 100000
-- nlx: nls_VW
set_option maxHeartbeats 8000000
structure StS where
  h : Nat → W32
  w : List UInt8
  f : Nat
  n : Nat
noncomputable def encS (s : StS) : VV := encSt s.h s.w s.f s.n
def fullS (s : StS) : StS := ⟨takeF s.h s.w (s.n + 64) false, s.w, 0, s.n + 64⟩
def partS (s : StS) (p : List UInt8) : StS := ⟨s.h, s.w.take s.f ++ p.take (64 - s.f) ++ s.w.drop (s.f + min p.length (64 - s.f)), s.f + min p.length (64 - s.f), s.n⟩
def addS (s : StS) (p : List UInt8) : StS :=
  if p = [] ∨ 64 < s.f then s else if s.f = 64 then addS (partS (fullS s) p) (p.drop (min p.length 64)) else addS (partS s p) (p.drop (min p.length (64 - s.f)))
termination_by p.length
decreasing_by
  all_goals
    rename_i h1 h2
    have h3 : p ≠ [] := fun e => h1 (.inl e)
    have h4 : 0 < p.length := List.length_pos_iff.2 h3
    have h5 : ¬64 < s.f := fun e => h1 (.inr e)
    rw [List.length_drop]
    omega
theorem addS_nil (s : StS) : addS s [] = s := by rw [addS, if_pos (.inl rfl)]
theorem addS_full {s : StS} {p : List UInt8} (hp : p ≠ []) (hs : s.f = 64) : addS s p = addS (partS (fullS s) p) (p.drop (min p.length 64)) := by
  rw [addS, if_neg (by rintro (h | h); exact hp h; omega), if_pos hs]
theorem addS_part {s : StS} {p : List UInt8} (hp : p ≠ []) (hs : s.f < 64) : addS s p = addS (partS s p) (p.drop (min p.length (64 - s.f))) := by
  rw [addS, if_neg (by rintro (h | h); exact hp h; omega), if_neg (by omega)]
structure StOk (s : StS) : Prop where
  w : s.w.length = 64
  f : s.f ≤ 64
theorem partS_ok {s : StS} (h : StOk s) (p : List UInt8) : StOk (partS s p) := by
  obtain ⟨h1, h2⟩ := h
  refine ⟨?_, ?_⟩
  · simp only [partS,List.length_append,List.length_take,List.length_drop]; omega
  · simp only [partS]; omega
theorem fullS_ok {s : StS} (h : StOk s) : StOk (fullS s) := ⟨h.w, Nat.zero_le _⟩
theorem addS_ok : ∀ (k : Nat) (s : StS) (p : List UInt8), p.length ≤ k → StOk s → StOk (addS s p) ∧ (addS s p).n + (addS s p).f = s.n + s.f + p.length ∧ ∀ rest, chain (addS s p).h (addS s p).n ((addS s p).w.take (addS s p).f ++ rest) = chain s.h s.n (s.w.take s.f ++ (p ++ rest))
  | 0, s, p, hp, hs => by
    have : p = [] := List.eq_nil_of_length_eq_zero (by omega)
    subst this
    rw [addS_nil]
    exact ⟨hs, by simp, fun rest => by simp⟩
  | k + 1, s, p, hp, hs => by
    by_cases h0 : p = []
    · subst h0
      rw [addS_nil]
      exact ⟨hs, by simp, fun rest => by simp⟩
    have hpl : 0 < p.length := List.length_pos_iff.2 h0
    have key : ∀ t : StS, StOk t → t.f < 64 → (partS t p).n + (partS t p).f = t.n + t.f + min p.length (64 - t.f) ∧ (partS t p).w.take (partS t p).f = t.w.take t.f ++ p.take (min p.length (64 - t.f)) := fun t ht hf => by
      obtain ⟨h1, h2⟩ := ht
      refine ⟨by simp only [partS]; omega, ?_⟩
      simp only [partS]
      have e : p.take (64 - t.f) = p.take (min p.length (64 - t.f)) := by
        rcases Nat.le_total p.length (64 - t.f) with h | h
        · rw [Nat.min_eq_left h, List.take_of_length_le h, List.take_length]
        · rw [Nat.min_eq_right h]
      rw [e, List.take_left' (by simp only [List.length_append,List.length_take]; omega)]
    by_cases hf : s.f = 64
    · rw [addS_full h0 hf]
      have hok := fullS_ok hs
      obtain ⟨i1, i2, i3⟩ := addS_ok k _ (p.drop (min p.length 64)) (by rw [List.length_drop]; omega) (partS_ok hok p)
      obtain ⟨k1, k2⟩ := key (fullS s) hok (by show (0 : Nat) < 64; omega)
      have hz : (fullS s).f = 0 := rfl
      have hzn : (fullS s).n = s.n + 64 := rfl
      rw [hz] at k1 k2
      refine ⟨i1, by rw [i2, k1, hzn, List.length_drop]; omega, fun rest => ?_⟩
      rw [i3 rest, k2, List.take_zero, List.nil_append, Nat.sub_zero, ← List.append_assoc, List.take_append_drop]
      have hw : s.w.take s.f = s.w := by rw [hf, ← hs.w]; exact List.take_length
      have hch := chain_hi (h := s.h) (n := s.n) (s := s.w ++ (p ++ rest)) (by simp only [List.length_append,hs.w]; omega)
      rw [hw, hch, List.take_left' hs.w, List.drop_left' hs.w]
      rfl
    · have hlt : s.f < 64 := Nat.lt_of_le_of_ne hs.f hf
      rw [addS_part h0 hlt]
      obtain ⟨i1, i2, i3⟩ := addS_ok k _ (p.drop (min p.length (64 - s.f))) (by rw [List.length_drop]; omega) (partS_ok hs p)
      obtain ⟨k1, k2⟩ := key s hs hlt
      refine ⟨i1, by rw [i2, k1, List.length_drop]; omega, fun rest => ?_⟩
      rw [i3 rest, k2, List.append_assoc, ← List.append_assoc (p.take _), List.take_append_drop]
      rfl
end Go.Proofs.YtcilmfhncjfdbaaDoor.V
end
section
/-
  HASH, part 8: the program's sum, walked.
-/
set_option linter.unusedVariables false
set_option linter.unusedSimpArgs false
namespace Go.Proofs.YtcilmfhncjfdbaaDoor.V
open Go
set_option maxRecDepth 100000
-- nlx: nls_VW
set_option maxHeartbeats 8000000
def st0 : StS := ⟨h0F, List.replicate 64 0, 0, 0⟩
theorem st0_ok : StOk st0 := ⟨by simp [st0], by simp [st0]⟩
theorem has_w {l : List UInt8} {n : Nat} (h : l.length = n) : Has (.arr n .cell) (.agg (l.map encB)) := has_arrMap h (fun x => has_int _ _)
theorem zero_w : List.replicate 64 (VV.int .u8 0) = (List.replicate 64 (0 : UInt8)).map encB := by simp [encB]
theorem pbegin_spec : Spec Tryd.prog 70 [.bool false] (encS st0) := by
  have hH8 : ∀ u, Has (.arr 8 .cell) (.agg (VW 8 u)) := has_VW 8
  have hHw := has_w (l := List.replicate 64 0) (n := 64) (by simp)
  have g0 : ∀ u, (VW 8 u)[0]? = some (.int .u32 ((u 0).toNat : Int)) := fun u => VW_get (by omega)
  have hx := x_iv
  have hz := zero_w
  have hs : (VW 8 iv).set 0 (.int .u32 ((iv 0 ^^^ 16842784#32).toNat : Int)) = VW 8 h0F := by rw [VW_set]; rfl
  refine spec_ok Tryd.func70 rfl rfl (by kernel_rfl) (k := 1) rfl (by decide) ?_
  repeat' (first|(with_reducible first|refine yrl (by constructor) ?_|refine jk (fun M hM=>?_)|(refine hM _ ?_;clear hM M)|refine xb3 (by decide) ?_|refine yqa (by assumption) ?_ ?_|refine yqb (by assumption) ?_ ?_)|((with_reducible refine je ?_)<;>(first|rfl|assumption|(simp only [znl,nls_VW];(first|done|fail))))|(with_reducible refine jf (by (simp only [↓reduceIte,zlk,Nat.reduceEqDiff,reduceCtorEq]);exact rfl) ?_)|((with_reducible first|refine jg (fun hc=>?_) (fun hc=>?_)|refine jh (fun hc=>?_) (fun hc=>?_))<;>(try simp (disch:=omega) only [zhb] at hc)<;>(try (exfalso;omega))<;>(try subst hc))|(with_reducible refine ji (by omega) ?_)|(simp (config := { maxSteps := 400000 }) only [↓jt,↓reduceIte,zvs,reduceCtorEq,Nat.reduceEqDiff,Nat.reduceAdd,Nat.reduceLeDiff,Nat.reduceMul,Int.reduceBNe,Int.reduceBEq,Int.reduceEq,Int.reduceNe,Int.reduceLT,Int.reduceLE,Int.reduceGT,Int.reduceGE,Int.reduceNeg,Int.reduceToNat,Nat.reduceLT,Nat.reduceSub,tab,tab0,hz,hHw,hH8,g0,hx,hs,VW_len,Tryd.results70,List.toList_toArray])|(simp (disch:=omega) only [ziw]))
  all_goals first
    | (exfalso; omega)
    | (((try simp only [encS,encSt,st0,List.map_nil]); simp only [zrds]; (repeat' (first | exact rd_nil | exact Rd.refl _ _ (by first|rfl|assumption|(simp only [znl,nls_VW];(first|done|fail))) | (refine And.intro ?_ ?_) | (refine rd_own (by (simp only [↓reduceIte,zlk,Nat.reduceEqDiff,reduceCtorEq]); exact rfl) ?_ ?_ ?_) | rfl | assumption | (simp only [znl,nls_VW];(first|done|fail)) | (simp; done) | (simp; omega)))); all_goals (first | exact RdL.refl _ _ (nls_mapB _) | exact RdL.refl _ _ (nls_VW _ _)); done)
    | trace_state
theorem padd_own (s : StS) (hs : StOk s) (p : List UInt8) (hb : s.n + s.f + p.length < 1099511627776) : SpecO Tryd.prog 71 stSh (encS s) [.str p] (encS (addS s p)) (.tup []) := by
  have hH8 : ∀ u, Has (.arr 8 .cell) (.agg (VW 8 u)) := has_VW 8
  obtain ⟨R, hR⟩ : ∃ R, R = addS s p := ⟨_, rfl⟩
  rw [← hR]
  unfold SpecO encS encSt
  refine ok_body Tryd.func71 rfl rfl (by kernel_rfl) (k := 2) rfl (by decide) ?_
  repeat' (first|(with_reducible first|refine yrl (by constructor) ?_|refine jk (fun M hM=>?_)|(refine hM _ ?_;clear hM M)|refine xb3 (by decide) ?_|refine yqa (by assumption) ?_ ?_|refine yqb (by assumption) ?_ ?_)|((with_reducible refine je ?_)<;>(first|rfl|assumption|(simp only [znl,nls_VW];(first|done|fail))))|(with_reducible refine jf (by (simp only [↓reduceIte,zlk,Nat.reduceEqDiff,reduceCtorEq]);exact rfl) ?_)|((with_reducible first|refine jg (fun hc=>?_) (fun hc=>?_)|refine jh (fun hc=>?_) (fun hc=>?_))<;>(try simp (disch:=omega) only [zhb] at hc)<;>(try (exfalso;omega))<;>(try subst hc))|(with_reducible refine ji (by omega) ?_)|(simp (config := { maxSteps := 400000 }) only [↓jt,↓reduceIte,zvs,reduceCtorEq,Nat.reduceEqDiff,Nat.reduceAdd,Nat.reduceLeDiff,Nat.reduceMul,Int.reduceBNe,Int.reduceBEq,Int.reduceEq,Int.reduceNe,Int.reduceLT,Int.reduceLE,Int.reduceGT,Int.reduceGE,Int.reduceNeg,Int.reduceToNat,Nat.reduceLT,Nat.reduceSub,tab,Tryd.results71,List.toList_toArray])|(simp (disch:=omega) only [ziw]))
  refine ok_loop (fun x : StS × List UInt8 => ⟨slots [(0, .ptr 0 []), (1, .str x.2)], rows [(0, .row stSh (.agg [.agg (VW 8 x.1.h), .agg (x.1.w.map encB), .int .i64 (x.1.f : Int), .int .u64 (x.1.n : Int)]))], 1⟩)
    (fun x => StOk x.1 ∧ addS x.1 x.2 = R ∧ x.1.n + x.1.f + x.2.length < 1099511627776) (fun x => x.2.length) (s, p) ?_ ⟨hs, hR.symm, hb⟩ (fun x hx => ?_)
  · (refine yrn [] false ?_ ?_<;>(repeat' (first|(with_reducible first|exact ya1|exact ya2|exact ya3|refine jx rfl (by first|rfl|assumption|(simp only [znl,nls_VW];(first|done|fail)))|exact ya5|exact ya7|exact jy|exact jz|refine jA ?_|refine ya9 ?_ ?_ ?_|refine jC rfl (by first|rfl|assumption|(simp only [znl,nls_VW];(first|done|fail)))|refine MR.agg (MRL.cons ?_ ?_)|refine MR.fn ?_|refine MRL.cons ?_ ?_|exact MRL.nil|refine jE ?_ ?_|exact jF|exact jG|refine yb1 ?_ ?_|refine MB.row ?_|refine jI ?_ ?_|exact ya8|refine jJ rfl (by first|rfl|assumption|(simp only [znl,nls_VW];(first|done|fail)))|refine yb2 ?_|rfl)|(simp only [znl,nls_VW];(first|done|fail))|(simp only [↓reduceIte,zlk,Nat.reduceEqDiff,reduceCtorEq])|(with_reducible first|refine jJ ?_ ?_|refine ya5 ?_|refine ju ?_|refine jv ?_|refine jw ?_|refine jx ?_ (by first|rfl|assumption|(simp only [znl,nls_VW];(first|done|fail)))|refine jC ?_ (by first|rfl|assumption|(simp only [znl,nls_VW];(first|done|fail)))))))
    all_goals (first | rfl | trace_state)
  clear hb hs hR s p
  obtain ⟨⟨h, w, f, n⟩, p⟩ := x
  obtain ⟨⟨hw, hf⟩, hR, hb⟩ := hx
  have hw : w.length = 64 := hw
  have hf : f ≤ 64 := hf
  have hb : n + f + p.length < 1099511627776 := hb
  by_cases hp : p = []
  · subst hp
    have hR : (⟨h, w, f, n⟩ : StS) = R := by rw [← hR]; exact (addS_nil _).symm
    subst hR
    repeat' (first|(with_reducible first|refine yrl (by constructor) ?_|refine jk (fun M hM=>?_)|(refine hM _ ?_;clear hM M)|refine xb3 (by decide) ?_|refine yqa (by assumption) ?_ ?_|refine yqb (by assumption) ?_ ?_)|((with_reducible refine je ?_)<;>(first|rfl|assumption|(simp only [znl,nls_VW];(first|done|fail))))|(with_reducible refine jf (by (simp only [↓reduceIte,zlk,Nat.reduceEqDiff,reduceCtorEq]);exact rfl) ?_)|((with_reducible first|refine jg (fun hc=>?_) (fun hc=>?_)|refine jh (fun hc=>?_) (fun hc=>?_))<;>(try simp (disch:=omega) only [zhb] at hc)<;>(try (exfalso;omega))<;>(try subst hc))|(with_reducible refine ji (by omega) ?_)|(simp (config := { maxSteps := 400000 }) only [↓jt,↓reduceIte,zvs,reduceCtorEq,Nat.reduceEqDiff,Nat.reduceAdd,Nat.reduceLeDiff,Nat.reduceMul,Int.reduceBNe,Int.reduceBEq,Int.reduceEq,Int.reduceNe,Int.reduceLT,Int.reduceLE,Int.reduceGT,Int.reduceGE,Int.reduceNeg,Int.reduceToNat,Nat.reduceLT,Nat.reduceSub,tab,Tryd.results71,List.toList_toArray])|(simp (disch:=omega) only [ziw]))
    all_goals first
      | (exfalso; simp at hc; done)
      | (exact ⟨rfl, rfl⟩)
      | rfl
      | trace_state
  have hpl : 0 < p.length := List.length_pos_iff.2 hp
  by_cases hf2 : f = 64
  · subst hf2
    have hR : addS (partS (fullS ⟨h, w, 64, n⟩) p) (p.drop (min p.length 64)) = R := by rw [← hR]; exact (addS_full hp rfl).symm
    have e1 : ((n : Int) + 64) = ((n + 64 : Nat) : Int) := by omega
    have e2 : IntKind.u64.wrap ((n + 64 : Nat) : Int) = ((n + 64 : Nat) : Int) := wraps_u64 _ (by omega) (by omega)
    repeat' (first|(with_reducible first|refine yrl (by constructor) ?_|refine jk (fun M hM=>?_)|(refine hM _ ?_;clear hM M)|refine xb3 (by decide) ?_|refine yqa (by assumption) ?_ ?_|refine yqb (by assumption) ?_ ?_)|((with_reducible refine je ?_)<;>(first|rfl|assumption|(simp only [znl,nls_VW];(first|done|fail))))|(with_reducible refine jf (by (simp only [↓reduceIte,zlk,Nat.reduceEqDiff,reduceCtorEq]);exact rfl) ?_)|((with_reducible first|refine jg (fun hc=>?_) (fun hc=>?_)|refine jh (fun hc=>?_) (fun hc=>?_))<;>(try simp (disch:=omega) only [zhb] at hc)<;>(try (exfalso;omega))<;>(try subst hc))|(with_reducible refine ji (by omega) ?_)|(simp (config := { maxSteps := 400000 }) only [↓jt,↓reduceIte,zvs,reduceCtorEq,Nat.reduceEqDiff,Nat.reduceAdd,Nat.reduceLeDiff,Nat.reduceMul,Int.reduceBNe,Int.reduceBEq,Int.reduceEq,Int.reduceNe,Int.reduceLT,Int.reduceLE,Int.reduceGT,Int.reduceGE,Int.reduceNeg,Int.reduceToNat,Nat.reduceLT,Nat.reduceSub,tab,e1,e2,Tryd.results71,List.toList_toArray])|(simp (disch:=omega) only [ziw]))
    all_goals (try (exfalso; omega))
    refine ja (call_own (ptake_own h w hw 64 (n + 64) (by omega) false) (by simp only [↓reduceIte,zlk,Nat.reduceEqDiff,reduceCtorEq]; exact rfl) (pl_encSt _ _ _ _) (pl_encSt _ _ _ _) rfl rfl ?_)
    repeat' (first|(with_reducible first|refine yrl (by constructor) ?_|refine jk (fun M hM=>?_)|(refine hM _ ?_;clear hM M)|refine xb3 (by decide) ?_|refine yqa (by assumption) ?_ ?_|refine yqb (by assumption) ?_ ?_)|((with_reducible refine je ?_)<;>(first|rfl|assumption|(simp only [znl,nls_VW];(first|done|fail))))|(with_reducible refine jf (by (simp only [↓reduceIte,zlk,Nat.reduceEqDiff,reduceCtorEq]);exact rfl) ?_)|((with_reducible first|refine jg (fun hc=>?_) (fun hc=>?_)|refine jh (fun hc=>?_) (fun hc=>?_))<;>(try simp (disch:=omega) only [zhb] at hc)<;>(try (exfalso;omega))<;>(try subst hc))|(with_reducible refine ji (by omega) ?_)|(simp (config := { maxSteps := 400000 }) only [↓jt,↓reduceIte,zvs,reduceCtorEq,Nat.reduceEqDiff,Nat.reduceAdd,Nat.reduceLeDiff,Nat.reduceMul,Int.reduceBNe,Int.reduceBEq,Int.reduceEq,Int.reduceNe,Int.reduceLT,Int.reduceLE,Int.reduceGT,Int.reduceGE,Int.reduceNeg,Int.reduceToNat,Nat.reduceLT,Nat.reduceSub,tab,encSt,Tryd.results71,List.toList_toArray])|(simp (disch:=omega) only [ziw]))
    all_goals (try (exfalso; omega))
    refine ok_drawC 9 (by kernel_rfl) (by decide +kernel) (by intro m hm; simp only [upd_ap,rows_cons,rows_nil]; (repeat (first | rfl | rw [if_neg (by omega)]))) (fun M hM => ?_); simp only [List.take_succ_cons,List.take_zero,List.drop_succ_cons,List.drop_zero]
    repeat' (first|(with_reducible first|refine yrl (by constructor) ?_|refine jk (fun M hM=>?_)|(refine hM _ ?_;clear hM M)|refine xb3 (by decide) ?_|refine yqa (by assumption) ?_ ?_|refine yqb (by assumption) ?_ ?_)|((with_reducible refine je ?_)<;>(first|rfl|assumption|(simp only [znl,nls_VW];(first|done|fail))))|(with_reducible refine jf (by (simp only [↓reduceIte,zlk,Nat.reduceEqDiff,reduceCtorEq]);exact rfl) ?_)|((with_reducible first|refine jg (fun hc=>?_) (fun hc=>?_)|refine jh (fun hc=>?_) (fun hc=>?_))<;>(try simp (disch:=omega) only [zhb] at hc)<;>(try (exfalso;omega))<;>(try subst hc))|(with_reducible refine ji (by omega) ?_)|(simp (config := { maxSteps := 400000 }) only [↓jt,↓reduceIte,zvs,reduceCtorEq,Nat.reduceEqDiff,Nat.reduceAdd,Nat.reduceLeDiff,Nat.reduceMul,Int.reduceBNe,Int.reduceBEq,Int.reduceEq,Int.reduceNe,Int.reduceLT,Int.reduceLE,Int.reduceGT,Int.reduceGE,Int.reduceNeg,Int.reduceToNat,Nat.reduceLT,Nat.reduceSub,tab,or_true,encSt,Tryd.results71,List.toList_toArray])|(simp (disch:=omega) only [ziw]))
    all_goals (try (exfalso; omega))
    refine xl1 (partS (fullS ⟨h, w, 64, n⟩) p, p.drop (min p.length 64)) ?_ ⟨partS_ok (fullS_ok ⟨hw, hf⟩) p, hR, by simp only [partS,fullS,List.length_drop]; omega⟩ (by show (p.drop (min p.length 64)).length < p.length; rw [List.length_drop]; omega)
    (refine yrn [] false ?_ ?_<;>(repeat' (first|(with_reducible first|exact ya1|exact ya2|exact ya3|refine jx rfl (by first|rfl|assumption|(simp only [znl,nls_VW];(first|done|fail)))|exact ya5|exact ya7|exact jy|exact jz|refine jA ?_|refine ya9 ?_ ?_ ?_|refine jC rfl (by first|rfl|assumption|(simp only [znl,nls_VW];(first|done|fail)))|refine MR.agg (MRL.cons ?_ ?_)|refine MR.fn ?_|refine MRL.cons ?_ ?_|exact MRL.nil|refine jE ?_ ?_|exact jF|exact jG|refine yb1 ?_ ?_|refine MB.row ?_|refine jI ?_ ?_|exact ya8|refine jJ rfl (by first|rfl|assumption|(simp only [znl,nls_VW];(first|done|fail)))|refine yb2 ?_|rfl)|(simp only [znl,nls_VW];(first|done|fail))|(simp only [↓reduceIte,zlk,Nat.reduceEqDiff,reduceCtorEq])|(with_reducible first|refine jJ ?_ ?_|refine ya5 ?_|refine ju ?_|refine jv ?_|refine jw ?_|refine jx ?_ (by first|rfl|assumption|(simp only [znl,nls_VW];(first|done|fail)))|refine jC ?_ (by first|rfl|assumption|(simp only [znl,nls_VW];(first|done|fail)))))))
    all_goals first
      | rfl
      | exact List.take_of_length_le (by rw [List.length_drop]; omega)
      | (simp only [partS,fullS]; omega)
      | (simp [partS, fullS, List.map_append, List.map_take, List.map_drop]; done)
      | trace_state
  have hlt : f < 64 := by omega
  have hR : addS (partS ⟨h, w, f, n⟩ p) (p.drop (min p.length (64 - f))) = R := by rw [← hR]; exact (addS_part hp hlt).symm
  repeat' (first|(with_reducible first|refine yrl (by constructor) ?_|refine jk (fun M hM=>?_)|(refine hM _ ?_;clear hM M)|refine xb3 (by decide) ?_|refine yqa (by assumption) ?_ ?_|refine yqb (by assumption) ?_ ?_)|((with_reducible refine je ?_)<;>(first|rfl|assumption|(simp only [znl,nls_VW];(first|done|fail))))|(with_reducible refine jf (by (simp only [↓reduceIte,zlk,Nat.reduceEqDiff,reduceCtorEq]);exact rfl) ?_)|((with_reducible first|refine jg (fun hc=>?_) (fun hc=>?_)|refine jh (fun hc=>?_) (fun hc=>?_))<;>(try simp (disch:=omega) only [zhb] at hc)<;>(try (exfalso;omega))<;>(try subst hc))|(with_reducible refine ji (by omega) ?_)|(simp (config := { maxSteps := 400000 }) only [↓jt,↓reduceIte,zvs,reduceCtorEq,Nat.reduceEqDiff,Nat.reduceAdd,Nat.reduceLeDiff,Nat.reduceMul,Int.reduceBNe,Int.reduceBEq,Int.reduceEq,Int.reduceNe,Int.reduceLT,Int.reduceLE,Int.reduceGT,Int.reduceGE,Int.reduceNeg,Int.reduceToNat,Nat.reduceLT,Nat.reduceSub,tab,Tryd.results71,List.toList_toArray])|(simp (disch:=omega) only [ziw]))
  all_goals (try (exfalso; omega))
  refine ok_drawC 9 (by kernel_rfl) (by decide +kernel) (by intro m hm; simp only [upd_ap,rows_cons,rows_nil]; (repeat (first | rfl | rw [if_neg (by omega)]))) (fun M hM => ?_); simp only [List.take_succ_cons,List.take_zero,List.drop_succ_cons,List.drop_zero]
  repeat' (first|(with_reducible first|refine yrl (by constructor) ?_|refine jk (fun M hM=>?_)|(refine hM _ ?_;clear hM M)|refine xb3 (by decide) ?_|refine yqa (by assumption) ?_ ?_|refine yqb (by assumption) ?_ ?_)|((with_reducible refine je ?_)<;>(first|rfl|assumption|(simp only [znl,nls_VW];(first|done|fail))))|(with_reducible refine jf (by (simp only [↓reduceIte,zlk,Nat.reduceEqDiff,reduceCtorEq]);exact rfl) ?_)|((with_reducible first|refine jg (fun hc=>?_) (fun hc=>?_)|refine jh (fun hc=>?_) (fun hc=>?_))<;>(try simp (disch:=omega) only [zhb] at hc)<;>(try (exfalso;omega))<;>(try subst hc))|(with_reducible refine ji (by omega) ?_)|(simp (config := { maxSteps := 400000 }) only [↓jt,↓reduceIte,zvs,reduceCtorEq,Nat.reduceEqDiff,Nat.reduceAdd,Nat.reduceLeDiff,Nat.reduceMul,Int.reduceBNe,Int.reduceBEq,Int.reduceEq,Int.reduceNe,Int.reduceLT,Int.reduceLE,Int.reduceGT,Int.reduceGE,Int.reduceNeg,Int.reduceToNat,Nat.reduceLT,Nat.reduceSub,tab,or_true,Tryd.results71,List.toList_toArray])|(simp (disch:=omega) only [ziw]))
  all_goals (try (exfalso; omega))
  refine xl1 (partS ⟨h, w, f, n⟩ p, p.drop (min p.length (64 - f))) ?_ ⟨partS_ok ⟨hw, hf⟩ p, hR, by simp only [partS,List.length_drop]; omega⟩ (by show (p.drop (min p.length (64 - f))).length < p.length; rw [List.length_drop]; omega)
  (refine yrn [] false ?_ ?_<;>(repeat' (first|(with_reducible first|exact ya1|exact ya2|exact ya3|refine jx rfl (by first|rfl|assumption|(simp only [znl,nls_VW];(first|done|fail)))|exact ya5|exact ya7|exact jy|exact jz|refine jA ?_|refine ya9 ?_ ?_ ?_|refine jC rfl (by first|rfl|assumption|(simp only [znl,nls_VW];(first|done|fail)))|refine MR.agg (MRL.cons ?_ ?_)|refine MR.fn ?_|refine MRL.cons ?_ ?_|exact MRL.nil|refine jE ?_ ?_|exact jF|exact jG|refine yb1 ?_ ?_|refine MB.row ?_|refine jI ?_ ?_|exact ya8|refine jJ rfl (by first|rfl|assumption|(simp only [znl,nls_VW];(first|done|fail)))|refine yb2 ?_|rfl)|(simp only [znl,nls_VW];(first|done|fail))|(simp only [↓reduceIte,zlk,Nat.reduceEqDiff,reduceCtorEq])|(with_reducible first|refine jJ ?_ ?_|refine ya5 ?_|refine ju ?_|refine jv ?_|refine jw ?_|refine jx ?_ (by first|rfl|assumption|(simp only [znl,nls_VW];(first|done|fail)))|refine jC ?_ (by first|rfl|assumption|(simp only [znl,nls_VW];(first|done|fail)))))))
  all_goals first
    | rfl
    | exact List.take_of_length_le (by rw [List.length_drop]; omega)
    | (simp only [partS]; omega)
    | (simp [partS, List.map_append, List.map_take, List.map_drop]; done)
    | trace_state
end Go.Proofs.YtcilmfhncjfdbaaDoor.V
end
