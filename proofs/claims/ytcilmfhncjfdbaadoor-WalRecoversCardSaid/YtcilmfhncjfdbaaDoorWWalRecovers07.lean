/-
  Parts of the proof of WalRecovers: H4, H5, H6, H7, H8.
  Conditions: none.
-/
import Derived.Test.YtcilmfhncjfdbaaDoorWWalRecovers06
section
/-
  HASH, part 4: a block taken in, by the program.
-/
set_option linter.unusedVariables false
set_option linter.unusedSimpArgs false
namespace Go.Proofs.YtcilmfhncjfdbaaDoor.V
open Go
set_option maxRecDepth 100000
-- nlx: nls_VW
set_option maxHeartbeats 8000000
abbrev stSh : Sh := .st [.arr 8 .cell, .arr 64 .cell, .cell, .cell]
noncomputable def encSt (h : Nat → W32) (w : List UInt8) (f n : Nat) : VV := .agg [.agg (VW 8 h), .agg (w.map encB), .int .i64 (f : Int), .int .u64 (n : Int)]
theorem pls_mapB : ∀ l : List UInt8, pls (l.map encB) = true
  | [] => rfl
  | _ :: l => by simp only [List.map_cons,pls,pls_mapB l,Bool.and_true]; rfl
theorem pls_mapW (v : Nat → W32) : ∀ l : List Nat, pls (l.map fun i => VV.int .u32 ((v i).toNat : Int)) = true
  | [] => rfl
  | _ :: l => by simp only [List.map_cons,pls,pls_mapW v l,Bool.and_true]; rfl
theorem pls_VW (n : Nat) (v : Nat → W32) : pls (VW n v) = true := by rw [VW_def]; exact pls_mapW v _
theorem pl_VW (n : Nat) (v : Nat → W32) : pl (.agg (VW n v)) = true := by simp only [pl]; exact pls_VW n v
theorem pl_encSt (h : Nat → W32) (w : List UInt8) (f n : Nat) : pl (encSt h w f n) = true := by
  simp only [encSt,pl,pls,pls_VW,pls_mapB,Bool.and_true]
theorem copy_eq (h : Nat → W32) : List.take 8 (List.take 8 (VW 8 h)) ++ List.drop (min (min 8 8) 8) (List.replicate 16 (VV.int .u32 0)) = VW 16 (upW (v0F h) (8 + 0)) := by
  rw [VW_def, VW_def]
  rfl
theorem eightL_eq : eightL.map (VV.int .u32) = VW 8 iv := by rw [VW_def]; rfl
def rowsV : List VV := rowsL.map fun l => VV.agg (l.map (.int .u8))
theorem nls_rowsV : nls rowsV = true := by rfl
theorem rowsV_at : ∀ k : Nat, k < 10 → ∃ r0 r1 r2 r3 r4 r5 r6 r7 r8 r9 r10 r11 r12 r13 r14 r15 : Int, rowsV[k]? = some (.agg [.int .u8 r0, .int .u8 r1, .int .u8 r2, .int .u8 r3, .int .u8 r4, .int .u8 r5, .int .u8 r6, .int .u8 r7, .int .u8 r8, .int .u8 r9, .int .u8 r10, .int .u8 r11, .int .u8 r12, .int .u8 r13, .int .u8 r14, .int .u8 r15]) ∧ sigma.getD k default = [r0, r1, r2, r3, r4, r5, r6, r7, r8, r9, r10, r11, r12, r13, r14, r15] ∧ ix r0 ∧ ix r1 ∧ ix r2 ∧ ix r3 ∧ ix r4 ∧ ix r5 ∧ ix r6 ∧ ix r7 ∧ ix r8 ∧ ix r9 ∧ ix r10 ∧ ix r11 ∧ ix r12 ∧ ix r13 ∧ ix r14 ∧ ix r15
  | 0, _ => ⟨0, 1, 2, 3, 4, 5, 6, 7, 8, 9, 10, 11, 12, 13, 14, 15, rfl, rfl, ⟨by decide, by decide⟩, ⟨by decide, by decide⟩, ⟨by decide, by decide⟩, ⟨by decide, by decide⟩, ⟨by decide, by decide⟩, ⟨by decide, by decide⟩, ⟨by decide, by decide⟩, ⟨by decide, by decide⟩, ⟨by decide, by decide⟩, ⟨by decide, by decide⟩, ⟨by decide, by decide⟩, ⟨by decide, by decide⟩, ⟨by decide, by decide⟩, ⟨by decide, by decide⟩, ⟨by decide, by decide⟩, ⟨by decide, by decide⟩⟩
  | 1, _ => ⟨14, 10, 4, 8, 9, 15, 13, 6, 1, 12, 0, 2, 11, 7, 5, 3, rfl, rfl, ⟨by decide, by decide⟩, ⟨by decide, by decide⟩, ⟨by decide, by decide⟩, ⟨by decide, by decide⟩, ⟨by decide, by decide⟩, ⟨by decide, by decide⟩, ⟨by decide, by decide⟩, ⟨by decide, by decide⟩, ⟨by decide, by decide⟩, ⟨by decide, by decide⟩, ⟨by decide, by decide⟩, ⟨by decide, by decide⟩, ⟨by decide, by decide⟩, ⟨by decide, by decide⟩, ⟨by decide, by decide⟩, ⟨by decide, by decide⟩⟩
  | 2, _ => ⟨11, 8, 12, 0, 5, 2, 15, 13, 10, 14, 3, 6, 7, 1, 9, 4, rfl, rfl, ⟨by decide, by decide⟩, ⟨by decide, by decide⟩, ⟨by decide, by decide⟩, ⟨by decide, by decide⟩, ⟨by decide, by decide⟩, ⟨by decide, by decide⟩, ⟨by decide, by decide⟩, ⟨by decide, by decide⟩, ⟨by decide, by decide⟩, ⟨by decide, by decide⟩, ⟨by decide, by decide⟩, ⟨by decide, by decide⟩, ⟨by decide, by decide⟩, ⟨by decide, by decide⟩, ⟨by decide, by decide⟩, ⟨by decide, by decide⟩⟩
  | 3, _ => ⟨7, 9, 3, 1, 13, 12, 11, 14, 2, 6, 5, 10, 4, 0, 15, 8, rfl, rfl, ⟨by decide, by decide⟩, ⟨by decide, by decide⟩, ⟨by decide, by decide⟩, ⟨by decide, by decide⟩, ⟨by decide, by decide⟩, ⟨by decide, by decide⟩, ⟨by decide, by decide⟩, ⟨by decide, by decide⟩, ⟨by decide, by decide⟩, ⟨by decide, by decide⟩, ⟨by decide, by decide⟩, ⟨by decide, by decide⟩, ⟨by decide, by decide⟩, ⟨by decide, by decide⟩, ⟨by decide, by decide⟩, ⟨by decide, by decide⟩⟩
  | 4, _ => ⟨9, 0, 5, 7, 2, 4, 10, 15, 14, 1, 11, 12, 6, 8, 3, 13, rfl, rfl, ⟨by decide, by decide⟩, ⟨by decide, by decide⟩, ⟨by decide, by decide⟩, ⟨by decide, by decide⟩, ⟨by decide, by decide⟩, ⟨by decide, by decide⟩, ⟨by decide, by decide⟩, ⟨by decide, by decide⟩, ⟨by decide, by decide⟩, ⟨by decide, by decide⟩, ⟨by decide, by decide⟩, ⟨by decide, by decide⟩, ⟨by decide, by decide⟩, ⟨by decide, by decide⟩, ⟨by decide, by decide⟩, ⟨by decide, by decide⟩⟩
  | 5, _ => ⟨2, 12, 6, 10, 0, 11, 8, 3, 4, 13, 7, 5, 15, 14, 1, 9, rfl, rfl, ⟨by decide, by decide⟩, ⟨by decide, by decide⟩, ⟨by decide, by decide⟩, ⟨by decide, by decide⟩, ⟨by decide, by decide⟩, ⟨by decide, by decide⟩, ⟨by decide, by decide⟩, ⟨by decide, by decide⟩, ⟨by decide, by decide⟩, ⟨by decide, by decide⟩, ⟨by decide, by decide⟩, ⟨by decide, by decide⟩, ⟨by decide, by decide⟩, ⟨by decide, by decide⟩, ⟨by decide, by decide⟩, ⟨by decide, by decide⟩⟩
  | 6, _ => ⟨12, 5, 1, 15, 14, 13, 4, 10, 0, 7, 6, 3, 9, 2, 8, 11, rfl, rfl, ⟨by decide, by decide⟩, ⟨by decide, by decide⟩, ⟨by decide, by decide⟩, ⟨by decide, by decide⟩, ⟨by decide, by decide⟩, ⟨by decide, by decide⟩, ⟨by decide, by decide⟩, ⟨by decide, by decide⟩, ⟨by decide, by decide⟩, ⟨by decide, by decide⟩, ⟨by decide, by decide⟩, ⟨by decide, by decide⟩, ⟨by decide, by decide⟩, ⟨by decide, by decide⟩, ⟨by decide, by decide⟩, ⟨by decide, by decide⟩⟩
  | 7, _ => ⟨13, 11, 7, 14, 12, 1, 3, 9, 5, 0, 15, 4, 8, 6, 2, 10, rfl, rfl, ⟨by decide, by decide⟩, ⟨by decide, by decide⟩, ⟨by decide, by decide⟩, ⟨by decide, by decide⟩, ⟨by decide, by decide⟩, ⟨by decide, by decide⟩, ⟨by decide, by decide⟩, ⟨by decide, by decide⟩, ⟨by decide, by decide⟩, ⟨by decide, by decide⟩, ⟨by decide, by decide⟩, ⟨by decide, by decide⟩, ⟨by decide, by decide⟩, ⟨by decide, by decide⟩, ⟨by decide, by decide⟩, ⟨by decide, by decide⟩⟩
  | 8, _ => ⟨6, 15, 14, 9, 11, 3, 0, 8, 12, 2, 13, 7, 1, 4, 10, 5, rfl, rfl, ⟨by decide, by decide⟩, ⟨by decide, by decide⟩, ⟨by decide, by decide⟩, ⟨by decide, by decide⟩, ⟨by decide, by decide⟩, ⟨by decide, by decide⟩, ⟨by decide, by decide⟩, ⟨by decide, by decide⟩, ⟨by decide, by decide⟩, ⟨by decide, by decide⟩, ⟨by decide, by decide⟩, ⟨by decide, by decide⟩, ⟨by decide, by decide⟩, ⟨by decide, by decide⟩, ⟨by decide, by decide⟩, ⟨by decide, by decide⟩⟩
  | 9, _ => ⟨10, 2, 8, 4, 7, 6, 1, 5, 15, 11, 9, 14, 3, 12, 13, 0, rfl, rfl, ⟨by decide, by decide⟩, ⟨by decide, by decide⟩, ⟨by decide, by decide⟩, ⟨by decide, by decide⟩, ⟨by decide, by decide⟩, ⟨by decide, by decide⟩, ⟨by decide, by decide⟩, ⟨by decide, by decide⟩, ⟨by decide, by decide⟩, ⟨by decide, by decide⟩, ⟨by decide, by decide⟩, ⟨by decide, by decide⟩, ⟨by decide, by decide⟩, ⟨by decide, by decide⟩, ⟨by decide, by decide⟩, ⟨by decide, by decide⟩⟩
  | k + 10, h => absurd h (by omega)
theorem has_rowsV : Has (.arr 10 (.arr 16 .cell)) (.agg rowsV) := has_arr rfl fun v hv => by
  obtain ⟨l, hl, rfl⟩ := List.mem_map.1 hv
  have key : ∀ l ∈ rowsL, l.length = 16 := by decide
  exact has_arrMap (key l hl) (fun x => has_int _ _)
theorem tab0 : tabOf (.pointer (some ⟨0, 0, none⟩)) = some (.arr 8 .cell, .agg (VW 8 iv)) := by rw [← eightL_eq]; rfl
theorem tab1 : tabOf (.pointer (some ⟨1, 0, none⟩)) = some (.arr 10 (.arr 16 .cell), .agg rowsV) := rfl
theorem ptake_own (h : Nat → W32) (w : List UInt8) (hw : w.length = 64) (f n : Nat) (hn : n < 9223372036854775808) (last : Bool) : SpecO Tryd.prog 81 stSh (encSt h w f n) [.bool last] (encSt (takeF h w n last) w f n) (.tup []) := by
  have hH8 : ∀ u, Has (.arr 8 .cell) (.agg (VW 8 u)) := has_VW 8
  have hH16 : ∀ u, Has (.arr 16 .cell) (.agg (VW 16 u)) := has_VW 16
  have a8 : ∀ x : W32, IntKind.u32.wrap ((x.toNat : Int) * 2 ^ (min 8 IntKind.u32.bits)) = ((x <<< 8).toNat : Int) := fun x => w_shl x 8 (by decide)
  have a16 : ∀ x : W32, IntKind.u32.wrap ((x.toNat : Int) * 2 ^ (min 16 IntKind.u32.bits)) = ((x <<< 16).toNat : Int) := fun x => w_shl x 16 (by decide)
  have a24 : ∀ x : W32, IntKind.u32.wrap ((x.toNat : Int) * 2 ^ (min 24 IntKind.u32.bits)) = ((x <<< 24).toNat : Int) := fun x => w_shl x 24 (by decide)
  have hnR := nls_rowsV
  have hw2 : (w.map encB).length = 64 := by rw [List.length_map, hw]
  unfold SpecO encSt
  refine ok_body Tryd.func81 rfl rfl (by kernel_rfl) (k := 2) rfl (by decide) ?_
  repeat' (first|(with_reducible first|refine yrl (by constructor) ?_|refine jk (fun M hM=>?_)|(refine hM _ ?_;clear hM M)|refine xb3 (by decide) ?_|refine yqa (by assumption) ?_ ?_|refine yqb (by assumption) ?_ ?_)|((with_reducible refine je ?_)<;>(first|rfl|assumption|(simp only [znl,nls_VW];(first|done|fail))))|(with_reducible refine jf (by (simp only [↓reduceIte,zlk,Nat.reduceEqDiff,reduceCtorEq]);exact rfl) ?_)|((with_reducible first|refine jg (fun hc=>?_) (fun hc=>?_)|refine jh (fun hc=>?_) (fun hc=>?_))<;>(try simp (disch:=omega) only [zhb] at hc)<;>(try (exfalso;omega))<;>(try subst hc))|(with_reducible refine ji (by omega) ?_)|(simp (config := { maxSteps := 400000 }) only [↓jt,↓reduceIte,zvs,reduceCtorEq,Nat.reduceEqDiff,Nat.reduceAdd,Nat.reduceLeDiff,Nat.reduceMul,Int.reduceBNe,Int.reduceBEq,Int.reduceEq,Int.reduceNe,Int.reduceLT,Int.reduceLE,Int.reduceGT,Int.reduceGE,Int.reduceNeg,Int.reduceToNat,Nat.reduceLT,Nat.reduceSub,tab,hH8,hH16,VW_len,Tryd.results81,List.toList_toArray])|(simp (disch:=omega) only [ziw]))
  refine ok_loop (fun k : Nat => ⟨slots [(0, .ptr 0 []), (1, .bool last), (4, .ptr 1 []), (13, .int .i64 k)],
    rows [(0, .row stSh (.agg [.agg (VW 8 h), .agg (w.map encB), .int .i64 (f : Int), .int .u64 (n : Int)])), (1, .row (.arr 16 .cell) (.agg (VW 16 (upW (wordAt w) k))))], 2⟩) (fun k => k ≤ 16) (fun k => 16 - k) 0 ?_ (by omega) (fun k hk => ?_)
  · (refine yrn [(1, 1)] false ?_ ?_<;>(repeat' (first|(with_reducible first|exact ya1|exact ya2|exact ya3|refine jx rfl (by first|rfl|assumption|(simp only [znl,nls_VW];(first|done|fail)))|exact ya5|exact ya7|exact jy|exact jz|refine jA ?_|refine ya9 ?_ ?_ ?_|refine jC rfl (by first|rfl|assumption|(simp only [znl,nls_VW];(first|done|fail)))|refine MR.agg (MRL.cons ?_ ?_)|refine MR.fn ?_|refine MRL.cons ?_ ?_|exact MRL.nil|refine jE ?_ ?_|exact jF|exact jG|refine yb1 ?_ ?_|refine MB.row ?_|refine jI ?_ ?_|exact ya8|refine jJ rfl (by first|rfl|assumption|(simp only [znl,nls_VW];(first|done|fail)))|refine yb2 ?_|rfl)|(simp only [znl,nls_VW];(first|done|fail))|(simp only [↓reduceIte,zlk,Nat.reduceEqDiff,reduceCtorEq])|(with_reducible first|refine jJ ?_ ?_|refine ya5 ?_|refine ju ?_|refine jv ?_|refine jw ?_|refine jx ?_ (by first|rfl|assumption|(simp only [znl,nls_VW];(first|done|fail)))|refine jC ?_ (by first|rfl|assumption|(simp only [znl,nls_VW];(first|done|fail)))))))
    all_goals (first | rfl | exact upW_zero _ _ | trace_state)
  by_cases hlt : k < 16
  · have t0 : (4 * (k : Int)).toNat = 4 * k := by omega
    have t1 : (4 * (k : Int) + 1).toNat = 4 * k + 1 := by omega
    have t2 : (4 * (k : Int) + 2).toNat = 4 * k + 2 := by omega
    have t3 : (4 * (k : Int) + 3).toNat = 4 * k + 3 := by omega
    have g16 : ∀ u, (VW 16 u)[k]? = some (.int .u32 ((u k).toNat : Int)) := fun u => VW_get hlt
    have s3 : (VW 16 (upW (wordAt w) k)).set k (.int .u32 ((zx (w.getD (4 * k) 0) ||| zx (w.getD (4 * k + 1) 0) <<< 8 ||| zx (w.getD (4 * k + 2) 0) <<< 16 ||| zx (w.getD (4 * k + 3) 0) <<< 24).toNat : Int)) = VW 16 (upW (wordAt w) (k + 1)) := by
      rw [VW_set]
      exact upW_set 16 k (wordAt w) _ (word_or _ _ _ _)
    repeat' (first|(with_reducible first|refine yrl (by constructor) ?_|refine jk (fun M hM=>?_)|(refine hM _ ?_;clear hM M)|refine xb3 (by decide) ?_|refine yqa (by assumption) ?_ ?_|refine yqb (by assumption) ?_ ?_)|((with_reducible refine je ?_)<;>(first|rfl|assumption|(simp only [znl,nls_VW];(first|done|fail))))|(with_reducible refine jf (by (simp only [↓reduceIte,zlk,Nat.reduceEqDiff,reduceCtorEq]);exact rfl) ?_)|((with_reducible first|refine jg (fun hc=>?_) (fun hc=>?_)|refine jh (fun hc=>?_) (fun hc=>?_))<;>(try simp (disch:=omega) only [zhb] at hc)<;>(try (exfalso;omega))<;>(try subst hc))|(with_reducible refine ji (by omega) ?_)|(simp (config := { maxSteps := 400000 }) only [↓jt,↓reduceIte,zvs,reduceCtorEq,Nat.reduceEqDiff,Nat.reduceAdd,Nat.reduceLeDiff,Nat.reduceMul,Int.reduceBNe,Int.reduceBEq,Int.reduceEq,Int.reduceNe,Int.reduceLT,Int.reduceLE,Int.reduceGT,Int.reduceGE,Int.reduceNeg,Int.reduceToNat,Nat.reduceLT,Nat.reduceSub,tab,hH8,hH16,VW_len,Tryd.results81,List.toList_toArray])|(simp (disch:=omega) only [ziw]))
    refine ok_drawC 39 (by kernel_rfl) (by decide +kernel) (by intro m hm; simp only [upd_ap,rows_cons,rows_nil]; (repeat (first | rfl | rw [if_neg (by omega)]))) (fun M hM => ?_); simp only [List.take_succ_cons,List.take_zero,List.drop_succ_cons,List.drop_zero]
    repeat' (first|(with_reducible first|refine yrl (by constructor) ?_|refine jk (fun M hM=>?_)|(refine hM _ ?_;clear hM M)|refine xb3 (by decide) ?_|refine yqa (by assumption) ?_ ?_|refine yqb (by assumption) ?_ ?_)|((with_reducible refine je ?_)<;>(first|rfl|assumption|(simp only [znl,nls_VW];(first|done|fail))))|(with_reducible refine jf (by (simp only [↓reduceIte,zlk,Nat.reduceEqDiff,reduceCtorEq]);exact rfl) ?_)|((with_reducible first|refine jg (fun hc=>?_) (fun hc=>?_)|refine jh (fun hc=>?_) (fun hc=>?_))<;>(try simp (disch:=omega) only [zhb] at hc)<;>(try (exfalso;omega))<;>(try subst hc))|(with_reducible refine ji (by omega) ?_)|(simp (config := { maxSteps := 400000 }) only [↓jt,↓reduceIte,zvs,reduceCtorEq,Nat.reduceEqDiff,Nat.reduceAdd,Nat.reduceLeDiff,Nat.reduceMul,Int.reduceBNe,Int.reduceBEq,Int.reduceEq,Int.reduceNe,Int.reduceLT,Int.reduceLE,Int.reduceGT,Int.reduceGE,Int.reduceNeg,Int.reduceToNat,Nat.reduceLT,Nat.reduceSub,tab,encB,hH8,hH16,VW_len,g16,s3,t0,t1,t2,t3,w_zx,a8,a16,a24,w_or,Tryd.results81,List.toList_toArray])|(simp (disch:=omega) only [ziw]))
    all_goals first
      | (exfalso; omega)
      | (refine xl1 (k + 1) ?_ (by show k + 1 ≤ 16; omega) (by show 16 - (k + 1) < 16 - k; omega); (refine yrn [(1, 1)] false ?_ ?_<;>(repeat' (first|(with_reducible first|exact ya1|exact ya2|exact ya3|refine jx rfl (by first|rfl|assumption|(simp only [znl,nls_VW];(first|done|fail)))|exact ya5|exact ya7|exact jy|exact jz|refine jA ?_|refine ya9 ?_ ?_ ?_|refine jC rfl (by first|rfl|assumption|(simp only [znl,nls_VW];(first|done|fail)))|refine MR.agg (MRL.cons ?_ ?_)|refine MR.fn ?_|refine MRL.cons ?_ ?_|exact MRL.nil|refine jE ?_ ?_|exact jF|exact jG|refine yb1 ?_ ?_|refine MB.row ?_|refine jI ?_ ?_|exact ya8|refine jJ rfl (by first|rfl|assumption|(simp only [znl,nls_VW];(first|done|fail)))|refine yb2 ?_|rfl)|(simp only [znl,nls_VW];(first|done|fail))|(simp only [↓reduceIte,zlk,Nat.reduceEqDiff,reduceCtorEq])|(with_reducible first|refine jJ ?_ ?_|refine ya5 ?_|refine ju ?_|refine jv ?_|refine jw ?_|refine jx ?_ (by first|rfl|assumption|(simp only [znl,nls_VW];(first|done|fail)))|refine jC ?_ (by first|rfl|assumption|(simp only [znl,nls_VW];(first|done|fail))))))); all_goals (first | rfl | trace_state); done)
      | trace_state
  obtain rfl : k = 16 := by omega
  repeat' (first|(with_reducible first|refine yrl (by constructor) ?_|refine jk (fun M hM=>?_)|(refine hM _ ?_;clear hM M)|refine xb3 (by decide) ?_|refine yqa (by assumption) ?_ ?_|refine yqb (by assumption) ?_ ?_)|((with_reducible refine je ?_)<;>(first|rfl|assumption|(simp only [znl,nls_VW];(first|done|fail))))|(with_reducible refine jf (by (simp only [↓reduceIte,zlk,Nat.reduceEqDiff,reduceCtorEq]);exact rfl) ?_)|((with_reducible first|refine jg (fun hc=>?_) (fun hc=>?_)|refine jh (fun hc=>?_) (fun hc=>?_))<;>(try simp (disch:=omega) only [zhb] at hc)<;>(try (exfalso;omega))<;>(try subst hc))|(with_reducible refine ji (by omega) ?_)|(simp (config := { maxSteps := 400000 }) only [↓jt,↓reduceIte,zvs,reduceCtorEq,Nat.reduceEqDiff,Nat.reduceAdd,Nat.reduceLeDiff,Nat.reduceMul,Int.reduceBNe,Int.reduceBEq,Int.reduceEq,Int.reduceNe,Int.reduceLT,Int.reduceLE,Int.reduceGT,Int.reduceGE,Int.reduceNeg,Int.reduceToNat,Nat.reduceLT,Nat.reduceSub,tab,hH8,hH16,VW_len,Tryd.results81,List.toList_toArray])|(simp (disch:=omega) only [ziw]))
  refine ok_drawC 5 (by kernel_rfl) (by decide +kernel) (by intro m hm; simp only [upd_ap,rows_cons,rows_nil]; (repeat (first | rfl | rw [if_neg (by omega)]))) (fun M hM => ?_); simp only [List.take_succ_cons,List.take_zero,List.drop_succ_cons,List.drop_zero]
  repeat' (first|(with_reducible first|refine yrl (by constructor) ?_|refine jk (fun M hM=>?_)|(refine hM _ ?_;clear hM M)|refine xb3 (by decide) ?_|refine yqa (by assumption) ?_ ?_|refine yqb (by assumption) ?_ ?_)|((with_reducible refine je ?_)<;>(first|rfl|assumption|(simp only [znl,nls_VW];(first|done|fail))))|(with_reducible refine jf (by (simp only [↓reduceIte,zlk,Nat.reduceEqDiff,reduceCtorEq]);exact rfl) ?_)|((with_reducible first|refine jg (fun hc=>?_) (fun hc=>?_)|refine jh (fun hc=>?_) (fun hc=>?_))<;>(try simp (disch:=omega) only [zhb] at hc)<;>(try (exfalso;omega))<;>(try subst hc))|(with_reducible refine ji (by omega) ?_)|(simp (config := { maxSteps := 400000 }) only [↓jt,↓reduceIte,zvs,reduceCtorEq,Nat.reduceEqDiff,Nat.reduceAdd,Nat.reduceLeDiff,Nat.reduceMul,Int.reduceBNe,Int.reduceBEq,Int.reduceEq,Int.reduceNe,Int.reduceLT,Int.reduceLE,Int.reduceGT,Int.reduceGE,Int.reduceNeg,Int.reduceToNat,Nat.reduceLT,Nat.reduceSub,tab,tab0,hH8,hH16,VW_len,Tryd.results81,List.toList_toArray])|(simp (disch:=omega) only [ziw]))
  refine ok_loop (fun k : Nat => ⟨slots [(0, .ptr 0 []), (1, .bool last), (4, .ptr 1 []), (7, .ptr 2 []), (64, .agg (VW 8 iv)), (65, .int .i64 k)],
    rows [(0, .row stSh (.agg [.agg (VW 8 h), .agg (w.map encB), .int .i64 (f : Int), .int .u64 (n : Int)])), (1, .row (.arr 16 .cell) (.agg (VW 16 (wordAt w)))), (2, .row (.arr 16 .cell) (.agg (VW 16 (upW (v0F h) (8 + k)))))], 3⟩) (fun k => k ≤ 8) (fun k => 8 - k) 0 ?_ (by omega) (fun k hk => ?_)
  · (refine yrn [(1, 1), (2, 2)] false ?_ ?_<;>(repeat' (first|(with_reducible first|exact ya1|exact ya2|exact ya3|refine jx rfl (by first|rfl|assumption|(simp only [znl,nls_VW];(first|done|fail)))|exact ya5|exact ya7|exact jy|exact jz|refine jA ?_|refine ya9 ?_ ?_ ?_|refine jC rfl (by first|rfl|assumption|(simp only [znl,nls_VW];(first|done|fail)))|refine MR.agg (MRL.cons ?_ ?_)|refine MR.fn ?_|refine MRL.cons ?_ ?_|exact MRL.nil|refine jE ?_ ?_|exact jF|exact jG|refine yb1 ?_ ?_|refine MB.row ?_|refine jI ?_ ?_|exact ya8|refine jJ rfl (by first|rfl|assumption|(simp only [znl,nls_VW];(first|done|fail)))|refine yb2 ?_|rfl)|(simp only [znl,nls_VW];(first|done|fail))|(simp only [↓reduceIte,zlk,Nat.reduceEqDiff,reduceCtorEq])|(with_reducible first|refine jJ ?_ ?_|refine ya5 ?_|refine ju ?_|refine jv ?_|refine jw ?_|refine jx ?_ (by first|rfl|assumption|(simp only [znl,nls_VW];(first|done|fail)))|refine jC ?_ (by first|rfl|assumption|(simp only [znl,nls_VW];(first|done|fail)))))))
    all_goals (first | rfl | exact upW_all _ _ | exact copy_eq _ | trace_state)
  by_cases hlt : k < 8
  · have g8 : ∀ u, (VW 8 u)[k]? = some (.int .u32 ((u k).toNat : Int)) := fun u => VW_get hlt
    have g16 : ∀ u, (VW 16 u)[8 + k]? = some (.int .u32 ((u (8 + k)).toNat : Int)) := fun u => VW_get (by omega)
    have t8 : (8 + (k : Int)).toNat = 8 + k := by omega
    have s2 : (VW 16 (upW (v0F h) (8 + k))).set (8 + k) (.int .u32 ((iv k).toNat : Int)) = VW 16 (upW (v0F h) (8 + (k + 1))) := by
      rw [VW_set]
      exact upW_set 16 (8 + k) (v0F h) _ (by simp only [v0F]; rw [if_neg (by omega), Nat.add_sub_cancel_left])
    repeat' (first|(with_reducible first|refine yrl (by constructor) ?_|refine jk (fun M hM=>?_)|(refine hM _ ?_;clear hM M)|refine xb3 (by decide) ?_|refine yqa (by assumption) ?_ ?_|refine yqb (by assumption) ?_ ?_)|((with_reducible refine je ?_)<;>(first|rfl|assumption|(simp only [znl,nls_VW];(first|done|fail))))|(with_reducible refine jf (by (simp only [↓reduceIte,zlk,Nat.reduceEqDiff,reduceCtorEq]);exact rfl) ?_)|((with_reducible first|refine jg (fun hc=>?_) (fun hc=>?_)|refine jh (fun hc=>?_) (fun hc=>?_))<;>(try simp (disch:=omega) only [zhb] at hc)<;>(try (exfalso;omega))<;>(try subst hc))|(with_reducible refine ji (by omega) ?_)|(simp (config := { maxSteps := 400000 }) only [↓jt,↓reduceIte,zvs,reduceCtorEq,Nat.reduceEqDiff,Nat.reduceAdd,Nat.reduceLeDiff,Nat.reduceMul,Int.reduceBNe,Int.reduceBEq,Int.reduceEq,Int.reduceNe,Int.reduceLT,Int.reduceLE,Int.reduceGT,Int.reduceGE,Int.reduceNeg,Int.reduceToNat,Nat.reduceLT,Nat.reduceSub,tab,g8,g16,t8,s2,hH8,hH16,VW_len,Tryd.results81,List.toList_toArray])|(simp (disch:=omega) only [ziw]))
    all_goals first
      | (exfalso; omega)
      | (refine xl1 (k + 1) ?_ (by show k + 1 ≤ 8; omega) (by show 8 - (k + 1) < 8 - k; omega); (refine yrn [(1, 1), (2, 2)] false ?_ ?_<;>(repeat' (first|(with_reducible first|exact ya1|exact ya2|exact ya3|refine jx rfl (by first|rfl|assumption|(simp only [znl,nls_VW];(first|done|fail)))|exact ya5|exact ya7|exact jy|exact jz|refine jA ?_|refine ya9 ?_ ?_ ?_|refine jC rfl (by first|rfl|assumption|(simp only [znl,nls_VW];(first|done|fail)))|refine MR.agg (MRL.cons ?_ ?_)|refine MR.fn ?_|refine MRL.cons ?_ ?_|exact MRL.nil|refine jE ?_ ?_|exact jF|exact jG|refine yb1 ?_ ?_|refine MB.row ?_|refine jI ?_ ?_|exact ya8|refine jJ rfl (by first|rfl|assumption|(simp only [znl,nls_VW];(first|done|fail)))|refine yb2 ?_|rfl)|(simp only [znl,nls_VW];(first|done|fail))|(simp only [↓reduceIte,zlk,Nat.reduceEqDiff,reduceCtorEq])|(with_reducible first|refine jJ ?_ ?_|refine ya5 ?_|refine ju ?_|refine jv ?_|refine jw ?_|refine jx ?_ (by first|rfl|assumption|(simp only [znl,nls_VW];(first|done|fail)))|refine jC ?_ (by first|rfl|assumption|(simp only [znl,nls_VW];(first|done|fail))))))); all_goals (first | rfl | trace_state); done)
      | trace_state
  obtain rfl : k = 8 := by omega
  obtain ⟨U, hU⟩ : ∃ U, U = initV h n last := ⟨_, rfl⟩
  obtain ⟨m, hm⟩ : ∃ m, m = wordAt w := ⟨_, rfl⟩
  have hR0 : takeF h w n last = outH h (roundsV m U 10) 8 := by rw [hU, hm]; rfl
  rw [hR0, ← hm]
  clear hR0 hm
  have g12 : ∀ u, (VW 16 u)[12]? = some (.int .u32 ((u 12).toNat : Int)) := fun u => VW_get (by omega)
  have g13 : ∀ u, (VW 16 u)[13]? = some (.int .u32 ((u 13).toNat : Int)) := fun u => VW_get (by omega)
  have g14 : ∀ u, (VW 16 u)[14]? = some (.int .u32 ((u 14).toNat : Int)) := fun u => VW_get (by omega)
  have q0 := w_hi2 n hn
  have q1 := w_lo2 n
  repeat' (first|(with_reducible first|refine yrl (by constructor) ?_|refine jk (fun M hM=>?_)|(refine hM _ ?_;clear hM M)|refine xb3 (by decide) ?_|refine yqa (by assumption) ?_ ?_|refine yqb (by assumption) ?_ ?_)|((with_reducible refine je ?_)<;>(first|rfl|assumption|(simp only [znl,nls_VW];(first|done|fail))))|(with_reducible refine jf (by (simp only [↓reduceIte,zlk,Nat.reduceEqDiff,reduceCtorEq]);exact rfl) ?_)|((with_reducible first|refine jg (fun hc=>?_) (fun hc=>?_)|refine jh (fun hc=>?_) (fun hc=>?_))<;>(try simp (disch:=omega) only [zhb] at hc)<;>(try (exfalso;omega))<;>(try subst hc))|(with_reducible refine ji (by omega) ?_)|(simp (config := { maxSteps := 400000 }) only [↓jt,↓reduceIte,zvs,reduceCtorEq,Nat.reduceEqDiff,Nat.reduceAdd,Nat.reduceLeDiff,Nat.reduceMul,Int.reduceBNe,Int.reduceBEq,Int.reduceEq,Int.reduceNe,Int.reduceLT,Int.reduceLE,Int.reduceGT,Int.reduceGE,Int.reduceNeg,Int.reduceToNat,Nat.reduceLT,Nat.reduceSub,tab,hH8,hH16,VW_len,Tryd.results81,List.toList_toArray])|(simp (disch:=omega) only [ziw]))
  refine ok_drawC 9 (by kernel_rfl) (by decide +kernel) (by intro m hm; simp only [upd_ap,rows_cons,rows_nil]; (repeat (first | rfl | rw [if_neg (by omega)]))) (fun M hM => ?_); simp only [List.take_succ_cons,List.take_zero,List.drop_succ_cons,List.drop_zero]
  repeat' (first|(with_reducible first|refine yrl (by constructor) ?_|refine jk (fun M hM=>?_)|(refine hM _ ?_;clear hM M)|refine xb3 (by decide) ?_|refine yqa (by assumption) ?_ ?_|refine yqb (by assumption) ?_ ?_)|((with_reducible refine je ?_)<;>(first|rfl|assumption|(simp only [znl,nls_VW];(first|done|fail))))|(with_reducible refine jf (by (simp only [↓reduceIte,zlk,Nat.reduceEqDiff,reduceCtorEq]);exact rfl) ?_)|((with_reducible first|refine jg (fun hc=>?_) (fun hc=>?_)|refine jh (fun hc=>?_) (fun hc=>?_))<;>(try simp (disch:=omega) only [zhb] at hc)<;>(try (exfalso;omega))<;>(try subst hc))|(with_reducible refine ji (by omega) ?_)|(simp (config := { maxSteps := 400000 }) only [↓jt,↓reduceIte,zvs,reduceCtorEq,Nat.reduceEqDiff,Nat.reduceAdd,Nat.reduceLeDiff,Nat.reduceMul,Int.reduceBNe,Int.reduceBEq,Int.reduceEq,Int.reduceNe,Int.reduceLT,Int.reduceLE,Int.reduceGT,Int.reduceGE,Int.reduceNeg,Int.reduceToNat,Nat.reduceLT,Nat.reduceSub,tab,g12,q1,w_xor,VW_set,hH8,hH16,VW_len,Tryd.results81,List.toList_toArray])|(simp (disch:=omega) only [ziw]))
  refine ok_drawC 10 (by kernel_rfl) (by decide +kernel) (by intro m hm; simp only [upd_ap,rows_cons,rows_nil]; (repeat (first | rfl | rw [if_neg (by omega)]))) (fun M hM => ?_); simp only [List.take_succ_cons,List.take_zero,List.drop_succ_cons,List.drop_zero]
  repeat' (first|(with_reducible first|refine yrl (by constructor) ?_|refine jk (fun M hM=>?_)|(refine hM _ ?_;clear hM M)|refine xb3 (by decide) ?_|refine yqa (by assumption) ?_ ?_|refine yqb (by assumption) ?_ ?_)|((with_reducible refine je ?_)<;>(first|rfl|assumption|(simp only [znl,nls_VW];(first|done|fail))))|(with_reducible refine jf (by (simp only [↓reduceIte,zlk,Nat.reduceEqDiff,reduceCtorEq]);exact rfl) ?_)|((with_reducible first|refine jg (fun hc=>?_) (fun hc=>?_)|refine jh (fun hc=>?_) (fun hc=>?_))<;>(try simp (disch:=omega) only [zhb] at hc)<;>(try (exfalso;omega))<;>(try subst hc))|(with_reducible refine ji (by omega) ?_)|(simp (config := { maxSteps := 400000 }) only [↓jt,↓reduceIte,zvs,reduceCtorEq,Nat.reduceEqDiff,Nat.reduceAdd,Nat.reduceLeDiff,Nat.reduceMul,Int.reduceBNe,Int.reduceBEq,Int.reduceEq,Int.reduceNe,Int.reduceLT,Int.reduceLE,Int.reduceGT,Int.reduceGE,Int.reduceNeg,Int.reduceToNat,Nat.reduceLT,Nat.reduceSub,tab,tab1,g13,g14,q0,w_xor,w_com,VW_set,hH8,hH16,VW_len,Tryd.results81,List.toList_toArray])|(simp (disch:=omega) only [ziw]))
  all_goals (refine ok_loop (fun k : Nat => ⟨slots [(0, .ptr 0 []), (4, .ptr 1 []), (7, .ptr 2 []), (98, .agg rowsV), (99, .int .i64 k)],
    rows [(0, .row stSh (.agg [.agg (VW 8 h), .agg (w.map encB), .int .i64 (f : Int), .int .u64 (n : Int)])), (1, .row (.arr 16 .cell) (.agg (VW 16 m))), (2, .row (.arr 16 .cell) (.agg (VW 16 (roundsV m U k))))], 3⟩) (fun k => k ≤ 10) (fun k => 10 - k) 0 ?_ (by omega) (fun k hk => ?_))
  any_goals ((refine yrn [(1, 1), (2, 2)] false ?_ ?_<;>(repeat' (first|(with_reducible first|exact ya1|exact ya2|exact ya3|refine jx rfl (by first|rfl|assumption|(simp only [znl,nls_VW];(first|done|fail)))|exact ya5|exact ya7|exact jy|exact jz|refine jA ?_|refine ya9 ?_ ?_ ?_|refine jC rfl (by first|rfl|assumption|(simp only [znl,nls_VW];(first|done|fail)))|refine MR.agg (MRL.cons ?_ ?_)|refine MR.fn ?_|refine MRL.cons ?_ ?_|exact MRL.nil|refine jE ?_ ?_|exact jF|exact jG|refine yb1 ?_ ?_|refine MB.row ?_|refine jI ?_ ?_|exact ya8|refine jJ rfl (by first|rfl|assumption|(simp only [znl,nls_VW];(first|done|fail)))|refine yb2 ?_|rfl)|(simp only [znl,nls_VW];(first|done|fail))|(simp only [↓reduceIte,zlk,Nat.reduceEqDiff,reduceCtorEq])|(with_reducible first|refine jJ ?_ ?_|refine ya5 ?_|refine ju ?_|refine jv ?_|refine jw ?_|refine jx ?_ (by first|rfl|assumption|(simp only [znl,nls_VW];(first|done|fail)))|refine jC ?_ (by first|rfl|assumption|(simp only [znl,nls_VW];(first|done|fail))))))); all_goals (first | rfl | (rw [hU]; first | exact init_f _ _ | exact init_t _ _) | trace_state); done)
  all_goals (
    have hrl : rowsV.length = 10 := rfl
    have hasR := has_rowsV
    by_cases hlt : k < 10
    · obtain ⟨r0, r1, r2, r3, r4, r5, r6, r7, r8, r9, r10, r11, r12, r13, r14, r15, hrow, hs0, ⟨r0a, r0b⟩, ⟨r1a, r1b⟩, ⟨r2a, r2b⟩, ⟨r3a, r3b⟩, ⟨r4a, r4b⟩, ⟨r5a, r5b⟩, ⟨r6a, r6b⟩, ⟨r7a, r7b⟩, ⟨r8a, r8b⟩, ⟨r9a, r9b⟩, ⟨r10a, r10b⟩, ⟨r11a, r11b⟩, ⟨r12a, r12b⟩, ⟨r13a, r13b⟩, ⟨r14a, r14b⟩, ⟨r15a, r15b⟩⟩ := rowsV_at k hlt
      obtain ⟨s, hs⟩ : ∃ s, s = sigma.getD k default := ⟨_, rfl⟩
      have hsu : stepsV m s (roundsV m U k) 8 = roundsV m U (k + 1) := by rw [hs, roundsV_succ]
      rw [← hs] at hs0
      have gr0 : ∀ u, (VW 16 u)[r0.toNat]? = some (.int .u32 ((u r0.toNat).toNat : Int)) := fun u => VW_get (by omega)
      have gr1 : ∀ u, (VW 16 u)[r1.toNat]? = some (.int .u32 ((u r1.toNat).toNat : Int)) := fun u => VW_get (by omega)
      have gr2 : ∀ u, (VW 16 u)[r2.toNat]? = some (.int .u32 ((u r2.toNat).toNat : Int)) := fun u => VW_get (by omega)
      have gr3 : ∀ u, (VW 16 u)[r3.toNat]? = some (.int .u32 ((u r3.toNat).toNat : Int)) := fun u => VW_get (by omega)
      have gr4 : ∀ u, (VW 16 u)[r4.toNat]? = some (.int .u32 ((u r4.toNat).toNat : Int)) := fun u => VW_get (by omega)
      have gr5 : ∀ u, (VW 16 u)[r5.toNat]? = some (.int .u32 ((u r5.toNat).toNat : Int)) := fun u => VW_get (by omega)
      have gr6 : ∀ u, (VW 16 u)[r6.toNat]? = some (.int .u32 ((u r6.toNat).toNat : Int)) := fun u => VW_get (by omega)
      have gr7 : ∀ u, (VW 16 u)[r7.toNat]? = some (.int .u32 ((u r7.toNat).toNat : Int)) := fun u => VW_get (by omega)
      have gr8 : ∀ u, (VW 16 u)[r8.toNat]? = some (.int .u32 ((u r8.toNat).toNat : Int)) := fun u => VW_get (by omega)
      have gr9 : ∀ u, (VW 16 u)[r9.toNat]? = some (.int .u32 ((u r9.toNat).toNat : Int)) := fun u => VW_get (by omega)
      have gr10 : ∀ u, (VW 16 u)[r10.toNat]? = some (.int .u32 ((u r10.toNat).toNat : Int)) := fun u => VW_get (by omega)
      have gr11 : ∀ u, (VW 16 u)[r11.toNat]? = some (.int .u32 ((u r11.toNat).toNat : Int)) := fun u => VW_get (by omega)
      have gr12 : ∀ u, (VW 16 u)[r12.toNat]? = some (.int .u32 ((u r12.toNat).toNat : Int)) := fun u => VW_get (by omega)
      have gr13 : ∀ u, (VW 16 u)[r13.toNat]? = some (.int .u32 ((u r13.toNat).toNat : Int)) := fun u => VW_get (by omega)
      have gr14 : ∀ u, (VW 16 u)[r14.toNat]? = some (.int .u32 ((u r14.toNat).toNat : Int)) := fun u => VW_get (by omega)
      have gr15 : ∀ u, (VW 16 u)[r15.toNat]? = some (.int .u32 ((u r15.toNat).toNat : Int)) := fun u => VW_get (by omega)
      have hst0 : mixF (roundsV m U k) (0 : Int).toNat (4 : Int).toNat (8 : Int).toNat (12 : Int).toNat (m r0.toNat) (m r1.toNat) = stepsV m s (roundsV m U k) 1 := by rw [← stepsV_succ, hs0]; rfl
      have hst1 : mixF (stepsV m s (roundsV m U k) 1) (1 : Int).toNat (5 : Int).toNat (9 : Int).toNat (13 : Int).toNat (m r2.toNat) (m r3.toNat) = stepsV m s (roundsV m U k) 2 := by rw [← stepsV_succ, hs0]; rfl
      have hst2 : mixF (stepsV m s (roundsV m U k) 2) (2 : Int).toNat (6 : Int).toNat (10 : Int).toNat (14 : Int).toNat (m r4.toNat) (m r5.toNat) = stepsV m s (roundsV m U k) 3 := by rw [← stepsV_succ, hs0]; rfl
      have hst3 : mixF (stepsV m s (roundsV m U k) 3) (3 : Int).toNat (7 : Int).toNat (11 : Int).toNat (15 : Int).toNat (m r6.toNat) (m r7.toNat) = stepsV m s (roundsV m U k) 4 := by rw [← stepsV_succ, hs0]; rfl
      have hst4 : mixF (stepsV m s (roundsV m U k) 4) (0 : Int).toNat (5 : Int).toNat (10 : Int).toNat (15 : Int).toNat (m r8.toNat) (m r9.toNat) = stepsV m s (roundsV m U k) 5 := by rw [← stepsV_succ, hs0]; rfl
      have hst5 : mixF (stepsV m s (roundsV m U k) 5) (1 : Int).toNat (6 : Int).toNat (11 : Int).toNat (12 : Int).toNat (m r10.toNat) (m r11.toNat) = stepsV m s (roundsV m U k) 6 := by rw [← stepsV_succ, hs0]; rfl
      have hst6 : mixF (stepsV m s (roundsV m U k) 6) (2 : Int).toNat (7 : Int).toNat (8 : Int).toNat (13 : Int).toNat (m r12.toNat) (m r13.toNat) = stepsV m s (roundsV m U k) 7 := by rw [← stepsV_succ, hs0]; rfl
      have hst7 : mixF (stepsV m s (roundsV m U k) 7) (3 : Int).toNat (4 : Int).toNat (9 : Int).toNat (14 : Int).toNat (m r14.toNat) (m r15.toNat) = stepsV m s (roundsV m U k) 8 := by rw [← stepsV_succ, hs0]; rfl
      have hra : Has (.arr 16 .cell) (.agg [.int .u8 r0, .int .u8 r1, .int .u8 r2, .int .u8 r3, .int .u8 r4, .int .u8 r5, .int .u8 r6, .int .u8 r7, .int .u8 r8, .int .u8 r9, .int .u8 r10, .int .u8 r11, .int .u8 r12, .int .u8 r13, .int .u8 r14, .int .u8 r15]) := has_arr rfl (by intro v hv; simp only [List.mem_cons,List.not_mem_nil,or_false] at hv; rcases hv with rfl | rfl | rfl | rfl | rfl | rfl | rfl | rfl | rfl | rfl | rfl | rfl | rfl | rfl | rfl | rfl <;> exact has_int _ _)
      repeat' (first|(with_reducible first|refine yrl (by constructor) ?_|refine jk (fun M hM=>?_)|(refine hM _ ?_;clear hM M)|refine xb3 (by decide) ?_|refine yqa (by assumption) ?_ ?_|refine yqb (by assumption) ?_ ?_)|((with_reducible refine je ?_)<;>(first|rfl|assumption|(simp only [znl,nls_VW];(first|done|fail))))|(with_reducible refine jf (by (simp only [↓reduceIte,zlk,Nat.reduceEqDiff,reduceCtorEq]);exact rfl) ?_)|((with_reducible first|refine jg (fun hc=>?_) (fun hc=>?_)|refine jh (fun hc=>?_) (fun hc=>?_))<;>(try simp (disch:=omega) only [zhb] at hc)<;>(try (exfalso;omega))<;>(try subst hc))|(with_reducible refine ji (by omega) ?_)|(simp (config := { maxSteps := 400000 }) only [↓jt,↓reduceIte,zvs,reduceCtorEq,Nat.reduceEqDiff,Nat.reduceAdd,Nat.reduceLeDiff,Nat.reduceMul,Int.reduceBNe,Int.reduceBEq,Int.reduceEq,Int.reduceNe,Int.reduceLT,Int.reduceLE,Int.reduceGT,Int.reduceGE,Int.reduceNeg,Int.reduceToNat,Nat.reduceLT,Nat.reduceSub,tab,hasR,hrow,hra,hH8,hH16,VW_len,Tryd.results81,List.toList_toArray])|(simp (disch:=omega) only [ziw]))
      refine ok_drawC 8 (by kernel_rfl) (by decide +kernel) (by intro m hm; simp only [upd_ap,rows_cons,rows_nil]; (repeat (first | rfl | rw [if_neg (by omega)]))) (fun M hM => ?_); simp only [List.take_succ_cons,List.take_zero,List.drop_succ_cons,List.drop_zero]
      repeat' (first|(with_reducible first|refine yrl (by constructor) ?_|refine jk (fun M hM=>?_)|(refine hM _ ?_;clear hM M)|refine xb3 (by decide) ?_|refine yqa (by assumption) ?_ ?_|refine yqb (by assumption) ?_ ?_)|((with_reducible refine je ?_)<;>(first|rfl|assumption|(simp only [znl,nls_VW];(first|done|fail))))|(with_reducible refine jf (by (simp only [↓reduceIte,zlk,Nat.reduceEqDiff,reduceCtorEq]);exact rfl) ?_)|((with_reducible first|refine jg (fun hc=>?_) (fun hc=>?_)|refine jh (fun hc=>?_) (fun hc=>?_))<;>(try simp (disch:=omega) only [zhb] at hc)<;>(try (exfalso;omega))<;>(try subst hc))|(with_reducible refine ji (by omega) ?_)|(simp (config := { maxSteps := 400000 }) only [↓jt,↓reduceIte,zvs,reduceCtorEq,Nat.reduceEqDiff,Nat.reduceAdd,Nat.reduceLeDiff,Nat.reduceMul,Int.reduceBNe,Int.reduceBEq,Int.reduceEq,Int.reduceNe,Int.reduceLT,Int.reduceLE,Int.reduceGT,Int.reduceGE,Int.reduceNeg,Int.reduceToNat,Nat.reduceLT,Nat.reduceSub,tab,gr0,gr1,hH8,hH16,VW_len,Tryd.results81,List.toList_toArray])|(simp (disch:=omega) only [ziw]))
      refine ja (call_own (pmix_own _ _ _ _ _ (by constructor <;> omega) (by constructor <;> omega) (by constructor <;> omega) (by constructor <;> omega) _ _) (by simp only [↓reduceIte,zlk,Nat.reduceEqDiff,reduceCtorEq]; exact rfl) (pl_VW _ _) (pl_VW _ _) rfl rfl ?_)
      rw [hst0]
      repeat' (first|(with_reducible first|refine yrl (by constructor) ?_|refine jk (fun M hM=>?_)|(refine hM _ ?_;clear hM M)|refine xb3 (by decide) ?_|refine yqa (by assumption) ?_ ?_|refine yqb (by assumption) ?_ ?_)|((with_reducible refine je ?_)<;>(first|rfl|assumption|(simp only [znl,nls_VW];(first|done|fail))))|(with_reducible refine jf (by (simp only [↓reduceIte,zlk,Nat.reduceEqDiff,reduceCtorEq]);exact rfl) ?_)|((with_reducible first|refine jg (fun hc=>?_) (fun hc=>?_)|refine jh (fun hc=>?_) (fun hc=>?_))<;>(try simp (disch:=omega) only [zhb] at hc)<;>(try (exfalso;omega))<;>(try subst hc))|(with_reducible refine ji (by omega) ?_)|(simp (config := { maxSteps := 400000 }) only [↓jt,↓reduceIte,zvs,reduceCtorEq,Nat.reduceEqDiff,Nat.reduceAdd,Nat.reduceLeDiff,Nat.reduceMul,Int.reduceBNe,Int.reduceBEq,Int.reduceEq,Int.reduceNe,Int.reduceLT,Int.reduceLE,Int.reduceGT,Int.reduceGE,Int.reduceNeg,Int.reduceToNat,Nat.reduceLT,Nat.reduceSub,tab,hH8,hH16,VW_len,Tryd.results81,List.toList_toArray])|(simp (disch:=omega) only [ziw]))
      refine ok_drawC 8 (by kernel_rfl) (by decide +kernel) (by intro m hm; simp only [upd_ap,rows_cons,rows_nil]; (repeat (first | rfl | rw [if_neg (by omega)]))) (fun M hM => ?_); simp only [List.take_succ_cons,List.take_zero,List.drop_succ_cons,List.drop_zero]
      repeat' (first|(with_reducible first|refine yrl (by constructor) ?_|refine jk (fun M hM=>?_)|(refine hM _ ?_;clear hM M)|refine xb3 (by decide) ?_|refine yqa (by assumption) ?_ ?_|refine yqb (by assumption) ?_ ?_)|((with_reducible refine je ?_)<;>(first|rfl|assumption|(simp only [znl,nls_VW];(first|done|fail))))|(with_reducible refine jf (by (simp only [↓reduceIte,zlk,Nat.reduceEqDiff,reduceCtorEq]);exact rfl) ?_)|((with_reducible first|refine jg (fun hc=>?_) (fun hc=>?_)|refine jh (fun hc=>?_) (fun hc=>?_))<;>(try simp (disch:=omega) only [zhb] at hc)<;>(try (exfalso;omega))<;>(try subst hc))|(with_reducible refine ji (by omega) ?_)|(simp (config := { maxSteps := 400000 }) only [↓jt,↓reduceIte,zvs,reduceCtorEq,Nat.reduceEqDiff,Nat.reduceAdd,Nat.reduceLeDiff,Nat.reduceMul,Int.reduceBNe,Int.reduceBEq,Int.reduceEq,Int.reduceNe,Int.reduceLT,Int.reduceLE,Int.reduceGT,Int.reduceGE,Int.reduceNeg,Int.reduceToNat,Nat.reduceLT,Nat.reduceSub,tab,gr2,gr3,hH8,hH16,VW_len,Tryd.results81,List.toList_toArray])|(simp (disch:=omega) only [ziw]))
      refine ja (call_own (pmix_own _ _ _ _ _ (by constructor <;> omega) (by constructor <;> omega) (by constructor <;> omega) (by constructor <;> omega) _ _) (by simp only [↓reduceIte,zlk,Nat.reduceEqDiff,reduceCtorEq]; exact rfl) (pl_VW _ _) (pl_VW _ _) rfl rfl ?_)
      rw [hst1]
      repeat' (first|(with_reducible first|refine yrl (by constructor) ?_|refine jk (fun M hM=>?_)|(refine hM _ ?_;clear hM M)|refine xb3 (by decide) ?_|refine yqa (by assumption) ?_ ?_|refine yqb (by assumption) ?_ ?_)|((with_reducible refine je ?_)<;>(first|rfl|assumption|(simp only [znl,nls_VW];(first|done|fail))))|(with_reducible refine jf (by (simp only [↓reduceIte,zlk,Nat.reduceEqDiff,reduceCtorEq]);exact rfl) ?_)|((with_reducible first|refine jg (fun hc=>?_) (fun hc=>?_)|refine jh (fun hc=>?_) (fun hc=>?_))<;>(try simp (disch:=omega) only [zhb] at hc)<;>(try (exfalso;omega))<;>(try subst hc))|(with_reducible refine ji (by omega) ?_)|(simp (config := { maxSteps := 400000 }) only [↓jt,↓reduceIte,zvs,reduceCtorEq,Nat.reduceEqDiff,Nat.reduceAdd,Nat.reduceLeDiff,Nat.reduceMul,Int.reduceBNe,Int.reduceBEq,Int.reduceEq,Int.reduceNe,Int.reduceLT,Int.reduceLE,Int.reduceGT,Int.reduceGE,Int.reduceNeg,Int.reduceToNat,Nat.reduceLT,Nat.reduceSub,tab,hH8,hH16,VW_len,Tryd.results81,List.toList_toArray])|(simp (disch:=omega) only [ziw]))
      refine ok_drawC 8 (by kernel_rfl) (by decide +kernel) (by intro m hm; simp only [upd_ap,rows_cons,rows_nil]; (repeat (first | rfl | rw [if_neg (by omega)]))) (fun M hM => ?_); simp only [List.take_succ_cons,List.take_zero,List.drop_succ_cons,List.drop_zero]
      repeat' (first|(with_reducible first|refine yrl (by constructor) ?_|refine jk (fun M hM=>?_)|(refine hM _ ?_;clear hM M)|refine xb3 (by decide) ?_|refine yqa (by assumption) ?_ ?_|refine yqb (by assumption) ?_ ?_)|((with_reducible refine je ?_)<;>(first|rfl|assumption|(simp only [znl,nls_VW];(first|done|fail))))|(with_reducible refine jf (by (simp only [↓reduceIte,zlk,Nat.reduceEqDiff,reduceCtorEq]);exact rfl) ?_)|((with_reducible first|refine jg (fun hc=>?_) (fun hc=>?_)|refine jh (fun hc=>?_) (fun hc=>?_))<;>(try simp (disch:=omega) only [zhb] at hc)<;>(try (exfalso;omega))<;>(try subst hc))|(with_reducible refine ji (by omega) ?_)|(simp (config := { maxSteps := 400000 }) only [↓jt,↓reduceIte,zvs,reduceCtorEq,Nat.reduceEqDiff,Nat.reduceAdd,Nat.reduceLeDiff,Nat.reduceMul,Int.reduceBNe,Int.reduceBEq,Int.reduceEq,Int.reduceNe,Int.reduceLT,Int.reduceLE,Int.reduceGT,Int.reduceGE,Int.reduceNeg,Int.reduceToNat,Nat.reduceLT,Nat.reduceSub,tab,gr4,gr5,hH8,hH16,VW_len,Tryd.results81,List.toList_toArray])|(simp (disch:=omega) only [ziw]))
      refine ja (call_own (pmix_own _ _ _ _ _ (by constructor <;> omega) (by constructor <;> omega) (by constructor <;> omega) (by constructor <;> omega) _ _) (by simp only [↓reduceIte,zlk,Nat.reduceEqDiff,reduceCtorEq]; exact rfl) (pl_VW _ _) (pl_VW _ _) rfl rfl ?_)
      rw [hst2]
      repeat' (first|(with_reducible first|refine yrl (by constructor) ?_|refine jk (fun M hM=>?_)|(refine hM _ ?_;clear hM M)|refine xb3 (by decide) ?_|refine yqa (by assumption) ?_ ?_|refine yqb (by assumption) ?_ ?_)|((with_reducible refine je ?_)<;>(first|rfl|assumption|(simp only [znl,nls_VW];(first|done|fail))))|(with_reducible refine jf (by (simp only [↓reduceIte,zlk,Nat.reduceEqDiff,reduceCtorEq]);exact rfl) ?_)|((with_reducible first|refine jg (fun hc=>?_) (fun hc=>?_)|refine jh (fun hc=>?_) (fun hc=>?_))<;>(try simp (disch:=omega) only [zhb] at hc)<;>(try (exfalso;omega))<;>(try subst hc))|(with_reducible refine ji (by omega) ?_)|(simp (config := { maxSteps := 400000 }) only [↓jt,↓reduceIte,zvs,reduceCtorEq,Nat.reduceEqDiff,Nat.reduceAdd,Nat.reduceLeDiff,Nat.reduceMul,Int.reduceBNe,Int.reduceBEq,Int.reduceEq,Int.reduceNe,Int.reduceLT,Int.reduceLE,Int.reduceGT,Int.reduceGE,Int.reduceNeg,Int.reduceToNat,Nat.reduceLT,Nat.reduceSub,tab,hH8,hH16,VW_len,Tryd.results81,List.toList_toArray])|(simp (disch:=omega) only [ziw]))
      refine ok_drawC 8 (by kernel_rfl) (by decide +kernel) (by intro m hm; simp only [upd_ap,rows_cons,rows_nil]; (repeat (first | rfl | rw [if_neg (by omega)]))) (fun M hM => ?_); simp only [List.take_succ_cons,List.take_zero,List.drop_succ_cons,List.drop_zero]
      repeat' (first|(with_reducible first|refine yrl (by constructor) ?_|refine jk (fun M hM=>?_)|(refine hM _ ?_;clear hM M)|refine xb3 (by decide) ?_|refine yqa (by assumption) ?_ ?_|refine yqb (by assumption) ?_ ?_)|((with_reducible refine je ?_)<;>(first|rfl|assumption|(simp only [znl,nls_VW];(first|done|fail))))|(with_reducible refine jf (by (simp only [↓reduceIte,zlk,Nat.reduceEqDiff,reduceCtorEq]);exact rfl) ?_)|((with_reducible first|refine jg (fun hc=>?_) (fun hc=>?_)|refine jh (fun hc=>?_) (fun hc=>?_))<;>(try simp (disch:=omega) only [zhb] at hc)<;>(try (exfalso;omega))<;>(try subst hc))|(with_reducible refine ji (by omega) ?_)|(simp (config := { maxSteps := 400000 }) only [↓jt,↓reduceIte,zvs,reduceCtorEq,Nat.reduceEqDiff,Nat.reduceAdd,Nat.reduceLeDiff,Nat.reduceMul,Int.reduceBNe,Int.reduceBEq,Int.reduceEq,Int.reduceNe,Int.reduceLT,Int.reduceLE,Int.reduceGT,Int.reduceGE,Int.reduceNeg,Int.reduceToNat,Nat.reduceLT,Nat.reduceSub,tab,gr6,gr7,hH8,hH16,VW_len,Tryd.results81,List.toList_toArray])|(simp (disch:=omega) only [ziw]))
      refine ja (call_own (pmix_own _ _ _ _ _ (by constructor <;> omega) (by constructor <;> omega) (by constructor <;> omega) (by constructor <;> omega) _ _) (by simp only [↓reduceIte,zlk,Nat.reduceEqDiff,reduceCtorEq]; exact rfl) (pl_VW _ _) (pl_VW _ _) rfl rfl ?_)
      rw [hst3]
      repeat' (first|(with_reducible first|refine yrl (by constructor) ?_|refine jk (fun M hM=>?_)|(refine hM _ ?_;clear hM M)|refine xb3 (by decide) ?_|refine yqa (by assumption) ?_ ?_|refine yqb (by assumption) ?_ ?_)|((with_reducible refine je ?_)<;>(first|rfl|assumption|(simp only [znl,nls_VW];(first|done|fail))))|(with_reducible refine jf (by (simp only [↓reduceIte,zlk,Nat.reduceEqDiff,reduceCtorEq]);exact rfl) ?_)|((with_reducible first|refine jg (fun hc=>?_) (fun hc=>?_)|refine jh (fun hc=>?_) (fun hc=>?_))<;>(try simp (disch:=omega) only [zhb] at hc)<;>(try (exfalso;omega))<;>(try subst hc))|(with_reducible refine ji (by omega) ?_)|(simp (config := { maxSteps := 400000 }) only [↓jt,↓reduceIte,zvs,reduceCtorEq,Nat.reduceEqDiff,Nat.reduceAdd,Nat.reduceLeDiff,Nat.reduceMul,Int.reduceBNe,Int.reduceBEq,Int.reduceEq,Int.reduceNe,Int.reduceLT,Int.reduceLE,Int.reduceGT,Int.reduceGE,Int.reduceNeg,Int.reduceToNat,Nat.reduceLT,Nat.reduceSub,tab,hH8,hH16,VW_len,Tryd.results81,List.toList_toArray])|(simp (disch:=omega) only [ziw]))
      refine ok_drawC 8 (by kernel_rfl) (by decide +kernel) (by intro m hm; simp only [upd_ap,rows_cons,rows_nil]; (repeat (first | rfl | rw [if_neg (by omega)]))) (fun M hM => ?_); simp only [List.take_succ_cons,List.take_zero,List.drop_succ_cons,List.drop_zero]
      repeat' (first|(with_reducible first|refine yrl (by constructor) ?_|refine jk (fun M hM=>?_)|(refine hM _ ?_;clear hM M)|refine xb3 (by decide) ?_|refine yqa (by assumption) ?_ ?_|refine yqb (by assumption) ?_ ?_)|((with_reducible refine je ?_)<;>(first|rfl|assumption|(simp only [znl,nls_VW];(first|done|fail))))|(with_reducible refine jf (by (simp only [↓reduceIte,zlk,Nat.reduceEqDiff,reduceCtorEq]);exact rfl) ?_)|((with_reducible first|refine jg (fun hc=>?_) (fun hc=>?_)|refine jh (fun hc=>?_) (fun hc=>?_))<;>(try simp (disch:=omega) only [zhb] at hc)<;>(try (exfalso;omega))<;>(try subst hc))|(with_reducible refine ji (by omega) ?_)|(simp (config := { maxSteps := 400000 }) only [↓jt,↓reduceIte,zvs,reduceCtorEq,Nat.reduceEqDiff,Nat.reduceAdd,Nat.reduceLeDiff,Nat.reduceMul,Int.reduceBNe,Int.reduceBEq,Int.reduceEq,Int.reduceNe,Int.reduceLT,Int.reduceLE,Int.reduceGT,Int.reduceGE,Int.reduceNeg,Int.reduceToNat,Nat.reduceLT,Nat.reduceSub,tab,gr8,gr9,hH8,hH16,VW_len,Tryd.results81,List.toList_toArray])|(simp (disch:=omega) only [ziw]))
      refine ja (call_own (pmix_own _ _ _ _ _ (by constructor <;> omega) (by constructor <;> omega) (by constructor <;> omega) (by constructor <;> omega) _ _) (by simp only [↓reduceIte,zlk,Nat.reduceEqDiff,reduceCtorEq]; exact rfl) (pl_VW _ _) (pl_VW _ _) rfl rfl ?_)
      rw [hst4]
      repeat' (first|(with_reducible first|refine yrl (by constructor) ?_|refine jk (fun M hM=>?_)|(refine hM _ ?_;clear hM M)|refine xb3 (by decide) ?_|refine yqa (by assumption) ?_ ?_|refine yqb (by assumption) ?_ ?_)|((with_reducible refine je ?_)<;>(first|rfl|assumption|(simp only [znl,nls_VW];(first|done|fail))))|(with_reducible refine jf (by (simp only [↓reduceIte,zlk,Nat.reduceEqDiff,reduceCtorEq]);exact rfl) ?_)|((with_reducible first|refine jg (fun hc=>?_) (fun hc=>?_)|refine jh (fun hc=>?_) (fun hc=>?_))<;>(try simp (disch:=omega) only [zhb] at hc)<;>(try (exfalso;omega))<;>(try subst hc))|(with_reducible refine ji (by omega) ?_)|(simp (config := { maxSteps := 400000 }) only [↓jt,↓reduceIte,zvs,reduceCtorEq,Nat.reduceEqDiff,Nat.reduceAdd,Nat.reduceLeDiff,Nat.reduceMul,Int.reduceBNe,Int.reduceBEq,Int.reduceEq,Int.reduceNe,Int.reduceLT,Int.reduceLE,Int.reduceGT,Int.reduceGE,Int.reduceNeg,Int.reduceToNat,Nat.reduceLT,Nat.reduceSub,tab,hH8,hH16,VW_len,Tryd.results81,List.toList_toArray])|(simp (disch:=omega) only [ziw]))
      refine ok_drawC 8 (by kernel_rfl) (by decide +kernel) (by intro m hm; simp only [upd_ap,rows_cons,rows_nil]; (repeat (first | rfl | rw [if_neg (by omega)]))) (fun M hM => ?_); simp only [List.take_succ_cons,List.take_zero,List.drop_succ_cons,List.drop_zero]
      repeat' (first|(with_reducible first|refine yrl (by constructor) ?_|refine jk (fun M hM=>?_)|(refine hM _ ?_;clear hM M)|refine xb3 (by decide) ?_|refine yqa (by assumption) ?_ ?_|refine yqb (by assumption) ?_ ?_)|((with_reducible refine je ?_)<;>(first|rfl|assumption|(simp only [znl,nls_VW];(first|done|fail))))|(with_reducible refine jf (by (simp only [↓reduceIte,zlk,Nat.reduceEqDiff,reduceCtorEq]);exact rfl) ?_)|((with_reducible first|refine jg (fun hc=>?_) (fun hc=>?_)|refine jh (fun hc=>?_) (fun hc=>?_))<;>(try simp (disch:=omega) only [zhb] at hc)<;>(try (exfalso;omega))<;>(try subst hc))|(with_reducible refine ji (by omega) ?_)|(simp (config := { maxSteps := 400000 }) only [↓jt,↓reduceIte,zvs,reduceCtorEq,Nat.reduceEqDiff,Nat.reduceAdd,Nat.reduceLeDiff,Nat.reduceMul,Int.reduceBNe,Int.reduceBEq,Int.reduceEq,Int.reduceNe,Int.reduceLT,Int.reduceLE,Int.reduceGT,Int.reduceGE,Int.reduceNeg,Int.reduceToNat,Nat.reduceLT,Nat.reduceSub,tab,gr10,gr11,hH8,hH16,VW_len,Tryd.results81,List.toList_toArray])|(simp (disch:=omega) only [ziw]))
      refine ja (call_own (pmix_own _ _ _ _ _ (by constructor <;> omega) (by constructor <;> omega) (by constructor <;> omega) (by constructor <;> omega) _ _) (by simp only [↓reduceIte,zlk,Nat.reduceEqDiff,reduceCtorEq]; exact rfl) (pl_VW _ _) (pl_VW _ _) rfl rfl ?_)
      rw [hst5]
      repeat' (first|(with_reducible first|refine yrl (by constructor) ?_|refine jk (fun M hM=>?_)|(refine hM _ ?_;clear hM M)|refine xb3 (by decide) ?_|refine yqa (by assumption) ?_ ?_|refine yqb (by assumption) ?_ ?_)|((with_reducible refine je ?_)<;>(first|rfl|assumption|(simp only [znl,nls_VW];(first|done|fail))))|(with_reducible refine jf (by (simp only [↓reduceIte,zlk,Nat.reduceEqDiff,reduceCtorEq]);exact rfl) ?_)|((with_reducible first|refine jg (fun hc=>?_) (fun hc=>?_)|refine jh (fun hc=>?_) (fun hc=>?_))<;>(try simp (disch:=omega) only [zhb] at hc)<;>(try (exfalso;omega))<;>(try subst hc))|(with_reducible refine ji (by omega) ?_)|(simp (config := { maxSteps := 400000 }) only [↓jt,↓reduceIte,zvs,reduceCtorEq,Nat.reduceEqDiff,Nat.reduceAdd,Nat.reduceLeDiff,Nat.reduceMul,Int.reduceBNe,Int.reduceBEq,Int.reduceEq,Int.reduceNe,Int.reduceLT,Int.reduceLE,Int.reduceGT,Int.reduceGE,Int.reduceNeg,Int.reduceToNat,Nat.reduceLT,Nat.reduceSub,tab,hH8,hH16,VW_len,Tryd.results81,List.toList_toArray])|(simp (disch:=omega) only [ziw]))
      refine ok_drawC 8 (by kernel_rfl) (by decide +kernel) (by intro m hm; simp only [upd_ap,rows_cons,rows_nil]; (repeat (first | rfl | rw [if_neg (by omega)]))) (fun M hM => ?_); simp only [List.take_succ_cons,List.take_zero,List.drop_succ_cons,List.drop_zero]
      repeat' (first|(with_reducible first|refine yrl (by constructor) ?_|refine jk (fun M hM=>?_)|(refine hM _ ?_;clear hM M)|refine xb3 (by decide) ?_|refine yqa (by assumption) ?_ ?_|refine yqb (by assumption) ?_ ?_)|((with_reducible refine je ?_)<;>(first|rfl|assumption|(simp only [znl,nls_VW];(first|done|fail))))|(with_reducible refine jf (by (simp only [↓reduceIte,zlk,Nat.reduceEqDiff,reduceCtorEq]);exact rfl) ?_)|((with_reducible first|refine jg (fun hc=>?_) (fun hc=>?_)|refine jh (fun hc=>?_) (fun hc=>?_))<;>(try simp (disch:=omega) only [zhb] at hc)<;>(try (exfalso;omega))<;>(try subst hc))|(with_reducible refine ji (by omega) ?_)|(simp (config := { maxSteps := 400000 }) only [↓jt,↓reduceIte,zvs,reduceCtorEq,Nat.reduceEqDiff,Nat.reduceAdd,Nat.reduceLeDiff,Nat.reduceMul,Int.reduceBNe,Int.reduceBEq,Int.reduceEq,Int.reduceNe,Int.reduceLT,Int.reduceLE,Int.reduceGT,Int.reduceGE,Int.reduceNeg,Int.reduceToNat,Nat.reduceLT,Nat.reduceSub,tab,gr12,gr13,hH8,hH16,VW_len,Tryd.results81,List.toList_toArray])|(simp (disch:=omega) only [ziw]))
      refine ja (call_own (pmix_own _ _ _ _ _ (by constructor <;> omega) (by constructor <;> omega) (by constructor <;> omega) (by constructor <;> omega) _ _) (by simp only [↓reduceIte,zlk,Nat.reduceEqDiff,reduceCtorEq]; exact rfl) (pl_VW _ _) (pl_VW _ _) rfl rfl ?_)
      rw [hst6]
      repeat' (first|(with_reducible first|refine yrl (by constructor) ?_|refine jk (fun M hM=>?_)|(refine hM _ ?_;clear hM M)|refine xb3 (by decide) ?_|refine yqa (by assumption) ?_ ?_|refine yqb (by assumption) ?_ ?_)|((with_reducible refine je ?_)<;>(first|rfl|assumption|(simp only [znl,nls_VW];(first|done|fail))))|(with_reducible refine jf (by (simp only [↓reduceIte,zlk,Nat.reduceEqDiff,reduceCtorEq]);exact rfl) ?_)|((with_reducible first|refine jg (fun hc=>?_) (fun hc=>?_)|refine jh (fun hc=>?_) (fun hc=>?_))<;>(try simp (disch:=omega) only [zhb] at hc)<;>(try (exfalso;omega))<;>(try subst hc))|(with_reducible refine ji (by omega) ?_)|(simp (config := { maxSteps := 400000 }) only [↓jt,↓reduceIte,zvs,reduceCtorEq,Nat.reduceEqDiff,Nat.reduceAdd,Nat.reduceLeDiff,Nat.reduceMul,Int.reduceBNe,Int.reduceBEq,Int.reduceEq,Int.reduceNe,Int.reduceLT,Int.reduceLE,Int.reduceGT,Int.reduceGE,Int.reduceNeg,Int.reduceToNat,Nat.reduceLT,Nat.reduceSub,tab,hH8,hH16,VW_len,Tryd.results81,List.toList_toArray])|(simp (disch:=omega) only [ziw]))
      refine ok_drawC 8 (by kernel_rfl) (by decide +kernel) (by intro m hm; simp only [upd_ap,rows_cons,rows_nil]; (repeat (first | rfl | rw [if_neg (by omega)]))) (fun M hM => ?_); simp only [List.take_succ_cons,List.take_zero,List.drop_succ_cons,List.drop_zero]
      repeat' (first|(with_reducible first|refine yrl (by constructor) ?_|refine jk (fun M hM=>?_)|(refine hM _ ?_;clear hM M)|refine xb3 (by decide) ?_|refine yqa (by assumption) ?_ ?_|refine yqb (by assumption) ?_ ?_)|((with_reducible refine je ?_)<;>(first|rfl|assumption|(simp only [znl,nls_VW];(first|done|fail))))|(with_reducible refine jf (by (simp only [↓reduceIte,zlk,Nat.reduceEqDiff,reduceCtorEq]);exact rfl) ?_)|((with_reducible first|refine jg (fun hc=>?_) (fun hc=>?_)|refine jh (fun hc=>?_) (fun hc=>?_))<;>(try simp (disch:=omega) only [zhb] at hc)<;>(try (exfalso;omega))<;>(try subst hc))|(with_reducible refine ji (by omega) ?_)|(simp (config := { maxSteps := 400000 }) only [↓jt,↓reduceIte,zvs,reduceCtorEq,Nat.reduceEqDiff,Nat.reduceAdd,Nat.reduceLeDiff,Nat.reduceMul,Int.reduceBNe,Int.reduceBEq,Int.reduceEq,Int.reduceNe,Int.reduceLT,Int.reduceLE,Int.reduceGT,Int.reduceGE,Int.reduceNeg,Int.reduceToNat,Nat.reduceLT,Nat.reduceSub,tab,gr14,gr15,hH8,hH16,VW_len,Tryd.results81,List.toList_toArray])|(simp (disch:=omega) only [ziw]))
      refine ja (call_own (pmix_own _ _ _ _ _ (by constructor <;> omega) (by constructor <;> omega) (by constructor <;> omega) (by constructor <;> omega) _ _) (by simp only [↓reduceIte,zlk,Nat.reduceEqDiff,reduceCtorEq]; exact rfl) (pl_VW _ _) (pl_VW _ _) rfl rfl ?_)
      rw [hst7, hsu]
      repeat' (first|(with_reducible first|refine yrl (by constructor) ?_|refine jk (fun M hM=>?_)|(refine hM _ ?_;clear hM M)|refine xb3 (by decide) ?_|refine yqa (by assumption) ?_ ?_|refine yqb (by assumption) ?_ ?_)|((with_reducible refine je ?_)<;>(first|rfl|assumption|(simp only [znl,nls_VW];(first|done|fail))))|(with_reducible refine jf (by (simp only [↓reduceIte,zlk,Nat.reduceEqDiff,reduceCtorEq]);exact rfl) ?_)|((with_reducible first|refine jg (fun hc=>?_) (fun hc=>?_)|refine jh (fun hc=>?_) (fun hc=>?_))<;>(try simp (disch:=omega) only [zhb] at hc)<;>(try (exfalso;omega))<;>(try subst hc))|(with_reducible refine ji (by omega) ?_)|(simp (config := { maxSteps := 400000 }) only [↓jt,↓reduceIte,zvs,reduceCtorEq,Nat.reduceEqDiff,Nat.reduceAdd,Nat.reduceLeDiff,Nat.reduceMul,Int.reduceBNe,Int.reduceBEq,Int.reduceEq,Int.reduceNe,Int.reduceLT,Int.reduceLE,Int.reduceGT,Int.reduceGE,Int.reduceNeg,Int.reduceToNat,Nat.reduceLT,Nat.reduceSub,tab,hH8,hH16,VW_len,Tryd.results81,List.toList_toArray])|(simp (disch:=omega) only [ziw]))
      all_goals (try (exfalso; omega))
      refine xl1 (k + 1) ?_ (by show k + 1 ≤ 10; omega) (by show 10 - (k + 1) < 10 - k; omega)
      (refine yrn [(1, 1), (2, 2)] false ?_ ?_<;>(repeat' (first|(with_reducible first|exact ya1|exact ya2|exact ya3|refine jx rfl (by first|rfl|assumption|(simp only [znl,nls_VW];(first|done|fail)))|exact ya5|exact ya7|exact jy|exact jz|refine jA ?_|refine ya9 ?_ ?_ ?_|refine jC rfl (by first|rfl|assumption|(simp only [znl,nls_VW];(first|done|fail)))|refine MR.agg (MRL.cons ?_ ?_)|refine MR.fn ?_|refine MRL.cons ?_ ?_|exact MRL.nil|refine jE ?_ ?_|exact jF|exact jG|refine yb1 ?_ ?_|refine MB.row ?_|refine jI ?_ ?_|exact ya8|refine jJ rfl (by first|rfl|assumption|(simp only [znl,nls_VW];(first|done|fail)))|refine yb2 ?_|rfl)|(simp only [znl,nls_VW];(first|done|fail))|(simp only [↓reduceIte,zlk,Nat.reduceEqDiff,reduceCtorEq])|(with_reducible first|refine jJ ?_ ?_|refine ya5 ?_|refine ju ?_|refine jv ?_|refine jw ?_|refine jx ?_ (by first|rfl|assumption|(simp only [znl,nls_VW];(first|done|fail)))|refine jC ?_ (by first|rfl|assumption|(simp only [znl,nls_VW];(first|done|fail)))))))
      all_goals (first | rfl | trace_state)
    obtain rfl : k = 10 := by omega
    obtain ⟨V, hV⟩ : ∃ V, V = roundsV m U 10 := ⟨_, rfl⟩
    rw [← hV]
    repeat' (first|(with_reducible first|refine yrl (by constructor) ?_|refine jk (fun M hM=>?_)|(refine hM _ ?_;clear hM M)|refine xb3 (by decide) ?_|refine yqa (by assumption) ?_ ?_|refine yqb (by assumption) ?_ ?_)|((with_reducible refine je ?_)<;>(first|rfl|assumption|(simp only [znl,nls_VW];(first|done|fail))))|(with_reducible refine jf (by (simp only [↓reduceIte,zlk,Nat.reduceEqDiff,reduceCtorEq]);exact rfl) ?_)|((with_reducible first|refine jg (fun hc=>?_) (fun hc=>?_)|refine jh (fun hc=>?_) (fun hc=>?_))<;>(try simp (disch:=omega) only [zhb] at hc)<;>(try (exfalso;omega))<;>(try subst hc))|(with_reducible refine ji (by omega) ?_)|(simp (config := { maxSteps := 400000 }) only [↓jt,↓reduceIte,zvs,reduceCtorEq,Nat.reduceEqDiff,Nat.reduceAdd,Nat.reduceLeDiff,Nat.reduceMul,Int.reduceBNe,Int.reduceBEq,Int.reduceEq,Int.reduceNe,Int.reduceLT,Int.reduceLE,Int.reduceGT,Int.reduceGE,Int.reduceNeg,Int.reduceToNat,Nat.reduceLT,Nat.reduceSub,tab,hH8,hH16,VW_len,Tryd.results81,List.toList_toArray])|(simp (disch:=omega) only [ziw]))
    all_goals (try (exfalso; omega))
    refine ok_loop (fun k : Nat => ⟨slots [(0, .ptr 0 []), (7, .ptr 2 []), (175, .int .i64 k)],
      rows [(0, .row stSh (.agg [.agg (VW 8 (outH h V k)), .agg (w.map encB), .int .i64 (f : Int), .int .u64 (n : Int)])), (2, .row (.arr 16 .cell) (.agg (VW 16 V)))], 3⟩) (fun k => k ≤ 8) (fun k => 8 - k) 0 ?_ (by omega) (fun k hk => ?_)
    · (refine yrn [(2, 2)] false ?_ ?_<;>(repeat' (first|(with_reducible first|exact ya1|exact ya2|exact ya3|refine jx rfl (by first|rfl|assumption|(simp only [znl,nls_VW];(first|done|fail)))|exact ya5|exact ya7|exact jy|exact jz|refine jA ?_|refine ya9 ?_ ?_ ?_|refine jC rfl (by first|rfl|assumption|(simp only [znl,nls_VW];(first|done|fail)))|refine MR.agg (MRL.cons ?_ ?_)|refine MR.fn ?_|refine MRL.cons ?_ ?_|exact MRL.nil|refine jE ?_ ?_|exact jF|exact jG|refine yb1 ?_ ?_|refine MB.row ?_|refine jI ?_ ?_|exact ya8|refine jJ rfl (by first|rfl|assumption|(simp only [znl,nls_VW];(first|done|fail)))|refine yb2 ?_|rfl)|(simp only [znl,nls_VW];(first|done|fail))|(simp only [↓reduceIte,zlk,Nat.reduceEqDiff,reduceCtorEq])|(with_reducible first|refine jJ ?_ ?_|refine ya5 ?_|refine ju ?_|refine jv ?_|refine jw ?_|refine jx ?_ (by first|rfl|assumption|(simp only [znl,nls_VW];(first|done|fail)))|refine jC ?_ (by first|rfl|assumption|(simp only [znl,nls_VW];(first|done|fail)))))))
      all_goals (first | rfl | (rw [outH_zero]; done) | (rw [hV]; done) | trace_state)
    by_cases hlt : k < 8
    · have g8 : ∀ u, (VW 8 u)[k]? = some (.int .u32 ((u k).toNat : Int)) := fun u => VW_get hlt
      have g16 : ∀ u, (VW 16 u)[k]? = some (.int .u32 ((u k).toNat : Int)) := fun u => VW_get (by omega)
      have g24 : ∀ u, (VW 16 u)[k + 8]? = some (.int .u32 ((u (k + 8)).toNat : Int)) := fun u => VW_get (by omega)
      have t8 : ((k : Int) + 8).toNat = k + 8 := by omega
      have hset : (VW 8 (outH h V k)).set k (.int .u32 ((outH h V k k ^^^ (V k ^^^ V (k + 8))).toNat : Int)) = VW 8 (outH h V (k + 1)) := by rw [← BitVec.xor_assoc, VW_set, outH_set]
      repeat' (first|(with_reducible first|refine yrl (by constructor) ?_|refine jk (fun M hM=>?_)|(refine hM _ ?_;clear hM M)|refine xb3 (by decide) ?_|refine yqa (by assumption) ?_ ?_|refine yqb (by assumption) ?_ ?_)|((with_reducible refine je ?_)<;>(first|rfl|assumption|(simp only [znl,nls_VW];(first|done|fail))))|(with_reducible refine jf (by (simp only [↓reduceIte,zlk,Nat.reduceEqDiff,reduceCtorEq]);exact rfl) ?_)|((with_reducible first|refine jg (fun hc=>?_) (fun hc=>?_)|refine jh (fun hc=>?_) (fun hc=>?_))<;>(try simp (disch:=omega) only [zhb] at hc)<;>(try (exfalso;omega))<;>(try subst hc))|(with_reducible refine ji (by omega) ?_)|(simp (config := { maxSteps := 400000 }) only [↓jt,↓reduceIte,zvs,reduceCtorEq,Nat.reduceEqDiff,Nat.reduceAdd,Nat.reduceLeDiff,Nat.reduceMul,Int.reduceBNe,Int.reduceBEq,Int.reduceEq,Int.reduceNe,Int.reduceLT,Int.reduceLE,Int.reduceGT,Int.reduceGE,Int.reduceNeg,Int.reduceToNat,Nat.reduceLT,Nat.reduceSub,tab,hH8,hH16,VW_len,Tryd.results81,List.toList_toArray])|(simp (disch:=omega) only [ziw]))
      refine ok_drawC 18 (by kernel_rfl) (by decide +kernel) (by intro m hm; simp only [upd_ap,rows_cons,rows_nil]; (repeat (first | rfl | rw [if_neg (by omega)]))) (fun M hM => ?_); simp only [List.take_succ_cons,List.take_zero,List.drop_succ_cons,List.drop_zero]
      repeat' (first|(with_reducible first|refine yrl (by constructor) ?_|refine jk (fun M hM=>?_)|(refine hM _ ?_;clear hM M)|refine xb3 (by decide) ?_|refine yqa (by assumption) ?_ ?_|refine yqb (by assumption) ?_ ?_)|((with_reducible refine je ?_)<;>(first|rfl|assumption|(simp only [znl,nls_VW];(first|done|fail))))|(with_reducible refine jf (by (simp only [↓reduceIte,zlk,Nat.reduceEqDiff,reduceCtorEq]);exact rfl) ?_)|((with_reducible first|refine jg (fun hc=>?_) (fun hc=>?_)|refine jh (fun hc=>?_) (fun hc=>?_))<;>(try simp (disch:=omega) only [zhb] at hc)<;>(try (exfalso;omega))<;>(try subst hc))|(with_reducible refine ji (by omega) ?_)|(simp (config := { maxSteps := 400000 }) only [↓jt,↓reduceIte,zvs,reduceCtorEq,Nat.reduceEqDiff,Nat.reduceAdd,Nat.reduceLeDiff,Nat.reduceMul,Int.reduceBNe,Int.reduceBEq,Int.reduceEq,Int.reduceNe,Int.reduceLT,Int.reduceLE,Int.reduceGT,Int.reduceGE,Int.reduceNeg,Int.reduceToNat,Nat.reduceLT,Nat.reduceSub,tab,hH8,hH16,VW_len,g8,g16,g24,t8,w_xor,hset,Tryd.results81,List.toList_toArray])|(simp (disch:=omega) only [ziw]))
      all_goals first
        | (exfalso; omega)
        | (refine xl1 (k + 1) ?_ (by show k + 1 ≤ 8; omega) (by show 8 - (k + 1) < 8 - k; omega); (refine yrn [(2, 2)] false ?_ ?_<;>(repeat' (first|(with_reducible first|exact ya1|exact ya2|exact ya3|refine jx rfl (by first|rfl|assumption|(simp only [znl,nls_VW];(first|done|fail)))|exact ya5|exact ya7|exact jy|exact jz|refine jA ?_|refine ya9 ?_ ?_ ?_|refine jC rfl (by first|rfl|assumption|(simp only [znl,nls_VW];(first|done|fail)))|refine MR.agg (MRL.cons ?_ ?_)|refine MR.fn ?_|refine MRL.cons ?_ ?_|exact MRL.nil|refine jE ?_ ?_|exact jF|exact jG|refine yb1 ?_ ?_|refine MB.row ?_|refine jI ?_ ?_|exact ya8|refine jJ rfl (by first|rfl|assumption|(simp only [znl,nls_VW];(first|done|fail)))|refine yb2 ?_|rfl)|(simp only [znl,nls_VW];(first|done|fail))|(simp only [↓reduceIte,zlk,Nat.reduceEqDiff,reduceCtorEq])|(with_reducible first|refine jJ ?_ ?_|refine ya5 ?_|refine ju ?_|refine jv ?_|refine jw ?_|refine jx ?_ (by first|rfl|assumption|(simp only [znl,nls_VW];(first|done|fail)))|refine jC ?_ (by first|rfl|assumption|(simp only [znl,nls_VW];(first|done|fail))))))); all_goals (first | rfl | trace_state); done)
        | trace_state
    obtain rfl : k = 8 := by omega
    repeat' (first|(with_reducible first|refine yrl (by constructor) ?_|refine jk (fun M hM=>?_)|(refine hM _ ?_;clear hM M)|refine xb3 (by decide) ?_|refine yqa (by assumption) ?_ ?_|refine yqb (by assumption) ?_ ?_)|((with_reducible refine je ?_)<;>(first|rfl|assumption|(simp only [znl,nls_VW];(first|done|fail))))|(with_reducible refine jf (by (simp only [↓reduceIte,zlk,Nat.reduceEqDiff,reduceCtorEq]);exact rfl) ?_)|((with_reducible first|refine jg (fun hc=>?_) (fun hc=>?_)|refine jh (fun hc=>?_) (fun hc=>?_))<;>(try simp (disch:=omega) only [zhb] at hc)<;>(try (exfalso;omega))<;>(try subst hc))|(with_reducible refine ji (by omega) ?_)|(simp (config := { maxSteps := 400000 }) only [↓jt,↓reduceIte,zvs,reduceCtorEq,Nat.reduceEqDiff,Nat.reduceAdd,Nat.reduceLeDiff,Nat.reduceMul,Int.reduceBNe,Int.reduceBEq,Int.reduceEq,Int.reduceNe,Int.reduceLT,Int.reduceLE,Int.reduceGT,Int.reduceGE,Int.reduceNeg,Int.reduceToNat,Nat.reduceLT,Nat.reduceSub,tab,hH8,hH16,VW_len,Tryd.results81,List.toList_toArray])|(simp (disch:=omega) only [ziw]))
    all_goals first
      | (exfalso; omega)
      | (exact ⟨rfl, rfl⟩)
      | rfl
      | trace_state)
end Go.Proofs.YtcilmfhncjfdbaaDoor.V
end
section
/-
  HASH, part 5: digests; plain, and by the document.
-/
set_option linter.unusedVariables false
set_option linter.unusedSimpArgs false
namespace Go.Proofs.YtcilmfhncjfdbaaDoor.V
open Go
set_option maxRecDepth 100000
-- nlx: nls_VW
set_option maxHeartbeats 4000000
def pad64 (s : List UInt8) : List UInt8 := s ++ List.replicate (64 - s.length) 0
def chain (h : Nat → W32) (n : Nat) (s : List UInt8) : Nat → W32 :=
  if 64 < s.length then chain (takeF h (s.take 64) (n + 64) false) (n + 64) (s.drop 64) else takeF h (pad64 s) (n + s.length) true
termination_by s.length
decreasing_by rw [List.length_drop]; omega
theorem chain_hi {h : Nat → W32} {n : Nat} {s : List UInt8} (hs : 64 < s.length) : chain h n s = chain (takeF h (s.take 64) (n + 64) false) (n + 64) (s.drop 64) := by rw [chain, if_pos hs]
theorem chain_lo {h : Nat → W32} {n : Nat} {s : List UInt8} (hs : ¬64 < s.length) : chain h n s = takeF h (pad64 s) (n + s.length) true := by rw [chain, if_neg hs]
def digB (h : Nat → W32) : List UInt8 := (List.range 32).map fun i => UInt8.ofNat ((h (i / 4)).toNat / 256 ^ (i % 4) % 256)
theorem digB_len (h : Nat → W32) : (digB h).length = 32 := by simp [digB]
theorem digB_at (h : Nat → W32) {i : Nat} (hi : i < 32) : (digB h).getD i 0 = UInt8.ofNat ((h (i / 4)).toNat / 256 ^ (i % 4) % 256) := by simp [digB, hi]
def h0F : Nat → W32 := fset iv 0 (iv 0 ^^^ 16842784#32)
def sumF (s : List UInt8) : List UInt8 := digB (chain h0F 0 s)
theorem sumF_len (s : List UInt8) : (sumF s).length = 32 := digB_len _
def upB (D : List UInt8) (k : Nat) : List UInt8 := D.take k ++ List.replicate (D.length - k) 0
theorem upB_len (D : List UInt8) {k : Nat} (h : k ≤ D.length) : (upB D k).length = D.length := by simp only [upB,List.length_append,List.length_take,List.length_replicate]; omega
theorem upB_all (D : List UInt8) : upB D D.length = D := by simp [upB]
theorem upB_set (D : List UInt8) {k : Nat} (h : k < D.length) : (upB D k).set k (D.getD k 0) = upB D (k + 1) := by
  refine List.ext_getElem (by rw [List.length_set, upB_len D (by omega), upB_len D h]) fun i h1 h2 => ?_
  rw [List.length_set, upB_len D (by omega)] at h1
  rw [List.getElem_set]
  have key : ∀ j (hj : j ≤ D.length) (hi : i < (upB D j).length), (upB D j)[i] = if i < j then D.getD i 0 else 0 := fun j hj hi => by
    simp only [upB]
    split
    · rename_i hij
      rw [List.getElem_append_left (by rw [List.length_take]; omega), List.getElem_take, List.getD_eq_getElem?_getD, List.getElem?_eq_getElem h1]; rfl
    · rename_i hij
      rw [List.getElem_append_right (by rw [List.length_take]; omega), List.getElem_replicate]
  rw [key (k + 1) h h2]
  by_cases e : k = i
  · rw [if_pos e, if_pos (by omega), e]
  · rw [if_neg e, key k (by omega)]
    by_cases e2 : i < k
    · rw [if_pos e2, if_pos (by omega)]
    · rw [if_neg e2, if_neg (by omega)]
theorem upB_zero (D : List UInt8) : List.replicate D.length (VV.int .u8 0) = (upB D 0).map encB := by simp [upB, encB]
theorem upB_zero32 (D : List UInt8) (h : D.length = 32) : List.replicate 32 (VV.int .u8 0) = (upB D 0).map encB := by rw [← upB_zero, h]
theorem upB_setV (D : List UInt8) {k : Nat} (h : k < D.length) {b : UInt8} (hb : b = D.getD k 0) : ((upB D k).map encB).set k (.int .u8 (b.toNat : Int)) = (upB D (k + 1)).map encB := by
  rw [← upB_set D h, List.map_set, hb]; rfl
theorem dig_byte (X : Nat) : IntKind.u8.wrap (((X % 256 : Nat) : Int)) = ((UInt8.ofNat (X % 256)).toNat : Int) := by
  have e : (UInt8.ofNat (X % 256)).toNat = X % 256 := by simp
  rw [e, IntKind.wrap_u8]
  omega
theorem flat_snoc (l : List (List UInt8)) {k : Nat} (h : k < l.length) : (l.take k).flatten ++ l.getD k [] = (l.take (k + 1)).flatten := by
  rw [List.take_succ_eq_append_getElem h, List.flatten_append, List.getD_eq_getElem?_getD, List.getElem?_eq_getElem h]; simp
theorem flat_take (l : List (List UInt8)) (k : Nat) : (l.take k).flatten.length ≤ l.flatten.length := by
  conv => rhs; rw [← List.take_append_drop k l]
  rw [List.flatten_append, List.length_append]; omega
theorem rjoined_spec (l : List (List UInt8)) (hl : l.length < 2 ^ 36) (hf : l.flatten.length < 2 ^ 47) : Spec Tryd.prog 44 [encStrs l] (.str l.flatten) := by
  refine spec_ok Tryd.func44 rfl rfl (by kernel_rfl) (k := 1) rfl (by decide) ?_
  repeat' (first|(with_reducible first|refine yrl (by constructor) ?_|refine jk (fun M hM=>?_)|(refine hM _ ?_;clear hM M)|refine xb3 (by decide) ?_|refine yqa (by assumption) ?_ ?_|refine yqb (by assumption) ?_ ?_)|((with_reducible refine je ?_)<;>(first|rfl|assumption|(simp only [znl,nls_VW];(first|done|fail))))|(with_reducible refine jf (by (simp only [↓reduceIte,zlk,Nat.reduceEqDiff,reduceCtorEq]);exact rfl) ?_)|((with_reducible first|refine jg (fun hc=>?_) (fun hc=>?_)|refine jh (fun hc=>?_) (fun hc=>?_))<;>(try simp (disch:=omega) only [zhb] at hc)<;>(try (exfalso;omega))<;>(try subst hc))|(with_reducible refine ji (by omega) ?_)|(simp (config := { maxSteps := 400000 }) only [↓jt,↓reduceIte,zvs,reduceCtorEq,Nat.reduceEqDiff,Nat.reduceAdd,Nat.reduceLeDiff,Nat.reduceMul,Int.reduceBNe,Int.reduceBEq,Int.reduceEq,Int.reduceNe,Int.reduceLT,Int.reduceLE,Int.reduceGT,Int.reduceGE,Int.reduceNeg,Int.reduceToNat,Nat.reduceLT,Nat.reduceSub,tab,Tryd.results44,List.toList_toArray])|(simp (disch:=omega) only [ziw]))
  refine ok_loop (fun k : Nat => ⟨slots [(0, encStrs l), (3, .str (l.take k).flatten), (4, .int .i64 k)], rows [], 0⟩) (fun k => k ≤ l.length) (fun k => l.length - k) 0 ?_ (Nat.zero_le _) (fun k hk => ?_)
  · (refine yrn [] false ?_ ?_<;>(repeat' (first|(with_reducible first|exact ya1|exact ya2|exact ya3|refine jx rfl (by first|rfl|assumption|(simp only [znl,nls_VW];(first|done|fail)))|exact ya5|exact ya7|exact jy|exact jz|refine jA ?_|refine ya9 ?_ ?_ ?_|refine jC rfl (by first|rfl|assumption|(simp only [znl,nls_VW];(first|done|fail)))|refine MR.agg (MRL.cons ?_ ?_)|refine MR.fn ?_|refine MRL.cons ?_ ?_|exact MRL.nil|refine jE ?_ ?_|exact jF|exact jG|refine yb1 ?_ ?_|refine MB.row ?_|refine jI ?_ ?_|exact ya8|refine jJ rfl (by first|rfl|assumption|(simp only [znl,nls_VW];(first|done|fail)))|refine yb2 ?_|rfl)|(simp only [znl,nls_VW];(first|done|fail))|(simp only [↓reduceIte,zlk,Nat.reduceEqDiff,reduceCtorEq])|(with_reducible first|refine jJ ?_ ?_|refine ya5 ?_|refine ju ?_|refine jv ?_|refine jw ?_|refine jx ?_ (by first|rfl|assumption|(simp only [znl,nls_VW];(first|done|fail)))|refine jC ?_ (by first|rfl|assumption|(simp only [znl,nls_VW];(first|done|fail)))))))
    all_goals (first | rfl | trace_state)
  by_cases hlt : k < l.length
  · have h1 := flat_snoc l hlt
    have h2 := flat_take l k
    have h3 := flat_take l (k + 1)
    rw [← h1, List.length_append] at h3
    repeat' (first|(with_reducible first|refine yrl (by constructor) ?_|refine jk (fun M hM=>?_)|(refine hM _ ?_;clear hM M)|refine xb3 (by decide) ?_|refine yqa (by assumption) ?_ ?_|refine yqb (by assumption) ?_ ?_)|((with_reducible refine je ?_)<;>(first|rfl|assumption|(simp only [znl,nls_VW];(first|done|fail))))|(with_reducible refine jf (by (simp only [↓reduceIte,zlk,Nat.reduceEqDiff,reduceCtorEq]);exact rfl) ?_)|((with_reducible first|refine jg (fun hc=>?_) (fun hc=>?_)|refine jh (fun hc=>?_) (fun hc=>?_))<;>(try simp (disch:=omega) only [zhb] at hc)<;>(try (exfalso;omega))<;>(try subst hc))|(with_reducible refine ji (by omega) ?_)|(simp (config := { maxSteps := 400000 }) only [↓jt,↓reduceIte,zvs,reduceCtorEq,Nat.reduceEqDiff,Nat.reduceAdd,Nat.reduceLeDiff,Nat.reduceMul,Int.reduceBNe,Int.reduceBEq,Int.reduceEq,Int.reduceNe,Int.reduceLT,Int.reduceLE,Int.reduceGT,Int.reduceGE,Int.reduceNeg,Int.reduceToNat,Nat.reduceLT,Nat.reduceSub,tab,h1,Tryd.results44,List.toList_toArray])|(simp (disch:=omega) only [ziw]))
    all_goals first
      | (exfalso; omega)
      | (refine xl1 (k + 1) ?_ (by show k + 1 ≤ l.length; omega) (by show l.length - (k + 1) < l.length - k; omega); (refine yrn [] false ?_ ?_<;>(repeat' (first|(with_reducible first|exact ya1|exact ya2|exact ya3|refine jx rfl (by first|rfl|assumption|(simp only [znl,nls_VW];(first|done|fail)))|exact ya5|exact ya7|exact jy|exact jz|refine jA ?_|refine ya9 ?_ ?_ ?_|refine jC rfl (by first|rfl|assumption|(simp only [znl,nls_VW];(first|done|fail)))|refine MR.agg (MRL.cons ?_ ?_)|refine MR.fn ?_|refine MRL.cons ?_ ?_|exact MRL.nil|refine jE ?_ ?_|exact jF|exact jG|refine yb1 ?_ ?_|refine MB.row ?_|refine jI ?_ ?_|exact ya8|refine jJ rfl (by first|rfl|assumption|(simp only [znl,nls_VW];(first|done|fail)))|refine yb2 ?_|rfl)|(simp only [znl,nls_VW];(first|done|fail))|(simp only [↓reduceIte,zlk,Nat.reduceEqDiff,reduceCtorEq])|(with_reducible first|refine jJ ?_ ?_|refine ya5 ?_|refine ju ?_|refine jv ?_|refine jw ?_|refine jx ?_ (by first|rfl|assumption|(simp only [znl,nls_VW];(first|done|fail)))|refine jC ?_ (by first|rfl|assumption|(simp only [znl,nls_VW];(first|done|fail))))))); all_goals (first | rfl | trace_state); done)
      | trace_state
  obtain rfl : k = l.length := by omega
  rw [List.take_length]
  repeat' (first|(with_reducible first|refine yrl (by constructor) ?_|refine jk (fun M hM=>?_)|(refine hM _ ?_;clear hM M)|refine xb3 (by decide) ?_|refine yqa (by assumption) ?_ ?_|refine yqb (by assumption) ?_ ?_)|((with_reducible refine je ?_)<;>(first|rfl|assumption|(simp only [znl,nls_VW];(first|done|fail))))|(with_reducible refine jf (by (simp only [↓reduceIte,zlk,Nat.reduceEqDiff,reduceCtorEq]);exact rfl) ?_)|((with_reducible first|refine jg (fun hc=>?_) (fun hc=>?_)|refine jh (fun hc=>?_) (fun hc=>?_))<;>(try simp (disch:=omega) only [zhb] at hc)<;>(try (exfalso;omega))<;>(try subst hc))|(with_reducible refine ji (by omega) ?_)|(simp (config := { maxSteps := 400000 }) only [↓jt,↓reduceIte,zvs,reduceCtorEq,Nat.reduceEqDiff,Nat.reduceAdd,Nat.reduceLeDiff,Nat.reduceMul,Int.reduceBNe,Int.reduceBEq,Int.reduceEq,Int.reduceNe,Int.reduceLT,Int.reduceLE,Int.reduceGT,Int.reduceGE,Int.reduceNeg,Int.reduceToNat,Nat.reduceLT,Nat.reduceSub,tab,Tryd.results44,List.toList_toArray])|(simp (disch:=omega) only [ziw]))
  all_goals first
    | (exfalso; omega)
    | (simp only [zrds]; done)
    | trace_state
end Go.Proofs.YtcilmfhncjfdbaaDoor.V
end
section
/-
  HASH, part 6: the document's digest and sum.
-/
set_option linter.unusedVariables false
set_option linter.unusedSimpArgs false
namespace Go.Proofs.YtcilmfhncjfdbaaDoor.V
open Go
set_option maxRecDepth 100000
-- nlx: nls_VW
set_option maxHeartbeats 8000000
theorem pad_snoc (t : List UInt8) (k : Nat) : (t ++ List.replicate k 0) ++ [0] = t ++ List.replicate (k + 1) 0 := by
  rw [List.append_assoc]; congr 1; rw [List.replicate_succ']
theorem rdigest_spec (h : Nat → W32) (s : List UInt8) (hs : s.length < 2 ^ 40) : Spec Tryd.prog 43 [.agg (VW 8 h), .str s] (.agg ((digB (chain h 0 s)).map encB)) := by
  have hH8 : ∀ u, Has (.arr 8 .cell) (.agg (VW 8 u)) := has_VW 8
  have hHB : ∀ l : List UInt8, l.length = 32 → Has (.arr 32 .cell) (.agg (l.map encB)) := fun l hl => has_arrMap hl (fun x => has_int _ _)
  obtain ⟨C, hC⟩ : ∃ C, C = chain h 0 s := ⟨_, rfl⟩
  rw [← hC]
  refine spec_ok Tryd.func43 rfl rfl (by kernel_rfl) (k := 2) rfl (by decide) ?_
  repeat' (first|(with_reducible first|refine yrl (by constructor) ?_|refine jk (fun M hM=>?_)|(refine hM _ ?_;clear hM M)|refine xb3 (by decide) ?_|refine yqa (by assumption) ?_ ?_|refine yqb (by assumption) ?_ ?_)|((with_reducible refine je ?_)<;>(first|rfl|assumption|(simp only [znl,nls_VW];(first|done|fail))))|(with_reducible refine jf (by (simp only [↓reduceIte,zlk,Nat.reduceEqDiff,reduceCtorEq]);exact rfl) ?_)|((with_reducible first|refine jg (fun hc=>?_) (fun hc=>?_)|refine jh (fun hc=>?_) (fun hc=>?_))<;>(try simp (disch:=omega) only [zhb] at hc)<;>(try (exfalso;omega))<;>(try subst hc))|(with_reducible refine ji (by omega) ?_)|(simp (config := { maxSteps := 400000 }) only [↓jt,↓reduceIte,zvs,reduceCtorEq,Nat.reduceEqDiff,Nat.reduceAdd,Nat.reduceLeDiff,Nat.reduceMul,Int.reduceBNe,Int.reduceBEq,Int.reduceEq,Int.reduceNe,Int.reduceLT,Int.reduceLE,Int.reduceGT,Int.reduceGE,Int.reduceNeg,Int.reduceToNat,Nat.reduceLT,Nat.reduceSub,tab,hH8,VW_len,Tryd.results43,List.toList_toArray])|(simp (disch:=omega) only [ziw]))
  refine ok_loop (fun x : (Nat → W32) × Nat => ⟨slots [(1, .str s), (2, .ptr 0 []), (4, .ptr 1 []), (5, .int .i64 x.2)], rows [(0, .row (.arr 8 .cell) (.agg (VW 8 x.1))), (1, .row (.arr 32 .cell) (.agg (List.replicate 32 (.int .u8 0))))], 2⟩)
    (fun x => x.2 ≤ s.length ∧ chain x.1 x.2 (s.drop x.2) = C) (fun x => s.length - x.2) (h, 0) ?_ ⟨Nat.zero_le _, hC.symm⟩ (fun x hx => ?_)
  · (refine yrn [(0, 0), (1, 1)] false ?_ ?_<;>(repeat' (first|(with_reducible first|exact ya1|exact ya2|exact ya3|refine jx rfl (by first|rfl|assumption|(simp only [znl,nls_VW];(first|done|fail)))|exact ya5|exact ya7|exact jy|exact jz|refine jA ?_|refine ya9 ?_ ?_ ?_|refine jC rfl (by first|rfl|assumption|(simp only [znl,nls_VW];(first|done|fail)))|refine MR.agg (MRL.cons ?_ ?_)|refine MR.fn ?_|refine MRL.cons ?_ ?_|exact MRL.nil|refine jE ?_ ?_|exact jF|exact jG|refine yb1 ?_ ?_|refine MB.row ?_|refine jI ?_ ?_|exact ya8|refine jJ rfl (by first|rfl|assumption|(simp only [znl,nls_VW];(first|done|fail)))|refine yb2 ?_|rfl)|(simp only [znl,nls_VW];(first|done|fail))|(simp only [↓reduceIte,zlk,Nat.reduceEqDiff,reduceCtorEq])|(with_reducible first|refine jJ ?_ ?_|refine ya5 ?_|refine ju ?_|refine jv ?_|refine jw ?_|refine jx ?_ (by first|rfl|assumption|(simp only [znl,nls_VW];(first|done|fail)))|refine jC ?_ (by first|rfl|assumption|(simp only [znl,nls_VW];(first|done|fail)))))))
    all_goals (first | rfl | trace_state)
  obtain ⟨u, n⟩ := x
  obtain ⟨hn, hc0⟩ := hx
  have hn : n ≤ s.length := hn
  have hc0 : chain u n (s.drop n) = C := hc0
  by_cases hlt : n + 64 < s.length
  · have hr := rtake_spec2 u ((s.drop n).take 64) (by rw [List.length_take, List.length_drop]; omega) (n + 64) (by omega) false
    have e1 : ((n : Int) + 64) = ((n + 64 : Nat) : Int) := by omega
    have e2 : (n + 64) - n = 64 := by omega
    have hch := chain_hi (h := u) (n := n) (s := s.drop n) (by rw [List.length_drop]; omega)
    rw [hc0, List.drop_drop] at hch
    have hd : decide (((n + 64 : Nat) : Int) ≥ (s.length : Int)) = false := decide_eq_false (by omega)
    repeat' (first|(with_reducible first|refine yrl (by constructor) ?_|refine jk (fun M hM=>?_)|(refine hM _ ?_;clear hM M)|refine xb3 (by decide) ?_|refine yqa (by assumption) ?_ ?_|refine yqb (by assumption) ?_ ?_)|((with_reducible refine je ?_)<;>(first|rfl|assumption|(simp only [znl,nls_VW];(first|done|fail))))|(with_reducible refine jf (by (simp only [↓reduceIte,zlk,Nat.reduceEqDiff,reduceCtorEq]);exact rfl) ?_)|((with_reducible first|refine jg (fun hc=>?_) (fun hc=>?_)|refine jh (fun hc=>?_) (fun hc=>?_))<;>(try simp (disch:=omega) only [zhb] at hc)<;>(try (exfalso;omega))<;>(try subst hc))|(with_reducible refine ji (by omega) ?_)|(simp (config := { maxSteps := 400000 }) only [↓jt,↓reduceIte,zvs,reduceCtorEq,Nat.reduceEqDiff,Nat.reduceAdd,Nat.reduceLeDiff,Nat.reduceMul,Int.reduceBNe,Int.reduceBEq,Int.reduceEq,Int.reduceNe,Int.reduceLT,Int.reduceLE,Int.reduceGT,Int.reduceGE,Int.reduceNeg,Int.reduceToNat,Nat.reduceLT,Nat.reduceSub,tab,e1,e2,hd,Int.toNat_natCast,hH8,VW_len,Tryd.results43,List.toList_toArray])|(simp (disch:=omega) only [ziw]))
    all_goals first
      | (exfalso; omega)
      | (refine xl1 (takeF u ((s.drop n).take 64) (n + 64) false, n + 64) ?_ ⟨by show n + 64 ≤ s.length; omega, hch.symm⟩ (by show s.length - (n + 64) < s.length - n; omega); (refine yrn [(0, 0), (1, 1)] false ?_ ?_<;>(repeat' (first|(with_reducible first|exact ya1|exact ya2|exact ya3|refine jx rfl (by first|rfl|assumption|(simp only [znl,nls_VW];(first|done|fail)))|exact ya5|exact ya7|exact jy|exact jz|refine jA ?_|refine ya9 ?_ ?_ ?_|refine jC rfl (by first|rfl|assumption|(simp only [znl,nls_VW];(first|done|fail)))|refine MR.agg (MRL.cons ?_ ?_)|refine MR.fn ?_|refine MRL.cons ?_ ?_|exact MRL.nil|refine jE ?_ ?_|exact jF|exact jG|refine yb1 ?_ ?_|refine MB.row ?_|refine jI ?_ ?_|exact ya8|refine jJ rfl (by first|rfl|assumption|(simp only [znl,nls_VW];(first|done|fail)))|refine yb2 ?_|rfl)|(simp only [znl,nls_VW];(first|done|fail))|(simp only [↓reduceIte,zlk,Nat.reduceEqDiff,reduceCtorEq])|(with_reducible first|refine jJ ?_ ?_|refine ya5 ?_|refine ju ?_|refine jv ?_|refine jw ?_|refine jx ?_ (by first|rfl|assumption|(simp only [znl,nls_VW];(first|done|fail)))|refine jC ?_ (by first|rfl|assumption|(simp only [znl,nls_VW];(first|done|fail))))))); all_goals (first | rfl | trace_state); done)
      | trace_state
  have e1 : ((n : Int) + 64) = ((n + 64 : Nat) : Int) := by omega
  have hd : decide (((n + 64 : Nat) : Int) ≥ (s.length : Int)) = true := decide_eq_true (by omega)
  have e3 : List.take (s.length - n) (List.drop n s) = List.drop n s := List.take_of_length_le (by rw [List.length_drop]; omega)
  have hll : (s.drop n).length = s.length - n := List.length_drop
  obtain ⟨b, hb⟩ : ∃ b, b = s.drop n := ⟨_, rfl⟩
  have hch := chain_lo (h := u) (n := n) (s := s.drop n) (by omega)
  rw [hc0, ← hb] at hch
  rw [← hb] at e3 hll
  have hnl : n + b.length = s.length := by omega
  rw [hnl] at hch
  repeat' (first|(with_reducible first|refine yrl (by constructor) ?_|refine jk (fun M hM=>?_)|(refine hM _ ?_;clear hM M)|refine xb3 (by decide) ?_|refine yqa (by assumption) ?_ ?_|refine yqb (by assumption) ?_ ?_)|((with_reducible refine je ?_)<;>(first|rfl|assumption|(simp only [znl,nls_VW];(first|done|fail))))|(with_reducible refine jf (by (simp only [↓reduceIte,zlk,Nat.reduceEqDiff,reduceCtorEq]);exact rfl) ?_)|((with_reducible first|refine jg (fun hc=>?_) (fun hc=>?_)|refine jh (fun hc=>?_) (fun hc=>?_))<;>(try simp (disch:=omega) only [zhb] at hc)<;>(try (exfalso;omega))<;>(try subst hc))|(with_reducible refine ji (by omega) ?_)|(simp (config := { maxSteps := 400000 }) only [↓jt,↓reduceIte,zvs,reduceCtorEq,Nat.reduceEqDiff,Nat.reduceAdd,Nat.reduceLeDiff,Nat.reduceMul,Int.reduceBNe,Int.reduceBEq,Int.reduceEq,Int.reduceNe,Int.reduceLT,Int.reduceLE,Int.reduceGT,Int.reduceGE,Int.reduceNeg,Int.reduceToNat,Nat.reduceLT,Nat.reduceSub,tab,e1,hd,e3,hb.symm,Int.toNat_natCast,hH8,VW_len,Tryd.results43,List.toList_toArray])|(simp (disch:=omega) only [ziw]))
  all_goals (try (exfalso; omega))
  refine ok_loop (fun k : Nat => ⟨slots [(2, .ptr 0 []), (4, .ptr 1 []), (6, .int .i64 s.length), (7, .bool true), (8, .str (b ++ List.replicate k 0))], rows [(0, .row (.arr 8 .cell) (.agg (VW 8 u))), (1, .row (.arr 32 .cell) (.agg (List.replicate 32 (.int .u8 0))))], 2⟩)
    (fun k => k ≤ 64 - b.length) (fun k => 64 - k) 0 ?_ (Nat.zero_le _) (fun k hk => ?_)
  · (refine yrn [(0, 0), (1, 1)] false ?_ ?_<;>(repeat' (first|(with_reducible first|exact ya1|exact ya2|exact ya3|refine jx rfl (by first|rfl|assumption|(simp only [znl,nls_VW];(first|done|fail)))|exact ya5|exact ya7|exact jy|exact jz|refine jA ?_|refine ya9 ?_ ?_ ?_|refine jC rfl (by first|rfl|assumption|(simp only [znl,nls_VW];(first|done|fail)))|refine MR.agg (MRL.cons ?_ ?_)|refine MR.fn ?_|refine MRL.cons ?_ ?_|exact MRL.nil|refine jE ?_ ?_|exact jF|exact jG|refine yb1 ?_ ?_|refine MB.row ?_|refine jI ?_ ?_|exact ya8|refine jJ rfl (by first|rfl|assumption|(simp only [znl,nls_VW];(first|done|fail)))|refine yb2 ?_|rfl)|(simp only [znl,nls_VW];(first|done|fail))|(simp only [↓reduceIte,zlk,Nat.reduceEqDiff,reduceCtorEq])|(with_reducible first|refine jJ ?_ ?_|refine ya5 ?_|refine ju ?_|refine jv ?_|refine jw ?_|refine jx ?_ (by first|rfl|assumption|(simp only [znl,nls_VW];(first|done|fail)))|refine jC ?_ (by first|rfl|assumption|(simp only [znl,nls_VW];(first|done|fail)))))))
    all_goals (first | rfl | (simp; done) | trace_state)
  by_cases hk2 : k < 64 - b.length
  · have hps := pad_snoc b k
    repeat' (first|(with_reducible first|refine yrl (by constructor) ?_|refine jk (fun M hM=>?_)|(refine hM _ ?_;clear hM M)|refine xb3 (by decide) ?_|refine yqa (by assumption) ?_ ?_|refine yqb (by assumption) ?_ ?_)|((with_reducible refine je ?_)<;>(first|rfl|assumption|(simp only [znl,nls_VW];(first|done|fail))))|(with_reducible refine jf (by (simp only [↓reduceIte,zlk,Nat.reduceEqDiff,reduceCtorEq]);exact rfl) ?_)|((with_reducible first|refine jg (fun hc=>?_) (fun hc=>?_)|refine jh (fun hc=>?_) (fun hc=>?_))<;>(try simp (disch:=omega) only [zhb] at hc)<;>(try (exfalso;omega))<;>(try subst hc))|(with_reducible refine ji (by omega) ?_)|(simp (config := { maxSteps := 400000 }) only [↓jt,↓reduceIte,zvs,reduceCtorEq,Nat.reduceEqDiff,Nat.reduceAdd,Nat.reduceLeDiff,Nat.reduceMul,Int.reduceBNe,Int.reduceBEq,Int.reduceEq,Int.reduceNe,Int.reduceLT,Int.reduceLE,Int.reduceGT,Int.reduceGE,Int.reduceNeg,Int.reduceToNat,Nat.reduceLT,Nat.reduceSub,tab,hps,hH8,VW_len,Tryd.results43,List.toList_toArray])|(simp (disch:=omega) only [ziw]))
    all_goals first
      | (exfalso; omega)
      | (refine xl1 (k + 1) ?_ (by show k + 1 ≤ 64 - b.length; omega) (by show 64 - (k + 1) < 64 - k; omega); (refine yrn [(0, 0), (1, 1)] false ?_ ?_<;>(repeat' (first|(with_reducible first|exact ya1|exact ya2|exact ya3|refine jx rfl (by first|rfl|assumption|(simp only [znl,nls_VW];(first|done|fail)))|exact ya5|exact ya7|exact jy|exact jz|refine jA ?_|refine ya9 ?_ ?_ ?_|refine jC rfl (by first|rfl|assumption|(simp only [znl,nls_VW];(first|done|fail)))|refine MR.agg (MRL.cons ?_ ?_)|refine MR.fn ?_|refine MRL.cons ?_ ?_|exact MRL.nil|refine jE ?_ ?_|exact jF|exact jG|refine yb1 ?_ ?_|refine MB.row ?_|refine jI ?_ ?_|exact ya8|refine jJ rfl (by first|rfl|assumption|(simp only [znl,nls_VW];(first|done|fail)))|refine yb2 ?_|rfl)|(simp only [znl,nls_VW];(first|done|fail))|(simp only [↓reduceIte,zlk,Nat.reduceEqDiff,reduceCtorEq])|(with_reducible first|refine jJ ?_ ?_|refine ya5 ?_|refine ju ?_|refine jv ?_|refine jw ?_|refine jx ?_ (by first|rfl|assumption|(simp only [znl,nls_VW];(first|done|fail)))|refine jC ?_ (by first|rfl|assumption|(simp only [znl,nls_VW];(first|done|fail))))))); all_goals (first | rfl | trace_state); done)
      | trace_state
  obtain rfl : k = 64 - b.length := by omega
  have hp : b ++ List.replicate (64 - b.length) 0 = pad64 b := rfl
  have hpl : (pad64 b).length = 64 := by simp only [pad64,List.length_append,List.length_replicate]; omega
  have hr := rtake_spec2 u (pad64 b) hpl s.length (by omega) true
  rw [← hch] at hr
  obtain ⟨D, hD⟩ : ∃ D, D = digB C := ⟨_, rfl⟩
  have hDl : D.length = 32 := by rw [hD]; exact digB_len C
  rw [← hD]
  repeat' (first|(with_reducible first|refine yrl (by constructor) ?_|refine jk (fun M hM=>?_)|(refine hM _ ?_;clear hM M)|refine xb3 (by decide) ?_|refine yqa (by assumption) ?_ ?_|refine yqb (by assumption) ?_ ?_)|((with_reducible refine je ?_)<;>(first|rfl|assumption|(simp only [znl,nls_VW];(first|done|fail))))|(with_reducible refine jf (by (simp only [↓reduceIte,zlk,Nat.reduceEqDiff,reduceCtorEq]);exact rfl) ?_)|((with_reducible first|refine jg (fun hc=>?_) (fun hc=>?_)|refine jh (fun hc=>?_) (fun hc=>?_))<;>(try simp (disch:=omega) only [zhb] at hc)<;>(try (exfalso;omega))<;>(try subst hc))|(with_reducible refine ji (by omega) ?_)|(simp (config := { maxSteps := 400000 }) only [↓jt,↓reduceIte,zvs,reduceCtorEq,Nat.reduceEqDiff,Nat.reduceAdd,Nat.reduceLeDiff,Nat.reduceMul,Int.reduceBNe,Int.reduceBEq,Int.reduceEq,Int.reduceNe,Int.reduceLT,Int.reduceLE,Int.reduceGT,Int.reduceGE,Int.reduceNeg,Int.reduceToNat,Nat.reduceLT,Nat.reduceSub,tab,hp,hH8,VW_len,Tryd.results43,List.toList_toArray])|(simp (disch:=omega) only [ziw]))
  all_goals (try (exfalso; omega))
  refine ok_loop (fun i : Nat => ⟨slots [(2, .ptr 0 []), (4, .ptr 1 []), (9, .ptr 2 []), (10, .int .i64 i)], rows [(0, .row (.arr 8 .cell) (.agg (VW 8 C))), (1, .row (.arr 32 .cell) (.agg (List.replicate 32 (.int .u8 0)))), (2, .row (.arr 32 .cell) (.agg ((upB D i).map encB)))], 3⟩)
    (fun i => i ≤ 32) (fun i => 32 - i) 0 ?_ (Nat.zero_le _) (fun i hi => ?_)
  · (refine yrn [(0, 0), (1, 1), (2, 2)] false ?_ ?_<;>(repeat' (first|(with_reducible first|exact ya1|exact ya2|exact ya3|refine jx rfl (by first|rfl|assumption|(simp only [znl,nls_VW];(first|done|fail)))|exact ya5|exact ya7|exact jy|exact jz|refine jA ?_|refine ya9 ?_ ?_ ?_|refine jC rfl (by first|rfl|assumption|(simp only [znl,nls_VW];(first|done|fail)))|refine MR.agg (MRL.cons ?_ ?_)|refine MR.fn ?_|refine MRL.cons ?_ ?_|exact MRL.nil|refine jE ?_ ?_|exact jF|exact jG|refine yb1 ?_ ?_|refine MB.row ?_|refine jI ?_ ?_|exact ya8|refine jJ rfl (by first|rfl|assumption|(simp only [znl,nls_VW];(first|done|fail)))|refine yb2 ?_|rfl)|(simp only [znl,nls_VW];(first|done|fail))|(simp only [↓reduceIte,zlk,Nat.reduceEqDiff,reduceCtorEq])|(with_reducible first|refine jJ ?_ ?_|refine ya5 ?_|refine ju ?_|refine jv ?_|refine jw ?_|refine jx ?_ (by first|rfl|assumption|(simp only [znl,nls_VW];(first|done|fail)))|refine jC ?_ (by first|rfl|assumption|(simp only [znl,nls_VW];(first|done|fail)))))))
    all_goals (first | rfl | exact upB_zero32 D hDl | trace_state)
  have hul : (upB D i).length = 32 := by rw [upB_len D (by omega), hDl]
  by_cases hit : i < 32
  · have g8 : ∀ u, (VW 8 u)[i / 4]? = some (.int .u32 ((u (i / 4)).toNat : Int)) := fun u => VW_get (by omega)
    have t4 : ((i : Int) / 4).toNat = i / 4 := by omega
    obtain ⟨X, hX⟩ : ∃ X, X = (C (i / 4)).toNat := ⟨_, rfl⟩
    have hX2 : X < 4294967296 := by rw [hX]; exact (C (i / 4)).isLt
    have hDi : D.getD i 0 = UInt8.ofNat (X / 256 ^ (i % 4) % 256) := by rw [hD, digB_at C hit, ← hX]
    repeat' (first|(with_reducible first|refine yrl (by constructor) ?_|refine jk (fun M hM=>?_)|(refine hM _ ?_;clear hM M)|refine xb3 (by decide) ?_|refine yqa (by assumption) ?_ ?_|refine yqb (by assumption) ?_ ?_)|((with_reducible refine je ?_)<;>(first|rfl|assumption|(simp only [znl,nls_VW];(first|done|fail))))|(with_reducible refine jf (by (simp only [↓reduceIte,zlk,Nat.reduceEqDiff,reduceCtorEq]);exact rfl) ?_)|((with_reducible first|refine jg (fun hc=>?_) (fun hc=>?_)|refine jh (fun hc=>?_) (fun hc=>?_))<;>(try simp (disch:=omega) only [zhb] at hc)<;>(try (exfalso;omega))<;>(try subst hc))|(with_reducible refine ji (by omega) ?_)|(simp (config := { maxSteps := 400000 }) only [↓jt,↓reduceIte,zvs,reduceCtorEq,Nat.reduceEqDiff,Nat.reduceAdd,Nat.reduceLeDiff,Nat.reduceMul,Int.reduceBNe,Int.reduceBEq,Int.reduceEq,Int.reduceNe,Int.reduceLT,Int.reduceLE,Int.reduceGT,Int.reduceGE,Int.reduceNeg,Int.reduceToNat,Nat.reduceLT,Nat.reduceSub,tab,g8,t4,hX.symm,hH8,VW_len,Tryd.results43,List.toList_toArray])|(simp (disch:=omega) only [ziw]))
    all_goals (try (exfalso; omega))
    refine ok_loop (fun j : Nat => ⟨slots [(2, .ptr 0 []), (4, .ptr 1 []), (9, .ptr 2 []), (10, .int .i64 i), (11, .int .u32 ((X / 256 ^ j : Nat) : Int)), (12, .int .i64 j)], rows [(0, .row (.arr 8 .cell) (.agg (VW 8 C))), (1, .row (.arr 32 .cell) (.agg (List.replicate 32 (.int .u8 0)))), (2, .row (.arr 32 .cell) (.agg ((upB D i).map encB)))], 3⟩)
      (fun j => j ≤ i % 4) (fun j => 4 - j) 0 ?_ (Nat.zero_le _) (fun j hj => ?_)
    · (refine yrn [(0, 0), (1, 1), (2, 2)] false ?_ ?_<;>(repeat' (first|(with_reducible first|exact ya1|exact ya2|exact ya3|refine jx rfl (by first|rfl|assumption|(simp only [znl,nls_VW];(first|done|fail)))|exact ya5|exact ya7|exact jy|exact jz|refine jA ?_|refine ya9 ?_ ?_ ?_|refine jC rfl (by first|rfl|assumption|(simp only [znl,nls_VW];(first|done|fail)))|refine MR.agg (MRL.cons ?_ ?_)|refine MR.fn ?_|refine MRL.cons ?_ ?_|exact MRL.nil|refine jE ?_ ?_|exact jF|exact jG|refine yb1 ?_ ?_|refine MB.row ?_|refine jI ?_ ?_|exact ya8|refine jJ rfl (by first|rfl|assumption|(simp only [znl,nls_VW];(first|done|fail)))|refine yb2 ?_|rfl)|(simp only [znl,nls_VW];(first|done|fail))|(simp only [↓reduceIte,zlk,Nat.reduceEqDiff,reduceCtorEq])|(with_reducible first|refine jJ ?_ ?_|refine ya5 ?_|refine ju ?_|refine jv ?_|refine jw ?_|refine jx ?_ (by first|rfl|assumption|(simp only [znl,nls_VW];(first|done|fail)))|refine jC ?_ (by first|rfl|assumption|(simp only [znl,nls_VW];(first|done|fail)))))))
      all_goals (first | rfl | (simp; done) | trace_state)
    by_cases hjt : j < i % 4
    · have hY1 : X / 256 ^ (j + 1) = X / 256 ^ j / 256 := by rw [Nat.pow_succ, Nat.div_div_eq_div_mul]
      have hY2 : X / 256 ^ j ≤ X := Nat.div_le_self _ _
      generalize X / 256 ^ j = Y at hY1 hY2 ⊢
      repeat' (first|(with_reducible first|refine yrl (by constructor) ?_|refine jk (fun M hM=>?_)|(refine hM _ ?_;clear hM M)|refine xb3 (by decide) ?_|refine yqa (by assumption) ?_ ?_|refine yqb (by assumption) ?_ ?_)|((with_reducible refine je ?_)<;>(first|rfl|assumption|(simp only [znl,nls_VW];(first|done|fail))))|(with_reducible refine jf (by (simp only [↓reduceIte,zlk,Nat.reduceEqDiff,reduceCtorEq]);exact rfl) ?_)|((with_reducible first|refine jg (fun hc=>?_) (fun hc=>?_)|refine jh (fun hc=>?_) (fun hc=>?_))<;>(try simp (disch:=omega) only [zhb] at hc)<;>(try (exfalso;omega))<;>(try subst hc))|(with_reducible refine ji (by omega) ?_)|(simp (config := { maxSteps := 400000 }) only [↓jt,↓reduceIte,zvs,reduceCtorEq,Nat.reduceEqDiff,Nat.reduceAdd,Nat.reduceLeDiff,Nat.reduceMul,Int.reduceBNe,Int.reduceBEq,Int.reduceEq,Int.reduceNe,Int.reduceLT,Int.reduceLE,Int.reduceGT,Int.reduceGE,Int.reduceNeg,Int.reduceToNat,Nat.reduceLT,Nat.reduceSub,tab,hH8,VW_len,Tryd.results43,List.toList_toArray])|(simp (disch:=omega) only [ziw]))
      all_goals first
        | (exfalso; omega)
        | (refine xl1 (j + 1) ?_ (by show j + 1 ≤ i % 4; omega) (by show 4 - (j + 1) < 4 - j; omega); (refine yrn [(0, 0), (1, 1), (2, 2)] false ?_ ?_<;>(repeat' (first|(with_reducible first|exact ya1|exact ya2|exact ya3|refine jx rfl (by first|rfl|assumption|(simp only [znl,nls_VW];(first|done|fail)))|exact ya5|exact ya7|exact jy|exact jz|refine jA ?_|refine ya9 ?_ ?_ ?_|refine jC rfl (by first|rfl|assumption|(simp only [znl,nls_VW];(first|done|fail)))|refine MR.agg (MRL.cons ?_ ?_)|refine MR.fn ?_|refine MRL.cons ?_ ?_|exact MRL.nil|refine jE ?_ ?_|exact jF|exact jG|refine yb1 ?_ ?_|refine MB.row ?_|refine jI ?_ ?_|exact ya8|refine jJ rfl (by first|rfl|assumption|(simp only [znl,nls_VW];(first|done|fail)))|refine yb2 ?_|rfl)|(simp only [znl,nls_VW];(first|done|fail))|(simp only [↓reduceIte,zlk,Nat.reduceEqDiff,reduceCtorEq])|(with_reducible first|refine jJ ?_ ?_|refine ya5 ?_|refine ju ?_|refine jv ?_|refine jw ?_|refine jx ?_ (by first|rfl|assumption|(simp only [znl,nls_VW];(first|done|fail)))|refine jC ?_ (by first|rfl|assumption|(simp only [znl,nls_VW];(first|done|fail))))))); all_goals (first | rfl | (rw [hY1]; omega) | trace_state); done)
        | trace_state
    obtain rfl : j = i % 4 := by omega
    have hY2 : X / 256 ^ (i % 4) ≤ X := Nat.div_le_self _ _
    generalize X / 256 ^ (i % 4) = Y at hY2 hDi ⊢
    have dy : IntKind.u8.wrap ((Y : Int).tmod 256) = ((UInt8.ofNat (Y % 256)).toNat : Int) := by
      rw [Int.tmod_eq_emod_of_nonneg (by omega), ← dig_byte Y]; rfl
    have hset := upB_setV D (k := i) (by omega) hDi.symm
    repeat' (first|(with_reducible first|refine yrl (by constructor) ?_|refine jk (fun M hM=>?_)|(refine hM _ ?_;clear hM M)|refine xb3 (by decide) ?_|refine yqa (by assumption) ?_ ?_|refine yqb (by assumption) ?_ ?_)|((with_reducible refine je ?_)<;>(first|rfl|assumption|(simp only [znl,nls_VW];(first|done|fail))))|(with_reducible refine jf (by (simp only [↓reduceIte,zlk,Nat.reduceEqDiff,reduceCtorEq]);exact rfl) ?_)|((with_reducible first|refine jg (fun hc=>?_) (fun hc=>?_)|refine jh (fun hc=>?_) (fun hc=>?_))<;>(try simp (disch:=omega) only [zhb] at hc)<;>(try (exfalso;omega))<;>(try subst hc))|(with_reducible refine ji (by omega) ?_)|(simp (config := { maxSteps := 400000 }) only [↓jt,↓reduceIte,zvs,reduceCtorEq,Nat.reduceEqDiff,Nat.reduceAdd,Nat.reduceLeDiff,Nat.reduceMul,Int.reduceBNe,Int.reduceBEq,Int.reduceEq,Int.reduceNe,Int.reduceLT,Int.reduceLE,Int.reduceGT,Int.reduceGE,Int.reduceNeg,Int.reduceToNat,Nat.reduceLT,Nat.reduceSub,tab,dy,hset,hH8,VW_len,Tryd.results43,List.toList_toArray])|(simp (disch:=omega) only [ziw]))
    all_goals first
      | (exfalso; omega)
      | (refine xl1 (i + 1) ?_ (by show i + 1 ≤ 32; omega) (by show 32 - (i + 1) < 32 - i; omega); (refine yrn [(0, 0), (1, 1), (2, 2)] false ?_ ?_<;>(repeat' (first|(with_reducible first|exact ya1|exact ya2|exact ya3|refine jx rfl (by first|rfl|assumption|(simp only [znl,nls_VW];(first|done|fail)))|exact ya5|exact ya7|exact jy|exact jz|refine jA ?_|refine ya9 ?_ ?_ ?_|refine jC rfl (by first|rfl|assumption|(simp only [znl,nls_VW];(first|done|fail)))|refine MR.agg (MRL.cons ?_ ?_)|refine MR.fn ?_|refine MRL.cons ?_ ?_|exact MRL.nil|refine jE ?_ ?_|exact jF|exact jG|refine yb1 ?_ ?_|refine MB.row ?_|refine jI ?_ ?_|exact ya8|refine jJ rfl (by first|rfl|assumption|(simp only [znl,nls_VW];(first|done|fail)))|refine yb2 ?_|rfl)|(simp only [znl,nls_VW];(first|done|fail))|(simp only [↓reduceIte,zlk,Nat.reduceEqDiff,reduceCtorEq])|(with_reducible first|refine jJ ?_ ?_|refine ya5 ?_|refine ju ?_|refine jv ?_|refine jw ?_|refine jx ?_ (by first|rfl|assumption|(simp only [znl,nls_VW];(first|done|fail)))|refine jC ?_ (by first|rfl|assumption|(simp only [znl,nls_VW];(first|done|fail))))))); all_goals (first | rfl | trace_state); done)
      | trace_state
  obtain rfl : i = 32 := by omega
  have hall : upB D 32 = D := by rw [← hDl]; exact upB_all D
  rw [hall]
  have hHD := hHB D hDl
  repeat' (first|(with_reducible first|refine yrl (by constructor) ?_|refine jk (fun M hM=>?_)|(refine hM _ ?_;clear hM M)|refine xb3 (by decide) ?_|refine yqa (by assumption) ?_ ?_|refine yqb (by assumption) ?_ ?_)|((with_reducible refine je ?_)<;>(first|rfl|assumption|(simp only [znl,nls_VW];(first|done|fail))))|(with_reducible refine jf (by (simp only [↓reduceIte,zlk,Nat.reduceEqDiff,reduceCtorEq]);exact rfl) ?_)|((with_reducible first|refine jg (fun hc=>?_) (fun hc=>?_)|refine jh (fun hc=>?_) (fun hc=>?_))<;>(try simp (disch:=omega) only [zhb] at hc)<;>(try (exfalso;omega))<;>(try subst hc))|(with_reducible refine ji (by omega) ?_)|(simp (config := { maxSteps := 400000 }) only [↓jt,↓reduceIte,zvs,reduceCtorEq,Nat.reduceEqDiff,Nat.reduceAdd,Nat.reduceLeDiff,Nat.reduceMul,Int.reduceBNe,Int.reduceBEq,Int.reduceEq,Int.reduceNe,Int.reduceLT,Int.reduceLE,Int.reduceGT,Int.reduceGE,Int.reduceNeg,Int.reduceToNat,Nat.reduceLT,Nat.reduceSub,tab,hHD,hH8,VW_len,Tryd.results43,List.toList_toArray])|(simp (disch:=omega) only [ziw]))
  all_goals first
    | (exfalso; omega)
    | (((try simp only [List.map_nil]); simp only [zrds]; (repeat' (first | exact rd_nil | exact Rd.refl _ _ (by first|rfl|assumption|(simp only [znl,nls_VW];(first|done|fail))) | (refine And.intro ?_ ?_) | (refine rd_own (by (simp only [↓reduceIte,zlk,Nat.reduceEqDiff,reduceCtorEq]); exact rfl) ?_ ?_ ?_) | rfl | assumption | (simp only [znl,nls_VW];(first|done|fail)) | (simp; done) | (simp; omega)))); all_goals (exact RdL.refl _ _ (nls_mapB _)); done)
    | trace_state
theorem x_iv : bits .xor .u32 ((iv 0).toNat : Int) 16842784 = ((iv 0 ^^^ 16842784#32).toNat : Int) := w_xor (iv 0) 16842784#32
theorem rsum_spec (l : List (List UInt8)) (hl : l.length < 2 ^ 36) (hf : l.flatten.length < 2 ^ 40) : Spec Tryd.prog 20 [encStrs l] (.agg ((sumF l.flatten).map encB)) := by
  have hH8 : ∀ u, Has (.arr 8 .cell) (.agg (VW 8 u)) := has_VW 8
  have hHD : Has (.arr 32 .cell) (.agg ((sumF l.flatten).map encB)) := has_arrMap (sumF_len _) (fun x => has_int _ _)
  have hE := reight_spec
  have hJ := rjoined_spec l hl (by omega)
  have hG := rdigest_spec h0F l.flatten hf
  have g0 : ∀ u, (VW 8 u)[0]? = some (.int .u32 ((u 0).toNat : Int)) := fun u => VW_get (by omega)
  have hx := x_iv
  have hs : (VW 8 iv).set 0 (.int .u32 ((iv 0 ^^^ 16842784#32).toNat : Int)) = VW 8 h0F := by rw [VW_set]; rfl
  have e : digB (chain h0F 0 l.flatten) = sumF l.flatten := rfl
  rw [e] at hG
  refine spec_ok Tryd.func20 rfl rfl (by kernel_rfl) (k := 1) rfl (by decide) ?_
  repeat' (first|(with_reducible first|refine yrl (by constructor) ?_|refine jk (fun M hM=>?_)|(refine hM _ ?_;clear hM M)|refine xb3 (by decide) ?_|refine yqa (by assumption) ?_ ?_|refine yqb (by assumption) ?_ ?_)|((with_reducible refine je ?_)<;>(first|rfl|assumption|(simp only [znl,nls_VW];(first|done|fail))))|(with_reducible refine jf (by (simp only [↓reduceIte,zlk,Nat.reduceEqDiff,reduceCtorEq]);exact rfl) ?_)|((with_reducible first|refine jg (fun hc=>?_) (fun hc=>?_)|refine jh (fun hc=>?_) (fun hc=>?_))<;>(try simp (disch:=omega) only [zhb] at hc)<;>(try (exfalso;omega))<;>(try subst hc))|(with_reducible refine ji (by omega) ?_)|(simp (config := { maxSteps := 400000 }) only [↓jt,↓reduceIte,zvs,reduceCtorEq,Nat.reduceEqDiff,Nat.reduceAdd,Nat.reduceLeDiff,Nat.reduceMul,Int.reduceBNe,Int.reduceBEq,Int.reduceEq,Int.reduceNe,Int.reduceLT,Int.reduceLE,Int.reduceGT,Int.reduceGE,Int.reduceNeg,Int.reduceToNat,Nat.reduceLT,Nat.reduceSub,tab,hHD,hH8,g0,hx,hs,VW_len,Tryd.results20,List.toList_toArray])|(simp (disch:=omega) only [ziw]))
  refine ok_drawC 3 (by kernel_rfl) (by decide +kernel) (by intro m hm; simp only [upd_ap,rows_cons,rows_nil]; (repeat (first | rfl | rw [if_neg (by omega)]))) (fun M hM => ?_); simp only [List.take_succ_cons,List.take_zero,List.drop_succ_cons,List.drop_zero]
  repeat' (first|(with_reducible first|refine yrl (by constructor) ?_|refine jk (fun M hM=>?_)|(refine hM _ ?_;clear hM M)|refine xb3 (by decide) ?_|refine yqa (by assumption) ?_ ?_|refine yqb (by assumption) ?_ ?_)|((with_reducible refine je ?_)<;>(first|rfl|assumption|(simp only [znl,nls_VW];(first|done|fail))))|(with_reducible refine jf (by (simp only [↓reduceIte,zlk,Nat.reduceEqDiff,reduceCtorEq]);exact rfl) ?_)|((with_reducible first|refine jg (fun hc=>?_) (fun hc=>?_)|refine jh (fun hc=>?_) (fun hc=>?_))<;>(try simp (disch:=omega) only [zhb] at hc)<;>(try (exfalso;omega))<;>(try subst hc))|(with_reducible refine ji (by omega) ?_)|(simp (config := { maxSteps := 400000 }) only [↓jt,↓reduceIte,zvs,reduceCtorEq,Nat.reduceEqDiff,Nat.reduceAdd,Nat.reduceLeDiff,Nat.reduceMul,Int.reduceBNe,Int.reduceBEq,Int.reduceEq,Int.reduceNe,Int.reduceLT,Int.reduceLE,Int.reduceGT,Int.reduceGE,Int.reduceNeg,Int.reduceToNat,Nat.reduceLT,Nat.reduceSub,tab,hHD,hH8,g0,hx,hs,VW_len,Tryd.results20,List.toList_toArray])|(simp (disch:=omega) only [ziw]))
  all_goals first
    | (exfalso; omega)
    | (((try simp only [List.map_nil]); simp only [zrds]; (repeat' (first | exact rd_nil | exact Rd.refl _ _ (by first|rfl|assumption|(simp only [znl,nls_VW];(first|done|fail))) | (refine And.intro ?_ ?_) | (refine rd_own (by (simp only [↓reduceIte,zlk,Nat.reduceEqDiff,reduceCtorEq]); exact rfl) ?_ ?_ ?_) | rfl | assumption | (simp only [znl,nls_VW];(first|done|fail)) | (simp; done) | (simp; omega)))); all_goals (exact RdL.refl _ _ (nls_mapB _)); done)
    | trace_state
end Go.Proofs.YtcilmfhncjfdbaaDoor.V
end
section
/-
  HASH, part 7: the program's sum.
-/
set_option linter.unusedVariables false
set_option linter.unusedSimpArgs false
namespace Go.Proofs.YtcilmfhncjfdbaaDoor.V
open Go
set_option maxRecDepth 100000
-- nlx: nls_VW
set_option maxHeartbeats 8000000
structure StS where
  h : Nat → W32
  w : List UInt8
  f : Nat
  n : Nat
noncomputable def encS (s : StS) : VV := encSt s.h s.w s.f s.n
def fullS (s : StS) : StS := ⟨takeF s.h s.w (s.n + 64) false, s.w, 0, s.n + 64⟩
def partS (s : StS) (p : List UInt8) : StS := ⟨s.h, s.w.take s.f ++ p.take (64 - s.f) ++ s.w.drop (s.f + min p.length (64 - s.f)), s.f + min p.length (64 - s.f), s.n⟩
def addS (s : StS) (p : List UInt8) : StS :=
  if p = [] ∨ 64 < s.f then s else if s.f = 64 then addS (partS (fullS s) p) (p.drop (min p.length 64)) else addS (partS s p) (p.drop (min p.length (64 - s.f)))
termination_by p.length
decreasing_by
  all_goals
    rename_i h1 h2
    have h3 : p ≠ [] := fun e => h1 (.inl e)
    have h4 : 0 < p.length := List.length_pos_iff.2 h3
    have h5 : ¬64 < s.f := fun e => h1 (.inr e)
    rw [List.length_drop]
    omega
theorem addS_nil (s : StS) : addS s [] = s := by rw [addS, if_pos (.inl rfl)]
theorem addS_full {s : StS} {p : List UInt8} (hp : p ≠ []) (hs : s.f = 64) : addS s p = addS (partS (fullS s) p) (p.drop (min p.length 64)) := by
  rw [addS, if_neg (by rintro (h | h); exact hp h; omega), if_pos hs]
theorem addS_part {s : StS} {p : List UInt8} (hp : p ≠ []) (hs : s.f < 64) : addS s p = addS (partS s p) (p.drop (min p.length (64 - s.f))) := by
  rw [addS, if_neg (by rintro (h | h); exact hp h; omega), if_neg (by omega)]
structure StOk (s : StS) : Prop where
  w : s.w.length = 64
  f : s.f ≤ 64
theorem partS_ok {s : StS} (h : StOk s) (p : List UInt8) : StOk (partS s p) := by
  obtain ⟨h1, h2⟩ := h
  refine ⟨?_, ?_⟩
  · simp only [partS,List.length_append,List.length_take,List.length_drop]; omega
  · simp only [partS]; omega
theorem fullS_ok {s : StS} (h : StOk s) : StOk (fullS s) := ⟨h.w, Nat.zero_le _⟩
theorem addS_ok : ∀ (k : Nat) (s : StS) (p : List UInt8), p.length ≤ k → StOk s → StOk (addS s p) ∧ (addS s p).n + (addS s p).f = s.n + s.f + p.length ∧ ∀ rest, chain (addS s p).h (addS s p).n ((addS s p).w.take (addS s p).f ++ rest) = chain s.h s.n (s.w.take s.f ++ (p ++ rest))
  | 0, s, p, hp, hs => by
    have : p = [] := List.eq_nil_of_length_eq_zero (by omega)
    subst this
    rw [addS_nil]
    exact ⟨hs, by simp, fun rest => by simp⟩
  | k + 1, s, p, hp, hs => by
    by_cases h0 : p = []
    · subst h0
      rw [addS_nil]
      exact ⟨hs, by simp, fun rest => by simp⟩
    have hpl : 0 < p.length := List.length_pos_iff.2 h0
    have key : ∀ t : StS, StOk t → t.f < 64 → (partS t p).n + (partS t p).f = t.n + t.f + min p.length (64 - t.f) ∧ (partS t p).w.take (partS t p).f = t.w.take t.f ++ p.take (min p.length (64 - t.f)) := fun t ht hf => by
      obtain ⟨h1, h2⟩ := ht
      refine ⟨by simp only [partS]; omega, ?_⟩
      simp only [partS]
      have e : p.take (64 - t.f) = p.take (min p.length (64 - t.f)) := by
        rcases Nat.le_total p.length (64 - t.f) with h | h
        · rw [Nat.min_eq_left h, List.take_of_length_le h, List.take_length]
        · rw [Nat.min_eq_right h]
      rw [e, List.take_left' (by simp only [List.length_append,List.length_take]; omega)]
    by_cases hf : s.f = 64
    · rw [addS_full h0 hf]
      have hok := fullS_ok hs
      obtain ⟨i1, i2, i3⟩ := addS_ok k _ (p.drop (min p.length 64)) (by rw [List.length_drop]; omega) (partS_ok hok p)
      obtain ⟨k1, k2⟩ := key (fullS s) hok (by show (0 : Nat) < 64; omega)
      have hz : (fullS s).f = 0 := rfl
      have hzn : (fullS s).n = s.n + 64 := rfl
      rw [hz] at k1 k2
      refine ⟨i1, by rw [i2, k1, hzn, List.length_drop]; omega, fun rest => ?_⟩
      rw [i3 rest, k2, List.take_zero, List.nil_append, Nat.sub_zero, ← List.append_assoc, List.take_append_drop]
      have hw : s.w.take s.f = s.w := by rw [hf, ← hs.w]; exact List.take_length
      have hch := chain_hi (h := s.h) (n := s.n) (s := s.w ++ (p ++ rest)) (by simp only [List.length_append,hs.w]; omega)
      rw [hw, hch, List.take_left' hs.w, List.drop_left' hs.w]
      rfl
    · have hlt : s.f < 64 := Nat.lt_of_le_of_ne hs.f hf
      rw [addS_part h0 hlt]
      obtain ⟨i1, i2, i3⟩ := addS_ok k _ (p.drop (min p.length (64 - s.f))) (by rw [List.length_drop]; omega) (partS_ok hs p)
      obtain ⟨k1, k2⟩ := key s hs hlt
      refine ⟨i1, by rw [i2, k1, List.length_drop]; omega, fun rest => ?_⟩
      rw [i3 rest, k2, List.append_assoc, ← List.append_assoc (p.take _), List.take_append_drop]
      rfl
end Go.Proofs.YtcilmfhncjfdbaaDoor.V
end
section
/-
  HASH, part 8: the program's sum, walked.
-/
set_option linter.unusedVariables false
set_option linter.unusedSimpArgs false
namespace Go.Proofs.YtcilmfhncjfdbaaDoor.V
open Go
set_option maxRecDepth 100000
-- nlx: nls_VW
set_option maxHeartbeats 8000000
def st0 : StS := ⟨h0F, List.replicate 64 0, 0, 0⟩
theorem st0_ok : StOk st0 := ⟨by simp [st0], by simp [st0]⟩
theorem has_w {l : List UInt8} {n : Nat} (h : l.length = n) : Has (.arr n .cell) (.agg (l.map encB)) := has_arrMap h (fun x => has_int _ _)
theorem zero_w : List.replicate 64 (VV.int .u8 0) = (List.replicate 64 (0 : UInt8)).map encB := by simp [encB]
theorem pbegin_spec : Spec Tryd.prog 70 [.bool false] (encS st0) := by
  have hH8 : ∀ u, Has (.arr 8 .cell) (.agg (VW 8 u)) := has_VW 8
  have hHw := has_w (l := List.replicate 64 0) (n := 64) (by simp)
  have g0 : ∀ u, (VW 8 u)[0]? = some (.int .u32 ((u 0).toNat : Int)) := fun u => VW_get (by omega)
  have hx := x_iv
  have hz := zero_w
  have hs : (VW 8 iv).set 0 (.int .u32 ((iv 0 ^^^ 16842784#32).toNat : Int)) = VW 8 h0F := by rw [VW_set]; rfl
  refine spec_ok Tryd.func70 rfl rfl (by kernel_rfl) (k := 1) rfl (by decide) ?_
  repeat' (first|(with_reducible first|refine yrl (by constructor) ?_|refine jk (fun M hM=>?_)|(refine hM _ ?_;clear hM M)|refine xb3 (by decide) ?_|refine yqa (by assumption) ?_ ?_|refine yqb (by assumption) ?_ ?_)|((with_reducible refine je ?_)<;>(first|rfl|assumption|(simp only [znl,nls_VW];(first|done|fail))))|(with_reducible refine jf (by (simp only [↓reduceIte,zlk,Nat.reduceEqDiff,reduceCtorEq]);exact rfl) ?_)|((with_reducible first|refine jg (fun hc=>?_) (fun hc=>?_)|refine jh (fun hc=>?_) (fun hc=>?_))<;>(try simp (disch:=omega) only [zhb] at hc)<;>(try (exfalso;omega))<;>(try subst hc))|(with_reducible refine ji (by omega) ?_)|(simp (config := { maxSteps := 400000 }) only [↓jt,↓reduceIte,zvs,reduceCtorEq,Nat.reduceEqDiff,Nat.reduceAdd,Nat.reduceLeDiff,Nat.reduceMul,Int.reduceBNe,Int.reduceBEq,Int.reduceEq,Int.reduceNe,Int.reduceLT,Int.reduceLE,Int.reduceGT,Int.reduceGE,Int.reduceNeg,Int.reduceToNat,Nat.reduceLT,Nat.reduceSub,tab,tab0,hz,hHw,hH8,g0,hx,hs,VW_len,Tryd.results70,List.toList_toArray])|(simp (disch:=omega) only [ziw]))
  all_goals first
    | (exfalso; omega)
    | (((try simp only [encS,encSt,st0,List.map_nil]); simp only [zrds]; (repeat' (first | exact rd_nil | exact Rd.refl _ _ (by first|rfl|assumption|(simp only [znl,nls_VW];(first|done|fail))) | (refine And.intro ?_ ?_) | (refine rd_own (by (simp only [↓reduceIte,zlk,Nat.reduceEqDiff,reduceCtorEq]); exact rfl) ?_ ?_ ?_) | rfl | assumption | (simp only [znl,nls_VW];(first|done|fail)) | (simp; done) | (simp; omega)))); all_goals (first | exact RdL.refl _ _ (nls_mapB _) | exact RdL.refl _ _ (nls_VW _ _)); done)
    | trace_state
theorem padd_own (s : StS) (hs : StOk s) (p : List UInt8) (hb : s.n + s.f + p.length < 1099511627776) : SpecO Tryd.prog 71 stSh (encS s) [.str p] (encS (addS s p)) (.tup []) := by
  have hH8 : ∀ u, Has (.arr 8 .cell) (.agg (VW 8 u)) := has_VW 8
  obtain ⟨R, hR⟩ : ∃ R, R = addS s p := ⟨_, rfl⟩
  rw [← hR]
  unfold SpecO encS encSt
  refine ok_body Tryd.func71 rfl rfl (by kernel_rfl) (k := 2) rfl (by decide) ?_
  repeat' (first|(with_reducible first|refine yrl (by constructor) ?_|refine jk (fun M hM=>?_)|(refine hM _ ?_;clear hM M)|refine xb3 (by decide) ?_|refine yqa (by assumption) ?_ ?_|refine yqb (by assumption) ?_ ?_)|((with_reducible refine je ?_)<;>(first|rfl|assumption|(simp only [znl,nls_VW];(first|done|fail))))|(with_reducible refine jf (by (simp only [↓reduceIte,zlk,Nat.reduceEqDiff,reduceCtorEq]);exact rfl) ?_)|((with_reducible first|refine jg (fun hc=>?_) (fun hc=>?_)|refine jh (fun hc=>?_) (fun hc=>?_))<;>(try simp (disch:=omega) only [zhb] at hc)<;>(try (exfalso;omega))<;>(try subst hc))|(with_reducible refine ji (by omega) ?_)|(simp (config := { maxSteps := 400000 }) only [↓jt,↓reduceIte,zvs,reduceCtorEq,Nat.reduceEqDiff,Nat.reduceAdd,Nat.reduceLeDiff,Nat.reduceMul,Int.reduceBNe,Int.reduceBEq,Int.reduceEq,Int.reduceNe,Int.reduceLT,Int.reduceLE,Int.reduceGT,Int.reduceGE,Int.reduceNeg,Int.reduceToNat,Nat.reduceLT,Nat.reduceSub,tab,Tryd.results71,List.toList_toArray])|(simp (disch:=omega) only [ziw]))
  refine ok_loop (fun x : StS × List UInt8 => ⟨slots [(0, .ptr 0 []), (1, .str x.2)], rows [(0, .row stSh (.agg [.agg (VW 8 x.1.h), .agg (x.1.w.map encB), .int .i64 (x.1.f : Int), .int .u64 (x.1.n : Int)]))], 1⟩)
    (fun x => StOk x.1 ∧ addS x.1 x.2 = R ∧ x.1.n + x.1.f + x.2.length < 1099511627776) (fun x => x.2.length) (s, p) ?_ ⟨hs, hR.symm, hb⟩ (fun x hx => ?_)
  · (refine yrn [] false ?_ ?_<;>(repeat' (first|(with_reducible first|exact ya1|exact ya2|exact ya3|refine jx rfl (by first|rfl|assumption|(simp only [znl,nls_VW];(first|done|fail)))|exact ya5|exact ya7|exact jy|exact jz|refine jA ?_|refine ya9 ?_ ?_ ?_|refine jC rfl (by first|rfl|assumption|(simp only [znl,nls_VW];(first|done|fail)))|refine MR.agg (MRL.cons ?_ ?_)|refine MR.fn ?_|refine MRL.cons ?_ ?_|exact MRL.nil|refine jE ?_ ?_|exact jF|exact jG|refine yb1 ?_ ?_|refine MB.row ?_|refine jI ?_ ?_|exact ya8|refine jJ rfl (by first|rfl|assumption|(simp only [znl,nls_VW];(first|done|fail)))|refine yb2 ?_|rfl)|(simp only [znl,nls_VW];(first|done|fail))|(simp only [↓reduceIte,zlk,Nat.reduceEqDiff,reduceCtorEq])|(with_reducible first|refine jJ ?_ ?_|refine ya5 ?_|refine ju ?_|refine jv ?_|refine jw ?_|refine jx ?_ (by first|rfl|assumption|(simp only [znl,nls_VW];(first|done|fail)))|refine jC ?_ (by first|rfl|assumption|(simp only [znl,nls_VW];(first|done|fail)))))))
    all_goals (first | rfl | trace_state)
  clear hb hs hR s p
  obtain ⟨⟨h, w, f, n⟩, p⟩ := x
  obtain ⟨⟨hw, hf⟩, hR, hb⟩ := hx
  have hw : w.length = 64 := hw
  have hf : f ≤ 64 := hf
  have hb : n + f + p.length < 1099511627776 := hb
  by_cases hp : p = []
  · subst hp
    have hR : (⟨h, w, f, n⟩ : StS) = R := by rw [← hR]; exact (addS_nil _).symm
    subst hR
    repeat' (first|(with_reducible first|refine yrl (by constructor) ?_|refine jk (fun M hM=>?_)|(refine hM _ ?_;clear hM M)|refine xb3 (by decide) ?_|refine yqa (by assumption) ?_ ?_|refine yqb (by assumption) ?_ ?_)|((with_reducible refine je ?_)<;>(first|rfl|assumption|(simp only [znl,nls_VW];(first|done|fail))))|(with_reducible refine jf (by (simp only [↓reduceIte,zlk,Nat.reduceEqDiff,reduceCtorEq]);exact rfl) ?_)|((with_reducible first|refine jg (fun hc=>?_) (fun hc=>?_)|refine jh (fun hc=>?_) (fun hc=>?_))<;>(try simp (disch:=omega) only [zhb] at hc)<;>(try (exfalso;omega))<;>(try subst hc))|(with_reducible refine ji (by omega) ?_)|(simp (config := { maxSteps := 400000 }) only [↓jt,↓reduceIte,zvs,reduceCtorEq,Nat.reduceEqDiff,Nat.reduceAdd,Nat.reduceLeDiff,Nat.reduceMul,Int.reduceBNe,Int.reduceBEq,Int.reduceEq,Int.reduceNe,Int.reduceLT,Int.reduceLE,Int.reduceGT,Int.reduceGE,Int.reduceNeg,Int.reduceToNat,Nat.reduceLT,Nat.reduceSub,tab,Tryd.results71,List.toList_toArray])|(simp (disch:=omega) only [ziw]))
    all_goals first
      | (exfalso; simp at hc; done)
      | (exact ⟨rfl, rfl⟩)
      | rfl
      | trace_state
  have hpl : 0 < p.length := List.length_pos_iff.2 hp
  by_cases hf2 : f = 64
  · subst hf2
    have hR : addS (partS (fullS ⟨h, w, 64, n⟩) p) (p.drop (min p.length 64)) = R := by rw [← hR]; exact (addS_full hp rfl).symm
    have e1 : ((n : Int) + 64) = ((n + 64 : Nat) : Int) := by omega
    have e2 : IntKind.u64.wrap ((n + 64 : Nat) : Int) = ((n + 64 : Nat) : Int) := wraps_u64 _ (by omega) (by omega)
    repeat' (first|(with_reducible first|refine yrl (by constructor) ?_|refine jk (fun M hM=>?_)|(refine hM _ ?_;clear hM M)|refine xb3 (by decide) ?_|refine yqa (by assumption) ?_ ?_|refine yqb (by assumption) ?_ ?_)|((with_reducible refine je ?_)<;>(first|rfl|assumption|(simp only [znl,nls_VW];(first|done|fail))))|(with_reducible refine jf (by (simp only [↓reduceIte,zlk,Nat.reduceEqDiff,reduceCtorEq]);exact rfl) ?_)|((with_reducible first|refine jg (fun hc=>?_) (fun hc=>?_)|refine jh (fun hc=>?_) (fun hc=>?_))<;>(try simp (disch:=omega) only [zhb] at hc)<;>(try (exfalso;omega))<;>(try subst hc))|(with_reducible refine ji (by omega) ?_)|(simp (config := { maxSteps := 400000 }) only [↓jt,↓reduceIte,zvs,reduceCtorEq,Nat.reduceEqDiff,Nat.reduceAdd,Nat.reduceLeDiff,Nat.reduceMul,Int.reduceBNe,Int.reduceBEq,Int.reduceEq,Int.reduceNe,Int.reduceLT,Int.reduceLE,Int.reduceGT,Int.reduceGE,Int.reduceNeg,Int.reduceToNat,Nat.reduceLT,Nat.reduceSub,tab,e1,e2,Tryd.results71,List.toList_toArray])|(simp (disch:=omega) only [ziw]))
    all_goals (try (exfalso; omega))
    refine ja (call_own (ptake_own h w hw 64 (n + 64) (by omega) false) (by simp only [↓reduceIte,zlk,Nat.reduceEqDiff,reduceCtorEq]; exact rfl) (pl_encSt _ _ _ _) (pl_encSt _ _ _ _) rfl rfl ?_)
    repeat' (first|(with_reducible first|refine yrl (by constructor) ?_|refine jk (fun M hM=>?_)|(refine hM _ ?_;clear hM M)|refine xb3 (by decide) ?_|refine yqa (by assumption) ?_ ?_|refine yqb (by assumption) ?_ ?_)|((with_reducible refine je ?_)<;>(first|rfl|assumption|(simp only [znl,nls_VW];(first|done|fail))))|(with_reducible refine jf (by (simp only [↓reduceIte,zlk,Nat.reduceEqDiff,reduceCtorEq]);exact rfl) ?_)|((with_reducible first|refine jg (fun hc=>?_) (fun hc=>?_)|refine jh (fun hc=>?_) (fun hc=>?_))<;>(try simp (disch:=omega) only [zhb] at hc)<;>(try (exfalso;omega))<;>(try subst hc))|(with_reducible refine ji (by omega) ?_)|(simp (config := { maxSteps := 400000 }) only [↓jt,↓reduceIte,zvs,reduceCtorEq,Nat.reduceEqDiff,Nat.reduceAdd,Nat.reduceLeDiff,Nat.reduceMul,Int.reduceBNe,Int.reduceBEq,Int.reduceEq,Int.reduceNe,Int.reduceLT,Int.reduceLE,Int.reduceGT,Int.reduceGE,Int.reduceNeg,Int.reduceToNat,Nat.reduceLT,Nat.reduceSub,tab,encSt,Tryd.results71,List.toList_toArray])|(simp (disch:=omega) only [ziw]))
    all_goals (try (exfalso; omega))
    refine ok_drawC 9 (by kernel_rfl) (by decide +kernel) (by intro m hm; simp only [upd_ap,rows_cons,rows_nil]; (repeat (first | rfl | rw [if_neg (by omega)]))) (fun M hM => ?_); simp only [List.take_succ_cons,List.take_zero,List.drop_succ_cons,List.drop_zero]
    repeat' (first|(with_reducible first|refine yrl (by constructor) ?_|refine jk (fun M hM=>?_)|(refine hM _ ?_;clear hM M)|refine xb3 (by decide) ?_|refine yqa (by assumption) ?_ ?_|refine yqb (by assumption) ?_ ?_)|((with_reducible refine je ?_)<;>(first|rfl|assumption|(simp only [znl,nls_VW];(first|done|fail))))|(with_reducible refine jf (by (simp only [↓reduceIte,zlk,Nat.reduceEqDiff,reduceCtorEq]);exact rfl) ?_)|((with_reducible first|refine jg (fun hc=>?_) (fun hc=>?_)|refine jh (fun hc=>?_) (fun hc=>?_))<;>(try simp (disch:=omega) only [zhb] at hc)<;>(try (exfalso;omega))<;>(try subst hc))|(with_reducible refine ji (by omega) ?_)|(simp (config := { maxSteps := 400000 }) only [↓jt,↓reduceIte,zvs,reduceCtorEq,Nat.reduceEqDiff,Nat.reduceAdd,Nat.reduceLeDiff,Nat.reduceMul,Int.reduceBNe,Int.reduceBEq,Int.reduceEq,Int.reduceNe,Int.reduceLT,Int.reduceLE,Int.reduceGT,Int.reduceGE,Int.reduceNeg,Int.reduceToNat,Nat.reduceLT,Nat.reduceSub,tab,or_true,encSt,Tryd.results71,List.toList_toArray])|(simp (disch:=omega) only [ziw]))
    all_goals (try (exfalso; omega))
    refine xl1 (partS (fullS ⟨h, w, 64, n⟩) p, p.drop (min p.length 64)) ?_ ⟨partS_ok (fullS_ok ⟨hw, hf⟩) p, hR, by simp only [partS,fullS,List.length_drop]; omega⟩ (by show (p.drop (min p.length 64)).length < p.length; rw [List.length_drop]; omega)
    (refine yrn [] false ?_ ?_<;>(repeat' (first|(with_reducible first|exact ya1|exact ya2|exact ya3|refine jx rfl (by first|rfl|assumption|(simp only [znl,nls_VW];(first|done|fail)))|exact ya5|exact ya7|exact jy|exact jz|refine jA ?_|refine ya9 ?_ ?_ ?_|refine jC rfl (by first|rfl|assumption|(simp only [znl,nls_VW];(first|done|fail)))|refine MR.agg (MRL.cons ?_ ?_)|refine MR.fn ?_|refine MRL.cons ?_ ?_|exact MRL.nil|refine jE ?_ ?_|exact jF|exact jG|refine yb1 ?_ ?_|refine MB.row ?_|refine jI ?_ ?_|exact ya8|refine jJ rfl (by first|rfl|assumption|(simp only [znl,nls_VW];(first|done|fail)))|refine yb2 ?_|rfl)|(simp only [znl,nls_VW];(first|done|fail))|(simp only [↓reduceIte,zlk,Nat.reduceEqDiff,reduceCtorEq])|(with_reducible first|refine jJ ?_ ?_|refine ya5 ?_|refine ju ?_|refine jv ?_|refine jw ?_|refine jx ?_ (by first|rfl|assumption|(simp only [znl,nls_VW];(first|done|fail)))|refine jC ?_ (by first|rfl|assumption|(simp only [znl,nls_VW];(first|done|fail)))))))
    all_goals first
      | rfl
      | exact List.take_of_length_le (by rw [List.length_drop]; omega)
      | (simp only [partS,fullS]; omega)
      | (simp [partS, fullS, List.map_append, List.map_take, List.map_drop]; done)
      | trace_state
  have hlt : f < 64 := by omega
  have hR : addS (partS ⟨h, w, f, n⟩ p) (p.drop (min p.length (64 - f))) = R := by rw [← hR]; exact (addS_part hp hlt).symm
  repeat' (first|(with_reducible first|refine yrl (by constructor) ?_|refine jk (fun M hM=>?_)|(refine hM _ ?_;clear hM M)|refine xb3 (by decide) ?_|refine yqa (by assumption) ?_ ?_|refine yqb (by assumption) ?_ ?_)|((with_reducible refine je ?_)<;>(first|rfl|assumption|(simp only [znl,nls_VW];(first|done|fail))))|(with_reducible refine jf (by (simp only [↓reduceIte,zlk,Nat.reduceEqDiff,reduceCtorEq]);exact rfl) ?_)|((with_reducible first|refine jg (fun hc=>?_) (fun hc=>?_)|refine jh (fun hc=>?_) (fun hc=>?_))<;>(try simp (disch:=omega) only [zhb] at hc)<;>(try (exfalso;omega))<;>(try subst hc))|(with_reducible refine ji (by omega) ?_)|(simp (config := { maxSteps := 400000 }) only [↓jt,↓reduceIte,zvs,reduceCtorEq,Nat.reduceEqDiff,Nat.reduceAdd,Nat.reduceLeDiff,Nat.reduceMul,Int.reduceBNe,Int.reduceBEq,Int.reduceEq,Int.reduceNe,Int.reduceLT,Int.reduceLE,Int.reduceGT,Int.reduceGE,Int.reduceNeg,Int.reduceToNat,Nat.reduceLT,Nat.reduceSub,tab,Tryd.results71,List.toList_toArray])|(simp (disch:=omega) only [ziw]))
  all_goals (try (exfalso; omega))
  refine ok_drawC 9 (by kernel_rfl) (by decide +kernel) (by intro m hm; simp only [upd_ap,rows_cons,rows_nil]; (repeat (first | rfl | rw [if_neg (by omega)]))) (fun M hM => ?_); simp only [List.take_succ_cons,List.take_zero,List.drop_succ_cons,List.drop_zero]
  repeat' (first|(with_reducible first|refine yrl (by constructor) ?_|refine jk (fun M hM=>?_)|(refine hM _ ?_;clear hM M)|refine xb3 (by decide) ?_|refine yqa (by assumption) ?_ ?_|refine yqb (by assumption) ?_ ?_)|((with_reducible refine je ?_)<;>(first|rfl|assumption|(simp only [znl,nls_VW];(first|done|fail))))|(with_reducible refine jf (by (simp only [↓reduceIte,zlk,Nat.reduceEqDiff,reduceCtorEq]);exact rfl) ?_)|((with_reducible first|refine jg (fun hc=>?_) (fun hc=>?_)|refine jh (fun hc=>?_) (fun hc=>?_))<;>(try simp (disch:=omega) only [zhb] at hc)<;>(try (exfalso;omega))<;>(try subst hc))|(with_reducible refine ji (by omega) ?_)|(simp (config := { maxSteps := 400000 }) only [↓jt,↓reduceIte,zvs,reduceCtorEq,Nat.reduceEqDiff,Nat.reduceAdd,Nat.reduceLeDiff,Nat.reduceMul,Int.reduceBNe,Int.reduceBEq,Int.reduceEq,Int.reduceNe,Int.reduceLT,Int.reduceLE,Int.reduceGT,Int.reduceGE,Int.reduceNeg,Int.reduceToNat,Nat.reduceLT,Nat.reduceSub,tab,or_true,Tryd.results71,List.toList_toArray])|(simp (disch:=omega) only [ziw]))
  all_goals (try (exfalso; omega))
  refine xl1 (partS ⟨h, w, f, n⟩ p, p.drop (min p.length (64 - f))) ?_ ⟨partS_ok ⟨hw, hf⟩ p, hR, by simp only [partS,List.length_drop]; omega⟩ (by show (p.drop (min p.length (64 - f))).length < p.length; rw [List.length_drop]; omega)
  (refine yrn [] false ?_ ?_<;>(repeat' (first|(with_reducible first|exact ya1|exact ya2|exact ya3|refine jx rfl (by first|rfl|assumption|(simp only [znl,nls_VW];(first|done|fail)))|exact ya5|exact ya7|exact jy|exact jz|refine jA ?_|refine ya9 ?_ ?_ ?_|refine jC rfl (by first|rfl|assumption|(simp only [znl,nls_VW];(first|done|fail)))|refine MR.agg (MRL.cons ?_ ?_)|refine MR.fn ?_|refine MRL.cons ?_ ?_|exact MRL.nil|refine jE ?_ ?_|exact jF|exact jG|refine yb1 ?_ ?_|refine MB.row ?_|refine jI ?_ ?_|exact ya8|refine jJ rfl (by first|rfl|assumption|(simp only [znl,nls_VW];(first|done|fail)))|refine yb2 ?_|rfl)|(simp only [znl,nls_VW];(first|done|fail))|(simp only [↓reduceIte,zlk,Nat.reduceEqDiff,reduceCtorEq])|(with_reducible first|refine jJ ?_ ?_|refine ya5 ?_|refine ju ?_|refine jv ?_|refine jw ?_|refine jx ?_ (by first|rfl|assumption|(simp only [znl,nls_VW];(first|done|fail)))|refine jC ?_ (by first|rfl|assumption|(simp only [znl,nls_VW];(first|done|fail)))))))
  all_goals first
    | rfl
    | exact List.take_of_length_le (by rw [List.length_drop]; omega)
    | (simp only [partS]; omega)
    | (simp [partS, List.map_append, List.map_take, List.map_drop]; done)
    | trace_state
end Go.Proofs.YtcilmfhncjfdbaaDoor.V
end
