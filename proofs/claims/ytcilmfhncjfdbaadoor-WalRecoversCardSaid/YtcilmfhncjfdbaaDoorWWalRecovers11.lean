/-
  Parts of the proof of WalRecovers: HL, HM, HN, HO, HP, HQ, HH, HR, HS.
  Conditions: none.
-/
import Derived.Test.YtcilmfhncjfdbaaDoorWWalRecovers10
import Derived.Test.YtcilmfhncjfdbaaDoorWWalRecovers08
import Derived.Test.YtcilmfhncjfdbaaDoorWWalRecovers09
import Derived.Test.YtcilmfhncjfdbaaDoorWWalRecovers03
section
/-
  WAL: a drive for a volume.
-/
set_option linter.unusedVariables false
set_option linter.unusedSimpArgs false
namespace Go.Proofs.YtcilmfhncjfdbaaDoor.V
open Go
set_option maxRecDepth 100000
set_option linter.defProp false in
def znHL := And.intro @jO <| And.intro @nls_mapB <| And.intro @nls_frames <| True.intro
set_option maxHeartbeats 4000000
def not128 (s : List UInt8) : Bool := decide (s.length ≠ 128)
def formatD (v : Frames) : Dr × Int := if v.length < 1 ∨ 223 < v.length then (⟨[], [], 0⟩, 2) else if v.any not128 = true then (⟨[], [], 0⟩, 3) else (⟨List.replicate 33 zeros ++ v, [], -1⟩, 0)
theorem any_k {l : Frames} {k : Nat} (h : k < l.length) (e : (l.getD k []).length ≠ 128) : l.any not128 = true := by
  rw [List.any_eq_true]
  exact ⟨_, getD_mem' (α := List UInt8) h, by simp only [not128]; exact decide_eq_true e⟩
theorem any_no {l : Frames} (h : ∀ k, k < l.length → (l.getD k []).length = 128) : l.any not128 = false := by
  rw [List.any_eq_false]
  intro x hx
  obtain ⟨k, hk, rfl⟩ := List.getElem_of_mem hx
  have := h k hk
  rw [List.getD_eq_getElem?_getD, List.getElem?_eq_getElem hk] at this
  simp only [not128,decide_eq_true_eq]
  simpa using this
theorem rformat_spec (v : Frames) (hv : fitsL v) : Spec Tryd.prog 10 [encStrs v] (drV (formatD v)) := by
  obtain ⟨h1, h2⟩ := hv
  obtain ⟨R, hR⟩ : ∃ R, R = formatD v := ⟨_, rfl⟩
  rw [← hR]
  unfold formatD at hR
  have hZ : Spec Tryd.prog 26 [.int .i64 128] (.str zeros) := rzeros16_spec 128 (by omega)
  refine spec_ok Tryd.func10 rfl rfl (by kernel_rfl) (k := 1) rfl (by decide) ?_
  repeat' (first|(with_reducible first|refine yrl (by constructor) ?_|refine jk (fun M hM=>?_)|(refine hM _ ?_;clear hM M)|refine xb3 (by decide) ?_|refine yqa (by assumption) ?_ ?_|refine yqb (by assumption) ?_ ?_)|((with_reducible refine je ?_)<;>(first|rfl|assumption|(simp only [znl,znHL];(first|done|fail))))|(with_reducible refine jf (by (simp only [↓reduceIte,zlk,Nat.reduceEqDiff,reduceCtorEq]);exact rfl) ?_)|((with_reducible first|refine jg (fun hc=>?_) (fun hc=>?_)|refine jh (fun hc=>?_) (fun hc=>?_))<;>(try simp (disch:=omega) only [zhb] at hc)<;>(try (exfalso;omega))<;>(try subst hc))|(with_reducible refine ji (by omega) ?_)|(simp (config := { maxSteps := 400000 }) only [↓jt,↓reduceIte,zvs,reduceCtorEq,Nat.reduceEqDiff,Nat.reduceAdd,Nat.reduceLeDiff,Nat.reduceMul,Int.reduceBNe,Int.reduceBEq,Int.reduceEq,Int.reduceNe,Int.reduceLT,Int.reduceLE,Int.reduceGT,Int.reduceGE,Int.reduceNeg,Int.reduceToNat,Nat.reduceLT,Nat.reduceSub,tab,Tryd.results10,List.toList_toArray])|(simp (disch:=omega) only [ziw]))
  all_goals first
    | (exfalso; omega)
    | (rw [hR, if_pos (by omega)]; ((try simp only [drV,encDr,encWrs,List.map_nil]); simp only [zrds]; (repeat' (first | exact rd_nil | exact Rd.refl _ _ (by first|rfl|assumption|(simp only [znl,znHL];(first|done|fail))) | (refine And.intro ?_ ?_) | (refine rd_own (by (simp only [↓reduceIte,zlk,Nat.reduceEqDiff,reduceCtorEq]); exact rfl) ?_ ?_ ?_) | rfl | assumption | (simp only [znl,znHL];(first|done|fail)) | (simp; done) | (simp; omega)))); done)
    | skip
  rw [if_neg (by omega)] at hR
  refine ok_loop (fun k : Nat => ⟨slots [(0, encStrs v), (2, .ptr 0 []), (3, .int .i64 0), (4, .ptr 1 []), (5, .int .i64 k)], rows [(0, .row (.st [.cell, .cell, .cell]) (.agg [.sl none 0, .sl none 0, .int .i64 0])), (1, .row (.st [.cell, .cell, .cell]) (.agg [.sl (some (2, [], 0)) k, .sl none 0, .int .i64 (-1)])), (2, .row (.arr k .cell) (.agg (List.replicate k (.str zeros))))], 3⟩) (fun k => k ≤ 33) (fun k => 33 - k) 0 ?_ (Nat.zero_le _) (fun k hk => ?_)
  · (refine yrn [(0, 0), (1, 1)] false ?_ ?_<;>(repeat' (first|(with_reducible first|exact ya1|exact ya2|exact ya3|refine jx rfl (by first|rfl|assumption|(simp only [znl,znHL];(first|done|fail)))|exact ya5|exact ya7|exact jy|exact jz|refine jA ?_|refine ya9 ?_ ?_ ?_|refine jC rfl (by first|rfl|assumption|(simp only [znl,znHL];(first|done|fail)))|refine MR.agg (MRL.cons ?_ ?_)|refine MR.fn ?_|refine MRL.cons ?_ ?_|exact MRL.nil|refine jE ?_ ?_|exact jF|exact jG|refine yb1 ?_ ?_|refine MB.row ?_|refine jI ?_ ?_|exact ya8|refine jJ rfl (by first|rfl|assumption|(simp only [znl,znHL];(first|done|fail)))|refine yb2 ?_|rfl)|(simp only [znl,znHL];(first|done|fail))|(simp only [↓reduceIte,zlk,Nat.reduceEqDiff,reduceCtorEq])|(with_reducible first|refine jJ ?_ ?_|refine ya5 ?_|refine ju ?_|refine jv ?_|refine jw ?_|refine jx ?_ (by first|rfl|assumption|(simp only [znl,znHL];(first|done|fail)))|refine jC ?_ (by first|rfl|assumption|(simp only [znl,znHL];(first|done|fail)))))))
    all_goals (first | rfl | trace_state)
  by_cases hlt : k < 33
  · have hrs : List.replicate k (VV.str zeros) ++ [.str zeros] = List.replicate (k + 1) (.str zeros) := by rw [List.replicate_succ']
    repeat' (first|(with_reducible first|refine yrl (by constructor) ?_|refine jk (fun M hM=>?_)|(refine hM _ ?_;clear hM M)|refine xb3 (by decide) ?_|refine yqa (by assumption) ?_ ?_|refine yqb (by assumption) ?_ ?_)|((with_reducible refine je ?_)<;>(first|rfl|assumption|(simp only [znl,znHL];(first|done|fail))))|(with_reducible refine jf (by (simp only [↓reduceIte,zlk,Nat.reduceEqDiff,reduceCtorEq]);exact rfl) ?_)|((with_reducible first|refine jg (fun hc=>?_) (fun hc=>?_)|refine jh (fun hc=>?_) (fun hc=>?_))<;>(try simp (disch:=omega) only [zhb] at hc)<;>(try (exfalso;omega))<;>(try subst hc))|(with_reducible refine ji (by omega) ?_)|(simp (config := { maxSteps := 400000 }) only [↓jt,↓reduceIte,zvs,reduceCtorEq,Nat.reduceEqDiff,Nat.reduceAdd,Nat.reduceLeDiff,Nat.reduceMul,Int.reduceBNe,Int.reduceBEq,Int.reduceEq,Int.reduceNe,Int.reduceLT,Int.reduceLE,Int.reduceGT,Int.reduceGE,Int.reduceNeg,Int.reduceToNat,Nat.reduceLT,Nat.reduceSub,tab,Tryd.results10,List.toList_toArray])|(simp (disch:=omega) only [ziw]))
    all_goals (try (exfalso; omega))
    refine ok_drawC 4 (by kernel_rfl) (by decide +kernel) (by intro m hm; simp only [upd_ap,rows_cons,rows_nil]; (repeat (first | rfl | rw [if_neg (by omega)]))) (fun M hM => ?_); simp only [List.take_succ_cons,List.take_zero,List.drop_succ_cons,List.drop_zero]
    repeat' (first|(with_reducible first|refine yrl (by constructor) ?_|refine jk (fun M hM=>?_)|(refine hM _ ?_;clear hM M)|refine xb3 (by decide) ?_|refine yqa (by assumption) ?_ ?_|refine yqb (by assumption) ?_ ?_)|((with_reducible refine je ?_)<;>(first|rfl|assumption|(simp only [znl,znHL];(first|done|fail))))|(with_reducible refine jf (by (simp only [↓reduceIte,zlk,Nat.reduceEqDiff,reduceCtorEq]);exact rfl) ?_)|((with_reducible first|refine jg (fun hc=>?_) (fun hc=>?_)|refine jh (fun hc=>?_) (fun hc=>?_))<;>(try simp (disch:=omega) only [zhb] at hc)<;>(try (exfalso;omega))<;>(try subst hc))|(with_reducible refine ji (by omega) ?_)|(simp (config := { maxSteps := 400000 }) only [↓jt,↓reduceIte,zvs,reduceCtorEq,Nat.reduceEqDiff,Nat.reduceAdd,Nat.reduceLeDiff,Nat.reduceMul,Int.reduceBNe,Int.reduceBEq,Int.reduceEq,Int.reduceNe,Int.reduceLT,Int.reduceLE,Int.reduceGT,Int.reduceGE,Int.reduceNeg,Int.reduceToNat,Nat.reduceLT,Nat.reduceSub,tab,hrs,List.length_replicate,Tryd.results10,List.toList_toArray])|(simp (disch:=omega) only [ziw]))
    all_goals (try (exfalso; omega))
    refine xl1 (k + 1) ?_ (by show k + 1 ≤ 33; omega) (by show 33 - (k + 1) < 33 - k; omega)
    (refine yrn [(0, 0), (1, 1), (2, 259)] false ?_ ?_<;>(repeat' (first|(with_reducible first|exact ya1|exact ya2|exact ya3|refine jx rfl (by first|rfl|assumption|(simp only [znl,znHL];(first|done|fail)))|exact ya5|exact ya7|exact jy|exact jz|refine jA ?_|refine ya9 ?_ ?_ ?_|refine jC rfl (by first|rfl|assumption|(simp only [znl,znHL];(first|done|fail)))|refine MR.agg (MRL.cons ?_ ?_)|refine MR.fn ?_|refine MRL.cons ?_ ?_|exact MRL.nil|refine jE ?_ ?_|exact jF|exact jG|refine yb1 ?_ ?_|refine MB.row ?_|refine jI ?_ ?_|exact ya8|refine jJ rfl (by first|rfl|assumption|(simp only [znl,znHL];(first|done|fail)))|refine yb2 ?_|rfl)|(simp only [znl,znHL];(first|done|fail))|(simp only [↓reduceIte,zlk,Nat.reduceEqDiff,reduceCtorEq])|(with_reducible first|refine jJ ?_ ?_|refine ya5 ?_|refine ju ?_|refine jv ?_|refine jw ?_|refine jx ?_ (by first|rfl|assumption|(simp only [znl,znHL];(first|done|fail)))|refine jC ?_ (by first|rfl|assumption|(simp only [znl,znHL];(first|done|fail)))))))
    all_goals (first | rfl | trace_state)
  obtain rfl : k = 33 := by omega
  repeat' (first|(with_reducible first|refine yrl (by constructor) ?_|refine jk (fun M hM=>?_)|(refine hM _ ?_;clear hM M)|refine xb3 (by decide) ?_|refine yqa (by assumption) ?_ ?_|refine yqb (by assumption) ?_ ?_)|((with_reducible refine je ?_)<;>(first|rfl|assumption|(simp only [znl,znHL];(first|done|fail))))|(with_reducible refine jf (by (simp only [↓reduceIte,zlk,Nat.reduceEqDiff,reduceCtorEq]);exact rfl) ?_)|((with_reducible first|refine jg (fun hc=>?_) (fun hc=>?_)|refine jh (fun hc=>?_) (fun hc=>?_))<;>(try simp (disch:=omega) only [zhb] at hc)<;>(try (exfalso;omega))<;>(try subst hc))|(with_reducible refine ji (by omega) ?_)|(simp (config := { maxSteps := 400000 }) only [↓jt,↓reduceIte,zvs,reduceCtorEq,Nat.reduceEqDiff,Nat.reduceAdd,Nat.reduceLeDiff,Nat.reduceMul,Int.reduceBNe,Int.reduceBEq,Int.reduceEq,Int.reduceNe,Int.reduceLT,Int.reduceLE,Int.reduceGT,Int.reduceGE,Int.reduceNeg,Int.reduceToNat,Nat.reduceLT,Nat.reduceSub,tab,Tryd.results10,List.toList_toArray])|(simp (disch:=omega) only [ziw]))
  all_goals (try (exfalso; omega))
  refine ok_loop (fun i : Nat => ⟨slots [(0, encStrs v), (2, .ptr 0 []), (3, .int .i64 0), (4, .ptr 1 []), (28, .int .i64 v.length), (29, .int .i64 i)], rows [(0, .row (.st [.cell, .cell, .cell]) (.agg [.sl none 0, .sl none 0, .int .i64 0])), (1, .row (.st [.cell, .cell, .cell]) (.agg [.sl (some (2, [], 0)) (33 + i), .sl none 0, .int .i64 (-1)])), (2, .row (.arr (33 + i) .cell) (.agg (List.replicate 33 (.str zeros) ++ (v.take i).map .str)))], 3⟩)
    (fun i => i ≤ v.length ∧ ∀ j, j < i → (v.getD j []).length = 128) (fun i => v.length - i) 0 ?_ ⟨Nat.zero_le _, fun j hj => by omega⟩ (fun i hi => ?_)
  · (refine yrn [(0, 0), (1, 1), (2, 2)] false ?_ ?_<;>(repeat' (first|(with_reducible first|exact ya1|exact ya2|exact ya3|refine jx rfl (by first|rfl|assumption|(simp only [znl,znHL];(first|done|fail)))|exact ya5|exact ya7|exact jy|exact jz|refine jA ?_|refine ya9 ?_ ?_ ?_|refine jC rfl (by first|rfl|assumption|(simp only [znl,znHL];(first|done|fail)))|refine MR.agg (MRL.cons ?_ ?_)|refine MR.fn ?_|refine MRL.cons ?_ ?_|exact MRL.nil|refine jE ?_ ?_|exact jF|exact jG|refine yb1 ?_ ?_|refine MB.row ?_|refine jI ?_ ?_|exact ya8|refine jJ rfl (by first|rfl|assumption|(simp only [znl,znHL];(first|done|fail)))|refine yb2 ?_|rfl)|(simp only [znl,znHL];(first|done|fail))|(simp only [↓reduceIte,zlk,Nat.reduceEqDiff,reduceCtorEq])|(with_reducible first|refine jJ ?_ ?_|refine ya5 ?_|refine ju ?_|refine jv ?_|refine jw ?_|refine jx ?_ (by first|rfl|assumption|(simp only [znl,znHL];(first|done|fail)))|refine jC ?_ (by first|rfl|assumption|(simp only [znl,znHL];(first|done|fail)))))))
    all_goals (first | rfl | (simp; done) | trace_state)
  obtain ⟨hi, hall⟩ := hi
  by_cases hlt : i < v.length
  · have hs2 := h2 _ (getD_mem' (α := List UInt8) hlt)
    rw [default_str] at hs2
    have hsn : List.replicate 33 (VV.str zeros) ++ (v.take i).map .str ++ [.str (v.getD i [])] = List.replicate 33 (VV.str zeros) ++ (v.take (i + 1)).map .str := by
      rw [List.append_assoc, List.take_succ_eq_append_getElem hlt, List.map_append, List.getD_eq_getElem?_getD, List.getElem?_eq_getElem hlt]; rfl
    have hln : (List.replicate 33 (VV.str zeros) ++ (v.take i).map VV.str).length = 33 + i := by rw [List.length_append, List.length_replicate, List.length_map, List.length_take]; omega
    by_cases h128 : (v.getD i []).length = 128
    · repeat' (first|(with_reducible first|refine yrl (by constructor) ?_|refine jk (fun M hM=>?_)|(refine hM _ ?_;clear hM M)|refine xb3 (by decide) ?_|refine yqa (by assumption) ?_ ?_|refine yqb (by assumption) ?_ ?_)|((with_reducible refine je ?_)<;>(first|rfl|assumption|(simp only [znl,znHL];(first|done|fail))))|(with_reducible refine jf (by (simp only [↓reduceIte,zlk,Nat.reduceEqDiff,reduceCtorEq]);exact rfl) ?_)|((with_reducible first|refine jg (fun hc=>?_) (fun hc=>?_)|refine jh (fun hc=>?_) (fun hc=>?_))<;>(try simp (disch:=omega) only [zhb] at hc)<;>(try (exfalso;omega))<;>(try subst hc))|(with_reducible refine ji (by omega) ?_)|(simp (config := { maxSteps := 400000 }) only [↓jt,↓reduceIte,zvs,reduceCtorEq,Nat.reduceEqDiff,Nat.reduceAdd,Nat.reduceLeDiff,Nat.reduceMul,Int.reduceBNe,Int.reduceBEq,Int.reduceEq,Int.reduceNe,Int.reduceLT,Int.reduceLE,Int.reduceGT,Int.reduceGE,Int.reduceNeg,Int.reduceToNat,Nat.reduceLT,Nat.reduceSub,tab,Tryd.results10,List.toList_toArray])|(simp (disch:=omega) only [ziw]))
      all_goals (try (exfalso; omega))
      refine ok_drawC 7 (by kernel_rfl) (by decide +kernel) (by intro m hm; simp only [upd_ap,rows_cons,rows_nil]; (repeat (first | rfl | rw [if_neg (by omega)]))) (fun M hM => ?_); simp only [List.take_succ_cons,List.take_zero,List.drop_succ_cons,List.drop_zero]
      repeat' (first|(with_reducible first|refine yrl (by constructor) ?_|refine jk (fun M hM=>?_)|(refine hM _ ?_;clear hM M)|refine xb3 (by decide) ?_|refine yqa (by assumption) ?_ ?_|refine yqb (by assumption) ?_ ?_)|((with_reducible refine je ?_)<;>(first|rfl|assumption|(simp only [znl,znHL];(first|done|fail))))|(with_reducible refine jf (by (simp only [↓reduceIte,zlk,Nat.reduceEqDiff,reduceCtorEq]);exact rfl) ?_)|((with_reducible first|refine jg (fun hc=>?_) (fun hc=>?_)|refine jh (fun hc=>?_) (fun hc=>?_))<;>(try simp (disch:=omega) only [zhb] at hc)<;>(try (exfalso;omega))<;>(try subst hc))|(with_reducible refine ji (by omega) ?_)|(simp (config := { maxSteps := 400000 }) only [↓jt,↓reduceIte,zvs,reduceCtorEq,Nat.reduceEqDiff,Nat.reduceAdd,Nat.reduceLeDiff,Nat.reduceMul,Int.reduceBNe,Int.reduceBEq,Int.reduceEq,Int.reduceNe,Int.reduceLT,Int.reduceLE,Int.reduceGT,Int.reduceGE,Int.reduceNeg,Int.reduceToNat,Nat.reduceLT,Nat.reduceSub,tab,hsn,hln,Tryd.results10,List.toList_toArray])|(simp (disch:=omega) only [ziw]))
      all_goals (try (exfalso; omega))
      refine xl1 (i + 1) ?_ ⟨by omega, fun j hj => ?_⟩ (by show v.length - (i + 1) < v.length - i; omega)
      · (refine yrn [(0, 0), (1, 1), (2, 451)] false ?_ ?_<;>(repeat' (first|(with_reducible first|exact ya1|exact ya2|exact ya3|refine jx rfl (by first|rfl|assumption|(simp only [znl,znHL];(first|done|fail)))|exact ya5|exact ya7|exact jy|exact jz|refine jA ?_|refine ya9 ?_ ?_ ?_|refine jC rfl (by first|rfl|assumption|(simp only [znl,znHL];(first|done|fail)))|refine MR.agg (MRL.cons ?_ ?_)|refine MR.fn ?_|refine MRL.cons ?_ ?_|exact MRL.nil|refine jE ?_ ?_|exact jF|exact jG|refine yb1 ?_ ?_|refine MB.row ?_|refine jI ?_ ?_|exact ya8|refine jJ rfl (by first|rfl|assumption|(simp only [znl,znHL];(first|done|fail)))|refine yb2 ?_|rfl)|(simp only [znl,znHL];(first|done|fail))|(simp only [↓reduceIte,zlk,Nat.reduceEqDiff,reduceCtorEq])|(with_reducible first|refine jJ ?_ ?_|refine ya5 ?_|refine ju ?_|refine jv ?_|refine jw ?_|refine jx ?_ (by first|rfl|assumption|(simp only [znl,znHL];(first|done|fail)))|refine jC ?_ (by first|rfl|assumption|(simp only [znl,znHL];(first|done|fail)))))))
        all_goals (first | rfl | omega | trace_state)
      · by_cases e : j = i
        · subst e; exact h128
        · exact hall j (by omega)
    · rw [if_pos (any_k hlt h128)] at hR
      repeat' (first|(with_reducible first|refine yrl (by constructor) ?_|refine jk (fun M hM=>?_)|(refine hM _ ?_;clear hM M)|refine xb3 (by decide) ?_|refine yqa (by assumption) ?_ ?_|refine yqb (by assumption) ?_ ?_)|((with_reducible refine je ?_)<;>(first|rfl|assumption|(simp only [znl,znHL];(first|done|fail))))|(with_reducible refine jf (by (simp only [↓reduceIte,zlk,Nat.reduceEqDiff,reduceCtorEq]);exact rfl) ?_)|((with_reducible first|refine jg (fun hc=>?_) (fun hc=>?_)|refine jh (fun hc=>?_) (fun hc=>?_))<;>(try simp (disch:=omega) only [zhb] at hc)<;>(try (exfalso;omega))<;>(try subst hc))|(with_reducible refine ji (by omega) ?_)|(simp (config := { maxSteps := 400000 }) only [↓jt,↓reduceIte,zvs,reduceCtorEq,Nat.reduceEqDiff,Nat.reduceAdd,Nat.reduceLeDiff,Nat.reduceMul,Int.reduceBNe,Int.reduceBEq,Int.reduceEq,Int.reduceNe,Int.reduceLT,Int.reduceLE,Int.reduceGT,Int.reduceGE,Int.reduceNeg,Int.reduceToNat,Nat.reduceLT,Nat.reduceSub,tab,Tryd.results10,List.toList_toArray])|(simp (disch:=omega) only [ziw]))
      all_goals first
        | (exfalso; omega)
        | (rw [hR]; ((try simp only [drV,encDr,encWrs,List.map_nil]); simp only [zrds]; (repeat' (first | exact rd_nil | exact Rd.refl _ _ (by first|rfl|assumption|(simp only [znl,znHL];(first|done|fail))) | (refine And.intro ?_ ?_) | (refine rd_own (by (simp only [↓reduceIte,zlk,Nat.reduceEqDiff,reduceCtorEq]); exact rfl) ?_ ?_ ?_) | rfl | assumption | (simp only [znl,znHL];(first|done|fail)) | (simp; done) | (simp; omega)))); done)
        | trace_state
  obtain rfl : i = v.length := by omega
  rw [any_no hall, if_neg (by decide)] at hR
  have hln : (List.replicate 33 (VV.str zeros) ++ (v.take v.length).map VV.str).length = 33 + v.length := by rw [List.length_append, List.length_replicate, List.length_map, List.length_take]; omega
  rw [List.take_length] at hln ⊢
  have hnn : nls (List.replicate 33 (VV.str zeros) ++ v.map VV.str) = true := by rw [nls_append, nls_repStr, nls_mapStr]; rfl
  repeat' (first|(with_reducible first|refine yrl (by constructor) ?_|refine jk (fun M hM=>?_)|(refine hM _ ?_;clear hM M)|refine xb3 (by decide) ?_|refine yqa (by assumption) ?_ ?_|refine yqb (by assumption) ?_ ?_)|((with_reducible refine je ?_)<;>(first|rfl|assumption|(simp only [znl,znHL];(first|done|fail))))|(with_reducible refine jf (by (simp only [↓reduceIte,zlk,Nat.reduceEqDiff,reduceCtorEq]);exact rfl) ?_)|((with_reducible first|refine jg (fun hc=>?_) (fun hc=>?_)|refine jh (fun hc=>?_) (fun hc=>?_))<;>(try simp (disch:=omega) only [zhb] at hc)<;>(try (exfalso;omega))<;>(try subst hc))|(with_reducible refine ji (by omega) ?_)|(simp (config := { maxSteps := 400000 }) only [↓jt,↓reduceIte,zvs,reduceCtorEq,Nat.reduceEqDiff,Nat.reduceAdd,Nat.reduceLeDiff,Nat.reduceMul,Int.reduceBNe,Int.reduceBEq,Int.reduceEq,Int.reduceNe,Int.reduceLT,Int.reduceLE,Int.reduceGT,Int.reduceGE,Int.reduceNeg,Int.reduceToNat,Nat.reduceLT,Nat.reduceSub,tab,hln,Tryd.results10,List.toList_toArray])|(simp (disch:=omega) only [ziw]))
  all_goals first
    | (exfalso; omega)
    | (rw [hR]; simp only [drV,encDr,List.map_append,List.map_replicate,List.map_nil]; simp only [zrds]; refine ⟨?_, rd_nil⟩; exact rd_own (by simp only [↓reduceIte,zlk,Nat.reduceEqDiff,reduceCtorEq]; exact rfl) hln.symm rfl hnn)
    | trace_state
theorem pformat_spec (v : Frames) (hv : fitsL v) : Spec Tryd.prog 9 [encStrs v] (drV (formatD v)) := by
  obtain ⟨h1, h2⟩ := hv
  obtain ⟨R, hR⟩ : ∃ R, R = formatD v := ⟨_, rfl⟩
  rw [← hR]
  unfold formatD at hR
  refine spec_ok Tryd.func9 rfl rfl (by kernel_rfl) (k := 1) rfl (by decide) ?_
  repeat' (first|(with_reducible first|refine yrl (by constructor) ?_|refine jk (fun M hM=>?_)|(refine hM _ ?_;clear hM M)|refine xb3 (by decide) ?_|refine yqa (by assumption) ?_ ?_|refine yqb (by assumption) ?_ ?_)|((with_reducible refine je ?_)<;>(first|rfl|assumption|(simp only [znl,znHL];(first|done|fail))))|(with_reducible refine jf (by (simp only [↓reduceIte,zlk,Nat.reduceEqDiff,reduceCtorEq]);exact rfl) ?_)|((with_reducible first|refine jg (fun hc=>?_) (fun hc=>?_)|refine jh (fun hc=>?_) (fun hc=>?_))<;>(try simp (disch:=omega) only [zhb] at hc)<;>(try (exfalso;omega))<;>(try subst hc))|(with_reducible refine ji (by omega) ?_)|(simp (config := { maxSteps := 400000 }) only [↓jt,↓reduceIte,zvs,reduceCtorEq,Nat.reduceEqDiff,Nat.reduceAdd,Nat.reduceLeDiff,Nat.reduceMul,Int.reduceBNe,Int.reduceBEq,Int.reduceEq,Int.reduceNe,Int.reduceLT,Int.reduceLE,Int.reduceGT,Int.reduceGE,Int.reduceNeg,Int.reduceToNat,Nat.reduceLT,Nat.reduceSub,tab,Tryd.results9,List.toList_toArray])|(simp (disch:=omega) only [ziw]))
  all_goals first
    | (exfalso; omega)
    | (rw [hR, if_pos (by omega)]; ((try simp only [drV,encDr,encWrs,List.map_nil]); simp only [zrds]; (repeat' (first | exact rd_nil | exact Rd.refl _ _ (by first|rfl|assumption|(simp only [znl,znHL];(first|done|fail))) | (refine And.intro ?_ ?_) | (refine rd_own (by (simp only [↓reduceIte,zlk,Nat.reduceEqDiff,reduceCtorEq]); exact rfl) ?_ ?_ ?_) | rfl | assumption | (simp only [znl,znHL];(first|done|fail)) | (simp; done) | (simp; omega)))); done)
    | skip
  rw [if_neg (by omega)] at hR
  refine ok_loop (fun i : Nat => ⟨slots [(0, encStrs v), (2, .ptr 0 []), (3, .int .i64 0), (17, encStrs v), (18, .int .i64 v.length), (19, .int .i64 i)], rows [(0, .row (.st [.cell, .cell, .cell]) (.agg [.sl none 0, .sl none 0, .int .i64 0]))], 1⟩)
    (fun i => i ≤ v.length ∧ ∀ j, j < i → (v.getD j []).length = 128) (fun i => v.length - i) 0 ?_ ⟨Nat.zero_le _, fun j hj => by omega⟩ (fun i hi => ?_)
  · (refine yrn [(0, 0)] false ?_ ?_<;>(repeat' (first|(with_reducible first|exact ya1|exact ya2|exact ya3|refine jx rfl (by first|rfl|assumption|(simp only [znl,znHL];(first|done|fail)))|exact ya5|exact ya7|exact jy|exact jz|refine jA ?_|refine ya9 ?_ ?_ ?_|refine jC rfl (by first|rfl|assumption|(simp only [znl,znHL];(first|done|fail)))|refine MR.agg (MRL.cons ?_ ?_)|refine MR.fn ?_|refine MRL.cons ?_ ?_|exact MRL.nil|refine jE ?_ ?_|exact jF|exact jG|refine yb1 ?_ ?_|refine MB.row ?_|refine jI ?_ ?_|exact ya8|refine jJ rfl (by first|rfl|assumption|(simp only [znl,znHL];(first|done|fail)))|refine yb2 ?_|rfl)|(simp only [znl,znHL];(first|done|fail))|(simp only [↓reduceIte,zlk,Nat.reduceEqDiff,reduceCtorEq])|(with_reducible first|refine jJ ?_ ?_|refine ya5 ?_|refine ju ?_|refine jv ?_|refine jw ?_|refine jx ?_ (by first|rfl|assumption|(simp only [znl,znHL];(first|done|fail)))|refine jC ?_ (by first|rfl|assumption|(simp only [znl,znHL];(first|done|fail)))))))
    all_goals (first | rfl | trace_state)
  obtain ⟨hi, hall⟩ := hi
  by_cases hlt : i < v.length
  · have hs2 := h2 _ (getD_mem' (α := List UInt8) hlt)
    rw [default_str] at hs2
    by_cases h128 : (v.getD i []).length = 128
    · repeat' (first|(with_reducible first|refine yrl (by constructor) ?_|refine jk (fun M hM=>?_)|(refine hM _ ?_;clear hM M)|refine xb3 (by decide) ?_|refine yqa (by assumption) ?_ ?_|refine yqb (by assumption) ?_ ?_)|((with_reducible refine je ?_)<;>(first|rfl|assumption|(simp only [znl,znHL];(first|done|fail))))|(with_reducible refine jf (by (simp only [↓reduceIte,zlk,Nat.reduceEqDiff,reduceCtorEq]);exact rfl) ?_)|((with_reducible first|refine jg (fun hc=>?_) (fun hc=>?_)|refine jh (fun hc=>?_) (fun hc=>?_))<;>(try simp (disch:=omega) only [zhb] at hc)<;>(try (exfalso;omega))<;>(try subst hc))|(with_reducible refine ji (by omega) ?_)|(simp (config := { maxSteps := 400000 }) only [↓jt,↓reduceIte,zvs,reduceCtorEq,Nat.reduceEqDiff,Nat.reduceAdd,Nat.reduceLeDiff,Nat.reduceMul,Int.reduceBNe,Int.reduceBEq,Int.reduceEq,Int.reduceNe,Int.reduceLT,Int.reduceLE,Int.reduceGT,Int.reduceGE,Int.reduceNeg,Int.reduceToNat,Nat.reduceLT,Nat.reduceSub,tab,Tryd.results9,List.toList_toArray])|(simp (disch:=omega) only [ziw]))
      all_goals (try (exfalso; omega))
      refine xl1 (i + 1) ?_ ⟨by omega, fun j hj => ?_⟩ (by show v.length - (i + 1) < v.length - i; omega)
      · (refine yrn [(0, 0)] false ?_ ?_<;>(repeat' (first|(with_reducible first|exact ya1|exact ya2|exact ya3|refine jx rfl (by first|rfl|assumption|(simp only [znl,znHL];(first|done|fail)))|exact ya5|exact ya7|exact jy|exact jz|refine jA ?_|refine ya9 ?_ ?_ ?_|refine jC rfl (by first|rfl|assumption|(simp only [znl,znHL];(first|done|fail)))|refine MR.agg (MRL.cons ?_ ?_)|refine MR.fn ?_|refine MRL.cons ?_ ?_|exact MRL.nil|refine jE ?_ ?_|exact jF|exact jG|refine yb1 ?_ ?_|refine MB.row ?_|refine jI ?_ ?_|exact ya8|refine jJ rfl (by first|rfl|assumption|(simp only [znl,znHL];(first|done|fail)))|refine yb2 ?_|rfl)|(simp only [znl,znHL];(first|done|fail))|(simp only [↓reduceIte,zlk,Nat.reduceEqDiff,reduceCtorEq])|(with_reducible first|refine jJ ?_ ?_|refine ya5 ?_|refine ju ?_|refine jv ?_|refine jw ?_|refine jx ?_ (by first|rfl|assumption|(simp only [znl,znHL];(first|done|fail)))|refine jC ?_ (by first|rfl|assumption|(simp only [znl,znHL];(first|done|fail)))))))
        all_goals (first | rfl | trace_state)
      · by_cases e : j = i
        · subst e; exact h128
        · exact hall j (by omega)
    · rw [if_pos (any_k hlt h128)] at hR
      repeat' (first|(with_reducible first|refine yrl (by constructor) ?_|refine jk (fun M hM=>?_)|(refine hM _ ?_;clear hM M)|refine xb3 (by decide) ?_|refine yqa (by assumption) ?_ ?_|refine yqb (by assumption) ?_ ?_)|((with_reducible refine je ?_)<;>(first|rfl|assumption|(simp only [znl,znHL];(first|done|fail))))|(with_reducible refine jf (by (simp only [↓reduceIte,zlk,Nat.reduceEqDiff,reduceCtorEq]);exact rfl) ?_)|((with_reducible first|refine jg (fun hc=>?_) (fun hc=>?_)|refine jh (fun hc=>?_) (fun hc=>?_))<;>(try simp (disch:=omega) only [zhb] at hc)<;>(try (exfalso;omega))<;>(try subst hc))|(with_reducible refine ji (by omega) ?_)|(simp (config := { maxSteps := 400000 }) only [↓jt,↓reduceIte,zvs,reduceCtorEq,Nat.reduceEqDiff,Nat.reduceAdd,Nat.reduceLeDiff,Nat.reduceMul,Int.reduceBNe,Int.reduceBEq,Int.reduceEq,Int.reduceNe,Int.reduceLT,Int.reduceLE,Int.reduceGT,Int.reduceGE,Int.reduceNeg,Int.reduceToNat,Nat.reduceLT,Nat.reduceSub,tab,Tryd.results9,List.toList_toArray])|(simp (disch:=omega) only [ziw]))
      all_goals first
        | (exfalso; omega)
        | (rw [hR]; ((try simp only [drV,encDr,encWrs,List.map_nil]); simp only [zrds]; (repeat' (first | exact rd_nil | exact Rd.refl _ _ (by first|rfl|assumption|(simp only [znl,znHL];(first|done|fail))) | (refine And.intro ?_ ?_) | (refine rd_own (by (simp only [↓reduceIte,zlk,Nat.reduceEqDiff,reduceCtorEq]); exact rfl) ?_ ?_ ?_) | rfl | assumption | (simp only [znl,znHL];(first|done|fail)) | (simp; done) | (simp; omega)))); done)
        | trace_state
  obtain rfl : i = v.length := by omega
  rw [any_no hall, if_neg (by decide)] at hR
  have hz : (List.replicate 128 [(0 : UInt8)]).flatten = zeros := by decide
  have hr : Spec Tryd.prog 48 [.str [0], .int .i64 128] (.str zeros) := by
    have hr := repeat_spec [0] 128 (by decide) (by decide)
    rw [hz] at hr
    exact hr
  repeat' (first|(with_reducible first|refine yrl (by constructor) ?_|refine jk (fun M hM=>?_)|(refine hM _ ?_;clear hM M)|refine xb3 (by decide) ?_|refine yqa (by assumption) ?_ ?_|refine yqb (by assumption) ?_ ?_)|((with_reducible refine je ?_)<;>(first|rfl|assumption|(simp only [znl,znHL];(first|done|fail))))|(with_reducible refine jf (by (simp only [↓reduceIte,zlk,Nat.reduceEqDiff,reduceCtorEq]);exact rfl) ?_)|((with_reducible first|refine jg (fun hc=>?_) (fun hc=>?_)|refine jh (fun hc=>?_) (fun hc=>?_))<;>(try simp (disch:=omega) only [zhb] at hc)<;>(try (exfalso;omega))<;>(try subst hc))|(with_reducible refine ji (by omega) ?_)|(simp (config := { maxSteps := 400000 }) only [↓jt,↓reduceIte,zvs,reduceCtorEq,Nat.reduceEqDiff,Nat.reduceAdd,Nat.reduceLeDiff,Nat.reduceMul,Int.reduceBNe,Int.reduceBEq,Int.reduceEq,Int.reduceNe,Int.reduceLT,Int.reduceLE,Int.reduceGT,Int.reduceGE,Int.reduceNeg,Int.reduceToNat,Nat.reduceLT,Nat.reduceSub,tab,Tryd.results9,List.toList_toArray])|(simp (disch:=omega) only [ziw]))
  all_goals (try (exfalso; omega))
  refine ja (ok_body Tryd.func25 rfl rfl (by kernel_rfl) (k := 1) (by rfl) (by decide) ?_)
  have tN : (33 + (v.length : Int)).toNat = 33 + v.length := by omega
  obtain ⟨n, hn⟩ : ∃ n, n = 33 + v.length := ⟨_, rfl⟩
  repeat' (first|(with_reducible first|refine yrl (by constructor) ?_|refine jk (fun M hM=>?_)|(refine hM _ ?_;clear hM M)|refine xb3 (by decide) ?_|refine yqa (by assumption) ?_ ?_|refine yqb (by assumption) ?_ ?_)|((with_reducible refine je ?_)<;>(first|rfl|assumption|(simp only [znl,znHL];(first|done|fail))))|(with_reducible refine jf (by (simp only [↓reduceIte,zlk,Nat.reduceEqDiff,reduceCtorEq]);exact rfl) ?_)|((with_reducible first|refine jg (fun hc=>?_) (fun hc=>?_)|refine jh (fun hc=>?_) (fun hc=>?_))<;>(try simp (disch:=omega) only [zhb] at hc)<;>(try (exfalso;omega))<;>(try subst hc))|(with_reducible refine ji (by omega) ?_)|(simp (config := { maxSteps := 400000 }) only [↓jt,↓reduceIte,zvs,reduceCtorEq,Nat.reduceEqDiff,Nat.reduceAdd,Nat.reduceLeDiff,Nat.reduceMul,Int.reduceBNe,Int.reduceBEq,Int.reduceEq,Int.reduceNe,Int.reduceLT,Int.reduceLE,Int.reduceGT,Int.reduceGE,Int.reduceNeg,Int.reduceToNat,Nat.reduceLT,Nat.reduceSub,tab,tN,hn.symm,Tryd.results25,Tryd.results9,List.toList_toArray])|(simp (disch:=omega) only [ziw]))
  all_goals (try (exfalso; omega))
  refine ok_loop (fun k : Nat => ⟨slots [(2, .ptr 1 []), (3, .int .i64 0), (4, .ptr 3 []), (18, .int .i64 n), (19, .int .i64 k)], rows [(0, .row (.st [.cell, .cell, .cell]) (.agg [.sl none 0, .sl none 0, .int .i64 0])), (1, .row (.st [.cell, .cell, .cell]) (.agg [.sl none 0, .sl none 0, .int .i64 0])), (2, .row (.arr n .cell) (.agg (List.replicate k (.str zeros) ++ List.replicate (n - k) (.str [])))), (3, .row (.st [.cell, .cell, .cell]) (.agg [.sl (some (2, [], 0)) n, .sl none 0, .int .i64 (-1)]))], 4⟩) (fun k => k ≤ n) (fun k => n - k) 0 ?_ (Nat.zero_le _) (fun k hk => ?_)
  · (refine yrn [(1, 1), (2, 2), (3, 3)] false ?_ ?_<;>(repeat' (first|(with_reducible first|exact ya1|exact ya2|exact ya3|refine jx rfl (by first|rfl|assumption|(simp only [znl,znHL];(first|done|fail)))|exact ya5|exact ya7|exact jy|exact jz|refine jA ?_|refine ya9 ?_ ?_ ?_|refine jC rfl (by first|rfl|assumption|(simp only [znl,znHL];(first|done|fail)))|refine MR.agg (MRL.cons ?_ ?_)|refine MR.fn ?_|refine MRL.cons ?_ ?_|exact MRL.nil|refine jE ?_ ?_|exact jF|exact jG|refine yb1 ?_ ?_|refine MB.row ?_|refine jI ?_ ?_|exact ya8|refine jJ rfl (by first|rfl|assumption|(simp only [znl,znHL];(first|done|fail)))|refine yb2 ?_|rfl)|(simp only [znl,znHL];(first|done|fail))|(simp only [↓reduceIte,zlk,Nat.reduceEqDiff,reduceCtorEq])|(with_reducible first|refine jJ ?_ ?_|refine ya5 ?_|refine ju ?_|refine jv ?_|refine jw ?_|refine jx ?_ (by first|rfl|assumption|(simp only [znl,znHL];(first|done|fail)))|refine jC ?_ (by first|rfl|assumption|(simp only [znl,znHL];(first|done|fail)))))))
    all_goals (first | rfl | (simp; done) | (rw [hn]; simp; done) | trace_state)
  by_cases hlt : k < n
  · have hset := rep_set k n (VV.str zeros) (VV.str []) hlt
    have hg := rep_at k n (VV.str zeros) (VV.str []) hlt
    repeat' (first|(with_reducible first|refine yrl (by constructor) ?_|refine jk (fun M hM=>?_)|(refine hM _ ?_;clear hM M)|refine xb3 (by decide) ?_|refine yqa (by assumption) ?_ ?_|refine yqb (by assumption) ?_ ?_)|((with_reducible refine je ?_)<;>(first|rfl|assumption|(simp only [znl,znHL];(first|done|fail))))|(with_reducible refine jf (by (simp only [↓reduceIte,zlk,Nat.reduceEqDiff,reduceCtorEq]);exact rfl) ?_)|((with_reducible first|refine jg (fun hc=>?_) (fun hc=>?_)|refine jh (fun hc=>?_) (fun hc=>?_))<;>(try simp (disch:=omega) only [zhb] at hc)<;>(try (exfalso;omega))<;>(try subst hc))|(with_reducible refine ji (by omega) ?_)|(simp (config := { maxSteps := 400000 }) only [↓jt,↓reduceIte,zvs,reduceCtorEq,Nat.reduceEqDiff,Nat.reduceAdd,Nat.reduceLeDiff,Nat.reduceMul,Int.reduceBNe,Int.reduceBEq,Int.reduceEq,Int.reduceNe,Int.reduceLT,Int.reduceLE,Int.reduceGT,Int.reduceGE,Int.reduceNeg,Int.reduceToNat,Nat.reduceLT,Nat.reduceSub,tab,Tryd.results25,Tryd.results9,List.toList_toArray])|(simp (disch:=omega) only [ziw]))
    refine ok_drawC 5 (by kernel_rfl) (by decide +kernel) (by intro m hm; simp only [upd_ap,rows_cons,rows_nil]; (repeat (first | rfl | rw [if_neg (by omega)]))) (fun M hM => ?_); simp only [List.take_succ_cons,List.take_zero,List.drop_succ_cons,List.drop_zero]
    repeat' (first|(with_reducible first|refine yrl (by constructor) ?_|refine jk (fun M hM=>?_)|(refine hM _ ?_;clear hM M)|refine xb3 (by decide) ?_|refine yqa (by assumption) ?_ ?_|refine yqb (by assumption) ?_ ?_)|((with_reducible refine je ?_)<;>(first|rfl|assumption|(simp only [znl,znHL];(first|done|fail))))|(with_reducible refine jf (by (simp only [↓reduceIte,zlk,Nat.reduceEqDiff,reduceCtorEq]);exact rfl) ?_)|((with_reducible first|refine jg (fun hc=>?_) (fun hc=>?_)|refine jh (fun hc=>?_) (fun hc=>?_))<;>(try simp (disch:=omega) only [zhb] at hc)<;>(try (exfalso;omega))<;>(try subst hc))|(with_reducible refine ji (by omega) ?_)|(simp (config := { maxSteps := 400000 }) only [↓jt,↓reduceIte,zvs,reduceCtorEq,Nat.reduceEqDiff,Nat.reduceAdd,Nat.reduceLeDiff,Nat.reduceMul,Int.reduceBNe,Int.reduceBEq,Int.reduceEq,Int.reduceNe,Int.reduceLT,Int.reduceLE,Int.reduceGT,Int.reduceGE,Int.reduceNeg,Int.reduceToNat,Nat.reduceLT,Nat.reduceSub,tab,hset,hg,Tryd.results25,Tryd.results9,List.toList_toArray])|(simp (disch:=omega) only [ziw]))
    all_goals (try (exfalso; omega))
    refine xl1 (k + 1) ?_ (by show k + 1 ≤ n; omega) (by show n - (k + 1) < n - k; omega)
    (refine yrn [(1, 1), (2, 2), (3, 3)] false ?_ ?_<;>(repeat' (first|(with_reducible first|exact ya1|exact ya2|exact ya3|refine jx rfl (by first|rfl|assumption|(simp only [znl,znHL];(first|done|fail)))|exact ya5|exact ya7|exact jy|exact jz|refine jA ?_|refine ya9 ?_ ?_ ?_|refine jC rfl (by first|rfl|assumption|(simp only [znl,znHL];(first|done|fail)))|refine MR.agg (MRL.cons ?_ ?_)|refine MR.fn ?_|refine MRL.cons ?_ ?_|exact MRL.nil|refine jE ?_ ?_|exact jF|exact jG|refine yb1 ?_ ?_|refine MB.row ?_|refine jI ?_ ?_|exact ya8|refine jJ rfl (by first|rfl|assumption|(simp only [znl,znHL];(first|done|fail)))|refine yb2 ?_|rfl)|(simp only [znl,znHL];(first|done|fail))|(simp only [↓reduceIte,zlk,Nat.reduceEqDiff,reduceCtorEq])|(with_reducible first|refine jJ ?_ ?_|refine ya5 ?_|refine ju ?_|refine jv ?_|refine jw ?_|refine jx ?_ (by first|rfl|assumption|(simp only [znl,znHL];(first|done|fail)))|refine jC ?_ (by first|rfl|assumption|(simp only [znl,znHL];(first|done|fail)))))))
    all_goals (first | rfl | trace_state)
  obtain rfl : k = n := by omega
  have hall2 : List.replicate k (VV.str zeros) ++ List.replicate (k - k) (VV.str []) = List.replicate k (VV.str zeros) := by simp
  rw [hall2]
  repeat' (first|(with_reducible first|refine yrl (by constructor) ?_|refine jk (fun M hM=>?_)|(refine hM _ ?_;clear hM M)|refine xb3 (by decide) ?_|refine yqa (by assumption) ?_ ?_|refine yqb (by assumption) ?_ ?_)|((with_reducible refine je ?_)<;>(first|rfl|assumption|(simp only [znl,znHL];(first|done|fail))))|(with_reducible refine jf (by (simp only [↓reduceIte,zlk,Nat.reduceEqDiff,reduceCtorEq]);exact rfl) ?_)|((with_reducible first|refine jg (fun hc=>?_) (fun hc=>?_)|refine jh (fun hc=>?_) (fun hc=>?_))<;>(try simp (disch:=omega) only [zhb] at hc)<;>(try (exfalso;omega))<;>(try subst hc))|(with_reducible refine ji (by omega) ?_)|(simp (config := { maxSteps := 400000 }) only [↓jt,↓reduceIte,zvs,reduceCtorEq,Nat.reduceEqDiff,Nat.reduceAdd,Nat.reduceLeDiff,Nat.reduceMul,Int.reduceBNe,Int.reduceBEq,Int.reduceEq,Int.reduceNe,Int.reduceLT,Int.reduceLE,Int.reduceGT,Int.reduceGE,Int.reduceNeg,Int.reduceToNat,Nat.reduceLT,Nat.reduceSub,tab,List.length_replicate,Tryd.results25,Tryd.results9,List.toList_toArray])|(simp (disch:=omega) only [ziw]))
  all_goals (try (exfalso; omega))
  have hfin : List.take 33 (List.replicate k (VV.str zeros)) ++ List.take (k - 33) (v.map VV.str) ++ List.drop (33 + min v.length (k - 33)) (List.replicate k (VV.str zeros)) = List.replicate 33 (VV.str zeros) ++ v.map VV.str := by
    rw [List.take_replicate, show min 33 k = 33 by omega, List.take_of_length_le (by rw [List.length_map]; omega), List.drop_of_length_le (by rw [List.length_replicate]; omega), List.append_nil]
  have hnn : nls (List.replicate 33 (VV.str zeros) ++ v.map VV.str) = true := by rw [nls_append, nls_repStr, nls_mapStr]; rfl
  rw [hR]
  simp only [drV,encDr,List.map_append,List.map_replicate,List.map_nil]
  simp only [zrds]
  refine ⟨?_, rd_nil⟩
  refine rd_own (by simp only [↓reduceIte,zlk,Nat.reduceEqDiff,reduceCtorEq]; exact rfl) ?_ hfin hnn
  rw [hfin, List.length_append, List.length_replicate, List.length_map]
  exact hn
end Go.Proofs.YtcilmfhncjfdbaaDoor.V
end
section
/-
  WAL: the same blocks, the same drives; great ones.
-/
set_option linter.unusedVariables false
set_option linter.unusedSimpArgs false
namespace Go.Proofs.YtcilmfhncjfdbaaDoor.V
open Go
set_option maxRecDepth 100000
set_option linter.defProp false in
def znHM := And.intro @jO <| And.intro @nls_mapB <| And.intro @nls_frames <| True.intro
set_option maxHeartbeats 4000000
theorem ext_getD {α : Type} {d : α} : ∀ {a b : List α}, a.length = b.length → (∀ k, k < a.length → a.getD k d = b.getD k d) → a = b := fun {a b} hl h => by
  refine List.ext_getElem hl fun i h1 h2 => ?_
  have := h i h1
  rwa [List.getD_eq_getElem?_getD, List.getD_eq_getElem?_getD, List.getElem?_eq_getElem h1, List.getElem?_eq_getElem h2] at this
theorem sameBlocks_spec (a b : Frames) (ha : a.length < 2 ^ 36) (hb : b.length < 2 ^ 36) : Spec Tryd.prog 12 [encStrs a, encStrs b] (.bool (decide (a = b))) := by
  obtain ⟨R, hR⟩ : ∃ R, R = decide (a = b) := ⟨_, rfl⟩
  rw [← hR]
  refine spec_ok Tryd.func12 rfl rfl (by kernel_rfl) (k := 2) rfl (by decide) ?_
  repeat' (first|(with_reducible first|refine yrl (by constructor) ?_|refine jk (fun M hM=>?_)|(refine hM _ ?_;clear hM M)|refine xb3 (by decide) ?_|refine yqa (by assumption) ?_ ?_|refine yqb (by assumption) ?_ ?_)|((with_reducible refine je ?_)<;>(first|rfl|assumption|(simp only [znl,znHM];(first|done|fail))))|(with_reducible refine jf (by (simp only [↓reduceIte,zlk,Nat.reduceEqDiff,reduceCtorEq]);exact rfl) ?_)|((with_reducible first|refine jg (fun hc=>?_) (fun hc=>?_)|refine jh (fun hc=>?_) (fun hc=>?_))<;>(try simp (disch:=omega) only [zhb] at hc)<;>(try (exfalso;omega))<;>(try subst hc))|(with_reducible refine ji (by omega) ?_)|(simp (config := { maxSteps := 400000 }) only [↓jt,↓reduceIte,zvs,reduceCtorEq,Nat.reduceEqDiff,Nat.reduceAdd,Nat.reduceLeDiff,Nat.reduceMul,Int.reduceBNe,Int.reduceBEq,Int.reduceEq,Int.reduceNe,Int.reduceLT,Int.reduceLE,Int.reduceGT,Int.reduceGE,Int.reduceNeg,Int.reduceToNat,Nat.reduceLT,Nat.reduceSub,tab,Tryd.results12,List.toList_toArray])|(simp (disch:=omega) only [ziw]))
  all_goals first
    | (exfalso; omega)
    | (have e : R = false := by rw [hR]; exact decide_eq_false fun e => by subst e; omega
       rw [e]; simp only [zrds]; done)
    | skip
  have hl : a.length = b.length := by omega
  refine ok_loop (fun k : Nat => ⟨slots [(0, encStrs a), (1, encStrs b), (4, .bool false), (12, .int .i64 a.length), (13, .int .i64 k)], rows [], 0⟩) (fun k => k ≤ a.length ∧ ∀ j, j < k → a.getD j [] = b.getD j []) (fun k => a.length - k) 0 ?_ ⟨Nat.zero_le _, fun j hj => by omega⟩ (fun k hk => ?_)
  · (refine yrn [] false ?_ ?_<;>(repeat' (first|(with_reducible first|exact ya1|exact ya2|exact ya3|refine jx rfl (by first|rfl|assumption|(simp only [znl,znHM];(first|done|fail)))|exact ya5|exact ya7|exact jy|exact jz|refine jA ?_|refine ya9 ?_ ?_ ?_|refine jC rfl (by first|rfl|assumption|(simp only [znl,znHM];(first|done|fail)))|refine MR.agg (MRL.cons ?_ ?_)|refine MR.fn ?_|refine MRL.cons ?_ ?_|exact MRL.nil|refine jE ?_ ?_|exact jF|exact jG|refine yb1 ?_ ?_|refine MB.row ?_|refine jI ?_ ?_|exact ya8|refine jJ rfl (by first|rfl|assumption|(simp only [znl,znHM];(first|done|fail)))|refine yb2 ?_|rfl)|(simp only [znl,znHM];(first|done|fail))|(simp only [↓reduceIte,zlk,Nat.reduceEqDiff,reduceCtorEq])|(with_reducible first|refine jJ ?_ ?_|refine ya5 ?_|refine ju ?_|refine jv ?_|refine jw ?_|refine jx ?_ (by first|rfl|assumption|(simp only [znl,znHM];(first|done|fail)))|refine jC ?_ (by first|rfl|assumption|(simp only [znl,znHM];(first|done|fail)))))))
    all_goals (first | rfl | trace_state)
  obtain ⟨hk, hall⟩ := hk
  by_cases hlt : k < a.length
  · repeat' (first|(with_reducible first|refine yrl (by constructor) ?_|refine jk (fun M hM=>?_)|(refine hM _ ?_;clear hM M)|refine xb3 (by decide) ?_|refine yqa (by assumption) ?_ ?_|refine yqb (by assumption) ?_ ?_)|((with_reducible refine je ?_)<;>(first|rfl|assumption|(simp only [znl,znHM];(first|done|fail))))|(with_reducible refine jf (by (simp only [↓reduceIte,zlk,Nat.reduceEqDiff,reduceCtorEq]);exact rfl) ?_)|((with_reducible first|refine jg (fun hc=>?_) (fun hc=>?_)|refine jh (fun hc=>?_) (fun hc=>?_))<;>(try simp (disch:=omega) only [zhb] at hc)<;>(try (exfalso;omega))<;>(try subst hc))|(with_reducible refine ji (by omega) ?_)|(simp (config := { maxSteps := 400000 }) only [↓jt,↓reduceIte,zvs,reduceCtorEq,Nat.reduceEqDiff,Nat.reduceAdd,Nat.reduceLeDiff,Nat.reduceMul,Int.reduceBNe,Int.reduceBEq,Int.reduceEq,Int.reduceNe,Int.reduceLT,Int.reduceLE,Int.reduceGT,Int.reduceGE,Int.reduceNeg,Int.reduceToNat,Nat.reduceLT,Nat.reduceSub,tab,Tryd.results12,List.toList_toArray])|(simp (disch:=omega) only [ziw]))
    all_goals (try (exfalso; omega))
    refine ok_drawC 8 (by kernel_rfl) (by decide +kernel) (by intro m hm; simp only [upd_ap,rows_cons,rows_nil]; (repeat (first | rfl | rw [if_neg (by omega)]))) (fun M hM => ?_); simp only [List.take_succ_cons,List.take_zero,List.drop_succ_cons,List.drop_zero]
    repeat' (first|(with_reducible first|refine yrl (by constructor) ?_|refine jk (fun M hM=>?_)|(refine hM _ ?_;clear hM M)|refine xb3 (by decide) ?_|refine yqa (by assumption) ?_ ?_|refine yqb (by assumption) ?_ ?_)|((with_reducible refine je ?_)<;>(first|rfl|assumption|(simp only [znl,znHM];(first|done|fail))))|(with_reducible refine jf (by (simp only [↓reduceIte,zlk,Nat.reduceEqDiff,reduceCtorEq]);exact rfl) ?_)|((with_reducible first|refine jg (fun hc=>?_) (fun hc=>?_)|refine jh (fun hc=>?_) (fun hc=>?_))<;>(try simp (disch:=omega) only [zhb] at hc)<;>(try (exfalso;omega))<;>(try subst hc))|(with_reducible refine ji (by omega) ?_)|(simp (config := { maxSteps := 400000 }) only [↓jt,↓reduceIte,zvs,reduceCtorEq,Nat.reduceEqDiff,Nat.reduceAdd,Nat.reduceLeDiff,Nat.reduceMul,Int.reduceBNe,Int.reduceBEq,Int.reduceEq,Int.reduceNe,Int.reduceLT,Int.reduceLE,Int.reduceGT,Int.reduceGE,Int.reduceNeg,Int.reduceToNat,Nat.reduceLT,Nat.reduceSub,tab,Tryd.results12,List.toList_toArray])|(simp (disch:=omega) only [ziw]))
    · have e : R = false := by rw [hR]; exact decide_eq_false fun e => by subst e; exact hc rfl
      rw [e]; simp only [zrds]
    · refine xl1 (k + 1) ?_ ⟨by omega, fun j hj => ?_⟩ (by show a.length - (k + 1) < a.length - k; omega)
      · (refine yrn [] false ?_ ?_<;>(repeat' (first|(with_reducible first|exact ya1|exact ya2|exact ya3|refine jx rfl (by first|rfl|assumption|(simp only [znl,znHM];(first|done|fail)))|exact ya5|exact ya7|exact jy|exact jz|refine jA ?_|refine ya9 ?_ ?_ ?_|refine jC rfl (by first|rfl|assumption|(simp only [znl,znHM];(first|done|fail)))|refine MR.agg (MRL.cons ?_ ?_)|refine MR.fn ?_|refine MRL.cons ?_ ?_|exact MRL.nil|refine jE ?_ ?_|exact jF|exact jG|refine yb1 ?_ ?_|refine MB.row ?_|refine jI ?_ ?_|exact ya8|refine jJ rfl (by first|rfl|assumption|(simp only [znl,znHM];(first|done|fail)))|refine yb2 ?_|rfl)|(simp only [znl,znHM];(first|done|fail))|(simp only [↓reduceIte,zlk,Nat.reduceEqDiff,reduceCtorEq])|(with_reducible first|refine jJ ?_ ?_|refine ya5 ?_|refine ju ?_|refine jv ?_|refine jw ?_|refine jx ?_ (by first|rfl|assumption|(simp only [znl,znHM];(first|done|fail)))|refine jC ?_ (by first|rfl|assumption|(simp only [znl,znHM];(first|done|fail)))))))
        all_goals (first | rfl | trace_state)
      · by_cases e : j = k
        · subst e; exact hc
        · exact hall j (by omega)
  obtain rfl : k = a.length := by omega
  have e : R = true := by rw [hR]; exact decide_eq_true (ext_getD hl hall)
  rw [e]
  repeat' (first|(with_reducible first|refine yrl (by constructor) ?_|refine jk (fun M hM=>?_)|(refine hM _ ?_;clear hM M)|refine xb3 (by decide) ?_|refine yqa (by assumption) ?_ ?_|refine yqb (by assumption) ?_ ?_)|((with_reducible refine je ?_)<;>(first|rfl|assumption|(simp only [znl,znHM];(first|done|fail))))|(with_reducible refine jf (by (simp only [↓reduceIte,zlk,Nat.reduceEqDiff,reduceCtorEq]);exact rfl) ?_)|((with_reducible first|refine jg (fun hc=>?_) (fun hc=>?_)|refine jh (fun hc=>?_) (fun hc=>?_))<;>(try simp (disch:=omega) only [zhb] at hc)<;>(try (exfalso;omega))<;>(try subst hc))|(with_reducible refine ji (by omega) ?_)|(simp (config := { maxSteps := 400000 }) only [↓jt,↓reduceIte,zvs,reduceCtorEq,Nat.reduceEqDiff,Nat.reduceAdd,Nat.reduceLeDiff,Nat.reduceMul,Int.reduceBNe,Int.reduceBEq,Int.reduceEq,Int.reduceNe,Int.reduceLT,Int.reduceLE,Int.reduceGT,Int.reduceGE,Int.reduceNeg,Int.reduceToNat,Nat.reduceLT,Nat.reduceSub,tab,Tryd.results12,List.toList_toArray])|(simp (disch:=omega) only [ziw]))
  all_goals first
    | (exfalso; omega)
    | (simp only [zrds]; done)
    | trace_state
theorem sameDrive_spec (a b : Dr) (ha : dfit a) (hb : dfit b) : Spec Tryd.prog 11 [encDr a, encDr b] (.bool (decide (a = b))) := by
  obtain ⟨R, hR⟩ : ∃ R, R = decide (a = b) := ⟨_, rfl⟩
  rw [← hR]
  obtain ⟨⟨hf1, hf2⟩, hf3, hf4⟩ := ha
  obtain ⟨⟨hg1, hg2⟩, hg3, hg4⟩ := hb
  have hS := sameBlocks_spec a.bl b.bl hf1 hg1
  refine spec_ok Tryd.func11 rfl rfl (by kernel_rfl) (k := 2) rfl (by decide) ?_
  by_cases h1 : a.left = b.left ∧ a.pe.length = b.pe.length ∧ a.bl = b.bl
  · obtain ⟨h1, h3, h2⟩ := h1
    rw [decide_eq_true h2] at hS
    repeat' (first|(with_reducible first|refine yrl (by constructor) ?_|refine jk (fun M hM=>?_)|(refine hM _ ?_;clear hM M)|refine xb3 (by decide) ?_|refine yqa (by assumption) ?_ ?_|refine yqb (by assumption) ?_ ?_)|((with_reducible refine je ?_)<;>(first|rfl|assumption|(simp only [znl,znHM];(first|done|fail))))|(with_reducible refine jf (by (simp only [↓reduceIte,zlk,Nat.reduceEqDiff,reduceCtorEq]);exact rfl) ?_)|((with_reducible first|refine jg (fun hc=>?_) (fun hc=>?_)|refine jh (fun hc=>?_) (fun hc=>?_))<;>(try simp (disch:=omega) only [zhb] at hc)<;>(try (exfalso;omega))<;>(try subst hc))|(with_reducible refine ji (by omega) ?_)|(simp (config := { maxSteps := 400000 }) only [↓jt,↓reduceIte,zvs,reduceCtorEq,Nat.reduceEqDiff,Nat.reduceAdd,Nat.reduceLeDiff,Nat.reduceMul,Int.reduceBNe,Int.reduceBEq,Int.reduceEq,Int.reduceNe,Int.reduceLT,Int.reduceLE,Int.reduceGT,Int.reduceGE,Int.reduceNeg,Int.reduceToNat,Nat.reduceLT,Nat.reduceSub,tab,encDr,h1,h3,Tryd.results11,List.toList_toArray])|(simp (disch:=omega) only [ziw]))
    all_goals (try (exfalso; omega))
    refine ok_loop (fun k : Nat => ⟨slots [(2, .ptr 0 []), (3, .ptr 1 []), (4, .bool false), (30, .int .i64 b.pe.length), (31, .int .i64 k)], rows [(0, .row (.st [.cell, .cell, .cell]) (encDr a)), (1, .row (.st [.cell, .cell, .cell]) (encDr b))], 2⟩) (fun k => k ≤ a.pe.length ∧ a.pe.take k = b.pe.take k) (fun k => a.pe.length - k) 0 ?_ ⟨Nat.zero_le _, rfl⟩ (fun k hk => ?_)
    · (refine yrn [(0, 0), (1, 1)] false ?_ ?_<;>(repeat' (first|(with_reducible first|exact ya1|exact ya2|exact ya3|refine jx rfl (by first|rfl|assumption|(simp only [znl,znHM];(first|done|fail)))|exact ya5|exact ya7|exact jy|exact jz|refine jA ?_|refine ya9 ?_ ?_ ?_|refine jC rfl (by first|rfl|assumption|(simp only [znl,znHM];(first|done|fail)))|refine MR.agg (MRL.cons ?_ ?_)|refine MR.fn ?_|refine MRL.cons ?_ ?_|exact MRL.nil|refine jE ?_ ?_|exact jF|exact jG|refine yb1 ?_ ?_|refine MB.row ?_|refine jI ?_ ?_|exact ya8|refine jJ rfl (by first|rfl|assumption|(simp only [znl,znHM];(first|done|fail)))|refine yb2 ?_|rfl)|(simp only [znl,znHM];(first|done|fail))|(simp only [↓reduceIte,zlk,Nat.reduceEqDiff,reduceCtorEq])|(with_reducible first|refine jJ ?_ ?_|refine ya5 ?_|refine ju ?_|refine jv ?_|refine jw ?_|refine jx ?_ (by first|rfl|assumption|(simp only [znl,znHM];(first|done|fail)))|refine jC ?_ (by first|rfl|assumption|(simp only [znl,znHM];(first|done|fail)))))))
      all_goals (first | rfl | trace_state)
    obtain ⟨hk, hm⟩ := hk
    by_cases hlt : k < a.pe.length
    · have e1 := take_snoc a.pe k hlt
      have e2 := take_snoc b.pe k (by omega)
      have hlt2 : k < b.pe.length := by omega
      repeat' (first|(with_reducible first|refine yrl (by constructor) ?_|refine jk (fun M hM=>?_)|(refine hM _ ?_;clear hM M)|refine xb3 (by decide) ?_|refine yqa (by assumption) ?_ ?_|refine yqb (by assumption) ?_ ?_)|((with_reducible refine je ?_)<;>(first|rfl|assumption|(simp only [znl,znHM];(first|done|fail))))|(with_reducible refine jf (by (simp only [↓reduceIte,zlk,Nat.reduceEqDiff,reduceCtorEq]);exact rfl) ?_)|((with_reducible first|refine jg (fun hc=>?_) (fun hc=>?_)|refine jh (fun hc=>?_) (fun hc=>?_))<;>(try simp (disch:=omega) only [zhb] at hc)<;>(try (exfalso;omega))<;>(try subst hc))|(with_reducible refine ji (by omega) ?_)|(simp (config := { maxSteps := 400000 }) only [↓jt,↓reduceIte,zvs,reduceCtorEq,Nat.reduceEqDiff,Nat.reduceAdd,Nat.reduceLeDiff,Nat.reduceMul,Int.reduceBNe,Int.reduceBEq,Int.reduceEq,Int.reduceNe,Int.reduceLT,Int.reduceLE,Int.reduceGT,Int.reduceGE,Int.reduceNeg,Int.reduceToNat,Nat.reduceLT,Nat.reduceSub,tab,encWr,fit_wr,veq_wr,Tryd.results11,List.toList_toArray])|(simp (disch:=omega) only [ziw]))
      all_goals (try (exfalso; omega))
      refine ok_drawC 10 (by kernel_rfl) (by decide +kernel) (by intro m hm; simp only [upd_ap,rows_cons,rows_nil]; (repeat (first | rfl | rw [if_neg (by omega)]))) (fun M hM => ?_); simp only [List.take_succ_cons,List.take_zero,List.drop_succ_cons,List.drop_zero]
      repeat' (first|(with_reducible first|refine yrl (by constructor) ?_|refine jk (fun M hM=>?_)|(refine hM _ ?_;clear hM M)|refine xb3 (by decide) ?_|refine yqa (by assumption) ?_ ?_|refine yqb (by assumption) ?_ ?_)|((with_reducible refine je ?_)<;>(first|rfl|assumption|(simp only [znl,znHM];(first|done|fail))))|(with_reducible refine jf (by (simp only [↓reduceIte,zlk,Nat.reduceEqDiff,reduceCtorEq]);exact rfl) ?_)|((with_reducible first|refine jg (fun hc=>?_) (fun hc=>?_)|refine jh (fun hc=>?_) (fun hc=>?_))<;>(try simp (disch:=omega) only [zhb] at hc)<;>(try (exfalso;omega))<;>(try subst hc))|(with_reducible refine ji (by omega) ?_)|(simp (config := { maxSteps := 400000 }) only [↓jt,↓reduceIte,zvs,reduceCtorEq,Nat.reduceEqDiff,Nat.reduceAdd,Nat.reduceLeDiff,Nat.reduceMul,Int.reduceBNe,Int.reduceBEq,Int.reduceEq,Int.reduceNe,Int.reduceLT,Int.reduceLE,Int.reduceGT,Int.reduceGE,Int.reduceNeg,Int.reduceToNat,Nat.reduceLT,Nat.reduceSub,tab,encWr,fit_wr,veq_wr,Tryd.results11,List.toList_toArray])|(simp (disch:=omega) only [ziw]))
      · have hF : R = false := by
          rw [hR, decide_eq_false]
          rintro rfl
          exact hc ⟨rfl, rfl⟩
        rw [hF]
        simp only [zrds]
      · refine xl1 (k + 1) ?_ ⟨by omega, by rw [e1, e2, hm]; congr 2; exact wr_ext hc.1 hc.2⟩ (by show a.pe.length - (k + 1) < a.pe.length - k; omega)
        (refine yrn [(0, 0), (1, 1)] false ?_ ?_<;>(repeat' (first|(with_reducible first|exact ya1|exact ya2|exact ya3|refine jx rfl (by first|rfl|assumption|(simp only [znl,znHM];(first|done|fail)))|exact ya5|exact ya7|exact jy|exact jz|refine jA ?_|refine ya9 ?_ ?_ ?_|refine jC rfl (by first|rfl|assumption|(simp only [znl,znHM];(first|done|fail)))|refine MR.agg (MRL.cons ?_ ?_)|refine MR.fn ?_|refine MRL.cons ?_ ?_|exact MRL.nil|refine jE ?_ ?_|exact jF|exact jG|refine yb1 ?_ ?_|refine MB.row ?_|refine jI ?_ ?_|exact ya8|refine jJ rfl (by first|rfl|assumption|(simp only [znl,znHM];(first|done|fail)))|refine yb2 ?_|rfl)|(simp only [znl,znHM];(first|done|fail))|(simp only [↓reduceIte,zlk,Nat.reduceEqDiff,reduceCtorEq])|(with_reducible first|refine jJ ?_ ?_|refine ya5 ?_|refine ju ?_|refine jv ?_|refine jw ?_|refine jx ?_ (by first|rfl|assumption|(simp only [znl,znHM];(first|done|fail)))|refine jC ?_ (by first|rfl|assumption|(simp only [znl,znHM];(first|done|fail)))))))
        all_goals (first | rfl | trace_state)
    · obtain rfl : k = a.pe.length := by omega
      rw [List.take_length, h3, List.take_length] at hm
      have hT : R = true := by
        rw [hR, decide_eq_true]
        cases a; cases b
        simp_all
      rw [hT]
      repeat' (first|(with_reducible first|refine yrl (by constructor) ?_|refine jk (fun M hM=>?_)|(refine hM _ ?_;clear hM M)|refine xb3 (by decide) ?_|refine yqa (by assumption) ?_ ?_|refine yqb (by assumption) ?_ ?_)|((with_reducible refine je ?_)<;>(first|rfl|assumption|(simp only [znl,znHM];(first|done|fail))))|(with_reducible refine jf (by (simp only [↓reduceIte,zlk,Nat.reduceEqDiff,reduceCtorEq]);exact rfl) ?_)|((with_reducible first|refine jg (fun hc=>?_) (fun hc=>?_)|refine jh (fun hc=>?_) (fun hc=>?_))<;>(try simp (disch:=omega) only [zhb] at hc)<;>(try (exfalso;omega))<;>(try subst hc))|(with_reducible refine ji (by omega) ?_)|(simp (config := { maxSteps := 400000 }) only [↓jt,↓reduceIte,zvs,reduceCtorEq,Nat.reduceEqDiff,Nat.reduceAdd,Nat.reduceLeDiff,Nat.reduceMul,Int.reduceBNe,Int.reduceBEq,Int.reduceEq,Int.reduceNe,Int.reduceLT,Int.reduceLE,Int.reduceGT,Int.reduceGE,Int.reduceNeg,Int.reduceToNat,Nat.reduceLT,Nat.reduceSub,tab,Tryd.results11,List.toList_toArray])|(simp (disch:=omega) only [ziw]))
      all_goals first
        | (exfalso; omega)
        | (simp only [zrds]; done)
        | trace_state
  · have hF : R = false := by
      rw [hR, decide_eq_false]
      rintro rfl
      exact h1 ⟨rfl, rfl, rfl⟩
    rw [hF]
    by_cases h2 : a.bl = b.bl
    · rw [decide_eq_true h2] at hS
      repeat' (first|(with_reducible first|refine yrl (by constructor) ?_|refine jk (fun M hM=>?_)|(refine hM _ ?_;clear hM M)|refine xb3 (by decide) ?_|refine yqa (by assumption) ?_ ?_|refine yqb (by assumption) ?_ ?_)|((with_reducible refine je ?_)<;>(first|rfl|assumption|(simp only [znl,znHM];(first|done|fail))))|(with_reducible refine jf (by (simp only [↓reduceIte,zlk,Nat.reduceEqDiff,reduceCtorEq]);exact rfl) ?_)|((with_reducible first|refine jg (fun hc=>?_) (fun hc=>?_)|refine jh (fun hc=>?_) (fun hc=>?_))<;>(try simp (disch:=omega) only [zhb] at hc)<;>(try (exfalso;omega))<;>(try subst hc))|(with_reducible refine ji (by omega) ?_)|(simp (config := { maxSteps := 400000 }) only [↓jt,↓reduceIte,zvs,reduceCtorEq,Nat.reduceEqDiff,Nat.reduceAdd,Nat.reduceLeDiff,Nat.reduceMul,Int.reduceBNe,Int.reduceBEq,Int.reduceEq,Int.reduceNe,Int.reduceLT,Int.reduceLE,Int.reduceGT,Int.reduceGE,Int.reduceNeg,Int.reduceToNat,Nat.reduceLT,Nat.reduceSub,tab,encDr,Tryd.results11,List.toList_toArray])|(simp (disch:=omega) only [ziw]))
      all_goals first
        | (exfalso; omega)
        | (simp only [zrds]; done)
        | (exfalso; exact h1 ⟨by assumption, by omega, h2⟩)
        | trace_state
    · rw [decide_eq_false h2] at hS
      repeat' (first|(with_reducible first|refine yrl (by constructor) ?_|refine jk (fun M hM=>?_)|(refine hM _ ?_;clear hM M)|refine xb3 (by decide) ?_|refine yqa (by assumption) ?_ ?_|refine yqb (by assumption) ?_ ?_)|((with_reducible refine je ?_)<;>(first|rfl|assumption|(simp only [znl,znHM];(first|done|fail))))|(with_reducible refine jf (by (simp only [↓reduceIte,zlk,Nat.reduceEqDiff,reduceCtorEq]);exact rfl) ?_)|((with_reducible first|refine jg (fun hc=>?_) (fun hc=>?_)|refine jh (fun hc=>?_) (fun hc=>?_))<;>(try simp (disch:=omega) only [zhb] at hc)<;>(try (exfalso;omega))<;>(try subst hc))|(with_reducible refine ji (by omega) ?_)|(simp (config := { maxSteps := 400000 }) only [↓jt,↓reduceIte,zvs,reduceCtorEq,Nat.reduceEqDiff,Nat.reduceAdd,Nat.reduceLeDiff,Nat.reduceMul,Int.reduceBNe,Int.reduceBEq,Int.reduceEq,Int.reduceNe,Int.reduceLT,Int.reduceLE,Int.reduceGT,Int.reduceGE,Int.reduceNeg,Int.reduceToNat,Nat.reduceLT,Nat.reduceSub,tab,encDr,Tryd.results11,List.toList_toArray])|(simp (disch:=omega) only [ziw]))
      all_goals first
        | (exfalso; omega)
        | (simp only [zrds]; done)
        | trace_state
def longW (n : Nat) (w : Wr) : Bool := decide (n < w.d.length)
def bigW (d : Dr) : Bool := decide (80 < d.bl.length) || decide (60 < d.pe.length) || d.bl.any (longB 200) || d.pe.any (longW 200)
def bigL (l : List Wr) : Bool := l.any (longW 200) || decide (40 < l.length)
end Go.Proofs.YtcilmfhncjfdbaaDoor.V
end
section
/-
  WAL: great drives, long rows of writes; a volume, and the document's example.
-/
set_option linter.unusedVariables false
set_option linter.unusedSimpArgs false
namespace Go.Proofs.YtcilmfhncjfdbaaDoor.V
open Go
set_option maxRecDepth 100000
set_option linter.defProp false in
def znHN := And.intro @jO <| And.intro @nls_mapB <| And.intro @nls_frames <| True.intro
set_option maxHeartbeats 4000000
theorem greatW_spec (d : Dr) (hd : d.bl.length ≤ 2 ^ 47 ∧ d.pe.length ≤ 2 ^ 47) (h1 : ∀ s ∈ d.bl, s.length ≤ 2 ^ 47) (h2 : ∀ w ∈ d.pe, w.d.length ≤ 2 ^ 47) : Spec Tryd.prog 14 [encDr d] (.int .i64 (if bigW d = true then 1 else 0)) := by
  obtain ⟨R, hR⟩ : ∃ R, R = (if bigW d = true then (1 : Int) else 0) := ⟨_, rfl⟩
  rw [← hR]
  refine spec_ok Tryd.func14 rfl rfl (by kernel_rfl) (k := 1) rfl (by decide) ?_
  repeat' (first|(with_reducible first|refine yrl (by constructor) ?_|refine jk (fun M hM=>?_)|(refine hM _ ?_;clear hM M)|refine xb3 (by decide) ?_|refine yqa (by assumption) ?_ ?_|refine yqb (by assumption) ?_ ?_)|((with_reducible refine je ?_)<;>(first|rfl|assumption|(simp only [znl,znHN];(first|done|fail))))|(with_reducible refine jf (by (simp only [↓reduceIte,zlk,Nat.reduceEqDiff,reduceCtorEq]);exact rfl) ?_)|((with_reducible first|refine jg (fun hc=>?_) (fun hc=>?_)|refine jh (fun hc=>?_) (fun hc=>?_))<;>(try simp (disch:=omega) only [zhb] at hc)<;>(try (exfalso;omega))<;>(try subst hc))|(with_reducible refine ji (by omega) ?_)|(simp (config := { maxSteps := 400000 }) only [↓jt,↓reduceIte,zvs,reduceCtorEq,Nat.reduceEqDiff,Nat.reduceAdd,Nat.reduceLeDiff,Nat.reduceMul,Int.reduceBNe,Int.reduceBEq,Int.reduceEq,Int.reduceNe,Int.reduceLT,Int.reduceLE,Int.reduceGT,Int.reduceGE,Int.reduceNeg,Int.reduceToNat,Nat.reduceLT,Nat.reduceSub,tab,encDr,Tryd.results14,List.toList_toArray])|(simp (disch:=omega) only [ziw]))
  · simp only [zrds]
    rw [hR, if_pos (by simp only [bigW]; rw [decide_eq_true (by omega : 60 < d.pe.length)]; simp)]
  · refine ok_loop (fun k : Nat => ⟨slots [(1, .ptr 0 []), (2, .int .i64 0), (17, .int .i64 d.bl.length), (18, .int .i64 k)], rows [(0, .row (.st [.cell, .cell, .cell]) (encDr d))], 1⟩) (fun k => k ≤ d.bl.length ∧ ∀ j, j < k → longB 200 (d.bl.getD j default) = false) (fun k => d.bl.length - k) 0 ?_ ⟨Nat.zero_le _, fun j hj => by omega⟩ (fun k hk => ?_)
    · (refine yrn [(0, 0)] false ?_ ?_<;>(repeat' (first|(with_reducible first|exact ya1|exact ya2|exact ya3|refine jx rfl (by first|rfl|assumption|(simp only [znl,znHN];(first|done|fail)))|exact ya5|exact ya7|exact jy|exact jz|refine jA ?_|refine ya9 ?_ ?_ ?_|refine jC rfl (by first|rfl|assumption|(simp only [znl,znHN];(first|done|fail)))|refine MR.agg (MRL.cons ?_ ?_)|refine MR.fn ?_|refine MRL.cons ?_ ?_|exact MRL.nil|refine jE ?_ ?_|exact jF|exact jG|refine yb1 ?_ ?_|refine MB.row ?_|refine jI ?_ ?_|exact ya8|refine jJ rfl (by first|rfl|assumption|(simp only [znl,znHN];(first|done|fail)))|refine yb2 ?_|rfl)|(simp only [znl,znHN];(first|done|fail))|(simp only [↓reduceIte,zlk,Nat.reduceEqDiff,reduceCtorEq])|(with_reducible first|refine jJ ?_ ?_|refine ya5 ?_|refine ju ?_|refine jv ?_|refine jw ?_|refine jx ?_ (by first|rfl|assumption|(simp only [znl,znHN];(first|done|fail)))|refine jC ?_ (by first|rfl|assumption|(simp only [znl,znHN];(first|done|fail)))))))
    obtain ⟨hk, hn⟩ := hk
    by_cases hlt : k < d.bl.length
    · have hs := h1 (d.bl.getD k default) (by rw [List.getD_eq_getElem?_getD, List.getElem?_eq_getElem hlt]; exact List.getElem_mem _)
      rw [default_str] at hs
      repeat' (first|(with_reducible first|refine yrl (by constructor) ?_|refine jk (fun M hM=>?_)|(refine hM _ ?_;clear hM M)|refine xb3 (by decide) ?_|refine yqa (by assumption) ?_ ?_|refine yqb (by assumption) ?_ ?_)|((with_reducible refine je ?_)<;>(first|rfl|assumption|(simp only [znl,znHN];(first|done|fail))))|(with_reducible refine jf (by (simp only [↓reduceIte,zlk,Nat.reduceEqDiff,reduceCtorEq]);exact rfl) ?_)|((with_reducible first|refine jg (fun hc=>?_) (fun hc=>?_)|refine jh (fun hc=>?_) (fun hc=>?_))<;>(try simp (disch:=omega) only [zhb] at hc)<;>(try (exfalso;omega))<;>(try subst hc))|(with_reducible refine ji (by omega) ?_)|(simp (config := { maxSteps := 400000 }) only [↓jt,↓reduceIte,zvs,reduceCtorEq,Nat.reduceEqDiff,Nat.reduceAdd,Nat.reduceLeDiff,Nat.reduceMul,Int.reduceBNe,Int.reduceBEq,Int.reduceEq,Int.reduceNe,Int.reduceLT,Int.reduceLE,Int.reduceGT,Int.reduceGE,Int.reduceNeg,Int.reduceToNat,Nat.reduceLT,Nat.reduceSub,tab,encDr,Tryd.results14,List.toList_toArray])|(simp (disch:=omega) only [ziw]))
      · simp only [zrds]
        rw [hR, if_pos (by simp only [bigW]; rw [any_of d.bl (longB 200) k hlt (by rw [default_str]; simp only [longB]; exact decide_eq_true (by omega))]; simp)]
      · refine xl1 (k + 1) ?_ ⟨by omega, fun j hj => ?_⟩ (by show d.bl.length - (k + 1) < d.bl.length - k; omega)
        · (refine yrn [(0, 0)] false ?_ ?_<;>(repeat' (first|(with_reducible first|exact ya1|exact ya2|exact ya3|refine jx rfl (by first|rfl|assumption|(simp only [znl,znHN];(first|done|fail)))|exact ya5|exact ya7|exact jy|exact jz|refine jA ?_|refine ya9 ?_ ?_ ?_|refine jC rfl (by first|rfl|assumption|(simp only [znl,znHN];(first|done|fail)))|refine MR.agg (MRL.cons ?_ ?_)|refine MR.fn ?_|refine MRL.cons ?_ ?_|exact MRL.nil|refine jE ?_ ?_|exact jF|exact jG|refine yb1 ?_ ?_|refine MB.row ?_|refine jI ?_ ?_|exact ya8|refine jJ rfl (by first|rfl|assumption|(simp only [znl,znHN];(first|done|fail)))|refine yb2 ?_|rfl)|(simp only [znl,znHN];(first|done|fail))|(simp only [↓reduceIte,zlk,Nat.reduceEqDiff,reduceCtorEq])|(with_reducible first|refine jJ ?_ ?_|refine ya5 ?_|refine ju ?_|refine jv ?_|refine jw ?_|refine jx ?_ (by first|rfl|assumption|(simp only [znl,znHN];(first|done|fail)))|refine jC ?_ (by first|rfl|assumption|(simp only [znl,znHN];(first|done|fail)))))))
        · by_cases e : j = k
          · subst e
            (try rw [default_str]); simp only [longB]; exact decide_eq_false (by omega)
          · exact hn j (by omega)
    · obtain rfl : k = d.bl.length := by omega
      have hA := any_none d.bl _ hn
      repeat' (first|(with_reducible first|refine yrl (by constructor) ?_|refine jk (fun M hM=>?_)|(refine hM _ ?_;clear hM M)|refine xb3 (by decide) ?_|refine yqa (by assumption) ?_ ?_|refine yqb (by assumption) ?_ ?_)|((with_reducible refine je ?_)<;>(first|rfl|assumption|(simp only [znl,znHN];(first|done|fail))))|(with_reducible refine jf (by (simp only [↓reduceIte,zlk,Nat.reduceEqDiff,reduceCtorEq]);exact rfl) ?_)|((with_reducible first|refine jg (fun hc=>?_) (fun hc=>?_)|refine jh (fun hc=>?_) (fun hc=>?_))<;>(try simp (disch:=omega) only [zhb] at hc)<;>(try (exfalso;omega))<;>(try subst hc))|(with_reducible refine ji (by omega) ?_)|(simp (config := { maxSteps := 400000 }) only [↓jt,↓reduceIte,zvs,reduceCtorEq,Nat.reduceEqDiff,Nat.reduceAdd,Nat.reduceLeDiff,Nat.reduceMul,Int.reduceBNe,Int.reduceBEq,Int.reduceEq,Int.reduceNe,Int.reduceLT,Int.reduceLE,Int.reduceGT,Int.reduceGE,Int.reduceNeg,Int.reduceToNat,Nat.reduceLT,Nat.reduceSub,tab,encDr,Tryd.results14,List.toList_toArray])|(simp (disch:=omega) only [ziw]))
      refine ok_loop (fun k : Nat => ⟨slots [(1, .ptr 0 []), (2, .int .i64 0), (31, .int .i64 d.pe.length), (32, .int .i64 k)], rows [(0, .row (.st [.cell, .cell, .cell]) (encDr d))], 1⟩) (fun k => k ≤ d.pe.length ∧ ∀ j, j < k → longW 200 (d.pe.getD j default) = false) (fun k => d.pe.length - k) 0 ?_ ⟨Nat.zero_le _, fun j hj => by omega⟩ (fun k hk => ?_)
      · (refine yrn [(0, 0)] false ?_ ?_<;>(repeat' (first|(with_reducible first|exact ya1|exact ya2|exact ya3|refine jx rfl (by first|rfl|assumption|(simp only [znl,znHN];(first|done|fail)))|exact ya5|exact ya7|exact jy|exact jz|refine jA ?_|refine ya9 ?_ ?_ ?_|refine jC rfl (by first|rfl|assumption|(simp only [znl,znHN];(first|done|fail)))|refine MR.agg (MRL.cons ?_ ?_)|refine MR.fn ?_|refine MRL.cons ?_ ?_|exact MRL.nil|refine jE ?_ ?_|exact jF|exact jG|refine yb1 ?_ ?_|refine MB.row ?_|refine jI ?_ ?_|exact ya8|refine jJ rfl (by first|rfl|assumption|(simp only [znl,znHN];(first|done|fail)))|refine yb2 ?_|rfl)|(simp only [znl,znHN];(first|done|fail))|(simp only [↓reduceIte,zlk,Nat.reduceEqDiff,reduceCtorEq])|(with_reducible first|refine jJ ?_ ?_|refine ya5 ?_|refine ju ?_|refine jv ?_|refine jw ?_|refine jx ?_ (by first|rfl|assumption|(simp only [znl,znHN];(first|done|fail)))|refine jC ?_ (by first|rfl|assumption|(simp only [znl,znHN];(first|done|fail)))))))
      obtain ⟨hk, hm⟩ := hk
      by_cases hlt : k < d.pe.length
      · have hs := h2 (d.pe.getD k default) (by rw [List.getD_eq_getElem?_getD, List.getElem?_eq_getElem hlt]; exact List.getElem_mem _)
        repeat' (first|(with_reducible first|refine yrl (by constructor) ?_|refine jk (fun M hM=>?_)|(refine hM _ ?_;clear hM M)|refine xb3 (by decide) ?_|refine yqa (by assumption) ?_ ?_|refine yqb (by assumption) ?_ ?_)|((with_reducible refine je ?_)<;>(first|rfl|assumption|(simp only [znl,znHN];(first|done|fail))))|(with_reducible refine jf (by (simp only [↓reduceIte,zlk,Nat.reduceEqDiff,reduceCtorEq]);exact rfl) ?_)|((with_reducible first|refine jg (fun hc=>?_) (fun hc=>?_)|refine jh (fun hc=>?_) (fun hc=>?_))<;>(try simp (disch:=omega) only [zhb] at hc)<;>(try (exfalso;omega))<;>(try subst hc))|(with_reducible refine ji (by omega) ?_)|(simp (config := { maxSteps := 400000 }) only [↓jt,↓reduceIte,zvs,reduceCtorEq,Nat.reduceEqDiff,Nat.reduceAdd,Nat.reduceLeDiff,Nat.reduceMul,Int.reduceBNe,Int.reduceBEq,Int.reduceEq,Int.reduceNe,Int.reduceLT,Int.reduceLE,Int.reduceGT,Int.reduceGE,Int.reduceNeg,Int.reduceToNat,Nat.reduceLT,Nat.reduceSub,tab,encDr,encWr,Tryd.results14,List.toList_toArray])|(simp (disch:=omega) only [ziw]))
        · simp only [zrds]
          rw [hR, if_pos (by simp only [bigW]; rw [any_of d.pe (longW 200) k hlt (by simp only [longW]; exact decide_eq_true (by omega))]; simp)]
        · refine xl1 (k + 1) ?_ ⟨by omega, fun j hj => ?_⟩ (by show d.pe.length - (k + 1) < d.pe.length - k; omega)
          · (refine yrn [(0, 0)] false ?_ ?_<;>(repeat' (first|(with_reducible first|exact ya1|exact ya2|exact ya3|refine jx rfl (by first|rfl|assumption|(simp only [znl,znHN];(first|done|fail)))|exact ya5|exact ya7|exact jy|exact jz|refine jA ?_|refine ya9 ?_ ?_ ?_|refine jC rfl (by first|rfl|assumption|(simp only [znl,znHN];(first|done|fail)))|refine MR.agg (MRL.cons ?_ ?_)|refine MR.fn ?_|refine MRL.cons ?_ ?_|exact MRL.nil|refine jE ?_ ?_|exact jF|exact jG|refine yb1 ?_ ?_|refine MB.row ?_|refine jI ?_ ?_|exact ya8|refine jJ rfl (by first|rfl|assumption|(simp only [znl,znHN];(first|done|fail)))|refine yb2 ?_|rfl)|(simp only [znl,znHN];(first|done|fail))|(simp only [↓reduceIte,zlk,Nat.reduceEqDiff,reduceCtorEq])|(with_reducible first|refine jJ ?_ ?_|refine ya5 ?_|refine ju ?_|refine jv ?_|refine jw ?_|refine jx ?_ (by first|rfl|assumption|(simp only [znl,znHN];(first|done|fail)))|refine jC ?_ (by first|rfl|assumption|(simp only [znl,znHN];(first|done|fail)))))))
          · by_cases e : j = k
            · subst e
              simp only [longW]; exact decide_eq_false (by omega)
            · exact hm j (by omega)
      · obtain rfl : k = d.pe.length := by omega
        have hB := any_none d.pe (longW 200) hm
        repeat' (first|(with_reducible first|refine yrl (by constructor) ?_|refine jk (fun M hM=>?_)|(refine hM _ ?_;clear hM M)|refine xb3 (by decide) ?_|refine yqa (by assumption) ?_ ?_|refine yqb (by assumption) ?_ ?_)|((with_reducible refine je ?_)<;>(first|rfl|assumption|(simp only [znl,znHN];(first|done|fail))))|(with_reducible refine jf (by (simp only [↓reduceIte,zlk,Nat.reduceEqDiff,reduceCtorEq]);exact rfl) ?_)|((with_reducible first|refine jg (fun hc=>?_) (fun hc=>?_)|refine jh (fun hc=>?_) (fun hc=>?_))<;>(try simp (disch:=omega) only [zhb] at hc)<;>(try (exfalso;omega))<;>(try subst hc))|(with_reducible refine ji (by omega) ?_)|(simp (config := { maxSteps := 400000 }) only [↓jt,↓reduceIte,zvs,reduceCtorEq,Nat.reduceEqDiff,Nat.reduceAdd,Nat.reduceLeDiff,Nat.reduceMul,Int.reduceBNe,Int.reduceBEq,Int.reduceEq,Int.reduceNe,Int.reduceLT,Int.reduceLE,Int.reduceGT,Int.reduceGE,Int.reduceNeg,Int.reduceToNat,Nat.reduceLT,Nat.reduceSub,tab,encDr,Tryd.results14,List.toList_toArray])|(simp (disch:=omega) only [ziw]))
        simp only [zrds]
        rw [hR, if_neg (by simp only [bigW,hA,hB]; simp; omega)]
  · simp only [zrds]
    rw [hR, if_pos (by simp only [bigW]; rw [decide_eq_true (by omega : 80 < List.length d.bl)]; simp)]
end Go.Proofs.YtcilmfhncjfdbaaDoor.V
end
section
/-
  WAL: a volume of blocks; writes that fit.
-/
set_option linter.unusedVariables false
set_option linter.unusedSimpArgs false
namespace Go.Proofs.YtcilmfhncjfdbaaDoor.V
open Go
set_option maxRecDepth 100000
set_option linter.defProp false in
def znHO := And.intro @jO <| And.intro @nls_mapB <| And.intro @nls_frames <| True.intro
set_option maxHeartbeats 4000000
def repW (b : UInt8) (k : Nat) : List UInt8 := List.replicate k b ++ List.replicate (128 - k) 0
theorem repW_set (b : UInt8) {k : Nat} (h : k < 128) : (repW b k).set k b = repW b (k + 1) := by
  unfold repW
  rw [List.set_append_right _ _ (by rw [List.length_replicate]; exact Nat.le_refl k), List.length_replicate, Nat.sub_self]
  obtain ⟨j, hj⟩ : ∃ j, 128 - k = j + 1 := ⟨127 - k, by omega⟩
  rw [hj, List.replicate_succ, List.set_cons_zero, show 128 - (k + 1) = j by omega, List.replicate_succ', List.append_assoc]; rfl
theorem repW_len (b : UInt8) {k : Nat} (h : k ≤ 128) : (repW b k).length = 128 := by unfold repW; rw [List.length_append, List.length_replicate, List.length_replicate]; omega
theorem repW_all (b : UInt8) : repW b 128 = List.replicate 128 b := by unfold repW; simp
def volN (k : Nat) : Frames := (List.range k).map fun i : Nat => List.replicate 128 (UInt8.ofNat (i + 1))
theorem volN_len (k : Nat) : (volN k).length = k := by simp [volN]
theorem volN_succ (k : Nat) : (volN (k + 1)).map VV.str = (volN k).map VV.str ++ [.str (List.replicate 128 (UInt8.ofNat (k + 1)))] := by
  simp only [volN,List.range_succ,List.map_append,List.map_cons,List.map_nil]
theorem volume_spec (n : Nat) (hn : n ≤ 100) : Spec Tryd.prog 24 [.int .i64 n] (encStrs (volN n)) := by
  refine spec_ok Tryd.func24 rfl rfl (by kernel_rfl) (k := 1) rfl (by decide) ?_
  repeat' (first|(with_reducible first|refine yrl (by constructor) ?_|refine jk (fun M hM=>?_)|(refine hM _ ?_;clear hM M)|refine xb3 (by decide) ?_|refine yqa (by assumption) ?_ ?_|refine yqb (by assumption) ?_ ?_)|((with_reducible refine je ?_)<;>(first|rfl|assumption|(simp only [znl,znHO];(first|done|fail))))|(with_reducible refine jf (by (simp only [↓reduceIte,zlk,Nat.reduceEqDiff,reduceCtorEq]);exact rfl) ?_)|((with_reducible first|refine jg (fun hc=>?_) (fun hc=>?_)|refine jh (fun hc=>?_) (fun hc=>?_))<;>(try simp (disch:=omega) only [zhb] at hc)<;>(try (exfalso;omega))<;>(try subst hc))|(with_reducible refine ji (by omega) ?_)|(simp (config := { maxSteps := 400000 }) only [↓jt,↓reduceIte,zvs,reduceCtorEq,Nat.reduceEqDiff,Nat.reduceAdd,Nat.reduceLeDiff,Nat.reduceMul,Int.reduceBNe,Int.reduceBEq,Int.reduceEq,Int.reduceNe,Int.reduceLT,Int.reduceLE,Int.reduceGT,Int.reduceGE,Int.reduceNeg,Int.reduceToNat,Nat.reduceLT,Nat.reduceSub,tab,Tryd.results24,List.toList_toArray])|(simp (disch:=omega) only [ziw]))
  refine ok_loop (fun k : Nat => ⟨slots [(0, .int .i64 n), (3, .sl (some (0, [], 0)) k), (4, .int .i64 k)], rows [(0, .row (.arr k .cell) (.agg ((volN k).map .str)))], 1⟩) (fun k => k ≤ n) (fun k => n - k) 0 ?_ (Nat.zero_le _) (fun k hk => ?_)
  · (refine yrn [(0, 0)] false ?_ ?_<;>(repeat' (first|(with_reducible first|exact ya1|exact ya2|exact ya3|refine jx rfl (by first|rfl|assumption|(simp only [znl,znHO];(first|done|fail)))|exact ya5|exact ya7|exact jy|exact jz|refine jA ?_|refine ya9 ?_ ?_ ?_|refine jC rfl (by first|rfl|assumption|(simp only [znl,znHO];(first|done|fail)))|refine MR.agg (MRL.cons ?_ ?_)|refine MR.fn ?_|refine MRL.cons ?_ ?_|exact MRL.nil|refine jE ?_ ?_|exact jF|exact jG|refine yb1 ?_ ?_|refine MB.row ?_|refine jI ?_ ?_|exact ya8|refine jJ rfl (by first|rfl|assumption|(simp only [znl,znHO];(first|done|fail)))|refine yb2 ?_|rfl)|(simp only [znl,znHO];(first|done|fail))|(simp only [↓reduceIte,zlk,Nat.reduceEqDiff,reduceCtorEq])|(with_reducible first|refine jJ ?_ ?_|refine ya5 ?_|refine ju ?_|refine jv ?_|refine jw ?_|refine jx ?_ (by first|rfl|assumption|(simp only [znl,znHO];(first|done|fail)))|refine jC ?_ (by first|rfl|assumption|(simp only [znl,znHO];(first|done|fail)))))))
    all_goals (first | rfl | trace_state)
  have hvl := volN_len k
  by_cases hlt : k < n
  · have h0 : (List.replicate 128 (VV.int .u8 0)) = (repW (UInt8.ofNat (k + 1)) 0).map encB := by unfold repW; rw [List.replicate_zero, List.nil_append, List.map_replicate]; rfl
    have hbn : ((UInt8.ofNat (k + 1)).toNat : Int) = (k : Int) + 1 := by
      rw [UInt8.toNat_ofNat']; omega
    obtain ⟨b, hb0⟩ : ∃ b, b = UInt8.ofNat (k + 1) := ⟨_, rfl⟩
    have hs := volN_succ k
    rw [← hb0] at h0 hbn hs
    repeat' (first|(with_reducible first|refine yrl (by constructor) ?_|refine jk (fun M hM=>?_)|(refine hM _ ?_;clear hM M)|refine xb3 (by decide) ?_|refine yqa (by assumption) ?_ ?_|refine yqb (by assumption) ?_ ?_)|((with_reducible refine je ?_)<;>(first|rfl|assumption|(simp only [znl,znHO];(first|done|fail))))|(with_reducible refine jf (by (simp only [↓reduceIte,zlk,Nat.reduceEqDiff,reduceCtorEq]);exact rfl) ?_)|((with_reducible first|refine jg (fun hc=>?_) (fun hc=>?_)|refine jh (fun hc=>?_) (fun hc=>?_))<;>(try simp (disch:=omega) only [zhb] at hc)<;>(try (exfalso;omega))<;>(try subst hc))|(with_reducible refine ji (by omega) ?_)|(simp (config := { maxSteps := 400000 }) only [↓jt,↓reduceIte,zvs,reduceCtorEq,Nat.reduceEqDiff,Nat.reduceAdd,Nat.reduceLeDiff,Nat.reduceMul,Int.reduceBNe,Int.reduceBEq,Int.reduceEq,Int.reduceNe,Int.reduceLT,Int.reduceLE,Int.reduceGT,Int.reduceGE,Int.reduceNeg,Int.reduceToNat,Nat.reduceLT,Nat.reduceSub,tab,h0,hvl,Tryd.results24,List.toList_toArray])|(simp (disch:=omega) only [ziw]))
    all_goals (try (exfalso; omega))
    refine ok_loop (fun j : Nat => ⟨slots [(0, .int .i64 n), (3, .sl (some (0, [], 0)) k), (4, .int .i64 k), (5, .sl (some (1, [], 0)) 128), (6, .int .i64 j)], rows [(0, .row (.arr k .cell) (.agg ((volN k).map .str))), (1, .row (.arr 128 .cell) (.agg ((repW b j).map encB)))], 2⟩) (fun j => j ≤ 128) (fun j => 128 - j) 0 ?_ (Nat.zero_le _) (fun j hj => ?_)
    · (refine yrn [(0, 0), (1, 1)] false ?_ ?_<;>(repeat' (first|(with_reducible first|exact ya1|exact ya2|exact ya3|refine jx rfl (by first|rfl|assumption|(simp only [znl,znHO];(first|done|fail)))|exact ya5|exact ya7|exact jy|exact jz|refine jA ?_|refine ya9 ?_ ?_ ?_|refine jC rfl (by first|rfl|assumption|(simp only [znl,znHO];(first|done|fail)))|refine MR.agg (MRL.cons ?_ ?_)|refine MR.fn ?_|refine MRL.cons ?_ ?_|exact MRL.nil|refine jE ?_ ?_|exact jF|exact jG|refine yb1 ?_ ?_|refine MB.row ?_|refine jI ?_ ?_|exact ya8|refine jJ rfl (by first|rfl|assumption|(simp only [znl,znHO];(first|done|fail)))|refine yb2 ?_|rfl)|(simp only [znl,znHO];(first|done|fail))|(simp only [↓reduceIte,zlk,Nat.reduceEqDiff,reduceCtorEq])|(with_reducible first|refine jJ ?_ ?_|refine ya5 ?_|refine ju ?_|refine jv ?_|refine jw ?_|refine jx ?_ (by first|rfl|assumption|(simp only [znl,znHO];(first|done|fail)))|refine jC ?_ (by first|rfl|assumption|(simp only [znl,znHO];(first|done|fail)))))))
      all_goals (first | rfl | trace_state)
    have hl := repW_len b hj
    by_cases hlj : j < 128
    · have hw : ((repW b j).map encB).set j (.int .u8 ((k : Int) + 1)) = (repW b (j + 1)).map encB := by rw [← repW_set b hlj, List.map_set, ← hbn]; rfl
      generalize repW b j = l at hl hw ⊢
      repeat' (first|(with_reducible first|refine yrl (by constructor) ?_|refine jk (fun M hM=>?_)|(refine hM _ ?_;clear hM M)|refine xb3 (by decide) ?_|refine yqa (by assumption) ?_ ?_|refine yqb (by assumption) ?_ ?_)|((with_reducible refine je ?_)<;>(first|rfl|assumption|(simp only [znl,znHO];(first|done|fail))))|(with_reducible refine jf (by (simp only [↓reduceIte,zlk,Nat.reduceEqDiff,reduceCtorEq]);exact rfl) ?_)|((with_reducible first|refine jg (fun hc=>?_) (fun hc=>?_)|refine jh (fun hc=>?_) (fun hc=>?_))<;>(try simp (disch:=omega) only [zhb] at hc)<;>(try (exfalso;omega))<;>(try subst hc))|(with_reducible refine ji (by omega) ?_)|(simp (config := { maxSteps := 400000 }) only [↓jt,↓reduceIte,zvs,reduceCtorEq,Nat.reduceEqDiff,Nat.reduceAdd,Nat.reduceLeDiff,Nat.reduceMul,Int.reduceBNe,Int.reduceBEq,Int.reduceEq,Int.reduceNe,Int.reduceLT,Int.reduceLE,Int.reduceGT,Int.reduceGE,Int.reduceNeg,Int.reduceToNat,Nat.reduceLT,Nat.reduceSub,tab,hl,hw,Tryd.results24,List.toList_toArray])|(simp (disch:=omega) only [ziw]))
      all_goals first
        | (exfalso; omega)
        | (refine xl1 (j + 1) ?_ (by show j + 1 ≤ 128; omega) (by show 128 - (j + 1) < 128 - j; omega); (refine yrn [(0, 0), (1, 1)] false ?_ ?_<;>(repeat' (first|(with_reducible first|exact ya1|exact ya2|exact ya3|refine jx rfl (by first|rfl|assumption|(simp only [znl,znHO];(first|done|fail)))|exact ya5|exact ya7|exact jy|exact jz|refine jA ?_|refine ya9 ?_ ?_ ?_|refine jC rfl (by first|rfl|assumption|(simp only [znl,znHO];(first|done|fail)))|refine MR.agg (MRL.cons ?_ ?_)|refine MR.fn ?_|refine MRL.cons ?_ ?_|exact MRL.nil|refine jE ?_ ?_|exact jF|exact jG|refine yb1 ?_ ?_|refine MB.row ?_|refine jI ?_ ?_|exact ya8|refine jJ rfl (by first|rfl|assumption|(simp only [znl,znHO];(first|done|fail)))|refine yb2 ?_|rfl)|(simp only [znl,znHO];(first|done|fail))|(simp only [↓reduceIte,zlk,Nat.reduceEqDiff,reduceCtorEq])|(with_reducible first|refine jJ ?_ ?_|refine ya5 ?_|refine ju ?_|refine jv ?_|refine jw ?_|refine jx ?_ (by first|rfl|assumption|(simp only [znl,znHO];(first|done|fail)))|refine jC ?_ (by first|rfl|assumption|(simp only [znl,znHO];(first|done|fail))))))); all_goals (first | rfl | exact hw | trace_state); done)
        | trace_state
    · obtain rfl : j = 128 := by omega
      rw [repW_all]
      have hb : bytesOf (((List.replicate 128 b).map encB).take 128) = some (List.replicate 128 b) := by rw [List.take_of_length_le (by simp), bytesOf_enc]
      repeat' (first|(with_reducible first|refine yrl (by constructor) ?_|refine jk (fun M hM=>?_)|(refine hM _ ?_;clear hM M)|refine xb3 (by decide) ?_|refine yqa (by assumption) ?_ ?_|refine yqb (by assumption) ?_ ?_)|((with_reducible refine je ?_)<;>(first|rfl|assumption|(simp only [znl,znHO];(first|done|fail))))|(with_reducible refine jf (by (simp only [↓reduceIte,zlk,Nat.reduceEqDiff,reduceCtorEq]);exact rfl) ?_)|((with_reducible first|refine jg (fun hc=>?_) (fun hc=>?_)|refine jh (fun hc=>?_) (fun hc=>?_))<;>(try simp (disch:=omega) only [zhb] at hc)<;>(try (exfalso;omega))<;>(try subst hc))|(with_reducible refine ji (by omega) ?_)|(simp (config := { maxSteps := 400000 }) only [↓jt,↓reduceIte,zvs,reduceCtorEq,Nat.reduceEqDiff,Nat.reduceAdd,Nat.reduceLeDiff,Nat.reduceMul,Int.reduceBNe,Int.reduceBEq,Int.reduceEq,Int.reduceNe,Int.reduceLT,Int.reduceLE,Int.reduceGT,Int.reduceGE,Int.reduceNeg,Int.reduceToNat,Nat.reduceLT,Nat.reduceSub,tab,hb,hvl,Tryd.results24,List.toList_toArray])|(simp (disch:=omega) only [ziw]))
      all_goals (try (exfalso; omega))
      refine xl1 (k + 1) ?_ (by show k + 1 ≤ n; omega) (by show n - (k + 1) < n - k; omega)
      (refine yrn [(0, 3)] false ?_ ?_<;>(repeat' (first|(with_reducible first|exact ya1|exact ya2|exact ya3|refine jx rfl (by first|rfl|assumption|(simp only [znl,znHO];(first|done|fail)))|exact ya5|exact ya7|exact jy|exact jz|refine jA ?_|refine ya9 ?_ ?_ ?_|refine jC rfl (by first|rfl|assumption|(simp only [znl,znHO];(first|done|fail)))|refine MR.agg (MRL.cons ?_ ?_)|refine MR.fn ?_|refine MRL.cons ?_ ?_|exact MRL.nil|refine jE ?_ ?_|exact jF|exact jG|refine yb1 ?_ ?_|refine MB.row ?_|refine jI ?_ ?_|exact ya8|refine jJ rfl (by first|rfl|assumption|(simp only [znl,znHO];(first|done|fail)))|refine yb2 ?_|rfl)|(simp only [znl,znHO];(first|done|fail))|(simp only [↓reduceIte,zlk,Nat.reduceEqDiff,reduceCtorEq])|(with_reducible first|refine jJ ?_ ?_|refine ya5 ?_|refine ju ?_|refine jv ?_|refine jw ?_|refine jx ?_ (by first|rfl|assumption|(simp only [znl,znHO];(first|done|fail)))|refine jC ?_ (by first|rfl|assumption|(simp only [znl,znHO];(first|done|fail)))))))
      all_goals (first | rfl | (rw [hs]; done) | trace_state)
  obtain rfl : k = n := by omega
  repeat' (first|(with_reducible first|refine yrl (by constructor) ?_|refine jk (fun M hM=>?_)|(refine hM _ ?_;clear hM M)|refine xb3 (by decide) ?_|refine yqa (by assumption) ?_ ?_|refine yqb (by assumption) ?_ ?_)|((with_reducible refine je ?_)<;>(first|rfl|assumption|(simp only [znl,znHO];(first|done|fail))))|(with_reducible refine jf (by (simp only [↓reduceIte,zlk,Nat.reduceEqDiff,reduceCtorEq]);exact rfl) ?_)|((with_reducible first|refine jg (fun hc=>?_) (fun hc=>?_)|refine jh (fun hc=>?_) (fun hc=>?_))<;>(try simp (disch:=omega) only [zhb] at hc)<;>(try (exfalso;omega))<;>(try subst hc))|(with_reducible refine ji (by omega) ?_)|(simp (config := { maxSteps := 400000 }) only [↓jt,↓reduceIte,zvs,reduceCtorEq,Nat.reduceEqDiff,Nat.reduceAdd,Nat.reduceLeDiff,Nat.reduceMul,Int.reduceBNe,Int.reduceBEq,Int.reduceEq,Int.reduceNe,Int.reduceLT,Int.reduceLE,Int.reduceGT,Int.reduceGE,Int.reduceNeg,Int.reduceToNat,Nat.reduceLT,Nat.reduceSub,tab,hvl,Tryd.results24,List.toList_toArray])|(simp (disch:=omega) only [ziw]))
  all_goals first
    | (exfalso; omega)
    | (refine rdt_of ?_ rfl; (refine rd_own (by (simp only [↓reduceIte,zlk,Nat.reduceEqDiff,reduceCtorEq]); exact rfl) ?_ ?_ ?_) <;> (first | rfl | assumption | (simp only [znl,znHO];(first|done|fail)) | (simp; done) | (simp; omega) | skip); all_goals (first | (rw [List.length_map, hvl]; done) | trace_state); done)
    | trace_state
end Go.Proofs.YtcilmfhncjfdbaaDoor.V
end
section
/-
  WAL, plainly: what calls of a drive leave, block by block; to recover twice.
-/
set_option linter.unusedVariables false
set_option linter.unusedSimpArgs false
namespace Go.Proofs.YtcilmfhncjfdbaaDoor.V
open Go
set_option maxRecDepth 100000
def putC (w : Wr) : Cl := .put w.b w.d
def WV (n : Nat) (ws : List Wr) : Prop := ∀ w ∈ ws, 0 ≤ w.b ∧ w.b < (n : Int) ∧ w.d.length = 128
theorem putD_ok {d : Dr} {i : Int} {s : List UInt8} (h : (putD d i s).2 = 0) : (putD d i s).1 = ⟨d.bl, d.pe ++ [⟨i, s⟩], lessD d.left⟩ := by
  unfold putD at h ⊢
  split
  · rename_i h1; rw [if_pos h1] at h; cases h
  · rename_i h1
    rw [if_neg h1] at h
    split
    · rename_i h2; rw [if_pos h2] at h; cases h
    · rename_i h2
      rw [if_neg h2] at h
      split
      · rename_i h3; rw [if_pos h3] at h; cases h
      · rfl
theorem flushD_ok {d : Dr} (h : (flushD d).2 = 0) : (flushD d).1 = ⟨flushB d.pe d.bl, [], lessD d.left⟩ := by
  unfold flushD at h ⊢
  split
  · rename_i h1; rw [if_pos h1] at h; cases h
  · rfl
theorem lessD_neg {n : Int} (h : n < 0) : lessD n = n := by unfold lessD; rw [if_neg (by omega)]
theorem runC_puts_ok : ∀ (ws : List Wr) (d : Dr), (runC d (ws.map putC)).2 = 0 → ∃ q, (runC d (ws.map putC)).1 = ⟨d.bl, d.pe ++ ws, q⟩
  | [], d, _ => ⟨d.left, by rw [List.append_nil]; rfl⟩
  | w :: ws, d, h => by
    rw [List.map_cons, runC] at h ⊢
    have es : stepC d (putC w) = putD d w.b w.d := rfl
    rw [es] at h ⊢
    by_cases h1 : (putD d w.b w.d).2 = 0
    · rw [if_neg (by simp [h1])] at h ⊢
      rw [putD_ok h1] at h ⊢
      obtain ⟨q, hq⟩ := runC_puts_ok ws _ h
      refine ⟨q, ?_⟩
      rw [hq, List.append_assoc]; rfl
    · rw [if_pos h1] at h
      exact absurd h h1
theorem runC_puts_neg : ∀ (ws : List Wr) (d : Dr), d.left < 0 → WV d.bl.length ws → runC d (ws.map putC) = (⟨d.bl, d.pe ++ ws, d.left⟩, 0)
  | [], d, _, _ => by rw [List.append_nil]; rfl
  | w :: ws, d, hl, hw => by
    obtain ⟨w1, w2, w3⟩ := hw w (by simp)
    rw [List.map_cons, runC]
    have es : stepC d (putC w) = (⟨d.bl, d.pe ++ [w], d.left⟩, 0) := by
      show putD d w.b w.d = _
      unfold putD
      rw [if_neg (by simp only [Decidable.not_not]; exact ⟨w1, w2⟩), if_neg (by simp [w3]), if_neg (by omega), lessD_neg hl]
    have ih := runC_puts_neg ws ⟨d.bl, d.pe ++ [w], d.left⟩ hl (fun x hx => hw x (by simp [hx]))
    rw [es, if_neg (fun h => h rfl)]
    refine ih.trans ?_
    simp only [List.append_assoc,List.cons_append,List.nil_append]
theorem runC_flush_ok {ws : List Wr} {d : Dr} (h : (runC d (ws.map putC ++ [.flush])).2 = 0) : ∃ q, (runC d (ws.map putC ++ [.flush])).1 = ⟨flushB (d.pe ++ ws) d.bl, [], q⟩ := by
  rw [runC_append] at h ⊢
  by_cases h1 : (runC d (ws.map putC)).2 = 0
  · rw [if_neg (by simp [h1])] at h ⊢
    obtain ⟨q, hq⟩ := runC_puts_ok ws d h1
    rw [hq] at h ⊢
    rw [runC] at h ⊢
    have es : stepC ⟨d.bl, d.pe ++ ws, q⟩ .flush = flushD ⟨d.bl, d.pe ++ ws, q⟩ := rfl
    rw [es] at h ⊢
    by_cases h2 : (flushD ⟨d.bl, d.pe ++ ws, q⟩).2 = 0
    · rw [if_neg (by simp [h2])] at h ⊢
      exact ⟨_, flushD_ok h2⟩
    · rw [if_pos h2] at h
      exact absurd h h2
  · rw [if_pos h1] at h
    exact absurd h h1
theorem runC_flush_neg {ws : List Wr} {d : Dr} (hl : d.left < 0) (hw : WV d.bl.length ws) : runC d (ws.map putC ++ [.flush]) = (⟨flushB (d.pe ++ ws) d.bl, [], d.left⟩, 0) := by
  rw [runC_append, runC_puts_neg ws d hl hw, if_neg (fun h => h rfl), runC]
  have es : stepC ⟨d.bl, d.pe ++ ws, d.left⟩ .flush = (⟨flushB (d.pe ++ ws) d.bl, [], d.left⟩, 0) := by
    show flushD _ = _
    unfold flushD
    rw [if_neg (by show ¬ d.left = 0; omega)]
    show ((⟨_, _, lessD d.left⟩ : Dr), (0 : Int)) = _
    rw [lessD_neg hl]
  rw [es]; rfl
def upH (w : Wr) : Wr := ⟨33 + w.b, w.d⟩
theorem range_getD {α β : Type} [Inhabited α] (l : List α) (f : α → β) : ((List.range l.length).map fun i => f (l.getD i default)) = l.map f := by
  refine List.ext_getElem (by simp) fun i h1 h2 => ?_
  have hi : i < l.length := by simpa using h2
  simp [hi]
theorem hmP_map (l : List Wr) : hmP l l.length = (l.map upH).map putC := by
  unfold hmP
  rw [range_getD l fun w => Cl.put (33 + w.b) w.d, List.map_map]; rfl
theorem getP_append (a b : List Wr) (i : Int) (s : List UInt8) : getP (a ++ b) i s = getP b i (getP a i s) := by simp [getP, List.foldl_append]
theorem getP_none (i : Int) : ∀ (l : List Wr) (s : List UInt8), (∀ w ∈ l, w.b ≠ i) → getP l i s = s
  | [], s, _ => rfl
  | w :: l, s, h => by
    show getP l i (if w.b = i then w.d else s) = s
    rw [if_neg (h w (by simp)), getP_none i l s fun x hx => h x (by simp [hx])]
theorem getP_two (i : Int) : ∀ (l : List Wr) (s t : List UInt8), (∃ w ∈ l, w.b = i) → getP l i s = getP l i t
  | w :: l, s, t, h => by
    show getP l i (if w.b = i then w.d else s) = getP l i (if w.b = i then w.d else t)
    by_cases e : w.b = i
    · rw [if_pos e, if_pos e]
    · rw [if_neg e, if_neg e]
      refine getP_two i l s t ?_
      obtain ⟨x, hx, hb⟩ := h
      rcases List.mem_cons.1 hx with rfl | hx
      · exact absurd hb e
      · exact ⟨x, hx, hb⟩
theorem getP_again (i : Int) (l : List Wr) (s : List UInt8) : getP l i (getP l i s) = getP l i s := by
  by_cases h : ∃ w ∈ l, w.b = i
  · exact getP_two i l _ _ h
  · exact getP_none i l _ fun w hw e => h ⟨w, hw, e⟩
theorem got_flushed (pe : List Wr) (bl : Frames) (q : Int) {i : Nat} (hi : i < bl.length) : gotF ⟨flushB pe bl, [], q⟩ i = getP pe i (bl.getD i []) := flushB_get pe bl i hi
theorem told_congr {d e : Dr} (hl : d.bl.length = e.bl.length) (h : ∀ i, i < 33 → gotF d i = gotF e i) : toldD d = toldD e := by
  have ht : ∀ (s : List UInt8) (k : Nat), k ≤ 32 → toldL d s k = toldL e s k := fun s k hk => by
    unfold toldL
    refine List.map_congr_left fun i hi => ?_
    have := List.mem_range.1 hi
    rw [h (i + 1) (by omega)]
  unfold toldD
  rw [h 0 (by omega), hl]
  dsimp only
  by_cases hn : cntF (gotF e 0) < 1 ∨ 32 < cntF (gotF e 0)
  · rw [if_pos hn, if_pos hn]
  · rw [if_neg hn, if_neg hn, ht _ _ (by omega)]
structure DGood (d : Dr) : Prop where
  lo : 33 < d.bl.length
  hi : d.bl.length ≤ 256
  bl : ∀ s ∈ d.bl, s.length = 128
  pe : WV d.bl.length d.pe
theorem checkW_of {n : Nat} : ∀ {l : List Wr}, WV n l → checkW n l = 0
  | [], _ => rfl
  | w :: l, h => by
    obtain ⟨w1, w2, w3⟩ := h w (by simp)
    rw [checkW, if_neg (by simp only [Decidable.not_not]; exact ⟨w1, w2⟩), if_neg (by simp [w3])]
    exact checkW_of fun x hx => h x (by simp [hx])
theorem DGood.bad {d : Dr} (h : DGood d) : badD d = 0 := by
  obtain ⟨h1, h2, h3, h4⟩ := h
  have hc : checkD d = 0 := by
    unfold checkD
    rw [if_neg (by omega), if_neg (by simp only [List.any_eq_true,decide_eq_true_eq,not_exists,not_and,Decidable.not_not]; exact h3)]
    exact checkW_of h4
  unfold badD
  rw [if_neg (by simp [hc]), if_neg (by omega)]
theorem checkW_pos {n : Nat} : ∀ {l : List Wr}, checkW n l = 0 → WV n l
  | [], _, w, hw => by cases hw
  | x :: l, h, w, hw => by
    rw [checkW] at h
    split at h
    · cases h
    · rename_i h1
      have h1 := Decidable.not_not.1 h1
      split at h
      · cases h
      · rename_i h2
        rcases List.mem_cons.1 hw with rfl | hw
        · exact ⟨h1.1, h1.2, Decidable.not_not.1 h2⟩
        · exact checkW_pos h w hw
theorem dgood_of {d : Dr} (h : badD d = 0) : DGood d := by
  obtain ⟨c1, c2, c3⟩ := badD_ok h
  refine ⟨c2, c3, (checkD_ok c1).1, ?_⟩
  unfold checkD at c1
  rw [if_neg (by omega)] at c1
  split at c1
  · cases c1
  · exact checkW_pos c1
theorem flushB_128 {n : Nat} {pe : List Wr} (hp : WV n pe) : ∀ {g : Frames}, (∀ s ∈ g, s.length = 128) → ∀ s ∈ flushB pe g, s.length = 128 := by
  induction pe with
  | nil => intro g h; exact h
  | cons w pe ih =>
    intro g h
    show ∀ s ∈ flushB pe (wrB g w), _
    refine ih (fun x hx => hp x (by simp [hx])) fun s hs => ?_
    unfold wrB at hs
    split at hs
    · rcases List.mem_or_eq_of_mem_set hs with hs | rfl
      · exact h s hs
      · exact (hp w (by simp)).2.2
    · exact h s hs
theorem DGood.flushed {d : Dr} (h : DGood d) {ws : List Wr} (hw : WV d.bl.length ws) (q : Int) : DGood ⟨flushB (d.pe ++ ws) d.bl, [], q⟩ := by
  obtain ⟨h1, h2, h3, h4⟩ := h
  have hl : (flushB (d.pe ++ ws) d.bl).length = d.bl.length := flushB_len _ _
  refine ⟨by show 33 < (flushB _ _).length; omega, by show (flushB _ _).length ≤ 256; omega, flushB_128 (n := d.bl.length) (fun w hw' => ?_) h3, fun w hw => by cases hw⟩
  rcases List.mem_append.1 hw' with hw' | hw'
  · exact h4 w hw'
  · exact hw w hw'
theorem told_may {d : Dr} (h : toldD d ≠ []) : mayD ((d.bl.length - 33 : Nat) : Int) (toldD d) = 0 := by
  unfold toldD at h ⊢
  dsimp only at h ⊢
  split
  · rename_i h1; rw [if_pos h1] at h; exact absurd rfl h
  · rename_i h1
    rw [if_neg h1] at h
    split
    · rename_i h2; rw [if_pos h2] at h; exact absurd rfl h
    · rename_i h2
      exact Decidable.not_not.1 fun e => h2 (.inl e)
theorem may_wv {l : List Wr} {n : Nat} (h : mayD (n : Int) l = 0) : WV n l ∧ l.length ≤ 32 := by
  unfold mayD at h
  split at h
  · cases h
  · exact ⟨fun w hw => may_ok h w hw, by omega⟩
theorem up_wv {l : List Wr} {n : Nat} (hn : 33 < n) (h : WV (n - 33) l) : WV n (l.map upH) := by
  intro w hw
  obtain ⟨x, hx, rfl⟩ := List.mem_map.1 hw
  obtain ⟨x1, x2, x3⟩ := h x hx
  exact ⟨by show 0 ≤ 33 + x.b; omega, by show 33 + x.b < (n : Int); omega, x3⟩
theorem volV_congr {d e : Dr} (hl : d.bl.length = e.bl.length) (h : ∀ i, 33 + i < d.bl.length → gotF d (33 + i) = gotF e (33 + i)) : volV d = volV e := by
  unfold volV
  rw [hl]
  refine List.map_congr_left fun i hi => ?_
  have := List.mem_range.1 hi
  exact h i (by omega)
theorem rec_twice {d x : Dr} (h : recD d = (x, 0)) : (recD ⟨x.bl, x.pe, -1⟩).2 = 0 ∧ volB (recD ⟨x.bl, x.pe, -1⟩).1 = volB ⟨x.bl, x.pe, -1⟩ := by
  unfold recD at h
  by_cases hb : badD d = 0
  case neg =>
    rw [if_pos hb] at h
    exact absurd (congrArg Prod.snd h) hb
  rw [if_neg (by simp [hb])] at h
  have hg := dgood_of hb
  by_cases ht : toldD d = []
  · rw [if_pos ht] at h
    obtain rfl : d = x := congrArg Prod.fst h
    have hb' : badD ⟨d.bl, d.pe, -1⟩ = 0 := hb
    have ht' : toldD ⟨d.bl, d.pe, -1⟩ = [] := ht
    unfold recD
    rw [if_neg (by simp [hb']), if_pos ht']
    exact ⟨rfl, rfl⟩
  · rw [if_neg ht] at h
    have hm := told_may ht
    obtain ⟨t, hte⟩ : ∃ t, t = toldD d := ⟨_, rfl⟩
    rw [← hte] at h ht hm
    obtain ⟨hw, hwl⟩ := may_wv hm
    have hu := up_wv hg.lo hw
    have hC : homeC t = (t.map upH).map putC ++ [.flush] := by unfold homeC; rw [hmP_map]
    rw [hC] at h
    obtain ⟨q, hq⟩ := runC_flush_ok (ws := t.map upH) (d := d) (by rw [h])
    rw [h] at hq
    have hx : x = ⟨flushB (d.pe ++ t.map upH) d.bl, [], q⟩ := hq
    have hgx : DGood ⟨flushB (d.pe ++ t.map upH) d.bl, [], -1⟩ := hg.flushed hu (-1)
    have hxb : x.bl = flushB (d.pe ++ t.map upH) d.bl := by rw [hx]
    have hxp : x.pe = [] := by rw [hx]
    rw [hxb, hxp]
    obtain ⟨y, hy⟩ : ∃ y : Dr, y = ⟨flushB (d.pe ++ t.map upH) d.bl, [], -1⟩ := ⟨_, rfl⟩
    have hyl : y.bl.length = d.bl.length := by rw [hy]; exact flushB_len _ _
    have hyg : ∀ i, i < d.bl.length → gotF y i = getP (t.map upH) i (gotF d i) := fun i hi => by
      rw [hy, got_flushed _ _ _ hi, getP_append]; rfl
    have hlo : ∀ w ∈ t.map upH, 33 ≤ w.b := fun w hw' => by
      obtain ⟨z, hz, rfl⟩ := List.mem_map.1 hw'
      have := (hw z hz).1
      show 33 ≤ 33 + z.b
      omega
    have hty : toldD y = t := by
      rw [hte]
      refine told_congr hyl fun i hi => ?_
      have := hg.lo
      rw [hyg i (by omega), getP_none _ _ _ fun w hw' e => by have := hlo w hw'; omega]
    rw [← hy] at hgx ⊢
    have hyp : y.pe = [] := by rw [hy]
    have hyle : y.left = -1 := by rw [hy]
    have hr : recD y = (⟨flushB (y.pe ++ t.map upH) y.bl, [], y.left⟩, 0) := by
      unfold recD
      rw [if_neg (by simp [hgx.bad]), hty, if_neg ht, hC]
      exact runC_flush_neg (by omega) (by rw [hyl]; exact hu)
    have hgz : DGood ⟨flushB (y.pe ++ t.map upH) y.bl, [], y.left⟩ := hgx.flushed (by rw [hyl]; exact hu) _
    rw [hr]
    refine ⟨rfl, ?_⟩
    unfold volB
    rw [if_pos hgz.bad, if_pos hgx.bad]
    refine volV_congr (flushB_len _ _) fun i hi => ?_
    have hi' : 33 + i < y.bl.length := by rwa [show (flushB (y.pe ++ t.map upH) y.bl).length = y.bl.length from flushB_len _ _] at hi
    rw [got_flushed _ _ _ hi', hyp, List.nil_append]
    have e0 : y.bl.getD (33 + i) [] = gotF y (33 + i) := by unfold gotF; rw [hyp]; rfl
    rw [e0, hyg _ (by omega), getP_again]
end Go.Proofs.YtcilmfhncjfdbaaDoor.V
end
section
/-
  WAL, plainly: a commit of a drive that waits for nothing; two of them; the journal's head behind one.
-/
set_option linter.unusedVariables false
set_option linter.unusedSimpArgs false
namespace Go.Proofs.YtcilmfhncjfdbaaDoor.V
open Go
set_option maxRecDepth 100000
def ptH (l : List Wr) (k : Nat) : List Wr := (List.range k).map fun i : Nat => ⟨1 + (i : Int), (l.getD i default).d⟩
def jourH (l : List Wr) : List Wr := ptH l l.length ++ [⟨0, headF l⟩]
theorem jour_wv {l : List Wr} {n : Nat} (hn : 33 < n) (hl : l.length ≤ 32) (h : WV (n - 33) l) : WV n (jourH l) := by
  intro w hw
  rcases List.mem_append.1 hw with hw | hw
  · obtain ⟨i, hi, rfl⟩ := List.mem_map.1 hw
    have hi := List.mem_range.1 hi
    exact ⟨by show 0 ≤ 1 + (i : Int); omega, by show 1 + (i : Int) < n; omega, (h _ (getD_mem' hi)).2.2⟩
  · simp only [List.mem_cons,List.not_mem_nil,or_false] at hw
    subst hw
    exact ⟨by show (0 : Int) ≤ 0; omega, by show (0 : Int) < n; omega, headF_len hl⟩
structure Quiet (d : Dr) : Prop where
  good : DGood d
  pe : d.pe = []
  left : d.left = -1
structure Comm (d : Dr) (l : List Wr) (x : Dr) : Prop where
  quiet : Quiet x
  len : x.bl.length = d.bl.length
  vol : ∀ i : Nat, 33 + i < d.bl.length → gotF x (33 + i) = getP l i (gotF d (33 + i))
  head : l ≠ [] → gotF x 0 = headF l
  dat : ∀ i, i < l.length → gotF x (i + 1) = (l.getD i default).d
theorem format_ok {v : Frames} (h : (formatD v).2 = 0) : (formatD v).1 = ⟨List.replicate 33 zeros ++ v, [], -1⟩ ∧ Quiet (formatD v).1 ∧ (formatD v).1.bl.length = 33 + v.length := by
  unfold formatD at h ⊢
  split
  · rename_i h1; rw [if_pos h1] at h; cases h
  · rename_i h1
    rw [if_neg h1] at h
    split
    · rename_i h2; rw [if_pos h2] at h; cases h
    · rename_i h2
      have hl : (List.replicate 33 zeros ++ v).length = 33 + v.length := by rw [List.length_append, List.length_replicate]
      simp only [List.any_eq_true,not128,decide_eq_true_eq,not_exists,not_and,Decidable.not_not] at h2
      refine ⟨rfl, ⟨⟨by show 33 < (List.replicate 33 zeros ++ v).length; omega, by show (List.replicate 33 zeros ++ v).length ≤ 256; omega, fun s hs => ?_, fun w hw => by cases hw⟩, rfl, rfl⟩, hl⟩
      rcases List.mem_append.1 hs with hs | hs
      · rw [List.eq_of_mem_replicate hs]; rfl
      · exact h2 s hs
theorem runC_go {d y : Dr} {c : Cl} {cs : List Cl} (h : stepC d c = (y, 0)) : runC d (c :: cs) = runC y cs := by rw [runC, h, if_neg (fun h => h rfl)]
theorem runC_no {d y : Dr} {e : Int} {c : Cl} {cs : List Cl} (h : stepC d c = (y, e)) (he : e ≠ 0) : runC d (c :: cs) = (y, e) := by rw [runC, h, if_pos he]
theorem put_go {bl : Frames} {pe : List Wr} {n i : Int} {s : List UInt8} (hn : 0 < n) (h0 : 0 ≤ i) (h1 : i < bl.length) (hs : s.length = 128) : stepC ⟨bl, pe, n⟩ (.put i s) = (⟨bl, pe ++ [⟨i, s⟩], n - 1⟩, 0) := by
  show putD _ i s = _
  unfold putD lessD
  rw [if_neg (by simp only [Decidable.not_not]; exact ⟨h0, h1⟩), if_neg (by simp [hs]), if_neg (by show ¬ n = 0; omega), if_pos (by show 0 < n; exact hn)]
theorem flush_go {bl : Frames} {pe : List Wr} {n : Int} (hn : 0 < n) : stepC ⟨bl, pe, n⟩ .flush = (⟨flushB pe bl, [], n - 1⟩, 0) := by
  show flushD _ = _
  unfold flushD lessD
  rw [if_neg (by show ¬ n = 0; omega), if_pos (by show 0 < n; exact hn)]
theorem flush_no {bl : Frames} {pe : List Wr} : stepC ⟨bl, pe, 0⟩ .flush = (⟨bl, pe, 0⟩, 17) := by
  show flushD _ = _
  unfold flushD
  rw [if_pos rfl]
theorem may_one {n : Int} {s : List UInt8} (hn : 1 < n) (hs : s.length = 128) : mayD n [⟨1, s⟩] = 0 := by
  unfold mayD
  rw [if_neg (by show ¬ 32 < 1; omega), mayF, if_neg (by simp only [Decidable.not_not]; exact ⟨by decide, hn⟩), if_neg (by simp [hs])]
  rfl
theorem calls_one (s : List UInt8) : callsC [⟨1, s⟩] = [.put 1 s, .put 0 (headF [⟨1, s⟩]), .flush, .put 34 s, .flush] := rfl
theorem commit_one {bl : Frames} {n : Int} {s : List UInt8} (hg : DGood ⟨bl, [], n⟩) (hb : 35 ≤ bl.length) (hs : s.length = 128) : commitD ⟨bl, [], n⟩ [⟨1, s⟩] = runC ⟨bl, [], n⟩ [.put 1 s, .put 0 (headF [⟨1, s⟩]), .flush, .put 34 s, .flush] := by
  unfold commitD
  rw [if_neg (by simp [hg.bad]), if_neg (by rw [may_one (by show (1 : Int) < ((bl.length - 33 : Nat) : Int); omega) hs]; exact fun h => h rfl), if_neg (by simp), calls_one]
theorem awake_four {bl : Frames} {s : List UInt8} (hg : DGood ⟨bl, [], 4⟩) (hb : 35 ≤ bl.length) (hs : s.length = 128) : ∃ x, commitD ⟨bl, [], 4⟩ [⟨1, s⟩] = (x, 17) ∧ x.left = 0 := by
  have hh : (headF [⟨1, s⟩]).length = 128 := headF_len (by show 1 ≤ 32; omega)
  rw [commit_one hg hb hs, runC_go (put_go (by decide) (by decide) (by omega) hs), runC_go (put_go (by decide) (by decide) (by omega) hh), runC_go (flush_go (by decide)), runC_go (put_go (by decide) (by decide) (by rw [flushB_len]; omega) hs)]
  exact ⟨_, runC_no flush_no (by decide), rfl⟩
theorem awake_five {bl : Frames} {s : List UInt8} (hg : DGood ⟨bl, [], 5⟩) (hb : bl.length = 35) (hs : s.length = 128) : ∃ x, commitD ⟨bl, [], 5⟩ [⟨1, s⟩] = (x, 0) ∧ x.left = 0 ∧ (volB x).length = 2 ∧ (volB x).getD 1 [] = s ∧ DOk 0 x := by
  have hh : (headF [⟨1, s⟩]).length = 128 := headF_len (by show 1 ≤ 32; omega)
  rw [commit_one hg (by omega) hs, runC_go (put_go (by decide) (by decide) (by omega) hs), runC_go (put_go (by decide) (by decide) (by omega) hh), runC_go (flush_go (by decide)), runC_go (put_go (by decide) (by decide) (by rw [flushB_len]; omega) hs), runC_go (flush_go (by decide))]
  obtain ⟨g, hgd⟩ : ∃ g, g = flushB ([] ++ [⟨1, s⟩] ++ [⟨0, headF [⟨1, s⟩]⟩]) bl := ⟨_, rfl⟩
  have hgg : DGood ⟨g, [], 0⟩ := by
    rw [hgd]
    refine hg.flushed (ws := [⟨1, s⟩] ++ [⟨0, headF [⟨1, s⟩]⟩]) (fun w hw => ?_) 0
    simp only [List.cons_append,List.nil_append,List.mem_cons,List.not_mem_nil,or_false] at hw
    rcases hw with rfl | rfl
    · exact ⟨by show (0 : Int) ≤ 1; decide, by show (1 : Int) < bl.length; omega, hs⟩
    · exact ⟨by show (0 : Int) ≤ 0; decide, by show (0 : Int) < bl.length; omega, hh⟩
  have hgl : g.length = 35 := by rw [hgd, flushB_len]; exact hb
  rw [← hgd]
  have hgx : DGood ⟨flushB ([] ++ [⟨34, s⟩]) g, [], 0⟩ := hgg.flushed (ws := [⟨34, s⟩]) (fun w hw => by
    simp only [List.mem_cons,List.not_mem_nil,or_false] at hw
    subst hw
    exact ⟨by show (0 : Int) ≤ 34; decide, by show (34 : Int) < g.length; omega, hs⟩) 0
  have hxl : (flushB ([] ++ [⟨34, s⟩]) g).length = 35 := by rw [flushB_len, hgl]
  rw [show (5 - 1 - 1 - 1 - 1 - 1 : Int) = 0 from rfl]
  refine ⟨_, rfl, rfl, ?_, ?_, ⟨by show (flushB _ g).length ≤ _; omega, fun t ht => by rw [hgx.bl t ht]; omega, by show 0 ≤ 0; omega, fun w hw => (by cases hw), by show (-2 ^ 63 : Int) ≤ 0; decide, by show (0 : Int) < 2 ^ 63; decide⟩⟩
  · unfold volB
    rw [if_pos hgx.bad]
    simp only [volV,List.length_map,List.length_range]
    show (flushB _ g).length - 33 = 2
    omega
  · unfold volB
    rw [if_pos hgx.bad]
    have e : volV ⟨flushB ([] ++ [⟨34, s⟩]) g, [], 0⟩ = [gotF ⟨flushB ([] ++ [⟨34, s⟩]) g, [], 0⟩ 33, gotF ⟨flushB ([] ++ [⟨34, s⟩]) g, [], 0⟩ 34] := by
      unfold volV
      rw [show (flushB ([] ++ [⟨34, s⟩]) g).length - 33 = 2 by omega]; rfl
    rw [e]
    show gotF ⟨flushB ([] ++ [⟨34, s⟩]) g, [], 0⟩ 34 = s
    rw [got_flushed _ _ _ (by omega)]
    rfl
end Go.Proofs.YtcilmfhncjfdbaaDoor.V
end
section
/-
  WAL: a commit, by the program.
-/
set_option linter.unusedVariables false
set_option linter.unusedSimpArgs false
namespace Go.Proofs.YtcilmfhncjfdbaaDoor.V
open Go
set_option maxRecDepth 100000
set_option linter.defProp false in
def znHH := And.intro @jO <| And.intro @nls_mapB <| And.intro @nls_cls <| And.intro @nl_pd <| And.intro @nl_fn <| True.intro
set_option maxHeartbeats 8000000
theorem mr_put2 {σ : List (Nat × Nat)} {H : Heap} {A : List VV} {f g : FuncId} {a b : Nat} {u v : VV} (hA : nls A = true) (ha : H a = some (.row .cell u)) (hb : H b = some (.row .cell v)) (hu : nl u = true) (hv : nl v = true) (h1 : a ∉ σ.map (·.2)) (h2 : b ∉ σ.map (·.2)) :
    MR 0 σ H true (.agg (A ++ [.fn f [.ptr a [], .ptr b []], .fn g []])) (.agg (A ++ [.fn f [.pd .cell u, .pd .cell v], .fn g []])) :=
  .agg (mrl_app (MRL.data A hA) (.cons (.fn (.cons (.place rfl ha hu h1) (.cons (.place rfl hb hv h2) .nil))) (.cons (.fn .nil) .nil)))
theorem pcommit_spec (d : Dr) {N : Nat} (hd : DOk N d) (l : List Wr) (hf : LFit l) (hN : N < 2 ^ 30) : Spec Tryd.prog 16 [encDr d, encWrs l] (drV (commitD d l)) := by
  have hB := pbad_spec d (hd.fit (by omega))
  have hdf := hd.fit (show N < 2 ^ 36 by omega)
  have hK := pcopied_spec d hdf
  unfold commitD
  by_cases hb : badD d = 0
  case neg =>
    rw [if_pos hb]
    simp only [drV]
    refine spec_ok Tryd.func16 rfl rfl (by kernel_rfl) (k := 2) rfl (by decide) ?_
    repeat' (first|(with_reducible first|refine yrl (by constructor) ?_|refine jk (fun M hM=>?_)|(refine hM _ ?_;clear hM M)|refine xb3 (by decide) ?_|refine yqa (by assumption) ?_ ?_|refine yqb (by assumption) ?_ ?_)|((with_reducible refine je ?_)<;>(first|rfl|assumption|(simp only [znl,znHH];(first|done|fail))))|(with_reducible refine jf (by (simp only [↓reduceIte,zlk,Nat.reduceEqDiff,reduceCtorEq]);exact rfl) ?_)|((with_reducible first|refine jg (fun hc=>?_) (fun hc=>?_)|refine jh (fun hc=>?_) (fun hc=>?_))<;>(try simp (disch:=omega) only [zhb] at hc)<;>(try (exfalso;omega))<;>(try subst hc))|(with_reducible refine ji (by omega) ?_)|(simp (config := { maxSteps := 400000 }) only [↓jt,↓reduceIte,zvs,reduceCtorEq,Nat.reduceEqDiff,Nat.reduceAdd,Nat.reduceLeDiff,Nat.reduceMul,Int.reduceBNe,Int.reduceBEq,Int.reduceEq,Int.reduceNe,Int.reduceLT,Int.reduceLE,Int.reduceGT,Int.reduceGE,Int.reduceNeg,Int.reduceToNat,Nat.reduceLT,Nat.reduceSub,tab,Tryd.results16,List.toList_toArray])|(simp (disch:=omega) only [ziw]))
    all_goals first
      | (exfalso; omega)
      | (((try simp only [encDr,encWrs,List.map_nil]); simp only [zrds]; (repeat' (first | exact rd_nil | exact Rd.refl _ _ (by first|rfl|assumption|(simp only [znl,znHH];(first|done|fail))) | (refine And.intro ?_ ?_) | (refine rd_own (by (simp only [↓reduceIte,zlk,Nat.reduceEqDiff,reduceCtorEq]); exact rfl) ?_ ?_ ?_) | rfl | assumption | (simp only [znl,znHH];(first|done|fail)) | (simp; done) | (simp; omega)))); done)
      | trace_state
  rw [hb] at hB ⊢
  rw [if_neg (fun h => h rfl)]
  obtain ⟨c1, c2, c3⟩ := badD_ok hb
  have hlb := hf.len
  have hM : Spec Tryd.prog 29 [.int .i64 ((d.bl.length : Int) - 33), encWrs l] (.int .i64 (mayD ((d.bl.length - 33 : Nat) : Int) l)) := by
    have := pallowed_spec l hf (d.bl.length - 33) (by omega)
    rwa [show (((d.bl.length - 33 : Nat) : Int)) = (d.bl.length : Int) - 33 from by omega] at this ⊢
  by_cases hm : mayD ((d.bl.length - 33 : Nat) : Int) l = 0
  case neg =>
    rw [if_pos hm]
    simp only [drV]
    refine spec_ok Tryd.func16 rfl rfl (by kernel_rfl) (k := 2) rfl (by decide) ?_
    repeat' (first|(with_reducible first|refine yrl (by constructor) ?_|refine jk (fun M hM=>?_)|(refine hM _ ?_;clear hM M)|refine xb3 (by decide) ?_|refine yqa (by assumption) ?_ ?_|refine yqb (by assumption) ?_ ?_)|((with_reducible refine je ?_)<;>(first|rfl|assumption|(simp only [znl,znHH];(first|done|fail))))|(with_reducible refine jf (by (simp only [↓reduceIte,zlk,Nat.reduceEqDiff,reduceCtorEq]);exact rfl) ?_)|((with_reducible first|refine jg (fun hc=>?_) (fun hc=>?_)|refine jh (fun hc=>?_) (fun hc=>?_))<;>(try simp (disch:=omega) only [zhb] at hc)<;>(try (exfalso;omega))<;>(try subst hc))|(with_reducible refine ji (by omega) ?_)|(simp (config := { maxSteps := 400000 }) only [↓jt,↓reduceIte,zvs,reduceCtorEq,Nat.reduceEqDiff,Nat.reduceAdd,Nat.reduceLeDiff,Nat.reduceMul,Int.reduceBNe,Int.reduceBEq,Int.reduceEq,Int.reduceNe,Int.reduceLT,Int.reduceLE,Int.reduceGT,Int.reduceGE,Int.reduceNeg,Int.reduceToNat,Nat.reduceLT,Nat.reduceSub,tab,encDr,Tryd.results16,List.toList_toArray])|(simp (disch:=omega) only [ziw]))
    all_goals first
      | (exfalso; omega)
      | (((try simp only [encDr,encWrs,List.map_nil]); simp only [zrds]; (repeat' (first | exact rd_nil | exact Rd.refl _ _ (by first|rfl|assumption|(simp only [znl,znHH];(first|done|fail))) | (refine And.intro ?_ ?_) | (refine rd_own (by (simp only [↓reduceIte,zlk,Nat.reduceEqDiff,reduceCtorEq]); exact rfl) ?_ ?_ ?_) | rfl | assumption | (simp only [znl,znHH];(first|done|fail)) | (simp; done) | (simp; omega)))); done)
      | trace_state
  have hH := mayD_hd (by omega) hm
  have hW := hH.wok
  have hl32 := hH.len
  rw [hm] at hM ⊢
  rw [if_neg (fun h => h rfl)]
  by_cases he : l = []
  · rw [if_pos he]
    subst he
    simp only [drV]
    refine spec_ok Tryd.func16 rfl rfl (by kernel_rfl) (k := 2) rfl (by decide) ?_
    repeat' (first|(with_reducible first|refine yrl (by constructor) ?_|refine jk (fun M hM=>?_)|(refine hM _ ?_;clear hM M)|refine xb3 (by decide) ?_|refine yqa (by assumption) ?_ ?_|refine yqb (by assumption) ?_ ?_)|((with_reducible refine je ?_)<;>(first|rfl|assumption|(simp only [znl,znHH];(first|done|fail))))|(with_reducible refine jf (by (simp only [↓reduceIte,zlk,Nat.reduceEqDiff,reduceCtorEq]);exact rfl) ?_)|((with_reducible first|refine jg (fun hc=>?_) (fun hc=>?_)|refine jh (fun hc=>?_) (fun hc=>?_))<;>(try simp (disch:=omega) only [zhb] at hc)<;>(try (exfalso;omega))<;>(try subst hc))|(with_reducible refine ji (by omega) ?_)|(simp (config := { maxSteps := 400000 }) only [↓jt,↓reduceIte,zvs,reduceCtorEq,Nat.reduceEqDiff,Nat.reduceAdd,Nat.reduceLeDiff,Nat.reduceMul,Int.reduceBNe,Int.reduceBEq,Int.reduceEq,Int.reduceNe,Int.reduceLT,Int.reduceLE,Int.reduceGT,Int.reduceGE,Int.reduceNeg,Int.reduceToNat,Nat.reduceLT,Nat.reduceSub,tab,encDr,Tryd.results16,List.toList_toArray])|(simp (disch:=omega) only [ziw]))
    all_goals first
      | (exfalso; omega)
      | (((try simp only [encDr,encWrs,List.map_nil]); simp only [zrds]; (repeat' (first | exact rd_nil | exact Rd.refl _ _ (by first|rfl|assumption|(simp only [znl,znHH];(first|done|fail))) | (refine And.intro ?_ ?_) | (refine rd_own (by (simp only [↓reduceIte,zlk,Nat.reduceEqDiff,reduceCtorEq]); exact rfl) ?_ ?_ ?_) | rfl | assumption | (simp only [znl,znHH];(first|done|fail)) | (simp; done) | (simp; omega)))); done)
      | trace_state
  rw [if_neg he]
  have hll : 0 < l.length := List.length_pos_iff.2 he
  have hHd := phead_spec l hH
  have hhl := headF_len hl32
  have hHo := phomeward_spec l (by omega) fun w hw => by have := hH.wr w hw; omega
  obtain ⟨x, hx⟩ : ∃ x, x = runC d (callsC l) := ⟨_, rfl⟩
  have hDn := pdone_spec d hd (callsC l) (by simp only [callsC,List.length_append,ptP_len,homeC_len,List.length_cons,List.length_nil]; omega) fun c hc => by
    rcases List.mem_append.1 hc with hc | hc
    · exact ptP_R hW (Nat.le_refl _) c hc
    · rcases List.mem_append.1 hc with hc | hc
      · simp only [List.mem_cons,List.not_mem_nil,or_false] at hc
        rcases hc with rfl | rfl
        · exact ⟨by decide, by decide, by omega⟩
        · trivial
      · exact homeC_R hW c hc
  rw [← hx] at hDn ⊢
  obtain ⟨y, e⟩ := x
  simp only [drV] at hDn ⊢
  refine spec_ok Tryd.func16 rfl rfl (by kernel_rfl) (k := 2) rfl (by decide) ?_
  repeat' (first|(with_reducible first|refine yrl (by constructor) ?_|refine jk (fun M hM=>?_)|(refine hM _ ?_;clear hM M)|refine xb3 (by decide) ?_|refine yqa (by assumption) ?_ ?_|refine yqb (by assumption) ?_ ?_)|((with_reducible refine je ?_)<;>(first|rfl|assumption|(simp only [znl,znHH];(first|done|fail))))|(with_reducible refine jf (by (simp only [↓reduceIte,zlk,Nat.reduceEqDiff,reduceCtorEq]);exact rfl) ?_)|((with_reducible first|refine jg (fun hc=>?_) (fun hc=>?_)|refine jh (fun hc=>?_) (fun hc=>?_))<;>(try simp (disch:=omega) only [zhb] at hc)<;>(try (exfalso;omega))<;>(try subst hc))|(with_reducible refine ji (by omega) ?_)|(simp (config := { maxSteps := 400000 }) only [↓jt,↓reduceIte,zvs,reduceCtorEq,Nat.reduceEqDiff,Nat.reduceAdd,Nat.reduceLeDiff,Nat.reduceMul,Int.reduceBNe,Int.reduceBEq,Int.reduceEq,Int.reduceNe,Int.reduceLT,Int.reduceLE,Int.reduceGT,Int.reduceGE,Int.reduceNeg,Int.reduceToNat,Nat.reduceLT,Nat.reduceSub,tab,encDr,Tryd.results16,List.toList_toArray])|(simp (disch:=omega) only [ziw]))
  all_goals (try (exfalso; omega))
  refine ok_loop (fun k : Nat => ⟨slots [(1, encWrs l), (2, .ptr 0 []), (4, .ptr 1 []), (8, .sl (some (2, [], 0)) k), (33, encWrs l), (34, .int .i64 l.length), (35, .int .i64 k)], rows [(0, .row (.st [.cell, .cell, .cell]) (encDr d)), (1, .row (.st [.cell, .cell, .cell]) (.agg [.sl none 0, .sl none 0, .int .i64 0])), (2, .row (.arr k .cell) (.agg ((ptP l k).map encCl)))], 3⟩) (fun k => k ≤ l.length) (fun k => l.length - k) 0 ?_ (Nat.zero_le _) (fun k hk => ?_)
  · (refine yrn [(0, 0), (1, 1)] false ?_ ?_<;>(repeat' (first|(with_reducible first|exact ya1|exact ya2|exact ya3|refine jx rfl (by first|rfl|assumption|(simp only [znl,znHH];(first|done|fail)))|exact ya5|exact ya7|exact jy|exact jz|refine jA ?_|refine ya9 ?_ ?_ ?_|refine jC rfl (by first|rfl|assumption|(simp only [znl,znHH];(first|done|fail)))|refine MR.agg (MRL.cons ?_ ?_)|refine MR.fn ?_|refine MRL.cons ?_ ?_|exact MRL.nil|refine jE ?_ ?_|exact jF|exact jG|refine yb1 ?_ ?_|refine MB.row ?_|refine jI ?_ ?_|exact ya8|refine jJ rfl (by first|rfl|assumption|(simp only [znl,znHH];(first|done|fail)))|refine yb2 ?_|rfl)|(simp only [znl,znHH];(first|done|fail))|(simp only [↓reduceIte,zlk,Nat.reduceEqDiff,reduceCtorEq])|(with_reducible first|refine jJ ?_ ?_|refine ya5 ?_|refine ju ?_|refine jv ?_|refine jw ?_|refine jx ?_ (by first|rfl|assumption|(simp only [znl,znHH];(first|done|fail)))|refine jC ?_ (by first|rfl|assumption|(simp only [znl,znHH];(first|done|fail)))))))
    all_goals (first | rfl | trace_state)
  have hpl := ptP_len l k
  have hnc := nls_cls (ptP l k)
  by_cases hlt : k < l.length
  · repeat' (first|(with_reducible first|refine yrl (by constructor) ?_|refine jk (fun M hM=>?_)|(refine hM _ ?_;clear hM M)|refine xb3 (by decide) ?_|refine yqa (by assumption) ?_ ?_|refine yqb (by assumption) ?_ ?_)|((with_reducible refine je ?_)<;>(first|rfl|assumption|(simp only [znl,znHH];(first|done|fail))))|(with_reducible refine jf (by (simp only [↓reduceIte,zlk,Nat.reduceEqDiff,reduceCtorEq]);exact rfl) ?_)|((with_reducible first|refine jg (fun hc=>?_) (fun hc=>?_)|refine jh (fun hc=>?_) (fun hc=>?_))<;>(try simp (disch:=omega) only [zhb] at hc)<;>(try (exfalso;omega))<;>(try subst hc))|(with_reducible refine ji (by omega) ?_)|(simp (config := { maxSteps := 400000 }) only [↓jt,↓reduceIte,zvs,reduceCtorEq,Nat.reduceEqDiff,Nat.reduceAdd,Nat.reduceLeDiff,Nat.reduceMul,Int.reduceBNe,Int.reduceBEq,Int.reduceEq,Int.reduceNe,Int.reduceLT,Int.reduceLE,Int.reduceGT,Int.reduceGE,Int.reduceNeg,Int.reduceToNat,Nat.reduceLT,Nat.reduceSub,tab,hpl,encWr,Tryd.results16,List.toList_toArray])|(simp (disch:=omega) only [ziw]))
    all_goals (try (exfalso; omega))
    refine ja (ok_body Tryd.func30 rfl rfl (by kernel_rfl) (k := 2) (by rfl) (by decide) ?_)
    repeat' (first|(with_reducible first|refine yrl (by constructor) ?_|refine jk (fun M hM=>?_)|(refine hM _ ?_;clear hM M)|refine xb3 (by decide) ?_|refine yqa (by assumption) ?_ ?_|refine yqb (by assumption) ?_ ?_)|((with_reducible refine je ?_)<;>(first|rfl|assumption|(simp only [znl,znHH];(first|done|fail))))|(with_reducible refine jf (by (simp only [↓reduceIte,zlk,Nat.reduceEqDiff,reduceCtorEq]);exact rfl) ?_)|((with_reducible first|refine jg (fun hc=>?_) (fun hc=>?_)|refine jh (fun hc=>?_) (fun hc=>?_))<;>(try simp (disch:=omega) only [zhb] at hc)<;>(try (exfalso;omega))<;>(try subst hc))|(with_reducible refine ji (by omega) ?_)|(simp (config := { maxSteps := 400000 }) only [↓jt,↓reduceIte,zvs,reduceCtorEq,Nat.reduceEqDiff,Nat.reduceAdd,Nat.reduceLeDiff,Nat.reduceMul,Int.reduceBNe,Int.reduceBEq,Int.reduceEq,Int.reduceNe,Int.reduceLT,Int.reduceLE,Int.reduceGT,Int.reduceGE,Int.reduceNeg,Int.reduceToNat,Nat.reduceLT,Nat.reduceSub,tab,hpl,Tryd.results30,Tryd.results16,List.toList_toArray])|(simp (disch:=omega) only [ziw]))
    all_goals (try (exfalso; omega))
    have hs := ptP_succ l k
    refine xl1 (k + 1) ?_ (by show k + 1 ≤ l.length; omega) (by show l.length - (k + 1) < l.length - k; omega)
    refine yrn [(0, 0), (1, 1), (2, 7)] true ?_ ?_
    · (repeat' (first|(with_reducible first|exact ya1|exact ya2|exact ya3|refine jx rfl (by first|rfl|assumption|(simp only [znl,znHH];(first|done|fail)))|exact ya5|exact ya7|exact jy|exact jz|refine jA ?_|refine ya9 ?_ ?_ ?_|refine jC rfl (by first|rfl|assumption|(simp only [znl,znHH];(first|done|fail)))|refine MR.agg (MRL.cons ?_ ?_)|refine MR.fn ?_|refine MRL.cons ?_ ?_|exact MRL.nil|refine jE ?_ ?_|exact jF|exact jG|refine yb1 ?_ ?_|refine MB.row ?_|refine jI ?_ ?_|exact ya8|refine jJ rfl (by first|rfl|assumption|(simp only [znl,znHH];(first|done|fail)))|refine yb2 ?_|rfl)|(simp only [znl,znHH];(first|done|fail))|(simp only [↓reduceIte,zlk,Nat.reduceEqDiff,reduceCtorEq])|(with_reducible first|refine jJ ?_ ?_|refine ya5 ?_|refine ju ?_|refine jv ?_|refine jw ?_|refine jx ?_ (by first|rfl|assumption|(simp only [znl,znHH];(first|done|fail)))|refine jC ?_ (by first|rfl|assumption|(simp only [znl,znHH];(first|done|fail))))))
      all_goals (first | rfl | trace_state)
    · refine yb1 ?_ (yb1 ?_ (yb1 (jI ?_ ?_) jG))
      · (repeat' (first|(with_reducible first|exact ya1|exact ya2|exact ya3|refine jx rfl (by first|rfl|assumption|(simp only [znl,znHH];(first|done|fail)))|exact ya5|exact ya7|exact jy|exact jz|refine jA ?_|refine ya9 ?_ ?_ ?_|refine jC rfl (by first|rfl|assumption|(simp only [znl,znHH];(first|done|fail)))|refine MR.agg (MRL.cons ?_ ?_)|refine MR.fn ?_|refine MRL.cons ?_ ?_|exact MRL.nil|refine jE ?_ ?_|exact jF|exact jG|refine yb1 ?_ ?_|refine MB.row ?_|refine jI ?_ ?_|exact ya8|refine jJ rfl (by first|rfl|assumption|(simp only [znl,znHH];(first|done|fail)))|refine yb2 ?_|rfl)|(simp only [znl,znHH];(first|done|fail))|(simp only [↓reduceIte,zlk,Nat.reduceEqDiff,reduceCtorEq])|(with_reducible first|refine jJ ?_ ?_|refine ya5 ?_|refine ju ?_|refine jv ?_|refine jw ?_|refine jx ?_ (by first|rfl|assumption|(simp only [znl,znHH];(first|done|fail)))|refine jC ?_ (by first|rfl|assumption|(simp only [znl,znHH];(first|done|fail))))))
        all_goals (first | rfl | trace_state)
      · (repeat' (first|(with_reducible first|exact ya1|exact ya2|exact ya3|refine jx rfl (by first|rfl|assumption|(simp only [znl,znHH];(first|done|fail)))|exact ya5|exact ya7|exact jy|exact jz|refine jA ?_|refine ya9 ?_ ?_ ?_|refine jC rfl (by first|rfl|assumption|(simp only [znl,znHH];(first|done|fail)))|refine MR.agg (MRL.cons ?_ ?_)|refine MR.fn ?_|refine MRL.cons ?_ ?_|exact MRL.nil|refine jE ?_ ?_|exact jF|exact jG|refine yb1 ?_ ?_|refine MB.row ?_|refine jI ?_ ?_|exact ya8|refine jJ rfl (by first|rfl|assumption|(simp only [znl,znHH];(first|done|fail)))|refine yb2 ?_|rfl)|(simp only [znl,znHH];(first|done|fail))|(simp only [↓reduceIte,zlk,Nat.reduceEqDiff,reduceCtorEq])|(with_reducible first|refine jJ ?_ ?_|refine ya5 ?_|refine ju ?_|refine jv ?_|refine jw ?_|refine jx ?_ (by first|rfl|assumption|(simp only [znl,znHH];(first|done|fail)))|refine jC ?_ (by first|rfl|assumption|(simp only [znl,znHH];(first|done|fail))))))
        all_goals (first | rfl | trace_state)
      · rfl
      · rw [hs]
        exact mr_put hnc (by simp only [↓reduceIte,zlk,Nat.reduceEqDiff,reduceCtorEq]) (by simp only [↓reduceIte,zlk,Nat.reduceEqDiff,reduceCtorEq]) rfl rfl (by decide) (by decide)
  obtain rfl : k = l.length := by omega
  repeat' (first|(with_reducible first|refine yrl (by constructor) ?_|refine jk (fun M hM=>?_)|(refine hM _ ?_;clear hM M)|refine xb3 (by decide) ?_|refine yqa (by assumption) ?_ ?_|refine yqb (by assumption) ?_ ?_)|((with_reducible refine je ?_)<;>(first|rfl|assumption|(simp only [znl,znHH];(first|done|fail))))|(with_reducible refine jf (by (simp only [↓reduceIte,zlk,Nat.reduceEqDiff,reduceCtorEq]);exact rfl) ?_)|((with_reducible first|refine jg (fun hc=>?_) (fun hc=>?_)|refine jh (fun hc=>?_) (fun hc=>?_))<;>(try simp (disch:=omega) only [zhb] at hc)<;>(try (exfalso;omega))<;>(try subst hc))|(with_reducible refine ji (by omega) ?_)|(simp (config := { maxSteps := 400000 }) only [↓jt,↓reduceIte,zvs,reduceCtorEq,Nat.reduceEqDiff,Nat.reduceAdd,Nat.reduceLeDiff,Nat.reduceMul,Int.reduceBNe,Int.reduceBEq,Int.reduceEq,Int.reduceNe,Int.reduceLT,Int.reduceLE,Int.reduceGT,Int.reduceGE,Int.reduceNeg,Int.reduceToNat,Nat.reduceLT,Nat.reduceSub,tab,hpl,Tryd.results16,List.toList_toArray])|(simp (disch:=omega) only [ziw]))
  all_goals (try (exfalso; omega))
  refine ja (ok_body Tryd.func30 rfl rfl (by kernel_rfl) (k := 2) (by rfl) (by decide) ?_)
  repeat' ((fail_if_success (with_reducible refine ok_stop 17 ?_));first|(with_reducible first|refine yrl (by constructor) ?_|refine jk (fun M hM=>?_)|(refine hM _ ?_;clear hM M)|refine xb3 (by decide) ?_|refine yqa (by assumption) ?_ ?_|refine yqb (by assumption) ?_ ?_)|((with_reducible refine je ?_)<;>(first|rfl|assumption|(simp only [znl,znHH];(first|done|fail))))|(with_reducible refine jf (by (simp only [↓reduceIte,zlk,Nat.reduceEqDiff,reduceCtorEq]);exact rfl) ?_)|((with_reducible first|refine jg (fun hc=>?_) (fun hc=>?_)|refine jh (fun hc=>?_) (fun hc=>?_))<;>(try simp (disch:=omega) only [zhb] at hc)<;>(try (exfalso;omega))<;>(try subst hc))|(with_reducible refine ji (by omega) ?_)|(simp (config := { maxSteps := 400000 }) only [↓jt,↓reduceIte,zvs,reduceCtorEq,Nat.reduceEqDiff,Nat.reduceAdd,Nat.reduceLeDiff,Nat.reduceMul,Int.reduceBNe,Int.reduceBEq,Int.reduceEq,Int.reduceNe,Int.reduceLT,Int.reduceLE,Int.reduceGT,Int.reduceGE,Int.reduceNeg,Int.reduceToNat,Nat.reduceLT,Nat.reduceSub,tab,hpl,Tryd.results30,Tryd.results16,List.toList_toArray])|(simp (disch:=omega) only [ziw]))
  all_goals (try (exfalso; omega))
  have hcl1 : (ptP l l.length).map encCl ++ [.fn 50 [.pd .cell (.int .i64 0), .pd .cell (.str (headF l))], .fn 32 []] ++ (homeC l).map encCl = (callsC l).map encCl := by simp only [callsC,List.map_append,List.map_cons,List.map_nil,encCl,List.append_assoc]
  have hhc := nls_cls (homeC l)
  have hcc := nls_cls (callsC l)
  have hhn := homeC_len l
  have hcn : (callsC l).length = l.length + 2 + (l.length + 1) := by simp only [callsC,List.length_append,ptP_len,homeC_len,List.length_cons,List.length_nil]; omega
  refine ok_ren (T := ⟨slots [(1, encWrs l), (2, .ptr 0 []), (4, .ptr 1 []), (8, .sl (some (2, [], 0)) (l.length + 2))], rows [(0, .row (.st [.cell, .cell, .cell]) (encDr d)), (1, .row (.st [.cell, .cell, .cell]) (.agg [.sl none 0, .sl none 0, .int .i64 0])), (2, .row (.arr (l.length + 2) .cell) (.agg ((ptP l l.length).map encCl ++ [.fn 50 [.pd .cell (.int .i64 0), .pd .cell (.str (headF l))], .fn 32 []])))], 3⟩) ?_ ?_
  · refine yrn [(0, 0), (1, 1), (2, 6)] true ?_ ?_
    · (repeat' (first|(with_reducible first|exact ya1|exact ya2|exact ya3|refine jx rfl (by first|rfl|assumption|(simp only [znl,znHH];(first|done|fail)))|exact ya5|exact ya7|exact jy|exact jz|refine jA ?_|refine ya9 ?_ ?_ ?_|refine jC rfl (by first|rfl|assumption|(simp only [znl,znHH];(first|done|fail)))|refine MR.agg (MRL.cons ?_ ?_)|refine MR.fn ?_|refine MRL.cons ?_ ?_|exact MRL.nil|refine jE ?_ ?_|exact jF|exact jG|refine yb1 ?_ ?_|refine MB.row ?_|refine jI ?_ ?_|exact ya8|refine jJ rfl (by first|rfl|assumption|(simp only [znl,znHH];(first|done|fail)))|refine yb2 ?_|rfl)|(simp only [znl,znHH];(first|done|fail))|(simp only [↓reduceIte,zlk,Nat.reduceEqDiff,reduceCtorEq])|(with_reducible first|refine jJ ?_ ?_|refine ya5 ?_|refine ju ?_|refine jv ?_|refine jw ?_|refine jx ?_ (by first|rfl|assumption|(simp only [znl,znHH];(first|done|fail)))|refine jC ?_ (by first|rfl|assumption|(simp only [znl,znHH];(first|done|fail))))))
      all_goals (first | rfl | trace_state)
    · refine yb1 ?_ (yb1 ?_ (yb1 (jI ?_ ?_) jG))
      · (repeat' (first|(with_reducible first|exact ya1|exact ya2|exact ya3|refine jx rfl (by first|rfl|assumption|(simp only [znl,znHH];(first|done|fail)))|exact ya5|exact ya7|exact jy|exact jz|refine jA ?_|refine ya9 ?_ ?_ ?_|refine jC rfl (by first|rfl|assumption|(simp only [znl,znHH];(first|done|fail)))|refine MR.agg (MRL.cons ?_ ?_)|refine MR.fn ?_|refine MRL.cons ?_ ?_|exact MRL.nil|refine jE ?_ ?_|exact jF|exact jG|refine yb1 ?_ ?_|refine MB.row ?_|refine jI ?_ ?_|exact ya8|refine jJ rfl (by first|rfl|assumption|(simp only [znl,znHH];(first|done|fail)))|refine yb2 ?_|rfl)|(simp only [znl,znHH];(first|done|fail))|(simp only [↓reduceIte,zlk,Nat.reduceEqDiff,reduceCtorEq])|(with_reducible first|refine jJ ?_ ?_|refine ya5 ?_|refine ju ?_|refine jv ?_|refine jw ?_|refine jx ?_ (by first|rfl|assumption|(simp only [znl,znHH];(first|done|fail)))|refine jC ?_ (by first|rfl|assumption|(simp only [znl,znHH];(first|done|fail))))))
        all_goals (first | rfl | trace_state)
      · (repeat' (first|(with_reducible first|exact ya1|exact ya2|exact ya3|refine jx rfl (by first|rfl|assumption|(simp only [znl,znHH];(first|done|fail)))|exact ya5|exact ya7|exact jy|exact jz|refine jA ?_|refine ya9 ?_ ?_ ?_|refine jC rfl (by first|rfl|assumption|(simp only [znl,znHH];(first|done|fail)))|refine MR.agg (MRL.cons ?_ ?_)|refine MR.fn ?_|refine MRL.cons ?_ ?_|exact MRL.nil|refine jE ?_ ?_|exact jF|exact jG|refine yb1 ?_ ?_|refine MB.row ?_|refine jI ?_ ?_|exact ya8|refine jJ rfl (by first|rfl|assumption|(simp only [znl,znHH];(first|done|fail)))|refine yb2 ?_|rfl)|(simp only [znl,znHH];(first|done|fail))|(simp only [↓reduceIte,zlk,Nat.reduceEqDiff,reduceCtorEq])|(with_reducible first|refine jJ ?_ ?_|refine ya5 ?_|refine ju ?_|refine jv ?_|refine jw ?_|refine jx ?_ (by first|rfl|assumption|(simp only [znl,znHH];(first|done|fail)))|refine jC ?_ (by first|rfl|assumption|(simp only [znl,znHH];(first|done|fail))))))
        all_goals (first | rfl | trace_state)
      · rfl
      · exact mr_put2 hnc (by simp only [↓reduceIte,zlk,Nat.reduceEqDiff,reduceCtorEq]) (by simp only [↓reduceIte,zlk,Nat.reduceEqDiff,reduceCtorEq]) rfl rfl (by decide) (by decide)
  refine ok_any (by kernel_rfl) (fun M hM => ?_)
  repeat' (first|(exact any_nil)|(refine any_step [5] (by decide +kernel) (by decide) (any_one rfl (⟨slots [(4, .ptr 1 []), (55, encDr d), (59, .dat .cell ((callsC l).map encCl))], rows [(0, .row (.st [.cell, .cell, .cell]) (encDr d)), (1, .row (.st [.cell, .cell, .cell]) (.agg (.sl none 0 :: .sl none 0 :: .int .i64 0 :: .nil)))], 2⟩) ?_ ?_ any_nil))|(refine any_step [0] (by decide +kernel) (by decide) ?_)|(refine any_step [0, 1] (by decide +kernel) (by decide) ?_)|(refine any_step [0, 1, 2] (by decide +kernel) (by decide) ?_)|(refine any_step [0, 1, 3] (by decide +kernel) (by decide) ?_)|(refine any_step [0, 2] (by decide +kernel) (by decide) ?_)|(refine any_step [0, 3] (by decide +kernel) (by decide) ?_)|(refine any_step [0, 4] (by decide +kernel) (by decide) ?_)|(refine any_step [1] (by decide +kernel) (by decide) ?_)|(refine any_step [1, 2] (by decide +kernel) (by decide) ?_)|(refine any_step [1, 3] (by decide +kernel) (by decide) ?_)|(refine any_step [2] (by decide +kernel) (by decide) ?_)|(refine any_step [3] (by decide +kernel) (by decide) ?_)|(refine any_step [4] (by decide +kernel) (by decide) ?_)|(refine any_step [6] (by decide +kernel) (by decide) ?_)|(refine any_step [6, 7] (by decide +kernel) (by decide) ?_)|(refine any_step [7] (by decide +kernel) (by decide) ?_)|(refine any_step [8] (by decide +kernel) (by decide) ?_)|(refine any_step [9] (by decide +kernel) (by decide) ?_)|(refine any_same rfl ?_ ?_)|(refine any_end (by decide +kernel) ?_)|(with_reducible first|refine yrl (by constructor) ?_|refine jk (fun M hM=>?_)|(refine hM _ ?_;clear hM M)|refine xb3 (by decide) ?_|refine yqa (by assumption) ?_ ?_|refine yqb (by assumption) ?_ ?_)|((with_reducible refine je ?_)<;>(first|rfl|assumption|(simp only [znl,znHH];(first|done|fail))))|(with_reducible refine jf (by (simp only [↓reduceIte,zlk,Nat.reduceEqDiff,reduceCtorEq]);exact rfl) ?_)|((with_reducible first|refine jg (fun hc=>?_) (fun hc=>?_)|refine jh (fun hc=>?_) (fun hc=>?_))<;>(try simp (disch:=omega) only [zhb] at hc)<;>(try (exfalso;omega))<;>(try subst hc))|(with_reducible refine ji (by omega) ?_)|(simp (config := { maxSteps := 400000 }) only [↓jt,↓reduceIte,zvs,reduceCtorEq,Nat.reduceEqDiff,Nat.reduceAdd,Nat.reduceLeDiff,Nat.reduceMul,Int.reduceBNe,Int.reduceBEq,Int.reduceEq,Int.reduceNe,Int.reduceLT,Int.reduceLE,Int.reduceGT,Int.reduceGE,Int.reduceNeg,Int.reduceToNat,Nat.reduceLT,Nat.reduceSub,tab,hpl,hcl1,Tryd.results16,List.toList_toArray])|(simp (disch:=omega) only [ziw]))
  all_goals first
    | ((refine yrn [(0, 0), (1, 1)] true ?_ ?_<;>(repeat' (first|(with_reducible first|exact ya1|exact ya2|exact ya3|refine jx rfl (by first|rfl|assumption|(simp only [znl,znHH];(first|done|fail)))|exact ya5|exact ya7|exact jy|exact jz|refine jA ?_|refine ya9 ?_ ?_ ?_|refine jC rfl (by first|rfl|assumption|(simp only [znl,znHH];(first|done|fail)))|refine MR.agg (MRL.cons ?_ ?_)|refine MR.fn ?_|refine MRL.cons ?_ ?_|exact MRL.nil|refine jE ?_ ?_|exact jF|exact jG|refine yb1 ?_ ?_|refine MB.row ?_|refine jI ?_ ?_|exact ya8|refine jJ rfl (by first|rfl|assumption|(simp only [znl,znHH];(first|done|fail)))|refine yb2 ?_|rfl)|(simp only [znl,znHH];(first|done|fail))|(simp only [↓reduceIte,zlk,Nat.reduceEqDiff,reduceCtorEq])|(with_reducible first|refine jJ ?_ ?_|refine ya5 ?_|refine ju ?_|refine jv ?_|refine jw ?_|refine jx ?_ (by first|rfl|assumption|(simp only [znl,znHH];(first|done|fail)))|refine jC ?_ (by first|rfl|assumption|(simp only [znl,znHH];(first|done|fail))))))); all_goals (first | rfl | (rw [List.length_map]; omega) | trace_state); done)
    | (((try simp only [encDr,encWrs,List.map_nil]); simp only [zrds]; (repeat' (first | exact rd_nil | exact Rd.refl _ _ (by first|rfl|assumption|(simp only [znl,znHH];(first|done|fail))) | (refine And.intro ?_ ?_) | (refine rd_own (by (simp only [↓reduceIte,zlk,Nat.reduceEqDiff,reduceCtorEq]); exact rfl) ?_ ?_ ?_) | rfl | assumption | (simp only [znl,znHH];(first|done|fail)) | (simp; done) | (simp; omega)))); done)
    | trace_state
end Go.Proofs.YtcilmfhncjfdbaaDoor.V
end
section
/-
  WAL: the document's example.
-/
set_option linter.unusedVariables false
set_option linter.unusedSimpArgs false
namespace Go.Proofs.YtcilmfhncjfdbaaDoor.V
open Go
set_option maxRecDepth 100000
set_option linter.defProp false in
def znHR := And.intro @jO <| And.intro @nls_mapB <| And.intro @nls_frames <| True.intro
set_option maxHeartbeats 4000000
set_option linter.defProp false in
def zbdW := And.intro @vBuildSliceD.eq_1 <| True.intro
theorem awake_spec : Spec Tryd.prog 8 [] (.bool true) := by
  have hV : Spec Tryd.prog 24 [.int .i64 2] (encStrs (volN 2)) := volume_spec 2 (by omega)
  obtain ⟨v, hv⟩ : ∃ v, v = volN 2 := ⟨_, rfl⟩
  rw [← hv] at hV
  have hvl : v.length = 2 := by rw [hv]; rfl
  have hv8 : ∀ s ∈ v, s.length = 128 := by rw [hv]; decide
  have hF := pformat_spec v ⟨by omega, fun s hs => by have := hv8 s hs; omega⟩
  obtain ⟨b, hb⟩ : ∃ b, b = List.replicate 33 zeros ++ v := ⟨_, rfl⟩
  have hf0 : (formatD v).2 = 0 := by
    unfold formatD
    rw [if_neg (by omega), if_neg (by simp only [List.any_eq_true,not128,decide_eq_true_eq,not_exists,not_and,Decidable.not_not]; exact hv8)]
  obtain ⟨e1, q1, l1⟩ := format_ok hf0
  obtain ⟨y, hy⟩ : ∃ y, y = formatD v := ⟨_, rfl⟩
  rw [← hy] at hF hf0 e1 q1 l1
  obtain ⟨y1, y2⟩ := y
  dsimp only at hf0 e1 q1 l1
  subst hf0
  rw [← hb] at e1
  subst e1
  dsimp only at l1
  rw [hvl] at l1
  have hbl : b.length = 35 := l1
  obtain ⟨s, hs⟩ : ∃ s, s = v.getD 0 [] := ⟨_, rfl⟩
  have hs8 : s.length = 128 := by rw [hs]; exact hv8 _ (getD_mem' (α := List UInt8) (by omega : 0 < v.length))
  have g4 : DGood ⟨b, [], 4⟩ := ⟨by show 33 < b.length; omega, by show b.length ≤ 256; omega, q1.good.bl, fun w hw => by cases hw⟩
  have g5 : DGood ⟨b, [], 5⟩ := ⟨by show 33 < b.length; omega, by show b.length ≤ 256; omega, q1.good.bl, fun w hw => by cases hw⟩
  have k4 : DOk 0 ⟨b, [], 4⟩ := ⟨by show b.length ≤ _; omega, fun t ht => by rw [g4.bl t ht]; omega, by show 0 ≤ 0; omega, fun w hw => (by cases hw), by show (-2 ^ 63 : Int) ≤ 4; decide, by show (4 : Int) < 2 ^ 63; decide⟩
  have k5 : DOk 0 ⟨b, [], 5⟩ := ⟨by show b.length ≤ _; omega, fun t ht => by rw [g4.bl t ht]; omega, by show 0 ≤ 0; omega, fun w hw => (by cases hw), by show (-2 ^ 63 : Int) ≤ 5; decide, by show (5 : Int) < 2 ^ 63; decide⟩
  obtain ⟨x4, c4, f4⟩ := awake_four g4 (by omega) hs8
  obtain ⟨x5, c5, f5, n5, h5, o5⟩ := awake_five g5 hbl hs8
  have hl : LFit [⟨1, s⟩] := ⟨by show 1 < _; decide, fun w hw => by (simp only [List.mem_cons,List.not_mem_nil,or_false] at hw; subst hw; exact ⟨by show (-2 ^ 63 : Int) ≤ 1; decide, by show (1 : Int) < 2 ^ 63; decide⟩), fun w hw => by (simp only [List.mem_cons,List.not_mem_nil,or_false] at hw; subst hw; show s.length ≤ _; omega)⟩
  have hC4 : Spec Tryd.prog 16 [.agg [encStrs b, encWrs [], .int .i64 4], .dat (.st [.cell, .cell]) [.agg [.int .i64 1, .str s]]] (drV (commitD ⟨b, [], 4⟩ [⟨1, s⟩])) := pcommit_spec ⟨b, [], 4⟩ k4 [⟨1, s⟩] hl (by omega)
  have hC5 : Spec Tryd.prog 16 [.agg [encStrs b, encWrs [], .int .i64 5], .dat (.st [.cell, .cell]) [.agg [.int .i64 1, .str s]]] (drV (commitD ⟨b, [], 5⟩ [⟨1, s⟩])) := pcommit_spec ⟨b, [], 5⟩ k5 [⟨1, s⟩] hl (by omega)
  have hH := phomeV_spec x5 o5 (by omega)
  rw [c4] at hC4
  rw [c5] at hC5
  obtain ⟨h, hh⟩ : ∃ h, h = volB x5 := ⟨_, rfl⟩
  rw [← hh] at hH n5 h5
  clear hv hy g4 g5 k4 k5 q1 hb hh c4 c5
  simp only [drV] at hF hC4 hC5
  obtain ⟨a4, p4, n4⟩ := x4
  obtain ⟨a5, p5, n5'⟩ := x5
  dsimp only at f4 f5 hC4 hC5 hH
  subst f4
  subst f5
  have hg0 : (v.map VV.str)[0]? = some (.str s) := by rw [hs]; simp [hvl]
  have hg1 : (h.map VV.str)[1]? = some (.str s) := by rw [← h5]; simp [n5]
  refine spec_ok Tryd.func8 rfl rfl (by kernel_rfl) (k := 0) rfl (by decide) ?_
  repeat' (first|(with_reducible first|refine yrl (by constructor) ?_|refine jk (fun M hM=>?_)|(refine hM _ ?_;clear hM M)|refine xb3 (by decide) ?_|refine yqa (by assumption) ?_ ?_|refine yqb (by assumption) ?_ ?_)|((with_reducible refine je ?_)<;>(first|rfl|assumption|(simp only [znl,znHR];(first|done|fail))))|(with_reducible refine jf (by (simp only [↓reduceIte,zlk,Nat.reduceEqDiff,reduceCtorEq]);exact rfl) ?_)|((with_reducible first|refine jg (fun hc=>?_) (fun hc=>?_)|refine jh (fun hc=>?_) (fun hc=>?_))<;>(try simp (disch:=omega) only [zhb] at hc)<;>(try (exfalso;omega))<;>(try subst hc))|(with_reducible refine ji (by omega) ?_)|(simp (config := { maxSteps := 400000 }) only [↓jt,↓reduceIte,zvs,reduceCtorEq,Nat.reduceEqDiff,Nat.reduceAdd,Nat.reduceLeDiff,Nat.reduceMul,Int.reduceBNe,Int.reduceBEq,Int.reduceEq,Int.reduceNe,Int.reduceLT,Int.reduceLE,Int.reduceGT,Int.reduceGE,Int.reduceNeg,Int.reduceToNat,Nat.reduceLT,Nat.reduceSub,tab,encDr,hg0,Tryd.results8,List.toList_toArray])|(simp (disch:=omega) only [ziw]))
  refine ok_drawF 12 [0, 1, 2, 3, 4, 5, 6, 7, 8, 9, 10] 11 10 641 (by kernel_rfl) (by decide +kernel) (by decide) (by decide) (by intro m hm; simp only [upd_ap,rows_cons,rows_nil]; (repeat (first | rfl | rw [if_neg (by omega)]))) (fun M hM => ?_); simp only [picks,List.getElem?_cons_succ,List.getElem?_cons_zero,List.drop_succ_cons,List.drop_zero]
  repeat' (first|(with_reducible refine bldH_r ?_)|(with_reducible first|refine yrl (by constructor) ?_|refine jk (fun M hM=>?_)|(refine hM _ ?_;clear hM M)|refine xb3 (by decide) ?_|refine yqa (by assumption) ?_ ?_|refine yqb (by assumption) ?_ ?_)|((with_reducible refine je ?_)<;>(first|rfl|assumption|(simp only [znl,znHR];(first|done|fail))))|(with_reducible refine jf (by (simp only [↓reduceIte,zlk,Nat.reduceEqDiff,reduceCtorEq]);exact rfl) ?_)|((with_reducible first|refine jg (fun hc=>?_) (fun hc=>?_)|refine jh (fun hc=>?_) (fun hc=>?_))<;>(try simp (disch:=omega) only [zhb] at hc)<;>(try (exfalso;omega))<;>(try subst hc))|(with_reducible refine ji (by omega) ?_)|(simp (config := { maxSteps := 400000 }) only [↓jt,↓reduceIte,zvs,reduceCtorEq,Nat.reduceEqDiff,Nat.reduceAdd,Nat.reduceLeDiff,Nat.reduceMul,Int.reduceBNe,Int.reduceBEq,Int.reduceEq,Int.reduceNe,Int.reduceLT,Int.reduceLE,Int.reduceGT,Int.reduceGE,Int.reduceNeg,Int.reduceToNat,Nat.reduceLT,Nat.reduceSub,zbdW,tab,hg0,Tryd.results8,List.toList_toArray])|(simp (disch:=omega) only [ziw]))
  repeat' (first|(with_reducible first|refine yrl (by constructor) ?_|refine jk (fun M hM=>?_)|(refine hM _ ?_;clear hM M)|refine xb3 (by decide) ?_|refine yqa (by assumption) ?_ ?_|refine yqb (by assumption) ?_ ?_)|((with_reducible refine je ?_)<;>(first|rfl|assumption|(simp only [znl,znHR];(first|done|fail))))|(with_reducible refine jf (by (simp only [↓reduceIte,zlk,Nat.reduceEqDiff,reduceCtorEq]);exact rfl) ?_)|((with_reducible first|refine jg (fun hc=>?_) (fun hc=>?_)|refine jh (fun hc=>?_) (fun hc=>?_))<;>(try simp (disch:=omega) only [zhb] at hc)<;>(try (exfalso;omega))<;>(try subst hc))|(with_reducible refine ji (by omega) ?_)|(simp (config := { maxSteps := 400000 }) only [↓jt,↓reduceIte,zvs,reduceCtorEq,Nat.reduceEqDiff,Nat.reduceAdd,Nat.reduceLeDiff,Nat.reduceMul,Int.reduceBNe,Int.reduceBEq,Int.reduceEq,Int.reduceNe,Int.reduceLT,Int.reduceLE,Int.reduceGT,Int.reduceGE,Int.reduceNeg,Int.reduceToNat,Nat.reduceLT,Nat.reduceSub,tab,storeAt_go,isP_ptr,setParts,rep_one,hg0,Tryd.results8,List.toList_toArray])|(simp (disch:=omega) only [ziw]))
  refine ok_drawF 12 [0, 1, 2, 3, 4, 5, 6, 7, 8, 9, 10] 11 10 1409 (by kernel_rfl) (by decide +kernel) (by decide) (by decide) (by intro m hm; simp only [upd_ap,rows_cons,rows_nil]; (repeat (first | rfl | rw [if_neg (by omega)]))) (fun M hM => ?_); simp only [picks,List.getElem?_cons_succ,List.getElem?_cons_zero,List.drop_succ_cons,List.drop_zero]
  repeat' (first|(with_reducible refine bldH_r ?_)|(with_reducible first|refine yrl (by constructor) ?_|refine jk (fun M hM=>?_)|(refine hM _ ?_;clear hM M)|refine xb3 (by decide) ?_|refine yqa (by assumption) ?_ ?_|refine yqb (by assumption) ?_ ?_)|((with_reducible refine je ?_)<;>(first|rfl|assumption|(simp only [znl,znHR];(first|done|fail))))|(with_reducible refine jf (by (simp only [↓reduceIte,zlk,Nat.reduceEqDiff,reduceCtorEq]);exact rfl) ?_)|((with_reducible first|refine jg (fun hc=>?_) (fun hc=>?_)|refine jh (fun hc=>?_) (fun hc=>?_))<;>(try simp (disch:=omega) only [zhb] at hc)<;>(try (exfalso;omega))<;>(try subst hc))|(with_reducible refine ji (by omega) ?_)|(simp (config := { maxSteps := 400000 }) only [↓jt,↓reduceIte,zvs,reduceCtorEq,Nat.reduceEqDiff,Nat.reduceAdd,Nat.reduceLeDiff,Nat.reduceMul,Int.reduceBNe,Int.reduceBEq,Int.reduceEq,Int.reduceNe,Int.reduceLT,Int.reduceLE,Int.reduceGT,Int.reduceGE,Int.reduceNeg,Int.reduceToNat,Nat.reduceLT,Nat.reduceSub,zbdW,tab,hg0,Tryd.results8,List.toList_toArray])|(simp (disch:=omega) only [ziw]))
  repeat' (first|(with_reducible first|refine yrl (by constructor) ?_|refine jk (fun M hM=>?_)|(refine hM _ ?_;clear hM M)|refine xb3 (by decide) ?_|refine yqa (by assumption) ?_ ?_|refine yqb (by assumption) ?_ ?_)|((with_reducible refine je ?_)<;>(first|rfl|assumption|(simp only [znl,znHR];(first|done|fail))))|(with_reducible refine jf (by (simp only [↓reduceIte,zlk,Nat.reduceEqDiff,reduceCtorEq]);exact rfl) ?_)|((with_reducible first|refine jg (fun hc=>?_) (fun hc=>?_)|refine jh (fun hc=>?_) (fun hc=>?_))<;>(try simp (disch:=omega) only [zhb] at hc)<;>(try (exfalso;omega))<;>(try subst hc))|(with_reducible refine ji (by omega) ?_)|(simp (config := { maxSteps := 400000 }) only [↓jt,↓reduceIte,zvs,reduceCtorEq,Nat.reduceEqDiff,Nat.reduceAdd,Nat.reduceLeDiff,Nat.reduceMul,Int.reduceBNe,Int.reduceBEq,Int.reduceEq,Int.reduceNe,Int.reduceLT,Int.reduceLE,Int.reduceGT,Int.reduceGE,Int.reduceNeg,Int.reduceToNat,Nat.reduceLT,Nat.reduceSub,tab,storeAt_go,isP_ptr,setParts,rep_one,hg0,Tryd.results8,List.toList_toArray])|(simp (disch:=omega) only [ziw]))
  refine ok_drawC 34 (by kernel_rfl) (by decide +kernel) (by intro m hm; simp only [upd_ap,rows_cons,rows_nil]; (repeat (first | rfl | rw [if_neg (by omega)]))) (fun M hM => ?_); simp only [List.take_succ_cons,List.take_zero,List.drop_succ_cons,List.drop_zero]
  repeat' (first|(with_reducible first|refine yrl (by constructor) ?_|refine jk (fun M hM=>?_)|(refine hM _ ?_;clear hM M)|refine xb3 (by decide) ?_|refine yqa (by assumption) ?_ ?_|refine yqb (by assumption) ?_ ?_)|((with_reducible refine je ?_)<;>(first|rfl|assumption|(simp only [znl,znHR];(first|done|fail))))|(with_reducible refine jf (by (simp only [↓reduceIte,zlk,Nat.reduceEqDiff,reduceCtorEq]);exact rfl) ?_)|((with_reducible first|refine jg (fun hc=>?_) (fun hc=>?_)|refine jh (fun hc=>?_) (fun hc=>?_))<;>(try simp (disch:=omega) only [zhb] at hc)<;>(try (exfalso;omega))<;>(try subst hc))|(with_reducible refine ji (by omega) ?_)|(simp (config := { maxSteps := 400000 }) only [↓jt,↓reduceIte,zvs,reduceCtorEq,Nat.reduceEqDiff,Nat.reduceAdd,Nat.reduceLeDiff,Nat.reduceMul,Int.reduceBNe,Int.reduceBEq,Int.reduceEq,Int.reduceNe,Int.reduceLT,Int.reduceLE,Int.reduceGT,Int.reduceGE,Int.reduceNeg,Int.reduceToNat,Nat.reduceLT,Nat.reduceSub,tab,hg0,hg1,n5,hvl,Tryd.results8,List.toList_toArray])|(simp (disch:=omega) only [ziw]))
  all_goals first
    | (simp only [zrds]; done)
    | trace_state
end Go.Proofs.YtcilmfhncjfdbaaDoor.V
end
section
/-
  WAL: a drive, writes, a volume as arguments.
-/
set_option linter.unusedVariables false
set_option linter.unusedSimpArgs false
namespace Go.Proofs.YtcilmfhncjfdbaaDoor.V
open Go
set_option maxRecDepth 100000
set_option maxHeartbeats 1000000
abbrev wrT : Ty := .fcons (.int .i64) (.fcons .str .fnil)
abbrev drT : Ty := .fcons (.sl .str) (.fcons (.sl wrT) (.fcons (.int .i64) .fnil))
def mkWr (x : Int × List UInt8 × Unit) : Wr := ⟨x.1, x.2.1⟩
def mkDr (x : List (List UInt8) × List (Int × List UInt8 × Unit) × Int × Unit) : Dr := ⟨x.1, x.2.1.map mkWr, x.2.2.1⟩
theorem toV_strsW (a : List (List UInt8)) : toV (.sl .str) a = encStrs a := by
  simp only [toV,tsh]
  congr 1
theorem toV_wrs (b : List (Int × List UInt8 × Unit)) : toV (.sl wrT) b = encWrs (b.map mkWr) := by
  have : toV (.sl wrT) b = .dat (.st [.cell, .cell]) (b.map (toV wrT)) := rfl
  rw [this]
  unfold encWrs
  rw [List.map_map]
  congr 1
theorem toV_dr (x : List (List UInt8) × List (Int × List UInt8 × Unit) × Int × Unit) : toV drT x = encDr (mkDr x) := by
  obtain ⟨a, b, c, u⟩ := x
  have e1 : toV drT (a, b, c, u) = .agg [toV (.sl .str) a, toV (.sl wrT) b, .int .i64 c] := rfl
  exact e1.trans (by rw [toV_strsW, toV_wrs]; rfl)
theorem reach47 : reachBytes ≤ 2 ^ 47 := by decide
structure VArg (v : Frames) : Prop where
  len : v.length ≤ 2 ^ 47
  s : ∀ s ∈ v, s.length ≤ 2 ^ 47
structure LArg (l : List Wr) : Prop where
  len : l.length ≤ 2 ^ 47
  b : ∀ w ∈ l, -2 ^ 63 ≤ w.b ∧ w.b < 2 ^ 63
  d : ∀ w ∈ l, w.d.length ≤ 2 ^ 47
theorem v_arg (x : List (List UInt8)) (l : Ty.lite (.sl .str) x) : VArg x := ⟨Nat.le_trans l.1 reach47, fun s hs => Nat.le_trans (l.2 s hs) reach47⟩
theorem l_arg (x : List (Int × List UInt8 × Unit)) (g : good (.sl wrT) x) (l : Ty.lite (.sl wrT) x) : LArg (x.map mkWr) := by
  refine ⟨by rw [List.length_map]; exact Nat.le_trans l.1 reach47, fun w hw => ?_, fun w hw => ?_⟩
  · obtain ⟨y, hy, rfl⟩ := List.mem_map.1 hw
    have h : -9223372036854775808 ≤ y.1 ∧ y.1 ≤ 9223372036854775807 := bounds_i64 (g y hy).1
    show -2 ^ 63 ≤ y.1 ∧ y.1 < 2 ^ 63
    omega
  · obtain ⟨y, hy, rfl⟩ := List.mem_map.1 hw
    exact Nat.le_trans (show y.2.1.length ≤ reachBytes from (l.2 y hy).2.1) reach47
structure DArg (d : Dr) : Prop where
  left : -2 ^ 63 ≤ d.left ∧ d.left < 2 ^ 63
  bl : VArg d.bl
  pe : LArg d.pe
theorem d_arg (x : List (List UInt8) × List (Int × List UInt8 × Unit) × Int × Unit) (g : good drT x) (l : Ty.lite drT x) : DArg (mkDr x) := by
  obtain ⟨a, b, c, u⟩ := x
  obtain ⟨g1, g2, g3, _⟩ := g
  obtain ⟨l1, l2, _⟩ := l
  refine ⟨?_, v_arg a l1, l_arg b g2 l2⟩
  have h : -9223372036854775808 ≤ c ∧ c ≤ 9223372036854775807 := bounds_i64 g3
  show -2 ^ 63 ≤ c ∧ c < 2 ^ 63
  omega
theorem DArg.great {d : Dr} (h : DArg d) : Spec Tryd.prog 14 [encDr d] (.int .i64 (if bigW d = true then 1 else 0)) := greatW_spec d ⟨h.bl.len, h.pe.len⟩ h.bl.s h.pe.d
theorem DArg.dok {d : Dr} (h : DArg d) (hb : bigW d = false) : DOk 60 d := by
  simp only [bigW,Bool.or_eq_false_iff,decide_eq_false_iff_not,List.any_eq_false,longB,longW,decide_eq_true_eq] at hb
  obtain ⟨⟨⟨h1, h2⟩, h3⟩, h4⟩ := hb
  exact ⟨by omega, fun s hs => by have := h3 s hs; omega, by omega, fun w hw => by have := h4 w hw; omega, h.left.1, h.left.2⟩
theorem LArg.fit {l : List Wr} (h : LArg l) (hb : bigL l = false) : LFit l := by
  simp only [bigL,Bool.or_eq_false_iff,decide_eq_false_iff_not] at hb
  exact ⟨by omega, h.b, h.d⟩
end Go.Proofs.YtcilmfhncjfdbaaDoor.V
end
