/-
  Parts of the proof of ProcGrows: TJ, TK.
  Conditions: none.
-/
import Derived.Test.YtpdhdkpebbfnnaaWProcGrows10
import Derived.Test.YtpdhdkpebbfnnaaWProcGrows09
set_option linter.unusedVariables false
set_option linter.unusedSimpArgs false
set_option linter.unusedSectionVars false
set_option linter.defProp false
section
namespace Go.Proofs.Ytpdhdkpebbfnnaa.V
open Go
set_option maxRecDepth 100000
def znTJ := And.intro @jO <| And.intro @jP <| And.intro @jQ <| And.intro @jR <| And.intro @jS <| And.intro @jT <| And.intro @jU <| And.intro @nls_lay <| And.intro @nl_lay <| And.intro @nls_nats <| True.intro
set_option maxHeartbeats 8000000
theorem nl_front (s : List Pte) (k : Nat) : nl (.dat pteSh ((s.map encPte).take k)) = true := by
  show nls _ = true
  rw [← List.map_take]; exact jR _
theorem growM_eq (m : Mach) (i t c : Nat) (ht : t = topK (m.pr.getD i default).sp 15) : growM m i c = { frM m (frK m.fr (freeK m.pr m.fr.length) (growL t c) c) with pr := m.pr.set i (spP (m.pr.getD i default) (spK (m.pr.getD i default).sp (freeK m.pr m.fr.length) (growL t c) c)) } := by
  have e : growM m i c = { tookM m (growL t c) with pr := m.pr.set i (tookP m (m.pr.getD i default) (growL t c)) } := by rw [ht]; rfl
  rw [e]
  unfold tookM tookP
  rw [growL_len]
theorem sgrow_spec (m : Mach) (hm : MFit 20000 m) (pid : Int) (hp : i64R pid) (n : Int) (hn : i64R n) : Spec Try.prog 22 [encM m, .int .i64 pid, .int .i64 n] (growVV m pid n) := by
  have hl := hm.pr
  have hF := pfind_spec m hm pid hp
  have hnM := nl_encM m
  have hZ : Spec Try.prog 38 [.str [0], .int .i64 128] (.str (List.replicate 128 0)) := zeros_spec 128 (by decide)
  obtain ⟨hn1, hn2⟩ := hn
  unfold growVV
  cases hf : findI m.pr pid with
  | none =>
    rw [hf] at hF
    simp only [placeV] at hF
    refine spec_ok Try.func22 rfl rfl (by kernel_rfl) (k := 3) rfl (by decide) ?_
    repeat' (first|(with_reducible first|refine yrl (by constructor) ?_|refine jk (fun M hM=>?_)|(refine hM _ ?_;clear hM M)|refine xb3 (by decide) ?_|refine yqa (by assumption) ?_ ?_|refine yqb (by assumption) ?_ ?_)|((with_reducible refine je ?_)<;>(first|rfl|assumption|(simp only [znl,znTJ];(first|done|fail))))|(with_reducible refine jf (by (simp only [↓reduceIte,zlk,Nat.reduceEqDiff,reduceCtorEq]);exact rfl) ?_)|((with_reducible first|refine jg (fun hc=>?_) (fun hc=>?_)|refine jh (fun hc=>?_) (fun hc=>?_))<;>(try simp (disch:=omega) only [zhb] at hc)<;>(try (exfalso;omega))<;>(try subst hc))|(with_reducible refine ji (by omega) ?_)|(simp (config := { maxSteps := 400000 }) only [↓jt,↓reduceIte,zvs,reduceCtorEq,Nat.reduceEqDiff,Nat.reduceAdd,Nat.reduceLeDiff,Nat.reduceMul,Int.reduceBNe,Int.reduceBEq,Int.reduceEq,Int.reduceNe,Int.reduceLT,Int.reduceLE,Int.reduceGT,Int.reduceGE,Int.reduceNeg,Int.reduceToNat,Nat.reduceLT,Nat.reduceSub,tab,Try.results22,jTA])|(simp (disch:=omega) only [ziw]))
    all_goals first
      | (exfalso; omega)
      | (((try simp only [nilM,List.map_nil]); simp only [zrds]; (repeat' (first | exact rd_nil | exact Rd.refl _ _ (by first|rfl|assumption|(simp only [znl,znTJ];(first|done|fail))) | (refine And.intro ?_ ?_) | (refine rd_own (by (simp only [↓reduceIte,zlk,Nat.reduceEqDiff,reduceCtorEq]); exact rfl) ?_ ?_ ?_) | rfl | assumption | (simp only [znl,znTJ];(first|done|fail)) | (simp; done) | (simp; omega)))); done)
  | some i =>
    rw [hf] at hF
    simp only [placeV] at hF
    obtain ⟨hi, hpid⟩ := findI_some hf
    have hb := hm.prR _ (getD_mem' hi)
    obtain ⟨hS1, hS2, hS3⟩ := pr3 hb
    dsimp only
    unfold growE
    by_cases h3 : (m.pr.getD i default).st = 3
    · simp only [h3,if_true]
      rw [if_neg (by decide)]
      refine spec_ok Try.func22 rfl rfl (by kernel_rfl) (k := 3) rfl (by decide) ?_
      repeat' (first|(with_reducible first|refine yrl (by constructor) ?_|refine jk (fun M hM=>?_)|(refine hM _ ?_;clear hM M)|refine xb3 (by decide) ?_|refine yqa (by assumption) ?_ ?_|refine yqb (by assumption) ?_ ?_)|((with_reducible refine je ?_)<;>(first|rfl|assumption|(simp only [znl,znTJ];(first|done|fail))))|(with_reducible refine jf (by (simp only [↓reduceIte,zlk,Nat.reduceEqDiff,reduceCtorEq]);exact rfl) ?_)|((with_reducible first|refine jg (fun hc=>?_) (fun hc=>?_)|refine jh (fun hc=>?_) (fun hc=>?_))<;>(try simp (disch:=omega) only [zhb] at hc)<;>(try (exfalso;omega))<;>(try subst hc))|(with_reducible refine ji (by omega) ?_)|(simp (config := { maxSteps := 400000 }) only [↓jt,↓reduceIte,zvs,reduceCtorEq,Nat.reduceEqDiff,Nat.reduceAdd,Nat.reduceLeDiff,Nat.reduceMul,Int.reduceBNe,Int.reduceBEq,Int.reduceEq,Int.reduceNe,Int.reduceLT,Int.reduceLE,Int.reduceGT,Int.reduceGE,Int.reduceNeg,Int.reduceToNat,Nat.reduceLT,Nat.reduceSub,tab,hS1,hS2,hS3,encPr,Try.results22,jTA])|(simp (disch:=omega) only [ziw]))
      all_goals first
        | (exfalso; omega)
        | (((try simp only [nilM,List.map_nil]); simp only [zrds]; (repeat' (first | exact rd_nil | exact Rd.refl _ _ (by first|rfl|assumption|(simp only [znl,znTJ];(first|done|fail))) | (refine And.intro ?_ ?_) | (refine rd_own (by (simp only [↓reduceIte,zlk,Nat.reduceEqDiff,reduceCtorEq]); exact rfl) ?_ ?_ ?_) | rfl | assumption | (simp only [znl,znTJ];(first|done|fail)) | (simp; done) | (simp; omega)))); done)
    by_cases hneg : n < 0
    · simp only [h3,hneg,if_true,if_false]
      rw [if_neg (by decide)]
      refine spec_ok Try.func22 rfl rfl (by kernel_rfl) (k := 3) rfl (by decide) ?_
      repeat' (first|(with_reducible first|refine yrl (by constructor) ?_|refine jk (fun M hM=>?_)|(refine hM _ ?_;clear hM M)|refine xb3 (by decide) ?_|refine yqa (by assumption) ?_ ?_|refine yqb (by assumption) ?_ ?_)|((with_reducible refine je ?_)<;>(first|rfl|assumption|(simp only [znl,znTJ];(first|done|fail))))|(with_reducible refine jf (by (simp only [↓reduceIte,zlk,Nat.reduceEqDiff,reduceCtorEq]);exact rfl) ?_)|((with_reducible first|refine jg (fun hc=>?_) (fun hc=>?_)|refine jh (fun hc=>?_) (fun hc=>?_))<;>(try simp (disch:=omega) only [zhb] at hc)<;>(try (exfalso;omega))<;>(try subst hc))|(with_reducible refine ji (by omega) ?_)|(simp (config := { maxSteps := 400000 }) only [↓jt,↓reduceIte,zvs,reduceCtorEq,Nat.reduceEqDiff,Nat.reduceAdd,Nat.reduceLeDiff,Nat.reduceMul,Int.reduceBNe,Int.reduceBEq,Int.reduceEq,Int.reduceNe,Int.reduceLT,Int.reduceLE,Int.reduceGT,Int.reduceGE,Int.reduceNeg,Int.reduceToNat,Nat.reduceLT,Nat.reduceSub,tab,hS1,hS2,hS3,encPr,Try.results22,jTA])|(simp (disch:=omega) only [ziw]))
      all_goals first
        | (exfalso; omega)
        | (((try simp only [nilM,List.map_nil]); simp only [zrds]; (repeat' (first | exact rd_nil | exact Rd.refl _ _ (by first|rfl|assumption|(simp only [znl,znTJ];(first|done|fail))) | (refine And.intro ?_ ?_) | (refine rd_own (by (simp only [↓reduceIte,zlk,Nat.reduceEqDiff,reduceCtorEq]); exact rfl) ?_ ?_ ?_) | rfl | assumption | (simp only [znl,znTJ];(first|done|fail)) | (simp; done) | (simp; omega)))); done)
    obtain ⟨c, rfl⟩ : ∃ c : Nat, n = (c : Int) := ⟨n.toNat, by omega⟩
    simp only [h3,hneg,if_false,Int.toNat_natCast]
    have hsl := hb.sp
    have htl := topK_le (m.pr.getD i default).sp 15
    have hB := list_pi m.pipes hm.pipes
    have hE := own_drive m.dr hm.bl hm.pe
    have hG := list_wr m.dirty hm.dirty
    have hFr := sfreeN_spec m hm
    have hFm := took_fr (m := m) rfl
    have hFl := freeK_le m.pr m.fr.length
    have hfl := hm.fr
    obtain ⟨R, hR⟩ : ∃ R, R = (if (if 15 - (topK (m.pr.getD i default).sp 15 : Int) < (c : Int) then (6 : Int) else if ((freeK m.pr m.fr.length).length : Int) < (c : Int) then 10 else 0) = 0 then VV.tup [encM (growM m i c), .int .i64 (128 * (topK (m.pr.getD i default).sp 15 : Int)), .int .i64 0] else .tup [encM nilM, .int .i64 0, .int .i64 (if 15 - (topK (m.pr.getD i default).sp 15 : Int) < (c : Int) then (6 : Int) else if ((freeK m.pr m.fr.length).length : Int) < (c : Int) then 10 else 0)]) := ⟨_, rfl⟩
    rw [← hR]
    have hR6 : 15 - (topK (m.pr.getD i default).sp 15 : Int) < (c : Int) → R = .tup [encM nilM, .int .i64 0, .int .i64 6] := fun h => by rw [hR, if_pos h, if_neg (by decide)]
    have hR10 : ¬15 - (topK (m.pr.getD i default).sp 15 : Int) < (c : Int) → ((freeK m.pr m.fr.length).length : Int) < (c : Int) → R = .tup [encM nilM, .int .i64 0, .int .i64 10] := fun h h' => by rw [hR, if_neg h, if_pos h', if_neg (by decide)]
    have hR0 : ¬15 - (topK (m.pr.getD i default).sp 15 : Int) < (c : Int) → ¬((freeK m.pr m.fr.length).length : Int) < (c : Int) → R = .tup [encM (growM m i c), .int .i64 (128 * (topK (m.pr.getD i default).sp 15 : Int)), .int .i64 0] := fun h h' => by rw [hR, if_neg h, if_neg h', if_pos rfl]
    clear hR
    refine spec_ok Try.func22 rfl rfl (by kernel_rfl) (k := 3) rfl (by decide) ?_
    repeat' (first|(with_reducible first|refine yrl (by constructor) ?_|refine jk (fun M hM=>?_)|(refine hM _ ?_;clear hM M)|refine xb3 (by decide) ?_|refine yqa (by assumption) ?_ ?_|refine yqb (by assumption) ?_ ?_)|((with_reducible refine je ?_)<;>(first|rfl|assumption|(simp only [znl,znTJ];(first|done|fail))))|(with_reducible refine jf (by (simp only [↓reduceIte,zlk,Nat.reduceEqDiff,reduceCtorEq]);exact rfl) ?_)|((with_reducible first|refine jg (fun hc=>?_) (fun hc=>?_)|refine jh (fun hc=>?_) (fun hc=>?_))<;>(try simp (disch:=omega) only [zhb] at hc)<;>(try (exfalso;omega))<;>(try subst hc))|(with_reducible refine ji (by omega) ?_)|(simp (config := { maxSteps := 400000 }) only [↓jt,↓reduceIte,zvs,reduceCtorEq,Nat.reduceEqDiff,Nat.reduceAdd,Nat.reduceLeDiff,Nat.reduceMul,Int.reduceBNe,Int.reduceBEq,Int.reduceEq,Int.reduceNe,Int.reduceLT,Int.reduceLE,Int.reduceGT,Int.reduceGE,Int.reduceNeg,Int.reduceToNat,Nat.reduceLT,Nat.reduceSub,tab,hS1,hS2,hS3,hsl,encPr,Try.results22,jTA])|(simp (disch:=omega) only [ziw]))
    all_goals (try (exfalso; omega))
    refine ok_loop (fun k : Nat => ⟨slots [(2, .int .i64 c), (3, .ptr 0 []), (6, .ptr 1 []), (9, .int .i64 i), (11, .int .i64 (topK (m.pr.getD i default).sp k : Nat)), (45, .dat pteSh (((m.pr.getD i default).sp.map encPte).take 15)), (46, .int .i64 15), (47, .int .i64 k)], rows [(0, .row machSh (encM m)), (1, .row machSh nilMD)], 2⟩) (fun k => k ≤ 15) (fun k => 15 - k) 0 ?_ (Nat.zero_le _) (fun k hk => ?_)
    · (refine yrn [(0, 0), (1, 1)] false ?_ ?_<;>(repeat' (first|(with_reducible first|exact ya1|exact ya2|exact ya3|refine jx rfl (by first|rfl|assumption|(simp only [znl,znTJ];(first|done|fail)))|exact ya5|exact ya7|exact jy|exact jz|refine jA ?_|refine ya9 ?_ ?_ ?_|refine jC rfl (by first|rfl|assumption|(simp only [znl,znTJ];(first|done|fail)))|refine MR.agg (MRL.cons ?_ ?_)|refine MR.fn ?_|refine MRL.cons ?_ ?_|exact MRL.nil|refine jE ?_ ?_|exact jF|exact jG|refine yb1 ?_ ?_|refine MB.row ?_|refine jI ?_ ?_|exact ya8|refine jJ rfl (by first|rfl|assumption|(simp only [znl,znTJ];(first|done|fail)))|refine yb2 ?_|rfl)|(simp only [znl,znTJ];(first|done|fail))|(simp only [↓reduceIte,zlk,Nat.reduceEqDiff,reduceCtorEq])|(with_reducible first|refine jJ ?_ ?_|refine ya5 ?_|refine ju ?_|refine jv ?_|refine jw ?_|refine jx ?_ (by first|rfl|assumption|(simp only [znl,znTJ];(first|done|fail)))|refine jC ?_ (by first|rfl|assumption|(simp only [znl,znTJ];(first|done|fail)))))))
      all_goals (first | rfl | exact MR.data _ (nl_front _ _))
    have htk := topK_le (m.pr.getD i default).sp k
    by_cases hlt : k < 15
    · have hat : (((m.pr.getD i default).sp.map encPte).take 15)[k]? = some (encPte ((m.pr.getD i default).sp.getD k default)) := by
        rw [List.getElem?_take_of_lt hlt]
        exact map_getD encPte _ k (by omega)
      cases his : ((m.pr.getD i default).sp.getD k default).is with
      | true =>
        have e1 := topK_in his
        repeat' (first|(with_reducible first|refine yrl (by constructor) ?_|refine jk (fun M hM=>?_)|(refine hM _ ?_;clear hM M)|refine xb3 (by decide) ?_|refine yqa (by assumption) ?_ ?_|refine yqb (by assumption) ?_ ?_)|((with_reducible refine je ?_)<;>(first|rfl|assumption|(simp only [znl,znTJ];(first|done|fail))))|(with_reducible refine jf (by (simp only [↓reduceIte,zlk,Nat.reduceEqDiff,reduceCtorEq]);exact rfl) ?_)|((with_reducible first|refine jg (fun hc=>?_) (fun hc=>?_)|refine jh (fun hc=>?_) (fun hc=>?_))<;>(try simp (disch:=omega) only [zhb] at hc)<;>(try (exfalso;omega))<;>(try subst hc))|(with_reducible refine ji (by omega) ?_)|(simp (config := { maxSteps := 400000 }) only [↓jt,↓reduceIte,zvs,reduceCtorEq,Nat.reduceEqDiff,Nat.reduceAdd,Nat.reduceLeDiff,Nat.reduceMul,Int.reduceBNe,Int.reduceBEq,Int.reduceEq,Int.reduceNe,Int.reduceLT,Int.reduceLE,Int.reduceGT,Int.reduceGE,Int.reduceNeg,Int.reduceToNat,Nat.reduceLT,Nat.reduceSub,tab,hS1,hS2,hS3,hsl,hat,his,encPr,encPte,Try.results22,jTA])|(simp (disch:=omega) only [ziw]))
        all_goals first
          | (exfalso; omega)
          | (refine xl1 (k + 1) ?_ (by show k + 1 ≤ 15; omega) (by show 15 - (k + 1) < 15 - k; omega); (refine yrn [(0, 0), (1, 1)] false ?_ ?_<;>(repeat' (first|(with_reducible first|exact ya1|exact ya2|exact ya3|refine jx rfl (by first|rfl|assumption|(simp only [znl,znTJ];(first|done|fail)))|exact ya5|exact ya7|exact jy|exact jz|refine jA ?_|refine ya9 ?_ ?_ ?_|refine jC rfl (by first|rfl|assumption|(simp only [znl,znTJ];(first|done|fail)))|refine MR.agg (MRL.cons ?_ ?_)|refine MR.fn ?_|refine MRL.cons ?_ ?_|exact MRL.nil|refine jE ?_ ?_|exact jF|exact jG|refine yb1 ?_ ?_|refine MB.row ?_|refine jI ?_ ?_|exact ya8|refine jJ rfl (by first|rfl|assumption|(simp only [znl,znTJ];(first|done|fail)))|refine yb2 ?_|rfl)|(simp only [znl,znTJ];(first|done|fail))|(simp only [↓reduceIte,zlk,Nat.reduceEqDiff,reduceCtorEq])|(with_reducible first|refine jJ ?_ ?_|refine ya5 ?_|refine ju ?_|refine jv ?_|refine jw ?_|refine jx ?_ (by first|rfl|assumption|(simp only [znl,znTJ];(first|done|fail)))|refine jC ?_ (by first|rfl|assumption|(simp only [znl,znTJ];(first|done|fail))))))); all_goals (first | rfl | exact MR.data _ (nl_front _ _) | (rw [e1]; done) | (rw [e1]; rfl)); done)
      | false =>
        have e1 := topK_out his
        repeat' (first|(with_reducible first|refine yrl (by constructor) ?_|refine jk (fun M hM=>?_)|(refine hM _ ?_;clear hM M)|refine xb3 (by decide) ?_|refine yqa (by assumption) ?_ ?_|refine yqb (by assumption) ?_ ?_)|((with_reducible refine je ?_)<;>(first|rfl|assumption|(simp only [znl,znTJ];(first|done|fail))))|(with_reducible refine jf (by (simp only [↓reduceIte,zlk,Nat.reduceEqDiff,reduceCtorEq]);exact rfl) ?_)|((with_reducible first|refine jg (fun hc=>?_) (fun hc=>?_)|refine jh (fun hc=>?_) (fun hc=>?_))<;>(try simp (disch:=omega) only [zhb] at hc)<;>(try (exfalso;omega))<;>(try subst hc))|(with_reducible refine ji (by omega) ?_)|(simp (config := { maxSteps := 400000 }) only [↓jt,↓reduceIte,zvs,reduceCtorEq,Nat.reduceEqDiff,Nat.reduceAdd,Nat.reduceLeDiff,Nat.reduceMul,Int.reduceBNe,Int.reduceBEq,Int.reduceEq,Int.reduceNe,Int.reduceLT,Int.reduceLE,Int.reduceGT,Int.reduceGE,Int.reduceNeg,Int.reduceToNat,Nat.reduceLT,Nat.reduceSub,tab,hS1,hS2,hS3,hsl,hat,his,encPr,encPte,Try.results22,jTA])|(simp (disch:=omega) only [ziw]))
        all_goals first
          | (exfalso; omega)
          | (refine xl1 (k + 1) ?_ (by show k + 1 ≤ 15; omega) (by show 15 - (k + 1) < 15 - k; omega); (refine yrn [(0, 0), (1, 1)] false ?_ ?_<;>(repeat' (first|(with_reducible first|exact ya1|exact ya2|exact ya3|refine jx rfl (by first|rfl|assumption|(simp only [znl,znTJ];(first|done|fail)))|exact ya5|exact ya7|exact jy|exact jz|refine jA ?_|refine ya9 ?_ ?_ ?_|refine jC rfl (by first|rfl|assumption|(simp only [znl,znTJ];(first|done|fail)))|refine MR.agg (MRL.cons ?_ ?_)|refine MR.fn ?_|refine MRL.cons ?_ ?_|exact MRL.nil|refine jE ?_ ?_|exact jF|exact jG|refine yb1 ?_ ?_|refine MB.row ?_|refine jI ?_ ?_|exact ya8|refine jJ rfl (by first|rfl|assumption|(simp only [znl,znTJ];(first|done|fail)))|refine yb2 ?_|rfl)|(simp only [znl,znTJ];(first|done|fail))|(simp only [↓reduceIte,zlk,Nat.reduceEqDiff,reduceCtorEq])|(with_reducible first|refine jJ ?_ ?_|refine ya5 ?_|refine ju ?_|refine jv ?_|refine jw ?_|refine jx ?_ (by first|rfl|assumption|(simp only [znl,znTJ];(first|done|fail)))|refine jC ?_ (by first|rfl|assumption|(simp only [znl,znTJ];(first|done|fail))))))); all_goals (first | rfl | exact MR.data _ (nl_front _ _) | (rw [e1]; done)); done)
    obtain rfl : k = 15 := by omega
    obtain ⟨t, ht⟩ : ∃ t, t = topK (m.pr.getD i default).sp 15 := ⟨_, rfl⟩
    rw [← ht] at htl hR6 hR10 hR0 ⊢
    repeat' (first|(with_reducible first|refine yrl (by constructor) ?_|refine jk (fun M hM=>?_)|(refine hM _ ?_;clear hM M)|refine xb3 (by decide) ?_|refine yqa (by assumption) ?_ ?_|refine yqb (by assumption) ?_ ?_)|((with_reducible refine je ?_)<;>(first|rfl|assumption|(simp only [znl,znTJ];(first|done|fail))))|(with_reducible refine jf (by (simp only [↓reduceIte,zlk,Nat.reduceEqDiff,reduceCtorEq]);exact rfl) ?_)|((with_reducible first|refine jg (fun hc=>?_) (fun hc=>?_)|refine jh (fun hc=>?_) (fun hc=>?_))<;>(try simp (disch:=omega) only [zhb] at hc)<;>(try (exfalso;omega))<;>(try subst hc))|(with_reducible refine ji (by omega) ?_)|(simp (config := { maxSteps := 400000 }) only [↓jt,↓reduceIte,zvs,reduceCtorEq,Nat.reduceEqDiff,Nat.reduceAdd,Nat.reduceLeDiff,Nat.reduceMul,Int.reduceBNe,Int.reduceBEq,Int.reduceEq,Int.reduceNe,Int.reduceLT,Int.reduceLE,Int.reduceGT,Int.reduceGE,Int.reduceNeg,Int.reduceToNat,Nat.reduceLT,Nat.reduceSub,tab,hS1,hS2,hS3,encPr,Try.results89, Try.results90, Try.results41, Try.results22, List.toList_toArray])|(simp (disch:=omega) only [ziw]))
    all_goals first
      | (exfalso; omega)
      | (rw [hR6 (by omega)]; ((try simp only [nilM,List.map_nil]); simp only [zrds]; (repeat' (first | exact rd_nil | exact Rd.refl _ _ (by first|rfl|assumption|(simp only [znl,znTJ];(first|done|fail))) | (refine And.intro ?_ ?_) | (refine rd_own (by (simp only [↓reduceIte,zlk,Nat.reduceEqDiff,reduceCtorEq]); exact rfl) ?_ ?_ ?_) | rfl | assumption | (simp only [znl,znTJ];(first|done|fail)) | (simp; done) | (simp; omega)))); done)
      | skip
    refine ja (ok_body Try.func41 rfl rfl (by kernel_rfl) (k := 1) (by rfl) (by decide) ?_)
    repeat' (first|(with_reducible first|refine yrl (by constructor) ?_|refine jk (fun M hM=>?_)|(refine hM _ ?_;clear hM M)|refine xb3 (by decide) ?_|refine yqa (by assumption) ?_ ?_|refine yqb (by assumption) ?_ ?_)|((with_reducible refine je ?_)<;>(first|rfl|assumption|(simp only [znl,znTJ];(first|done|fail))))|(with_reducible refine jf (by (simp only [↓reduceIte,zlk,Nat.reduceEqDiff,reduceCtorEq]);exact rfl) ?_)|((with_reducible first|refine jg (fun hc=>?_) (fun hc=>?_)|refine jh (fun hc=>?_) (fun hc=>?_))<;>(try simp (disch:=omega) only [zhb] at hc)<;>(try (exfalso;omega))<;>(try subst hc))|(with_reducible refine ji (by omega) ?_)|(simp (config := { maxSteps := 400000 }) only [↓jt,↓reduceIte,zvs,reduceCtorEq,Nat.reduceEqDiff,Nat.reduceAdd,Nat.reduceLeDiff,Nat.reduceMul,Int.reduceBNe,Int.reduceBEq,Int.reduceEq,Int.reduceNe,Int.reduceLT,Int.reduceLE,Int.reduceGT,Int.reduceGE,Int.reduceNeg,Int.reduceToNat,Nat.reduceLT,Nat.reduceSub,tab,Try.results89, Try.results90, Try.results41, Try.results22, List.toList_toArray])|(simp (disch:=omega) only [ziw]))
    refine ja (ok_body Try.func89 rfl rfl (by kernel_rfl) (k := 1) (by rfl) (by decide) ?_)
    repeat' (first|(with_reducible first|refine yrl (by constructor) ?_|refine jk (fun M hM=>?_)|(refine hM _ ?_;clear hM M)|refine xb3 (by decide) ?_|refine yqa (by assumption) ?_ ?_|refine yqb (by assumption) ?_ ?_)|((with_reducible refine je ?_)<;>(first|rfl|assumption|(simp only [znl,znTJ];(first|done|fail))))|(with_reducible refine jf (by (simp only [↓reduceIte,zlk,Nat.reduceEqDiff,reduceCtorEq]);exact rfl) ?_)|((with_reducible first|refine jg (fun hc=>?_) (fun hc=>?_)|refine jh (fun hc=>?_) (fun hc=>?_))<;>(try simp (disch:=omega) only [zhb] at hc)<;>(try (exfalso;omega))<;>(try subst hc))|(with_reducible refine ji (by omega) ?_)|(simp (config := { maxSteps := 400000 }) only [↓jt,↓reduceIte,zvs,reduceCtorEq,Nat.reduceEqDiff,Nat.reduceAdd,Nat.reduceLeDiff,Nat.reduceMul,Int.reduceBNe,Int.reduceBEq,Int.reduceEq,Int.reduceNe,Int.reduceLT,Int.reduceLE,Int.reduceGT,Int.reduceGE,Int.reduceNeg,Int.reduceToNat,Nat.reduceLT,Nat.reduceSub,tab,Try.results89, Try.results90, Try.results41, Try.results22, List.toList_toArray])|(simp (disch:=omega) only [ziw]))
    refine ja (ok_body Try.func90 rfl rfl (by kernel_rfl) (k := 1) (by rfl) (by decide) ?_)
    repeat' (first|(with_reducible first|refine yrl (by constructor) ?_|refine jk (fun M hM=>?_)|(refine hM _ ?_;clear hM M)|refine xb3 (by decide) ?_|refine yqa (by assumption) ?_ ?_|refine yqb (by assumption) ?_ ?_)|((with_reducible refine je ?_)<;>(first|rfl|assumption|(simp only [znl,znTJ];(first|done|fail))))|(with_reducible refine jf (by (simp only [↓reduceIte,zlk,Nat.reduceEqDiff,reduceCtorEq]);exact rfl) ?_)|((with_reducible first|refine jg (fun hc=>?_) (fun hc=>?_)|refine jh (fun hc=>?_) (fun hc=>?_))<;>(try simp (disch:=omega) only [zhb] at hc)<;>(try (exfalso;omega))<;>(try subst hc))|(with_reducible refine ji (by omega) ?_)|(simp (config := { maxSteps := 400000 }) only [↓jt,↓reduceIte,zvs,reduceCtorEq,Nat.reduceEqDiff,Nat.reduceAdd,Nat.reduceLeDiff,Nat.reduceMul,Int.reduceBNe,Int.reduceBEq,Int.reduceEq,Int.reduceNe,Int.reduceLT,Int.reduceLE,Int.reduceGT,Int.reduceGE,Int.reduceNeg,Int.reduceToNat,Nat.reduceLT,Nat.reduceSub,tab,Try.results89, Try.results90, Try.results41, Try.results22, List.toList_toArray])|(simp (disch:=omega) only [ziw]))
    all_goals (try (exfalso; omega))
    refine ja (ok_body Try.func42 rfl rfl (by kernel_rfl) (k := 1) (by rfl) (by decide) ?_)
    repeat' (first|(with_reducible first|refine yrl (by constructor) ?_|refine jk (fun M hM=>?_)|(refine hM _ ?_;clear hM M)|refine xb3 (by decide) ?_|refine yqa (by assumption) ?_ ?_|refine yqb (by assumption) ?_ ?_)|((with_reducible refine je ?_)<;>(first|rfl|assumption|(simp only [znl,znTJ];(first|done|fail))))|(with_reducible refine jf (by (simp only [↓reduceIte,zlk,Nat.reduceEqDiff,reduceCtorEq]);exact rfl) ?_)|((with_reducible first|refine jg (fun hc=>?_) (fun hc=>?_)|refine jh (fun hc=>?_) (fun hc=>?_))<;>(try simp (disch:=omega) only [zhb] at hc)<;>(try (exfalso;omega))<;>(try subst hc))|(with_reducible refine ji (by omega) ?_)|(simp (config := { maxSteps := 400000 }) only [↓jt,↓reduceIte,zvs,reduceCtorEq,Nat.reduceEqDiff,Nat.reduceAdd,Nat.reduceLeDiff,Nat.reduceMul,Int.reduceBNe,Int.reduceBEq,Int.reduceEq,Int.reduceNe,Int.reduceLT,Int.reduceLE,Int.reduceGT,Int.reduceGE,Int.reduceNeg,Int.reduceToNat,Nat.reduceLT,Nat.reduceSub,tab,Try.results42,Try.results22,jTA])|(simp (disch:=omega) only [ziw]))
    all_goals (try (exfalso; omega))
    refine ja (call_new (hFr) (by repeat (first | exact rdl_nil | refine rdl_cons ?_ ?_ | exact Rd.refl _ _ (by first|rfl|assumption|(simp only [znl,znTJ];(first|done|fail))) | (refine rd_own (by (simp only [↓reduceIte,zlk,Nat.reduceEqDiff,reduceCtorEq]); exact rfl) (by first | rfl | (simp; done) | (simp; omega)) rfl (by first|rfl|assumption|(simp only [znl,znTJ];(first|done|fail)))) | exact rd_nil | refine (rd_a _ _ _).mpr ?_)) rfl ?_)
    repeat' (first|(with_reducible first|refine yrl (by constructor) ?_|refine jk (fun M hM=>?_)|(refine hM _ ?_;clear hM M)|refine xb3 (by decide) ?_|refine yqa (by assumption) ?_ ?_|refine yqb (by assumption) ?_ ?_)|((with_reducible refine je ?_)<;>(first|rfl|assumption|(simp only [znl,znTJ];(first|done|fail))))|(with_reducible refine jf (by (simp only [↓reduceIte,zlk,Nat.reduceEqDiff,reduceCtorEq]);exact rfl) ?_)|((with_reducible first|refine jg (fun hc=>?_) (fun hc=>?_)|refine jh (fun hc=>?_) (fun hc=>?_))<;>(try simp (disch:=omega) only [zhb] at hc)<;>(try (exfalso;omega))<;>(try subst hc))|(with_reducible refine ji (by omega) ?_)|(simp (config := { maxSteps := 400000 }) only [↓jt,↓reduceIte,zvs,reduceCtorEq,Nat.reduceEqDiff,Nat.reduceAdd,Nat.reduceLeDiff,Nat.reduceMul,Int.reduceBNe,Int.reduceBEq,Int.reduceEq,Int.reduceNe,Int.reduceLT,Int.reduceLE,Int.reduceGT,Int.reduceGE,Int.reduceNeg,Int.reduceToNat,Nat.reduceLT,Nat.reduceSub,tab,zSp,Try.results42,Try.results22,jTA])|(simp (disch:=omega) only [ziw]))
    all_goals (try (exfalso; omega))
    rw [growM_eq m i t c ht] at hR0
    have hgl := growL_len t c
    have hgat := fun (k : Nat) (h : k < c) => growL_at (f := t) h
    obtain ⟨nf, hnf⟩ : ∃ nf, nf = m.fr.length := ⟨_, rfl⟩
    obtain ⟨np, hnp⟩ : ∃ np, np = m.pr.length := ⟨_, rfl⟩
    obtain ⟨p, hpp⟩ : ∃ p, p = m.pr.getD i default := ⟨_, rfl⟩
    have hp0 : m.pr.set i (spP p (spK p.sp (freeK m.pr m.fr.length) (growL t c) 0)) = m.pr := by
      rw [hpp]
      show m.pr.set i (m.pr.getD i default) = m.pr
      rw [List.getD_eq_getElem?_getD, List.getElem?_eq_getElem hi]
      exact List.set_getElem_self hi
    rw [← hpp] at hsl hS1 hS2 hS3 hR0
    simp only [freeV]
    generalize freeK m.pr m.fr.length = F at hFm hFl hR10 hR0 hp0 ⊢
    generalize growL t c = l at hgl hgat hR0 hp0 ⊢
    refine ok_loop (fun j : Nat => ⟨slots [(2, .int .i64 c), (6, .ptr 1 []), (9, .int .i64 i), (11, .int .i64 t), (14, .ptr 6 []), (15, .fn 94 [.ptr 8 [], .ptr 7 []]), (16, .int .i64 j)], rows [(1, .row machSh nilMD), (4, .row (.arr nf .cell) (.agg ((frK m.fr F l (j - t)).map VV.str))), (5, .row (.arr np prSh) (.agg ((m.pr.set i (spP p (spK p.sp F l (j - t)))).map encPr))), (6, .row machSh (encMFP m (.sl (some (4, [], 0)) nf) (.sl (some (5, [], 0)) np))), (7, .row .cell (.ptr 6 [])), (8, .row .cell (.dat .cell (encNats (F.drop (j - t)))))], 9⟩) (fun j => t ≤ j ∧ j ≤ t + c ∧ j - t ≤ F.length) (fun j => t + c - j) t ?_ ⟨Nat.le_refl _, by omega, by omega⟩ (fun j hj => ?_)
    · (refine yrn [(1, 1), (4, 4), (5, 5), (6, 6), (7, 7), (8, 8)] false ?_ ?_<;>(repeat' (first|(with_reducible first|exact ya1|exact ya2|exact ya3|refine jx rfl (by first|rfl|assumption|(simp only [znl,znTJ];(first|done|fail)))|exact ya5|exact ya7|exact jy|exact jz|refine jA ?_|refine ya9 ?_ ?_ ?_|refine jC rfl (by first|rfl|assumption|(simp only [znl,znTJ];(first|done|fail)))|refine MR.agg (MRL.cons ?_ ?_)|refine MR.fn ?_|refine MRL.cons ?_ ?_|exact MRL.nil|refine jE ?_ ?_|exact jF|exact jG|refine yb1 ?_ ?_|refine MB.row ?_|refine jI ?_ ?_|exact ya8|refine jJ rfl (by first|rfl|assumption|(simp only [znl,znTJ];(first|done|fail)))|refine yb2 ?_|rfl)|(simp only [znl,znTJ];(first|done|fail))|(simp only [↓reduceIte,zlk,Nat.reduceEqDiff,reduceCtorEq])|(with_reducible first|refine jJ ?_ ?_|refine ya5 ?_|refine ju ?_|refine jv ?_|refine jw ?_|refine jx ?_ (by first|rfl|assumption|(simp only [znl,znTJ];(first|done|fail)))|refine jC ?_ (by first|rfl|assumption|(simp only [znl,znTJ];(first|done|fail)))))))
      all_goals (first | rfl | exact MR.data _ (pls_nats _) | exact hnf.symm | exact hnp.symm | (rw [Nat.sub_self]; rfl) | (rw [Nat.sub_self, hp0]; done))
    obtain ⟨hj1, hj2, hj3⟩ := hj
    obtain ⟨k, hk⟩ : ∃ k, k = j - t := ⟨_, rfl⟩
    have hk1 : j + 1 - t = k + 1 := by omega
    rw [← hk]
    have hfk := frK_len m.fr F l k
    have hsk := spK_len p.sp F l k
    rw [← hnf] at hfk
    rw [hsl] at hsk
    have hdl : (F.drop k).length = F.length - k := List.length_drop
    by_cases hlt : j < t + c
    · have hx := hgat k (by omega)
      by_cases hkf : k < F.length
      · have hFi := hFm _ (getD_mem' hkf)
        have hd0 : (encNats (F.drop k))[0]? = some (.int .i64 ((F.getD k default : Nat) : Int)) := by
          rw [List.getElem?_map, List.getElem?_drop, Nat.add_zero, List.getD_eq_getElem?_getD, List.getElem?_eq_getElem hkf]; rfl
        have hd1 : (encNats (F.drop k)).drop 1 = encNats (F.drop (k + 1)) := by
          rw [← List.map_drop, List.drop_drop]
        have hd2 : (encNats (F.drop (k + 1))).take (F.length - k - 1) = encNats (F.drop (k + 1)) := List.take_of_length_le (by rw [List.length_map, List.length_drop]; omega)
        have hf1 : (frK m.fr F l k).set (F.getD k default) (l.getD k default).d = frK m.fr F l (k + 1) := rfl
        have hs1 : (spK p.sp F l k).set (l.getD k default).at_.toNat ⟨true, (l.getD k default).w, ((F.getD k default : Nat) : Int)⟩ = spK p.sp F l (k + 1) := rfl
        have hjk : ((t : Int) + (k : Int)).toNat = j := by omega
        rw [hx] at hf1 hs1
        dsimp only at hf1 hs1
        rw [hjk] at hs1
        obtain ⟨f2, hf2⟩ : ∃ f, f = frK m.fr F l (k + 1) := ⟨_, rfl⟩
        rw [← hf2] at hf1
        obtain ⟨s2, hs2⟩ : ∃ f, f = spK p.sp F l (k + 1) := ⟨_, rfl⟩
        rw [← hs2] at hs1
        generalize frK m.fr F l k = f1 at hfk hf1 ⊢
        generalize spK p.sp F l k = s1 at hsk hs1 ⊢
        have hw1 : (f1.map VV.str).set (F.getD k default) (.str (List.replicate 128 0)) = f2.map VV.str := by rw [← List.map_set, hf1]
        have hw2 : (s1.map encPte).set j (.agg [.bool true, .bool true, .int .i64 ((F.getD k default : Nat) : Int)]) = s2.map encPte := by rw [← hs1, List.map_set]; rfl
        have hS2 := hasSpace s1 hsk
        obtain ⟨u, hu⟩ := pteS s1 hsk j (by omega)
        have hv := map_getD VV.str f1 (F.getD k default) (by omega)
        obtain ⟨V1, hV1⟩ : ∃ V, V = (m.pr.set i (spP p s1)).map encPr := ⟨_, rfl⟩
        obtain ⟨V2, hV2⟩ : ∃ V, V = (m.pr.set i (spP p s2)).map encPr := ⟨_, rfl⟩
        have hVl : V1.length = np := by rw [hV1, List.length_map, List.length_set, hnp]
        have hVa : V1[i]? = some (encPrS p s1) := by
          rw [hV1, List.getElem?_map, List.getElem?_set_self (by omega)]; rfl
        have hVs : V1.set i (encPrS p s2) = V2 := by
          rw [hV1, hV2, ← show encPr (spP p s2) = encPrS p s2 from rfl, ← List.map_set, List.set_set]
        rw [← hV1]
        repeat' (first|(with_reducible first|refine yrl (by constructor) ?_|refine jk (fun M hM=>?_)|(refine hM _ ?_;clear hM M)|refine xb3 (by decide) ?_|refine yqa (by assumption) ?_ ?_|refine yqb (by assumption) ?_ ?_)|((with_reducible refine je ?_)<;>(first|rfl|assumption|(simp only [znl,znTJ];(first|done|fail))))|(with_reducible refine jf (by (simp only [↓reduceIte,zlk,Nat.reduceEqDiff,reduceCtorEq]);exact rfl) ?_)|((with_reducible first|refine jg (fun hc=>?_) (fun hc=>?_)|refine jh (fun hc=>?_) (fun hc=>?_))<;>(try simp (disch:=omega) only [zhb] at hc)<;>(try (exfalso;omega))<;>(try subst hc))|(with_reducible refine ji (by omega) ?_)|(simp (config := { maxSteps := 400000 }) only [↓jt,↓reduceIte,zvs,reduceCtorEq,Nat.reduceEqDiff,Nat.reduceAdd,Nat.reduceLeDiff,Nat.reduceMul,Int.reduceBNe,Int.reduceBEq,Int.reduceEq,Int.reduceNe,Int.reduceLT,Int.reduceLE,Int.reduceGT,Int.reduceGE,Int.reduceNeg,Int.reduceToNat,Nat.reduceLT,Nat.reduceSub,tab,hS1,hS2,hS3,hdl,Try.results94,Try.results42,Try.results22,jTA])|(simp (disch:=omega) only [ziw]))
        all_goals (try (exfalso; omega))
        refine ja (ok_body Try.func94 rfl rfl (by kernel_rfl) (k := 3) (by rfl) (by decide) ?_)
        repeat' (first|(with_reducible first|refine yrl (by constructor) ?_|refine jk (fun M hM=>?_)|(refine hM _ ?_;clear hM M)|refine xb3 (by decide) ?_|refine yqa (by assumption) ?_ ?_|refine yqb (by assumption) ?_ ?_)|((with_reducible refine je ?_)<;>(first|rfl|assumption|(simp only [znl,znTJ];(first|done|fail))))|(with_reducible refine jf (by (simp only [↓reduceIte,zlk,Nat.reduceEqDiff,reduceCtorEq]);exact rfl) ?_)|((with_reducible first|refine jg (fun hc=>?_) (fun hc=>?_)|refine jh (fun hc=>?_) (fun hc=>?_))<;>(try simp (disch:=omega) only [zhb] at hc)<;>(try (exfalso;omega))<;>(try subst hc))|(with_reducible refine ji (by omega) ?_)|(simp (config := { maxSteps := 400000 }) only [↓jt,↓reduceIte,zvs,reduceCtorEq,Nat.reduceEqDiff,Nat.reduceAdd,Nat.reduceLeDiff,Nat.reduceMul,Int.reduceBNe,Int.reduceBEq,Int.reduceEq,Int.reduceNe,Int.reduceLT,Int.reduceLE,Int.reduceGT,Int.reduceGE,Int.reduceNeg,Int.reduceToNat,Nat.reduceLT,Nat.reduceSub,tab,hS1,hS2,hS3,hdl,hd0,hd1,hd2,hw1,hw2,hVl,hVa,hVs,hu,hv,hfk,Int.toNat_natCast,Try.results94,Try.results42,Try.results22,jTA])|(simp (disch:=omega) only [ziw]))
        all_goals (try (exfalso; omega))
        all_goals first
          | (refine xl1 (j + 1) ?_ ⟨by omega, by omega, by omega⟩ (by show t + c - (j + 1) < t + c - j; omega); (refine yrn [(1, 1), (4, 4), (5, 5), (6, 6), (7, 7), (8, 8)] false ?_ ?_<;>(repeat' (first|(with_reducible first|exact ya1|exact ya2|exact ya3|refine jx rfl (by first|rfl|assumption|(simp only [znl,znTJ];(first|done|fail)))|exact ya5|exact ya7|exact jy|exact jz|refine jA ?_|refine ya9 ?_ ?_ ?_|refine jC rfl (by first|rfl|assumption|(simp only [znl,znTJ];(first|done|fail)))|refine MR.agg (MRL.cons ?_ ?_)|refine MR.fn ?_|refine MRL.cons ?_ ?_|exact MRL.nil|refine jE ?_ ?_|exact jF|exact jG|refine yb1 ?_ ?_|refine MB.row ?_|refine jI ?_ ?_|exact ya8|refine jJ rfl (by first|rfl|assumption|(simp only [znl,znTJ];(first|done|fail)))|refine yb2 ?_|rfl)|(simp only [znl,znTJ];(first|done|fail))|(simp only [↓reduceIte,zlk,Nat.reduceEqDiff,reduceCtorEq])|(with_reducible first|refine jJ ?_ ?_|refine ya5 ?_|refine ju ?_|refine jv ?_|refine jw ?_|refine jx ?_ (by first|rfl|assumption|(simp only [znl,znTJ];(first|done|fail)))|refine jC ?_ (by first|rfl|assumption|(simp only [znl,znTJ];(first|done|fail))))))); all_goals (first | rfl | (rw [hk1]; exact MR.data _ (pls_nats _)) | (rw [hk1, ← hf2]; done) | (rw [hk1, ← hs2, ← hV2]; done) | (rw [hk1, ← hf2]; exact hw1) | (rw [hk1, ← hs2, ← hV2]; exact hVs) | (rw [hk1]; done)))
      · have hR2 := hR10 (by omega) (by omega)
        repeat' (first|(with_reducible first|refine yrl (by constructor) ?_|refine jk (fun M hM=>?_)|(refine hM _ ?_;clear hM M)|refine xb3 (by decide) ?_|refine yqa (by assumption) ?_ ?_|refine yqb (by assumption) ?_ ?_)|((with_reducible refine je ?_)<;>(first|rfl|assumption|(simp only [znl,znTJ];(first|done|fail))))|(with_reducible refine jf (by (simp only [↓reduceIte,zlk,Nat.reduceEqDiff,reduceCtorEq]);exact rfl) ?_)|((with_reducible first|refine jg (fun hc=>?_) (fun hc=>?_)|refine jh (fun hc=>?_) (fun hc=>?_))<;>(try simp (disch:=omega) only [zhb] at hc)<;>(try (exfalso;omega))<;>(try subst hc))|(with_reducible refine ji (by omega) ?_)|(simp (config := { maxSteps := 400000 }) only [↓jt,↓reduceIte,zvs,reduceCtorEq,Nat.reduceEqDiff,Nat.reduceAdd,Nat.reduceLeDiff,Nat.reduceMul,Int.reduceBNe,Int.reduceBEq,Int.reduceEq,Int.reduceNe,Int.reduceLT,Int.reduceLE,Int.reduceGT,Int.reduceGE,Int.reduceNeg,Int.reduceToNat,Nat.reduceLT,Nat.reduceSub,tab,hS1,hS2,hS3,hdl,Try.results94,Try.results42,Try.results22,jTA])|(simp (disch:=omega) only [ziw]))
        all_goals (try (exfalso; omega))
        refine ja (ok_body Try.func94 rfl rfl (by kernel_rfl) (k := 3) (by rfl) (by decide) ?_)
        repeat' (first|(with_reducible first|refine yrl (by constructor) ?_|refine jk (fun M hM=>?_)|(refine hM _ ?_;clear hM M)|refine xb3 (by decide) ?_|refine yqa (by assumption) ?_ ?_|refine yqb (by assumption) ?_ ?_)|((with_reducible refine je ?_)<;>(first|rfl|assumption|(simp only [znl,znTJ];(first|done|fail))))|(with_reducible refine jf (by (simp only [↓reduceIte,zlk,Nat.reduceEqDiff,reduceCtorEq]);exact rfl) ?_)|((with_reducible first|refine jg (fun hc=>?_) (fun hc=>?_)|refine jh (fun hc=>?_) (fun hc=>?_))<;>(try simp (disch:=omega) only [zhb] at hc)<;>(try (exfalso;omega))<;>(try subst hc))|(with_reducible refine ji (by omega) ?_)|(simp (config := { maxSteps := 400000 }) only [↓jt,↓reduceIte,zvs,reduceCtorEq,Nat.reduceEqDiff,Nat.reduceAdd,Nat.reduceLeDiff,Nat.reduceMul,Int.reduceBNe,Int.reduceBEq,Int.reduceEq,Int.reduceNe,Int.reduceLT,Int.reduceLE,Int.reduceGT,Int.reduceGE,Int.reduceNeg,Int.reduceToNat,Nat.reduceLT,Nat.reduceSub,tab,hS1,hS2,hS3,hdl,Try.results94,Try.results42,Try.results22,jTA])|(simp (disch:=omega) only [ziw]))
        all_goals first
          | (exfalso; omega)
          | (rw [hR2]; ((try simp only [nilM,List.map_nil]); simp only [zrds]; (repeat' (first | exact rd_nil | exact Rd.refl _ _ (by first|rfl|assumption|(simp only [znl,znTJ];(first|done|fail))) | (refine And.intro ?_ ?_) | (refine rd_own (by (simp only [↓reduceIte,zlk,Nat.reduceEqDiff,reduceCtorEq]); exact rfl) ?_ ?_ ?_) | rfl | assumption | (simp only [znl,znTJ];(first|done|fail)) | (simp; done) | (simp; omega)))); done)
    · obtain rfl : k = c := by omega
      have hR2 := hR0 (by omega) (by omega)
      rw [Int.mul_comm 128] at hR2
      have hnlB := jP (m.pr.set i (spP p (spK p.sp F l k)))
      repeat' (first|(with_reducible first|refine yrl (by constructor) ?_|refine jk (fun M hM=>?_)|(refine hM _ ?_;clear hM M)|refine xb3 (by decide) ?_|refine yqa (by assumption) ?_ ?_|refine yqb (by assumption) ?_ ?_)|((with_reducible refine je ?_)<;>(first|rfl|assumption|(simp only [znl,znTJ];(first|done|fail))))|(with_reducible refine jf (by (simp only [↓reduceIte,zlk,Nat.reduceEqDiff,reduceCtorEq]);exact rfl) ?_)|((with_reducible first|refine jg (fun hc=>?_) (fun hc=>?_)|refine jh (fun hc=>?_) (fun hc=>?_))<;>(try simp (disch:=omega) only [zhb] at hc)<;>(try (exfalso;omega))<;>(try subst hc))|(with_reducible refine ji (by omega) ?_)|(simp (config := { maxSteps := 400000 }) only [↓jt,↓reduceIte,zvs,reduceCtorEq,Nat.reduceEqDiff,Nat.reduceAdd,Nat.reduceLeDiff,Nat.reduceMul,Int.reduceBNe,Int.reduceBEq,Int.reduceEq,Int.reduceNe,Int.reduceLT,Int.reduceLE,Int.reduceGT,Int.reduceGE,Int.reduceNeg,Int.reduceToNat,Nat.reduceLT,Nat.reduceSub,tab,Try.results94,Try.results42,Try.results22,jTA])|(simp (disch:=omega) only [ziw]))
      all_goals (try (exfalso; omega))
      all_goals first
        | (rw [hR2]; ((try simp only [frM,List.map_nil]); simp only [zrds]; (repeat' (first | exact rd_nil | exact Rd.refl _ _ (by first|rfl|assumption|(simp only [znl,znTJ];(first|done|fail))) | (refine And.intro ?_ ?_) | (refine rd_own (by (simp only [↓reduceIte,zlk,Nat.reduceEqDiff,reduceCtorEq]); exact rfl) ?_ ?_ ?_) | rfl | assumption | (simp only [znl,znTJ];(first|done|fail)) | (simp; done) | (simp; omega)))); done)
end Go.Proofs.Ytpdhdkpebbfnnaa.V
end
section
namespace Go.Proofs.Ytpdhdkpebbfnnaa.V
open Go
set_option maxRecDepth 100000
def znTK := And.intro @jO <| And.intro @jP <| And.intro @jQ <| And.intro @jR <| And.intro @jS <| And.intro @jT <| And.intro @jU <| True.intro
set_option maxHeartbeats 8000000
theorem growL_d (f n : Nat) : ∀ x ∈ growL f n, x.d.length = 128 := by
  intro x hx
  obtain ⟨k, _, rfl⟩ := List.mem_map.1 hx
  exact List.length_replicate
theorem growM_fit {m : Mach} (hm : MFit 20000 m) {i c : Nat} (hi : i < m.pr.length) (hc : topK (m.pr.getD i default).sp 15 + c ≤ 15) : MFit 20000 (growM m i c) := by
  have hR := tookP_R m hm (hm.prR _ (getD_mem' hi)) (growL_R hc)
  refine ⟨hm.clock, hm.quantum, hm.cur, hm.left, ?_, ?_, ?_, ?_, hm.next, hm.init, hm.pipes, hm.pipesR, hm.newp, hm.inp, hm.told, hm.bl, hm.blS, hm.pe, hm.peS, hm.dleft, hm.dirty, hm.dirtyS⟩
  · show (frK m.fr _ _ _).length ≤ 20000
    rw [frK_len]; exact hm.fr
  · exact frK_all hm.frS (fun x hx => by rw [growL_d _ _ x hx]; decide) (Nat.zero_le _) _
  · show (m.pr.set i _).length ≤ 20000
    rw [List.length_set]; exact hm.pr
  · intro p hp
    rcases List.mem_or_eq_of_mem_set hp with hp | rfl
    · exact hm.prR p hp
    · exact hR
theorem grow_t (m : Mach) (hm : MFit 20000 m) (pid n : Int) : ∃ (a : Mach) (p c : Int), growVV m pid n = .tup [encM a, .int .i64 p, .int .i64 c] ∧ MFit 20000 a := by
  unfold growVV
  cases hf : findI m.pr pid with
  | none => exact ⟨_, _, _, rfl, nilM_fit⟩
  | some i =>
    obtain ⟨hi, _⟩ := findI_some hf
    dsimp only
    by_cases h0 : growE m i n = 0
    · rw [if_pos h0]
      refine ⟨_, _, _, rfl, growM_fit hm hi ?_⟩
      have ht := topK_le (m.pr.getD i default).sp 15
      unfold growE at h0
      split at h0
      · omega
      · split at h0
        · omega
        · split at h0
          · omega
          · omega
    · rw [if_neg h0]; exact ⟨_, _, _, rfl, nilM_fit⟩
theorem grows_law (x0 : MachD) (x1 x2 : Int) (g0 : good machT x0) (g1 : good (.int .i64) x1) (g2 : good (.int .i64) x2) (l0 : Ty.lite machT x0) (l1 : Ty.lite (.int .i64) x1) (l2 : Ty.lite (.int .i64) x2) :
    Spec Try.prog 5 [toV machT x0, toV (.int .i64) x1, toV (.int .i64) x2] (.bool true) := by
  have hm := mach_good x0 g0 l0
  have hp : i64R x1 := bounds_i64 g1
  have hn : i64R x2 := bounds_i64 g2
  rw [toV_mach]
  simp only [toV]
  generalize mMach x0 = m at hm
  clear g0 g1 g2 l0 l1 l2 x0
  have hA := palive_spec
  have hW := pwide_spec m hm
  by_cases hs : seenM m
  · rw [if_pos hs] at hW
    have hf := near_fit hm hs.1
    have hS := sgrow_spec m hf x1 hp x2 hn
    have hD := rgrow_spec m hf x1 hp x2 hn
    obtain ⟨a, p, c, hV, hfa⟩ := grow_t m hf x1 x2
    rw [hV] at hS hD
    have hE := same26_spec a hfa
    have hnl := nl_encM m
    refine spec_ok Try.func5 rfl rfl (by kernel_rfl) (k := 3) rfl (by decide) ?_
    repeat' (first|(with_reducible first|refine yrl (by constructor) ?_|refine jk (fun M hM=>?_)|(refine hM _ ?_;clear hM M)|refine xb3 (by decide) ?_|refine yqa (by assumption) ?_ ?_|refine yqb (by assumption) ?_ ?_)|((with_reducible refine je ?_)<;>(first|rfl|assumption|(simp only [znl,znTK];(first|done|fail))))|(with_reducible refine jf (by (simp only [↓reduceIte,zlk,Nat.reduceEqDiff,reduceCtorEq]);exact rfl) ?_)|((with_reducible first|refine jg (fun hc=>?_) (fun hc=>?_)|refine jh (fun hc=>?_) (fun hc=>?_))<;>(try simp (disch:=omega) only [zhb] at hc)<;>(try (exfalso;omega))<;>(try subst hc))|(with_reducible refine ji (by omega) ?_)|(simp (config := { maxSteps := 400000 }) only [↓jt,↓reduceIte,zvs,reduceCtorEq,Nat.reduceEqDiff,Nat.reduceAdd,Nat.reduceLeDiff,Nat.reduceMul,Int.reduceBNe,Int.reduceBEq,Int.reduceEq,Int.reduceNe,Int.reduceLT,Int.reduceLE,Int.reduceGT,Int.reduceGE,Int.reduceNeg,Int.reduceToNat,Nat.reduceLT,Nat.reduceSub,tab,Try.results5,jTA])|(simp (disch:=omega) only [ziw]))
    all_goals first
      | (exfalso; omega)
      | (simp only [zrds]; done)
  · rw [if_neg hs] at hW
    refine spec_ok Try.func5 rfl rfl (by kernel_rfl) (k := 3) rfl (by decide) ?_
    repeat' (first|(with_reducible first|refine yrl (by constructor) ?_|refine jk (fun M hM=>?_)|(refine hM _ ?_;clear hM M)|refine xb3 (by decide) ?_|refine yqa (by assumption) ?_ ?_|refine yqb (by assumption) ?_ ?_)|((with_reducible refine je ?_)<;>(first|rfl|assumption|(simp only [znl,znTK];(first|done|fail))))|(with_reducible refine jf (by (simp only [↓reduceIte,zlk,Nat.reduceEqDiff,reduceCtorEq]);exact rfl) ?_)|((with_reducible first|refine jg (fun hc=>?_) (fun hc=>?_)|refine jh (fun hc=>?_) (fun hc=>?_))<;>(try simp (disch:=omega) only [zhb] at hc)<;>(try (exfalso;omega))<;>(try subst hc))|(with_reducible refine ji (by omega) ?_)|(simp (config := { maxSteps := 400000 }) only [↓jt,↓reduceIte,zvs,reduceCtorEq,Nat.reduceEqDiff,Nat.reduceAdd,Nat.reduceLeDiff,Nat.reduceMul,Int.reduceBNe,Int.reduceBEq,Int.reduceEq,Int.reduceNe,Int.reduceLT,Int.reduceLE,Int.reduceGT,Int.reduceGE,Int.reduceNeg,Int.reduceToNat,Nat.reduceLT,Nat.reduceSub,tab,Try.results5,jTA])|(simp (disch:=omega) only [ziw]))
    all_goals first
      | (exfalso; omega)
      | (simp only [zrds]; done)
end Go.Proofs.Ytpdhdkpebbfnnaa.V
end
