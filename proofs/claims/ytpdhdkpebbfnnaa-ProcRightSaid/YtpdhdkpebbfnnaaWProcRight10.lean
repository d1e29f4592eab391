/-
  Parts of the proof of ProcRight: TJ, TK, TW, NU, P5, P4, NV, NW, P6.
  Conditions: none.
-/
import Derived.Test.YtpdhdkpebbfnnaaWProcRight09
import Derived.Test.YtpdhdkpebbfnnaaWProcRight08
import Derived.Test.YtpdhdkpebbfnnaaWProcRight06
import Derived.Test.YtpdhdkpebbfnnaaWProcRight05
import Derived.Test.YtpdhdkpebbfnnaaWProcRight07
set_option linter.unusedVariables false
set_option linter.unusedSimpArgs false
set_option linter.unusedSectionVars false
set_option linter.defProp false
section
namespace Go.Proofs.Ytpdhdkpebbfnnaa.V
open Go
theorem ynTJ {l : List VV} (h : nls l = true := by first|rfl|assumption|(simp only [znl,znTJ];(first|done|fail))) : nls l = true := h
set_option maxRecDepth 100000
def znTJ := And.intro @jO <| And.intro @jP <| And.intro @jQ <| And.intro @jR <| And.intro @jS <| And.intro @jT <| And.intro @jU <| And.intro @nls_lay <| And.intro @nl_lay <| And.intro @nls_nats <| True.intro
set_option maxHeartbeats 8000000
theorem nl_front (s : List Pte) (k : Nat) : nl (.dat pteSh ((s.map encPte).take k)) = true := by
 show nls _ = true
 rw [← List.map_take]; exact jR _
theorem growM_eq (m : Mach) (i t c : Nat) (ht : t = topK (m.pr.getD i default).sp 15) : growM m i c = { frM m (frK m.fr (freeK m.pr m.fr.length) (growL t c) c) with pr := m.pr.set i (spP (m.pr.getD i default) (spK (m.pr.getD i default).sp (freeK m.pr m.fr.length) (growL t c) c)) } := by
 have e : growM m i c = { tookM m (growL t c) with pr := m.pr.set i (tookP m (m.pr.getD i default) (growL t c)) } := by rw [ht]; rfl
 rw [e]
 unfold tookM tookP
 rw [growL_len]
theorem sgrow_spec (m : Mach) (hm : MFit 20000 m) (pid : Int) (hp : i64R pid) (n : Int) (hn : i64R n) : Spec Try.prog 22 [encM m, .int .i64 pid, .int .i64 n] (growVV m pid n) := by
 have hl := hm.pr
 have hF := pfind_spec m hm pid hp
 have hnM := nl_encM m
 have hZ : Spec Try.prog 38 [.str [0], .int .i64 128] (.str (List.replicate 128 0)) := zeros_spec 128 (by decide)
 obtain ⟨hn1, hn2⟩ := hn
 unfold growVV
 cases hf : findI m.pr pid with
 | none =>
  rw [hf] at hF
  simp only [placeV] at hF
  refine spec_ok Try.func22 rfl rfl (by kernel_rfl) (k := 3) rfl (by decide) ?_
  repeat' (first|(with_reducible first|refine yrl (by constructor) ?_|refine jk (fun M hM=>?_)|(refine hM _ ?_;clear hM M)|refine yx3 ?_|refine yxa ?_ ?_|refine yxb ?_ ?_)|((with_reducible refine je ?_)<;>exact ynTJ)|(with_reducible refine yxc ?_)|((with_reducible refine yxi (fun hc=>?_) (fun hc=>?_))<;>(try simp (disch:=omega) only [zhb] at hc)<;>(try (exfalso;omega))<;>(try subst hc))|(with_reducible refine yxw ?_)|(simp (config := { maxSteps := 400000 }) only [↓jt,↓reduceIte,zvs,reduceCtorEq,seval,tab,Try.results22,jTA])|(simp (disch:=omega) only [ziw]))
  all_goals first
   | (exfalso; omega)
   | (((try simp only [nilM,List.map_nil]); simp only [zrds]; (repeat' (first | exact rd_nil | exact Rd.refl _ _ (by first|rfl|assumption|(simp only [znl,znTJ];(first|done|fail))) | (refine And.intro ?_ ?_) | (refine rd_own (by (simp only [↓reduceIte,zlk,Nat.reduceEqDiff,reduceCtorEq]); exact rfl) ?_ ?_ ?_) | rfl | assumption | (simp only [znl,znTJ];(first|done|fail)) | (simp; done) | (simp; omega)))); done)
 | some i =>
  rw [hf] at hF
  simp only [placeV] at hF
  obtain ⟨hi, hpid⟩ := findI_some hf
  have hb := hm.prR _ (getD_mem' hi)
  obtain ⟨hS1, hS2, hS3⟩ := pr3 hb
  dsimp only
  unfold growE
  by_cases h3 : (m.pr.getD i default).st = 3
  ·simp only [h3,if_true]
   rw [if_neg (by decide)]
   refine spec_ok Try.func22 rfl rfl (by kernel_rfl) (k := 3) rfl (by decide) ?_
   repeat' (first|(with_reducible first|refine yrl (by constructor) ?_|refine jk (fun M hM=>?_)|(refine hM _ ?_;clear hM M)|refine yx3 ?_|refine yxa ?_ ?_|refine yxb ?_ ?_)|((with_reducible refine je ?_)<;>exact ynTJ)|(with_reducible refine yxc ?_)|((with_reducible refine yxi (fun hc=>?_) (fun hc=>?_))<;>(try simp (disch:=omega) only [zhb] at hc)<;>(try (exfalso;omega))<;>(try subst hc))|(with_reducible refine yxw ?_)|(simp (config := { maxSteps := 400000 }) only [↓jt,↓reduceIte,zvs,reduceCtorEq,seval,tab,hS1,hS2,hS3,encPr,Try.results22,jTA])|(simp (disch:=omega) only [ziw]))
   all_goals first
    | (exfalso; omega)
    | (((try simp only [nilM,List.map_nil]); simp only [zrds]; (repeat' (first | exact rd_nil | exact Rd.refl _ _ (by first|rfl|assumption|(simp only [znl,znTJ];(first|done|fail))) | (refine And.intro ?_ ?_) | (refine rd_own (by (simp only [↓reduceIte,zlk,Nat.reduceEqDiff,reduceCtorEq]); exact rfl) ?_ ?_ ?_) | rfl | assumption | (simp only [znl,znTJ];(first|done|fail)) | (simp; done) | (simp; omega)))); done)
  by_cases hneg : n < 0
  ·simp only [h3,hneg,if_true,if_false]
   rw [if_neg (by decide)]
   refine spec_ok Try.func22 rfl rfl (by kernel_rfl) (k := 3) rfl (by decide) ?_
   repeat' (first|(with_reducible first|refine yrl (by constructor) ?_|refine jk (fun M hM=>?_)|(refine hM _ ?_;clear hM M)|refine yx3 ?_|refine yxa ?_ ?_|refine yxb ?_ ?_)|((with_reducible refine je ?_)<;>exact ynTJ)|(with_reducible refine yxc ?_)|((with_reducible refine yxi (fun hc=>?_) (fun hc=>?_))<;>(try simp (disch:=omega) only [zhb] at hc)<;>(try (exfalso;omega))<;>(try subst hc))|(with_reducible refine yxw ?_)|(simp (config := { maxSteps := 400000 }) only [↓jt,↓reduceIte,zvs,reduceCtorEq,seval,tab,hS1,hS2,hS3,encPr,Try.results22,jTA])|(simp (disch:=omega) only [ziw]))
   all_goals first
    | (exfalso; omega)
    | (((try simp only [nilM,List.map_nil]); simp only [zrds]; (repeat' (first | exact rd_nil | exact Rd.refl _ _ (by first|rfl|assumption|(simp only [znl,znTJ];(first|done|fail))) | (refine And.intro ?_ ?_) | (refine rd_own (by (simp only [↓reduceIte,zlk,Nat.reduceEqDiff,reduceCtorEq]); exact rfl) ?_ ?_ ?_) | rfl | assumption | (simp only [znl,znTJ];(first|done|fail)) | (simp; done) | (simp; omega)))); done)
  obtain ⟨c, rfl⟩ : ∃ c : Nat, n = (c : Int) := ⟨n.toNat, by omega⟩
  simp only [h3,hneg,if_false,Int.toNat_natCast]
  have hsl := hb.sp
  have htl := topK_le (m.pr.getD i default).sp 15
  have hB := list_pi m.pipes hm.pipes
  have hE := own_drive m.dr hm.bl hm.pe
  have hG := list_wr m.dirty hm.dirty
  have hFr := sfreeN_spec m hm
  have hFm := took_fr (m := m) rfl
  have hFl := freeK_le m.pr m.fr.length
  have hfl := hm.fr
  obtain ⟨R, hR⟩ : ∃ R, R = (if (if 15 - (topK (m.pr.getD i default).sp 15 : Int) < (c : Int) then (6 : Int) else if ((freeK m.pr m.fr.length).length : Int) < (c : Int) then 10 else 0) = 0 then VV.tup [encM (growM m i c), .int .i64 (128 * (topK (m.pr.getD i default).sp 15 : Int)), .int .i64 0] else .tup [encM nilM, .int .i64 0, .int .i64 (if 15 - (topK (m.pr.getD i default).sp 15 : Int) < (c : Int) then (6 : Int) else if ((freeK m.pr m.fr.length).length : Int) < (c : Int) then 10 else 0)]) := ⟨_, rfl⟩
  rw [← hR]
  have hR6 : 15 - (topK (m.pr.getD i default).sp 15 : Int) < (c : Int) → R = .tup [encM nilM, .int .i64 0, .int .i64 6] := fun h => by rw [hR, if_pos h, if_neg (by decide)]
  have hR10 : ¬15 - (topK (m.pr.getD i default).sp 15 : Int) < (c : Int) → ((freeK m.pr m.fr.length).length : Int) < (c : Int) → R = .tup [encM nilM, .int .i64 0, .int .i64 10] := fun h h' => by rw [hR, if_neg h, if_pos h', if_neg (by decide)]
  have hR0 : ¬15 - (topK (m.pr.getD i default).sp 15 : Int) < (c : Int) → ¬((freeK m.pr m.fr.length).length : Int) < (c : Int) → R = .tup [encM (growM m i c), .int .i64 (128 * (topK (m.pr.getD i default).sp 15 : Int)), .int .i64 0] := fun h h' => by rw [hR, if_neg h, if_neg h', if_pos rfl]
  clear hR
  refine spec_ok Try.func22 rfl rfl (by kernel_rfl) (k := 3) rfl (by decide) ?_
  repeat' (first|(with_reducible first|refine yrl (by constructor) ?_|refine jk (fun M hM=>?_)|(refine hM _ ?_;clear hM M)|refine yx3 ?_|refine yxa ?_ ?_|refine yxb ?_ ?_)|((with_reducible refine je ?_)<;>exact ynTJ)|(with_reducible refine yxc ?_)|((with_reducible refine yxi (fun hc=>?_) (fun hc=>?_))<;>(try simp (disch:=omega) only [zhb] at hc)<;>(try (exfalso;omega))<;>(try subst hc))|(with_reducible refine yxw ?_)|(simp (config := { maxSteps := 400000 }) only [↓jt,↓reduceIte,zvs,reduceCtorEq,seval,tab,hS1,hS2,hS3,hsl,encPr,Try.results22,jTA])|(simp (disch:=omega) only [ziw]))
  all_goals (try (exfalso; omega))
  refine ok_loop (fun k : Nat => ⟨slots [(2, .int .i64 c), (3, .ptr 0 []), (6, .ptr 1 []), (9, .int .i64 i), (11, .int .i64 (topK (m.pr.getD i default).sp k : Nat)), (45, .dat pteSh (((m.pr.getD i default).sp.map encPte).take 15)), (46, .int .i64 15), (47, .int .i64 k)], rows [(0, .row machSh (encM m)), (1, .row machSh nilMD)], 2⟩) (fun k => k ≤ 15) (fun k => 15 - k) 0 ?_ (Nat.zero_le _) (fun k hk => ?_)
  ·(refine yrn [(0, 0), (1, 1)] false ?_ ?_<;>(repeat' (first|(with_reducible first|exact ya1|exact ya2|exact ya3|refine jx rfl (by first|rfl|assumption|(simp only [znl,znTJ];(first|done|fail)))|exact ya5|exact ya7|exact jy|exact jz|refine jA ?_|refine ya9 ?_ ?_ ?_|refine jC rfl (by first|rfl|assumption|(simp only [znl,znTJ];(first|done|fail)))|refine MR.agg (MRL.cons ?_ ?_)|refine MR.fn ?_|refine MRL.cons ?_ ?_|exact MRL.nil|refine jE ?_ ?_|exact jF|exact jG|refine yb1 ?_ ?_|refine MB.row ?_|refine jI ?_ ?_|exact ya8|refine jJ rfl (by first|rfl|assumption|(simp only [znl,znTJ];(first|done|fail)))|refine yb2 ?_|rfl)|(simp only [znl,znTJ];(first|done|fail))|(simp only [↓reduceIte,zlk,Nat.reduceEqDiff,reduceCtorEq])|(with_reducible first|refine jJ ?_ ?_|refine ya5 ?_|refine ju ?_|refine jv ?_|refine jw ?_|refine jx ?_ (by first|rfl|assumption|(simp only [znl,znTJ];(first|done|fail)))|refine jC ?_ (by first|rfl|assumption|(simp only [znl,znTJ];(first|done|fail)))))))
   all_goals (first | rfl | exact MR.data _ (nl_front _ _))
  have htk := topK_le (m.pr.getD i default).sp k
  by_cases hlt : k < 15
  ·have hat : (((m.pr.getD i default).sp.map encPte).take 15)[k]? = some (encPte ((m.pr.getD i default).sp.getD k default)) := by
    rw [List.getElem?_take_of_lt hlt]
    exact map_getD encPte _ k (by omega)
   cases his : ((m.pr.getD i default).sp.getD k default).is with
   | true =>
    have e1 := topK_in his
    repeat' (first|(with_reducible first|refine yrl (by constructor) ?_|refine jk (fun M hM=>?_)|(refine hM _ ?_;clear hM M)|refine yx3 ?_|refine yxa ?_ ?_|refine yxb ?_ ?_)|((with_reducible refine je ?_)<;>exact ynTJ)|(with_reducible refine yxc ?_)|((with_reducible refine yxi (fun hc=>?_) (fun hc=>?_))<;>(try simp (disch:=omega) only [zhb] at hc)<;>(try (exfalso;omega))<;>(try subst hc))|(with_reducible refine yxw ?_)|(simp (config := { maxSteps := 400000 }) only [↓jt,↓reduceIte,zvs,reduceCtorEq,seval,tab,hS1,hS2,hS3,hsl,hat,his,encPr,encPte,Try.results22,jTA])|(simp (disch:=omega) only [ziw]))
    all_goals first
     | (exfalso; omega)
     | (refine xl1 (k + 1) ?_ (by show k + 1 ≤ 15; omega) (by show 15 - (k + 1) < 15 - k; omega); (refine yrn [(0, 0), (1, 1)] false ?_ ?_<;>(repeat' (first|(with_reducible first|exact ya1|exact ya2|exact ya3|refine jx rfl (by first|rfl|assumption|(simp only [znl,znTJ];(first|done|fail)))|exact ya5|exact ya7|exact jy|exact jz|refine jA ?_|refine ya9 ?_ ?_ ?_|refine jC rfl (by first|rfl|assumption|(simp only [znl,znTJ];(first|done|fail)))|refine MR.agg (MRL.cons ?_ ?_)|refine MR.fn ?_|refine MRL.cons ?_ ?_|exact MRL.nil|refine jE ?_ ?_|exact jF|exact jG|refine yb1 ?_ ?_|refine MB.row ?_|refine jI ?_ ?_|exact ya8|refine jJ rfl (by first|rfl|assumption|(simp only [znl,znTJ];(first|done|fail)))|refine yb2 ?_|rfl)|(simp only [znl,znTJ];(first|done|fail))|(simp only [↓reduceIte,zlk,Nat.reduceEqDiff,reduceCtorEq])|(with_reducible first|refine jJ ?_ ?_|refine ya5 ?_|refine ju ?_|refine jv ?_|refine jw ?_|refine jx ?_ (by first|rfl|assumption|(simp only [znl,znTJ];(first|done|fail)))|refine jC ?_ (by first|rfl|assumption|(simp only [znl,znTJ];(first|done|fail))))))); all_goals (first | rfl | exact MR.data _ (nl_front _ _) | (rw [e1]; done) | (rw [e1]; rfl)); done)
   | false =>
    have e1 := topK_out his
    repeat' (first|(with_reducible first|refine yrl (by constructor) ?_|refine jk (fun M hM=>?_)|(refine hM _ ?_;clear hM M)|refine yx3 ?_|refine yxa ?_ ?_|refine yxb ?_ ?_)|((with_reducible refine je ?_)<;>exact ynTJ)|(with_reducible refine yxc ?_)|((with_reducible refine yxi (fun hc=>?_) (fun hc=>?_))<;>(try simp (disch:=omega) only [zhb] at hc)<;>(try (exfalso;omega))<;>(try subst hc))|(with_reducible refine yxw ?_)|(simp (config := { maxSteps := 400000 }) only [↓jt,↓reduceIte,zvs,reduceCtorEq,seval,tab,hS1,hS2,hS3,hsl,hat,his,encPr,encPte,Try.results22,jTA])|(simp (disch:=omega) only [ziw]))
    all_goals first
     | (exfalso; omega)
     | (refine xl1 (k + 1) ?_ (by show k + 1 ≤ 15; omega) (by show 15 - (k + 1) < 15 - k; omega); (refine yrn [(0, 0), (1, 1)] false ?_ ?_<;>(repeat' (first|(with_reducible first|exact ya1|exact ya2|exact ya3|refine jx rfl (by first|rfl|assumption|(simp only [znl,znTJ];(first|done|fail)))|exact ya5|exact ya7|exact jy|exact jz|refine jA ?_|refine ya9 ?_ ?_ ?_|refine jC rfl (by first|rfl|assumption|(simp only [znl,znTJ];(first|done|fail)))|refine MR.agg (MRL.cons ?_ ?_)|refine MR.fn ?_|refine MRL.cons ?_ ?_|exact MRL.nil|refine jE ?_ ?_|exact jF|exact jG|refine yb1 ?_ ?_|refine MB.row ?_|refine jI ?_ ?_|exact ya8|refine jJ rfl (by first|rfl|assumption|(simp only [znl,znTJ];(first|done|fail)))|refine yb2 ?_|rfl)|(simp only [znl,znTJ];(first|done|fail))|(simp only [↓reduceIte,zlk,Nat.reduceEqDiff,reduceCtorEq])|(with_reducible first|refine jJ ?_ ?_|refine ya5 ?_|refine ju ?_|refine jv ?_|refine jw ?_|refine jx ?_ (by first|rfl|assumption|(simp only [znl,znTJ];(first|done|fail)))|refine jC ?_ (by first|rfl|assumption|(simp only [znl,znTJ];(first|done|fail))))))); all_goals (first | rfl | exact MR.data _ (nl_front _ _) | (rw [e1]; done)); done)
  obtain rfl : k = 15 := by omega
  obtain ⟨t, ht⟩ : ∃ t, t = topK (m.pr.getD i default).sp 15 := ⟨_, rfl⟩
  rw [← ht] at htl hR6 hR10 hR0 ⊢
  repeat' (first|(with_reducible first|refine yrl (by constructor) ?_|refine jk (fun M hM=>?_)|(refine hM _ ?_;clear hM M)|refine yx3 ?_|refine yxa ?_ ?_|refine yxb ?_ ?_)|((with_reducible refine je ?_)<;>exact ynTJ)|(with_reducible refine yxc ?_)|((with_reducible refine yxi (fun hc=>?_) (fun hc=>?_))<;>(try simp (disch:=omega) only [zhb] at hc)<;>(try (exfalso;omega))<;>(try subst hc))|(with_reducible refine yxw ?_)|(simp (config := { maxSteps := 400000 }) only [↓jt,↓reduceIte,zvs,reduceCtorEq,seval,tab,hS1,hS2,hS3,encPr,Try.results89, Try.results90, Try.results41, Try.results22, List.toList_toArray])|(simp (disch:=omega) only [ziw]))
  all_goals first
   | (exfalso; omega)
   | (rw [hR6 (by omega)]; ((try simp only [nilM,List.map_nil]); simp only [zrds]; (repeat' (first | exact rd_nil | exact Rd.refl _ _ (by first|rfl|assumption|(simp only [znl,znTJ];(first|done|fail))) | (refine And.intro ?_ ?_) | (refine rd_own (by (simp only [↓reduceIte,zlk,Nat.reduceEqDiff,reduceCtorEq]); exact rfl) ?_ ?_ ?_) | rfl | assumption | (simp only [znl,znTJ];(first|done|fail)) | (simp; done) | (simp; omega)))); done)
   | skip
  refine ja (ok_body Try.func41 rfl rfl (by kernel_rfl) (k := 1) (by rfl) (by decide) ?_)
  repeat' (first|(with_reducible first|refine yrl (by constructor) ?_|refine jk (fun M hM=>?_)|(refine hM _ ?_;clear hM M)|refine yx3 ?_|refine yxa ?_ ?_|refine yxb ?_ ?_)|((with_reducible refine je ?_)<;>exact ynTJ)|(with_reducible refine yxc ?_)|((with_reducible refine yxi (fun hc=>?_) (fun hc=>?_))<;>(try simp (disch:=omega) only [zhb] at hc)<;>(try (exfalso;omega))<;>(try subst hc))|(with_reducible refine yxw ?_)|(simp (config := { maxSteps := 400000 }) only [↓jt,↓reduceIte,zvs,reduceCtorEq,seval,tab,Try.results89, Try.results90, Try.results41, Try.results22, List.toList_toArray])|(simp (disch:=omega) only [ziw]))
  refine ja (ok_body Try.func89 rfl rfl (by kernel_rfl) (k := 1) (by rfl) (by decide) ?_)
  repeat' (first|(with_reducible first|refine yrl (by constructor) ?_|refine jk (fun M hM=>?_)|(refine hM _ ?_;clear hM M)|refine yx3 ?_|refine yxa ?_ ?_|refine yxb ?_ ?_)|((with_reducible refine je ?_)<;>exact ynTJ)|(with_reducible refine yxc ?_)|((with_reducible refine yxi (fun hc=>?_) (fun hc=>?_))<;>(try simp (disch:=omega) only [zhb] at hc)<;>(try (exfalso;omega))<;>(try subst hc))|(with_reducible refine yxw ?_)|(simp (config := { maxSteps := 400000 }) only [↓jt,↓reduceIte,zvs,reduceCtorEq,seval,tab,Try.results89, Try.results90, Try.results41, Try.results22, List.toList_toArray])|(simp (disch:=omega) only [ziw]))
  refine ja (ok_body Try.func90 rfl rfl (by kernel_rfl) (k := 1) (by rfl) (by decide) ?_)
  repeat' (first|(with_reducible first|refine yrl (by constructor) ?_|refine jk (fun M hM=>?_)|(refine hM _ ?_;clear hM M)|refine yx3 ?_|refine yxa ?_ ?_|refine yxb ?_ ?_)|((with_reducible refine je ?_)<;>exact ynTJ)|(with_reducible refine yxc ?_)|((with_reducible refine yxi (fun hc=>?_) (fun hc=>?_))<;>(try simp (disch:=omega) only [zhb] at hc)<;>(try (exfalso;omega))<;>(try subst hc))|(with_reducible refine yxw ?_)|(simp (config := { maxSteps := 400000 }) only [↓jt,↓reduceIte,zvs,reduceCtorEq,seval,tab,Try.results89, Try.results90, Try.results41, Try.results22, List.toList_toArray])|(simp (disch:=omega) only [ziw]))
  all_goals (try (exfalso; omega))
  refine ja (ok_body Try.func42 rfl rfl (by kernel_rfl) (k := 1) (by rfl) (by decide) ?_)
  repeat' (first|(with_reducible first|refine yrl (by constructor) ?_|refine jk (fun M hM=>?_)|(refine hM _ ?_;clear hM M)|refine yx3 ?_|refine yxa ?_ ?_|refine yxb ?_ ?_)|((with_reducible refine je ?_)<;>exact ynTJ)|(with_reducible refine yxc ?_)|((with_reducible refine yxi (fun hc=>?_) (fun hc=>?_))<;>(try simp (disch:=omega) only [zhb] at hc)<;>(try (exfalso;omega))<;>(try subst hc))|(with_reducible refine yxw ?_)|(simp (config := { maxSteps := 400000 }) only [↓jt,↓reduceIte,zvs,reduceCtorEq,seval,tab,Try.results42,Try.results22,jTA])|(simp (disch:=omega) only [ziw]))
  all_goals (try (exfalso; omega))
  refine ja (call_new (hFr) (by repeat (first | exact rdl_nil | refine rdl_cons ?_ ?_ | exact Rd.refl _ _ (by first|rfl|assumption|(simp only [znl,znTJ];(first|done|fail))) | (refine rd_own (by (simp only [↓reduceIte,zlk,Nat.reduceEqDiff,reduceCtorEq]); exact rfl) (by first | rfl | (simp; done) | (simp; omega)) rfl (by first|rfl|assumption|(simp only [znl,znTJ];(first|done|fail)))) | exact rd_nil | refine (rd_a _ _ _).mpr ?_)) rfl ?_)
  repeat' (first|(with_reducible first|refine yrl (by constructor) ?_|refine jk (fun M hM=>?_)|(refine hM _ ?_;clear hM M)|refine yx3 ?_|refine yxa ?_ ?_|refine yxb ?_ ?_)|((with_reducible refine je ?_)<;>exact ynTJ)|(with_reducible refine yxc ?_)|((with_reducible refine yxi (fun hc=>?_) (fun hc=>?_))<;>(try simp (disch:=omega) only [zhb] at hc)<;>(try (exfalso;omega))<;>(try subst hc))|(with_reducible refine yxw ?_)|(simp (config := { maxSteps := 400000 }) only [↓jt,↓reduceIte,zvs,reduceCtorEq,seval,tab,zSp,Try.results42,Try.results22,jTA])|(simp (disch:=omega) only [ziw]))
  all_goals (try (exfalso; omega))
  rw [growM_eq m i t c ht] at hR0
  have hgl := growL_len t c
  have hgat := fun (k : Nat) (h : k < c) => growL_at (f := t) h
  obtain ⟨nf, hnf⟩ : ∃ nf, nf = m.fr.length := ⟨_, rfl⟩
  obtain ⟨np, hnp⟩ : ∃ np, np = m.pr.length := ⟨_, rfl⟩
  obtain ⟨p, hpp⟩ : ∃ p, p = m.pr.getD i default := ⟨_, rfl⟩
  have hp0 : m.pr.set i (spP p (spK p.sp (freeK m.pr m.fr.length) (growL t c) 0)) = m.pr := by
   rw [hpp]
   show m.pr.set i (m.pr.getD i default) = m.pr
   rw [List.getD_eq_getElem?_getD, List.getElem?_eq_getElem hi]
   exact List.set_getElem_self hi
  rw [← hpp] at hsl hS1 hS2 hS3 hR0
  simp only [freeV]
  generalize freeK m.pr m.fr.length = F at hFm hFl hR10 hR0 hp0 ⊢
  generalize growL t c = l at hgl hgat hR0 hp0 ⊢
  refine ok_loop (fun j : Nat => ⟨slots [(2, .int .i64 c), (6, .ptr 1 []), (9, .int .i64 i), (11, .int .i64 t), (14, .ptr 6 []), (15, .fn 94 [.ptr 8 [], .ptr 7 []]), (16, .int .i64 j)], rows [(1, .row machSh nilMD), (4, .row (.arr nf .cell) (.agg ((frK m.fr F l (j - t)).map VV.str))), (5, .row (.arr np prSh) (.agg ((m.pr.set i (spP p (spK p.sp F l (j - t)))).map encPr))), (6, .row machSh (encMFP m (.sl (some (4, [], 0)) nf) (.sl (some (5, [], 0)) np))), (7, .row .cell (.ptr 6 [])), (8, .row .cell (.dat .cell (encNats (F.drop (j - t)))))], 9⟩) (fun j => t ≤ j ∧ j ≤ t + c ∧ j - t ≤ F.length) (fun j => t + c - j) t ?_ ⟨Nat.le_refl _, by omega, by omega⟩ (fun j hj => ?_)
  ·(refine yrn [(1, 1), (4, 4), (5, 5), (6, 6), (7, 7), (8, 8)] false ?_ ?_<;>(repeat' (first|(with_reducible first|exact ya1|exact ya2|exact ya3|refine jx rfl (by first|rfl|assumption|(simp only [znl,znTJ];(first|done|fail)))|exact ya5|exact ya7|exact jy|exact jz|refine jA ?_|refine ya9 ?_ ?_ ?_|refine jC rfl (by first|rfl|assumption|(simp only [znl,znTJ];(first|done|fail)))|refine MR.agg (MRL.cons ?_ ?_)|refine MR.fn ?_|refine MRL.cons ?_ ?_|exact MRL.nil|refine jE ?_ ?_|exact jF|exact jG|refine yb1 ?_ ?_|refine MB.row ?_|refine jI ?_ ?_|exact ya8|refine jJ rfl (by first|rfl|assumption|(simp only [znl,znTJ];(first|done|fail)))|refine yb2 ?_|rfl)|(simp only [znl,znTJ];(first|done|fail))|(simp only [↓reduceIte,zlk,Nat.reduceEqDiff,reduceCtorEq])|(with_reducible first|refine jJ ?_ ?_|refine ya5 ?_|refine ju ?_|refine jv ?_|refine jw ?_|refine jx ?_ (by first|rfl|assumption|(simp only [znl,znTJ];(first|done|fail)))|refine jC ?_ (by first|rfl|assumption|(simp only [znl,znTJ];(first|done|fail)))))))
   all_goals (first | rfl | exact MR.data _ (pls_nats _) | exact hnf.symm | exact hnp.symm | (rw [Nat.sub_self]; rfl) | (rw [Nat.sub_self, hp0]; done))
  obtain ⟨hj1, hj2, hj3⟩ := hj
  obtain ⟨k, hk⟩ : ∃ k, k = j - t := ⟨_, rfl⟩
  have hk1 : j + 1 - t = k + 1 := by omega
  rw [← hk]
  have hfk := frK_len m.fr F l k
  have hsk := spK_len p.sp F l k
  rw [← hnf] at hfk
  rw [hsl] at hsk
  have hdl : (F.drop k).length = F.length - k := List.length_drop
  by_cases hlt : j < t + c
  ·have hx := hgat k (by omega)
   by_cases hkf : k < F.length
   ·have hFi := hFm _ (getD_mem' hkf)
    have hd0 : (encNats (F.drop k))[0]? = some (.int .i64 ((F.getD k default : Nat) : Int)) := by
     rw [List.getElem?_map, List.getElem?_drop, Nat.add_zero, List.getD_eq_getElem?_getD, List.getElem?_eq_getElem hkf]; rfl
    have hd1 : (encNats (F.drop k)).drop 1 = encNats (F.drop (k + 1)) := by
     rw [← List.map_drop, List.drop_drop]
    have hd2 : (encNats (F.drop (k + 1))).take (F.length - k - 1) = encNats (F.drop (k + 1)) := List.take_of_length_le (by rw [List.length_map, List.length_drop]; omega)
    have hf1 : (frK m.fr F l k).set (F.getD k default) (l.getD k default).d = frK m.fr F l (k + 1) := rfl
    have hs1 : (spK p.sp F l k).set (l.getD k default).at_.toNat ⟨true, (l.getD k default).w, ((F.getD k default : Nat) : Int)⟩ = spK p.sp F l (k + 1) := rfl
    have hjk : ((t : Int) + (k : Int)).toNat = j := by omega
    rw [hx] at hf1 hs1
    dsimp only at hf1 hs1
    rw [hjk] at hs1
    obtain ⟨f2, hf2⟩ : ∃ f, f = frK m.fr F l (k + 1) := ⟨_, rfl⟩
    rw [← hf2] at hf1
    obtain ⟨s2, hs2⟩ : ∃ f, f = spK p.sp F l (k + 1) := ⟨_, rfl⟩
    rw [← hs2] at hs1
    generalize frK m.fr F l k = f1 at hfk hf1 ⊢
    generalize spK p.sp F l k = s1 at hsk hs1 ⊢
    have hw1 : (f1.map VV.str).set (F.getD k default) (.str (List.replicate 128 0)) = f2.map VV.str := by rw [← List.map_set, hf1]
    have hw2 : (s1.map encPte).set j (.agg [.bool true, .bool true, .int .i64 ((F.getD k default : Nat) : Int)]) = s2.map encPte := by rw [← hs1, List.map_set]; rfl
    have hS2 := hasSpace s1 hsk
    obtain ⟨u, hu⟩ := pteS s1 hsk j (by omega)
    have hv := map_getD VV.str f1 (F.getD k default) (by omega)
    obtain ⟨V1, hV1⟩ : ∃ V, V = (m.pr.set i (spP p s1)).map encPr := ⟨_, rfl⟩
    obtain ⟨V2, hV2⟩ : ∃ V, V = (m.pr.set i (spP p s2)).map encPr := ⟨_, rfl⟩
    have hVl : V1.length = np := by rw [hV1, List.length_map, List.length_set, hnp]
    have hVa : V1[i]? = some (encPrS p s1) := by
     rw [hV1, List.getElem?_map, List.getElem?_set_self (by omega)]; rfl
    have hVs : V1.set i (encPrS p s2) = V2 := by
     rw [hV1, hV2, ← show encPr (spP p s2) = encPrS p s2 from rfl, ← List.map_set, List.set_set]
    rw [← hV1]
    repeat' (first|(with_reducible first|refine yrl (by constructor) ?_|refine jk (fun M hM=>?_)|(refine hM _ ?_;clear hM M)|refine yx3 ?_|refine yxa ?_ ?_|refine yxb ?_ ?_)|((with_reducible refine je ?_)<;>exact ynTJ)|(with_reducible refine yxc ?_)|((with_reducible refine yxi (fun hc=>?_) (fun hc=>?_))<;>(try simp (disch:=omega) only [zhb] at hc)<;>(try (exfalso;omega))<;>(try subst hc))|(with_reducible refine yxw ?_)|(simp (config := { maxSteps := 400000 }) only [↓jt,↓reduceIte,zvs,reduceCtorEq,seval,tab,hS1,hS2,hS3,hdl,Try.results94,Try.results42,Try.results22,jTA])|(simp (disch:=omega) only [ziw]))
    all_goals (try (exfalso; omega))
    refine ja (ok_body Try.func94 rfl rfl (by kernel_rfl) (k := 3) (by rfl) (by decide) ?_)
    repeat' (first|(with_reducible first|refine yrl (by constructor) ?_|refine jk (fun M hM=>?_)|(refine hM _ ?_;clear hM M)|refine yx3 ?_|refine yxa ?_ ?_|refine yxb ?_ ?_)|((with_reducible refine je ?_)<;>exact ynTJ)|(with_reducible refine yxc ?_)|((with_reducible refine yxi (fun hc=>?_) (fun hc=>?_))<;>(try simp (disch:=omega) only [zhb] at hc)<;>(try (exfalso;omega))<;>(try subst hc))|(with_reducible refine yxw ?_)|(simp (config := { maxSteps := 400000 }) only [↓jt,↓reduceIte,zvs,reduceCtorEq,seval,tab,hS1,hS2,hS3,hdl,hd0,hd1,hd2,hw1,hw2,hVl,hVa,hVs,hu,hv,hfk,Int.toNat_natCast,Try.results94,Try.results42,Try.results22,jTA])|(simp (disch:=omega) only [ziw]))
    all_goals (try (exfalso; omega))
    all_goals first
     | (refine xl1 (j + 1) ?_ ⟨by omega, by omega, by omega⟩ (by show t + c - (j + 1) < t + c - j; omega); (refine yrn [(1, 1), (4, 4), (5, 5), (6, 6), (7, 7), (8, 8)] false ?_ ?_<;>(repeat' (first|(with_reducible first|exact ya1|exact ya2|exact ya3|refine jx rfl (by first|rfl|assumption|(simp only [znl,znTJ];(first|done|fail)))|exact ya5|exact ya7|exact jy|exact jz|refine jA ?_|refine ya9 ?_ ?_ ?_|refine jC rfl (by first|rfl|assumption|(simp only [znl,znTJ];(first|done|fail)))|refine MR.agg (MRL.cons ?_ ?_)|refine MR.fn ?_|refine MRL.cons ?_ ?_|exact MRL.nil|refine jE ?_ ?_|exact jF|exact jG|refine yb1 ?_ ?_|refine MB.row ?_|refine jI ?_ ?_|exact ya8|refine jJ rfl (by first|rfl|assumption|(simp only [znl,znTJ];(first|done|fail)))|refine yb2 ?_|rfl)|(simp only [znl,znTJ];(first|done|fail))|(simp only [↓reduceIte,zlk,Nat.reduceEqDiff,reduceCtorEq])|(with_reducible first|refine jJ ?_ ?_|refine ya5 ?_|refine ju ?_|refine jv ?_|refine jw ?_|refine jx ?_ (by first|rfl|assumption|(simp only [znl,znTJ];(first|done|fail)))|refine jC ?_ (by first|rfl|assumption|(simp only [znl,znTJ];(first|done|fail))))))); all_goals (first | rfl | (rw [hk1]; exact MR.data _ (pls_nats _)) | (rw [hk1, ← hf2]; done) | (rw [hk1, ← hs2, ← hV2]; done) | (rw [hk1, ← hf2]; exact hw1) | (rw [hk1, ← hs2, ← hV2]; exact hVs) | (rw [hk1]; done)))
   ·have hR2 := hR10 (by omega) (by omega)
    repeat' (first|(with_reducible first|refine yrl (by constructor) ?_|refine jk (fun M hM=>?_)|(refine hM _ ?_;clear hM M)|refine yx3 ?_|refine yxa ?_ ?_|refine yxb ?_ ?_)|((with_reducible refine je ?_)<;>exact ynTJ)|(with_reducible refine yxc ?_)|((with_reducible refine yxi (fun hc=>?_) (fun hc=>?_))<;>(try simp (disch:=omega) only [zhb] at hc)<;>(try (exfalso;omega))<;>(try subst hc))|(with_reducible refine yxw ?_)|(simp (config := { maxSteps := 400000 }) only [↓jt,↓reduceIte,zvs,reduceCtorEq,seval,tab,hS1,hS2,hS3,hdl,Try.results94,Try.results42,Try.results22,jTA])|(simp (disch:=omega) only [ziw]))
    all_goals (try (exfalso; omega))
    refine ja (ok_body Try.func94 rfl rfl (by kernel_rfl) (k := 3) (by rfl) (by decide) ?_)
    repeat' (first|(with_reducible first|refine yrl (by constructor) ?_|refine jk (fun M hM=>?_)|(refine hM _ ?_;clear hM M)|refine yx3 ?_|refine yxa ?_ ?_|refine yxb ?_ ?_)|((with_reducible refine je ?_)<;>exact ynTJ)|(with_reducible refine yxc ?_)|((with_reducible refine yxi (fun hc=>?_) (fun hc=>?_))<;>(try simp (disch:=omega) only [zhb] at hc)<;>(try (exfalso;omega))<;>(try subst hc))|(with_reducible refine yxw ?_)|(simp (config := { maxSteps := 400000 }) only [↓jt,↓reduceIte,zvs,reduceCtorEq,seval,tab,hS1,hS2,hS3,hdl,Try.results94,Try.results42,Try.results22,jTA])|(simp (disch:=omega) only [ziw]))
    all_goals first
     | (exfalso; omega)
     | (rw [hR2]; ((try simp only [nilM,List.map_nil]); simp only [zrds]; (repeat' (first | exact rd_nil | exact Rd.refl _ _ (by first|rfl|assumption|(simp only [znl,znTJ];(first|done|fail))) | (refine And.intro ?_ ?_) | (refine rd_own (by (simp only [↓reduceIte,zlk,Nat.reduceEqDiff,reduceCtorEq]); exact rfl) ?_ ?_ ?_) | rfl | assumption | (simp only [znl,znTJ];(first|done|fail)) | (simp; done) | (simp; omega)))); done)
  ·obtain rfl : k = c := by omega
   have hR2 := hR0 (by omega) (by omega)
   rw [Int.mul_comm 128] at hR2
   have hnlB := jP (m.pr.set i (spP p (spK p.sp F l k)))
   repeat' (first|(with_reducible first|refine yrl (by constructor) ?_|refine jk (fun M hM=>?_)|(refine hM _ ?_;clear hM M)|refine yx3 ?_|refine yxa ?_ ?_|refine yxb ?_ ?_)|((with_reducible refine je ?_)<;>exact ynTJ)|(with_reducible refine yxc ?_)|((with_reducible refine yxi (fun hc=>?_) (fun hc=>?_))<;>(try simp (disch:=omega) only [zhb] at hc)<;>(try (exfalso;omega))<;>(try subst hc))|(with_reducible refine yxw ?_)|(simp (config := { maxSteps := 400000 }) only [↓jt,↓reduceIte,zvs,reduceCtorEq,seval,tab,Try.results94,Try.results42,Try.results22,jTA])|(simp (disch:=omega) only [ziw]))
   all_goals (try (exfalso; omega))
   all_goals first
    | (rw [hR2]; ((try simp only [frM,List.map_nil]); simp only [zrds]; (repeat' (first | exact rd_nil | exact Rd.refl _ _ (by first|rfl|assumption|(simp only [znl,znTJ];(first|done|fail))) | (refine And.intro ?_ ?_) | (refine rd_own (by (simp only [↓reduceIte,zlk,Nat.reduceEqDiff,reduceCtorEq]); exact rfl) ?_ ?_ ?_) | rfl | assumption | (simp only [znl,znTJ];(first|done|fail)) | (simp; done) | (simp; omega)))); done)
end Go.Proofs.Ytpdhdkpebbfnnaa.V
end
section
namespace Go.Proofs.Ytpdhdkpebbfnnaa.V
open Go
set_option maxRecDepth 100000
set_option maxHeartbeats 8000000
theorem growL_d (f n : Nat) : ∀ x ∈ growL f n, x.d.length = 128 := by
 intro x hx
 obtain ⟨k, _, rfl⟩ := List.mem_map.1 hx
 exact List.length_replicate
theorem growM_fit {m : Mach} (hm : MFit 20000 m) {i c : Nat} (hi : i < m.pr.length) (hc : topK (m.pr.getD i default).sp 15 + c ≤ 15) : MFit 20000 (growM m i c) := by
 have hR := tookP_R m hm (hm.prR _ (getD_mem' hi)) (growL_R hc)
 refine ⟨hm.clock, hm.quantum, hm.cur, hm.left, ?_, ?_, ?_, ?_, hm.next, hm.init, hm.pipes, hm.pipesR, hm.newp, hm.inp, hm.told, hm.bl, hm.blS, hm.pe, hm.peS, hm.dleft, hm.dirty, hm.dirtyS⟩
 ·show (frK m.fr _ _ _).length ≤ 20000
  rw [frK_len]; exact hm.fr
 ·exact frK_all hm.frS (fun x hx => by rw [growL_d _ _ x hx]; decide) (Nat.zero_le _) _
 ·show (m.pr.set i _).length ≤ 20000
  rw [List.length_set]; exact hm.pr
 ·intro p hp
  rcases List.mem_or_eq_of_mem_set hp with hp | rfl
  ·exact hm.prR p hp
  ·exact hR
end Go.Proofs.Ytpdhdkpebbfnnaa.V
end
section
namespace Go.Proofs.Ytpdhdkpebbfnnaa.V
open Go
set_option maxRecDepth 100000
theorem topK_no {s : List Pte} : ∀ {k j : Nat}, topK s k ≤ j → j < k → (s.getD j default).is = false
 | k + 1, j, h1, h2 => by
  rw [topK] at h1
  split at h1
  ·omega
  ·rename_i h
   rcases Nat.lt_or_ge j k with h3 | h3
   ·exact topK_no h1 h3
   ·obtain rfl : j = k := by omega
    cases hb : (s.getD j default).is with
    | true => exact absurd hb h
    | false => rfl
theorem growL_ok {s : List Pte} (hs : s.length = 16) {c : Nat} (hc : topK s 15 + c ≤ 15) : LaidOk s (growL (topK s 15) c) := by
 have ht := topK_le s 15
 have hat : ∀ j, j < c → ((growL (topK s 15) c).getD j default).at_.toNat = topK s 15 + j := fun j hj => by rw [growL_at hj]; dsimp only; omega
 refine ⟨fun j hj => ?_, fun i j hij hj => ?_⟩
 ·rw [growL_len] at hj
  rw [hat j hj]
  exact ⟨by omega, topK_no (k := 15) (by omega) (by omega)⟩
 ·rw [growL_len] at hj
  rw [hat i (by omega), hat j hj]
  omega
theorem usersN_set {l : List Pr} {i : Nat} (hi : i < l.length) (q : Pr) (f : Int) : usersN (l.set i q) f + usersS f (l.getD i default).sp = usersN l f + usersS f q.sp := by
 induction l generalizing i with
 | nil => cases hi
 | cons a l ih =>
  cases i with
  | zero =>
   show (usersS f q.sp + usersN l f) + usersS f a.sp = (usersS f a.sp + usersN l f) + usersS f q.sp
   omega
  | succ i =>
   have := ih (i := i) (by simpa using hi)
   show (usersS f a.sp + usersN (l.set i q) f) + usersS f (l.getD i default).sp = (usersS f a.sp + usersN l f) + usersS f q.sp
   omega
theorem grow_chk {m : Mach} {i c : Nat} (h : chkM m = 0) (hi : i < m.pr.length) (h3 : (m.pr.getD i default).st ≠ 3) (hs : (m.pr.getD i default).sp.length = 16) (hc : topK (m.pr.getD i default).sp 15 + c ≤ 15) (hfr : c ≤ (freeK m.pr m.fr.length).length) : chkM (growM m i c) = 0 := by
 have hall := procs_each h
 have hpo := chk_pids h
 obtain ⟨h1, h2, hfs, h4, _⟩ := chk_parts h
 have hn1 : 1 ≤ m.next ∧ m.next ≤ 1000000000 := by
  unfold numB at h1
  have := of_decide_eq_false h1
  omega
 have hL := growL_ok hs hc
 obtain ⟨l, hl⟩ : ∃ l, l = growL (topK (m.pr.getD i default).sp 15) c := ⟨_, rfl⟩
 have hll : l.length = c := by rw [hl, growL_len]
 have hld : ∀ x ∈ l, x.d.length = 128 := by rw [hl]; exact growL_d _ _
 rw [← hl] at hL
 obtain ⟨p, hp⟩ : ∃ p, p = m.pr.getD i default := ⟨_, rfl⟩
 obtain ⟨q, hq⟩ : ∃ q, q = tookP m p l := ⟨_, rfl⟩
 have hqs : q.sp = spK p.sp (freeK m.pr m.fr.length) l l.length := by rw [hq]; rfl
 have eS : growM m i c = { m with fr := frK m.fr (freeK m.pr m.fr.length) l l.length, pr := m.pr.set i q, next := m.next } := by rw [hq, hp, hl]; rfl
 rw [eS]
 rw [← hp] at hL h3 hs
 have hpm : p ∈ m.pr := by rw [hp]; exact getD_mem' hi
 have hfl := frK_len m.fr (freeK m.pr m.fr.length) l l.length
 have hset : ∀ f, usersN (m.pr.set i q) f + usersS f p.sp = usersN m.pr f + usersS f q.sp := fun f => by rw [hp]; exact usersN_set hi q f
 have hold : ∀ f, usersN m.pr f ≠ 0 → usersN (m.pr.set i q) f = usersN m.pr f := fun f hf => by
  have := hset f
  rw [hqs, took_users hL (by omega) hf] at this
  omega
 have hlive : ∀ a, livesB m.pr a = true → livesB (m.pr.set i q) a = true := fun a ha => by
  obtain ⟨r, hr, hr1, hr2⟩ := livesB_mem.1 ha
  obtain ⟨j, hj, rfl⟩ := List.mem_iff_getElem.1 hr
  refine livesB_mem.2 ⟨(m.pr.set i q)[j]'(by rw [List.length_set]; exact hj), List.getElem_mem _, ?_, ?_⟩
  ·rw [List.getElem_set]
   split
   ·rename_i e; subst e
    have : p = m.pr[i] := by rw [hp, List.getD_eq_getElem?_getD, List.getElem?_eq_getElem hi]; rfl
    rw [hq, this]; exact hr1
   ·exact hr1
  ·rw [List.getElem_set]
   split
   ·rename_i e; subst e
    have : p = m.pr[i] := by rw [hp, List.getD_eq_getElem?_getD, List.getElem?_eq_getElem hi]; rfl
    rw [hq, this]; exact hr2
   ·exact hr2
 refine chk_new h _ _ _ hn1 hfl (frK_each hfs hld (Nat.le_refl _)) (by rw [List.length_set]; exact h4) (procs_of ?_ ?_)
 ·show (m.pr.set i q).Pairwise _
  rw [List.pairwise_iff_getElem]
  have hpid : ∀ j (hj : j < (m.pr.set i q).length), ((m.pr.set i q)[j]).pid = (m.pr[j]'(by rw [List.length_set] at hj; exact hj)).pid := fun j hj => by
   rw [List.getElem_set]
   split
   ·rename_i e; subst e
    have : p = m.pr[i] := by rw [hp, List.getD_eq_getElem?_getD, List.getElem?_eq_getElem hi]; rfl
    have e2 : q.pid = p.pid := by rw [hq]; rfl
    rw [e2, this]
   ·rfl
  intro a b ha hb hab
  rw [hpid a ha, hpid b hb]
  exact (List.pairwise_iff_getElem.1 hpo.inc) a b _ _ hab
 ·intro r hr
  rcases List.mem_or_eq_of_mem_set hr with hr | hr
  ·exact procB_to (hall r hr) (Int.le_refl _) (hlive _) hfl (fun x hx hi' => by
    have hu := (procB_users (hall r hr) hx hi').1
    show usersN (m.pr.set i q) x.fr = 1
    rw [hold _ (by omega), hu]) rfl
  ·rw [hr]
   have hb := hall p hpm
   unfold procB at hb ⊢
   rw [Bool.and_eq_true, Bool.and_eq_true] at hb ⊢
   obtain ⟨⟨b1, b2⟩, b3⟩ := hb
   refine ⟨⟨?_, ?_⟩, ?_⟩
   ·rw [hq]
    unfold procH at b1 ⊢
    split at b1
    ·cases b1
    split at b1
    ·cases b1
    split at b1
    ·cases b1
    rename_i a1 a2 a3
    rw [if_neg, if_neg, if_neg]
    ·exact a3
    ·rintro ⟨c1, c2⟩
     refine a2 ⟨?_, c2⟩
     cases hb : livesB m.pr p.par with
     | false => rfl
     | true =>
      have := hlive _ hb
      rw [hq] at this
      have c1 : livesB (m.pr.set i (tookP m p l)) p.par = false := c1
      rw [this] at c1; cases c1
    ·exact a1
   ·rw [List.all_eq_true]
    intro x hx
    rw [hqs] at hx
    have hqst : q.st ≠ 3 := by rw [hq]; exact h3
    rcases spK_mem hx with hx | ⟨j, hj, rfl⟩
    ·have h0 := (List.all_eq_true.1 b2) x hx
     unfold pteB at h0 ⊢
     cases hi' : x.is with
     | false => rw [hi'] at h0; exact h0
     | true =>
      rw [hi'] at h0
      simp only [if_true,decide_eq_true_eq] at h0 ⊢
      refine ⟨hqst, h0.2.1, ?_, ?_⟩
      ·show _ < ((frK m.fr (freeK m.pr m.fr.length) l l.length).length : Int)
       rw [hfl]; exact h0.2.2.1
      ·show usersN (m.pr.set i q) x.fr = 1
       rw [hold _ (by omega)]; exact h0.2.2.2
    ·obtain ⟨f1, f2⟩ := free_in (m := m) (j := j) (by omega)
     have hu : usersN (m.pr.set i q) (((freeK m.pr m.fr.length).getD j default : Nat) : Int) = 1 := by
      have := hset (((freeK m.pr m.fr.length).getD j default : Nat) : Int)
      rw [f2, hqs, took_mine hL (by omega) hj] at this
      omega
     unfold pteB
     simp only [if_true,decide_eq_true_eq]
     refine ⟨hqst, by omega, ?_, hu⟩
     show _ < ((frK m.fr (freeK m.pr m.fr.length) l l.length).length : Int)
     rw [hfl]; omega
   ·rw [List.all_eq_true] at b3 ⊢
    intro f hf
    rw [hq] at hf ⊢
    exact b3 f hf
end Go.Proofs.Ytpdhdkpebbfnnaa.V
end
section
namespace Go.Proofs.Ytpdhdkpebbfnnaa.V
open Go
theorem ynNU {l : List VV} (h : nls l = true := by first|rfl|assumption|(simp only [znl,znNU];(first|done|fail))) : nls l = true := h
set_option maxRecDepth 100000
def znNU := And.intro @jO <| And.intro @jP <| And.intro @jQ <| And.intro @jR <| And.intro @jS <| And.intro @jT <| And.intro @jU <| True.intro
set_option maxHeartbeats 4000000
theorem gplan_spec (b i : Int) (hb : 0 ≤ b ∧ b ≤ 1000000) (hi : 0 ≤ i ∧ i ≤ 1000000) : Spec Try.prog 140 [.int .i64 b, .int .i64 i] (planV (planG b i)) := by
 unfold planG
 have h6 : ∀ a : VV, List.replicate 6 a = [a, a, a, a, a, a] := fun _ => rfl
 by_cases h1 : b < 16 ∨ 223 < b ∨ i < 4 ∨ 64 < i
 ·rw [if_pos h1]
  refine spec_ok Try.func140 rfl rfl (by kernel_rfl) (k := 2) rfl (by decide) ?_
  repeat' (first|(with_reducible first|refine yrl (by constructor) ?_|refine jk (fun M hM=>?_)|(refine hM _ ?_;clear hM M)|refine yx3 ?_|refine yxa ?_ ?_|refine yxb ?_ ?_)|((with_reducible refine je ?_)<;>exact ynNU)|(with_reducible refine yxc ?_)|((with_reducible refine yxi (fun hc=>?_) (fun hc=>?_))<;>(try simp (disch:=omega) only [zhb] at hc)<;>(try (exfalso;omega))<;>(try subst hc))|(with_reducible refine yxw ?_)|(simp (config := { maxSteps := 400000 }) only [↓jt,↓reduceIte,zvs,reduceCtorEq,seval,tab,h6,Try.results140,jTA])|(simp (disch:=omega) only [ziw]))
  all_goals first
   | (exfalso; omega)
   | (simp only [planV,geoV]; simp only [zrds]; done)
 ·rw [if_neg h1]
  by_cases h2 : b ≤ 3 + (i + 1) / 2
  ·rw [if_pos h2]
   refine spec_ok Try.func140 rfl rfl (by kernel_rfl) (k := 2) rfl (by decide) ?_
   repeat' (first|(with_reducible first|refine yrl (by constructor) ?_|refine jk (fun M hM=>?_)|(refine hM _ ?_;clear hM M)|refine yx3 ?_|refine yxa ?_ ?_|refine yxb ?_ ?_)|((with_reducible refine je ?_)<;>exact ynNU)|(with_reducible refine yxc ?_)|((with_reducible refine yxi (fun hc=>?_) (fun hc=>?_))<;>(try simp (disch:=omega) only [zhb] at hc)<;>(try (exfalso;omega))<;>(try subst hc))|(with_reducible refine yxw ?_)|(simp (config := { maxSteps := 400000 }) only [↓jt,↓reduceIte,zvs,reduceCtorEq,seval,tab,h6,Try.results140,jTA])|(simp (disch:=omega) only [ziw]))
   all_goals first
    | (exfalso; omega)
    | (simp only [planV,geoV]; simp only [zrds]; done)
  ·rw [if_neg h2]
   refine spec_ok Try.func140 rfl rfl (by kernel_rfl) (k := 2) rfl (by decide) ?_
   repeat' (first|(with_reducible first|refine yrl (by constructor) ?_|refine jk (fun M hM=>?_)|(refine hM _ ?_;clear hM M)|refine yx3 ?_|refine yxa ?_ ?_|refine yxb ?_ ?_)|((with_reducible refine je ?_)<;>exact ynNU)|(with_reducible refine yxc ?_)|((with_reducible refine yxi (fun hc=>?_) (fun hc=>?_))<;>(try simp (disch:=omega) only [zhb] at hc)<;>(try (exfalso;omega))<;>(try subst hc))|(with_reducible refine yxw ?_)|(simp (config := { maxSteps := 400000 }) only [↓jt,↓reduceIte,zvs,reduceCtorEq,seval,tab,h6,Try.results140,jTA])|(simp (disch:=omega) only [ziw]))
   all_goals first
    | (exfalso; omega)
    | (simp only [planV,geoV]; simp only [zrds]; done)
theorem gfirst_spec (g : Geo) (h1 : 0 ≤ g.bl ∧ g.bl < 1000) (h2 : 0 ≤ g.ino ∧ g.ino < 1000) : Spec Try.prog 142 [geoV g] (.str (headG g.bl g.ino)) := by
 obtain ⟨b, i, q, mp, tb, da⟩ := g
 dsimp only at h1 h2
 obtain ⟨b, rfl⟩ := Int.eq_ofNat_of_zero_le h1.1
 obtain ⟨i, rfl⟩ := Int.eq_ofNat_of_zero_le h2.1
 have hA : Spec Try.prog 105 [.int .u64 b, .int .i64 2] (.str (putLE b 2)) := num_put_spec b (by omega) 2
 have hB : Spec Try.prog 105 [.int .u64 i, .int .i64 2] (.str (putLE i 2)) := num_put_spec i (by omega) 2
 have hC : Spec Try.prog 38 [.str [0], .int .i64 120] (.str (List.replicate 120 0)) := by
  have hr := repeat_spec [0] 120 (by decide) (by decide)
  rw [show (List.replicate 120 [(0 : UInt8)]).flatten = List.replicate 120 0 from by decide] at hr
  exact hr
 have l1 := putLE_len b 2
 have l2 := putLE_len i 2
 have z120 : (128 : Int) - ((8 : Nat) : Int) = 120 := rfl
 simp only [geoV,headG,Int.toNat_natCast]
 refine spec_ok Try.func142 rfl rfl (by kernel_rfl) (k := 1) rfl (by decide) ?_
 repeat' (first|(with_reducible first|refine yrl (by constructor) ?_|refine jk (fun M hM=>?_)|(refine hM _ ?_;clear hM M)|refine yx3 ?_|refine yxa ?_ ?_|refine yxb ?_ ?_)|((with_reducible refine je ?_)<;>exact ynNU)|(with_reducible refine yxc ?_)|((with_reducible refine yxi (fun hc=>?_) (fun hc=>?_))<;>(try simp (disch:=omega) only [zhb] at hc)<;>(try (exfalso;omega))<;>(try subst hc))|(with_reducible refine yxw ?_)|(simp (config := { maxSteps := 400000 }) only [↓jt,↓reduceIte,zvs,reduceCtorEq,seval,tab,l1,l2,Try.results142,jTA])|(simp (disch:=omega) only [ziw]))
 refine ok_draw 10 (by kernel_rfl) (by decide +kernel) (by intro m hm; simp only [upd_ap,rows_cons,rows_nil]; (repeat (first | rfl | rw [if_neg (by omega)]))) (fun M hM => ?_); simp only [List.take_succ_cons,List.take_zero,List.drop_succ_cons,List.drop_zero]
 repeat' (first|(with_reducible first|refine yrl (by constructor) ?_|refine jk (fun M hM=>?_)|(refine hM _ ?_;clear hM M)|refine yx3 ?_|refine yxa ?_ ?_|refine yxb ?_ ?_)|((with_reducible refine je ?_)<;>exact ynNU)|(with_reducible refine yxc ?_)|((with_reducible refine yxi (fun hc=>?_) (fun hc=>?_))<;>(try simp (disch:=omega) only [zhb] at hc)<;>(try (exfalso;omega))<;>(try subst hc))|(with_reducible refine yxw ?_)|(simp (config := { maxSteps := 400000 }) only [↓jt,↓reduceIte,zvs,reduceCtorEq,seval,tab,l1,l2,z120,Try.results142,jTA])|(simp (disch:=omega) only [ziw]))
 all_goals first
  | (simp only [zrds]; done)
theorem gbit_spec (v : Frames) (hv : 3 ≤ v.length ∧ v.length ≤ 20000) (hs : (v.getD 2 []).length = 128) (i : Nat) (hi : i < 1024) : Spec Try.prog 143 [encStrs v, .int .i64 i] (.bool (bitB (v.getD 2 []) i)) := by
 refine spec_ok Try.func143 rfl rfl (by kernel_rfl) (k := 2) rfl (by decide) ?_
 repeat' (first|(with_reducible first|refine yrl (by constructor) ?_|refine jk (fun M hM=>?_)|(refine hM _ ?_;clear hM M)|refine yx3 ?_|refine yxa ?_ ?_|refine yxb ?_ ?_)|((with_reducible refine je ?_)<;>exact ynNU)|(with_reducible refine yxc ?_)|((with_reducible refine yxi (fun hc=>?_) (fun hc=>?_))<;>(try simp (disch:=omega) only [zhb] at hc)<;>(try (exfalso;omega))<;>(try subst hc))|(with_reducible refine yxw ?_)|(simp (config := { maxSteps := 400000 }) only [↓jt,↓reduceIte,zvs,reduceCtorEq,seval,tab,hs,Try.results143,jTA])|(simp (disch:=omega) only [ziw]))
 unfold bitB
 simp only [zrds]
theorem head_le {v : List UInt8} {b i : Nat} (hv : v = headG b i) (hb : b < 65536) (hi : i < 65536) : getLE ((v.drop 4).take 2) = b ∧ getLE ((v.drop 6).take 2) = i := by
 subst hv
 have e1 : ((headG b i).drop 4).take 2 = putLE b 2 := by
  simp only [headG,Int.toNat_natCast]
  simp [putLE]
 have e2 : ((headG b i).drop 6).take 2 = putLE i 2 := by
  simp only [headG,Int.toNat_natCast]
  simp [putLE]
 have key : ∀ n : Nat, n < 65536 → getLE (putLE n 2) = n := fun n hn => by
  simp only [putLE,List.nil_append,List.cons_append,getLE,Nat.pow_zero,Nat.div_one,Nat.pow_one,Nat.mul_zero,Nat.add_zero,UInt8.toNat_ofNat']
  omega
 rw [e1, e2]
 exact ⟨key b hb, key i hi⟩
theorem gof_ok (v : Frames) (hv : v.length ≤ 20000) (hs : ∀ s ∈ v, s.length ≤ 2 ^ 47) (h0 : volE v = 0) : ∃ g, Spec Try.prog 114 [encStrs v] (.tup [geoV g, .int .i64 0]) := by
 have h6 : ∀ a : VV, List.replicate 6 a = [a, a, a, a, a, a] := fun _ => rfl
 unfold volE at h0
 dsimp only at h0
 split at h0
 ·omega
 rename_i h16
 split at h0
 ·omega
 rename_i hAny
 have hA : ∀ s ∈ v, s.length = 128 := fun s h => by
  refine Decidable.byContradiction fun hc => hAny ?_
  rw [List.any_eq_true]
  exact ⟨s, h, decide_eq_true hc⟩
 split at h0
 ·omega
 rename_i hp
 split at h0
 ·rename_i hbits
  have hl0 : (v.getD 0 []).length = 128 := by
   have := hA _ (getD_mem' (show 0 < v.length by omega))
   rw [default_str] at this
   exact this
  have hl2 : (v.getD 2 []).length = 128 := by
   have := hA _ (getD_mem' (show 2 < v.length by omega))
   rw [default_str] at this
   exact this
  have hb6 : ((v.getD 0 []).drop 6 |>.take 2).length = 2 := by rw [List.length_take, List.length_drop]; omega
  have hb4 : ((v.getD 0 []).drop 4 |>.take 2).length = 2 := by rw [List.length_take, List.length_drop]; omega
  have hN6 := num_get_spec (((v.getD 0 []).drop 6).take 2) (by omega)
  have hN4 := num_get_spec (((v.getD 0 []).drop 4).take 2) (by omega)
  rw [show List.take 8 (((v.getD 0 []).drop 6).take 2) = ((v.getD 0 []).drop 6).take 2 from List.take_of_length_le (by omega)] at hN6
  rw [show List.take 8 (((v.getD 0 []).drop 4).take 2) = ((v.getD 0 []).drop 4).take 2 from List.take_of_length_le (by omega)] at hN4
  have hNl := getLE_lt (((v.getD 0 []).drop 6).take 2)
  rw [hb6] at hNl
  have hd : v.getD 0 [] = headG v.length (getLE (((v.getD 0 []).drop 6).take 2)) := Decidable.byContradiction fun hc => hp (.inr hc)
  have hpl : (planG v.length (getLE (((v.getD 0 []).drop 6).take 2))).2 = 0 := Decidable.byContradiction fun hc => hp (.inl hc)
  have hlen : v.length ≤ 223 ∧ 4 ≤ getLE (((v.getD 0 []).drop 6).take 2) ∧ getLE (((v.getD 0 []).drop 6).take 2) ≤ 64 ∧ planG v.length (getLE (((v.getD 0 []).drop 6).take 2)) = (⟨v.length, getLE (((v.getD 0 []).drop 6).take 2), 1, 2, 3, 3 + ((getLE (((v.getD 0 []).drop 6).take 2) : Int) + 1) / 2⟩, 0) := by
   unfold planG at hpl ⊢
   split at hpl
   ·simp at hpl
   ·split at hpl
    ·simp at hpl
    ·rename_i q1 q2
     rw [if_neg q1, if_neg q2]
     exact ⟨by omega, by omega, by omega, rfl⟩
  have h4 := (head_le hd (by omega) (by omega)).1
  rw [h4] at hN4
  generalize getLE (((v.getD 0 []).drop 6).take 2) = ino at hN6 hNl hd hlen hbits hpl
  obtain ⟨q1, q2, q3, hq⟩ := hlen
  rw [hq] at hbits
  have hP := gplan_spec v.length ino (by omega) (by omega)
  rw [hq] at hP
  simp only [planV,geoV] at hP
  have hH := gfirst_spec ⟨v.length, ino, 1, 2, 3, 3 + ((ino : Int) + 1) / 2⟩ (by dsimp only; omega) (by dsimp only; omega)
  simp only [geoV] at hH
  rw [← hd] at hH
  have hQ : ∀ k : Nat, k < 1024 → (!((decide ((k : Int) < 3 + ((ino : Int) + 1) / 2) && !bitB (v.getD 2 []) k) || (decide ((v.length : Int) ≤ k) && bitB (v.getD 2 []) k))) = true := fun k hk => (List.all_eq_true.1 hbits) k (List.mem_range.2 hk)
  clear hbits hq hpl hp hAny
  refine ⟨⟨v.length, ino, 1, 2, 3, 3 + ((ino : Int) + 1) / 2⟩, spec_ok Try.func114 rfl rfl (by kernel_rfl) (k := 1) rfl (by decide) ?_⟩
  repeat' (first|(with_reducible first|refine yrl (by constructor) ?_|refine jk (fun M hM=>?_)|(refine hM _ ?_;clear hM M)|refine yx3 ?_|refine yxa ?_ ?_|refine yxb ?_ ?_)|((with_reducible refine je ?_)<;>exact ynNU)|(with_reducible refine yxc ?_)|((with_reducible refine yxi (fun hc=>?_) (fun hc=>?_))<;>(try simp (disch:=omega) only [zhb] at hc)<;>(try (exfalso;omega))<;>(try subst hc))|(with_reducible refine yxw ?_)|(simp (config := { maxSteps := 400000 }) only [↓jt,↓reduceIte,zvs,reduceCtorEq,seval,tab,h6,Try.results114,jTA])|(simp (disch:=omega) only [ziw]))
  refine ok_loop (fun k : Nat => ⟨slots [(0, encStrs v), (2, .ptr 0 []), (10, encStrs v), (11, .int .i64 v.length), (12, .int .i64 k)], rows [(0, .row geoSh (.agg [.int .i64 0, .int .i64 0, .int .i64 0, .int .i64 0, .int .i64 0, .int .i64 0]))], 1⟩) (fun k => k ≤ v.length) (fun k => v.length - k) 0 ?_ (Nat.zero_le _) (fun k hk => ?_)
  ·(refine yrn [(0, 0)] false ?_ ?_<;>(repeat' (first|(with_reducible first|exact ya1|exact ya2|exact ya3|refine jx rfl (by first|rfl|assumption|(simp only [znl,znNU];(first|done|fail)))|exact ya5|exact ya7|exact jy|exact jz|refine jA ?_|refine ya9 ?_ ?_ ?_|refine jC rfl (by first|rfl|assumption|(simp only [znl,znNU];(first|done|fail)))|refine MR.agg (MRL.cons ?_ ?_)|refine MR.fn ?_|refine MRL.cons ?_ ?_|exact MRL.nil|refine jE ?_ ?_|exact jF|exact jG|refine yb1 ?_ ?_|refine MB.row ?_|refine jI ?_ ?_|exact ya8|refine jJ rfl (by first|rfl|assumption|(simp only [znl,znNU];(first|done|fail)))|refine yb2 ?_|rfl)|(simp only [znl,znNU];(first|done|fail))|(simp only [↓reduceIte,zlk,Nat.reduceEqDiff,reduceCtorEq])|(with_reducible first|refine jJ ?_ ?_|refine ya5 ?_|refine ju ?_|refine jv ?_|refine jw ?_|refine jx ?_ (by first|rfl|assumption|(simp only [znl,znNU];(first|done|fail)))|refine jC ?_ (by first|rfl|assumption|(simp only [znl,znNU];(first|done|fail)))))))
   all_goals (first | rfl)
  by_cases hlt : k < v.length
  ·have hsk := hA _ (getD_mem' hlt)
   rw [default_str] at hsk
   repeat' (first|(with_reducible first|refine yrl (by constructor) ?_|refine jk (fun M hM=>?_)|(refine hM _ ?_;clear hM M)|refine yx3 ?_|refine yxa ?_ ?_|refine yxb ?_ ?_)|((with_reducible refine je ?_)<;>exact ynNU)|(with_reducible refine yxc ?_)|((with_reducible refine yxi (fun hc=>?_) (fun hc=>?_))<;>(try simp (disch:=omega) only [zhb] at hc)<;>(try (exfalso;omega))<;>(try subst hc))|(with_reducible refine yxw ?_)|(simp (config := { maxSteps := 400000 }) only [↓jt,↓reduceIte,zvs,reduceCtorEq,seval,tab,h6,hsk,Try.results114,jTA])|(simp (disch:=omega) only [ziw]))
   all_goals first
    | (exfalso; omega)
    | (refine xl1 (k + 1) ?_ (by show k + 1 ≤ v.length; omega) (by show v.length - (k + 1) < v.length - k; omega); (refine yrn [(0, 0)] false ?_ ?_<;>(repeat' (first|(with_reducible first|exact ya1|exact ya2|exact ya3|refine jx rfl (by first|rfl|assumption|(simp only [znl,znNU];(first|done|fail)))|exact ya5|exact ya7|exact jy|exact jz|refine jA ?_|refine ya9 ?_ ?_ ?_|refine jC rfl (by first|rfl|assumption|(simp only [znl,znNU];(first|done|fail)))|refine MR.agg (MRL.cons ?_ ?_)|refine MR.fn ?_|refine MRL.cons ?_ ?_|exact MRL.nil|refine jE ?_ ?_|exact jF|exact jG|refine yb1 ?_ ?_|refine MB.row ?_|refine jI ?_ ?_|exact ya8|refine jJ rfl (by first|rfl|assumption|(simp only [znl,znNU];(first|done|fail)))|refine yb2 ?_|rfl)|(simp only [znl,znNU];(first|done|fail))|(simp only [↓reduceIte,zlk,Nat.reduceEqDiff,reduceCtorEq])|(with_reducible first|refine jJ ?_ ?_|refine ya5 ?_|refine ju ?_|refine jv ?_|refine jw ?_|refine jx ?_ (by first|rfl|assumption|(simp only [znl,znNU];(first|done|fail)))|refine jC ?_ (by first|rfl|assumption|(simp only [znl,znNU];(first|done|fail))))))); done)
  obtain rfl : k = v.length := by omega
  repeat' (first|(with_reducible first|refine yrl (by constructor) ?_|refine jk (fun M hM=>?_)|(refine hM _ ?_;clear hM M)|refine yx3 ?_|refine yxa ?_ ?_|refine yxb ?_ ?_)|((with_reducible refine je ?_)<;>exact ynNU)|(with_reducible refine yxc ?_)|((with_reducible refine yxi (fun hc=>?_) (fun hc=>?_))<;>(try simp (disch:=omega) only [zhb] at hc)<;>(try (exfalso;omega))<;>(try subst hc))|(with_reducible refine yxw ?_)|(simp (config := { maxSteps := 400000 }) only [↓jt,↓reduceIte,zvs,reduceCtorEq,seval,tab,h6,hl0,Try.results114,jTA])|(simp (disch:=omega) only [ziw]))
  all_goals (try (exfalso; omega))
  refine ok_drawF 19 [0, 1, 2, 3, 4, 5, 6, 7, 8, 9, 10, 11, 12, 13, 14, 15, 18, 16] 17 17 1089 (by kernel_rfl) (by decide +kernel) (by decide) (by decide) (by intro m hm; simp only [upd_ap,rows_cons,rows_nil]; (repeat (first | rfl | rw [if_neg (by omega)]))) (fun M hM => ?_); simp only [picks,List.getElem?_cons_succ,List.getElem?_cons_zero,List.drop_succ_cons,List.drop_zero]
  repeat' (first|(with_reducible first|refine yrl (by constructor) ?_|refine jk (fun M hM=>?_)|(refine hM _ ?_;clear hM M)|refine yx3 ?_|refine yxa ?_ ?_|refine yxb ?_ ?_)|((with_reducible refine je ?_)<;>exact ynNU)|(with_reducible refine yxc ?_)|((with_reducible refine yxi (fun hc=>?_) (fun hc=>?_))<;>(try simp (disch:=omega) only [zhb] at hc)<;>(try (exfalso;omega))<;>(try subst hc))|(with_reducible refine yxw ?_)|(simp (config := { maxSteps := 400000 }) only [↓jt,↓reduceIte,zvs,reduceCtorEq,seval,tab,h6,hl0,storeAt_go,isP_ptr,Try.results114,jTA])|(simp (disch:=omega) only [ziw]))
  refine ok_drawC 16 (by kernel_rfl) (by decide +kernel) (by intro m hm; simp only [upd_ap,rows_cons,rows_nil]; (repeat (first | rfl | rw [if_neg (by omega)]))) (fun M hM => ?_); simp only [List.take_succ_cons,List.take_zero,List.drop_succ_cons,List.drop_zero]
  repeat' (first|(with_reducible first|refine yrl (by constructor) ?_|refine jk (fun M hM=>?_)|(refine hM _ ?_;clear hM M)|refine yx3 ?_|refine yxa ?_ ?_|refine yxb ?_ ?_)|((with_reducible refine je ?_)<;>exact ynNU)|(with_reducible refine yxc ?_)|((with_reducible refine yxi (fun hc=>?_) (fun hc=>?_))<;>(try simp (disch:=omega) only [zhb] at hc)<;>(try (exfalso;omega))<;>(try subst hc))|(with_reducible refine yxw ?_)|(simp (config := { maxSteps := 400000 }) only [↓jt,↓reduceIte,zvs,reduceCtorEq,seval,tab,h6,hl0,Try.results114,jTA])|(simp (disch:=omega) only [ziw]))
  all_goals (try (exfalso; omega))
  refine ok_loop (fun k : Nat => ⟨slots [(0, encStrs v), (2, .ptr 0 []), (6, .ptr 1 []), (59, .int .i64 k)], rows [(0, .row geoSh (.agg [.int .i64 0, .int .i64 0, .int .i64 0, .int .i64 0, .int .i64 0, .int .i64 0])), (1, .row geoSh (.agg [.int .i64 v.length, .int .i64 ino, .int .i64 1, .int .i64 2, .int .i64 3, .int .i64 (3 + ((ino : Int) + 1) / 2)]))], 2⟩) (fun k => k ≤ 1024) (fun k => 1024 - k) 0 ?_ (Nat.zero_le _) (fun k hk => ?_)
  ·(refine yrn [(0, 0), (1, 1089)] false ?_ ?_<;>(repeat' (first|(with_reducible first|exact ya1|exact ya2|exact ya3|refine jx rfl (by first|rfl|assumption|(simp only [znl,znNU];(first|done|fail)))|exact ya5|exact ya7|exact jy|exact jz|refine jA ?_|refine ya9 ?_ ?_ ?_|refine jC rfl (by first|rfl|assumption|(simp only [znl,znNU];(first|done|fail)))|refine MR.agg (MRL.cons ?_ ?_)|refine MR.fn ?_|refine MRL.cons ?_ ?_|exact MRL.nil|refine jE ?_ ?_|exact jF|exact jG|refine yb1 ?_ ?_|refine MB.row ?_|refine jI ?_ ?_|exact ya8|refine jJ rfl (by first|rfl|assumption|(simp only [znl,znNU];(first|done|fail)))|refine yb2 ?_|rfl)|(simp only [znl,znNU];(first|done|fail))|(simp only [↓reduceIte,zlk,Nat.reduceEqDiff,reduceCtorEq])|(with_reducible first|refine jJ ?_ ?_|refine ya5 ?_|refine ju ?_|refine jv ?_|refine jw ?_|refine jx ?_ (by first|rfl|assumption|(simp only [znl,znNU];(first|done|fail)))|refine jC ?_ (by first|rfl|assumption|(simp only [znl,znNU];(first|done|fail)))))))
   all_goals (first | rfl)
  by_cases hlt : k < 1024
  ·have hB := gbit_spec v (by omega) hl2 k hlt
   have hQk := hQ k hlt
   generalize bitB (v.getD 2 []) k = b at hB hQk
   have hb1 : b = false → ¬(k : Int) < 3 + ((ino : Int) + 1) / 2 := fun e h => by
    rw [e, decide_eq_true h] at hQk; cases hQk
   have hb2 : b = true → ¬(v.length : Int) ≤ k := fun e h => by
    rw [e, decide_eq_true h, Bool.not_true, Bool.and_false] at hQk; cases hQk
   cases b
   all_goals
    first | have hb1 := hb1 rfl | have hb2 := hb2 rfl
    repeat' (first|(with_reducible first|refine yrl (by constructor) ?_|refine jk (fun M hM=>?_)|(refine hM _ ?_;clear hM M)|refine yx3 ?_|refine yxa ?_ ?_|refine yxb ?_ ?_)|((with_reducible refine je ?_)<;>exact ynNU)|(with_reducible refine yxc ?_)|((with_reducible refine yxi (fun hc=>?_) (fun hc=>?_))<;>(try simp (disch:=omega) only [zhb] at hc)<;>(try (exfalso;omega))<;>(try subst hc))|(with_reducible refine yxw ?_)|(simp (config := { maxSteps := 400000 }) only [↓jt,↓reduceIte,zvs,reduceCtorEq,seval,tab,h6,hl2,Try.results114,jTA])|(simp (disch:=omega) only [ziw]))
    all_goals first
     | (exfalso; omega)
     | (refine xl1 (k + 1) ?_ (by show k + 1 ≤ 1024; omega) (by show 1024 - (k + 1) < 1024 - k; omega); (refine yrn [(0, 0), (1, 1)] false ?_ ?_<;>(repeat' (first|(with_reducible first|exact ya1|exact ya2|exact ya3|refine jx rfl (by first|rfl|assumption|(simp only [znl,znNU];(first|done|fail)))|exact ya5|exact ya7|exact jy|exact jz|refine jA ?_|refine ya9 ?_ ?_ ?_|refine jC rfl (by first|rfl|assumption|(simp only [znl,znNU];(first|done|fail)))|refine MR.agg (MRL.cons ?_ ?_)|refine MR.fn ?_|refine MRL.cons ?_ ?_|exact MRL.nil|refine jE ?_ ?_|exact jF|exact jG|refine yb1 ?_ ?_|refine MB.row ?_|refine jI ?_ ?_|exact ya8|refine jJ rfl (by first|rfl|assumption|(simp only [znl,znNU];(first|done|fail)))|refine yb2 ?_|rfl)|(simp only [znl,znNU];(first|done|fail))|(simp only [↓reduceIte,zlk,Nat.reduceEqDiff,reduceCtorEq])|(with_reducible first|refine jJ ?_ ?_|refine ya5 ?_|refine ju ?_|refine jv ?_|refine jw ?_|refine jx ?_ (by first|rfl|assumption|(simp only [znl,znNU];(first|done|fail)))|refine jC ?_ (by first|rfl|assumption|(simp only [znl,znNU];(first|done|fail))))))); done)
  ·obtain rfl : k = 1024 := by omega
   repeat' (first|(with_reducible first|refine yrl (by constructor) ?_|refine jk (fun M hM=>?_)|(refine hM _ ?_;clear hM M)|refine yx3 ?_|refine yxa ?_ ?_|refine yxb ?_ ?_)|((with_reducible refine je ?_)<;>exact ynNU)|(with_reducible refine yxc ?_)|((with_reducible refine yxi (fun hc=>?_) (fun hc=>?_))<;>(try simp (disch:=omega) only [zhb] at hc)<;>(try (exfalso;omega))<;>(try subst hc))|(with_reducible refine yxw ?_)|(simp (config := { maxSteps := 400000 }) only [↓jt,↓reduceIte,zvs,reduceCtorEq,seval,tab,h6,hl2,Try.results114,jTA])|(simp (disch:=omega) only [ziw]))
   all_goals first
    | (exfalso; omega)
    | (simp only [geoV]; simp only [zrds]; done)
 ·omega
end Go.Proofs.Ytpdhdkpebbfnnaa.V
end
section
namespace Go.Proofs.Ytpdhdkpebbfnnaa.V
open Go
theorem ytP50 {n0 n n' : Nat} {tm : Nat → VV} {H : Heap} {l : List (Nat × VV)} {h : List (Nat × Blk)} (σ : List (Nat × Nat)) (fz : Bool) (h1 : AllS n0 σ H fz tm l := by (repeat' (first|(with_reducible first|exact ya1|exact ya2|exact ya3|refine jx rfl (by first|rfl|assumption|(simp only [znl,znP5];(first|done|fail)))|exact ya5|exact ya7|exact jy|exact jz|refine jA ?_|refine ya9 ?_ ?_ ?_|refine jC rfl (by first|rfl|assumption|(simp only [znl,znP5];(first|done|fail)))|refine MR.agg (MRL.cons ?_ ?_)|refine MR.fn ?_|refine MRL.cons ?_ ?_|exact MRL.nil|refine jE ?_ ?_|exact jF|exact jG|refine yb1 ?_ ?_|refine MB.row ?_|refine jI ?_ ?_|exact ya8|refine jJ rfl (by first|rfl|assumption|(simp only [znl,znP5];(first|done|fail)))|refine yb2 ?_|rfl)|(simp only [znl,znP5];(first|done|fail))|(simp only [↓reduceIte,zlk,Nat.reduceEqDiff,reduceCtorEq])|(with_reducible first|refine jJ ?_ ?_|refine ya5 ?_|refine ju ?_|refine jv ?_|refine jw ?_|refine jx ?_ (by first|rfl|assumption|(simp only [znl,znP5];(first|done|fail)))|refine jC ?_ (by first|rfl|assumption|(simp only [znl,znP5];(first|done|fail))))))<;>rfl) (h3 : AllB n0 σ H fz h := by (repeat' (first|(with_reducible first|exact ya1|exact ya2|exact ya3|refine jx rfl (by first|rfl|assumption|(simp only [znl,znP5];(first|done|fail)))|exact ya5|exact ya7|exact jy|exact jz|refine jA ?_|refine ya9 ?_ ?_ ?_|refine jC rfl (by first|rfl|assumption|(simp only [znl,znP5];(first|done|fail)))|refine MR.agg (MRL.cons ?_ ?_)|refine MR.fn ?_|refine MRL.cons ?_ ?_|exact MRL.nil|refine jE ?_ ?_|exact jF|exact jG|refine yb1 ?_ ?_|refine MB.row ?_|refine jI ?_ ?_|exact ya8|refine jJ rfl (by first|rfl|assumption|(simp only [znl,znP5];(first|done|fail)))|refine yb2 ?_|rfl)|(simp only [znl,znP5];(first|done|fail))|(simp only [↓reduceIte,zlk,Nat.reduceEqDiff,reduceCtorEq])|(with_reducible first|refine jJ ?_ ?_|refine ya5 ?_|refine ju ?_|refine jv ?_|refine jw ?_|refine jx ?_ (by first|rfl|assumption|(simp only [znl,znP5];(first|done|fail)))|refine jC ?_ (by first|rfl|assumption|(simp only [znl,znP5];(first|done|fail))))))<;>rfl) (hfz : fz = true → n0 = 0 := by first | (intro h; cases h; done) | exact fun _ => rfl) (hσ : jN n0 n' (h.map (·.1)) σ = true := by first | decide | rfl | (simp [jN]; done)) (hn : n0 ≤ n' := by decide) : Ren n0 ⟨tm, H, n⟩ ⟨slots l, rows h, n'⟩ := yrn σ fz h1 h3 hfz hσ hn
theorem ytP51 {n0 n n' : Nat} {tm : Nat → VV} {H : Heap} {l : List (Nat × VV)} {h : List (Nat × Blk)} (σ : List (Nat × Nat)) (fz : Bool) (h1 : AllS n0 σ H fz tm l := by repeat' (first|(with_reducible first|exact ya1|exact ya2|exact ya3|refine jx rfl (by first|rfl|assumption|(simp only [znl,znP5];(first|done|fail)))|exact ya5|exact ya7|exact jy|exact jz|refine jA ?_|refine ya9 ?_ ?_ ?_|refine jC rfl (by first|rfl|assumption|(simp only [znl,znP5];(first|done|fail)))|refine MR.agg (MRL.cons ?_ ?_)|refine MR.fn ?_|refine MRL.cons ?_ ?_|exact MRL.nil|refine jE ?_ ?_|exact jF|exact jG|refine yb1 ?_ ?_|refine MB.row ?_|refine jI ?_ ?_|exact ya8|refine jJ rfl (by first|rfl|assumption|(simp only [znl,znP5];(first|done|fail)))|refine yb2 ?_|rfl)|(simp only [znl,znP5];(first|done|fail))|(simp only [↓reduceIte,zlk,Nat.reduceEqDiff,reduceCtorEq])|(with_reducible first|refine jJ ?_ ?_|refine ya5 ?_|refine ju ?_|refine jv ?_|refine jw ?_|refine jx ?_ (by first|rfl|assumption|(simp only [znl,znP5];(first|done|fail)))|refine jC ?_ (by first|rfl|assumption|(simp only [znl,znP5];(first|done|fail)))))) (h3 : AllB n0 σ H fz h := by repeat' (first|(with_reducible first|exact ya1|exact ya2|exact ya3|refine jx rfl (by first|rfl|assumption|(simp only [znl,znP5];(first|done|fail)))|exact ya5|exact ya7|exact jy|exact jz|refine jA ?_|refine ya9 ?_ ?_ ?_|refine jC rfl (by first|rfl|assumption|(simp only [znl,znP5];(first|done|fail)))|refine MR.agg (MRL.cons ?_ ?_)|refine MR.fn ?_|refine MRL.cons ?_ ?_|exact MRL.nil|refine jE ?_ ?_|exact jF|exact jG|refine yb1 ?_ ?_|refine MB.row ?_|refine jI ?_ ?_|exact ya8|refine jJ rfl (by first|rfl|assumption|(simp only [znl,znP5];(first|done|fail)))|refine yb2 ?_|rfl)|(simp only [znl,znP5];(first|done|fail))|(simp only [↓reduceIte,zlk,Nat.reduceEqDiff,reduceCtorEq])|(with_reducible first|refine jJ ?_ ?_|refine ya5 ?_|refine ju ?_|refine jv ?_|refine jw ?_|refine jx ?_ (by first|rfl|assumption|(simp only [znl,znP5];(first|done|fail)))|refine jC ?_ (by first|rfl|assumption|(simp only [znl,znP5];(first|done|fail)))))) (hfz : fz = true → n0 = 0 := by first | (intro h; cases h; done) | exact fun _ => rfl) (hσ : jN n0 n' (h.map (·.1)) σ = true := by first | decide | rfl | (simp [jN]; done)) (hn : n0 ≤ n' := by decide) : Ren n0 ⟨tm, H, n⟩ ⟨slots l, rows h, n'⟩ := yrn σ fz h1 h3 hfz hσ hn
theorem ynP5 {l : List VV} (h : nls l = true := by first|rfl|assumption|(simp only [znl,znP5];(first|done|fail))) : nls l = true := h
set_option maxRecDepth 100000
def znP5 := And.intro @jO <| And.intro @jP <| And.intro @jQ <| And.intro @jR <| And.intro @jS <| And.intro @jT <| And.intro @jU <| True.intro
set_option maxHeartbeats 4000000
theorem volE_or (v : Frames) : volE v = 0 ∨ volE v = 3 := by
 unfold volE
 dsimp only
 repeat' split
 all_goals first | exact .inl rfl | exact .inr rfl
theorem gof_len (v : Frames) (hv : v.length ≤ 20000) (hs : ∀ s ∈ v, s.length ≤ 2 ^ 47) (k0 : Nat) (hk0 : k0 < v.length) (hk1 : (v.getD k0 []).length ≠ 128) : Spec Try.prog 114 [encStrs v] (.tup [geoV ⟨0, 0, 0, 0, 0, 0⟩, .int .i64 3]) := by
 have h6 : ∀ a : VV, List.replicate 6 a = [a, a, a, a, a, a] := fun _ => rfl
 refine spec_ok Try.func114 rfl rfl (by kernel_rfl) (k := 1) rfl (by decide) ?_
 simp only [geoV]
 repeat' (first|(with_reducible first|refine yrl (by constructor) ?_|refine jk (fun M hM=>?_)|(refine hM _ ?_;clear hM M)|refine yx3 ?_|refine yxa ?_ ?_|refine yxb ?_ ?_)|((with_reducible refine je ?_)<;>exact ynP5)|(with_reducible refine yxc ?_)|((with_reducible refine yxi (fun hc=>?_) (fun hc=>?_))<;>(try simp (disch:=omega) only [zhb] at hc)<;>(try (exfalso;omega))<;>(try subst hc))|(with_reducible refine yxw ?_)|(simp (config := { maxSteps := 400000 }) only [↓jt,↓reduceIte,zvs,reduceCtorEq,seval,tab,h6,Try.results114,jTA])|(simp (disch:=omega) only [ziw]))
 refine ok_loop (fun k : Nat => ⟨slots [(0, encStrs v), (2, .ptr 0 []), (10, encStrs v), (11, .int .i64 v.length), (12, .int .i64 k)], rows [(0, .row geoSh (.agg [.int .i64 0, .int .i64 0, .int .i64 0, .int .i64 0, .int .i64 0, .int .i64 0]))], 1⟩) (fun k => k ≤ k0) (fun k => v.length - k) 0 ?_ (Nat.zero_le _) (fun k hk => ?_)
 ·(exact ytP50 [(0, 0)] false)
  all_goals (first | rfl)
 have hsk := hs _ (getD_mem' (show k < v.length by omega))
 rw [default_str] at hsk
 repeat' (first|(with_reducible first|refine yrl (by constructor) ?_|refine jk (fun M hM=>?_)|(refine hM _ ?_;clear hM M)|refine yx3 ?_|refine yxa ?_ ?_|refine yxb ?_ ?_)|((with_reducible refine je ?_)<;>exact ynP5)|(with_reducible refine yxc ?_)|((with_reducible refine yxi (fun hc=>?_) (fun hc=>?_))<;>(try simp (disch:=omega) only [zhb] at hc)<;>(try (exfalso;omega))<;>(try subst hc))|(with_reducible refine yxw ?_)|(simp (config := { maxSteps := 400000 }) only [↓jt,↓reduceIte,zvs,reduceCtorEq,seval,tab,h6,Try.results114,jTA])|(simp (disch:=omega) only [ziw]))
 all_goals first
  | (exfalso; omega)
  | (simp only [zrds]; done)
  | (refine xl1 (k + 1) ?_ (by by_cases e : k = k0; (subst e; exfalso; omega); show k + 1 ≤ k0; omega) (by show v.length - (k + 1) < v.length - k; omega); (exact ytP51 [(0, 0)] false); done)
theorem gof_few (v : Frames) (hA : ∀ s ∈ v, s.length = 128) (hv : v.length < 16) : Spec Try.prog 114 [encStrs v] (.tup [geoV ⟨0, 0, 0, 0, 0, 0⟩, .int .i64 3]) := by
 have h6 : ∀ a : VV, List.replicate 6 a = [a, a, a, a, a, a] := fun _ => rfl
 refine spec_ok Try.func114 rfl rfl (by kernel_rfl) (k := 1) rfl (by decide) ?_
 simp only [geoV]
 repeat' (first|(with_reducible first|refine yrl (by constructor) ?_|refine jk (fun M hM=>?_)|(refine hM _ ?_;clear hM M)|refine yx3 ?_|refine yxa ?_ ?_|refine yxb ?_ ?_)|((with_reducible refine je ?_)<;>exact ynP5)|(with_reducible refine yxc ?_)|((with_reducible refine yxi (fun hc=>?_) (fun hc=>?_))<;>(try simp (disch:=omega) only [zhb] at hc)<;>(try (exfalso;omega))<;>(try subst hc))|(with_reducible refine yxw ?_)|(simp (config := { maxSteps := 400000 }) only [↓jt,↓reduceIte,zvs,reduceCtorEq,seval,tab,h6,Try.results114,jTA])|(simp (disch:=omega) only [ziw]))
 refine ok_loop (fun k : Nat => ⟨slots [(0, encStrs v), (2, .ptr 0 []), (10, encStrs v), (11, .int .i64 v.length), (12, .int .i64 k)], rows [(0, .row geoSh (.agg [.int .i64 0, .int .i64 0, .int .i64 0, .int .i64 0, .int .i64 0, .int .i64 0]))], 1⟩) (fun k => k ≤ v.length) (fun k => v.length - k) 0 ?_ (Nat.zero_le _) (fun k hk => ?_)
 ·(exact ytP50 [(0, 0)] false)
  all_goals (first | rfl)
 by_cases hlt : k < v.length
 ·have hsk := hA _ (getD_mem' hlt)
  rw [default_str] at hsk
  repeat' (first|(with_reducible first|refine yrl (by constructor) ?_|refine jk (fun M hM=>?_)|(refine hM _ ?_;clear hM M)|refine yx3 ?_|refine yxa ?_ ?_|refine yxb ?_ ?_)|((with_reducible refine je ?_)<;>exact ynP5)|(with_reducible refine yxc ?_)|((with_reducible refine yxi (fun hc=>?_) (fun hc=>?_))<;>(try simp (disch:=omega) only [zhb] at hc)<;>(try (exfalso;omega))<;>(try subst hc))|(with_reducible refine yxw ?_)|(simp (config := { maxSteps := 400000 }) only [↓jt,↓reduceIte,zvs,reduceCtorEq,seval,tab,h6,hsk,Try.results114,jTA])|(simp (disch:=omega) only [ziw]))
  all_goals first
   | (exfalso; omega)
   | (refine xl1 (k + 1) ?_ (by show k + 1 ≤ v.length; omega) (by show v.length - (k + 1) < v.length - k; omega); (exact ytP51 [(0, 0)] false); done)
 obtain rfl : k = v.length := by omega
 repeat' (first|(with_reducible first|refine yrl (by constructor) ?_|refine jk (fun M hM=>?_)|(refine hM _ ?_;clear hM M)|refine yx3 ?_|refine yxa ?_ ?_|refine yxb ?_ ?_)|((with_reducible refine je ?_)<;>exact ynP5)|(with_reducible refine yxc ?_)|((with_reducible refine yxi (fun hc=>?_) (fun hc=>?_))<;>(try simp (disch:=omega) only [zhb] at hc)<;>(try (exfalso;omega))<;>(try subst hc))|(with_reducible refine yxw ?_)|(simp (config := { maxSteps := 400000 }) only [↓jt,↓reduceIte,zvs,reduceCtorEq,seval,tab,h6,Try.results114,jTA])|(simp (disch:=omega) only [ziw]))
 all_goals first
  | (exfalso; omega)
  | (simp only [zrds]; done)
theorem gof_plan (v : Frames) (hA : ∀ s ∈ v, s.length = 128) (hv : 16 ≤ v.length ∧ v.length ≤ 20000) (hp : (planG (getLE (((v.getD 0 []).drop 4).take 2)) (getLE (((v.getD 0 []).drop 6).take 2))).2 ≠ 0) : Spec Try.prog 114 [encStrs v] (.tup [geoV ⟨0, 0, 0, 0, 0, 0⟩, .int .i64 3]) := by
 have h6 : ∀ a : VV, List.replicate 6 a = [a, a, a, a, a, a] := fun _ => rfl
 have hl0 : (v.getD 0 []).length = 128 := by
  have := hA _ (getD_mem' (show 0 < v.length by omega))
  rw [default_str] at this
  exact this
 have hl2 : (v.getD 2 []).length = 128 := by
  have := hA _ (getD_mem' (show 2 < v.length by omega))
  rw [default_str] at this
  exact this
 have hb6 : ((v.getD 0 []).drop 6 |>.take 2).length = 2 := by rw [List.length_take, List.length_drop]; omega
 have hb4 : ((v.getD 0 []).drop 4 |>.take 2).length = 2 := by rw [List.length_take, List.length_drop]; omega
 have hN6 := num_get_spec (((v.getD 0 []).drop 6).take 2) (by omega)
 have hN4 := num_get_spec (((v.getD 0 []).drop 4).take 2) (by omega)
 rw [show List.take 8 (((v.getD 0 []).drop 6).take 2) = ((v.getD 0 []).drop 6).take 2 from List.take_of_length_le (by omega)] at hN6
 rw [show List.take 8 (((v.getD 0 []).drop 4).take 2) = ((v.getD 0 []).drop 4).take 2 from List.take_of_length_le (by omega)] at hN4
 have hNl := getLE_lt (((v.getD 0 []).drop 6).take 2)
 rw [hb6] at hNl
 have hMl := getLE_lt (((v.getD 0 []).drop 4).take 2)
 rw [hb4] at hMl
 generalize getLE (((v.getD 0 []).drop 6).take 2) = ino at hN6 hNl hp
 generalize getLE (((v.getD 0 []).drop 4).take 2) = blk at hN4 hMl hp
 have hP := gplan_spec blk ino (by omega) (by omega)
 obtain ⟨e, he, hP⟩ : ∃ e : Int, (e = 2 ∨ e = 10) ∧ Spec Try.prog 140 [.int .i64 blk, .int .i64 ino] (.tup [.agg [.int .i64 0, .int .i64 0, .int .i64 0, .int .i64 0, .int .i64 0, .int .i64 0], .int .i64 e]) := by
  unfold planG at hp hP
  split at hP
  ·exact ⟨2, .inl rfl, hP⟩
  ·rename_i c1
   split at hP
   ·exact ⟨10, .inr rfl, hP⟩
   ·rename_i c2
    rw [if_neg c1, if_neg c2] at hp
    exact absurd rfl hp
 clear hp
 refine spec_ok Try.func114 rfl rfl (by kernel_rfl) (k := 1) rfl (by decide) ?_
 simp only [geoV]
 repeat' (first|(with_reducible first|refine yrl (by constructor) ?_|refine jk (fun M hM=>?_)|(refine hM _ ?_;clear hM M)|refine yx3 ?_|refine yxa ?_ ?_|refine yxb ?_ ?_)|((with_reducible refine je ?_)<;>exact ynP5)|(with_reducible refine yxc ?_)|((with_reducible refine yxi (fun hc=>?_) (fun hc=>?_))<;>(try simp (disch:=omega) only [zhb] at hc)<;>(try (exfalso;omega))<;>(try subst hc))|(with_reducible refine yxw ?_)|(simp (config := { maxSteps := 400000 }) only [↓jt,↓reduceIte,zvs,reduceCtorEq,seval,tab,h6,Try.results114,jTA])|(simp (disch:=omega) only [ziw]))
 refine ok_loop (fun k : Nat => ⟨slots [(0, encStrs v), (2, .ptr 0 []), (10, encStrs v), (11, .int .i64 v.length), (12, .int .i64 k)], rows [(0, .row geoSh (.agg [.int .i64 0, .int .i64 0, .int .i64 0, .int .i64 0, .int .i64 0, .int .i64 0]))], 1⟩) (fun k => k ≤ v.length) (fun k => v.length - k) 0 ?_ (Nat.zero_le _) (fun k hk => ?_)
 ·(exact ytP50 [(0, 0)] false)
  all_goals (first | rfl)
 by_cases hlt : k < v.length
 ·have hsk := hA _ (getD_mem' hlt)
  rw [default_str] at hsk
  repeat' (first|(with_reducible first|refine yrl (by constructor) ?_|refine jk (fun M hM=>?_)|(refine hM _ ?_;clear hM M)|refine yx3 ?_|refine yxa ?_ ?_|refine yxb ?_ ?_)|((with_reducible refine je ?_)<;>exact ynP5)|(with_reducible refine yxc ?_)|((with_reducible refine yxi (fun hc=>?_) (fun hc=>?_))<;>(try simp (disch:=omega) only [zhb] at hc)<;>(try (exfalso;omega))<;>(try subst hc))|(with_reducible refine yxw ?_)|(simp (config := { maxSteps := 400000 }) only [↓jt,↓reduceIte,zvs,reduceCtorEq,seval,tab,h6,hsk,Try.results114,jTA])|(simp (disch:=omega) only [ziw]))
  all_goals first
   | (exfalso; omega)
   | (refine xl1 (k + 1) ?_ (by show k + 1 ≤ v.length; omega) (by show v.length - (k + 1) < v.length - k; omega); (exact ytP51 [(0, 0)] false); done)
 obtain rfl : k = v.length := by omega
 repeat' (first|(with_reducible first|refine yrl (by constructor) ?_|refine jk (fun M hM=>?_)|(refine hM _ ?_;clear hM M)|refine yx3 ?_|refine yxa ?_ ?_|refine yxb ?_ ?_)|((with_reducible refine je ?_)<;>exact ynP5)|(with_reducible refine yxc ?_)|((with_reducible refine yxi (fun hc=>?_) (fun hc=>?_))<;>(try simp (disch:=omega) only [zhb] at hc)<;>(try (exfalso;omega))<;>(try subst hc))|(with_reducible refine yxw ?_)|(simp (config := { maxSteps := 400000 }) only [↓jt,↓reduceIte,zvs,reduceCtorEq,seval,tab,h6,hl0,Try.results114,jTA])|(simp (disch:=omega) only [ziw]))
 all_goals (try (exfalso; omega))
 refine ok_drawF 19 [0, 1, 2, 3, 4, 5, 6, 7, 8, 9, 10, 11, 12, 13, 14, 15, 18, 16] 17 17 1089 (by kernel_rfl) (by decide +kernel) (by decide) (by decide) (by intro m hm; simp only [upd_ap,rows_cons,rows_nil]; (repeat (first | rfl | rw [if_neg (by omega)]))) (fun M hM => ?_); simp only [picks,List.getElem?_cons_succ,List.getElem?_cons_zero,List.drop_succ_cons,List.drop_zero]
 repeat' (first|(with_reducible first|refine yrl (by constructor) ?_|refine jk (fun M hM=>?_)|(refine hM _ ?_;clear hM M)|refine yx3 ?_|refine yxa ?_ ?_|refine yxb ?_ ?_)|((with_reducible refine je ?_)<;>exact ynP5)|(with_reducible refine yxc ?_)|((with_reducible refine yxi (fun hc=>?_) (fun hc=>?_))<;>(try simp (disch:=omega) only [zhb] at hc)<;>(try (exfalso;omega))<;>(try subst hc))|(with_reducible refine yxw ?_)|(simp (config := { maxSteps := 400000 }) only [↓jt,↓reduceIte,zvs,reduceCtorEq,seval,tab,h6,hl0,storeAt_go,isP_ptr,Try.results114,jTA])|(simp (disch:=omega) only [ziw]))
 refine ok_drawC 16 (by kernel_rfl) (by decide +kernel) (by intro m hm; simp only [upd_ap,rows_cons,rows_nil]; (repeat (first | rfl | rw [if_neg (by omega)]))) (fun M hM => ?_); simp only [List.take_succ_cons,List.take_zero,List.drop_succ_cons,List.drop_zero]
 repeat' (first|(with_reducible first|refine yrl (by constructor) ?_|refine jk (fun M hM=>?_)|(refine hM _ ?_;clear hM M)|refine yx3 ?_|refine yxa ?_ ?_|refine yxb ?_ ?_)|((with_reducible refine je ?_)<;>exact ynP5)|(with_reducible refine yxc ?_)|((with_reducible refine yxi (fun hc=>?_) (fun hc=>?_))<;>(try simp (disch:=omega) only [zhb] at hc)<;>(try (exfalso;omega))<;>(try subst hc))|(with_reducible refine yxw ?_)|(simp (config := { maxSteps := 400000 }) only [↓jt,↓reduceIte,zvs,reduceCtorEq,seval,tab,h6,hl0,Try.results114,jTA])|(simp (disch:=omega) only [ziw]))
 all_goals first
  | (exfalso; omega)
  | (simp only [zrds]; done)
theorem gof_head (v : Frames) (hA : ∀ s ∈ v, s.length = 128) (hv : 16 ≤ v.length ∧ v.length ≤ 20000) (bn ino : Nat) (e4 : getLE (((v.getD 0 []).drop 4).take 2) = bn) (e6 : getLE (((v.getD 0 []).drop 6).take 2) = ino) (hp : planG bn ino = (⟨bn, ino, 1, 2, 3, 3 + ((ino : Int) + 1) / 2⟩, 0)) (hb : 16 ≤ bn ∧ bn ≤ 223) (hi : 4 ≤ ino ∧ ino ≤ 64) (hd : ¬(bn = v.length ∧ v.getD 0 [] = headG bn ino)) : Spec Try.prog 114 [encStrs v] (.tup [geoV ⟨0, 0, 0, 0, 0, 0⟩, .int .i64 3]) := by
 have h6 : ∀ a : VV, List.replicate 6 a = [a, a, a, a, a, a] := fun _ => rfl
 have hl0 : (v.getD 0 []).length = 128 := by
  have := hA _ (getD_mem' (show 0 < v.length by omega))
  rw [default_str] at this
  exact this
 have hl2 : (v.getD 2 []).length = 128 := by
  have := hA _ (getD_mem' (show 2 < v.length by omega))
  rw [default_str] at this
  exact this
 have hb6 : ((v.getD 0 []).drop 6 |>.take 2).length = 2 := by rw [List.length_take, List.length_drop]; omega
 have hb4 : ((v.getD 0 []).drop 4 |>.take 2).length = 2 := by rw [List.length_take, List.length_drop]; omega
 have hN6 := num_get_spec (((v.getD 0 []).drop 6).take 2) (by omega)
 have hN4 := num_get_spec (((v.getD 0 []).drop 4).take 2) (by omega)
 rw [show List.take 8 (((v.getD 0 []).drop 6).take 2) = ((v.getD 0 []).drop 6).take 2 from List.take_of_length_le (by omega)] at hN6
 rw [show List.take 8 (((v.getD 0 []).drop 4).take 2) = ((v.getD 0 []).drop 4).take 2 from List.take_of_length_le (by omega)] at hN4
 have hNl := getLE_lt (((v.getD 0 []).drop 6).take 2)
 rw [hb6] at hNl
 have hMl := getLE_lt (((v.getD 0 []).drop 4).take 2)
 rw [hb4] at hMl
 rw [e6] at hN6 hNl
 rw [e4] at hN4 hMl
 have hP := gplan_spec bn ino (by omega) (by omega)
 rw [hp] at hP
 simp only [planV,geoV] at hP
 have hH := gfirst_spec ⟨bn, ino, 1, 2, 3, 3 + ((ino : Int) + 1) / 2⟩ (by dsimp only; omega) (by dsimp only; omega)
 simp only [geoV] at hH
 clear hp e4 e6
 generalize headG bn ino = hd0 at hH hd
 refine spec_ok Try.func114 rfl rfl (by kernel_rfl) (k := 1) rfl (by decide) ?_
 simp only [geoV]
 repeat' (first|(with_reducible first|refine yrl (by constructor) ?_|refine jk (fun M hM=>?_)|(refine hM _ ?_;clear hM M)|refine yx3 ?_|refine yxa ?_ ?_|refine yxb ?_ ?_)|((with_reducible refine je ?_)<;>exact ynP5)|(with_reducible refine yxc ?_)|((with_reducible refine yxi (fun hc=>?_) (fun hc=>?_))<;>(try simp (disch:=omega) only [zhb] at hc)<;>(try (exfalso;omega))<;>(try subst hc))|(with_reducible refine yxw ?_)|(simp (config := { maxSteps := 400000 }) only [↓jt,↓reduceIte,zvs,reduceCtorEq,seval,tab,h6,Try.results114,jTA])|(simp (disch:=omega) only [ziw]))
 refine ok_loop (fun k : Nat => ⟨slots [(0, encStrs v), (2, .ptr 0 []), (10, encStrs v), (11, .int .i64 v.length), (12, .int .i64 k)], rows [(0, .row geoSh (.agg [.int .i64 0, .int .i64 0, .int .i64 0, .int .i64 0, .int .i64 0, .int .i64 0]))], 1⟩) (fun k => k ≤ v.length) (fun k => v.length - k) 0 ?_ (Nat.zero_le _) (fun k hk => ?_)
 ·(exact ytP50 [(0, 0)] false)
  all_goals (first | rfl)
 by_cases hlt : k < v.length
 ·have hsk := hA _ (getD_mem' hlt)
  rw [default_str] at hsk
  repeat' (first|(with_reducible first|refine yrl (by constructor) ?_|refine jk (fun M hM=>?_)|(refine hM _ ?_;clear hM M)|refine yx3 ?_|refine yxa ?_ ?_|refine yxb ?_ ?_)|((with_reducible refine je ?_)<;>exact ynP5)|(with_reducible refine yxc ?_)|((with_reducible refine yxi (fun hc=>?_) (fun hc=>?_))<;>(try simp (disch:=omega) only [zhb] at hc)<;>(try (exfalso;omega))<;>(try subst hc))|(with_reducible refine yxw ?_)|(simp (config := { maxSteps := 400000 }) only [↓jt,↓reduceIte,zvs,reduceCtorEq,seval,tab,h6,hsk,Try.results114,jTA])|(simp (disch:=omega) only [ziw]))
  all_goals first
   | (exfalso; omega)
   | (refine xl1 (k + 1) ?_ (by show k + 1 ≤ v.length; omega) (by show v.length - (k + 1) < v.length - k; omega); (exact ytP51 [(0, 0)] false); done)
 obtain rfl : k = v.length := by omega
 repeat' (first|(with_reducible first|refine yrl (by constructor) ?_|refine jk (fun M hM=>?_)|(refine hM _ ?_;clear hM M)|refine yx3 ?_|refine yxa ?_ ?_|refine yxb ?_ ?_)|((with_reducible refine je ?_)<;>exact ynP5)|(with_reducible refine yxc ?_)|((with_reducible refine yxi (fun hc=>?_) (fun hc=>?_))<;>(try simp (disch:=omega) only [zhb] at hc)<;>(try (exfalso;omega))<;>(try subst hc))|(with_reducible refine yxw ?_)|(simp (config := { maxSteps := 400000 }) only [↓jt,↓reduceIte,zvs,reduceCtorEq,seval,tab,h6,hl0,Try.results114,jTA])|(simp (disch:=omega) only [ziw]))
 all_goals (try (exfalso; omega))
 refine ok_drawF 19 [0, 1, 2, 3, 4, 5, 6, 7, 8, 9, 10, 11, 12, 13, 14, 15, 18, 16] 17 17 1089 (by kernel_rfl) (by decide +kernel) (by decide) (by decide) (by intro m hm; simp only [upd_ap,rows_cons,rows_nil]; (repeat (first | rfl | rw [if_neg (by omega)]))) (fun M hM => ?_); simp only [picks,List.getElem?_cons_succ,List.getElem?_cons_zero,List.drop_succ_cons,List.drop_zero]
 repeat' (first|(with_reducible first|refine yrl (by constructor) ?_|refine jk (fun M hM=>?_)|(refine hM _ ?_;clear hM M)|refine yx3 ?_|refine yxa ?_ ?_|refine yxb ?_ ?_)|((with_reducible refine je ?_)<;>exact ynP5)|(with_reducible refine yxc ?_)|((with_reducible refine yxi (fun hc=>?_) (fun hc=>?_))<;>(try simp (disch:=omega) only [zhb] at hc)<;>(try (exfalso;omega))<;>(try subst hc))|(with_reducible refine yxw ?_)|(simp (config := { maxSteps := 400000 }) only [↓jt,↓reduceIte,zvs,reduceCtorEq,seval,tab,h6,hl0,storeAt_go,isP_ptr,Try.results114,jTA])|(simp (disch:=omega) only [ziw]))
 refine ok_drawC 16 (by kernel_rfl) (by decide +kernel) (by intro m hm; simp only [upd_ap,rows_cons,rows_nil]; (repeat (first | rfl | rw [if_neg (by omega)]))) (fun M hM => ?_); simp only [List.take_succ_cons,List.take_zero,List.drop_succ_cons,List.drop_zero]
 repeat' (first|(with_reducible first|refine yrl (by constructor) ?_|refine jk (fun M hM=>?_)|(refine hM _ ?_;clear hM M)|refine yx3 ?_|refine yxa ?_ ?_|refine yxb ?_ ?_)|((with_reducible refine je ?_)<;>exact ynP5)|(with_reducible refine yxc ?_)|((with_reducible refine yxi (fun hc=>?_) (fun hc=>?_))<;>(try simp (disch:=omega) only [zhb] at hc)<;>(try (exfalso;omega))<;>(try subst hc))|(with_reducible refine yxw ?_)|(simp (config := { maxSteps := 400000 }) only [↓jt,↓reduceIte,zvs,reduceCtorEq,seval,tab,h6,hl0,Try.results114,jTA])|(simp (disch:=omega) only [ziw]))
 all_goals first
  | (exfalso; omega)
  | (simp only [zrds]; done)
  | (exfalso; exact hd ⟨by omega, by first | rfl | assumption⟩)
theorem gof_map (v : Frames) (hA : ∀ s ∈ v, s.length = 128) (hv : 16 ≤ v.length ∧ v.length ≤ 20000) (bn ino k0 : Nat) (e4 : getLE (((v.getD 0 []).drop 4).take 2) = bn) (e6 : getLE (((v.getD 0 []).drop 6).take 2) = ino) (hp : planG bn ino = (⟨bn, ino, 1, 2, 3, 3 + ((ino : Int) + 1) / 2⟩, 0)) (hb : 16 ≤ bn ∧ bn ≤ 223) (hi : 4 ≤ ino ∧ ino ≤ 64) (hbv : bn = v.length) (hd : v.getD 0 [] = headG bn ino) (hk0 : k0 < 1024) (hQ0 : (!((decide ((k0 : Int) < 3 + ((ino : Int) + 1) / 2) && !bitB (v.getD 2 []) k0) || (decide ((v.length : Int) ≤ k0) && bitB (v.getD 2 []) k0))) = false) : Spec Try.prog 114 [encStrs v] (.tup [geoV ⟨0, 0, 0, 0, 0, 0⟩, .int .i64 3]) := by
 have h6 : ∀ a : VV, List.replicate 6 a = [a, a, a, a, a, a] := fun _ => rfl
 have hl0 : (v.getD 0 []).length = 128 := by
  have := hA _ (getD_mem' (show 0 < v.length by omega))
  rw [default_str] at this
  exact this
 have hl2 : (v.getD 2 []).length = 128 := by
  have := hA _ (getD_mem' (show 2 < v.length by omega))
  rw [default_str] at this
  exact this
 have hb6 : ((v.getD 0 []).drop 6 |>.take 2).length = 2 := by rw [List.length_take, List.length_drop]; omega
 have hb4 : ((v.getD 0 []).drop 4 |>.take 2).length = 2 := by rw [List.length_take, List.length_drop]; omega
 have hN6 := num_get_spec (((v.getD 0 []).drop 6).take 2) (by omega)
 have hN4 := num_get_spec (((v.getD 0 []).drop 4).take 2) (by omega)
 rw [show List.take 8 (((v.getD 0 []).drop 6).take 2) = ((v.getD 0 []).drop 6).take 2 from List.take_of_length_le (by omega)] at hN6
 rw [show List.take 8 (((v.getD 0 []).drop 4).take 2) = ((v.getD 0 []).drop 4).take 2 from List.take_of_length_le (by omega)] at hN4
 have hNl := getLE_lt (((v.getD 0 []).drop 6).take 2)
 rw [hb6] at hNl
 have hMl := getLE_lt (((v.getD 0 []).drop 4).take 2)
 rw [hb4] at hMl
 rw [e6] at hN6 hNl
 rw [e4] at hN4 hMl
 have hP := gplan_spec bn ino (by omega) (by omega)
 rw [hp] at hP
 simp only [planV,geoV] at hP
 have hH := gfirst_spec ⟨bn, ino, 1, 2, 3, 3 + ((ino : Int) + 1) / 2⟩ (by dsimp only; omega) (by dsimp only; omega)
 simp only [geoV] at hH
 clear hp e4 e6
 rw [← hd] at hH
 subst hbv
 refine spec_ok Try.func114 rfl rfl (by kernel_rfl) (k := 1) rfl (by decide) ?_
 simp only [geoV]
 repeat' (first|(with_reducible first|refine yrl (by constructor) ?_|refine jk (fun M hM=>?_)|(refine hM _ ?_;clear hM M)|refine yx3 ?_|refine yxa ?_ ?_|refine yxb ?_ ?_)|((with_reducible refine je ?_)<;>exact ynP5)|(with_reducible refine yxc ?_)|((with_reducible refine yxi (fun hc=>?_) (fun hc=>?_))<;>(try simp (disch:=omega) only [zhb] at hc)<;>(try (exfalso;omega))<;>(try subst hc))|(with_reducible refine yxw ?_)|(simp (config := { maxSteps := 400000 }) only [↓jt,↓reduceIte,zvs,reduceCtorEq,seval,tab,h6,Try.results114,jTA])|(simp (disch:=omega) only [ziw]))
 refine ok_loop (fun k : Nat => ⟨slots [(0, encStrs v), (2, .ptr 0 []), (10, encStrs v), (11, .int .i64 v.length), (12, .int .i64 k)], rows [(0, .row geoSh (.agg [.int .i64 0, .int .i64 0, .int .i64 0, .int .i64 0, .int .i64 0, .int .i64 0]))], 1⟩) (fun k => k ≤ v.length) (fun k => v.length - k) 0 ?_ (Nat.zero_le _) (fun k hk => ?_)
 ·(exact ytP50 [(0, 0)] false)
  all_goals (first | rfl)
 by_cases hlt : k < v.length
 ·have hsk := hA _ (getD_mem' hlt)
  rw [default_str] at hsk
  repeat' (first|(with_reducible first|refine yrl (by constructor) ?_|refine jk (fun M hM=>?_)|(refine hM _ ?_;clear hM M)|refine yx3 ?_|refine yxa ?_ ?_|refine yxb ?_ ?_)|((with_reducible refine je ?_)<;>exact ynP5)|(with_reducible refine yxc ?_)|((with_reducible refine yxi (fun hc=>?_) (fun hc=>?_))<;>(try simp (disch:=omega) only [zhb] at hc)<;>(try (exfalso;omega))<;>(try subst hc))|(with_reducible refine yxw ?_)|(simp (config := { maxSteps := 400000 }) only [↓jt,↓reduceIte,zvs,reduceCtorEq,seval,tab,h6,hsk,Try.results114,jTA])|(simp (disch:=omega) only [ziw]))
  all_goals first
   | (exfalso; omega)
   | (refine xl1 (k + 1) ?_ (by show k + 1 ≤ v.length; omega) (by show v.length - (k + 1) < v.length - k; omega); (exact ytP51 [(0, 0)] false); done)
 obtain rfl : k = v.length := by omega
 repeat' (first|(with_reducible first|refine yrl (by constructor) ?_|refine jk (fun M hM=>?_)|(refine hM _ ?_;clear hM M)|refine yx3 ?_|refine yxa ?_ ?_|refine yxb ?_ ?_)|((with_reducible refine je ?_)<;>exact ynP5)|(with_reducible refine yxc ?_)|((with_reducible refine yxi (fun hc=>?_) (fun hc=>?_))<;>(try simp (disch:=omega) only [zhb] at hc)<;>(try (exfalso;omega))<;>(try subst hc))|(with_reducible refine yxw ?_)|(simp (config := { maxSteps := 400000 }) only [↓jt,↓reduceIte,zvs,reduceCtorEq,seval,tab,h6,hl0,Try.results114,jTA])|(simp (disch:=omega) only [ziw]))
 all_goals (try (exfalso; omega))
 refine ok_drawF 19 [0, 1, 2, 3, 4, 5, 6, 7, 8, 9, 10, 11, 12, 13, 14, 15, 18, 16] 17 17 1089 (by kernel_rfl) (by decide +kernel) (by decide) (by decide) (by intro m hm; simp only [upd_ap,rows_cons,rows_nil]; (repeat (first | rfl | rw [if_neg (by omega)]))) (fun M hM => ?_); simp only [picks,List.getElem?_cons_succ,List.getElem?_cons_zero,List.drop_succ_cons,List.drop_zero]
 repeat' (first|(with_reducible first|refine yrl (by constructor) ?_|refine jk (fun M hM=>?_)|(refine hM _ ?_;clear hM M)|refine yx3 ?_|refine yxa ?_ ?_|refine yxb ?_ ?_)|((with_reducible refine je ?_)<;>exact ynP5)|(with_reducible refine yxc ?_)|((with_reducible refine yxi (fun hc=>?_) (fun hc=>?_))<;>(try simp (disch:=omega) only [zhb] at hc)<;>(try (exfalso;omega))<;>(try subst hc))|(with_reducible refine yxw ?_)|(simp (config := { maxSteps := 400000 }) only [↓jt,↓reduceIte,zvs,reduceCtorEq,seval,tab,h6,hl0,storeAt_go,isP_ptr,Try.results114,jTA])|(simp (disch:=omega) only [ziw]))
 refine ok_drawC 16 (by kernel_rfl) (by decide +kernel) (by intro m hm; simp only [upd_ap,rows_cons,rows_nil]; (repeat (first | rfl | rw [if_neg (by omega)]))) (fun M hM => ?_); simp only [List.take_succ_cons,List.take_zero,List.drop_succ_cons,List.drop_zero]
 repeat' (first|(with_reducible first|refine yrl (by constructor) ?_|refine jk (fun M hM=>?_)|(refine hM _ ?_;clear hM M)|refine yx3 ?_|refine yxa ?_ ?_|refine yxb ?_ ?_)|((with_reducible refine je ?_)<;>exact ynP5)|(with_reducible refine yxc ?_)|((with_reducible refine yxi (fun hc=>?_) (fun hc=>?_))<;>(try simp (disch:=omega) only [zhb] at hc)<;>(try (exfalso;omega))<;>(try subst hc))|(with_reducible refine yxw ?_)|(simp (config := { maxSteps := 400000 }) only [↓jt,↓reduceIte,zvs,reduceCtorEq,seval,tab,h6,hl0,Try.results114,jTA])|(simp (disch:=omega) only [ziw]))
 all_goals (try (exfalso; omega))
 refine ok_loop (fun k : Nat => ⟨slots [(0, encStrs v), (2, .ptr 0 []), (6, .ptr 1 []), (59, .int .i64 k)], rows [(0, .row geoSh (.agg [.int .i64 0, .int .i64 0, .int .i64 0, .int .i64 0, .int .i64 0, .int .i64 0])), (1, .row geoSh (.agg [.int .i64 v.length, .int .i64 ino, .int .i64 1, .int .i64 2, .int .i64 3, .int .i64 (3 + ((ino : Int) + 1) / 2)]))], 2⟩) (fun k => k ≤ k0) (fun k => 1024 - k) 0 ?_ (Nat.zero_le _) (fun k hk => ?_)
 ·(exact ytP50 [(0, 0), (1, 1089)] false)
  all_goals (first | rfl)
 have hB := gbit_spec v (by omega) hl2 k (by omega)
 have hst : (¬((k : Int) < 3 + ((ino : Int) + 1) / 2 ∧ bitB (v.getD 2 []) k = false) ∧ ¬((v.length : Int) ≤ k ∧ bitB (v.getD 2 []) k = true)) → k + 1 ≤ k0 := fun h => by
  refine Decidable.byContradiction fun hc => ?_
  obtain rfl : k = k0 := by omega
  cases hbb : bitB (v.getD 2 []) k with
  | true =>
   rw [hbb, decide_eq_false (fun x => h.2 ⟨x, hbb⟩), Bool.not_true, Bool.and_false] at hQ0
   cases hQ0
  | false =>
   rw [hbb, decide_eq_false (fun x => h.1 ⟨x, hbb⟩), Bool.and_false] at hQ0
   cases hQ0
 generalize bitB (v.getD 2 []) k = b at hB hst
 cases b
 ·have hst : ¬(k : Int) < 3 + ((ino : Int) + 1) / 2 → k + 1 ≤ k0 := fun h => hst ⟨fun x => h x.1, fun x => (by cases x.2)⟩
  repeat' (first|(with_reducible first|refine yrl (by constructor) ?_|refine jk (fun M hM=>?_)|(refine hM _ ?_;clear hM M)|refine yx3 ?_|refine yxa ?_ ?_|refine yxb ?_ ?_)|((with_reducible refine je ?_)<;>exact ynP5)|(with_reducible refine yxc ?_)|((with_reducible refine yxi (fun hc=>?_) (fun hc=>?_))<;>(try simp (disch:=omega) only [zhb] at hc)<;>(try (exfalso;omega))<;>(try subst hc))|(with_reducible refine yxw ?_)|(simp (config := { maxSteps := 400000 }) only [↓jt,↓reduceIte,zvs,reduceCtorEq,seval,tab,h6,hl2,Try.results114,jTA])|(simp (disch:=omega) only [ziw]))
  all_goals first
   | (exfalso; omega)
   | (simp only [zrds]; done)
   | (refine xl1 (k + 1) ?_ (hst (by omega)) (by show 1024 - (k + 1) < 1024 - k; omega); (exact ytP51 [(0, 0), (1, 1)] false); done)
 ·have hst : ¬(v.length : Int) ≤ k → k + 1 ≤ k0 := fun h => hst ⟨fun x => (by cases x.2), fun x => h x.1⟩
  repeat' (first|(with_reducible first|refine yrl (by constructor) ?_|refine jk (fun M hM=>?_)|(refine hM _ ?_;clear hM M)|refine yx3 ?_|refine yxa ?_ ?_|refine yxb ?_ ?_)|((with_reducible refine je ?_)<;>exact ynP5)|(with_reducible refine yxc ?_)|((with_reducible refine yxi (fun hc=>?_) (fun hc=>?_))<;>(try simp (disch:=omega) only [zhb] at hc)<;>(try (exfalso;omega))<;>(try subst hc))|(with_reducible refine yxw ?_)|(simp (config := { maxSteps := 400000 }) only [↓jt,↓reduceIte,zvs,reduceCtorEq,seval,tab,h6,hl2,Try.results114,jTA])|(simp (disch:=omega) only [ziw]))
  all_goals first
   | (exfalso; omega)
   | (simp only [zrds]; done)
   | (refine xl1 (k + 1) ?_ (hst (by omega)) (by show 1024 - (k + 1) < 1024 - k; omega); (exact ytP51 [(0, 0), (1, 1)] false); done)
theorem gof_ex (v : Frames) (hv : v.length ≤ 20000) (hs : ∀ s ∈ v, s.length ≤ 2 ^ 47) : ∃ g, Spec Try.prog 114 [encStrs v] (.tup [geoV g, .int .i64 (volE v)]) := by
 rcases volE_or v with h0 | h0
 ·rw [h0]
  exact gof_ok v hv hs h0
 rw [h0]
 refine ⟨⟨0, 0, 0, 0, 0, 0⟩, ?_⟩
 by_cases hA : ∀ s ∈ v, s.length = 128
 ·by_cases h16 : v.length < 16
  ·exact gof_few v hA h16
  by_cases hp : (planG (getLE (((v.getD 0 []).drop 4).take 2)) (getLE (((v.getD 0 []).drop 6).take 2))).2 ≠ 0
  ·exact gof_plan v hA ⟨by omega, hv⟩ hp
  have hpl : 16 ≤ getLE (((v.getD 0 []).drop 4).take 2) ∧ getLE (((v.getD 0 []).drop 4).take 2) ≤ 223 ∧ 4 ≤ getLE (((v.getD 0 []).drop 6).take 2) ∧ getLE (((v.getD 0 []).drop 6).take 2) ≤ 64 ∧ planG (getLE (((v.getD 0 []).drop 4).take 2)) (getLE (((v.getD 0 []).drop 6).take 2)) = (⟨getLE (((v.getD 0 []).drop 4).take 2), getLE (((v.getD 0 []).drop 6).take 2), 1, 2, 3, 3 + ((getLE (((v.getD 0 []).drop 6).take 2) : Int) + 1) / 2⟩, 0) := by
   unfold planG at hp ⊢
   split at hp
   ·exact absurd (show (2 : Int) ≠ 0 by decide) hp
   ·split at hp
    ·exact absurd (show (10 : Int) ≠ 0 by decide) hp
    ·rename_i q1 q2
     rw [if_neg q1, if_neg q2]
     exact ⟨by omega, by omega, by omega, by omega, rfl⟩
  obtain ⟨b1, b2, b3, b4, hpl⟩ := hpl
  by_cases hd : getLE (((v.getD 0 []).drop 4).take 2) = v.length ∧ v.getD 0 [] = headG (getLE (((v.getD 0 []).drop 4).take 2)) (getLE (((v.getD 0 []).drop 6).take 2))
  ·have hk : ∃ k0 : Nat, k0 < 1024 ∧ (!((decide ((k0 : Int) < 3 + ((getLE (((v.getD 0 []).drop 6).take 2) : Int) + 1) / 2) && !bitB (v.getD 2 []) k0) || (decide ((v.length : Int) ≤ k0) && bitB (v.getD 2 []) k0))) = false := by
    refine Classical.byContradiction fun hc => ?_
    have hall : ((List.range 1024).all fun k => !((decide ((k : Int) < 3 + ((getLE (((v.getD 0 []).drop 6).take 2) : Int) + 1) / 2) && !bitB (v.getD 2 []) k) || (decide ((v.length : Int) ≤ k) && bitB (v.getD 2 []) k))) = true := by
     rw [List.all_eq_true]
     intro k hk
     refine Bool.not_eq_false _ |>.mp fun hf => hc ⟨k, List.mem_range.1 hk, hf⟩
    have h3 := h0
    unfold volE at h3
    rw [if_neg h16, if_neg] at h3
    ·dsimp only at h3
     rw [← hd.1, hpl, if_neg] at h3
     ·dsimp only at h3
      rw [hd.1, if_pos hall] at h3
      cases h3
     ·intro hx
      rcases hx with hx | hx
      ·exact hx rfl
      ·exact hx hd.2
    ·intro hx
     rw [List.any_eq_true] at hx
     obtain ⟨s, hs1, hs2⟩ := hx
     exact (of_decide_eq_true hs2) (hA s hs1)
   obtain ⟨k0, hk0, hQ0⟩ := hk
   exact gof_map v hA ⟨by omega, hv⟩ _ _ k0 rfl rfl hpl ⟨b1, b2⟩ ⟨b3, b4⟩ hd.1 hd.2 hk0 hQ0
  ·exact gof_head v hA ⟨by omega, hv⟩ _ _ rfl rfl hpl ⟨b1, b2⟩ ⟨b3, b4⟩ hd
 ·obtain ⟨s, hs1, hs2⟩ : ∃ s ∈ v, s.length ≠ 128 := by
   refine Classical.byContradiction fun hc => hA fun s hs1 => ?_
   exact Classical.byContradiction fun h2 => hc ⟨s, hs1, h2⟩
  obtain ⟨i, hi, rfl⟩ := List.mem_iff_getElem.1 hs1
  refine gof_len v hv hs i hi ?_
  rw [List.getD_eq_getElem?_getD, List.getElem?_eq_getElem hi]
  exact hs2
end Go.Proofs.Ytpdhdkpebbfnnaa.V
end
section
namespace Go.Proofs.Ytpdhdkpebbfnnaa.V
open Go
theorem ynP4 {l : List VV} (h : nls l = true := by first|rfl|assumption|(simp only [znl,znP4];(first|done|fail))) : nls l = true := h
set_option maxRecDepth 100000
def znP4 := And.intro @jO <| And.intro @jP <| And.intro @jQ <| And.intro @jR <| And.intro @jS <| And.intro @jT <| And.intro @jU <| And.intro @jV <| True.intro
set_option maxHeartbeats 8000000
theorem pageS_t {m : Mach} {k j : Nat} (h : ((m.pr.getD k default).sp.getD j default).is = true) (a : (m.pr.getD k default).st ≠ 3) (b : 0 ≤ ((m.pr.getD k default).sp.getD j default).fr) (c : ((m.pr.getD k default).sp.getD j default).fr < m.fr.length) (d : ((m.pr.getD k default).sp.getD j default).fr ∉ metF m k j) : pageS m k j := by
 unfold pageS; rw [if_pos h]; exact ⟨a, b, c, d⟩
theorem pageS_f {m : Mach} {k j : Nat} (h : ((m.pr.getD k default).sp.getD j default).is = false) (a : ((m.pr.getD k default).sp.getD j default).wr = false) (b : ((m.pr.getD k default).sp.getD j default).fr = 0) : pageS m k j := by
 unfold pageS; rw [if_neg (by rw [h]; simp)]; exact ⟨a, b⟩
theorem fdS_z {m : Mach} {k j : Nat} (a : ((m.pr.getD k default).fds.getD j default).kind = 0) (b : ((m.pr.getD k default).fds.getD j default).n = 0) (c : ((m.pr.getD k default).fds.getD j default).pos = 0) : fdS m k j := .inl ⟨a, b, c⟩
theorem fdS_q {m : Mach} {k j : Nat} (a : (m.pr.getD k default).st ≠ 3) (b : fileQ m.pipes ((m.pr.getD k default).fds.getD j default)) : fdS m k j := .inr ⟨a, b⟩
theorem procs_bad (m : Mach) (hm : MFit 20000 m) (h8 : m.pr.length ≤ 8) (hs : procsB m = false) : Spec Try.prog 75 [encM m] (.int .i64 3) := by
 have hpR := hm.prR
 have hfrl := hm.fr
 have hnot : ¬∀ k, k < m.pr.length → okS m k := fun h => by
  rw [procs_all hpR h] at hs
  cases hs
 refine spec_ok Try.func75 rfl rfl (by kernel_rfl) (k := 1) rfl (by decide) ?_
 repeat' (first|(with_reducible first|refine yrl (by constructor) ?_|refine jk (fun M hM=>?_)|(refine hM _ ?_;clear hM M)|refine yx3 ?_|refine yxa ?_ ?_|refine yxb ?_ ?_)|((with_reducible refine je ?_)<;>exact ynP4)|(with_reducible refine yxc ?_)|((with_reducible refine yxi (fun hc=>?_) (fun hc=>?_))<;>(try simp (disch:=omega) only [zhb] at hc)<;>(try (exfalso;omega))<;>(try subst hc))|(with_reducible refine yxw ?_)|(simp (config := { maxSteps := 400000 }) only [↓jt,↓reduceIte,zvs,reduceCtorEq,seval,tab,Try.results75,jTA])|(simp (disch:=omega) only [ziw]))
 all_goals (try (exfalso; omega))
 refine ok_loop (fun k : Nat => ⟨slots [(1, .ptr 0 []), (3, .map 1), (4, .int .i64 (lastQ m.pr k)), (17, encPrs m.pr), (18, .int .i64 m.pr.length), (19, .int .i64 k)], rows [(0, .row machSh (encM m)), (1, .map (setM (metF m k 0)))], 2⟩) (fun k => k ≤ m.pr.length ∧ ∀ i, i < k → okS m i) (fun k => m.pr.length - k) 0 ?_ ⟨Nat.zero_le _, fun i hi => by omega⟩ (fun k hk => ?_)
 ·(refine yrn [(0, 0), (1, 1)] false ?_ ?_<;>(repeat' (first|(with_reducible first|exact ya1|exact ya2|exact ya3|refine jx rfl (by first|rfl|assumption|(simp only [znl,znP4];(first|done|fail)))|exact ya5|exact ya7|exact jy|exact jz|refine jA ?_|refine ya9 ?_ ?_ ?_|refine jC rfl (by first|rfl|assumption|(simp only [znl,znP4];(first|done|fail)))|refine MR.agg (MRL.cons ?_ ?_)|refine MR.fn ?_|refine MRL.cons ?_ ?_|exact MRL.nil|refine jE ?_ ?_|exact jF|exact jG|refine yb1 ?_ ?_|refine MB.row ?_|refine jI ?_ ?_|exact ya8|refine jJ rfl (by first|rfl|assumption|(simp only [znl,znP4];(first|done|fail)))|refine yb2 ?_|rfl)|(simp only [znl,znP4];(first|done|fail))|(simp only [↓reduceIte,zlk,Nat.reduceEqDiff,reduceCtorEq])|(with_reducible first|refine jJ ?_ ?_|refine ya5 ?_|refine ju ?_|refine jv ?_|refine jw ?_|refine jx ?_ (by first|rfl|assumption|(simp only [znl,znP4];(first|done|fail)))|refine jC ?_ (by first|rfl|assumption|(simp only [znl,znP4];(first|done|fail)))))))
  all_goals (first | rfl | (rw [metF_zero]; rfl))
 obtain ⟨hk, hn⟩ := hk
 by_cases hlt : k < m.pr.length
 ·have hb := hpR _ (getD_mem' hlt)
  obtain ⟨hS1, hS2, hS3⟩ := pr3 hb
  obtain ⟨bf, hbf, hFl⟩ := fields_ex _ hb
  simp only [encPr] at hFl
  by_cases hpS : ¬(bf = true ∧ parS m (m.pr.getD k default))
  ·have hPar : ∃ bp, Spec Try.prog 110 [encM m, encPr (m.pr.getD k default)] (.bool bp) ∧ (bf = true → bp = false) := by
    by_cases h : parS m (m.pr.getD k default)
    ·exact ⟨true, parent_ok m hm _ hb h, fun e => absurd ⟨e, h⟩ hpS⟩
    ·exact ⟨false, parent_no m hm _ hb h, fun _ => rfl⟩
   obtain ⟨bp, hPar, hbp⟩ := hPar
   simp only [encPr] at hPar
   cases bf
   ·clear hbp hpS
    cases bp
    all_goals
     repeat' (first|(with_reducible first|refine yrl (by constructor) ?_|refine jk (fun M hM=>?_)|(refine hM _ ?_;clear hM M)|refine yx3 ?_|refine yxa ?_ ?_|refine yxb ?_ ?_)|((with_reducible refine je ?_)<;>exact ynP4)|(with_reducible refine yxc ?_)|((with_reducible refine yxi (fun hc=>?_) (fun hc=>?_))<;>(try simp (disch:=omega) only [zhb] at hc)<;>(try (exfalso;omega))<;>(try subst hc))|(with_reducible refine yxw ?_)|(simp (config := { maxSteps := 400000 }) only [↓jt,↓reduceIte,zvs,reduceCtorEq,seval,tab,hS1,hS2,hS3,encPr,Try.results75,jTA])|(simp (disch:=omega) only [ziw]))
     all_goals first
      | (exfalso; omega)
      | (simp only [zrds]; done)
   ·rw [hbp rfl] at hPar
    repeat' (first|(with_reducible first|refine yrl (by constructor) ?_|refine jk (fun M hM=>?_)|(refine hM _ ?_;clear hM M)|refine yx3 ?_|refine yxa ?_ ?_|refine yxb ?_ ?_)|((with_reducible refine je ?_)<;>exact ynP4)|(with_reducible refine yxc ?_)|((with_reducible refine yxi (fun hc=>?_) (fun hc=>?_))<;>(try simp (disch:=omega) only [zhb] at hc)<;>(try (exfalso;omega))<;>(try subst hc))|(with_reducible refine yxw ?_)|(simp (config := { maxSteps := 400000 }) only [↓jt,↓reduceIte,zvs,reduceCtorEq,seval,tab,hS1,hS2,hS3,encPr,Try.results75,jTA])|(simp (disch:=omega) only [ziw]))
    all_goals first
     | (exfalso; omega)
     | (simp only [zrds]; done)
  obtain ⟨hbt, hpQ⟩ := Classical.not_not.1 hpS
  clear hpS
  subst hbt
  have hPar := parent_ok m hm _ hb hpQ
  simp only [encPr] at hPar
  have hfQ := hbf.1 rfl
  clear hbf
  have hokS : lastQ m.pr k < (m.pr.getD k default).pid → (m.pr.getD k default).pid < m.next → (∀ j, j < 16 → pageS m k j) → (∀ j, j < 8 → fdS m k j) → ∀ i, i < k + 1 → okS m i := fun a b c d i hi => by
   by_cases e : i = k
   ·rw [e]
    exact ⟨a, b, hfQ, hpQ, c, d⟩
   ·exact hn i (by omega)
  have hstp : (m.pr.getD k default).st = 1 ∨ (m.pr.getD k default).st = 2 ∨ (m.pr.getD k default).st = 3 := hfQ.1
  have hsl := hb.sp
  have hfl := hb.fds
  have hsR := hb.spR
  have hfR := hb.fdsR
  repeat' (first|(with_reducible first|refine yrl (by constructor) ?_|refine jk (fun M hM=>?_)|(refine hM _ ?_;clear hM M)|refine yx3 ?_|refine yxa ?_ ?_|refine yxb ?_ ?_)|((with_reducible refine je ?_)<;>exact ynP4)|(with_reducible refine yxc ?_)|((with_reducible refine yxi (fun hc=>?_) (fun hc=>?_))<;>(try simp (disch:=omega) only [zhb] at hc)<;>(try (exfalso;omega))<;>(try subst hc))|(with_reducible refine yxw ?_)|(simp (config := { maxSteps := 400000 }) only [↓jt,↓reduceIte,zvs,reduceCtorEq,seval,tab,hS1,hS2,hS3,encPr,Try.results75,jTA])|(simp (disch:=omega) only [ziw]))
  all_goals first
   | (exfalso; omega)
   | (simp only [zrds]; done)
   | skip
  refine ok_loop (fun j : Nat => ⟨slots [(1, .ptr 0 []), (3, .map 1), (4, .int .i64 (m.pr.getD k default).pid), (6, .ptr 2 []), (17, encPrs m.pr), (18, .int .i64 m.pr.length), (19, .int .i64 k), (48, .agg ((m.pr.getD k default).sp.map encPte)), (49, .int .i64 j)], rows [(0, .row machSh (encM m)), (1, .map (setM (metF m k j))), (2, .row prSh (encPrA (m.pr.getD k default)))], 3⟩) (fun j => j ≤ 16 ∧ ∀ i, i < j → pageS m k i) (fun j => 16 - j) 0 ?_ ⟨Nat.zero_le _, fun i hi => by omega⟩ (fun j hj => ?_)
  ·(refine yrn [(0, 0), (1, 1), (2, 2)] false ?_ ?_<;>(repeat' (first|(with_reducible first|exact ya1|exact ya2|exact ya3|refine jx rfl (by first|rfl|assumption|(simp only [znl,znP4];(first|done|fail)))|exact ya5|exact ya7|exact jy|exact jz|refine jA ?_|refine ya9 ?_ ?_ ?_|refine jC rfl (by first|rfl|assumption|(simp only [znl,znP4];(first|done|fail)))|refine MR.agg (MRL.cons ?_ ?_)|refine MR.fn ?_|refine MRL.cons ?_ ?_|exact MRL.nil|refine jE ?_ ?_|exact jF|exact jG|refine yb1 ?_ ?_|refine MB.row ?_|refine jI ?_ ?_|exact ya8|refine jJ rfl (by first|rfl|assumption|(simp only [znl,znP4];(first|done|fail)))|refine yb2 ?_|rfl)|(simp only [znl,znP4];(first|done|fail))|(simp only [↓reduceIte,zlk,Nat.reduceEqDiff,reduceCtorEq])|(with_reducible first|refine jJ ?_ ?_|refine ya5 ?_|refine ju ?_|refine jv ?_|refine jw ?_|refine jx ?_ (by first|rfl|assumption|(simp only [znl,znP4];(first|done|fail)))|refine jC ?_ (by first|rfl|assumption|(simp only [znl,znP4];(first|done|fail)))))))
   all_goals (first | rfl)
  obtain ⟨hj, hpn⟩ := hj
  by_cases hjlt : j < 16
  ·have hpb := hsR _ (getD_mem' (show j < (m.pr.getD k default).sp.length by omega))
   have hstp2 : pageS m k j → ∀ i, i < j + 1 → pageS m k i := fun h i hi => by
    by_cases e : i = j
    ·rw [e]; exact h
    ·exact hpn i (by omega)
   cases hi : ((m.pr.getD k default).sp.getD j default).is with
   | true =>
    have hin := metF_in hlt (by omega) hi
    by_cases hmem : ((m.pr.getD k default).sp.getD j default).fr ∈ metF m k j
    ·have hlook : (mget (setM (metF m k j)) (.int .i64 ((m.pr.getD k default).sp.getD j default).fr)).getD (.bool false) = .bool true := by rw [look_setM, decide_eq_true hmem]
     repeat' (first|(with_reducible first|refine yrl (by constructor) ?_|refine jk (fun M hM=>?_)|(refine hM _ ?_;clear hM M)|refine yx3 ?_|refine yxa ?_ ?_|refine yxb ?_ ?_)|((with_reducible refine je ?_)<;>exact ynP4)|(with_reducible refine yxc ?_)|((with_reducible refine yxi (fun hc=>?_) (fun hc=>?_))<;>(try simp (disch:=omega) only [zhb] at hc)<;>(try (exfalso;omega))<;>(try subst hc))|(with_reducible refine yxw ?_)|(simp (config := { maxSteps := 400000 }) only [↓jt,↓reduceIte,zvs,reduceCtorEq,seval,tab,hS1,hS2,hS3,encPr,encPte,hi,hlook,keys_setM,setM_snoc,Try.results75,jTA])|(simp (disch:=omega) only [ziw]))
     all_goals first
      | (exfalso; omega)
      | (simp only [zrds]; done)
    ·have hlook : (mget (setM (metF m k j)) (.int .i64 ((m.pr.getD k default).sp.getD j default).fr)).getD (.bool false) = .bool false := by rw [look_setM, decide_eq_false hmem]
     repeat' (first|(with_reducible first|refine yrl (by constructor) ?_|refine jk (fun M hM=>?_)|(refine hM _ ?_;clear hM M)|refine yx3 ?_|refine yxa ?_ ?_|refine yxb ?_ ?_)|((with_reducible refine je ?_)<;>exact ynP4)|(with_reducible refine yxc ?_)|((with_reducible refine yxi (fun hc=>?_) (fun hc=>?_))<;>(try simp (disch:=omega) only [zhb] at hc)<;>(try (exfalso;omega))<;>(try subst hc))|(with_reducible refine yxw ?_)|(simp (config := { maxSteps := 400000 }) only [↓jt,↓reduceIte,zvs,reduceCtorEq,seval,tab,hS1,hS2,hS3,encPr,encPte,hi,hlook,keys_setM,setM_snoc,Try.results75,jTA])|(simp (disch:=omega) only [ziw]))
     all_goals first
      | (exfalso; omega)
      | (simp only [zrds]; done)
      | (refine xl1 (j + 1) ?_ ⟨by show j + 1 ≤ 16; omega, hstp2 (pageS_t hi (by omega) (by omega) (by omega) hmem)⟩ (by show 16 - (j + 1) < 16 - j; omega); (refine yrn [(0, 0), (1, 1), (2, 2)] false ?_ ?_<;>(repeat' (first|(with_reducible first|exact ya1|exact ya2|exact ya3|refine jx rfl (by first|rfl|assumption|(simp only [znl,znP4];(first|done|fail)))|exact ya5|exact ya7|exact jy|exact jz|refine jA ?_|refine ya9 ?_ ?_ ?_|refine jC rfl (by first|rfl|assumption|(simp only [znl,znP4];(first|done|fail)))|refine MR.agg (MRL.cons ?_ ?_)|refine MR.fn ?_|refine MRL.cons ?_ ?_|exact MRL.nil|refine jE ?_ ?_|exact jF|exact jG|refine yb1 ?_ ?_|refine MB.row ?_|refine jI ?_ ?_|exact ya8|refine jJ rfl (by first|rfl|assumption|(simp only [znl,znP4];(first|done|fail)))|refine yb2 ?_|rfl)|(simp only [znl,znP4];(first|done|fail))|(simp only [↓reduceIte,zlk,Nat.reduceEqDiff,reduceCtorEq])|(with_reducible first|refine jJ ?_ ?_|refine ya5 ?_|refine ju ?_|refine jv ?_|refine jw ?_|refine jx ?_ (by first|rfl|assumption|(simp only [znl,znP4];(first|done|fail)))|refine jC ?_ (by first|rfl|assumption|(simp only [znl,znP4];(first|done|fail))))))); all_goals (rw [hin]))
   | false =>
    have hout := metF_out hlt (by omega) hi
    have hfa : ∀ b : Bool, (false && b) = false := fun _ => rfl
    by_cases hw : ((m.pr.getD k default).sp.getD j default).wr = false ∧ ((m.pr.getD k default).sp.getD j default).fr = 0
    ·obtain ⟨hw, hw2⟩ := hw
     have hz : (((m.pr.getD k default).sp.getD j default).fr == 0) = true := by rw [hw2]; rfl
     repeat' (first|(with_reducible first|refine yrl (by constructor) ?_|refine jk (fun M hM=>?_)|(refine hM _ ?_;clear hM M)|refine yx3 ?_|refine yxa ?_ ?_|refine yxb ?_ ?_)|((with_reducible refine je ?_)<;>exact ynP4)|(with_reducible refine yxc ?_)|((with_reducible refine yxi (fun hc=>?_) (fun hc=>?_))<;>(try simp (disch:=omega) only [zhb] at hc)<;>(try (exfalso;omega))<;>(try subst hc))|(with_reducible refine yxw ?_)|(simp (config := { maxSteps := 400000 }) only [↓jt,↓reduceIte,zvs,reduceCtorEq,seval,tab,hS1,hS2,hS3,encPr,encPte,hi,hw,hz,fit_pt,veq_pt,Try.results75,jTA])|(simp (disch:=omega) only [ziw]))
     all_goals first
      | (exfalso; omega)
      | (refine xl1 (j + 1) ?_ ⟨by show j + 1 ≤ 16; omega, hstp2 (pageS_f hi hw hw2)⟩ (by show 16 - (j + 1) < 16 - j; omega); (refine yrn [(0, 0), (1, 1), (2, 2)] false ?_ ?_<;>(repeat' (first|(with_reducible first|exact ya1|exact ya2|exact ya3|refine jx rfl (by first|rfl|assumption|(simp only [znl,znP4];(first|done|fail)))|exact ya5|exact ya7|exact jy|exact jz|refine jA ?_|refine ya9 ?_ ?_ ?_|refine jC rfl (by first|rfl|assumption|(simp only [znl,znP4];(first|done|fail)))|refine MR.agg (MRL.cons ?_ ?_)|refine MR.fn ?_|refine MRL.cons ?_ ?_|exact MRL.nil|refine jE ?_ ?_|exact jF|exact jG|refine yb1 ?_ ?_|refine MB.row ?_|refine jI ?_ ?_|exact ya8|refine jJ rfl (by first|rfl|assumption|(simp only [znl,znP4];(first|done|fail)))|refine yb2 ?_|rfl)|(simp only [znl,znP4];(first|done|fail))|(simp only [↓reduceIte,zlk,Nat.reduceEqDiff,reduceCtorEq])|(with_reducible first|refine jJ ?_ ?_|refine ya5 ?_|refine ju ?_|refine jv ?_|refine jw ?_|refine jx ?_ (by first|rfl|assumption|(simp only [znl,znP4];(first|done|fail)))|refine jC ?_ (by first|rfl|assumption|(simp only [znl,znP4];(first|done|fail))))))); all_goals (rw [hout]))
    ·have hz : (!((m.pr.getD k default).sp.getD j default).wr && ((m.pr.getD k default).sp.getD j default).fr == 0) = false := by
      rw [Bool.eq_false_iff]
      intro h
      rw [Bool.and_eq_true, beq_iff_eq, Bool.not_eq_true'] at h
      exact hw h
     repeat' (first|(with_reducible first|refine yrl (by constructor) ?_|refine jk (fun M hM=>?_)|(refine hM _ ?_;clear hM M)|refine yx3 ?_|refine yxa ?_ ?_|refine yxb ?_ ?_)|((with_reducible refine je ?_)<;>exact ynP4)|(with_reducible refine yxc ?_)|((with_reducible refine yxi (fun hc=>?_) (fun hc=>?_))<;>(try simp (disch:=omega) only [zhb] at hc)<;>(try (exfalso;omega))<;>(try subst hc))|(with_reducible refine yxw ?_)|(simp (config := { maxSteps := 400000 }) only [↓jt,↓reduceIte,zvs,reduceCtorEq,seval,tab,hS1,hS2,hS3,encPr,encPte,hi,hz,fit_pt,veq_pt,Try.results75,jTA])|(simp (disch:=omega) only [ziw]))
     all_goals first
      | (exfalso; omega)
      | (simp only [zrds]; done)
  ·obtain rfl : j = 16 := by omega
   have hpall := hpn
   repeat' (first|(with_reducible first|refine yrl (by constructor) ?_|refine jk (fun M hM=>?_)|(refine hM _ ?_;clear hM M)|refine yx3 ?_|refine yxa ?_ ?_|refine yxb ?_ ?_)|((with_reducible refine je ?_)<;>exact ynP4)|(with_reducible refine yxc ?_)|((with_reducible refine yxi (fun hc=>?_) (fun hc=>?_))<;>(try simp (disch:=omega) only [zhb] at hc)<;>(try (exfalso;omega))<;>(try subst hc))|(with_reducible refine yxw ?_)|(simp (config := { maxSteps := 400000 }) only [↓jt,↓reduceIte,zvs,reduceCtorEq,seval,tab,hS1,hS2,hS3,Try.results75,jTA])|(simp (disch:=omega) only [ziw]))
   refine ok_loop (fun j : Nat => ⟨slots [(1, .ptr 0 []), (3, .map 1), (4, .int .i64 (m.pr.getD k default).pid), (6, .ptr 2 []), (17, encPrs m.pr), (18, .int .i64 m.pr.length), (19, .int .i64 k), (85, .agg ((m.pr.getD k default).fds.map encFd)), (86, .int .i64 j)], rows [(0, .row machSh (encM m)), (1, .map (setM (metF m k 16))), (2, .row prSh (encPrA (m.pr.getD k default)))], 3⟩) (fun j => j ≤ 8 ∧ ∀ i, i < j → fdS m k i) (fun j => 8 - j) 0 ?_ ⟨Nat.zero_le _, fun i hi => by omega⟩ (fun j hj => ?_)
   ·(refine yrn [(0, 0), (1, 1), (2, 2)] false ?_ ?_<;>(repeat' (first|(with_reducible first|exact ya1|exact ya2|exact ya3|refine jx rfl (by first|rfl|assumption|(simp only [znl,znP4];(first|done|fail)))|exact ya5|exact ya7|exact jy|exact jz|refine jA ?_|refine ya9 ?_ ?_ ?_|refine jC rfl (by first|rfl|assumption|(simp only [znl,znP4];(first|done|fail)))|refine MR.agg (MRL.cons ?_ ?_)|refine MR.fn ?_|refine MRL.cons ?_ ?_|exact MRL.nil|refine jE ?_ ?_|exact jF|exact jG|refine yb1 ?_ ?_|refine MB.row ?_|refine jI ?_ ?_|exact ya8|refine jJ rfl (by first|rfl|assumption|(simp only [znl,znP4];(first|done|fail)))|refine yb2 ?_|rfl)|(simp only [znl,znP4];(first|done|fail))|(simp only [↓reduceIte,zlk,Nat.reduceEqDiff,reduceCtorEq])|(with_reducible first|refine jJ ?_ ?_|refine ya5 ?_|refine ju ?_|refine jv ?_|refine jw ?_|refine jx ?_ (by first|rfl|assumption|(simp only [znl,znP4];(first|done|fail)))|refine jC ?_ (by first|rfl|assumption|(simp only [znl,znP4];(first|done|fail)))))))
    all_goals (first | rfl)
   obtain ⟨hj, hpn⟩ := hj
   by_cases hjlt : j < 8
   ·have hfb := hfR _ (getD_mem' (show j < (m.pr.getD k default).fds.length by omega))
    have hstp2 : fdS m k j → ∀ i, i < j + 1 → fdS m k i := fun h i hi => by
     by_cases e : i = j
     ·rw [e]; exact h
     ·exact hpn i (by omega)
    obtain ⟨bF, hbF, hF⟩ := file_ex m hm _ hfb
    simp only [encFd] at hF
    obtain ⟨⟨g1, g2⟩, ⟨g3, g4⟩, g5, g6⟩ := hfb
    cases bF
    all_goals
     repeat' (first|(with_reducible first|refine yrl (by constructor) ?_|refine jk (fun M hM=>?_)|(refine hM _ ?_;clear hM M)|refine yx3 ?_|refine yxa ?_ ?_|refine yxb ?_ ?_)|((with_reducible refine je ?_)<;>exact ynP4)|(with_reducible refine yxc ?_)|((with_reducible refine yxi (fun hc=>?_) (fun hc=>?_))<;>(try simp (disch:=omega) only [zhb] at hc)<;>(try (exfalso;omega))<;>(try subst hc))|(with_reducible refine yxw ?_)|(simp (config := { maxSteps := 400000 }) only [↓jt,↓reduceIte,zvs,reduceCtorEq,seval,tab,hS1,hS2,hS3,encPr,encFd,fit_fd,veq_fd,Try.results75,jTA])|(simp (disch:=omega) only [ziw]))
     all_goals first
      | (exfalso; omega)
      | (simp only [zrds]; done)
      | (refine xl1 (j + 1) ?_ ⟨by show j + 1 ≤ 8; omega, hstp2 (by first | exact fdS_z (by omega) (by omega) (by omega) | exact fdS_q (by omega) (hbF.1 rfl))⟩ (by show 8 - (j + 1) < 8 - j; omega); (refine yrn [(0, 0), (1, 1), (2, 2)] false ?_ ?_<;>(repeat' (first|(with_reducible first|exact ya1|exact ya2|exact ya3|refine jx rfl (by first|rfl|assumption|(simp only [znl,znP4];(first|done|fail)))|exact ya5|exact ya7|exact jy|exact jz|refine jA ?_|refine ya9 ?_ ?_ ?_|refine jC rfl (by first|rfl|assumption|(simp only [znl,znP4];(first|done|fail)))|refine MR.agg (MRL.cons ?_ ?_)|refine MR.fn ?_|refine MRL.cons ?_ ?_|exact MRL.nil|refine jE ?_ ?_|exact jF|exact jG|refine yb1 ?_ ?_|refine MB.row ?_|refine jI ?_ ?_|exact ya8|refine jJ rfl (by first|rfl|assumption|(simp only [znl,znP4];(first|done|fail)))|refine yb2 ?_|rfl)|(simp only [znl,znP4];(first|done|fail))|(simp only [↓reduceIte,zlk,Nat.reduceEqDiff,reduceCtorEq])|(with_reducible first|refine jJ ?_ ?_|refine ya5 ?_|refine ju ?_|refine jv ?_|refine jw ?_|refine jx ?_ (by first|rfl|assumption|(simp only [znl,znP4];(first|done|fail)))|refine jC ?_ (by first|rfl|assumption|(simp only [znl,znP4];(first|done|fail))))))); done)
   ·obtain rfl : j = 8 := by omega
    have hnx := metF_next hlt
    repeat' (first|(with_reducible first|refine yrl (by constructor) ?_|refine jk (fun M hM=>?_)|(refine hM _ ?_;clear hM M)|refine yx3 ?_|refine yxa ?_ ?_|refine yxb ?_ ?_)|((with_reducible refine je ?_)<;>exact ynP4)|(with_reducible refine yxc ?_)|((with_reducible refine yxi (fun hc=>?_) (fun hc=>?_))<;>(try simp (disch:=omega) only [zhb] at hc)<;>(try (exfalso;omega))<;>(try subst hc))|(with_reducible refine yxw ?_)|(simp (config := { maxSteps := 400000 }) only [↓jt,↓reduceIte,zvs,reduceCtorEq,seval,tab,hS1,hS2,hS3,Try.results75,jTA])|(simp (disch:=omega) only [ziw]))
    refine xl1 (k + 1) ?_ ⟨by show k + 1 ≤ m.pr.length; omega, hokS (by omega) (by omega) hpall hpn⟩ (by show m.pr.length - (k + 1) < m.pr.length - k; omega)
    (refine yrn [(0, 0), (1, 1)] false ?_ ?_<;>(repeat' (first|(with_reducible first|exact ya1|exact ya2|exact ya3|refine jx rfl (by first|rfl|assumption|(simp only [znl,znP4];(first|done|fail)))|exact ya5|exact ya7|exact jy|exact jz|refine jA ?_|refine ya9 ?_ ?_ ?_|refine jC rfl (by first|rfl|assumption|(simp only [znl,znP4];(first|done|fail)))|refine MR.agg (MRL.cons ?_ ?_)|refine MR.fn ?_|refine MRL.cons ?_ ?_|exact MRL.nil|refine jE ?_ ?_|exact jF|exact jG|refine yb1 ?_ ?_|refine MB.row ?_|refine jI ?_ ?_|exact ya8|refine jJ rfl (by first|rfl|assumption|(simp only [znl,znP4];(first|done|fail)))|refine yb2 ?_|rfl)|(simp only [znl,znP4];(first|done|fail))|(simp only [↓reduceIte,zlk,Nat.reduceEqDiff,reduceCtorEq])|(with_reducible first|refine jJ ?_ ?_|refine ya5 ?_|refine ju ?_|refine jv ?_|refine jw ?_|refine jx ?_ (by first|rfl|assumption|(simp only [znl,znP4];(first|done|fail)))|refine jC ?_ (by first|rfl|assumption|(simp only [znl,znP4];(first|done|fail)))))))
    all_goals (first | rfl | (rw [hnx]; done))
 ·obtain rfl : k = m.pr.length := by omega
  exact absurd hn hnot
end Go.Proofs.Ytpdhdkpebbfnnaa.V
end
section
namespace Go.Proofs.Ytpdhdkpebbfnnaa.V
open Go
set_option maxRecDepth 100000
def znNV := And.intro @jO <| And.intro @jP <| And.intro @jQ <| And.intro @jR <| And.intro @jS <| And.intro @jT <| And.intro @jU <| True.intro
set_option maxHeartbeats 4000000
theorem journaled_ok (d : Dr) (hd : dfit d) (h0 : checkD d = 0) (h1 : 33 < d.bl.length) : Spec Try.prog 139 [encDr d] (.int .i64 0) := by
 have hC := check_spec d hd
 rw [h0] at hC
 have hb := checkD_le h0
 refine spec_ok Try.func139 rfl rfl (by kernel_rfl) (k := 1) rfl (by decide) ?_
 repeat' (first|(with_reducible first|refine yrl (by constructor) ?_|refine jk (fun M hM=>?_)|(refine hM _ ?_;clear hM M)|refine yx3 ?_|refine yxa ?_ ?_|refine yxb ?_ ?_)|((with_reducible refine je ?_)<;>(first|rfl|assumption|(simp only [znl,znNV];(first|done|fail))))|(with_reducible refine yxc ?_)|((with_reducible refine yxi (fun hc=>?_) (fun hc=>?_))<;>(try simp (disch:=omega) only [zhb] at hc)<;>(try (exfalso;omega))<;>(try subst hc))|(with_reducible refine yxw ?_)|(simp (config := { maxSteps := 400000 }) only [↓jt,↓reduceIte,zvs,reduceCtorEq,seval,tab,Try.results139,jTA])|(simp (disch:=omega) only [ziw]))
 all_goals first
  | (exfalso; omega)
  | (simp only [zrds]; done)
def hwF (v : Frames) (w : Wr) : Frames := if 33 ≤ w.b then v.set (w.b - 33).toNat w.d else v
theorem hwF_len (v : Frames) (w : Wr) : (hwF v w).length = v.length := by unfold hwF; split <;> simp
theorem hwF_all_len (l : List Wr) : ∀ v : Frames, (l.foldl hwF v).length = v.length := by
 induction l with
 | nil => intro v; rfl
 | cons w l ih => intro v; rw [List.foldl_cons, ih, hwF_len]
theorem hwF_getP (i : Nat) : ∀ (l : List Wr) (v : Frames), i < v.length → (∀ w ∈ l, w.b < 33 + (v.length : Int)) → (l.foldl hwF v).getD i [] = getP l ((33 + i : Nat) : Int) (v.getD i [])
 | [], v, _, _ => rfl
 | w :: l, v, hi, h => by
  have hw := h w (by simp)
  rw [List.foldl_cons, hwF_getP i l (hwF v w) (by rw [hwF_len]; exact hi) (fun x hx => by rw [hwF_len]; exact h x (by simp [hx]))]
  have e : getP (w :: l) ((33 + i : Nat) : Int) (v.getD i []) = getP l ((33 + i : Nat) : Int) (if w.b = ((33 + i : Nat) : Int) then w.d else v.getD i []) := rfl
  rw [e]
  congr 1
  unfold hwF
  by_cases h33 : 33 ≤ w.b
  ·rw [if_pos h33, List.getD_eq_getElem?_getD, List.getElem?_set]
   by_cases hq : (w.b - 33).toNat = i
   ·rw [if_pos hq, if_pos (by omega), if_pos (by omega)]; rfl
   ·rw [if_neg hq, if_neg (by omega), ← List.getD_eq_getElem?_getD]
  ·rw [if_neg h33, if_neg (by omega)]
theorem home_eq {d : Dr} (h0 : checkD d = 0) (h1 : 33 < d.bl.length) (hr : ∀ w ∈ d.pe, w.b < d.bl.length) : d.pe.foldl hwF (d.bl.drop 33) = homeD d := by
 unfold homeD
 rw [if_pos ⟨h0, h1⟩]
 have hl : (d.pe.foldl hwF (d.bl.drop 33)).length = d.bl.length - 33 := by rw [hwF_all_len, List.length_drop]
 apply List.ext_getElem
 ·rw [hl]; simp
 ·intro i hi1 hi2
  have hi : i < d.bl.length - 33 := by rw [hl] at hi1; exact hi1
  have key := hwF_getP i d.pe (d.bl.drop 33) (by rw [List.length_drop]; exact hi) (fun w hw => by have := hr w hw; rw [List.length_drop]; omega)
  rw [List.getD_eq_getElem?_getD, List.getElem?_eq_getElem hi1] at key
  simp only [Option.getD_some] at key
  rw [key, List.getElem_map, List.getElem_range]
  unfold homeB
  congr 1
  rw [List.getD_eq_getElem?_getD, List.getElem?_drop, ← List.getD_eq_getElem?_getD]
theorem checkW_rng : ∀ {n : Nat} {l : List Wr}, checkW n l = 0 → ∀ w ∈ l, 0 ≤ w.b ∧ w.b < (n : Int)
 | n, [], _, w, hw => by cases hw
 | n, x :: l, h, w, hw => by
  unfold checkW at h
  split at h
  ·omega
  ·split at h
   ·omega
   ·rename_i h1 h2
    rcases List.mem_cons.1 hw with rfl | hw
    ·exact Decidable.byContradiction fun hc => h1 hc
    ·exact checkW_rng h w hw
theorem checkD_rng {d : Dr} (h : checkD d = 0) : ∀ w ∈ d.pe, 0 ≤ w.b ∧ w.b < (d.bl.length : Int) := by
 unfold checkD at h
 split at h
 ·omega
 ·split at h
  ·omega
  ·exact checkW_rng h
def lastW (l : List Wr) : Nat → Int
 | 0 => -1
 | k + 1 => (l.getD k default).b
theorem dirtyQ_facts {v : Frames} {l : List Wr} {k : Nat} (h : dirtyQ v l k = true) : 0 ≤ (l.getD k default).b ∧ (l.getD k default).b < v.length ∧ (l.getD k default).d.length = 128 ∧ lastW l k < (l.getD k default).b := by
 unfold dirtyQ at h
 simp only [Bool.not_eq_true',Bool.or_eq_false_iff,decide_eq_false_iff_not,Bool.and_eq_false_iff,ne_eq,Decidable.not_not] at h
 refine ⟨by omega, by omega, h.1.2, ?_⟩
 cases k with
 | zero => show (-1 : Int) < _; omega
 | succ k =>
  have h2 := h.2
  rw [Nat.add_sub_cancel] at h2
  show (l.getD k default).b < _
  omega
end Go.Proofs.Ytpdhdkpebbfnnaa.V
end
section
namespace Go.Proofs.Ytpdhdkpebbfnnaa.V
open Go
set_option maxRecDepth 100000
set_option maxHeartbeats 4000000
theorem tabF : SH Try.prog 80 = some .cell ∧ ZE Try.prog 80 = some (.raw .nilFunc) ∧ BY Try.prog 80 = 8 := ⟨by kernel_rfl, by kernel_rfl, by kernel_rfl⟩
end Go.Proofs.Ytpdhdkpebbfnnaa.V
end
section
namespace Go.Proofs.Ytpdhdkpebbfnnaa.V
open Go
theorem ynP6 {l : List VV} (h : nls l = true := by first|rfl|assumption|(simp only [znl,znP6];(first|done|fail))) : nls l = true := h
set_option maxRecDepth 100000
def znP6 := And.intro @jO <| And.intro @jP <| And.intro @jQ <| And.intro @jR <| And.intro @jS <| And.intro @jT <| And.intro @jU <| True.intro
set_option maxHeartbeats 4000000
theorem journaled_ex (d : Dr) (hd : dfit d) : Spec Try.prog 139 [encDr d] (.int .i64 (badD d)) := by
 have hC := check_spec d hd
 obtain ⟨⟨hf1, hf2⟩, hf3, hf4⟩ := hd
 unfold badD
 by_cases h0 : checkD d = 0
 ·rw [if_neg (by omega)]
  rw [h0] at hC
  by_cases h1 : d.bl.length ≤ 33
  ·rw [if_pos h1]
   refine spec_ok Try.func139 rfl rfl (by kernel_rfl) (k := 1) rfl (by decide) ?_
   repeat' (first|(with_reducible first|refine yrl (by constructor) ?_|refine jk (fun M hM=>?_)|(refine hM _ ?_;clear hM M)|refine yx3 ?_|refine yxa ?_ ?_|refine yxb ?_ ?_)|((with_reducible refine je ?_)<;>exact ynP6)|(with_reducible refine yxc ?_)|((with_reducible refine yxi (fun hc=>?_) (fun hc=>?_))<;>(try simp (disch:=omega) only [zhb] at hc)<;>(try (exfalso;omega))<;>(try subst hc))|(with_reducible refine yxw ?_)|(simp (config := { maxSteps := 400000 }) only [↓jt,↓reduceIte,zvs,reduceCtorEq,seval,tab,Try.results139,jTA])|(simp (disch:=omega) only [ziw]))
   all_goals first
    | (exfalso; omega)
    | (simp only [zrds]; done)
  ·rw [if_neg h1]
   refine spec_ok Try.func139 rfl rfl (by kernel_rfl) (k := 1) rfl (by decide) ?_
   repeat' (first|(with_reducible first|refine yrl (by constructor) ?_|refine jk (fun M hM=>?_)|(refine hM _ ?_;clear hM M)|refine yx3 ?_|refine yxa ?_ ?_|refine yxb ?_ ?_)|((with_reducible refine je ?_)<;>exact ynP6)|(with_reducible refine yxc ?_)|((with_reducible refine yxi (fun hc=>?_) (fun hc=>?_))<;>(try simp (disch:=omega) only [zhb] at hc)<;>(try (exfalso;omega))<;>(try subst hc))|(with_reducible refine yxw ?_)|(simp (config := { maxSteps := 400000 }) only [↓jt,↓reduceIte,zvs,reduceCtorEq,seval,tab,Try.results139,jTA])|(simp (disch:=omega) only [ziw]))
   all_goals first
    | (exfalso; omega)
    | (simp only [zrds]; done)
 ·rw [if_pos h0]
  refine spec_ok Try.func139 rfl rfl (by kernel_rfl) (k := 1) rfl (by decide) ?_
  repeat' (first|(with_reducible first|refine yrl (by constructor) ?_|refine jk (fun M hM=>?_)|(refine hM _ ?_;clear hM M)|refine yx3 ?_|refine yxa ?_ ?_|refine yxb ?_ ?_)|((with_reducible refine je ?_)<;>exact ynP6)|(with_reducible refine yxc ?_)|((with_reducible refine yxi (fun hc=>?_) (fun hc=>?_))<;>(try simp (disch:=omega) only [zhb] at hc)<;>(try (exfalso;omega))<;>(try subst hc))|(with_reducible refine yxw ?_)|(simp (config := { maxSteps := 400000 }) only [↓jt,↓reduceIte,zvs,reduceCtorEq,seval,tab,Try.results139,jTA])|(simp (disch:=omega) only [ziw]))
  all_goals first
   | (exfalso; omega)
   | (simp only [zrds]; done)
theorem volume_a (m : Mach) (hm : MFit 20000 m) (h : checkD m.dr ≠ 0) : Spec Try.prog 78 [encM m] (.int .i64 (checkD m.dr)) := by
 have hC := check_spec m.dr (dfit_of hm)
 generalize checkD m.dr = c at hC h
 refine spec_ok Try.func78 rfl rfl (by kernel_rfl) (k := 1) rfl (by decide) ?_
 repeat' (first|(with_reducible first|refine yrl (by constructor) ?_|refine jk (fun M hM=>?_)|(refine hM _ ?_;clear hM M)|refine yx3 ?_|refine yxa ?_ ?_|refine yxb ?_ ?_)|((with_reducible refine je ?_)<;>exact ynP6)|(with_reducible refine yxc ?_)|((with_reducible refine yxi (fun hc=>?_) (fun hc=>?_))<;>(try simp (disch:=omega) only [zhb] at hc)<;>(try (exfalso;omega))<;>(try subst hc))|(with_reducible refine yxw ?_)|(simp (config := { maxSteps := 400000 }) only [↓jt,↓reduceIte,zvs,reduceCtorEq,seval,tab,Try.results78,jTA])|(simp (disch:=omega) only [ziw]))
 all_goals first
  | (exfalso; omega)
  | (simp only [zrds]; done)
theorem volume_b (m : Mach) (hm : MFit 20000 m) (hc : checkD m.dr = 0) (h33 : m.dr.bl.length ≤ 33) : Spec Try.prog 78 [encM m] (.int .i64 3) := by
 have hC := check_spec m.dr (dfit_of hm)
 rw [hc] at hC
 have hJ := journaled_ex m.dr (dfit_of hm)
 rw [badD, if_neg (by omega), if_pos h33] at hJ
 refine spec_ok Try.func78 rfl rfl (by kernel_rfl) (k := 1) rfl (by decide) ?_
 repeat' (first|(with_reducible first|refine yrl (by constructor) ?_|refine jk (fun M hM=>?_)|(refine hM _ ?_;clear hM M)|refine yx3 ?_|refine yxa ?_ ?_|refine yxb ?_ ?_)|((with_reducible refine je ?_)<;>exact ynP6)|(with_reducible refine yxc ?_)|((with_reducible refine yxi (fun hc=>?_) (fun hc=>?_))<;>(try simp (disch:=omega) only [zhb] at hc)<;>(try (exfalso;omega))<;>(try subst hc))|(with_reducible refine yxw ?_)|(simp (config := { maxSteps := 400000 }) only [↓jt,↓reduceIte,zvs,reduceCtorEq,seval,tab,Try.results78,jTA])|(simp (disch:=omega) only [ziw]))
 refine ja (ok_body Try.func113 rfl rfl (by kernel_rfl) (k := 1) (by rfl) (by decide) ?_)
 repeat' (first|(with_reducible first|refine yrl (by constructor) ?_|refine jk (fun M hM=>?_)|(refine hM _ ?_;clear hM M)|refine yx3 ?_|refine yxa ?_ ?_|refine yxb ?_ ?_)|((with_reducible refine je ?_)<;>exact ynP6)|(with_reducible refine yxc ?_)|((with_reducible refine yxi (fun hc=>?_) (fun hc=>?_))<;>(try simp (disch:=omega) only [zhb] at hc)<;>(try (exfalso;omega))<;>(try subst hc))|(with_reducible refine yxw ?_)|(simp (config := { maxSteps := 400000 }) only [↓jt,↓reduceIte,zvs,reduceCtorEq,seval,tab,Try.results113,Try.results78,jTA])|(simp (disch:=omega) only [ziw]))
 all_goals first
  | (exfalso; omega)
  | (simp only [zrds]; done)
theorem volume_c (m : Mach) (hm : MFit 20000 m) (hc : checkD m.dr = 0) (h33 : 33 < m.dr.bl.length) : Spec Try.prog 78 [encM m] (.int .i64 (diskE m)) := by
 have hd := dfit_of hm
 have hhl0 : (homeD m.dr).length = m.dr.bl.length - 33 := by
  unfold homeD
  rw [if_pos ⟨hc, h33⟩]
  simp
 have hne : homeD m.dr ≠ [] := fun e => by rw [e] at hhl0; simp at hhl0; omega
 obtain ⟨R, hR⟩ : ∃ R, R = diskE m := ⟨_, rfl⟩
 rw [← hR]
 unfold diskE at hR
 rw [if_neg (by omega), if_neg hne] at hR
 have hbl := checkD_le hc
 have hC := check_spec m.dr hd
 rw [hc] at hC
 have hJ := journaled_ok m.dr hd hc h33
 have hrng := checkD_rng hc
 have hE := home_eq hc h33 fun w hw => (hrng w hw).2
 have hvf := volM_fit hm
 obtain ⟨g, hO⟩ := gof_ex (volM m) hvf.1 hvf.2
 have hpeL := hm.pe
 have hpeS := hm.peS
 have hdS := hm.dirtyS
 have hhl : (homeD m.dr).length = m.dr.bl.length - 33 := by rw [← hE, hwF_all_len, List.length_drop]
 obtain ⟨n, hn⟩ : ∃ n, n = m.dr.bl.length - 33 := ⟨_, rfl⟩
 refine spec_ok Try.func78 rfl rfl (by kernel_rfl) (k := 1) rfl (by decide) ?_
 repeat' (first|(with_reducible first|refine yrl (by constructor) ?_|refine jk (fun M hM=>?_)|(refine hM _ ?_;clear hM M)|refine yx3 ?_|refine yxa ?_ ?_|refine yxb ?_ ?_)|((with_reducible refine je ?_)<;>exact ynP6)|(with_reducible refine yxc ?_)|((with_reducible refine yxi (fun hc=>?_) (fun hc=>?_))<;>(try simp (disch:=omega) only [zhb] at hc)<;>(try (exfalso;omega))<;>(try subst hc))|(with_reducible refine yxw ?_)|(simp (config := { maxSteps := 400000 }) only [↓jt,↓reduceIte,zvs,reduceCtorEq,seval,tab,Try.results78,jTA])|(simp (disch:=omega) only [ziw]))
 refine ja (ok_body Try.func113 rfl rfl (by kernel_rfl) (k := 1) (by rfl) (by decide) ?_)
 repeat' (first|(with_reducible first|refine yrl (by constructor) ?_|refine jk (fun M hM=>?_)|(refine hM _ ?_;clear hM M)|refine yx3 ?_|refine yxa ?_ ?_|refine yxb ?_ ?_)|((with_reducible refine je ?_)<;>exact ynP6)|(with_reducible refine yxc ?_)|((with_reducible refine yxi (fun hc=>?_) (fun hc=>?_))<;>(try simp (disch:=omega) only [zhb] at hc)<;>(try (exfalso;omega))<;>(try subst hc))|(with_reducible refine yxw ?_)|(simp (config := { maxSteps := 400000 }) only [↓jt,↓reduceIte,zvs,reduceCtorEq,seval,tab,Try.results113,jTA])|(simp (disch:=omega) only [ziw]))
 refine ok_loop (fun k : Nat => ⟨slots [(1, .ptr 1 []), (3, .sl (some (2, [], 0)) n), (14, encWrs m.dr.pe), (15, .int .i64 m.dr.pe.length), (16, .int .i64 k)], rows [(0, .row machSh (encM m)), (1, .row (.st [.cell, .cell, .cell]) (encDr m.dr)), (2, .row (.arr n .cell) (.agg (((m.dr.pe.take k).foldl hwF (m.dr.bl.drop 33)).map .str)))], 3⟩) (fun k => k ≤ m.dr.pe.length) (fun k => m.dr.pe.length - k) 0 ?_ (Nat.zero_le _) (fun k hk => ?_)
 ·(refine yrn [(1, 1), (2, 2)] false ?_ ?_<;>(repeat' (first|(with_reducible first|exact ya1|exact ya2|exact ya3|refine jx rfl (by first|rfl|assumption|(simp only [znl,znP6];(first|done|fail)))|exact ya5|exact ya7|exact jy|exact jz|refine jA ?_|refine ya9 ?_ ?_ ?_|refine jC rfl (by first|rfl|assumption|(simp only [znl,znP6];(first|done|fail)))|refine MR.agg (MRL.cons ?_ ?_)|refine MR.fn ?_|refine MRL.cons ?_ ?_|exact MRL.nil|refine jE ?_ ?_|exact jF|exact jG|refine yb1 ?_ ?_|refine MB.row ?_|refine jI ?_ ?_|exact ya8|refine jJ rfl (by first|rfl|assumption|(simp only [znl,znP6];(first|done|fail)))|refine yb2 ?_|rfl)|(simp only [znl,znP6];(first|done|fail))|(simp only [↓reduceIte,zlk,Nat.reduceEqDiff,reduceCtorEq])|(with_reducible first|refine jJ ?_ ?_|refine ya5 ?_|refine ju ?_|refine jv ?_|refine jw ?_|refine jx ?_ (by first|rfl|assumption|(simp only [znl,znP6];(first|done|fail)))|refine jC ?_ (by first|rfl|assumption|(simp only [znl,znP6];(first|done|fail)))))))
  all_goals (first | rfl | omega | (rw [List.take_of_length_le (by simp), List.take_zero, List.foldl_nil, List.map_drop]; done) | (rw [hn]; simp; done) | (simp; done))
 have hvl := hwF_all_len (m.dr.pe.take k) (m.dr.bl.drop 33)
 rw [List.length_drop, ← hn] at hvl
 by_cases hlt : k < m.dr.pe.length
 ·obtain ⟨⟨w1, w2⟩, w3⟩ := hpeS _ (getD_mem' hlt)
  obtain ⟨w4, w5⟩ := hrng _ (getD_mem' hlt)
  have e1 : (m.dr.pe.take (k + 1)).foldl hwF (m.dr.bl.drop 33) = hwF ((m.dr.pe.take k).foldl hwF (m.dr.bl.drop 33)) (m.dr.pe.getD k default) := by
   rw [take_snoc m.dr.pe k hlt, List.foldl_append]; rfl
  generalize (m.dr.pe.take k).foldl hwF (m.dr.bl.drop 33) = v at hvl e1 ⊢
  have hset : ∀ (i : Nat) (s : List UInt8), (v.map VV.str).set i (.str s) = (v.set i s).map VV.str := fun i s => (List.map_set ..).symm
  by_cases hq33 : 33 ≤ (m.dr.pe.getD k default).b
  ·have e1 := e1.trans (show hwF v (m.dr.pe.getD k default) = v.set ((m.dr.pe.getD k default).b - 33).toNat (m.dr.pe.getD k default).d from if_pos hq33)
   repeat' (first|(with_reducible first|refine yrl (by constructor) ?_|refine jk (fun M hM=>?_)|(refine hM _ ?_;clear hM M)|refine yx3 ?_|refine yxa ?_ ?_|refine yxb ?_ ?_)|((with_reducible refine je ?_)<;>exact ynP6)|(with_reducible refine yxc ?_)|((with_reducible refine yxi (fun hc=>?_) (fun hc=>?_))<;>(try simp (disch:=omega) only [zhb] at hc)<;>(try (exfalso;omega))<;>(try subst hc))|(with_reducible refine yxw ?_)|(simp (config := { maxSteps := 400000 }) only [↓jt,↓reduceIte,zvs,reduceCtorEq,seval,tab,encWr,hvl,hset,Try.results113,jTA])|(simp (disch:=omega) only [ziw]))
   all_goals first
    | (exfalso; omega)
    | (refine xl1 (k + 1) ?_ (by show k + 1 ≤ m.dr.pe.length; omega) (by show m.dr.pe.length - (k + 1) < m.dr.pe.length - k; omega); (refine yrn [(1, 1), (2, 2)] false ?_ ?_<;>(repeat' (first|(with_reducible first|exact ya1|exact ya2|exact ya3|refine jx rfl (by first|rfl|assumption|(simp only [znl,znP6];(first|done|fail)))|exact ya5|exact ya7|exact jy|exact jz|refine jA ?_|refine ya9 ?_ ?_ ?_|refine jC rfl (by first|rfl|assumption|(simp only [znl,znP6];(first|done|fail)))|refine MR.agg (MRL.cons ?_ ?_)|refine MR.fn ?_|refine MRL.cons ?_ ?_|exact MRL.nil|refine jE ?_ ?_|exact jF|exact jG|refine yb1 ?_ ?_|refine MB.row ?_|refine jI ?_ ?_|exact ya8|refine jJ rfl (by first|rfl|assumption|(simp only [znl,znP6];(first|done|fail)))|refine yb2 ?_|rfl)|(simp only [znl,znP6];(first|done|fail))|(simp only [↓reduceIte,zlk,Nat.reduceEqDiff,reduceCtorEq])|(with_reducible first|refine jJ ?_ ?_|refine ya5 ?_|refine ju ?_|refine jv ?_|refine jw ?_|refine jx ?_ (by first|rfl|assumption|(simp only [znl,znP6];(first|done|fail)))|refine jC ?_ (by first|rfl|assumption|(simp only [znl,znP6];(first|done|fail))))))); all_goals (first | rfl | (rw [e1]; done)))
  ·have e1 := e1.trans (show hwF v (m.dr.pe.getD k default) = v from if_neg hq33)
   repeat' (first|(with_reducible first|refine yrl (by constructor) ?_|refine jk (fun M hM=>?_)|(refine hM _ ?_;clear hM M)|refine yx3 ?_|refine yxa ?_ ?_|refine yxb ?_ ?_)|((with_reducible refine je ?_)<;>exact ynP6)|(with_reducible refine yxc ?_)|((with_reducible refine yxi (fun hc=>?_) (fun hc=>?_))<;>(try simp (disch:=omega) only [zhb] at hc)<;>(try (exfalso;omega))<;>(try subst hc))|(with_reducible refine yxw ?_)|(simp (config := { maxSteps := 400000 }) only [↓jt,↓reduceIte,zvs,reduceCtorEq,seval,tab,encWr,hvl,hset,Try.results113,jTA])|(simp (disch:=omega) only [ziw]))
   all_goals first
    | (exfalso; omega)
    | (refine xl1 (k + 1) ?_ (by show k + 1 ≤ m.dr.pe.length; omega) (by show m.dr.pe.length - (k + 1) < m.dr.pe.length - k; omega); (refine yrn [(1, 1), (2, 2)] false ?_ ?_<;>(repeat' (first|(with_reducible first|exact ya1|exact ya2|exact ya3|refine jx rfl (by first|rfl|assumption|(simp only [znl,znP6];(first|done|fail)))|exact ya5|exact ya7|exact jy|exact jz|refine jA ?_|refine ya9 ?_ ?_ ?_|refine jC rfl (by first|rfl|assumption|(simp only [znl,znP6];(first|done|fail)))|refine MR.agg (MRL.cons ?_ ?_)|refine MR.fn ?_|refine MRL.cons ?_ ?_|exact MRL.nil|refine jE ?_ ?_|exact jF|exact jG|refine yb1 ?_ ?_|refine MB.row ?_|refine jI ?_ ?_|exact ya8|refine jJ rfl (by first|rfl|assumption|(simp only [znl,znP6];(first|done|fail)))|refine yb2 ?_|rfl)|(simp only [znl,znP6];(first|done|fail))|(simp only [↓reduceIte,zlk,Nat.reduceEqDiff,reduceCtorEq])|(with_reducible first|refine jJ ?_ ?_|refine ya5 ?_|refine ju ?_|refine jv ?_|refine jw ?_|refine jx ?_ (by first|rfl|assumption|(simp only [znl,znP6];(first|done|fail)))|refine jC ?_ (by first|rfl|assumption|(simp only [znl,znP6];(first|done|fail))))))); all_goals (first | rfl | (rw [e1]; done)))
 obtain rfl : k = m.dr.pe.length := by omega
 rw [List.take_length, hE] at *
 have hnh : n = (homeD m.dr).length := by rw [hhl]; exact hn
 have hn0 : 0 < n := by omega
 clear hE hne hhl0
 unfold volM at hO hR
 generalize homeD m.dr = h0 at hnh hO hhl hR ⊢
 by_cases h32 : 32 < m.dirty.length
 ·rw [if_pos h32] at hR
  repeat' (first|(with_reducible first|refine yrl (by constructor) ?_|refine jk (fun M hM=>?_)|(refine hM _ ?_;clear hM M)|refine yx3 ?_|refine yxa ?_ ?_|refine yxb ?_ ?_)|((with_reducible refine je ?_)<;>exact ynP6)|(with_reducible refine yxc ?_)|((with_reducible refine yxi (fun hc=>?_) (fun hc=>?_))<;>(try simp (disch:=omega) only [zhb] at hc)<;>(try (exfalso;omega))<;>(try subst hc))|(with_reducible refine yxw ?_)|(simp (config := { maxSteps := 400000 }) only [↓jt,↓reduceIte,zvs,reduceCtorEq,seval,tab,List.take_length,Try.results113,Try.results78,jTA])|(simp (disch:=omega) only [ziw]))
  all_goals first
   | (exfalso; omega)
   | (rw [hR]; simp only [zrds]; done)
 rw [if_neg h32] at hR
 have hF : ∀ k, k < m.dirty.length → dirtyQ h0 m.dirty k = false → R = 3 := fun k hk h => by
  rw [hR, if_pos]
  unfold dirtyE
  rw [List.all_eq_false]
  exact ⟨k, List.mem_range.2 hk, by show ¬(dirtyQ h0 m.dirty k = true); rw [h]; simp⟩
 have hT : (∀ k, k < m.dirty.length → dirtyQ h0 m.dirty k = true) → R = volE (m.dirty.foldl wrV h0) := fun h => by
  have hE : dirtyE h0 m.dirty = true := by
   unfold dirtyE
   rw [List.all_eq_true]
   intro i hi
   exact h i (List.mem_range.1 hi)
  rw [hE, if_neg (by simp)] at hR
  exact hR
 clear hR
 repeat' (first|(with_reducible first|refine yrl (by constructor) ?_|refine jk (fun M hM=>?_)|(refine hM _ ?_;clear hM M)|refine yx3 ?_|refine yxa ?_ ?_|refine yxb ?_ ?_)|((with_reducible refine je ?_)<;>exact ynP6)|(with_reducible refine yxc ?_)|((with_reducible refine yxi (fun hc=>?_) (fun hc=>?_))<;>(try simp (disch:=omega) only [zhb] at hc)<;>(try (exfalso;omega))<;>(try subst hc))|(with_reducible refine yxw ?_)|(simp (config := { maxSteps := 400000 }) only [↓jt,↓reduceIte,zvs,reduceCtorEq,seval,tab,List.take_length,Try.results113,Try.results78,jTA])|(simp (disch:=omega) only [ziw]))
 all_goals (try (exfalso; omega))
 refine ok_loop (fun k : Nat => ⟨slots [(1, .ptr 0 []), (4, .sl (some (2, [], 0)) n), (5, .int .i64 (lastW m.dirty k)), (27, encWrs m.dirty), (28, .int .i64 m.dirty.length), (29, .int .i64 k)], rows [(0, .row machSh (encM m)), (2, .row (.arr n .cell) (.agg (((m.dirty.take k).foldl wrV h0).map .str)))], 3⟩) (fun k => k ≤ m.dirty.length ∧ ∀ j, j < k → dirtyQ h0 m.dirty j = true) (fun k => m.dirty.length - k) 0 ?_ ⟨Nat.zero_le _, fun j hj => by omega⟩ (fun k hk => ?_)
 ·(refine yrn [(0, 0), (2, 2)] false ?_ ?_<;>(repeat' (first|(with_reducible first|exact ya1|exact ya2|exact ya3|refine jx rfl (by first|rfl|assumption|(simp only [znl,znP6];(first|done|fail)))|exact ya5|exact ya7|exact jy|exact jz|refine jA ?_|refine ya9 ?_ ?_ ?_|refine jC rfl (by first|rfl|assumption|(simp only [znl,znP6];(first|done|fail)))|refine MR.agg (MRL.cons ?_ ?_)|refine MR.fn ?_|refine MRL.cons ?_ ?_|exact MRL.nil|refine jE ?_ ?_|exact jF|exact jG|refine yb1 ?_ ?_|refine MB.row ?_|refine jI ?_ ?_|exact ya8|refine jJ rfl (by first|rfl|assumption|(simp only [znl,znP6];(first|done|fail)))|refine yb2 ?_|rfl)|(simp only [znl,znP6];(first|done|fail))|(simp only [↓reduceIte,zlk,Nat.reduceEqDiff,reduceCtorEq])|(with_reducible first|refine jJ ?_ ?_|refine ya5 ?_|refine ju ?_|refine jv ?_|refine jw ?_|refine jx ?_ (by first|rfl|assumption|(simp only [znl,znP6];(first|done|fail)))|refine jC ?_ (by first|rfl|assumption|(simp only [znl,znP6];(first|done|fail)))))))
  all_goals (first | rfl | omega)
 obtain ⟨hk, hq⟩ := hk
 have hvl := foldl_wrV_len (m.dirty.take k) h0
 rw [← hnh] at hvl
 by_cases hlt : k < m.dirty.length
 ·obtain ⟨⟨w1, w2⟩, w3⟩ := hdS _ (getD_mem' hlt)
  have hl1 : -1 ≤ lastW m.dirty k ∧ lastW m.dirty k ≤ 9223372036854775807 := by
   cases k with
   | zero => exact ⟨Int.le_refl _, by show (-1 : Int) ≤ 9223372036854775807; omega⟩
   | succ k =>
    have := (dirtyQ_facts (hq k (by omega))).1
    have h2 := (hdS _ (getD_mem' (show k < m.dirty.length by omega))).1.2
    exact ⟨by show -1 ≤ (m.dirty.getD k default).b; omega, h2⟩
  have hQ : dirtyQ h0 m.dirty k = true ↔ (lastW m.dirty k < (m.dirty.getD k default).b ∧ (m.dirty.getD k default).b < h0.length ∧ (m.dirty.getD k default).d.length = 128) := by
   constructor
   ·intro h
    obtain ⟨d1, d2, d3, d4⟩ := dirtyQ_facts h
    exact ⟨d4, d2, d3⟩
   ·rintro ⟨d1, d2, d3⟩
    unfold dirtyQ
    cases k with
    | zero =>
     have d1 : (-1 : Int) < (m.dirty.getD 0 default).b := d1
     simp only [Nat.lt_irrefl,decide_false,Bool.false_and,Bool.or_false,Bool.not_eq_true',Bool.or_eq_false_iff,decide_eq_false_iff_not,ne_eq,Decidable.not_not]
     omega
    | succ k =>
     have d1 : (m.dirty.getD k default).b < (m.dirty.getD (k + 1) default).b := d1
     have := (dirtyQ_facts (hq k (by omega))).1
     rw [Nat.add_sub_cancel, decide_eq_true (Nat.succ_pos k)]
     simp only [Bool.true_and,Bool.not_eq_true',Bool.or_eq_false_iff,decide_eq_false_iff_not,ne_eq,Decidable.not_not]
     omega
  have hst := step_all (k := k) hq
  have hF := hF k hlt
  have dn : lastW m.dirty (k + 1) = (m.dirty.getD k default).b := rfl
  have e1 : (m.dirty.take (k + 1)).foldl wrV h0 = wrV ((m.dirty.take k).foldl wrV h0) (m.dirty.getD k default) := by
   rw [take_snoc m.dirty k hlt, List.foldl_append]; rfl
  generalize (m.dirty.take k).foldl wrV h0 = v at hvl e1 ⊢
  have hset : ∀ (i : Nat) (s : List UInt8), (v.map VV.str).set i (.str s) = (v.set i s).map VV.str := fun i s => (List.map_set ..).symm
  generalize lastW m.dirty k = lw at hl1 hQ ⊢
  by_cases hQt : dirtyQ h0 m.dirty k = true
  ·obtain ⟨d1, d2, d3⟩ := hQ.1 hQt
   have e1 := e1.trans (show wrV v (m.dirty.getD k default) = v.set (m.dirty.getD k default).b.toNat (m.dirty.getD k default).d from if_pos ⟨by omega, by omega⟩)
   repeat' (first|(with_reducible first|refine yrl (by constructor) ?_|refine jk (fun M hM=>?_)|(refine hM _ ?_;clear hM M)|refine yx3 ?_|refine yxa ?_ ?_|refine yxb ?_ ?_)|((with_reducible refine je ?_)<;>exact ynP6)|(with_reducible refine yxc ?_)|((with_reducible refine yxi (fun hc=>?_) (fun hc=>?_))<;>(try simp (disch:=omega) only [zhb] at hc)<;>(try (exfalso;omega))<;>(try subst hc))|(with_reducible refine yxw ?_)|(simp (config := { maxSteps := 400000 }) only [↓jt,↓reduceIte,zvs,reduceCtorEq,seval,tab,encWr,hvl,hset,Try.results78,jTA])|(simp (disch:=omega) only [ziw]))
   all_goals first
    | (exfalso; omega)
    | (refine xl1 (k + 1) ?_ ⟨by omega, hst hQt⟩ (by show m.dirty.length - (k + 1) < m.dirty.length - k; omega); (refine yrn [(0, 0), (2, 2)] false ?_ ?_<;>(repeat' (first|(with_reducible first|exact ya1|exact ya2|exact ya3|refine jx rfl (by first|rfl|assumption|(simp only [znl,znP6];(first|done|fail)))|exact ya5|exact ya7|exact jy|exact jz|refine jA ?_|refine ya9 ?_ ?_ ?_|refine jC rfl (by first|rfl|assumption|(simp only [znl,znP6];(first|done|fail)))|refine MR.agg (MRL.cons ?_ ?_)|refine MR.fn ?_|refine MRL.cons ?_ ?_|exact MRL.nil|refine jE ?_ ?_|exact jF|exact jG|refine yb1 ?_ ?_|refine MB.row ?_|refine jI ?_ ?_|exact ya8|refine jJ rfl (by first|rfl|assumption|(simp only [znl,znP6];(first|done|fail)))|refine yb2 ?_|rfl)|(simp only [znl,znP6];(first|done|fail))|(simp only [↓reduceIte,zlk,Nat.reduceEqDiff,reduceCtorEq])|(with_reducible first|refine jJ ?_ ?_|refine ya5 ?_|refine ju ?_|refine jv ?_|refine jw ?_|refine jx ?_ (by first|rfl|assumption|(simp only [znl,znP6];(first|done|fail)))|refine jC ?_ (by first|rfl|assumption|(simp only [znl,znP6];(first|done|fail))))))); all_goals (first | rfl | omega | (rw [e1]; done)))
  ·have hno := mt hQ.2 hQt
   have hF := hF (by simpa using hQt)
   repeat' (first|(with_reducible first|refine yrl (by constructor) ?_|refine jk (fun M hM=>?_)|(refine hM _ ?_;clear hM M)|refine yx3 ?_|refine yxa ?_ ?_|refine yxb ?_ ?_)|((with_reducible refine je ?_)<;>exact ynP6)|(with_reducible refine yxc ?_)|((with_reducible refine yxi (fun hc=>?_) (fun hc=>?_))<;>(try simp (disch:=omega) only [zhb] at hc)<;>(try (exfalso;omega))<;>(try subst hc))|(with_reducible refine yxw ?_)|(simp (config := { maxSteps := 400000 }) only [↓jt,↓reduceIte,zvs,reduceCtorEq,seval,tab,encWr,hvl,hset,Try.results78,jTA])|(simp (disch:=omega) only [ziw]))
   all_goals first
    | (exfalso; omega)
    | (rw [hF]; simp only [zrds]; done)
 obtain rfl : k = m.dirty.length := by omega
 have hT := hT hq
 rw [List.take_length] at *
 simp only [geoV] at hO
 generalize volE (m.dirty.foldl wrV h0) = e at hO hT
 repeat' (first|(with_reducible first|refine yrl (by constructor) ?_|refine jk (fun M hM=>?_)|(refine hM _ ?_;clear hM M)|refine yx3 ?_|refine yxa ?_ ?_|refine yxb ?_ ?_)|((with_reducible refine je ?_)<;>exact ynP6)|(with_reducible refine yxc ?_)|((with_reducible refine yxi (fun hc=>?_) (fun hc=>?_))<;>(try simp (disch:=omega) only [zhb] at hc)<;>(try (exfalso;omega))<;>(try subst hc))|(with_reducible refine yxw ?_)|(simp (config := { maxSteps := 400000 }) only [↓jt,↓reduceIte,zvs,reduceCtorEq,seval,tab,List.take_length,Try.results78,jTA])|(simp (disch:=omega) only [ziw]))
 all_goals (try (exfalso; omega))
 refine ja (call_plain (hO) (by repeat (first | exact rdl_nil | refine rdl_cons ?_ ?_ | exact Rd.refl _ _ (by first|rfl|assumption|(simp only [znl,znP6];(first|done|fail))) | (refine rd_own (by (simp only [↓reduceIte,zlk,Nat.reduceEqDiff,reduceCtorEq]); exact rfl) (by first | rfl | (simp; done) | (simp; omega)) rfl (by first|rfl|assumption|(simp only [znl,znP6];(first|done|fail)))) | exact rd_nil | refine (rd_a _ _ _).mpr ?_)) rfl rfl ?_)
 repeat' (first|(with_reducible first|refine yrl (by constructor) ?_|refine jk (fun M hM=>?_)|(refine hM _ ?_;clear hM M)|refine yx3 ?_|refine yxa ?_ ?_|refine yxb ?_ ?_)|((with_reducible refine je ?_)<;>exact ynP6)|(with_reducible refine yxc ?_)|((with_reducible refine yxi (fun hc=>?_) (fun hc=>?_))<;>(try simp (disch:=omega) only [zhb] at hc)<;>(try (exfalso;omega))<;>(try subst hc))|(with_reducible refine yxw ?_)|(simp (config := { maxSteps := 400000 }) only [↓jt,↓reduceIte,zvs,reduceCtorEq,seval,tab,Try.results78,jTA])|(simp (disch:=omega) only [ziw]))
 all_goals first
  | (exfalso; omega)
  | (rw [hT]; simp only [zrds]; done)
theorem volume_ex (m : Mach) (hm : MFit 20000 m) : Spec Try.prog 78 [encM m] (.int .i64 (diskE m)) := by
 by_cases h0 : checkD m.dr = 0
 ·by_cases h33 : 33 < m.dr.bl.length
  ·exact volume_c m hm h0 h33
  ·have e : diskE m = 3 := by
    unfold diskE
    rw [if_neg (by omega), if_pos]
    unfold homeD
    rw [if_neg fun y => h33 y.2]
   rw [e]
   exact volume_b m hm h0 (by omega)
 ·have e : diskE m = checkD m.dr := by
   unfold diskE
   rw [if_pos h0]
  rw [e]
  exact volume_a m hm h0
end Go.Proofs.Ytpdhdkpebbfnnaa.V
end
