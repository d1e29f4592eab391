/-
  Parts of the proof of ProcApart: M8, M9, U2, U3.
  Conditions: none.
-/
import Derived.Test.YtpdhdkpebbfnnaaWProcApart09
set_option linter.unusedVariables false
set_option linter.unusedSimpArgs false
set_option linter.unusedSectionVars false
set_option linter.defProp false
section
namespace Go.Proofs.Ytpdhdkpebbfnnaa.V
open Go
set_option maxRecDepth 100000
set_option maxHeartbeats 1000000
def pieceN (fr : Frames) (s : List Pte) : Nat → Int → Nat → Option (List UInt8)
  | _, _, 0 => some []
  | 0, _, _ + 1 => none
  | t + 1, a, n => match findO s a 1 false with
    | some (f, i) => if thereF fr f = true then (pieceN fr s t (a + (min n (128 - i.toNat) : Nat)) (n - min n (128 - i.toNat))).map fun r => ((fr.getD f.toNat []).drop i.toNat).take (min n (128 - i.toNat)) ++ r else none
    | none => none
theorem pieceN_succ (fr : Frames) (s : List Pte) (t : Nat) (a : Int) (n : Nat) : pieceN fr s (t + 1) a (n + 1) = match findO s a 1 false with
  | some (f, i) => if thereF fr f = true then (pieceN fr s t (a + (min (n + 1) (128 - i.toNat) : Nat)) (n + 1 - min (n + 1) (128 - i.toNat))).map fun r => ((fr.getD f.toNat []).drop i.toNat).take (min (n + 1) (128 - i.toNat)) ++ r else none
  | none => none := rfl
theorem PCopy_spec (fr : Frames) (hf : fits fr) (s : List Pte) (hs : s.length = 16) (a : Int) (ha : 0 ≤ a ∧ a < 2 ^ 32) (n : Int) (hn : -2 ^ 63 ≤ n ∧ n < 2 ^ 63) :
    Spec Try.prog 32 [encStrs fr, encSpace s, .int .u32 a, .int .i64 n] (strV (if n < 0 ∨ 2048 < n ∨ 2048 < a + n then none else pieceN fr s 2049 a n.toNat)) := by
  have hS := hasSpace s hs
  obtain ⟨hf1, hf2⟩ := id hf
  by_cases hc0 : n < 0 ∨ 2048 < n ∨ 2048 < a + n
  · rw [if_pos hc0]
    refine spec_ok Try.func32 rfl rfl (by kernel_rfl) (k := 4) rfl (by decide) ?_
    repeat' (first|(with_reducible first|refine yrl (by constructor) ?_|refine jk (fun M hM=>?_)|(refine hM _ ?_;clear hM M)|refine xb3 (by decide) ?_|refine yqa (by assumption) ?_ ?_|refine yqb (by assumption) ?_ ?_)|((with_reducible refine je ?_)<;>(first|rfl|assumption|(simp only [znl,jR];(first|done|fail))))|(with_reducible refine jf (by (simp only [↓reduceIte,zlk,Nat.reduceEqDiff,reduceCtorEq]);exact rfl) ?_)|((with_reducible first|refine jg (fun hc=>?_) (fun hc=>?_)|refine jh (fun hc=>?_) (fun hc=>?_))<;>(try simp (disch:=omega) only [zhb] at hc)<;>(try (exfalso;omega))<;>(try subst hc))|(with_reducible refine ji (by omega) ?_)|(simp (config := { maxSteps := 400000 }) only [↓jt,↓reduceIte,zvs,reduceCtorEq,seval,-List.reduceReplicate,tab,hS,Try.results32,jTA])|(simp (disch:=omega) only [ziw]))
    refine ja (ok_body Try.func64 rfl rfl (by kernel_rfl) (k := 6) (by rfl) (by decide) ?_)
    repeat' (first|(with_reducible first|refine yrl (by constructor) ?_|refine jk (fun M hM=>?_)|(refine hM _ ?_;clear hM M)|refine xb3 (by decide) ?_|refine yqa (by assumption) ?_ ?_|refine yqb (by assumption) ?_ ?_)|((with_reducible refine je ?_)<;>(first|rfl|assumption|(simp only [znl,jR];(first|done|fail))))|(with_reducible refine jf (by (simp only [↓reduceIte,zlk,Nat.reduceEqDiff,reduceCtorEq]);exact rfl) ?_)|((with_reducible first|refine jg (fun hc=>?_) (fun hc=>?_)|refine jh (fun hc=>?_) (fun hc=>?_))<;>(try simp (disch:=omega) only [zhb] at hc)<;>(try (exfalso;omega))<;>(try subst hc))|(with_reducible refine ji (by omega) ?_)|(simp (config := { maxSteps := 400000 }) only [↓jt,↓reduceIte,zvs,reduceCtorEq,seval,-List.reduceReplicate,tab,hS,Try.results64,jTA,Try.results32,jTA])|(simp (disch:=omega) only [ziw]))
    all_goals simp only [strV]
    all_goals simp only [zrds]
  · rw [if_neg hc0]
    obtain ⟨R, hR⟩ : ∃ R, R = pieceN fr s 2049 a n.toNat := ⟨_, rfl⟩
    rw [← hR]
    refine spec_ok Try.func32 rfl rfl (by kernel_rfl) (k := 4) rfl (by decide) ?_
    repeat' (first|(with_reducible first|refine yrl (by constructor) ?_|refine jk (fun M hM=>?_)|(refine hM _ ?_;clear hM M)|refine xb3 (by decide) ?_|refine yqa (by assumption) ?_ ?_|refine yqb (by assumption) ?_ ?_)|((with_reducible refine je ?_)<;>(first|rfl|assumption|(simp only [znl,jR];(first|done|fail))))|(with_reducible refine jf (by (simp only [↓reduceIte,zlk,Nat.reduceEqDiff,reduceCtorEq]);exact rfl) ?_)|((with_reducible first|refine jg (fun hc=>?_) (fun hc=>?_)|refine jh (fun hc=>?_) (fun hc=>?_))<;>(try simp (disch:=omega) only [zhb] at hc)<;>(try (exfalso;omega))<;>(try subst hc))|(with_reducible refine ji (by omega) ?_)|(simp (config := { maxSteps := 400000 }) only [↓jt,↓reduceIte,zvs,reduceCtorEq,seval,-List.reduceReplicate,tab,hS,Try.results32,jTA])|(simp (disch:=omega) only [ziw]))
    refine ja (ok_body Try.func64 rfl rfl (by kernel_rfl) (k := 6) (by rfl) (by decide) ?_)
    repeat' (first|(with_reducible first|refine yrl (by constructor) ?_|refine jk (fun M hM=>?_)|(refine hM _ ?_;clear hM M)|refine xb3 (by decide) ?_|refine yqa (by assumption) ?_ ?_|refine yqb (by assumption) ?_ ?_)|((with_reducible refine je ?_)<;>(first|rfl|assumption|(simp only [znl,jR];(first|done|fail))))|(with_reducible refine jf (by (simp only [↓reduceIte,zlk,Nat.reduceEqDiff,reduceCtorEq]);exact rfl) ?_)|((with_reducible first|refine jg (fun hc=>?_) (fun hc=>?_)|refine jh (fun hc=>?_) (fun hc=>?_))<;>(try simp (disch:=omega) only [zhb] at hc)<;>(try (exfalso;omega))<;>(try subst hc))|(with_reducible refine ji (by omega) ?_)|(simp (config := { maxSteps := 400000 }) only [↓jt,↓reduceIte,zvs,reduceCtorEq,seval,-List.reduceReplicate,tab,hS,Try.results64,jTA])|(simp (disch:=omega) only [ziw]))
    refine ok_loop (fun x : Int × Nat × List UInt8 => ⟨slots [(0, encStrs fr), (2, .int .u32 x.1), (3, .int .i64 x.2.1), (4, .bool false), (5, .fn 65 [.ptr 2 [], .ptr 0 []]), (7, .ptr 3 []), (12, .bool false)],
        rows [(0, .row .cell (encStrs fr)), (1, .row (.arr 16 (.st [.cell, .cell, .cell])) (encSpace s)), (2, .row .cell (.sl (some (4, [], 0)) x.2.2.length)), (3, .row (.arr 16 (.st [.cell, .cell, .cell])) (encSpace s)), (4, .row (.arr x.2.2.length .cell) (.agg (x.2.2.map encB)))], 5⟩)
      (fun x => 0 ≤ x.1 ∧ x.1 + x.2.1 = a + n ∧ x.2.2.length + x.2.1 = n ∧ ∃ t, x.2.1 < t ∧ R = (pieceN fr s t x.1 x.2.1).map (x.2.2 ++ ·)) (fun x => x.2.1) (a, n.toNat, []) ?_ ⟨ha.1, by show a + (n.toNat : Int) = a + n; omega, by show ((0 : Nat) : Int) + (n.toNat : Int) = n; omega, 2049, by show n.toNat < 2049; omega, by rw [hR]; simp⟩ (fun x hx => ?_)
    · (refine yrn [(3, 3)] false ?_ ?_<;>(repeat' (first|(with_reducible first|exact ya1|exact ya2|exact ya3|refine jx rfl (by first|rfl|assumption|(simp only [znl,jR];(first|done|fail)))|exact ya5|exact ya7|exact jy|exact jz|refine jA ?_|refine ya9 ?_ ?_ ?_|refine jC rfl (by first|rfl|assumption|(simp only [znl,jR];(first|done|fail)))|refine MR.agg (MRL.cons ?_ ?_)|refine MR.fn ?_|refine MRL.cons ?_ ?_|exact MRL.nil|refine jE ?_ ?_|exact jF|exact jG|refine yb1 ?_ ?_|refine MB.row ?_|refine jI ?_ ?_|exact ya8|refine jJ rfl (by first|rfl|assumption|(simp only [znl,jR];(first|done|fail)))|refine yb2 ?_|rfl)|(simp only [znl,jR];(first|done|fail))|(simp only [↓reduceIte,zlk,Nat.reduceEqDiff,reduceCtorEq])|(with_reducible first|refine jJ ?_ ?_|refine ya5 ?_|refine ju ?_|refine jv ?_|refine jw ?_|refine jx ?_ (by first|rfl|assumption|(simp only [znl,jR];(first|done|fail)))|refine jC ?_ (by first|rfl|assumption|(simp only [znl,jR];(first|done|fail)))))))
      all_goals first | rfl | (simp; done)
    obtain ⟨a', r, out⟩ := x
    obtain ⟨hx1, hx2, hx3, t, ht, hx4⟩ := hx
    dsimp only at hx1 hx2 hx3 ht hx4 ⊢
    by_cases hlt : 0 < r
    · obtain ⟨r', rfl⟩ : ∃ r', r = r' + 1 := ⟨r - 1, by omega⟩
      obtain ⟨t, rfl⟩ : ∃ t', t = t' + 1 := ⟨t - 1, by omega⟩
      repeat' (first|(with_reducible first|refine yrl (by constructor) ?_|refine jk (fun M hM=>?_)|(refine hM _ ?_;clear hM M)|refine xb3 (by decide) ?_|refine yqa (by assumption) ?_ ?_|refine yqb (by assumption) ?_ ?_)|((with_reducible refine je ?_)<;>(first|rfl|assumption|(simp only [znl,jR];(first|done|fail))))|(with_reducible refine jf (by (simp only [↓reduceIte,zlk,Nat.reduceEqDiff,reduceCtorEq]);exact rfl) ?_)|((with_reducible first|refine jg (fun hc=>?_) (fun hc=>?_)|refine jh (fun hc=>?_) (fun hc=>?_))<;>(try simp (disch:=omega) only [zhb] at hc)<;>(try (exfalso;omega))<;>(try subst hc))|(with_reducible refine ji (by omega) ?_)|(simp (config := { maxSteps := 400000 }) only [↓jt,↓reduceIte,zvs,reduceCtorEq,seval,-List.reduceReplicate,tab,hS])|(simp (disch:=omega) only [ziw]))
      have h1 := find_spec s hs a' (by omega) 1 false
      rcases hF : findO s a' 1 false with _ | ⟨f, i⟩
      · rw [hF] at h1
        simp only [findV] at h1
        rw [pieceN_succ, hF, Option.map_none] at hx4
        refine ja (jc (h1) (by first|rfl|assumption|(simp only [znl,jR];(first|done|fail))) rfl ?_)
        repeat' (first|(with_reducible first|refine yrl (by constructor) ?_|refine jk (fun M hM=>?_)|(refine hM _ ?_;clear hM M)|refine xb3 (by decide) ?_|refine yqa (by assumption) ?_ ?_|refine yqb (by assumption) ?_ ?_)|((with_reducible refine je ?_)<;>(first|rfl|assumption|(simp only [znl,jR];(first|done|fail))))|(with_reducible refine jf (by (simp only [↓reduceIte,zlk,Nat.reduceEqDiff,reduceCtorEq]);exact rfl) ?_)|((with_reducible first|refine jg (fun hc=>?_) (fun hc=>?_)|refine jh (fun hc=>?_) (fun hc=>?_))<;>(try simp (disch:=omega) only [zhb] at hc)<;>(try (exfalso;omega))<;>(try subst hc))|(with_reducible refine ji (by omega) ?_)|(simp (config := { maxSteps := 400000 }) only [↓jt,↓reduceIte,zvs,reduceCtorEq,seval,-List.reduceReplicate,tab,hS,Try.results64,jTA,Try.results32,jTA])|(simp (disch:=omega) only [ziw]))
        rw [hx4]
        simp only [strV]
        simp only [zrds]
      · rw [hF] at h1
        simp only [findV] at h1
        rw [pieceN_succ, hF] at hx4
        dsimp only at hx4
        obtain ⟨g0, g1, g2, g3, g4, g5, g6, g7, g8⟩ := findO_some hx1 hF
        have h2 := there_spec fr hf f
        by_cases ht : thereF fr f = true
        · have ht' := thereF_iff.1 ht
          rw [ht] at h2
          rw [if_pos ht] at hx4
          refine ja (jc (h1) (by first|rfl|assumption|(simp only [znl,jR];(first|done|fail))) rfl ?_)
          repeat' (first|(with_reducible first|refine yrl (by constructor) ?_|refine jk (fun M hM=>?_)|(refine hM _ ?_;clear hM M)|refine xb3 (by decide) ?_|refine yqa (by assumption) ?_ ?_|refine yqb (by assumption) ?_ ?_)|((with_reducible refine je ?_)<;>(first|rfl|assumption|(simp only [znl,jR];(first|done|fail))))|(with_reducible refine jf (by (simp only [↓reduceIte,zlk,Nat.reduceEqDiff,reduceCtorEq]);exact rfl) ?_)|((with_reducible first|refine jg (fun hc=>?_) (fun hc=>?_)|refine jh (fun hc=>?_) (fun hc=>?_))<;>(try simp (disch:=omega) only [zhb] at hc)<;>(try (exfalso;omega))<;>(try subst hc))|(with_reducible refine ji (by omega) ?_)|(simp (config := { maxSteps := 400000 }) only [↓jt,↓reduceIte,zvs,reduceCtorEq,seval,-List.reduceReplicate,tab,hS])|(simp (disch:=omega) only [ziw]))
          refine ja (ok_body Try.func65 rfl rfl (by kernel_rfl) (k := 5) (by rfl) (by decide) ?_)
          repeat' (first|(with_reducible first|refine yrl (by constructor) ?_|refine jk (fun M hM=>?_)|(refine hM _ ?_;clear hM M)|refine xb3 (by decide) ?_|refine yqa (by assumption) ?_ ?_|refine yqb (by assumption) ?_ ?_)|((with_reducible refine je ?_)<;>(first|rfl|assumption|(simp only [znl,jR];(first|done|fail))))|(with_reducible refine jf (by (simp only [↓reduceIte,zlk,Nat.reduceEqDiff,reduceCtorEq]);exact rfl) ?_)|((with_reducible first|refine jg (fun hc=>?_) (fun hc=>?_)|refine jh (fun hc=>?_) (fun hc=>?_))<;>(try simp (disch:=omega) only [zhb] at hc)<;>(try (exfalso;omega))<;>(try subst hc))|(with_reducible refine ji (by omega) ?_)|(simp (config := { maxSteps := 400000 }) only [↓jt,↓reduceIte,zvs,reduceCtorEq,seval,-List.reduceReplicate,tab,hS])|(simp (disch:=omega) only [ziw]))
          refine ok_draw 10 (by kernel_rfl) (by decide +kernel) (by intro m hm; simp only [upd_ap,rows_cons,rows_nil]; (repeat (first | rfl | rw [if_neg (by omega)]))) (fun M hM => ?_); simp only [List.take_succ_cons,List.take_zero,List.drop_succ_cons,List.drop_zero]
          repeat' (first|(with_reducible first|refine yrl (by constructor) ?_|refine jk (fun M hM=>?_)|(refine hM _ ?_;clear hM M)|refine xb3 (by decide) ?_|refine yqa (by assumption) ?_ ?_|refine yqb (by assumption) ?_ ?_)|((with_reducible refine je ?_)<;>(first|rfl|assumption|(simp only [znl,jR];(first|done|fail))))|(with_reducible refine jf (by (simp only [↓reduceIte,zlk,Nat.reduceEqDiff,reduceCtorEq]);exact rfl) ?_)|((with_reducible first|refine jg (fun hc=>?_) (fun hc=>?_)|refine jh (fun hc=>?_) (fun hc=>?_))<;>(try simp (disch:=omega) only [zhb] at hc)<;>(try (exfalso;omega))<;>(try subst hc))|(with_reducible refine ji (by omega) ?_)|(simp (config := { maxSteps := 400000 }) only [↓jt,↓reduceIte,zvs,reduceCtorEq,seval,-List.reduceReplicate,tab,hS,Try.results65,jTA])|(simp (disch:=omega) only [ziw]))
          obtain ⟨m, hm⟩ : ∃ m, m = min (r' + 1) (128 - i.toNat) := ⟨_, rfl⟩
          have e1 : (i + min ((r' + 1 : Nat) : Int) (128 - i)).toNat - i.toNat = m := by omega
          have e2 : min ((r' + 1 : Nat) : Int) (128 - i) = (m : Int) := by omega
          have hpl : (List.take m (List.drop i.toNat (fr.getD f.toNat []))).length = m := by rw [List.length_take, List.length_drop]; omega
          rw [← hm] at hx4
          refine xl1 (a' + (m : Int), r' + 1 - m, out ++ List.take m (List.drop i.toNat (fr.getD f.toNat []))) ?_ ⟨by show 0 ≤ a' + (m : Int); omega, by show a' + (m : Int) + ((r' + 1 - m : Nat) : Int) = a + n; omega, ?_, t, by show r' + 1 - m < t; omega, ?_⟩ (by show r' + 1 - m < r' + 1; omega)
          · (refine yrn [(3, 3), (4, 645)] false ?_ ?_<;>(repeat' (first|(with_reducible first|exact ya1|exact ya2|exact ya3|refine jx rfl (by first|rfl|assumption|(simp only [znl,jR];(first|done|fail)))|exact ya5|exact ya7|exact jy|exact jz|refine jA ?_|refine ya9 ?_ ?_ ?_|refine jC rfl (by first|rfl|assumption|(simp only [znl,jR];(first|done|fail)))|refine MR.agg (MRL.cons ?_ ?_)|refine MR.fn ?_|refine MRL.cons ?_ ?_|exact MRL.nil|refine jE ?_ ?_|exact jF|exact jG|refine yb1 ?_ ?_|refine MB.row ?_|refine jI ?_ ?_|exact ya8|refine jJ rfl (by first|rfl|assumption|(simp only [znl,jR];(first|done|fail)))|refine yb2 ?_|rfl)|(simp only [znl,jR];(first|done|fail))|(simp only [↓reduceIte,zlk,Nat.reduceEqDiff,reduceCtorEq])|(with_reducible first|refine jJ ?_ ?_|refine ya5 ?_|refine ju ?_|refine jv ?_|refine jw ?_|refine jx ?_ (by first|rfl|assumption|(simp only [znl,jR];(first|done|fail)))|refine jC ?_ (by first|rfl|assumption|(simp only [znl,jR];(first|done|fail)))))))
            all_goals first
              | (rw [List.length_append, hpl]; omega)
              | (rw [e1]; simp; done)
          · show (((out ++ List.take m (List.drop i.toNat (fr.getD f.toNat []))).length : Nat) : Int) + ((r' + 1 - m : Nat) : Int) = n
            rw [List.length_append, hpl]; omega
          · show R = Option.map ((out ++ List.take m (List.drop i.toNat (fr.getD f.toNat []))) ++ ·) (pieceN fr s t (a' + (m : Int)) (r' + 1 - m))
            rw [hx4, Option.map_map]
            congr 1
            funext r
            simp
        · have ht2 := ht
          rw [Bool.not_eq_true] at ht
          rw [ht] at h2
          rw [if_neg ht2, Option.map_none] at hx4
          refine ja (jc (h1) (by first|rfl|assumption|(simp only [znl,jR];(first|done|fail))) rfl ?_)
          repeat' (first|(with_reducible first|refine yrl (by constructor) ?_|refine jk (fun M hM=>?_)|(refine hM _ ?_;clear hM M)|refine xb3 (by decide) ?_|refine yqa (by assumption) ?_ ?_|refine yqb (by assumption) ?_ ?_)|((with_reducible refine je ?_)<;>(first|rfl|assumption|(simp only [znl,jR];(first|done|fail))))|(with_reducible refine jf (by (simp only [↓reduceIte,zlk,Nat.reduceEqDiff,reduceCtorEq]);exact rfl) ?_)|((with_reducible first|refine jg (fun hc=>?_) (fun hc=>?_)|refine jh (fun hc=>?_) (fun hc=>?_))<;>(try simp (disch:=omega) only [zhb] at hc)<;>(try (exfalso;omega))<;>(try subst hc))|(with_reducible refine ji (by omega) ?_)|(simp (config := { maxSteps := 400000 }) only [↓jt,↓reduceIte,zvs,reduceCtorEq,seval,-List.reduceReplicate,tab,hS,Try.results64,jTA,Try.results32,jTA])|(simp (disch:=omega) only [ziw]))
          rw [hx4]
          simp only [strV]
          simp only [zrds]
    · repeat' (first|(with_reducible first|refine yrl (by constructor) ?_|refine jk (fun M hM=>?_)|(refine hM _ ?_;clear hM M)|refine xb3 (by decide) ?_|refine yqa (by assumption) ?_ ?_|refine yqb (by assumption) ?_ ?_)|((with_reducible refine je ?_)<;>(first|rfl|assumption|(simp only [znl,jR];(first|done|fail))))|(with_reducible refine jf (by (simp only [↓reduceIte,zlk,Nat.reduceEqDiff,reduceCtorEq]);exact rfl) ?_)|((with_reducible first|refine jg (fun hc=>?_) (fun hc=>?_)|refine jh (fun hc=>?_) (fun hc=>?_))<;>(try simp (disch:=omega) only [zhb] at hc)<;>(try (exfalso;omega))<;>(try subst hc))|(with_reducible refine ji (by omega) ?_)|(simp (config := { maxSteps := 400000 }) only [↓jt,↓reduceIte,zvs,reduceCtorEq,seval,-List.reduceReplicate,tab,hS,bytesOf_enc,Try.results64,jTA,Try.results32,jTA])|(simp (disch:=omega) only [ziw]))
      have : r = 0 := by omega
      subst this
      rw [hx4]
      cases t <;> (simp only [pieceN,Option.map_some,strV]; simp only [zrds]; simp)
end Go.Proofs.Ytpdhdkpebbfnnaa.V
end
section
namespace Go.Proofs.Ytpdhdkpebbfnnaa.V
open Go
set_option maxRecDepth 100000
set_option maxHeartbeats 1000000
end Go.Proofs.Ytpdhdkpebbfnnaa.V
end
section
namespace Go.Proofs.Ytpdhdkpebbfnnaa.V
open Go
set_option maxRecDepth 100000
def znU2 := And.intro @jO <| And.intro @jP <| And.intro @jQ <| And.intro @jR <| And.intro @jS <| And.intro @jT <| And.intro @jU <| True.intro
set_option maxHeartbeats 8000000
def pagU (fr : Frames) (s : List Pte) (i : Nat) : Option (List UInt8) := if (s.getD i default).is = true ∧ thereF fr (s.getD i default).fr = true then some (fr.getD (s.getD i default).fr.toNat []) else none
theorem findO_page (s : List Pte) {i : Nat} (hi : i < 16) (wr : Bool) : findO s (128 * (i : Int)) 1 wr = if (s.getD i default).is = true ∧ (wr = true → (s.getD i default).wr = true) then some ((s.getD i default).fr, 0) else none := by
  unfold findO
  have e1 : (128 * (i : Int) / 128).toNat = i := by omega
  have e2 : 128 * (i : Int) % 128 = 0 := by omega
  rw [if_neg (by omega), e1, e2]
  cases h1 : (s.getD i default).is with
  | false => simp
  | true =>
    cases wr with
    | false => simp
    | true =>
      cases h2 : (s.getD i default).wr <;> simp
theorem piece_page (fr : Frames) (s : List Pte) {i : Nat} (hi : i < 16) : pieceN fr s 2049 (128 * (i : Int)) 128 = pagU fr s i := by
  rw [pieceN_succ, findO_page s hi]
  unfold pagU
  by_cases h1 : (s.getD i default).is = true
  · rw [if_pos ⟨h1, fun h => by cases h⟩]
    dsimp only
    by_cases h2 : thereF fr (s.getD i default).fr = true
    · rw [if_pos h2, if_pos ⟨h1, h2⟩]
      have e0 : min (127 + 1) (128 - (0 : Int).toNat) = 128 := by decide
      rw [e0]
      have h3 := (thereF_iff.1 h2).2.2
      show Option.map _ (some []) = _
      rw [Option.map_some, List.append_nil]
      congr 1
      show List.take 128 (List.drop 0 _) = _
      rw [List.drop_zero, List.take_of_length_le (by omega)]
    · rw [if_neg h2, if_neg fun h => h2 h.2]
  · rw [if_neg fun h => h1 h.1, if_neg fun h => h1 h.1]
theorem mfit_fits {m : Mach} (hm : MFit 20000 m) (hfs : ∀ s ∈ m.fr, s.length = 128) : fits m.fr := ⟨by have := hm.fr; omega, fun s hs => by rw [hfs s hs]; decide⟩
theorem copyPage_spec (fr : Frames) (hf : fits fr) (s : List Pte) (hs : s.length = 16) {i : Nat} (hi : i < 16) : Spec Try.prog 32 [encStrs fr, encSpace s, .int .u32 (128 * (i : Int)), .int .i64 128] (strV (pagU fr s i)) := by
  have h := PCopy_spec fr hf s hs (128 * (i : Int)) (by omega) 128 (by decide)
  rw [if_neg (by omega)] at h
  have e : (128 : Int).toNat = 128 := by decide
  rw [e, piece_page fr s hi] at h
  exact h
def sameMem (fr gr : Frames) (s : List Pte) : Prop := ∀ x ∈ s, x.is = true → thereF gr x.fr = thereF fr x.fr ∧ gr.getD x.fr.toNat [] = fr.getD x.fr.toNat []
theorem same_page {fr gr : Frames} {s : List Pte} (h : sameMem fr gr s) {i : Nat} (hi : i < s.length) : pagU gr s i = pagU fr s i := by
  unfold pagU
  by_cases h1 : (s.getD i default).is = true
  · obtain ⟨h2, h3⟩ := h _ (getD_mem' hi) h1
    rw [h2, h3]
  · rw [if_neg fun h => h1 h.1, if_neg fun h => h1 h.1]
theorem strV_t (o : Option (List UInt8)) : ∃ (l : List UInt8) (b : Bool), strV o = .tup [.str l, .bool b] := by cases o <;> exact ⟨_, _, rfl⟩
theorem pkept_spec (m m2 : Mach) (hm : MFit 20000 m) (ht : MFit 20000 m2) (hmf : fits m.fr) (htf : fits m2.fr) (p : Pr) (hp : PrR p) (pid : Int) (hpid : i64R pid) {k : Nat} (hk : findI m2.pr pid = some k) (hq : m2.pr.getD k default = p) (hs : sameMem m.fr m2.fr p.sp) :
    Spec Try.prog 34 [encM m, encM m2, encPr p, .int .i64 pid] (.bool true) := by
  have hF := pfind_spec m2 ht pid hpid
  obtain ⟨hi, _⟩ := findI_some hk
  have hfit := fit_pr hp
  have hvp := veq_pr p
  obtain ⟨hS1, hS2, hS3⟩ := pr3 hp
  rw [hk] at hF
  simp only [placeV] at hF
  have hl := ht.pr
  have hnm := nl_encM m
  have hnt := nl_encM m2
  have hss := hp.sp
  have hget : (m2.pr.map encPr)[k]? = some (encPr p) := by
    rw [List.getElem?_map, List.getElem?_eq_getElem hi, ← hq, List.getD_eq_getElem?_getD, List.getElem?_eq_getElem hi]; rfl
  refine spec_ok Try.func34 rfl rfl (by kernel_rfl) (k := 4) rfl (by decide) ?_
  repeat' (first|(with_reducible first|refine yrl (by constructor) ?_|refine jk (fun M hM=>?_)|(refine hM _ ?_;clear hM M)|refine xb3 (by decide) ?_|refine yqa (by assumption) ?_ ?_|refine yqb (by assumption) ?_ ?_)|((with_reducible refine je ?_)<;>(first|rfl|assumption|(simp only [znl,znU2];(first|done|fail))))|(with_reducible refine jf (by (simp only [↓reduceIte,zlk,Nat.reduceEqDiff,reduceCtorEq]);exact rfl) ?_)|((with_reducible first|refine jg (fun hc=>?_) (fun hc=>?_)|refine jh (fun hc=>?_) (fun hc=>?_))<;>(try simp (disch:=omega) only [zhb] at hc)<;>(try (exfalso;omega))<;>(try subst hc))|(with_reducible refine ji (by omega) ?_)|(simp (config := { maxSteps := 400000 }) only [↓jt,↓reduceIte,zvs,reduceCtorEq,seval,-List.reduceReplicate,tab,hfit,hvp,hS1,hS2,hS3,hq,encPr,Try.results34,jTA])|(simp (disch:=omega) only [ziw]))
  all_goals (try (exfalso; omega))
  refine ok_drawC 11 (by kernel_rfl) (by decide +kernel) (by intro m hm; simp only [upd_ap,rows_cons,rows_nil]; (repeat (first | rfl | rw [if_neg (by omega)]))) (fun M hM => ?_); simp only [List.take_succ_cons,List.take_zero,List.drop_succ_cons,List.drop_zero]
  repeat' (first|(with_reducible first|refine yrl (by constructor) ?_|refine jk (fun M hM=>?_)|(refine hM _ ?_;clear hM M)|refine xb3 (by decide) ?_|refine yqa (by assumption) ?_ ?_|refine yqb (by assumption) ?_ ?_)|((with_reducible refine je ?_)<;>(first|rfl|assumption|(simp only [znl,znU2];(first|done|fail))))|(with_reducible refine jf (by (simp only [↓reduceIte,zlk,Nat.reduceEqDiff,reduceCtorEq]);exact rfl) ?_)|((with_reducible first|refine jg (fun hc=>?_) (fun hc=>?_)|refine jh (fun hc=>?_) (fun hc=>?_))<;>(try simp (disch:=omega) only [zhb] at hc)<;>(try (exfalso;omega))<;>(try subst hc))|(with_reducible refine ji (by omega) ?_)|(simp (config := { maxSteps := 400000 }) only [↓jt,↓reduceIte,zvs,reduceCtorEq,seval,-List.reduceReplicate,tab,hfit,hvp,hS1,hS2,hS3,hq,encPr,Try.results34,jTA])|(simp (disch:=omega) only [ziw]))
  refine ok_loop (fun i : Nat => ⟨slots [(4, .ptr 0 []), (5, .ptr 1 []), (6, .ptr 2 []), (11, .int .i64 i)], rows [(0, .row machSh (encM m)), (1, .row machSh (encM m2)), (2, .row prSh (encPrS p p.sp))], 3⟩) (fun i => i ≤ 16) (fun i => 16 - i) 0 ?_ (Nat.zero_le _) (fun i hi2 => ?_)
  · (refine yrn [(0, 0), (1, 1), (2, 2)] false ?_ ?_<;>(repeat' (first|(with_reducible first|exact ya1|exact ya2|exact ya3|refine jx rfl (by first|rfl|assumption|(simp only [znl,znU2];(first|done|fail)))|exact ya5|exact ya7|exact jy|exact jz|refine jA ?_|refine ya9 ?_ ?_ ?_|refine jC rfl (by first|rfl|assumption|(simp only [znl,znU2];(first|done|fail)))|refine MR.agg (MRL.cons ?_ ?_)|refine MR.fn ?_|refine MRL.cons ?_ ?_|exact MRL.nil|refine jE ?_ ?_|exact jF|exact jG|refine yb1 ?_ ?_|refine MB.row ?_|refine jI ?_ ?_|exact ya8|refine jJ rfl (by first|rfl|assumption|(simp only [znl,znU2];(first|done|fail)))|refine yb2 ?_|rfl)|(simp only [znl,znU2];(first|done|fail))|(simp only [↓reduceIte,zlk,Nat.reduceEqDiff,reduceCtorEq])|(with_reducible first|refine jJ ?_ ?_|refine ya5 ?_|refine ju ?_|refine jv ?_|refine jw ?_|refine jx ?_ (by first|rfl|assumption|(simp only [znl,znU2];(first|done|fail)))|refine jC ?_ (by first|rfl|assumption|(simp only [znl,znU2];(first|done|fail)))))))
    all_goals (first | rfl)
  by_cases hlt : i < 16
  · have c1 := copyPage_spec m.fr hmf p.sp hss hlt
    have c2 := copyPage_spec m2.fr htf p.sp hss hlt
    rw [same_page hs (by omega)] at c2
    obtain ⟨s, b, hsb⟩ := strV_t (pagU m.fr p.sp i)
    rw [hsb] at c1 c2
    have hbs : ∀ a : List UInt8, (a != a) = false := fun a => bne_self_eq_false a
    have hbb : ∀ a : Bool, veq (.bool a) (.bool a) = true := fun a => by cases a <;> rfl
    have hbn : (b != b) = false := by cases b <;> rfl
    have hns := jR p.sp
    repeat' (first|(with_reducible first|refine yrl (by constructor) ?_|refine jk (fun M hM=>?_)|(refine hM _ ?_;clear hM M)|refine xb3 (by decide) ?_|refine yqa (by assumption) ?_ ?_|refine yqb (by assumption) ?_ ?_)|((with_reducible refine je ?_)<;>(first|rfl|assumption|(simp only [znl,znU2];(first|done|fail))))|(with_reducible refine jf (by (simp only [↓reduceIte,zlk,Nat.reduceEqDiff,reduceCtorEq]);exact rfl) ?_)|((with_reducible first|refine jg (fun hc=>?_) (fun hc=>?_)|refine jh (fun hc=>?_) (fun hc=>?_))<;>(try simp (disch:=omega) only [zhb] at hc)<;>(try (exfalso;omega))<;>(try subst hc))|(with_reducible refine ji (by omega) ?_)|(simp (config := { maxSteps := 400000 }) only [↓jt,↓reduceIte,zvs,reduceCtorEq,seval,-List.reduceReplicate,tab,hS1,hS2,hS3,hbs,hbb,hbn,encPr,Try.results34,jTA])|(simp (disch:=omega) only [ziw]))
    all_goals first
      | (exfalso; omega)
      | (refine xl1 (i + 1) ?_ (by show i + 1 ≤ 16; omega) (by show 16 - (i + 1) < 16 - i; omega); (refine yrn [(0, 0), (1, 1), (2, 2)] false ?_ ?_<;>(repeat' (first|(with_reducible first|exact ya1|exact ya2|exact ya3|refine jx rfl (by first|rfl|assumption|(simp only [znl,znU2];(first|done|fail)))|exact ya5|exact ya7|exact jy|exact jz|refine jA ?_|refine ya9 ?_ ?_ ?_|refine jC rfl (by first|rfl|assumption|(simp only [znl,znU2];(first|done|fail)))|refine MR.agg (MRL.cons ?_ ?_)|refine MR.fn ?_|refine MRL.cons ?_ ?_|exact MRL.nil|refine jE ?_ ?_|exact jF|exact jG|refine yb1 ?_ ?_|refine MB.row ?_|refine jI ?_ ?_|exact ya8|refine jJ rfl (by first|rfl|assumption|(simp only [znl,znU2];(first|done|fail)))|refine yb2 ?_|rfl)|(simp only [znl,znU2];(first|done|fail))|(simp only [↓reduceIte,zlk,Nat.reduceEqDiff,reduceCtorEq])|(with_reducible first|refine jJ ?_ ?_|refine ya5 ?_|refine ju ?_|refine jv ?_|refine jw ?_|refine jx ?_ (by first|rfl|assumption|(simp only [znl,znU2];(first|done|fail)))|refine jC ?_ (by first|rfl|assumption|(simp only [znl,znU2];(first|done|fail))))))); all_goals (first | rfl); done)
  · obtain rfl : i = 16 := by omega
    repeat' (first|(with_reducible first|refine yrl (by constructor) ?_|refine jk (fun M hM=>?_)|(refine hM _ ?_;clear hM M)|refine xb3 (by decide) ?_|refine yqa (by assumption) ?_ ?_|refine yqb (by assumption) ?_ ?_)|((with_reducible refine je ?_)<;>(first|rfl|assumption|(simp only [znl,znU2];(first|done|fail))))|(with_reducible refine jf (by (simp only [↓reduceIte,zlk,Nat.reduceEqDiff,reduceCtorEq]);exact rfl) ?_)|((with_reducible first|refine jg (fun hc=>?_) (fun hc=>?_)|refine jh (fun hc=>?_) (fun hc=>?_))<;>(try simp (disch:=omega) only [zhb] at hc)<;>(try (exfalso;omega))<;>(try subst hc))|(with_reducible refine ji (by omega) ?_)|(simp (config := { maxSteps := 400000 }) only [↓jt,↓reduceIte,zvs,reduceCtorEq,seval,-List.reduceReplicate,tab,Try.results34,jTA])|(simp (disch:=omega) only [ziw]))
    all_goals first
      | (exfalso; omega)
      | (simp only [zrds]; done)
end Go.Proofs.Ytpdhdkpebbfnnaa.V
end
section
namespace Go.Proofs.Ytpdhdkpebbfnnaa.V
open Go
set_option maxRecDepth 100000
def znU3 := And.intro @jO <| And.intro @jP <| And.intro @jQ <| And.intro @jR <| And.intro @jS <| And.intro @jT <| And.intro @jU <| True.intro
set_option maxHeartbeats 8000000
theorem frK_off {fr : Frames} {F : List Nat} {l : List Lay} {i : Nat} : ∀ {k : Nat}, (∀ j, j < k → F.getD j default ≠ i) → (frK fr F l k).getD i [] = fr.getD i []
  | 0, _ => rfl
  | k + 1, h => by
    have h1 := h k (by omega)
    rw [frK, List.getD_eq_getElem?_getD, List.getElem?_set_ne h1, ← List.getD_eq_getElem?_getD]
    exact frK_off fun j hj => h j (by omega)
theorem there_eq {fr gr : Frames} {f : Int} (h1 : gr.length = fr.length) (h2 : gr.getD f.toNat [] = fr.getD f.toNat []) : thereF gr f = thereF fr f := by unfold thereF; rw [h1, h2]
theorem took_same {m : Mach} (h : chkM m = 0) {l : List Lay} (hl : l.length ≤ (freeK m.pr m.fr.length).length) {p : Pr} (hp : p ∈ m.pr) : sameMem m.fr (frK m.fr (freeK m.pr m.fr.length) l l.length) p.sp := fun x hx hi => by
  obtain ⟨hu, _, h0, h1⟩ := procB_users (procs_each h p hp) hx hi
  have e : (frK m.fr (freeK m.pr m.fr.length) l l.length).getD x.fr.toNat [] = m.fr.getD x.fr.toNat [] := frK_off fun j hj hc => by
    have := (free_in (m := m) (j := j) (by omega)).2
    have e1 : (((freeK m.pr m.fr.length).getD j default : Nat) : Int) = x.fr := by omega
    rw [e1] at this
    omega
  exact ⟨there_eq (frK_len ..) e, e⟩
theorem find_mem {m : Mach} (h : PidOk m) {p : Pr} (hp : p ∈ m.pr) : ∃ k, findI m.pr p.pid = some k ∧ k < m.pr.length ∧ m.pr.getD k default = p := by
  obtain ⟨k, hk, rfl⟩ := List.mem_iff_getElem.1 hp
  have e : m.pr.getD k default = m.pr[k] := by rw [List.getD_eq_getElem?_getD, List.getElem?_eq_getElem hk]; rfl
  refine ⟨k, find_hit hk (fun j hj => ?_) (by rw [e]), hk, e⟩
  have := (List.pairwise_iff_getElem.1 h.inc) j k (by omega) hk hj
  rw [List.getD_eq_getElem?_getD, List.getElem?_eq_getElem (show j < m.pr.length by omega)]
  show m.pr[j].pid ≠ _
  omega
theorem kept_mem {m m2 : Mach} (hm : MFit 20000 m) (ht : MFit 20000 m2) (hc : chkM m = 0) (hc2 : chkM m2 = 0) {p : Pr} (hp : p ∈ m2.pr) (hs : sameMem m.fr m2.fr p.sp) :
    Spec Try.prog 34 [encM m, encM m2, encPrS p p.sp, .int .i64 p.pid] (.bool true) := by
  obtain ⟨k, h1, h2, h3⟩ := find_mem (chk_pids hc2) hp
  have hR := ht.prR p hp
  exact pkept_spec m m2 hm ht (mfit_fits hm (chk_parts hc).2.2.1) (mfit_fits ht (chk_parts hc2).2.2.1) p hR p.pid hR.pid h1 h3 hs
theorem spawn_k {m : Mach} (hm : MFit 20000 m) (hs : seenM m) {e : Exe} (he : ExeR e) : ∃ (a : Mach) (p c : Int), spawnVV m e 0 fdZ fdZ = .tup [encM a, .int .i64 p, .int .i64 c] ∧ (c = 0 → ∀ p ∈ m.pr, Spec Try.prog 34 [encM m, encM a, encPrS p p.sp, .int .i64 p.pid] (.bool true)) := by
  unfold spawnVV
  obtain ⟨hs0, hs1, hs2, hs3⟩ := hs
  have z : i64R 0 := by unfold i64R; omega
  by_cases h0 : spawnE m e = 0
  · rw [if_pos h0]
    obtain ⟨k1, k2, k3⟩ := spawnE_ok h0
    refine ⟨_, _, _, rfl, fun _ p hp => ?_⟩
    exact kept_mem hm (spawnM_fit hm (by omega) (by omega) he k1 z fdZ_R fdZ_R) hs1 (spawn_chk hs1 k2 k1 (by omega) k3 (.inl rfl)) (p := p) (by rw [spawn_pr]; exact List.mem_append_left _ hp) (took_same hs1 k3 hp)
  · rw [if_neg h0]; exact ⟨_, _, _, rfl, fun h => absurd h h0⟩
theorem grow_k {m : Mach} (hm : MFit 20000 m) (h : chkM m = 0) (pid n : Int) : ∃ (a : Mach) (p c : Int), growVV m pid n = .tup [encM a, .int .i64 p, .int .i64 c] ∧ (c = 0 → ∀ p ∈ m.pr, p.pid ≠ pid → Spec Try.prog 34 [encM m, encM a, encPrS p p.sp, .int .i64 p.pid] (.bool true)) := by
  unfold growVV
  cases hf : findI m.pr pid with
  | none => exact ⟨_, _, _, rfl, fun h => by omega⟩
  | some i =>
    obtain ⟨hi, hpid⟩ := findI_some hf
    dsimp only
    by_cases h0 : growE m i n = 0
    · rw [if_pos h0]
      obtain ⟨k1, k2, k3, k4⟩ := growE_ok h0
      refine ⟨_, _, _, rfl, fun _ p hp hne => ?_⟩
      obtain ⟨j, hj, rfl⟩ := List.mem_iff_getElem.1 hp
      have hij : i ≠ j := fun e => by
        subst e
        rw [List.getD_eq_getElem?_getD, List.getElem?_eq_getElem hi] at hpid
        exact hne hpid
      refine kept_mem hm (growM_fit hm hi k3) h (grow_chk h hi k1 (hm.prR _ (getD_mem' hi)).sp k3 k4) (p := m.pr[j]) ?_ (took_same h (by rw [growL_len]; exact k4) hp)
      show m.pr[j] ∈ m.pr.set i _
      have e : (m.pr.set i (tookP m (m.pr.getD i default) (growL (topK (m.pr.getD i default).sp 15) n.toNat)))[j]'(by rw [List.length_set]; exact hj) = m.pr[j] := by rw [List.getElem_set, if_neg hij]
      rw [← e]
      exact List.getElem_mem _
    · rw [if_neg h0]; exact ⟨_, _, _, rfl, fun h => absurd h h0⟩
theorem die_mem {m : Mach} (h : chkM m = 0) (pid code : Int) {p : Pr} (hp : p ∈ m.pr) (hne : p.pid ≠ pid) (h3 : p.st ≠ 3) : freeP pid p ∈ (dieM m pid code).pr ∧ (dieM m pid code).fr = m.fr := by
  have hpo := chk_pids h
  have hpar := fun h0 => procB_par (procs_each h p hp) h0
  have hlv : livesP p = true := by
    have hb := procs_each h p hp
    unfold procB at hb
    rw [Bool.and_eq_true, Bool.and_eq_true] at hb
    have h1 := hb.1.1
    unfold procH at h1
    split at h1
    · cases h1
    · unfold livesP
      simp only [Bool.or_eq_true,decide_eq_true_eq]
      omega
  have hsame : (∀ q ∈ m.pr, q.pid = pid → q.st = 3) → freeP pid p = p := fun hd => by
    unfold freeP
    by_cases e : p.par = pid
    · rw [if_pos e]
      by_cases h0 : p.par = 0
      · cases p
        simp only at h0
        subst h0; rfl
      · obtain ⟨r, hr, hr1, hr2⟩ := livesB_mem.1 (hpar h0)
        have := hd r hr (by omega)
        rw [livesP_no this] at hr2; cases hr2
    · rw [if_neg e]
  unfold dieM
  cases hf : findI m.pr pid with
  | none =>
    dsimp only
    rw [hsame fun q hq e => absurd e (find_none.1 hf q hq)]
    exact ⟨hp, rfl⟩
  | some i =>
    obtain ⟨hi, hpid⟩ := findI_some hf
    dsimp only
    split
    · rename_i hd
      rw [hsame fun q hq e => ?_]
      · exact ⟨hp, rfl⟩
      · obtain ⟨k, k1, _, k3⟩ := find_mem hpo hq
        rw [e, hf] at k1
        injection k1 with k1
        subst k1
        rw [← k3]; exact hd
    · exact ⟨die_stays hpo hi hpid code hp hlv hne, rfl⟩
theorem die_k {m : Mach} (hm : MFit 20000 m) (h : chkM m = 0) (pid : Int) {code : Int} (hc : u32R code) {p : Pr} (hp : p ∈ m.pr) (hne : p.pid ≠ pid) (h3 : p.st ≠ 3) :
    ∃ k, findI (dieM m pid code).pr p.pid = some k ∧ k < (dieM m pid code).pr.length ∧ (dieM m pid code).pr.getD k default = freeP pid p ∧
      Spec Try.prog 34 [encM m, encM (dieM m pid code), encPrS (freeP pid p) (freeP pid p).sp, .int .i64 p.pid] (.bool true) := by
  obtain ⟨h1, h2⟩ := die_mem h pid code hp hne h3
  have hf := dieM_fit hm pid hc
  have hck := die_chk h pid code
  obtain ⟨k, k1, k2, k3⟩ := find_mem (chk_pids hck) h1
  rw [freeP_pid] at k1
  have hK := kept_mem hm hf h hck h1 (by rw [h2]; exact fun x _ _ => ⟨rfl, rfl⟩)
  rw [freeP_pid] at hK
  exact ⟨k, k1, k2, k3, hK⟩
theorem apart_law26 (x0 : MachD) (x1 : ExeD) (x2 x3 x4 : Int) (g0 : good machT x0) (g1 : good exeT x1) (g2 : good (.int .i64) x2) (g3 : good (.int .i64) x3) (g4 : good (.int .u32) x4) (l0 : Ty.lite machT x0) (l1 : Ty.lite exeT x1) (l2 : Ty.lite (.int .i64) x2) (l3 : Ty.lite (.int .i64) x3) (l4 : Ty.lite (.int .u32) x4) :
    Spec Try.prog 9 [toV machT x0, toV exeT x1, toV (.int .i64) x2, toV (.int .i64) x3, toV (.int .u32) x4] (.bool true) := by
  have hm := mach_good x0 g0 l0
  have he := exe_good x1 g1 l1
  have hp : i64R x2 := bounds_i64 g2
  have hn : i64R x3 := bounds_i64 g3
  have hcd : u32R x4 := bounds_u32 g4
  rw [toV_mach, toV_exe]
  simp only [toV]
  generalize mMach x0 = m at hm
  generalize mExe x1 = e at he
  clear g0 g1 g2 g3 g4 l0 l1 l2 l3 l4 x0 x1
  have hA := palive_spec
  have hW := pwide_spec m hm
  have hG := pgreat_spec e he.ws he.data
  have hnl := nl_encM m
  have hnlE := nl_encExe e
  by_cases hs : seenM m ∧ seenE e
  · obtain ⟨hs1, hs2⟩ := hs
    rw [if_pos hs1] at hW
    rw [decide_eq_true hs2] at hG
    have hf := near_fit hm hs1.1
    have hR := exe_R he hs2
    have hnx : m.next < 4611686018427387904 := by have := hs1.2.2.1; omega
    have hc := hs1.2.1
    have hml := hf.pr
    have hS := sspawn_spec m hf hnx e hR 0 (by unfold i64R; omega) fdZ fdZ fdZ_R fdZ_R
    have hGr := sgrow_spec m hf x2 hp x3 hn
    have hD := sdie_spec m hf x2 hp x4 hcd
    have fc := dieM_fit hf x2 hcd
    obtain ⟨a, pa, ca, ea, ka⟩ := spawn_k hf hs1 hR
    obtain ⟨b, pb, cb, eb, kb⟩ := grow_k hf hc x2 x3
    have kc := fun (p : Pr) (hp : p ∈ m.pr) => die_k hf hc x2 hcd hp
    have hFc := fun (p : Pr) (hp : p ∈ m.pr) => pfind_spec _ fc p.pid (hf.prR p hp).pid
    rw [ea] at hS
    rw [eb] at hGr
    have hcl := fc.pr
    generalize dieM m x2 x4 = c at hD kc fc hFc hcl
    have hnlA : nls [encM m, encExe e, VV.int .i64 0, encFd fdZ, encFd fdZ] = true := by
      show (nl (encM m) && (nl (encExe e) && (true && (nl (encFd fdZ) && (nl (encFd fdZ) && true))))) = true
      rw [hnl, hnlE]; rfl
    simp only [fdZ,encFd] at hS hnlA
    have hna := nl_encM a
    have hnb := nl_encM b
    have hnc := nl_encM c
    refine spec_ok Try.func9 rfl rfl (by kernel_rfl) (k := 5) rfl (by decide) ?_
    repeat' (first|(with_reducible first|refine yrl (by constructor) ?_|refine jk (fun M hM=>?_)|(refine hM _ ?_;clear hM M)|refine xb3 (by decide) ?_|refine yqa (by assumption) ?_ ?_|refine yqb (by assumption) ?_ ?_)|((with_reducible refine je ?_)<;>(first|rfl|assumption|(simp only [znl,znU3];(first|done|fail))))|(with_reducible refine jf (by (simp only [↓reduceIte,zlk,Nat.reduceEqDiff,reduceCtorEq]);exact rfl) ?_)|((with_reducible first|refine jg (fun hc=>?_) (fun hc=>?_)|refine jh (fun hc=>?_) (fun hc=>?_))<;>(try simp (disch:=omega) only [zhb] at hc)<;>(try (exfalso;omega))<;>(try subst hc))|(with_reducible refine ji (by omega) ?_)|(simp (config := { maxSteps := 400000 }) only [↓jt,↓reduceIte,zvs,reduceCtorEq,seval,-List.reduceReplicate,tab,hasFd1,Try.results9,jTA])|(simp (disch:=omega) only [ziw]))
    all_goals (try (exfalso; omega))
    refine ok_loop (fun i : Nat => ⟨slots [(2, .int .i64 x2), (5, .ptr 0 []), (11, .ptr 1 []), (13, .int .i64 ca), (14, .ptr 2 []), (16, .int .i64 cb), (17, .ptr 3 []), (18, .int .i64 i)], rows [(0, .row machSh (encM m)), (1, .row machSh (encM a)), (2, .row machSh (encM b)), (3, .row machSh (encM c))], 4⟩) (fun i => i ≤ m.pr.length) (fun i => m.pr.length - i) 0 ?_ (Nat.zero_le _) (fun i hi => ?_)
    · (refine yrn [(0, 0), (1, 2), (2, 3), (3, 4)] false ?_ ?_<;>(repeat' (first|(with_reducible first|exact ya1|exact ya2|exact ya3|refine jx rfl (by first|rfl|assumption|(simp only [znl,znU3];(first|done|fail)))|exact ya5|exact ya7|exact jy|exact jz|refine jA ?_|refine ya9 ?_ ?_ ?_|refine jC rfl (by first|rfl|assumption|(simp only [znl,znU3];(first|done|fail)))|refine MR.agg (MRL.cons ?_ ?_)|refine MR.fn ?_|refine MRL.cons ?_ ?_|exact MRL.nil|refine jE ?_ ?_|exact jF|exact jG|refine yb1 ?_ ?_|refine MB.row ?_|refine jI ?_ ?_|exact ya8|refine jJ rfl (by first|rfl|assumption|(simp only [znl,znU3];(first|done|fail)))|refine yb2 ?_|rfl)|(simp only [znl,znU3];(first|done|fail))|(simp only [↓reduceIte,zlk,Nat.reduceEqDiff,reduceCtorEq])|(with_reducible first|refine jJ ?_ ?_|refine ya5 ?_|refine ju ?_|refine jv ?_|refine jw ?_|refine jx ?_ (by first|rfl|assumption|(simp only [znl,znU3];(first|done|fail)))|refine jC ?_ (by first|rfl|assumption|(simp only [znl,znU3];(first|done|fail)))))))
      all_goals (first | rfl)
    by_cases hlt : i < m.pr.length
    · have hpm := getD_mem' hlt
      have hb := hf.prR _ hpm
      obtain ⟨hS1, hS2, hS3⟩ := pr3 hb
      have ka := fun h => ka h _ hpm
      have kb := fun h => kb h _ hpm
      have kc := kc _ hpm
      have hFc := hFc _ hpm
      have hfit := fit_pr hb
      have hvp := veq_pr (m.pr.getD i default)
      obtain ⟨p, hpq⟩ : ∃ p, m.pr.getD i default = p := ⟨_, rfl⟩
      rw [hpq] at hb hS1 hS2 hS3 ka kb kc hFc hfit hvp
      by_cases h3 : p.pid = x2
      · clear kb kc
        by_cases h1 : ca = 0 <;> (
          (try replace ka := ka h1)
          repeat' (first|(with_reducible first|refine yrl (by constructor) ?_|refine jk (fun M hM=>?_)|(refine hM _ ?_;clear hM M)|refine xb3 (by decide) ?_|refine yqa (by assumption) ?_ ?_|refine yqb (by assumption) ?_ ?_)|((with_reducible refine je ?_)<;>(first|rfl|assumption|(simp only [znl,znU3];(first|done|fail))))|(with_reducible refine jf (by (simp only [↓reduceIte,zlk,Nat.reduceEqDiff,reduceCtorEq]);exact rfl) ?_)|((with_reducible first|refine jg (fun hc=>?_) (fun hc=>?_)|refine jh (fun hc=>?_) (fun hc=>?_))<;>(try simp (disch:=omega) only [zhb] at hc)<;>(try (exfalso;omega))<;>(try subst hc))|(with_reducible refine ji (by omega) ?_)|(simp (config := { maxSteps := 400000 }) only [↓jt,↓reduceIte,zvs,reduceCtorEq,seval,-List.reduceReplicate,tab,hfit,hvp,hS1,hS2,hS3,hpq,encPr,Try.results9,jTA])|(simp (disch:=omega) only [ziw]))
          all_goals first
            | (exfalso; omega)
            | (refine xl1 (i + 1) ?_ (by show i + 1 ≤ m.pr.length; omega) (by show m.pr.length - (i + 1) < m.pr.length - i; omega); (refine yrn [(0, 0), (1, 1), (2, 2), (3, 3)] false ?_ ?_<;>(repeat' (first|(with_reducible first|exact ya1|exact ya2|exact ya3|refine jx rfl (by first|rfl|assumption|(simp only [znl,znU3];(first|done|fail)))|exact ya5|exact ya7|exact jy|exact jz|refine jA ?_|refine ya9 ?_ ?_ ?_|refine jC rfl (by first|rfl|assumption|(simp only [znl,znU3];(first|done|fail)))|refine MR.agg (MRL.cons ?_ ?_)|refine MR.fn ?_|refine MRL.cons ?_ ?_|exact MRL.nil|refine jE ?_ ?_|exact jF|exact jG|refine yb1 ?_ ?_|refine MB.row ?_|refine jI ?_ ?_|exact ya8|refine jJ rfl (by first|rfl|assumption|(simp only [znl,znU3];(first|done|fail)))|refine yb2 ?_|rfl)|(simp only [znl,znU3];(first|done|fail))|(simp only [↓reduceIte,zlk,Nat.reduceEqDiff,reduceCtorEq])|(with_reducible first|refine jJ ?_ ?_|refine ya5 ?_|refine ju ?_|refine jv ?_|refine jw ?_|refine jx ?_ (by first|rfl|assumption|(simp only [znl,znU3];(first|done|fail)))|refine jC ?_ (by first|rfl|assumption|(simp only [znl,znU3];(first|done|fail))))))); all_goals (first | rfl); done)
        )
      replace kb := fun h => kb h h3
      by_cases h4 : p.st = 3
      · clear kc
        by_cases h1 : ca = 0 <;> by_cases h2 : cb = 0 <;> (
          (try replace ka := ka h1)
          (try replace kb := kb h2)
          repeat' (first|(with_reducible first|refine yrl (by constructor) ?_|refine jk (fun M hM=>?_)|(refine hM _ ?_;clear hM M)|refine xb3 (by decide) ?_|refine yqa (by assumption) ?_ ?_|refine yqb (by assumption) ?_ ?_)|((with_reducible refine je ?_)<;>(first|rfl|assumption|(simp only [znl,znU3];(first|done|fail))))|(with_reducible refine jf (by (simp only [↓reduceIte,zlk,Nat.reduceEqDiff,reduceCtorEq]);exact rfl) ?_)|((with_reducible first|refine jg (fun hc=>?_) (fun hc=>?_)|refine jh (fun hc=>?_) (fun hc=>?_))<;>(try simp (disch:=omega) only [zhb] at hc)<;>(try (exfalso;omega))<;>(try subst hc))|(with_reducible refine ji (by omega) ?_)|(simp (config := { maxSteps := 400000 }) only [↓jt,↓reduceIte,zvs,reduceCtorEq,seval,-List.reduceReplicate,tab,hfit,hvp,hS1,hS2,hS3,hpq,encPr,Try.results9,jTA])|(simp (disch:=omega) only [ziw]))
          all_goals first
            | (exfalso; omega)
            | (refine xl1 (i + 1) ?_ (by show i + 1 ≤ m.pr.length; omega) (by show m.pr.length - (i + 1) < m.pr.length - i; omega); (refine yrn [(0, 0), (1, 1), (2, 2), (3, 3)] false ?_ ?_<;>(repeat' (first|(with_reducible first|exact ya1|exact ya2|exact ya3|refine jx rfl (by first|rfl|assumption|(simp only [znl,znU3];(first|done|fail)))|exact ya5|exact ya7|exact jy|exact jz|refine jA ?_|refine ya9 ?_ ?_ ?_|refine jC rfl (by first|rfl|assumption|(simp only [znl,znU3];(first|done|fail)))|refine MR.agg (MRL.cons ?_ ?_)|refine MR.fn ?_|refine MRL.cons ?_ ?_|exact MRL.nil|refine jE ?_ ?_|exact jF|exact jG|refine yb1 ?_ ?_|refine MB.row ?_|refine jI ?_ ?_|exact ya8|refine jJ rfl (by first|rfl|assumption|(simp only [znl,znU3];(first|done|fail)))|refine yb2 ?_|rfl)|(simp only [znl,znU3];(first|done|fail))|(simp only [↓reduceIte,zlk,Nat.reduceEqDiff,reduceCtorEq])|(with_reducible first|refine jJ ?_ ?_|refine ya5 ?_|refine ju ?_|refine jv ?_|refine jw ?_|refine jx ?_ (by first|rfl|assumption|(simp only [znl,znU3];(first|done|fail)))|refine jC ?_ (by first|rfl|assumption|(simp only [znl,znU3];(first|done|fail))))))); all_goals (first | rfl); done)
        )
      obtain ⟨k, k1, k2, k3, k4⟩ := kc h3 h4
      rw [k1] at hFc
      simp only [placeV] at hFc
      clear kc
      by_cases h5 : p.par = x2
      · unfold freeP at k3 k4
        rw [if_pos h5] at k3 k4
        have k4 : Spec Try.prog 34 [encM m, encM c, .agg [.int .i64 p.pid, .int .i64 0, .int .i64 p.st, .agg [.agg (p.rs.map (.int .u32)), .int .u32 p.pc], .agg (p.sp.map encPte), .agg (p.fds.map encFd), .bool p.mask, .int .u32 p.code, .int .i64 p.why, .int .u64 p.n], .int .i64 p.pid] (.bool true) := k4
        have hfit2 := fit_pr (p := { p with par := 0 }) (by have h := freeP_fit hb x2; unfold freeP at h; rwa [if_pos h5] at h)
        have hvp2 := veq_pr { p with par := 0 }
        dsimp only at hfit2 hvp2
        by_cases h1 : ca = 0 <;> by_cases h2 : cb = 0 <;> (
          (try replace ka := ka h1)
          (try replace kb := kb h2)
          repeat' (first|(with_reducible first|refine yrl (by constructor) ?_|refine jk (fun M hM=>?_)|(refine hM _ ?_;clear hM M)|refine xb3 (by decide) ?_|refine yqa (by assumption) ?_ ?_|refine yqb (by assumption) ?_ ?_)|((with_reducible refine je ?_)<;>(first|rfl|assumption|(simp only [znl,znU3];(first|done|fail))))|(with_reducible refine jf (by (simp only [↓reduceIte,zlk,Nat.reduceEqDiff,reduceCtorEq]);exact rfl) ?_)|((with_reducible first|refine jg (fun hc=>?_) (fun hc=>?_)|refine jh (fun hc=>?_) (fun hc=>?_))<;>(try simp (disch:=omega) only [zhb] at hc)<;>(try (exfalso;omega))<;>(try subst hc))|(with_reducible refine ji (by omega) ?_)|(simp (config := { maxSteps := 400000 }) only [↓jt,↓reduceIte,zvs,reduceCtorEq,seval,-List.reduceReplicate,tab,hfit,hvp,hS1,hS2,hS3,hpq,encPr,k3,hfit2,hvp2,Try.results9,jTA])|(simp (disch:=omega) only [ziw]))
          all_goals first
            | (exfalso; omega)
            | (refine xl1 (i + 1) ?_ (by show i + 1 ≤ m.pr.length; omega) (by show m.pr.length - (i + 1) < m.pr.length - i; omega); (refine yrn [(0, 0), (1, 1), (2, 2), (3, 3)] false ?_ ?_<;>(repeat' (first|(with_reducible first|exact ya1|exact ya2|exact ya3|refine jx rfl (by first|rfl|assumption|(simp only [znl,znU3];(first|done|fail)))|exact ya5|exact ya7|exact jy|exact jz|refine jA ?_|refine ya9 ?_ ?_ ?_|refine jC rfl (by first|rfl|assumption|(simp only [znl,znU3];(first|done|fail)))|refine MR.agg (MRL.cons ?_ ?_)|refine MR.fn ?_|refine MRL.cons ?_ ?_|exact MRL.nil|refine jE ?_ ?_|exact jF|exact jG|refine yb1 ?_ ?_|refine MB.row ?_|refine jI ?_ ?_|exact ya8|refine jJ rfl (by first|rfl|assumption|(simp only [znl,znU3];(first|done|fail)))|refine yb2 ?_|rfl)|(simp only [znl,znU3];(first|done|fail))|(simp only [↓reduceIte,zlk,Nat.reduceEqDiff,reduceCtorEq])|(with_reducible first|refine jJ ?_ ?_|refine ya5 ?_|refine ju ?_|refine jv ?_|refine jw ?_|refine jx ?_ (by first|rfl|assumption|(simp only [znl,znU3];(first|done|fail)))|refine jC ?_ (by first|rfl|assumption|(simp only [znl,znU3];(first|done|fail))))))); all_goals (first | rfl); done)
        )
      · unfold freeP at k3 k4
        rw [if_neg h5] at k3 k4
        by_cases h1 : ca = 0 <;> by_cases h2 : cb = 0 <;> (
          (try replace ka := ka h1)
          (try replace kb := kb h2)
          repeat' (first|(with_reducible first|refine yrl (by constructor) ?_|refine jk (fun M hM=>?_)|(refine hM _ ?_;clear hM M)|refine xb3 (by decide) ?_|refine yqa (by assumption) ?_ ?_|refine yqb (by assumption) ?_ ?_)|((with_reducible refine je ?_)<;>(first|rfl|assumption|(simp only [znl,znU3];(first|done|fail))))|(with_reducible refine jf (by (simp only [↓reduceIte,zlk,Nat.reduceEqDiff,reduceCtorEq]);exact rfl) ?_)|((with_reducible first|refine jg (fun hc=>?_) (fun hc=>?_)|refine jh (fun hc=>?_) (fun hc=>?_))<;>(try simp (disch:=omega) only [zhb] at hc)<;>(try (exfalso;omega))<;>(try subst hc))|(with_reducible refine ji (by omega) ?_)|(simp (config := { maxSteps := 400000 }) only [↓jt,↓reduceIte,zvs,reduceCtorEq,seval,-List.reduceReplicate,tab,hfit,hvp,hS1,hS2,hS3,hpq,encPr,k3,Try.results9,jTA])|(simp (disch:=omega) only [ziw]))
          all_goals first
            | (exfalso; omega)
            | (refine xl1 (i + 1) ?_ (by show i + 1 ≤ m.pr.length; omega) (by show m.pr.length - (i + 1) < m.pr.length - i; omega); (refine yrn [(0, 0), (1, 1), (2, 2), (3, 3)] false ?_ ?_<;>(repeat' (first|(with_reducible first|exact ya1|exact ya2|exact ya3|refine jx rfl (by first|rfl|assumption|(simp only [znl,znU3];(first|done|fail)))|exact ya5|exact ya7|exact jy|exact jz|refine jA ?_|refine ya9 ?_ ?_ ?_|refine jC rfl (by first|rfl|assumption|(simp only [znl,znU3];(first|done|fail)))|refine MR.agg (MRL.cons ?_ ?_)|refine MR.fn ?_|refine MRL.cons ?_ ?_|exact MRL.nil|refine jE ?_ ?_|exact jF|exact jG|refine yb1 ?_ ?_|refine MB.row ?_|refine jI ?_ ?_|exact ya8|refine jJ rfl (by first|rfl|assumption|(simp only [znl,znU3];(first|done|fail)))|refine yb2 ?_|rfl)|(simp only [znl,znU3];(first|done|fail))|(simp only [↓reduceIte,zlk,Nat.reduceEqDiff,reduceCtorEq])|(with_reducible first|refine jJ ?_ ?_|refine ya5 ?_|refine ju ?_|refine jv ?_|refine jw ?_|refine jx ?_ (by first|rfl|assumption|(simp only [znl,znU3];(first|done|fail)))|refine jC ?_ (by first|rfl|assumption|(simp only [znl,znU3];(first|done|fail))))))); all_goals (first | rfl); done)
        )
    · obtain rfl : i = m.pr.length := by omega
      repeat' (first|(with_reducible first|refine yrl (by constructor) ?_|refine jk (fun M hM=>?_)|(refine hM _ ?_;clear hM M)|refine xb3 (by decide) ?_|refine yqa (by assumption) ?_ ?_|refine yqb (by assumption) ?_ ?_)|((with_reducible refine je ?_)<;>(first|rfl|assumption|(simp only [znl,znU3];(first|done|fail))))|(with_reducible refine jf (by (simp only [↓reduceIte,zlk,Nat.reduceEqDiff,reduceCtorEq]);exact rfl) ?_)|((with_reducible first|refine jg (fun hc=>?_) (fun hc=>?_)|refine jh (fun hc=>?_) (fun hc=>?_))<;>(try simp (disch:=omega) only [zhb] at hc)<;>(try (exfalso;omega))<;>(try subst hc))|(with_reducible refine ji (by omega) ?_)|(simp (config := { maxSteps := 400000 }) only [↓jt,↓reduceIte,zvs,reduceCtorEq,seval,-List.reduceReplicate,tab,Try.results9,jTA])|(simp (disch:=omega) only [ziw]))
      all_goals first
        | (exfalso; omega)
        | (simp only [zrds]; done)
  · obtain ⟨w, hw⟩ : ∃ w : Int, w = if seenM m then 0 else 1 := ⟨_, rfl⟩
    obtain ⟨b, hb⟩ : ∃ b : Bool, b = !decide (seenE e) := ⟨_, rfl⟩
    have hor : w = 1 ∨ (w = 0 ∧ b = true) := by
      by_cases h1 : seenM m
      · have h2 : ¬seenE e := fun h => hs ⟨h1, h⟩
        exact .inr ⟨by rw [hw, if_pos h1], by rw [hb, decide_eq_false h2]; rfl⟩
      · exact .inl (by rw [hw, if_neg h1])
    rw [← hw] at hW
    rw [← hb] at hG
    clear hw hb
    rcases hor with rfl | ⟨rfl, rfl⟩ <;> (
      refine spec_ok Try.func9 rfl rfl (by kernel_rfl) (k := 5) rfl (by decide) ?_
      repeat' (first|(with_reducible first|refine yrl (by constructor) ?_|refine jk (fun M hM=>?_)|(refine hM _ ?_;clear hM M)|refine xb3 (by decide) ?_|refine yqa (by assumption) ?_ ?_|refine yqb (by assumption) ?_ ?_)|((with_reducible refine je ?_)<;>(first|rfl|assumption|(simp only [znl,znU3];(first|done|fail))))|(with_reducible refine jf (by (simp only [↓reduceIte,zlk,Nat.reduceEqDiff,reduceCtorEq]);exact rfl) ?_)|((with_reducible first|refine jg (fun hc=>?_) (fun hc=>?_)|refine jh (fun hc=>?_) (fun hc=>?_))<;>(try simp (disch:=omega) only [zhb] at hc)<;>(try (exfalso;omega))<;>(try subst hc))|(with_reducible refine ji (by omega) ?_)|(simp (config := { maxSteps := 400000 }) only [↓jt,↓reduceIte,zvs,reduceCtorEq,seval,-List.reduceReplicate,tab,hasFd1,Try.results9,jTA])|(simp (disch:=omega) only [ziw]))
      all_goals first
        | (exfalso; omega)
        | (simp only [zrds]; done)
       )
end Go.Proofs.Ytpdhdkpebbfnnaa.V
end
