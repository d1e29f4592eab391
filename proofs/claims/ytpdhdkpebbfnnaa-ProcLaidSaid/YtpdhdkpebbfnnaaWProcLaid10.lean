/-
  Parts of the proof of ProcLaid: M8, M9, U2, U3, U4.
  Conditions: none.
-/
import Derived.Test.YtpdhdkpebbfnnaaWProcLaid09
set_option linter.unusedVariables false
set_option linter.unusedSimpArgs false
set_option linter.unusedSectionVars false
set_option linter.defProp false
section
namespace Go.Proofs.Ytpdhdkpebbfnnaa.V
open Go
set_option maxRecDepth 100000
set_option maxHeartbeats 1000000
def pieceN (fr : Frames) (s : List Pte) : Nat → Int → Nat → Option (List UInt8)
  | _, _, 0 => some []
  | 0, _, _ + 1 => none
  | t + 1, a, n => match findO s a 1 false with
    | some (f, i) => if thereF fr f = true then (pieceN fr s t (a + (min n (128 - i.toNat) : Nat)) (n - min n (128 - i.toNat))).map fun r => ((fr.getD f.toNat []).drop i.toNat).take (min n (128 - i.toNat)) ++ r else none
    | none => none
theorem pieceN_succ (fr : Frames) (s : List Pte) (t : Nat) (a : Int) (n : Nat) : pieceN fr s (t + 1) a (n + 1) = match findO s a 1 false with
  | some (f, i) => if thereF fr f = true then (pieceN fr s t (a + (min (n + 1) (128 - i.toNat) : Nat)) (n + 1 - min (n + 1) (128 - i.toNat))).map fun r => ((fr.getD f.toNat []).drop i.toNat).take (min (n + 1) (128 - i.toNat)) ++ r else none
  | none => none := rfl
theorem PCopy_spec (fr : Frames) (hf : fits fr) (s : List Pte) (hs : s.length = 16) (a : Int) (ha : 0 ≤ a ∧ a < 2 ^ 32) (n : Int) (hn : -2 ^ 63 ≤ n ∧ n < 2 ^ 63) :
    Spec Try.prog 32 [encStrs fr, encSpace s, .int .u32 a, .int .i64 n] (strV (if n < 0 ∨ 2048 < n ∨ 2048 < a + n then none else pieceN fr s 2049 a n.toNat)) := by
  have hS := hasSpace s hs
  obtain ⟨hf1, hf2⟩ := id hf
  by_cases hc0 : n < 0 ∨ 2048 < n ∨ 2048 < a + n
  · rw [if_pos hc0]
    refine spec_ok Try.func32 rfl rfl (by kernel_rfl) (k := 4) rfl (by decide) ?_
    repeat' (first|(with_reducible first|refine yrl (by constructor) ?_|refine jk (fun M hM=>?_)|(refine hM _ ?_;clear hM M)|refine xb3 (by decide) ?_|refine yqa (by assumption) ?_ ?_|refine yqb (by assumption) ?_ ?_)|((with_reducible refine je ?_)<;>(first|rfl|assumption|(simp only [znl,jR];(first|done|fail))))|(with_reducible refine jf (by (simp only [↓reduceIte,zlk,Nat.reduceEqDiff,reduceCtorEq]);exact rfl) ?_)|((with_reducible first|refine jg (fun hc=>?_) (fun hc=>?_)|refine jh (fun hc=>?_) (fun hc=>?_))<;>(try simp (disch:=omega) only [zhb] at hc)<;>(try (exfalso;omega))<;>(try subst hc))|(with_reducible refine ji (by omega) ?_)|(simp (config := { maxSteps := 400000 }) only [↓jt,↓reduceIte,zvs,reduceCtorEq,seval,-List.reduceReplicate,tab,hS,Try.results32,jTA])|(simp (disch:=omega) only [ziw]))
    refine ja (ok_body Try.func64 rfl rfl (by kernel_rfl) (k := 6) (by rfl) (by decide) ?_)
    repeat' (first|(with_reducible first|refine yrl (by constructor) ?_|refine jk (fun M hM=>?_)|(refine hM _ ?_;clear hM M)|refine xb3 (by decide) ?_|refine yqa (by assumption) ?_ ?_|refine yqb (by assumption) ?_ ?_)|((with_reducible refine je ?_)<;>(first|rfl|assumption|(simp only [znl,jR];(first|done|fail))))|(with_reducible refine jf (by (simp only [↓reduceIte,zlk,Nat.reduceEqDiff,reduceCtorEq]);exact rfl) ?_)|((with_reducible first|refine jg (fun hc=>?_) (fun hc=>?_)|refine jh (fun hc=>?_) (fun hc=>?_))<;>(try simp (disch:=omega) only [zhb] at hc)<;>(try (exfalso;omega))<;>(try subst hc))|(with_reducible refine ji (by omega) ?_)|(simp (config := { maxSteps := 400000 }) only [↓jt,↓reduceIte,zvs,reduceCtorEq,seval,-List.reduceReplicate,tab,hS,Try.results64,jTA,Try.results32,jTA])|(simp (disch:=omega) only [ziw]))
    all_goals simp only [strV]
    all_goals simp only [zrds]
  · rw [if_neg hc0]
    obtain ⟨R, hR⟩ : ∃ R, R = pieceN fr s 2049 a n.toNat := ⟨_, rfl⟩
    rw [← hR]
    refine spec_ok Try.func32 rfl rfl (by kernel_rfl) (k := 4) rfl (by decide) ?_
    repeat' (first|(with_reducible first|refine yrl (by constructor) ?_|refine jk (fun M hM=>?_)|(refine hM _ ?_;clear hM M)|refine xb3 (by decide) ?_|refine yqa (by assumption) ?_ ?_|refine yqb (by assumption) ?_ ?_)|((with_reducible refine je ?_)<;>(first|rfl|assumption|(simp only [znl,jR];(first|done|fail))))|(with_reducible refine jf (by (simp only [↓reduceIte,zlk,Nat.reduceEqDiff,reduceCtorEq]);exact rfl) ?_)|((with_reducible first|refine jg (fun hc=>?_) (fun hc=>?_)|refine jh (fun hc=>?_) (fun hc=>?_))<;>(try simp (disch:=omega) only [zhb] at hc)<;>(try (exfalso;omega))<;>(try subst hc))|(with_reducible refine ji (by omega) ?_)|(simp (config := { maxSteps := 400000 }) only [↓jt,↓reduceIte,zvs,reduceCtorEq,seval,-List.reduceReplicate,tab,hS,Try.results32,jTA])|(simp (disch:=omega) only [ziw]))
    refine ja (ok_body Try.func64 rfl rfl (by kernel_rfl) (k := 6) (by rfl) (by decide) ?_)
    repeat' (first|(with_reducible first|refine yrl (by constructor) ?_|refine jk (fun M hM=>?_)|(refine hM _ ?_;clear hM M)|refine xb3 (by decide) ?_|refine yqa (by assumption) ?_ ?_|refine yqb (by assumption) ?_ ?_)|((with_reducible refine je ?_)<;>(first|rfl|assumption|(simp only [znl,jR];(first|done|fail))))|(with_reducible refine jf (by (simp only [↓reduceIte,zlk,Nat.reduceEqDiff,reduceCtorEq]);exact rfl) ?_)|((with_reducible first|refine jg (fun hc=>?_) (fun hc=>?_)|refine jh (fun hc=>?_) (fun hc=>?_))<;>(try simp (disch:=omega) only [zhb] at hc)<;>(try (exfalso;omega))<;>(try subst hc))|(with_reducible refine ji (by omega) ?_)|(simp (config := { maxSteps := 400000 }) only [↓jt,↓reduceIte,zvs,reduceCtorEq,seval,-List.reduceReplicate,tab,hS,Try.results64,jTA])|(simp (disch:=omega) only [ziw]))
    refine ok_loop (fun x : Int × Nat × List UInt8 => ⟨slots [(0, encStrs fr), (2, .int .u32 x.1), (3, .int .i64 x.2.1), (4, .bool false), (5, .fn 65 [.ptr 2 [], .ptr 0 []]), (7, .ptr 3 []), (12, .bool false)],
        rows [(0, .row .cell (encStrs fr)), (1, .row (.arr 16 (.st [.cell, .cell, .cell])) (encSpace s)), (2, .row .cell (.sl (some (4, [], 0)) x.2.2.length)), (3, .row (.arr 16 (.st [.cell, .cell, .cell])) (encSpace s)), (4, .row (.arr x.2.2.length .cell) (.agg (x.2.2.map encB)))], 5⟩)
      (fun x => 0 ≤ x.1 ∧ x.1 + x.2.1 = a + n ∧ x.2.2.length + x.2.1 = n ∧ ∃ t, x.2.1 < t ∧ R = (pieceN fr s t x.1 x.2.1).map (x.2.2 ++ ·)) (fun x => x.2.1) (a, n.toNat, []) ?_ ⟨ha.1, by show a + (n.toNat : Int) = a + n; omega, by show ((0 : Nat) : Int) + (n.toNat : Int) = n; omega, 2049, by show n.toNat < 2049; omega, by rw [hR]; simp⟩ (fun x hx => ?_)
    · (refine yrn [(3, 3)] false ?_ ?_<;>(repeat' (first|(with_reducible first|exact ya1|exact ya2|exact ya3|refine jx rfl (by first|rfl|assumption|(simp only [znl,jR];(first|done|fail)))|exact ya5|exact ya7|exact jy|exact jz|refine jA ?_|refine ya9 ?_ ?_ ?_|refine jC rfl (by first|rfl|assumption|(simp only [znl,jR];(first|done|fail)))|refine MR.agg (MRL.cons ?_ ?_)|refine MR.fn ?_|refine MRL.cons ?_ ?_|exact MRL.nil|refine jE ?_ ?_|exact jF|exact jG|refine yb1 ?_ ?_|refine MB.row ?_|refine jI ?_ ?_|exact ya8|refine jJ rfl (by first|rfl|assumption|(simp only [znl,jR];(first|done|fail)))|refine yb2 ?_|rfl)|(simp only [znl,jR];(first|done|fail))|(simp only [↓reduceIte,zlk,Nat.reduceEqDiff,reduceCtorEq])|(with_reducible first|refine jJ ?_ ?_|refine ya5 ?_|refine ju ?_|refine jv ?_|refine jw ?_|refine jx ?_ (by first|rfl|assumption|(simp only [znl,jR];(first|done|fail)))|refine jC ?_ (by first|rfl|assumption|(simp only [znl,jR];(first|done|fail)))))))
      all_goals first | rfl | (simp; done)
    obtain ⟨a', r, out⟩ := x
    obtain ⟨hx1, hx2, hx3, t, ht, hx4⟩ := hx
    dsimp only at hx1 hx2 hx3 ht hx4 ⊢
    by_cases hlt : 0 < r
    · obtain ⟨r', rfl⟩ : ∃ r', r = r' + 1 := ⟨r - 1, by omega⟩
      obtain ⟨t, rfl⟩ : ∃ t', t = t' + 1 := ⟨t - 1, by omega⟩
      repeat' (first|(with_reducible first|refine yrl (by constructor) ?_|refine jk (fun M hM=>?_)|(refine hM _ ?_;clear hM M)|refine xb3 (by decide) ?_|refine yqa (by assumption) ?_ ?_|refine yqb (by assumption) ?_ ?_)|((with_reducible refine je ?_)<;>(first|rfl|assumption|(simp only [znl,jR];(first|done|fail))))|(with_reducible refine jf (by (simp only [↓reduceIte,zlk,Nat.reduceEqDiff,reduceCtorEq]);exact rfl) ?_)|((with_reducible first|refine jg (fun hc=>?_) (fun hc=>?_)|refine jh (fun hc=>?_) (fun hc=>?_))<;>(try simp (disch:=omega) only [zhb] at hc)<;>(try (exfalso;omega))<;>(try subst hc))|(with_reducible refine ji (by omega) ?_)|(simp (config := { maxSteps := 400000 }) only [↓jt,↓reduceIte,zvs,reduceCtorEq,seval,-List.reduceReplicate,tab,hS])|(simp (disch:=omega) only [ziw]))
      have h1 := find_spec s hs a' (by omega) 1 false
      rcases hF : findO s a' 1 false with _ | ⟨f, i⟩
      · rw [hF] at h1
        simp only [findV] at h1
        rw [pieceN_succ, hF, Option.map_none] at hx4
        refine ja (jc (h1) (by first|rfl|assumption|(simp only [znl,jR];(first|done|fail))) rfl ?_)
        repeat' (first|(with_reducible first|refine yrl (by constructor) ?_|refine jk (fun M hM=>?_)|(refine hM _ ?_;clear hM M)|refine xb3 (by decide) ?_|refine yqa (by assumption) ?_ ?_|refine yqb (by assumption) ?_ ?_)|((with_reducible refine je ?_)<;>(first|rfl|assumption|(simp only [znl,jR];(first|done|fail))))|(with_reducible refine jf (by (simp only [↓reduceIte,zlk,Nat.reduceEqDiff,reduceCtorEq]);exact rfl) ?_)|((with_reducible first|refine jg (fun hc=>?_) (fun hc=>?_)|refine jh (fun hc=>?_) (fun hc=>?_))<;>(try simp (disch:=omega) only [zhb] at hc)<;>(try (exfalso;omega))<;>(try subst hc))|(with_reducible refine ji (by omega) ?_)|(simp (config := { maxSteps := 400000 }) only [↓jt,↓reduceIte,zvs,reduceCtorEq,seval,-List.reduceReplicate,tab,hS,Try.results64,jTA,Try.results32,jTA])|(simp (disch:=omega) only [ziw]))
        rw [hx4]
        simp only [strV]
        simp only [zrds]
      · rw [hF] at h1
        simp only [findV] at h1
        rw [pieceN_succ, hF] at hx4
        dsimp only at hx4
        obtain ⟨g0, g1, g2, g3, g4, g5, g6, g7, g8⟩ := findO_some hx1 hF
        have h2 := there_spec fr hf f
        by_cases ht : thereF fr f = true
        · have ht' := thereF_iff.1 ht
          rw [ht] at h2
          rw [if_pos ht] at hx4
          refine ja (jc (h1) (by first|rfl|assumption|(simp only [znl,jR];(first|done|fail))) rfl ?_)
          repeat' (first|(with_reducible first|refine yrl (by constructor) ?_|refine jk (fun M hM=>?_)|(refine hM _ ?_;clear hM M)|refine xb3 (by decide) ?_|refine yqa (by assumption) ?_ ?_|refine yqb (by assumption) ?_ ?_)|((with_reducible refine je ?_)<;>(first|rfl|assumption|(simp only [znl,jR];(first|done|fail))))|(with_reducible refine jf (by (simp only [↓reduceIte,zlk,Nat.reduceEqDiff,reduceCtorEq]);exact rfl) ?_)|((with_reducible first|refine jg (fun hc=>?_) (fun hc=>?_)|refine jh (fun hc=>?_) (fun hc=>?_))<;>(try simp (disch:=omega) only [zhb] at hc)<;>(try (exfalso;omega))<;>(try subst hc))|(with_reducible refine ji (by omega) ?_)|(simp (config := { maxSteps := 400000 }) only [↓jt,↓reduceIte,zvs,reduceCtorEq,seval,-List.reduceReplicate,tab,hS])|(simp (disch:=omega) only [ziw]))
          refine ja (ok_body Try.func65 rfl rfl (by kernel_rfl) (k := 5) (by rfl) (by decide) ?_)
          repeat' (first|(with_reducible first|refine yrl (by constructor) ?_|refine jk (fun M hM=>?_)|(refine hM _ ?_;clear hM M)|refine xb3 (by decide) ?_|refine yqa (by assumption) ?_ ?_|refine yqb (by assumption) ?_ ?_)|((with_reducible refine je ?_)<;>(first|rfl|assumption|(simp only [znl,jR];(first|done|fail))))|(with_reducible refine jf (by (simp only [↓reduceIte,zlk,Nat.reduceEqDiff,reduceCtorEq]);exact rfl) ?_)|((with_reducible first|refine jg (fun hc=>?_) (fun hc=>?_)|refine jh (fun hc=>?_) (fun hc=>?_))<;>(try simp (disch:=omega) only [zhb] at hc)<;>(try (exfalso;omega))<;>(try subst hc))|(with_reducible refine ji (by omega) ?_)|(simp (config := { maxSteps := 400000 }) only [↓jt,↓reduceIte,zvs,reduceCtorEq,seval,-List.reduceReplicate,tab,hS])|(simp (disch:=omega) only [ziw]))
          refine ok_draw 10 (by kernel_rfl) (by decide +kernel) (by intro m hm; simp only [upd_ap,rows_cons,rows_nil]; (repeat (first | rfl | rw [if_neg (by omega)]))) (fun M hM => ?_); simp only [List.take_succ_cons,List.take_zero,List.drop_succ_cons,List.drop_zero]
          repeat' (first|(with_reducible first|refine yrl (by constructor) ?_|refine jk (fun M hM=>?_)|(refine hM _ ?_;clear hM M)|refine xb3 (by decide) ?_|refine yqa (by assumption) ?_ ?_|refine yqb (by assumption) ?_ ?_)|((with_reducible refine je ?_)<;>(first|rfl|assumption|(simp only [znl,jR];(first|done|fail))))|(with_reducible refine jf (by (simp only [↓reduceIte,zlk,Nat.reduceEqDiff,reduceCtorEq]);exact rfl) ?_)|((with_reducible first|refine jg (fun hc=>?_) (fun hc=>?_)|refine jh (fun hc=>?_) (fun hc=>?_))<;>(try simp (disch:=omega) only [zhb] at hc)<;>(try (exfalso;omega))<;>(try subst hc))|(with_reducible refine ji (by omega) ?_)|(simp (config := { maxSteps := 400000 }) only [↓jt,↓reduceIte,zvs,reduceCtorEq,seval,-List.reduceReplicate,tab,hS,Try.results65,jTA])|(simp (disch:=omega) only [ziw]))
          obtain ⟨m, hm⟩ : ∃ m, m = min (r' + 1) (128 - i.toNat) := ⟨_, rfl⟩
          have e1 : (i + min ((r' + 1 : Nat) : Int) (128 - i)).toNat - i.toNat = m := by omega
          have e2 : min ((r' + 1 : Nat) : Int) (128 - i) = (m : Int) := by omega
          have hpl : (List.take m (List.drop i.toNat (fr.getD f.toNat []))).length = m := by rw [List.length_take, List.length_drop]; omega
          rw [← hm] at hx4
          refine xl1 (a' + (m : Int), r' + 1 - m, out ++ List.take m (List.drop i.toNat (fr.getD f.toNat []))) ?_ ⟨by show 0 ≤ a' + (m : Int); omega, by show a' + (m : Int) + ((r' + 1 - m : Nat) : Int) = a + n; omega, ?_, t, by show r' + 1 - m < t; omega, ?_⟩ (by show r' + 1 - m < r' + 1; omega)
          · (refine yrn [(3, 3), (4, 645)] false ?_ ?_<;>(repeat' (first|(with_reducible first|exact ya1|exact ya2|exact ya3|refine jx rfl (by first|rfl|assumption|(simp only [znl,jR];(first|done|fail)))|exact ya5|exact ya7|exact jy|exact jz|refine jA ?_|refine ya9 ?_ ?_ ?_|refine jC rfl (by first|rfl|assumption|(simp only [znl,jR];(first|done|fail)))|refine MR.agg (MRL.cons ?_ ?_)|refine MR.fn ?_|refine MRL.cons ?_ ?_|exact MRL.nil|refine jE ?_ ?_|exact jF|exact jG|refine yb1 ?_ ?_|refine MB.row ?_|refine jI ?_ ?_|exact ya8|refine jJ rfl (by first|rfl|assumption|(simp only [znl,jR];(first|done|fail)))|refine yb2 ?_|rfl)|(simp only [znl,jR];(first|done|fail))|(simp only [↓reduceIte,zlk,Nat.reduceEqDiff,reduceCtorEq])|(with_reducible first|refine jJ ?_ ?_|refine ya5 ?_|refine ju ?_|refine jv ?_|refine jw ?_|refine jx ?_ (by first|rfl|assumption|(simp only [znl,jR];(first|done|fail)))|refine jC ?_ (by first|rfl|assumption|(simp only [znl,jR];(first|done|fail)))))))
            all_goals first
              | (rw [List.length_append, hpl]; omega)
              | (rw [e1]; simp; done)
          · show (((out ++ List.take m (List.drop i.toNat (fr.getD f.toNat []))).length : Nat) : Int) + ((r' + 1 - m : Nat) : Int) = n
            rw [List.length_append, hpl]; omega
          · show R = Option.map ((out ++ List.take m (List.drop i.toNat (fr.getD f.toNat []))) ++ ·) (pieceN fr s t (a' + (m : Int)) (r' + 1 - m))
            rw [hx4, Option.map_map]
            congr 1
            funext r
            simp
        · have ht2 := ht
          rw [Bool.not_eq_true] at ht
          rw [ht] at h2
          rw [if_neg ht2, Option.map_none] at hx4
          refine ja (jc (h1) (by first|rfl|assumption|(simp only [znl,jR];(first|done|fail))) rfl ?_)
          repeat' (first|(with_reducible first|refine yrl (by constructor) ?_|refine jk (fun M hM=>?_)|(refine hM _ ?_;clear hM M)|refine xb3 (by decide) ?_|refine yqa (by assumption) ?_ ?_|refine yqb (by assumption) ?_ ?_)|((with_reducible refine je ?_)<;>(first|rfl|assumption|(simp only [znl,jR];(first|done|fail))))|(with_reducible refine jf (by (simp only [↓reduceIte,zlk,Nat.reduceEqDiff,reduceCtorEq]);exact rfl) ?_)|((with_reducible first|refine jg (fun hc=>?_) (fun hc=>?_)|refine jh (fun hc=>?_) (fun hc=>?_))<;>(try simp (disch:=omega) only [zhb] at hc)<;>(try (exfalso;omega))<;>(try subst hc))|(with_reducible refine ji (by omega) ?_)|(simp (config := { maxSteps := 400000 }) only [↓jt,↓reduceIte,zvs,reduceCtorEq,seval,-List.reduceReplicate,tab,hS,Try.results64,jTA,Try.results32,jTA])|(simp (disch:=omega) only [ziw]))
          rw [hx4]
          simp only [strV]
          simp only [zrds]
    · repeat' (first|(with_reducible first|refine yrl (by constructor) ?_|refine jk (fun M hM=>?_)|(refine hM _ ?_;clear hM M)|refine xb3 (by decide) ?_|refine yqa (by assumption) ?_ ?_|refine yqb (by assumption) ?_ ?_)|((with_reducible refine je ?_)<;>(first|rfl|assumption|(simp only [znl,jR];(first|done|fail))))|(with_reducible refine jf (by (simp only [↓reduceIte,zlk,Nat.reduceEqDiff,reduceCtorEq]);exact rfl) ?_)|((with_reducible first|refine jg (fun hc=>?_) (fun hc=>?_)|refine jh (fun hc=>?_) (fun hc=>?_))<;>(try simp (disch:=omega) only [zhb] at hc)<;>(try (exfalso;omega))<;>(try subst hc))|(with_reducible refine ji (by omega) ?_)|(simp (config := { maxSteps := 400000 }) only [↓jt,↓reduceIte,zvs,reduceCtorEq,seval,-List.reduceReplicate,tab,hS,bytesOf_enc,Try.results64,jTA,Try.results32,jTA])|(simp (disch:=omega) only [ziw]))
      have : r = 0 := by omega
      subst this
      rw [hx4]
      cases t <;> (simp only [pieceN,Option.map_some,strV]; simp only [zrds]; simp)
end Go.Proofs.Ytpdhdkpebbfnnaa.V
end
section
namespace Go.Proofs.Ytpdhdkpebbfnnaa.V
open Go
set_option maxRecDepth 100000
set_option maxHeartbeats 1000000
def layP (s : List Pte) : Nat → Int → List UInt8 → Frames → Option Frames
  | _, _, [], g => some g
  | 0, _, _ :: _, _ => none
  | t + 1, a, x :: d, g => match findO s a 1 true with
    | some (f, i) => if thereF g f = true then layP s t (a + (min (d.length + 1) (128 - i.toNat) : Nat)) ((x :: d).drop (min (d.length + 1) (128 - i.toNat))) (g.set f.toNat (putF (g.getD f.toNat []) i.toNat ((x :: d).take (min (d.length + 1) (128 - i.toNat))))) else none
    | none => none
theorem layP_cons (s : List Pte) (t : Nat) (a : Int) (d : List UInt8) (hd : d ≠ []) (g : Frames) : layP s (t + 1) a d g = match findO s a 1 true with
    | some (f, i) => if thereF g f = true then layP s t (a + (min d.length (128 - i.toNat) : Nat)) (d.drop (min d.length (128 - i.toNat))) (g.set f.toNat (putF (g.getD f.toNat []) i.toNat (d.take (min d.length (128 - i.toNat))))) else none
    | none => none := by
  cases d with
  | nil => exact absurd rfl hd
  | cons x d => rfl
theorem putF_len (p : List UInt8) (k : Nat) (s : List UInt8) (h : k + s.length ≤ p.length) : (putF p k s).length = p.length := by
  unfold putF; simp; omega
theorem thereF_same {fr g : Frames} (h : g.map List.length = fr.map List.length) (f : Int) : thereF g f = thereF fr f := by
  have h1 : g.length = fr.length := by simpa using congrArg List.length h
  have h2 : (g.getD f.toNat []).length = (fr.getD f.toNat []).length := by
    have h3 := congrArg (fun l => l[f.toNat]?) h
    simp only [List.getElem?_map] at h3
    rw [List.getD_eq_getElem?_getD, List.getD_eq_getElem?_getD]
    cases h4 : g[f.toNat]? <;> cases h5 : fr[f.toNat]? <;> simp_all
  unfold thereF
  rw [h1, h2]
theorem set_same {fr : Frames} {i : Nat} {r : List UInt8} (h : r.length = (fr.getD i []).length) : (fr.set i r).map List.length = fr.map List.length := by
  apply List.ext_getElem (by simp)
  intro j h1 h2
  simp only [List.getElem_map,List.getElem_set]
  split
  · rename_i e; subst e; simp at h2; rw [h]; simp [h2]
  · rfl
theorem PLay_spec (fr : Frames) (hf : fits fr) (s : List Pte) (hs : s.length = 16) (a : Int) (ha : 0 ≤ a ∧ a < 2 ^ 32) (d : List UInt8) (hd : d.length < 2 ^ 36) :
    Spec Try.prog 33 [encStrs fr, encSpace s, .int .u32 a, .str d] (framesV (if 2048 < d.length ∨ 2048 < a + d.length then none else layP s 2049 a d fr)) := by
  have hS := hasSpace s hs
  obtain ⟨hf1, hf2⟩ := id hf
  by_cases hc0 : 2048 < d.length ∨ 2048 < a + d.length
  · rw [if_pos hc0]
    refine spec_ok Try.func33 rfl rfl (by kernel_rfl) (k := 4) rfl (by decide) ?_
    repeat' (first|(with_reducible first|refine yrl (by constructor) ?_|refine jk (fun M hM=>?_)|(refine hM _ ?_;clear hM M)|refine xb3 (by decide) ?_|refine yqa (by assumption) ?_ ?_|refine yqb (by assumption) ?_ ?_)|((with_reducible refine je ?_)<;>(first|rfl|assumption|(simp only [znl,jR];(first|done|fail))))|(with_reducible refine jf (by (simp only [↓reduceIte,zlk,Nat.reduceEqDiff,reduceCtorEq]);exact rfl) ?_)|((with_reducible first|refine jg (fun hc=>?_) (fun hc=>?_)|refine jh (fun hc=>?_) (fun hc=>?_))<;>(try simp (disch:=omega) only [zhb] at hc)<;>(try (exfalso;omega))<;>(try subst hc))|(with_reducible refine ji (by omega) ?_)|(simp (config := { maxSteps := 400000 }) only [↓jt,↓reduceIte,zvs,reduceCtorEq,seval,-List.reduceReplicate,tab,hS,Try.results33,jTA])|(simp (disch:=omega) only [ziw]))
    refine ja (clone_call fr hf (fun h => ?_) ?_)
    · subst h
      repeat' (first|(with_reducible first|refine yrl (by constructor) ?_|refine jk (fun M hM=>?_)|(refine hM _ ?_;clear hM M)|refine xb3 (by decide) ?_|refine yqa (by assumption) ?_ ?_|refine yqb (by assumption) ?_ ?_)|((with_reducible refine je ?_)<;>(first|rfl|assumption|(simp only [znl,jR];(first|done|fail))))|(with_reducible refine jf (by (simp only [↓reduceIte,zlk,Nat.reduceEqDiff,reduceCtorEq]);exact rfl) ?_)|((with_reducible first|refine jg (fun hc=>?_) (fun hc=>?_)|refine jh (fun hc=>?_) (fun hc=>?_))<;>(try simp (disch:=omega) only [zhb] at hc)<;>(try (exfalso;omega))<;>(try subst hc))|(with_reducible refine ji (by omega) ?_)|(simp (config := { maxSteps := 400000 }) only [↓jt,↓reduceIte,zvs,reduceCtorEq,seval,-List.reduceReplicate,tab,hS])|(simp (disch:=omega) only [ziw]))
      refine ja (ok_body Try.func64 rfl rfl (by kernel_rfl) (k := 6) (by rfl) (by decide) ?_)
      repeat' (first|(with_reducible first|refine yrl (by constructor) ?_|refine jk (fun M hM=>?_)|(refine hM _ ?_;clear hM M)|refine xb3 (by decide) ?_|refine yqa (by assumption) ?_ ?_|refine yqb (by assumption) ?_ ?_)|((with_reducible refine je ?_)<;>(first|rfl|assumption|(simp only [znl,jR];(first|done|fail))))|(with_reducible refine jf (by (simp only [↓reduceIte,zlk,Nat.reduceEqDiff,reduceCtorEq]);exact rfl) ?_)|((with_reducible first|refine jg (fun hc=>?_) (fun hc=>?_)|refine jh (fun hc=>?_) (fun hc=>?_))<;>(try simp (disch:=omega) only [zhb] at hc)<;>(try (exfalso;omega))<;>(try subst hc))|(with_reducible refine ji (by omega) ?_)|(simp (config := { maxSteps := 400000 }) only [↓jt,↓reduceIte,zvs,reduceCtorEq,seval,-List.reduceReplicate,tab,hS,Try.results64,jTA,Try.results33,jTA])|(simp (disch:=omega) only [ziw]))
      all_goals simp only [framesV]
      all_goals simp only [zrds]
      all_goals exact rd_nil
    · repeat' (first|(with_reducible first|refine yrl (by constructor) ?_|refine jk (fun M hM=>?_)|(refine hM _ ?_;clear hM M)|refine xb3 (by decide) ?_|refine yqa (by assumption) ?_ ?_|refine yqb (by assumption) ?_ ?_)|((with_reducible refine je ?_)<;>(first|rfl|assumption|(simp only [znl,jR];(first|done|fail))))|(with_reducible refine jf (by (simp only [↓reduceIte,zlk,Nat.reduceEqDiff,reduceCtorEq]);exact rfl) ?_)|((with_reducible first|refine jg (fun hc=>?_) (fun hc=>?_)|refine jh (fun hc=>?_) (fun hc=>?_))<;>(try simp (disch:=omega) only [zhb] at hc)<;>(try (exfalso;omega))<;>(try subst hc))|(with_reducible refine ji (by omega) ?_)|(simp (config := { maxSteps := 400000 }) only [↓jt,↓reduceIte,zvs,reduceCtorEq,seval,-List.reduceReplicate,tab,hS])|(simp (disch:=omega) only [ziw]))
      refine ja (ok_body Try.func64 rfl rfl (by kernel_rfl) (k := 6) (by rfl) (by decide) ?_)
      repeat' (first|(with_reducible first|refine yrl (by constructor) ?_|refine jk (fun M hM=>?_)|(refine hM _ ?_;clear hM M)|refine xb3 (by decide) ?_|refine yqa (by assumption) ?_ ?_|refine yqb (by assumption) ?_ ?_)|((with_reducible refine je ?_)<;>(first|rfl|assumption|(simp only [znl,jR];(first|done|fail))))|(with_reducible refine jf (by (simp only [↓reduceIte,zlk,Nat.reduceEqDiff,reduceCtorEq]);exact rfl) ?_)|((with_reducible first|refine jg (fun hc=>?_) (fun hc=>?_)|refine jh (fun hc=>?_) (fun hc=>?_))<;>(try simp (disch:=omega) only [zhb] at hc)<;>(try (exfalso;omega))<;>(try subst hc))|(with_reducible refine ji (by omega) ?_)|(simp (config := { maxSteps := 400000 }) only [↓jt,↓reduceIte,zvs,reduceCtorEq,seval,-List.reduceReplicate,tab,hS,Try.results64,jTA,Try.results33,jTA])|(simp (disch:=omega) only [ziw]))
      all_goals simp only [framesV]
      all_goals simp only [zrds]
      all_goals exact rd_nil
  · rw [if_neg hc0]
    obtain ⟨R, hR⟩ : ∃ R, R = layP s 2049 a d fr := ⟨_, rfl⟩
    rw [← hR]
    refine spec_ok Try.func33 rfl rfl (by kernel_rfl) (k := 4) rfl (by decide) ?_
    repeat' (first|(with_reducible first|refine yrl (by constructor) ?_|refine jk (fun M hM=>?_)|(refine hM _ ?_;clear hM M)|refine xb3 (by decide) ?_|refine yqa (by assumption) ?_ ?_|refine yqb (by assumption) ?_ ?_)|((with_reducible refine je ?_)<;>(first|rfl|assumption|(simp only [znl,jR];(first|done|fail))))|(with_reducible refine jf (by (simp only [↓reduceIte,zlk,Nat.reduceEqDiff,reduceCtorEq]);exact rfl) ?_)|((with_reducible first|refine jg (fun hc=>?_) (fun hc=>?_)|refine jh (fun hc=>?_) (fun hc=>?_))<;>(try simp (disch:=omega) only [zhb] at hc)<;>(try (exfalso;omega))<;>(try subst hc))|(with_reducible refine ji (by omega) ?_)|(simp (config := { maxSteps := 400000 }) only [↓jt,↓reduceIte,zvs,reduceCtorEq,seval,-List.reduceReplicate,tab,hS,Try.results33,jTA])|(simp (disch:=omega) only [ziw]))
    refine ja (clone_call fr hf (fun h => ?_) ?_)
    · subst h
      repeat' (first|(with_reducible first|refine yrl (by constructor) ?_|refine jk (fun M hM=>?_)|(refine hM _ ?_;clear hM M)|refine xb3 (by decide) ?_|refine yqa (by assumption) ?_ ?_|refine yqb (by assumption) ?_ ?_)|((with_reducible refine je ?_)<;>(first|rfl|assumption|(simp only [znl,jR];(first|done|fail))))|(with_reducible refine jf (by (simp only [↓reduceIte,zlk,Nat.reduceEqDiff,reduceCtorEq]);exact rfl) ?_)|((with_reducible first|refine jg (fun hc=>?_) (fun hc=>?_)|refine jh (fun hc=>?_) (fun hc=>?_))<;>(try simp (disch:=omega) only [zhb] at hc)<;>(try (exfalso;omega))<;>(try subst hc))|(with_reducible refine ji (by omega) ?_)|(simp (config := { maxSteps := 400000 }) only [↓jt,↓reduceIte,zvs,reduceCtorEq,seval,-List.reduceReplicate,tab,hS])|(simp (disch:=omega) only [ziw]))
      refine ja (ok_body Try.func64 rfl rfl (by kernel_rfl) (k := 6) (by rfl) (by decide) ?_)
      repeat' (first|(with_reducible first|refine yrl (by constructor) ?_|refine jk (fun M hM=>?_)|(refine hM _ ?_;clear hM M)|refine xb3 (by decide) ?_|refine yqa (by assumption) ?_ ?_|refine yqb (by assumption) ?_ ?_)|((with_reducible refine je ?_)<;>(first|rfl|assumption|(simp only [znl,jR];(first|done|fail))))|(with_reducible refine jf (by (simp only [↓reduceIte,zlk,Nat.reduceEqDiff,reduceCtorEq]);exact rfl) ?_)|((with_reducible first|refine jg (fun hc=>?_) (fun hc=>?_)|refine jh (fun hc=>?_) (fun hc=>?_))<;>(try simp (disch:=omega) only [zhb] at hc)<;>(try (exfalso;omega))<;>(try subst hc))|(with_reducible refine ji (by omega) ?_)|(simp (config := { maxSteps := 400000 }) only [↓jt,↓reduceIte,zvs,reduceCtorEq,seval,-List.reduceReplicate,tab,hS])|(simp (disch:=omega) only [ziw]))
      refine ok_loop (fun x : Unit => ⟨slots [(0, encStrs []), (2, .int .u32 a), (3, .int .i64 d.length), (4, .bool true), (12, .bool false), (7, .ptr 3 [])], rows [(2, .row .cell (.sl none 0)), (3, .row (.arr 16 (.st [.cell, .cell, .cell])) (encSpace s))], 4⟩)
        (fun x => True) (fun x => 0) () ?_ trivial (fun x hx => ?_)
      · (refine yrn [(3, 3)] false ?_ ?_<;>(repeat' (first|(with_reducible first|exact ya1|exact ya2|exact ya3|refine jx rfl (by first|rfl|assumption|(simp only [znl,jR];(first|done|fail)))|exact ya5|exact ya7|exact jy|exact jz|refine jA ?_|refine ya9 ?_ ?_ ?_|refine jC rfl (by first|rfl|assumption|(simp only [znl,jR];(first|done|fail)))|refine MR.agg (MRL.cons ?_ ?_)|refine MR.fn ?_|refine MRL.cons ?_ ?_|exact MRL.nil|refine jE ?_ ?_|exact jF|exact jG|refine yb1 ?_ ?_|refine MB.row ?_|refine jI ?_ ?_|exact ya8|refine jJ rfl (by first|rfl|assumption|(simp only [znl,jR];(first|done|fail)))|refine yb2 ?_|rfl)|(simp only [znl,jR];(first|done|fail))|(simp only [↓reduceIte,zlk,Nat.reduceEqDiff,reduceCtorEq])|(with_reducible first|refine jJ ?_ ?_|refine ya5 ?_|refine ju ?_|refine jv ?_|refine jw ?_|refine jx ?_ (by first|rfl|assumption|(simp only [znl,jR];(first|done|fail)))|refine jC ?_ (by first|rfl|assumption|(simp only [znl,jR];(first|done|fail)))))))
      by_cases hlt : 0 < d.length
      · have hne : d ≠ [] := fun h => by subst h; simp at hlt
        rw [layP_cons _ _ _ _ hne] at hR
        repeat' (first|(with_reducible first|refine yrl (by constructor) ?_|refine jk (fun M hM=>?_)|(refine hM _ ?_;clear hM M)|refine xb3 (by decide) ?_|refine yqa (by assumption) ?_ ?_|refine yqb (by assumption) ?_ ?_)|((with_reducible refine je ?_)<;>(first|rfl|assumption|(simp only [znl,jR];(first|done|fail))))|(with_reducible refine jf (by (simp only [↓reduceIte,zlk,Nat.reduceEqDiff,reduceCtorEq]);exact rfl) ?_)|((with_reducible first|refine jg (fun hc=>?_) (fun hc=>?_)|refine jh (fun hc=>?_) (fun hc=>?_))<;>(try simp (disch:=omega) only [zhb] at hc)<;>(try (exfalso;omega))<;>(try subst hc))|(with_reducible refine ji (by omega) ?_)|(simp (config := { maxSteps := 400000 }) only [↓jt,↓reduceIte,zvs,reduceCtorEq,seval,-List.reduceReplicate,tab,hS])|(simp (disch:=omega) only [ziw]))
        have h1 := find_spec s hs a (by omega) 1 true
        rcases hF : findO s a 1 true with _ | ⟨f, i⟩
        · rw [hF] at h1 hR
          simp only [findV] at h1
          refine ja (jc (h1) (by first|rfl|assumption|(simp only [znl,jR];(first|done|fail))) rfl ?_)
          repeat' (first|(with_reducible first|refine yrl (by constructor) ?_|refine jk (fun M hM=>?_)|(refine hM _ ?_;clear hM M)|refine xb3 (by decide) ?_|refine yqa (by assumption) ?_ ?_|refine yqb (by assumption) ?_ ?_)|((with_reducible refine je ?_)<;>(first|rfl|assumption|(simp only [znl,jR];(first|done|fail))))|(with_reducible refine jf (by (simp only [↓reduceIte,zlk,Nat.reduceEqDiff,reduceCtorEq]);exact rfl) ?_)|((with_reducible first|refine jg (fun hc=>?_) (fun hc=>?_)|refine jh (fun hc=>?_) (fun hc=>?_))<;>(try simp (disch:=omega) only [zhb] at hc)<;>(try (exfalso;omega))<;>(try subst hc))|(with_reducible refine ji (by omega) ?_)|(simp (config := { maxSteps := 400000 }) only [↓jt,↓reduceIte,zvs,reduceCtorEq,seval,-List.reduceReplicate,tab,hS,Try.results64,jTA,Try.results33,jTA])|(simp (disch:=omega) only [ziw]))
          rw [hR]
          simp only [framesV]
          simp only [zrds]
          exact rd_nil
        · rw [hF] at h1 hR
          simp only [findV] at h1
          have h2 := there_spec [] hf f
          have h3 : thereF [] f = false := by
            rw [← Bool.not_eq_true, thereF_iff]; simp
          rw [h3] at h2
          dsimp only at hR
          rw [h3, if_neg (by simp)] at hR
          refine ja (jc (h1) (by first|rfl|assumption|(simp only [znl,jR];(first|done|fail))) rfl ?_)
          repeat' (first|(with_reducible first|refine yrl (by constructor) ?_|refine jk (fun M hM=>?_)|(refine hM _ ?_;clear hM M)|refine xb3 (by decide) ?_|refine yqa (by assumption) ?_ ?_|refine yqb (by assumption) ?_ ?_)|((with_reducible refine je ?_)<;>(first|rfl|assumption|(simp only [znl,jR];(first|done|fail))))|(with_reducible refine jf (by (simp only [↓reduceIte,zlk,Nat.reduceEqDiff,reduceCtorEq]);exact rfl) ?_)|((with_reducible first|refine jg (fun hc=>?_) (fun hc=>?_)|refine jh (fun hc=>?_) (fun hc=>?_))<;>(try simp (disch:=omega) only [zhb] at hc)<;>(try (exfalso;omega))<;>(try subst hc))|(with_reducible refine ji (by omega) ?_)|(simp (config := { maxSteps := 400000 }) only [↓jt,↓reduceIte,zvs,reduceCtorEq,seval,-List.reduceReplicate,tab,hS,Try.results64,jTA,Try.results33,jTA])|(simp (disch:=omega) only [ziw]))
          rw [hR]
          simp only [framesV]
          simp only [zrds]
          exact rd_nil
      · have hne : d = [] := List.eq_nil_of_length_eq_zero (by omega)
        subst hne
        repeat' (first|(with_reducible first|refine yrl (by constructor) ?_|refine jk (fun M hM=>?_)|(refine hM _ ?_;clear hM M)|refine xb3 (by decide) ?_|refine yqa (by assumption) ?_ ?_|refine yqb (by assumption) ?_ ?_)|((with_reducible refine je ?_)<;>(first|rfl|assumption|(simp only [znl,jR];(first|done|fail))))|(with_reducible refine jf (by (simp only [↓reduceIte,zlk,Nat.reduceEqDiff,reduceCtorEq]);exact rfl) ?_)|((with_reducible first|refine jg (fun hc=>?_) (fun hc=>?_)|refine jh (fun hc=>?_) (fun hc=>?_))<;>(try simp (disch:=omega) only [zhb] at hc)<;>(try (exfalso;omega))<;>(try subst hc))|(with_reducible refine ji (by omega) ?_)|(simp (config := { maxSteps := 400000 }) only [↓jt,↓reduceIte,zvs,reduceCtorEq,seval,-List.reduceReplicate,tab,hS,Try.results64,jTA,Try.results33,jTA])|(simp (disch:=omega) only [ziw]))
        rw [hR]
        simp only [framesV,layP]
        simp only [zrds]
        exact rd_nil
    · repeat' (first|(with_reducible first|refine yrl (by constructor) ?_|refine jk (fun M hM=>?_)|(refine hM _ ?_;clear hM M)|refine xb3 (by decide) ?_|refine yqa (by assumption) ?_ ?_|refine yqb (by assumption) ?_ ?_)|((with_reducible refine je ?_)<;>(first|rfl|assumption|(simp only [znl,jR];(first|done|fail))))|(with_reducible refine jf (by (simp only [↓reduceIte,zlk,Nat.reduceEqDiff,reduceCtorEq]);exact rfl) ?_)|((with_reducible first|refine jg (fun hc=>?_) (fun hc=>?_)|refine jh (fun hc=>?_) (fun hc=>?_))<;>(try simp (disch:=omega) only [zhb] at hc)<;>(try (exfalso;omega))<;>(try subst hc))|(with_reducible refine ji (by omega) ?_)|(simp (config := { maxSteps := 400000 }) only [↓jt,↓reduceIte,zvs,reduceCtorEq,seval,-List.reduceReplicate,tab,hS])|(simp (disch:=omega) only [ziw]))
      refine ja (ok_body Try.func64 rfl rfl (by kernel_rfl) (k := 6) (by rfl) (by decide) ?_)
      repeat' (first|(with_reducible first|refine yrl (by constructor) ?_|refine jk (fun M hM=>?_)|(refine hM _ ?_;clear hM M)|refine xb3 (by decide) ?_|refine yqa (by assumption) ?_ ?_|refine yqb (by assumption) ?_ ?_)|((with_reducible refine je ?_)<;>(first|rfl|assumption|(simp only [znl,jR];(first|done|fail))))|(with_reducible refine jf (by (simp only [↓reduceIte,zlk,Nat.reduceEqDiff,reduceCtorEq]);exact rfl) ?_)|((with_reducible first|refine jg (fun hc=>?_) (fun hc=>?_)|refine jh (fun hc=>?_) (fun hc=>?_))<;>(try simp (disch:=omega) only [zhb] at hc)<;>(try (exfalso;omega))<;>(try subst hc))|(with_reducible refine ji (by omega) ?_)|(simp (config := { maxSteps := 400000 }) only [↓jt,↓reduceIte,zvs,reduceCtorEq,seval,-List.reduceReplicate,tab,hS])|(simp (disch:=omega) only [ziw]))
      refine ok_loop (fun x : Int × List UInt8 × Frames => ⟨slots [(0, encStrs fr), (2, .int .u32 x.1), (3, .int .i64 x.2.1.length), (4, .bool true), (5, .fn 67 [.ptr 4 [], .ptr 1 []]), (7, .ptr 5 []), (12, .bool false)],
          rows [(0, .row (.arr 16 (.st [.cell, .cell, .cell])) (encSpace s)), (1, .row .cell (.str x.2.1)), (3, .row (.arr fr.length .cell) (.agg (x.2.2.map .str))), (4, .row .cell (.sl (some (3, [], 0)) fr.length)), (5, .row (.arr 16 (.st [.cell, .cell, .cell])) (encSpace s))], 6⟩)
        (fun x => 0 ≤ x.1 ∧ x.1 + x.2.1.length = a + d.length ∧ x.2.2.map List.length = fr.map List.length ∧ ∃ t, x.2.1.length < t ∧ R = layP s t x.1 x.2.1 x.2.2) (fun x => x.2.1.length) (a, d, fr) ?_ ⟨ha.1, rfl, rfl, 2049, by show d.length < 2049; omega, hR⟩ (fun x hx => ?_)
      · (refine yrn [(5, 5)] false ?_ ?_<;>(repeat' (first|(with_reducible first|exact ya1|exact ya2|exact ya3|refine jx rfl (by first|rfl|assumption|(simp only [znl,jR];(first|done|fail)))|exact ya5|exact ya7|exact jy|exact jz|refine jA ?_|refine ya9 ?_ ?_ ?_|refine jC rfl (by first|rfl|assumption|(simp only [znl,jR];(first|done|fail)))|refine MR.agg (MRL.cons ?_ ?_)|refine MR.fn ?_|refine MRL.cons ?_ ?_|exact MRL.nil|refine jE ?_ ?_|exact jF|exact jG|refine yb1 ?_ ?_|refine MB.row ?_|refine jI ?_ ?_|exact ya8|refine jJ rfl (by first|rfl|assumption|(simp only [znl,jR];(first|done|fail)))|refine yb2 ?_|rfl)|(simp only [znl,jR];(first|done|fail))|(simp only [↓reduceIte,zlk,Nat.reduceEqDiff,reduceCtorEq])|(with_reducible first|refine jJ ?_ ?_|refine ya5 ?_|refine ju ?_|refine jv ?_|refine jw ?_|refine jx ?_ (by first|rfl|assumption|(simp only [znl,jR];(first|done|fail)))|refine jC ?_ (by first|rfl|assumption|(simp only [znl,jR];(first|done|fail)))))))
      obtain ⟨a', d', g⟩ := x
      obtain ⟨hx1, hx2, hx3, t, ht, hx4⟩ := hx
      dsimp only at hx1 hx2 hx3 ht hx4 ⊢
      have hgl : g.length = fr.length := by simpa using congrArg List.length hx3
      by_cases hlt : 0 < d'.length
      · have hne : d' ≠ [] := fun h => by subst h; simp at hlt
        obtain ⟨t, rfl⟩ : ∃ t', t = t' + 1 := ⟨t - 1, by omega⟩
        rw [layP_cons _ _ _ _ hne] at hx4
        repeat' (first|(with_reducible first|refine yrl (by constructor) ?_|refine jk (fun M hM=>?_)|(refine hM _ ?_;clear hM M)|refine xb3 (by decide) ?_|refine yqa (by assumption) ?_ ?_|refine yqb (by assumption) ?_ ?_)|((with_reducible refine je ?_)<;>(first|rfl|assumption|(simp only [znl,jR];(first|done|fail))))|(with_reducible refine jf (by (simp only [↓reduceIte,zlk,Nat.reduceEqDiff,reduceCtorEq]);exact rfl) ?_)|((with_reducible first|refine jg (fun hc=>?_) (fun hc=>?_)|refine jh (fun hc=>?_) (fun hc=>?_))<;>(try simp (disch:=omega) only [zhb] at hc)<;>(try (exfalso;omega))<;>(try subst hc))|(with_reducible refine ji (by omega) ?_)|(simp (config := { maxSteps := 400000 }) only [↓jt,↓reduceIte,zvs,reduceCtorEq,seval,-List.reduceReplicate,tab,hS])|(simp (disch:=omega) only [ziw]))
        have h1 := find_spec s hs a' (by omega) 1 true
        rcases hF : findO s a' 1 true with _ | ⟨f, i⟩
        · rw [hF] at h1 hx4
          simp only [findV] at h1
          refine ja (jc (h1) (by first|rfl|assumption|(simp only [znl,jR];(first|done|fail))) rfl ?_)
          repeat' (first|(with_reducible first|refine yrl (by constructor) ?_|refine jk (fun M hM=>?_)|(refine hM _ ?_;clear hM M)|refine xb3 (by decide) ?_|refine yqa (by assumption) ?_ ?_|refine yqb (by assumption) ?_ ?_)|((with_reducible refine je ?_)<;>(first|rfl|assumption|(simp only [znl,jR];(first|done|fail))))|(with_reducible refine jf (by (simp only [↓reduceIte,zlk,Nat.reduceEqDiff,reduceCtorEq]);exact rfl) ?_)|((with_reducible first|refine jg (fun hc=>?_) (fun hc=>?_)|refine jh (fun hc=>?_) (fun hc=>?_))<;>(try simp (disch:=omega) only [zhb] at hc)<;>(try (exfalso;omega))<;>(try subst hc))|(with_reducible refine ji (by omega) ?_)|(simp (config := { maxSteps := 400000 }) only [↓jt,↓reduceIte,zvs,reduceCtorEq,seval,-List.reduceReplicate,tab,hS,Try.results64,jTA,Try.results33,jTA])|(simp (disch:=omega) only [ziw]))
          rw [hx4]
          simp only [framesV]
          simp only [zrds]
          exact rd_nil
        · rw [hF] at h1 hx4
          simp only [findV] at h1
          dsimp only at hx4
          obtain ⟨g0, g1, g2, g3, g4, g5, g6, g7, g8⟩ := findO_some hx1 hF
          have h2 := there_spec fr hf f
          rw [thereF_same hx3] at hx4
          by_cases ht : thereF fr f = true
          · have ht' := thereF_iff.1 ht
            rw [← thereF_same hx3] at ht
            have hg' := thereF_iff.1 ht
            rw [thereF_same hx3] at ht
            rw [ht] at h2
            rw [if_pos ht] at hx4
            obtain ⟨m, hm⟩ : ∃ m, m = min d'.length (128 - i.toNat) := ⟨_, rfl⟩
            rw [← hm] at hx4
            have e2 : min (d'.length : Int) (128 - i) = (m : Int) := by omega
            have htl : (d'.take m).length = m := by rw [List.length_take]; omega
            have hml : m ≤ d'.length := by omega
            have h3 := put_spec (g.getD f.toNat []) (d'.take m) i g7 (by rw [htl]; omega) (by omega)
            refine ja (jc (h1) (by first|rfl|assumption|(simp only [znl,jR];(first|done|fail))) rfl ?_)
            repeat' (first|(with_reducible first|refine yrl (by constructor) ?_|refine jk (fun M hM=>?_)|(refine hM _ ?_;clear hM M)|refine xb3 (by decide) ?_|refine yqa (by assumption) ?_ ?_|refine yqb (by assumption) ?_ ?_)|((with_reducible refine je ?_)<;>(first|rfl|assumption|(simp only [znl,jR];(first|done|fail))))|(with_reducible refine jf (by (simp only [↓reduceIte,zlk,Nat.reduceEqDiff,reduceCtorEq]);exact rfl) ?_)|((with_reducible first|refine jg (fun hc=>?_) (fun hc=>?_)|refine jh (fun hc=>?_) (fun hc=>?_))<;>(try simp (disch:=omega) only [zhb] at hc)<;>(try (exfalso;omega))<;>(try subst hc))|(with_reducible refine ji (by omega) ?_)|(simp (config := { maxSteps := 400000 }) only [↓jt,↓reduceIte,zvs,reduceCtorEq,seval,-List.reduceReplicate,tab,hS,e2])|(simp (disch:=omega) only [ziw]))
            refine ja (ok_body Try.func67 rfl rfl (by kernel_rfl) (k := 5) (by rfl) (by decide) ?_)
            repeat' (first|(with_reducible first|refine yrl (by constructor) ?_|refine jk (fun M hM=>?_)|(refine hM _ ?_;clear hM M)|refine xb3 (by decide) ?_|refine yqa (by assumption) ?_ ?_|refine yqb (by assumption) ?_ ?_)|((with_reducible refine je ?_)<;>(first|rfl|assumption|(simp only [znl,jR];(first|done|fail))))|(with_reducible refine jf (by (simp only [↓reduceIte,zlk,Nat.reduceEqDiff,reduceCtorEq]);exact rfl) ?_)|((with_reducible first|refine jg (fun hc=>?_) (fun hc=>?_)|refine jh (fun hc=>?_) (fun hc=>?_))<;>(try simp (disch:=omega) only [zhb] at hc)<;>(try (exfalso;omega))<;>(try subst hc))|(with_reducible refine ji (by omega) ?_)|(simp (config := { maxSteps := 400000 }) only [↓jt,↓reduceIte,zvs,reduceCtorEq,seval,-List.reduceReplicate,tab,hS])|(simp (disch:=omega) only [ziw]))
            refine ok_draw 12 (by kernel_rfl) (by decide +kernel) (by intro m hm; simp only [upd_ap,rows_cons,rows_nil]; (repeat (first | rfl | rw [if_neg (by omega)]))) (fun M hM => ?_); simp only [List.take_succ_cons,List.take_zero,List.drop_succ_cons,List.drop_zero]
            repeat' (first|(with_reducible first|refine yrl (by constructor) ?_|refine jk (fun M hM=>?_)|(refine hM _ ?_;clear hM M)|refine xb3 (by decide) ?_|refine yqa (by assumption) ?_ ?_|refine yqb (by assumption) ?_ ?_)|((with_reducible refine je ?_)<;>(first|rfl|assumption|(simp only [znl,jR];(first|done|fail))))|(with_reducible refine jf (by (simp only [↓reduceIte,zlk,Nat.reduceEqDiff,reduceCtorEq]);exact rfl) ?_)|((with_reducible first|refine jg (fun hc=>?_) (fun hc=>?_)|refine jh (fun hc=>?_) (fun hc=>?_))<;>(try simp (disch:=omega) only [zhb] at hc)<;>(try (exfalso;omega))<;>(try subst hc))|(with_reducible refine ji (by omega) ?_)|(simp (config := { maxSteps := 400000 }) only [↓jt,↓reduceIte,zvs,reduceCtorEq,seval,-List.reduceReplicate,tab,hS,Try.results67,jTA])|(simp (disch:=omega) only [ziw]))
            refine xl1 (a' + (m : Int), d'.drop m, g.set f.toNat (putF (g.getD f.toNat []) i.toNat (d'.take m))) ?_ ⟨by show 0 ≤ a' + (m : Int); omega, by show a' + (m : Int) + ((d'.drop m).length : Int) = a + d.length; rw [List.length_drop]; omega,
              ?_, t, by show (d'.drop m).length < t; rw [List.length_drop]; omega, hx4⟩ (by show (d'.drop m).length < d'.length; rw [List.length_drop]; omega)
            · (refine yrn [(5, 5)] false ?_ ?_<;>(repeat' (first|(with_reducible first|exact ya1|exact ya2|exact ya3|refine jx rfl (by first|rfl|assumption|(simp only [znl,jR];(first|done|fail)))|exact ya5|exact ya7|exact jy|exact jz|refine jA ?_|refine ya9 ?_ ?_ ?_|refine jC rfl (by first|rfl|assumption|(simp only [znl,jR];(first|done|fail)))|refine MR.agg (MRL.cons ?_ ?_)|refine MR.fn ?_|refine MRL.cons ?_ ?_|exact MRL.nil|refine jE ?_ ?_|exact jF|exact jG|refine yb1 ?_ ?_|refine MB.row ?_|refine jI ?_ ?_|exact ya8|refine jJ rfl (by first|rfl|assumption|(simp only [znl,jR];(first|done|fail)))|refine yb2 ?_|rfl)|(simp only [znl,jR];(first|done|fail))|(simp only [↓reduceIte,zlk,Nat.reduceEqDiff,reduceCtorEq])|(with_reducible first|refine jJ ?_ ?_|refine ya5 ?_|refine ju ?_|refine jv ?_|refine jw ?_|refine jx ?_ (by first|rfl|assumption|(simp only [znl,jR];(first|done|fail)))|refine jC ?_ (by first|rfl|assumption|(simp only [znl,jR];(first|done|fail)))))))
              · rw [List.length_drop]; omega
              · exact List.take_of_length_le (by rw [List.length_drop]; omega)
              · rw [List.map_set]
            · show (g.set f.toNat (putF (g.getD f.toNat []) i.toNat (d'.take m))).map List.length = fr.map List.length
              rw [set_same (putF_len _ _ _ (by rw [htl]; omega)), hx3]
          · have ht2 := ht
            rw [Bool.not_eq_true] at ht
            rw [ht] at h2
            rw [if_neg ht2] at hx4
            refine ja (jc (h1) (by first|rfl|assumption|(simp only [znl,jR];(first|done|fail))) rfl ?_)
            repeat' (first|(with_reducible first|refine yrl (by constructor) ?_|refine jk (fun M hM=>?_)|(refine hM _ ?_;clear hM M)|refine xb3 (by decide) ?_|refine yqa (by assumption) ?_ ?_|refine yqb (by assumption) ?_ ?_)|((with_reducible refine je ?_)<;>(first|rfl|assumption|(simp only [znl,jR];(first|done|fail))))|(with_reducible refine jf (by (simp only [↓reduceIte,zlk,Nat.reduceEqDiff,reduceCtorEq]);exact rfl) ?_)|((with_reducible first|refine jg (fun hc=>?_) (fun hc=>?_)|refine jh (fun hc=>?_) (fun hc=>?_))<;>(try simp (disch:=omega) only [zhb] at hc)<;>(try (exfalso;omega))<;>(try subst hc))|(with_reducible refine ji (by omega) ?_)|(simp (config := { maxSteps := 400000 }) only [↓jt,↓reduceIte,zvs,reduceCtorEq,seval,-List.reduceReplicate,tab,hS,Try.results64,jTA,Try.results33,jTA])|(simp (disch:=omega) only [ziw]))
            rw [hx4]
            simp only [framesV]
            simp only [zrds]
            exact rd_nil
      · have hne : d' = [] := List.eq_nil_of_length_eq_zero (by omega)
        subst hne
        repeat' (first|(with_reducible first|refine yrl (by constructor) ?_|refine jk (fun M hM=>?_)|(refine hM _ ?_;clear hM M)|refine xb3 (by decide) ?_|refine yqa (by assumption) ?_ ?_|refine yqb (by assumption) ?_ ?_)|((with_reducible refine je ?_)<;>(first|rfl|assumption|(simp only [znl,jR];(first|done|fail))))|(with_reducible refine jf (by (simp only [↓reduceIte,zlk,Nat.reduceEqDiff,reduceCtorEq]);exact rfl) ?_)|((with_reducible first|refine jg (fun hc=>?_) (fun hc=>?_)|refine jh (fun hc=>?_) (fun hc=>?_))<;>(try simp (disch:=omega) only [zhb] at hc)<;>(try (exfalso;omega))<;>(try subst hc))|(with_reducible refine ji (by omega) ?_)|(simp (config := { maxSteps := 400000 }) only [↓jt,↓reduceIte,zvs,reduceCtorEq,seval,-List.reduceReplicate,tab,hS,Try.results64,jTA,Try.results33,jTA])|(simp (disch:=omega) only [ziw]))
        rw [hx4]
        cases t <;> simp only [framesV,layP]
        all_goals simp only [zrds]
        all_goals (refine rd_own (by (simp only [↓reduceIte,zlk,Nat.reduceEqDiff,reduceCtorEq]); exact rfl) ?_ ?_ ?_) <;> (first | rfl | assumption | (simp only [znl,jR];(first|done|fail)) | (simp; done) | (simp; omega) | skip)
end Go.Proofs.Ytpdhdkpebbfnnaa.V
end
section
namespace Go.Proofs.Ytpdhdkpebbfnnaa.V
open Go
set_option maxRecDepth 100000
set_option maxHeartbeats 8000000
def pagU (fr : Frames) (s : List Pte) (i : Nat) : Option (List UInt8) := if (s.getD i default).is = true ∧ thereF fr (s.getD i default).fr = true then some (fr.getD (s.getD i default).fr.toNat []) else none
theorem findO_page (s : List Pte) {i : Nat} (hi : i < 16) (wr : Bool) : findO s (128 * (i : Int)) 1 wr = if (s.getD i default).is = true ∧ (wr = true → (s.getD i default).wr = true) then some ((s.getD i default).fr, 0) else none := by
  unfold findO
  have e1 : (128 * (i : Int) / 128).toNat = i := by omega
  have e2 : 128 * (i : Int) % 128 = 0 := by omega
  rw [if_neg (by omega), e1, e2]
  cases h1 : (s.getD i default).is with
  | false => simp
  | true =>
    cases wr with
    | false => simp
    | true =>
      cases h2 : (s.getD i default).wr <;> simp
theorem piece_page (fr : Frames) (s : List Pte) {i : Nat} (hi : i < 16) : pieceN fr s 2049 (128 * (i : Int)) 128 = pagU fr s i := by
  rw [pieceN_succ, findO_page s hi]
  unfold pagU
  by_cases h1 : (s.getD i default).is = true
  · rw [if_pos ⟨h1, fun h => by cases h⟩]
    dsimp only
    by_cases h2 : thereF fr (s.getD i default).fr = true
    · rw [if_pos h2, if_pos ⟨h1, h2⟩]
      have e0 : min (127 + 1) (128 - (0 : Int).toNat) = 128 := by decide
      rw [e0]
      have h3 := (thereF_iff.1 h2).2.2
      show Option.map _ (some []) = _
      rw [Option.map_some, List.append_nil]
      congr 1
      show List.take 128 (List.drop 0 _) = _
      rw [List.drop_zero, List.take_of_length_le (by omega)]
    · rw [if_neg h2, if_neg fun h => h2 h.2]
  · rw [if_neg fun h => h1 h.1, if_neg fun h => h1 h.1]
theorem lay_page (fr : Frames) (s : List Pte) {i : Nat} (hi : i < 16) (b : UInt8) : (layP s 2049 (128 * (i : Int)) [b] fr).isSome = decide ((s.getD i default).is = true ∧ (s.getD i default).wr = true ∧ thereF fr (s.getD i default).fr = true) := by
  rw [layP_cons _ _ _ _ (by simp), findO_page s hi]
  by_cases h1 : (s.getD i default).is = true
  · by_cases h2 : (s.getD i default).wr = true
    · rw [if_pos ⟨h1, fun _ => h2⟩]
      dsimp only
      by_cases h3 : thereF fr (s.getD i default).fr = true
      · rw [if_pos h3, decide_eq_true ⟨h1, h2, h3⟩]
        have e0 : min [b].length (128 - (0 : Int).toNat) = 1 := rfl
        rw [e0]
        rfl
      · rw [if_neg h3, decide_eq_false fun h => h3 h.2.2]; rfl
    · rw [if_neg fun h => h2 (h.2 rfl), decide_eq_false fun h => h2 h.2.1]; rfl
  · rw [if_neg fun h => h1 h.1, decide_eq_false fun h => h1 h.1]; rfl
theorem mfit_fits {m : Mach} (hm : MFit 20000 m) (hfs : ∀ s ∈ m.fr, s.length = 128) : fits m.fr := ⟨by have := hm.fr; omega, fun s hs => by rw [hfs s hs]; decide⟩
theorem copyPage_spec (fr : Frames) (hf : fits fr) (s : List Pte) (hs : s.length = 16) {i : Nat} (hi : i < 16) : Spec Try.prog 32 [encStrs fr, encSpace s, .int .u32 (128 * (i : Int)), .int .i64 128] (strV (pagU fr s i)) := by
  have h := PCopy_spec fr hf s hs (128 * (i : Int)) (by omega) 128 (by decide)
  rw [if_neg (by omega)] at h
  have e : (128 : Int).toNat = 128 := by decide
  rw [e, piece_page fr s hi] at h
  exact h
end Go.Proofs.Ytpdhdkpebbfnnaa.V
end
section
namespace Go.Proofs.Ytpdhdkpebbfnnaa.V
open Go
set_option maxRecDepth 100000
set_option maxHeartbeats 8000000
end Go.Proofs.Ytpdhdkpebbfnnaa.V
end
section
namespace Go.Proofs.Ytpdhdkpebbfnnaa.V
open Go
set_option maxRecDepth 100000
def znU4 := And.intro @jO <| And.intro @jP <| And.intro @jQ <| And.intro @jR <| And.intro @jS <| And.intro @jT <| And.intro @jU <| And.intro @nls_lay <| And.intro @nl_lay <| True.intro
set_option maxHeartbeats 8000000
theorem spK_at {s : List Pte} {F : List Nat} {l : List Lay} (h : LaidOk s l) {j : Nat} : ∀ {k : Nat}, j < k → k ≤ l.length → (spK s F l k).getD (l.getD j default).at_.toNat default = ⟨true, (l.getD j default).w, ((F.getD j default : Nat) : Int)⟩
  | k + 1, h1, h2 => by
    obtain ⟨a1, a2⟩ := h.at0 j (by omega)
    rw [spK]
    by_cases e : j = k
    · subst e
      rw [List.getD_eq_getElem?_getD, List.getElem?_set_self (by rw [spK_len]; exact a1)]; rfl
    · have := h.dis j k (by omega) (by omega)
      rw [List.getD_eq_getElem?_getD, List.getElem?_set_ne (fun e => this e.symm), ← List.getD_eq_getElem?_getD]
      exact spK_at h (by omega) (by omega)
theorem frK_at {fr : Frames} {F : List Nat} {l : List Lay} (hF : F.Pairwise (· < ·)) {j : Nat} (hj : j < F.length) (hfr : F.getD j default < fr.length) : ∀ {k : Nat}, j < k → k ≤ F.length → (frK fr F l k).getD (F.getD j default) [] = (l.getD j default).d
  | k + 1, h1, h2 => by
    rw [frK]
    by_cases e : j = k
    · subst e
      rw [List.getD_eq_getElem?_getD, List.getElem?_set_self (by rw [frK_len]; exact hfr)]; rfl
    · have hne : F.getD k default ≠ F.getD j default := by
        have := (List.pairwise_iff_getElem.1 hF) j k hj (by omega) (by omega)
        rw [List.getD_eq_getElem?_getD, List.getElem?_eq_getElem (show k < F.length by omega), List.getD_eq_getElem?_getD, List.getElem?_eq_getElem hj]
        show F[k] ≠ F[j]
        omega
      rw [List.getD_eq_getElem?_getD, List.getElem?_set_ne hne, ← List.getD_eq_getElem?_getD]
      exact frK_at hF hj hfr (by omega) (by omega)
def cntK (s : List Pte) : Nat → Nat
  | 0 => 0
  | k + 1 => cntK s k + if (s.getD k default).is = true then 1 else 0
theorem cntK_le (s : List Pte) : ∀ k, cntK s k ≤ k
  | 0 => Nat.le_refl _
  | k + 1 => by
    have := cntK_le s k
    rw [cntK]
    split <;> omega
theorem cntK_set {s : List Pte} {i : Nat} (hi : i < s.length) (h0 : (s.getD i default).is = false) (x : Pte) (hx : x.is = true) : ∀ k, cntK (s.set i x) k = cntK s k + if i < k then 1 else 0
  | 0 => by rw [if_neg (by omega)]; rfl
  | k + 1 => by
    rw [cntK, cntK, cntK_set hi h0 x hx k]
    by_cases e : i = k
    · subst e
      have e1 : (s.set i x).getD i default = x := by rw [List.getD_eq_getElem?_getD, List.getElem?_set_self hi]; rfl
      rw [e1, h0, hx, if_neg (Nat.lt_irrefl i), if_pos (Nat.lt_succ_self i)]
      simp
    · have e1 : (s.set i x).getD k default = s.getD k default := by rw [List.getD_eq_getElem?_getD, List.getElem?_set_ne e, ← List.getD_eq_getElem?_getD]
      rw [e1]
      by_cases h : i < k
      · rw [if_pos h, if_pos (show i < k + 1 by omega)]; omega
      · rw [if_neg h, if_neg (show ¬i < k + 1 by omega)]; omega
theorem cntK_spK {s : List Pte} {F : List Nat} {l : List Lay} (h : LaidOk s l) : ∀ {k : Nat}, k ≤ l.length → cntK (spK s F l k) s.length = cntK s s.length + k
  | 0, _ => rfl
  | k + 1, h1 => by
    obtain ⟨a1, a2⟩ := h.at0 k (by omega)
    have e := spK_off (s := s) (F := F) (l := l) (i := (l.getD k default).at_.toNat) (k := k) fun j hj => h.dis j k hj (by omega)
    rw [spK, cntK_set (by rw [spK_len]; exact a1) (by rw [e]; exact a2) _ rfl, cntK_spK h (by omega), if_pos a1]
    omega
theorem cntK_z : ∀ k, cntK zSpace k = 0
  | 0 => rfl
  | k + 1 => by rw [cntK, cntK_z k, zSpace_at, if_neg (by decide)]
theorem free_left {m : Mach} {l : List Lay} {q : Pr} (hq : q.sp = spK zSpace (freeK m.pr m.fr.length) l l.length) (hl : LaidOk zSpace l) (hn : l.length ≤ (freeK m.pr m.fr.length).length) : (freeK (m.pr ++ [q]) m.fr.length).length + l.length = (freeK m.pr m.fr.length).length := by
  have hz : ∀ f, usersS f zSpace = 0 := fun f => by unfold usersS zSpace; rw [List.countP_replicate]; rfl
  obtain ⟨F, hF⟩ : ∃ F, F = freeK m.pr m.fr.length := ⟨_, rfl⟩
  have hnd : F.Pairwise (· < ·) := by rw [hF]; exact (freeK_in m.pr m.fr.length).1
  have e1 : freeK (m.pr ++ [q]) m.fr.length = F.filter fun i : Nat => decide (usersS (i : Int) q.sp = 0) := by
    rw [hF]
    unfold freeK
    rw [List.filter_filter]
    congr 1
    funext i
    rw [usersN_snoc, ← Bool.decide_and]
    congr 1
    exact propext ⟨fun h => ⟨by omega, by omega⟩, fun h => by omega⟩
  rw [← hF] at hn ⊢
  rw [e1]
  have hu : ∀ i : Nat, usersS (i : Int) q.sp = (F.take l.length).countP fun x : Nat => decide ((x : Int) = (i : Int)) := fun i => by rw [hq, ← hF, usersS_spK hl _ (Nat.le_refl _) hn, hz, Nat.zero_add]
  have hF2 : F = F.take l.length ++ F.drop l.length := (List.take_append_drop ..).symm
  have hdis : ∀ a ∈ F.take l.length, ∀ b ∈ F.drop l.length, a < b := by
    rw [hF2, List.pairwise_append] at hnd
    exact hnd.2.2
  have f1 : (F.take l.length).filter (fun i : Nat => decide (usersS (i : Int) q.sp = 0)) = [] := by
    rw [List.filter_eq_nil_iff]
    intro a ha hc
    have hc := of_decide_eq_true hc
    rw [hu, List.countP_eq_zero] at hc
    exact hc a ha (by simp)
  have f2 : (F.drop l.length).filter (fun i : Nat => decide (usersS (i : Int) q.sp = 0)) = F.drop l.length := by
    rw [List.filter_eq_self]
    intro b hb
    refine decide_eq_true ?_
    rw [hu, List.countP_eq_zero]
    intro a ha hc
    have := hdis a ha b hb
    have hc := of_decide_eq_true hc
    omega
  conv => lhs; rw [hF2]
  rw [List.filter_append, f1, f2, List.nil_append, List.length_drop]
  omega
theorem PLayb_spec (fr : Frames) (hf : fits fr) (s : List Pte) (hs : s.length = 16) {i : Nat} (hi : i < 16) (b : UInt8) : ∃ g : Frames, Spec Try.prog 33 [encStrs fr, encSpace s, .int .u32 (128 * (i : Int)), .str [b]] (.tup [encStrs g, .bool (decide ((s.getD i default).is = true ∧ (s.getD i default).wr = true ∧ thereF fr (s.getD i default).fr = true))]) := by
  have h := PLay_spec fr hf s hs (128 * (i : Int)) (by omega) [b] (by show 1 < _; decide)
  rw [if_neg (by show ¬(2048 < 1 ∨ 2048 < 128 * (i : Int) + ((1 : Nat) : Int)); omega)] at h
  have h2 := lay_page fr s hi b
  rw [← h2]
  cases hL : layP s 2049 (128 * (i : Int)) [b] fr with
  | none => rw [hL] at h; exact ⟨[], h⟩
  | some g => rw [hL] at h; exact ⟨g, h⟩
theorem laid_page {m : Mach} {e : Exe} (hm : MFit 20000 m) (hok : okE e) (hn : (layE e).length ≤ (freeK m.pr m.fr.length).length) {j : Nat} (hj : j < (layE e).length) :
    (spK zSpace (freeK m.pr m.fr.length) (layE e) (layE e).length).getD ((layE e).getD j default).at_.toNat default = ⟨true, ((layE e).getD j default).w, (((freeK m.pr m.fr.length).getD j default : Nat) : Int)⟩ ∧ thereF (frK m.fr (freeK m.pr m.fr.length) (layE e) (layE e).length) (((freeK m.pr m.fr.length).getD j default : Nat) : Int) = true ∧
      (frK m.fr (freeK m.pr m.fr.length) (layE e) (layE e).length).getD ((freeK m.pr m.fr.length).getD j default) [] = ((layE e).getD j default).d := by
  have hL := layE_ok e hok
  obtain ⟨f1, f2⟩ := free_in (m := m) (j := j) (by omega)
  have e1 := frK_at (l := layE e) (freeK_in m.pr m.fr.length).1 (j := j) (by omega) f1 hj hn
  refine ⟨spK_at hL hj (Nat.le_refl _), thereF_iff.2 ⟨by omega, by rw [frK_len]; omega, ?_⟩, e1⟩
  rw [Int.toNat_natCast, e1]
  exact layE_d e _ (getD_mem' hj)
theorem laid_law (x0 : MachD) (x1 : ExeD) (g0 : good machT x0) (g1 : good exeT x1) (l0 : Ty.lite machT x0) (l1 : Ty.lite exeT x1) :
    Spec Try.prog 8 [toV machT x0, toV exeT x1] (.bool true) := by
  have hm := mach_good x0 g0 l0
  have he := exe_good x1 g1 l1
  rw [toV_mach, toV_exe]
  generalize mMach x0 = m at hm
  generalize mExe x1 = e at he
  clear g0 g1 l0 l1 x0 x1
  have hA := palive_spec
  have hW := pwide_spec m hm
  have hG := pgreat_spec e he.ws he.data
  have hnl := nl_encM m
  have hnlE := nl_encExe e
  by_cases hs : seenM m ∧ seenE e
  · obtain ⟨hs1, hs2⟩ := hs
    rw [if_pos hs1] at hW
    rw [decide_eq_true hs2] at hG
    have hf := near_fit hm hs1.1
    have hR := exe_R he hs2
    have hnx : m.next < 4611686018427387904 := by have := hs1.2.2.1; omega
    have hc := hs1.2.1
    have hk := chk_kin hc
    have hml := hs1.1.2.1
    have z : i64R 0 := by unfold i64R; omega
    have hS := sspawn_spec m hf hnx e hR 0 z fdZ fdZ fdZ_R fdZ_R
    have hnlA : nls [encM m, encExe e, VV.int .i64 0, encFd fdZ, encFd fdZ] = true := by
      show (nl (encM m) && (nl (encExe e) && (true && (nl (encFd fdZ) && (nl (encFd fdZ) && true))))) = true
      rw [hnl, hnlE]; rfl
    unfold spawnVV at hS
    simp only [fdZ,encFd] at hS hnlA
    by_cases hE : spawnE m e = 0
    · rw [if_pos hE] at hS
      obtain ⟨k1, k2, k3⟩ := spawnE_ok hE
      have hLy := slay_spec e hR
      unfold layVV at hLy
      rw [if_pos k1] at hLy
      have hfa := spawnM_fit hf (by omega) hnx hR k1 z fdZ_R fdZ_R
      have hca := spawn_chk hc k2 k1 (by have := hs1.2.2.1; omega) k3 (.inl rfl : (0 : Int) = 0 ∨ _)
      obtain ⟨q, hq⟩ : ∃ q, q = bornP m e 0 fdZ fdZ := ⟨_, rfl⟩
      have hqs : q.sp = spK zSpace (freeK m.pr m.fr.length) (layE e) (layE e).length := by rw [hq]; rfl
      have hq1 : q.pid = m.next := by rw [hq]; rfl
      have hqpc : q.pc = e.en := by rw [hq]; rfl
      have hqrs : q.rs = (List.replicate 16 0).set 15 2048 := by rw [hq]; rfl
      have hal : (spawnM m e 0 fdZ fdZ).pr = m.pr ++ [q] := by rw [hq]; rfl
      have haf : (spawnM m e 0 fdZ fdZ).fr = frK m.fr (freeK m.pr m.fr.length) (layE e) (layE e).length := rfl
      have hS : Spec Try.prog 16 [encM m, encExe e, VV.int .i64 0, VV.agg [VV.int .i64 0, VV.int .i64 0, VV.int .i64 0], VV.agg [VV.int .i64 0, VV.int .i64 0, VV.int .i64 0]] (.tup [encM (spawnM m e 0 fdZ fdZ), .int .i64 m.next, .int .i64 0]) := hS
      have hFa := sfree_spec _ hfa
      have hFm := sfree_spec m hf
      unfold freeV at hFa hFm
      have hfl := free_left hqs (layE_ok e k1) k3
      have hafl : (spawnM m e 0 fdZ fdZ).fr.length = m.fr.length := by rw [haf, frK_len]
      rw [hal, hafl] at hFa
      have hpg := fun (j : Nat) (hj : j < (layE e).length) => laid_page hf k1 k3 hj
      rw [← hqs, ← haf] at hpg
      have hat := (layE_ok e k1).at0
      have hall := layR_E e k1
      have hfits := mfit_fits hfa (chk_parts hca).2.2.1
      generalize spawnM m e 0 fdZ fdZ = a at hS hfa hca hal haf hFa hpg hfits
      have hfd := pfind_spec a hfa m.next hf.next
      have hqf : findI a.pr m.next = some m.pr.length := by rw [hal]; exact findI_mid (fun p hp => by have := hk.pid p hp; omega) hq1
      rw [hqf] at hfd
      simp only [placeV] at hfd
      have hqa : a.pr.getD m.pr.length default = q := by rw [hal]; exact getD_mid
      have hql : a.pr.length = m.pr.length + 1 := by rw [hal, List.length_append]; rfl
      have hqR : PrR q := hfa.prR q (by rw [hal]; exact List.mem_append_right _ (List.mem_singleton.2 rfl))
      obtain ⟨hS1, hS2, hS3⟩ := pr3 hqR
      have hsl := hqR.sp
      have hcnt : cntK q.sp 16 = (layE e).length := by
        have h := cntK_spK (F := freeK m.pr m.fr.length) (layE_ok e k1) (Nat.le_refl _)
        rw [← hqs, cntK_z, Nat.zero_add] at h
        exact h
      obtain ⟨Y, hY⟩ : ∃ Y, Y = layE e := ⟨_, rfl⟩
      rw [← hY] at hLy hfl hpg hat hall hcnt
      have hYl := hall.1
      have hfml := freeK_le m.pr m.fr.length
      have hfrl := hf.fr
      generalize freeK m.pr m.fr.length = F at hFm hfl hpg hfml
      generalize freeK (m.pr ++ [q]) m.fr.length = Fa at hFa hfl
      obtain ⟨np, hnp⟩ : ∃ np, np = m.pr.length := ⟨_, rfl⟩
      rw [← hnp] at hqa hql hfd hml
      have hna := nl_encM a
      clear hqs hq haf hal hc hca hs1 hs2 hk
      refine spec_ok Try.func8 rfl rfl (by kernel_rfl) (k := 2) rfl (by decide) ?_
      repeat' (first|(with_reducible first|refine yrl (by constructor) ?_|refine jk (fun M hM=>?_)|(refine hM _ ?_;clear hM M)|refine xb3 (by decide) ?_|refine yqa (by assumption) ?_ ?_|refine yqb (by assumption) ?_ ?_)|((with_reducible refine je ?_)<;>(first|rfl|assumption|(simp only [znl,znU4];(first|done|fail))))|(with_reducible refine jf (by (simp only [↓reduceIte,zlk,Nat.reduceEqDiff,reduceCtorEq]);exact rfl) ?_)|((with_reducible first|refine jg (fun hc=>?_) (fun hc=>?_)|refine jh (fun hc=>?_) (fun hc=>?_))<;>(try simp (disch:=omega) only [zhb] at hc)<;>(try (exfalso;omega))<;>(try subst hc))|(with_reducible refine ji (by omega) ?_)|(simp (config := { maxSteps := 400000 }) only [↓jt,↓reduceIte,zvs,reduceCtorEq,seval,-List.reduceReplicate,tab,hasFd1,Try.results8,jTA])|(simp (disch:=omega) only [ziw]))
      all_goals (try (exfalso; omega))
      refine ok_loop (fun i : Nat => ⟨slots [(2, .ptr 0 []), (3, .ptr 1 []), (5, .ptr 2 []), (8, .int .i64 np), (10, encLays Y), (12, .int .i64 (cntK q.sp i : Nat)), (13, .int .i64 i)], rows [(0, .row machSh (encM m)), (1, .row (.st [.cell, .cell, .cell, .cell]) (encExe e)), (2, .row machSh (encM a))], 3⟩) (fun i => i ≤ 16) (fun i => 16 - i) 0 ?_ (Nat.zero_le _) (fun i hi => ?_)
      · (refine yrn [(0, 0), (1, 1), (2, 2)] false ?_ ?_<;>(repeat' (first|(with_reducible first|exact ya1|exact ya2|exact ya3|refine jx rfl (by first|rfl|assumption|(simp only [znl,znU4];(first|done|fail)))|exact ya5|exact ya7|exact jy|exact jz|refine jA ?_|refine ya9 ?_ ?_ ?_|refine jC rfl (by first|rfl|assumption|(simp only [znl,znU4];(first|done|fail)))|refine MR.agg (MRL.cons ?_ ?_)|refine MR.fn ?_|refine MRL.cons ?_ ?_|exact MRL.nil|refine jE ?_ ?_|exact jF|exact jG|refine yb1 ?_ ?_|refine MB.row ?_|refine jI ?_ ?_|exact ya8|refine jJ rfl (by first|rfl|assumption|(simp only [znl,znU4];(first|done|fail)))|refine yb2 ?_|rfl)|(simp only [znl,znU4];(first|done|fail))|(simp only [↓reduceIte,zlk,Nat.reduceEqDiff,reduceCtorEq])|(with_reducible first|refine jJ ?_ ?_|refine ya5 ?_|refine ju ?_|refine jv ?_|refine jw ?_|refine jx ?_ (by first|rfl|assumption|(simp only [znl,znU4];(first|done|fail)))|refine jC ?_ (by first|rfl|assumption|(simp only [znl,znU4];(first|done|fail)))))))
        all_goals (first | rfl)
      by_cases hlt : i < 16
      · have hci := cntK_le q.sp i
        have hcn : cntK q.sp (i + 1) = cntK q.sp i + if (q.sp.getD i default).is = true then 1 else 0 := rfl
        cases hb : (q.sp.getD i default).is with
        | true =>
          rw [hb, if_pos rfl] at hcn
          repeat' (first|(with_reducible first|refine yrl (by constructor) ?_|refine jk (fun M hM=>?_)|(refine hM _ ?_;clear hM M)|refine xb3 (by decide) ?_|refine yqa (by assumption) ?_ ?_|refine yqb (by assumption) ?_ ?_)|((with_reducible refine je ?_)<;>(first|rfl|assumption|(simp only [znl,znU4];(first|done|fail))))|(with_reducible refine jf (by (simp only [↓reduceIte,zlk,Nat.reduceEqDiff,reduceCtorEq]);exact rfl) ?_)|((with_reducible first|refine jg (fun hc=>?_) (fun hc=>?_)|refine jh (fun hc=>?_) (fun hc=>?_))<;>(try simp (disch:=omega) only [zhb] at hc)<;>(try (exfalso;omega))<;>(try subst hc))|(with_reducible refine ji (by omega) ?_)|(simp (config := { maxSteps := 400000 }) only [↓jt,↓reduceIte,zvs,reduceCtorEq,seval,-List.reduceReplicate,tab,hqa,hS1,hS2,hS3,hsl,hb,encPr,encPte,Try.results8,jTA])|(simp (disch:=omega) only [ziw]))
          all_goals first
            | (exfalso; omega)
            | (refine xl1 (i + 1) ?_ (by show i + 1 ≤ 16; omega) (by show 16 - (i + 1) < 16 - i; omega); (refine yrn [(0, 0), (1, 1), (2, 2)] false ?_ ?_<;>(repeat' (first|(with_reducible first|exact ya1|exact ya2|exact ya3|refine jx rfl (by first|rfl|assumption|(simp only [znl,znU4];(first|done|fail)))|exact ya5|exact ya7|exact jy|exact jz|refine jA ?_|refine ya9 ?_ ?_ ?_|refine jC rfl (by first|rfl|assumption|(simp only [znl,znU4];(first|done|fail)))|refine MR.agg (MRL.cons ?_ ?_)|refine MR.fn ?_|refine MRL.cons ?_ ?_|exact MRL.nil|refine jE ?_ ?_|exact jF|exact jG|refine yb1 ?_ ?_|refine MB.row ?_|refine jI ?_ ?_|exact ya8|refine jJ rfl (by first|rfl|assumption|(simp only [znl,znU4];(first|done|fail)))|refine yb2 ?_|rfl)|(simp only [znl,znU4];(first|done|fail))|(simp only [↓reduceIte,zlk,Nat.reduceEqDiff,reduceCtorEq])|(with_reducible first|refine jJ ?_ ?_|refine ya5 ?_|refine ju ?_|refine jv ?_|refine jw ?_|refine jx ?_ (by first|rfl|assumption|(simp only [znl,znU4];(first|done|fail)))|refine jC ?_ (by first|rfl|assumption|(simp only [znl,znU4];(first|done|fail))))))); all_goals (first | rfl | (rw [hcn]; done) | (rw [hcn]; rfl)); done)
        | false =>
          rw [hb, if_neg (by decide), Nat.add_zero] at hcn
          repeat' (first|(with_reducible first|refine yrl (by constructor) ?_|refine jk (fun M hM=>?_)|(refine hM _ ?_;clear hM M)|refine xb3 (by decide) ?_|refine yqa (by assumption) ?_ ?_|refine yqb (by assumption) ?_ ?_)|((with_reducible refine je ?_)<;>(first|rfl|assumption|(simp only [znl,znU4];(first|done|fail))))|(with_reducible refine jf (by (simp only [↓reduceIte,zlk,Nat.reduceEqDiff,reduceCtorEq]);exact rfl) ?_)|((with_reducible first|refine jg (fun hc=>?_) (fun hc=>?_)|refine jh (fun hc=>?_) (fun hc=>?_))<;>(try simp (disch:=omega) only [zhb] at hc)<;>(try (exfalso;omega))<;>(try subst hc))|(with_reducible refine ji (by omega) ?_)|(simp (config := { maxSteps := 400000 }) only [↓jt,↓reduceIte,zvs,reduceCtorEq,seval,-List.reduceReplicate,tab,hqa,hS1,hS2,hS3,hsl,hb,encPr,encPte,Try.results8,jTA])|(simp (disch:=omega) only [ziw]))
          all_goals first
            | (exfalso; omega)
            | (refine xl1 (i + 1) ?_ (by show i + 1 ≤ 16; omega) (by show 16 - (i + 1) < 16 - i; omega); (refine yrn [(0, 0), (1, 1), (2, 2)] false ?_ ?_<;>(repeat' (first|(with_reducible first|exact ya1|exact ya2|exact ya3|refine jx rfl (by first|rfl|assumption|(simp only [znl,znU4];(first|done|fail)))|exact ya5|exact ya7|exact jy|exact jz|refine jA ?_|refine ya9 ?_ ?_ ?_|refine jC rfl (by first|rfl|assumption|(simp only [znl,znU4];(first|done|fail)))|refine MR.agg (MRL.cons ?_ ?_)|refine MR.fn ?_|refine MRL.cons ?_ ?_|exact MRL.nil|refine jE ?_ ?_|exact jF|exact jG|refine yb1 ?_ ?_|refine MB.row ?_|refine jI ?_ ?_|exact ya8|refine jJ rfl (by first|rfl|assumption|(simp only [znl,znU4];(first|done|fail)))|refine yb2 ?_|rfl)|(simp only [znl,znU4];(first|done|fail))|(simp only [↓reduceIte,zlk,Nat.reduceEqDiff,reduceCtorEq])|(with_reducible first|refine jJ ?_ ?_|refine ya5 ?_|refine ju ?_|refine jv ?_|refine jw ?_|refine jx ?_ (by first|rfl|assumption|(simp only [znl,znU4];(first|done|fail)))|refine jC ?_ (by first|rfl|assumption|(simp only [znl,znU4];(first|done|fail))))))); all_goals (first | rfl | (rw [hcn]; done)); done)
      obtain rfl : i = 16 := by omega
      rw [hcnt]
      repeat' (first|(with_reducible first|refine yrl (by constructor) ?_|refine jk (fun M hM=>?_)|(refine hM _ ?_;clear hM M)|refine xb3 (by decide) ?_|refine yqa (by assumption) ?_ ?_|refine yqb (by assumption) ?_ ?_)|((with_reducible refine je ?_)<;>(first|rfl|assumption|(simp only [znl,znU4];(first|done|fail))))|(with_reducible refine jf (by (simp only [↓reduceIte,zlk,Nat.reduceEqDiff,reduceCtorEq]);exact rfl) ?_)|((with_reducible first|refine jg (fun hc=>?_) (fun hc=>?_)|refine jh (fun hc=>?_) (fun hc=>?_))<;>(try simp (disch:=omega) only [zhb] at hc)<;>(try (exfalso;omega))<;>(try subst hc))|(with_reducible refine ji (by omega) ?_)|(simp (config := { maxSteps := 400000 }) only [↓jt,↓reduceIte,zvs,reduceCtorEq,seval,-List.reduceReplicate,tab,encNats,Try.results8,jTA])|(simp (disch:=omega) only [ziw]))
      all_goals (try (exfalso; omega))
      refine ok_drawC 15 (by kernel_rfl) (by decide +kernel) (by intro m hm; simp only [upd_ap,rows_cons,rows_nil]; (repeat (first | rfl | rw [if_neg (by omega)]))) (fun M hM => ?_); simp only [List.take_succ_cons,List.take_zero,List.drop_succ_cons,List.drop_zero]
      repeat' (first|(with_reducible first|refine yrl (by constructor) ?_|refine jk (fun M hM=>?_)|(refine hM _ ?_;clear hM M)|refine xb3 (by decide) ?_|refine yqa (by assumption) ?_ ?_|refine yqb (by assumption) ?_ ?_)|((with_reducible refine je ?_)<;>(first|rfl|assumption|(simp only [znl,znU4];(first|done|fail))))|(with_reducible refine jf (by (simp only [↓reduceIte,zlk,Nat.reduceEqDiff,reduceCtorEq]);exact rfl) ?_)|((with_reducible first|refine jg (fun hc=>?_) (fun hc=>?_)|refine jh (fun hc=>?_) (fun hc=>?_))<;>(try simp (disch:=omega) only [zhb] at hc)<;>(try (exfalso;omega))<;>(try subst hc))|(with_reducible refine ji (by omega) ?_)|(simp (config := { maxSteps := 400000 }) only [↓jt,↓reduceIte,zvs,reduceCtorEq,seval,-List.reduceReplicate,tab,encNats,Try.results8,jTA])|(simp (disch:=omega) only [ziw]))
      all_goals (try (exfalso; omega))
      refine ok_loop (fun i : Nat => ⟨slots [(3, .ptr 0 []), (5, .ptr 1 []), (8, .int .i64 np), (10, encLays Y), (14, .int .i64 i)], rows [(0, .row (.st [.cell, .cell, .cell, .cell]) (encExe e)), (1, .row machSh (encM a))], 2⟩) (fun i => i ≤ Y.length) (fun i => Y.length - i) 0 ?_ (Nat.zero_le _) (fun i hi2 => ?_)
      · (refine yrn [(0, 1), (1, 2)] false ?_ ?_<;>(repeat' (first|(with_reducible first|exact ya1|exact ya2|exact ya3|refine jx rfl (by first|rfl|assumption|(simp only [znl,znU4];(first|done|fail)))|exact ya5|exact ya7|exact jy|exact jz|refine jA ?_|refine ya9 ?_ ?_ ?_|refine jC rfl (by first|rfl|assumption|(simp only [znl,znU4];(first|done|fail)))|refine MR.agg (MRL.cons ?_ ?_)|refine MR.fn ?_|refine MRL.cons ?_ ?_|exact MRL.nil|refine jE ?_ ?_|exact jF|exact jG|refine yb1 ?_ ?_|refine MB.row ?_|refine jI ?_ ?_|exact ya8|refine jJ rfl (by first|rfl|assumption|(simp only [znl,znU4];(first|done|fail)))|refine yb2 ?_|rfl)|(simp only [znl,znU4];(first|done|fail))|(simp only [↓reduceIte,zlk,Nat.reduceEqDiff,reduceCtorEq])|(with_reducible first|refine jJ ?_ ?_|refine ya5 ?_|refine ju ?_|refine jv ?_|refine jw ?_|refine jx ?_ (by first|rfl|assumption|(simp only [znl,znU4];(first|done|fail)))|refine jC ?_ (by first|rfl|assumption|(simp only [znl,znU4];(first|done|fail)))))))
        all_goals (first | rfl)
      by_cases hlt2 : i < Y.length
      · obtain ⟨p1, p2, p3⟩ := hpg i hlt2
        obtain ⟨a1, a2⟩ := hall.2 _ (getD_mem' hlt2)
        obtain ⟨t, ht⟩ : ∃ t : Nat, t = (Y.getD i default).at_.toNat := ⟨_, rfl⟩
        rw [← ht] at p1
        have ht2 : (Y.getD i default).at_ = (t : Int) := by omega
        have hcp := copyPage_spec a.fr hfits q.sp hsl (i := t) (by omega)
        obtain ⟨G, hlp⟩ := PLayb_spec a.fr hfits q.sp hsl (i := t) (by omega) 120
        unfold pagU at hcp
        rw [p1] at hcp hlp
        dsimp only at hcp hlp
        rw [if_pos ⟨rfl, p2⟩, Int.toNat_natCast, p3] at hcp
        simp only [strV] at hcp
        have hdw : decide (true = true ∧ (Y.getD i default).w = true ∧ thereF a.fr ((F.getD i default : Nat) : Int) = true) = (Y.getD i default).w := by
          simp only [p2,and_true,true_and]
          exact Bool.decide_eq_true
        rw [hdw, ← ht2] at hlp
        rw [← ht2] at hcp
        have hbs : ∀ a : List UInt8, (a != a) = false := fun a => bne_self_eq_false a
        have hL := hasLay (Y.getD i default)
        simp only [encLay] at hL
        have hbb : ((Y.getD i default).w != (Y.getD i default).w) = false := by cases (Y.getD i default).w <;> rfl
        repeat' (first|(with_reducible first|refine yrl (by constructor) ?_|refine jk (fun M hM=>?_)|(refine hM _ ?_;clear hM M)|refine xb3 (by decide) ?_|refine yqa (by assumption) ?_ ?_|refine yqb (by assumption) ?_ ?_)|((with_reducible refine je ?_)<;>(first|rfl|assumption|(simp only [znl,znU4];(first|done|fail))))|(with_reducible refine jf (by (simp only [↓reduceIte,zlk,Nat.reduceEqDiff,reduceCtorEq]);exact rfl) ?_)|((with_reducible first|refine jg (fun hc=>?_) (fun hc=>?_)|refine jh (fun hc=>?_) (fun hc=>?_))<;>(try simp (disch:=omega) only [zhb] at hc)<;>(try (exfalso;omega))<;>(try subst hc))|(with_reducible refine ji (by omega) ?_)|(simp (config := { maxSteps := 400000 }) only [↓jt,↓reduceIte,zvs,reduceCtorEq,seval,-List.reduceReplicate,tab,hqa,hS1,hS2,hS3,hL,encPr,encLay,Try.results8,jTA])|(simp (disch:=omega) only [ziw]))
        all_goals (try (exfalso; omega))
        refine ok_drawC 21 (by kernel_rfl) (by decide +kernel) (by intro m hm; simp only [upd_ap,rows_cons,rows_nil]; (repeat (first | rfl | rw [if_neg (by omega)]))) (fun M hM => ?_); simp only [List.take_succ_cons,List.take_zero,List.drop_succ_cons,List.drop_zero]
        repeat' (first|(with_reducible first|refine yrl (by constructor) ?_|refine jk (fun M hM=>?_)|(refine hM _ ?_;clear hM M)|refine xb3 (by decide) ?_|refine yqa (by assumption) ?_ ?_|refine yqb (by assumption) ?_ ?_)|((with_reducible refine je ?_)<;>(first|rfl|assumption|(simp only [znl,znU4];(first|done|fail))))|(with_reducible refine jf (by (simp only [↓reduceIte,zlk,Nat.reduceEqDiff,reduceCtorEq]);exact rfl) ?_)|((with_reducible first|refine jg (fun hc=>?_) (fun hc=>?_)|refine jh (fun hc=>?_) (fun hc=>?_))<;>(try simp (disch:=omega) only [zhb] at hc)<;>(try (exfalso;omega))<;>(try subst hc))|(with_reducible refine ji (by omega) ?_)|(simp (config := { maxSteps := 400000 }) only [↓jt,↓reduceIte,zvs,reduceCtorEq,seval,-List.reduceReplicate,tab,hqa,hS1,hS2,hS3,hL,encPr,encLay,Try.results8,jTA])|(simp (disch:=omega) only [ziw]))
        all_goals (try (exfalso; omega))
        refine ok_drawC 21 (by kernel_rfl) (by decide +kernel) (by intro m hm; simp only [upd_ap,rows_cons,rows_nil]; (repeat (first | rfl | rw [if_neg (by omega)]))) (fun M hM => ?_); simp only [List.take_succ_cons,List.take_zero,List.drop_succ_cons,List.drop_zero]
        repeat' (first|(with_reducible first|refine yrl (by constructor) ?_|refine jk (fun M hM=>?_)|(refine hM _ ?_;clear hM M)|refine xb3 (by decide) ?_|refine yqa (by assumption) ?_ ?_|refine yqb (by assumption) ?_ ?_)|((with_reducible refine je ?_)<;>(first|rfl|assumption|(simp only [znl,znU4];(first|done|fail))))|(with_reducible refine jf (by (simp only [↓reduceIte,zlk,Nat.reduceEqDiff,reduceCtorEq]);exact rfl) ?_)|((with_reducible first|refine jg (fun hc=>?_) (fun hc=>?_)|refine jh (fun hc=>?_) (fun hc=>?_))<;>(try simp (disch:=omega) only [zhb] at hc)<;>(try (exfalso;omega))<;>(try subst hc))|(with_reducible refine ji (by omega) ?_)|(simp (config := { maxSteps := 400000 }) only [↓jt,↓reduceIte,zvs,reduceCtorEq,seval,-List.reduceReplicate,tab,hqa,hS1,hS2,hS3,hL,hbs,hbb,encPr,encLay,Try.results8,jTA])|(simp (disch:=omega) only [ziw]))
        all_goals first
          | (exfalso; omega)
          | (refine xl1 (i + 1) ?_ (by show i + 1 ≤ Y.length; omega) (by show Y.length - (i + 1) < Y.length - i; omega); (refine yrn [(0, 0), (1, 1)] false ?_ ?_<;>(repeat' (first|(with_reducible first|exact ya1|exact ya2|exact ya3|refine jx rfl (by first|rfl|assumption|(simp only [znl,znU4];(first|done|fail)))|exact ya5|exact ya7|exact jy|exact jz|refine jA ?_|refine ya9 ?_ ?_ ?_|refine jC rfl (by first|rfl|assumption|(simp only [znl,znU4];(first|done|fail)))|refine MR.agg (MRL.cons ?_ ?_)|refine MR.fn ?_|refine MRL.cons ?_ ?_|exact MRL.nil|refine jE ?_ ?_|exact jF|exact jG|refine yb1 ?_ ?_|refine MB.row ?_|refine jI ?_ ?_|exact ya8|refine jJ rfl (by first|rfl|assumption|(simp only [znl,znU4];(first|done|fail)))|refine yb2 ?_|rfl)|(simp only [znl,znU4];(first|done|fail))|(simp only [↓reduceIte,zlk,Nat.reduceEqDiff,reduceCtorEq])|(with_reducible first|refine jJ ?_ ?_|refine ya5 ?_|refine ju ?_|refine jv ?_|refine jw ?_|refine jx ?_ (by first|rfl|assumption|(simp only [znl,znU4];(first|done|fail)))|refine jC ?_ (by first|rfl|assumption|(simp only [znl,znU4];(first|done|fail))))))); all_goals (first | rfl); done)
      · obtain rfl : i = Y.length := by omega
        have hr15 : (q.rs.map (VV.int .u32))[15]? = some (.int .u32 2048) := by rw [hqrs]; rfl
        repeat' (first|(with_reducible first|refine yrl (by constructor) ?_|refine jk (fun M hM=>?_)|(refine hM _ ?_;clear hM M)|refine xb3 (by decide) ?_|refine yqa (by assumption) ?_ ?_|refine yqb (by assumption) ?_ ?_)|((with_reducible refine je ?_)<;>(first|rfl|assumption|(simp only [znl,znU4];(first|done|fail))))|(with_reducible refine jf (by (simp only [↓reduceIte,zlk,Nat.reduceEqDiff,reduceCtorEq]);exact rfl) ?_)|((with_reducible first|refine jg (fun hc=>?_) (fun hc=>?_)|refine jh (fun hc=>?_) (fun hc=>?_))<;>(try simp (disch:=omega) only [zhb] at hc)<;>(try (exfalso;omega))<;>(try subst hc))|(with_reducible refine ji (by omega) ?_)|(simp (config := { maxSteps := 400000 }) only [↓jt,↓reduceIte,zvs,reduceCtorEq,seval,-List.reduceReplicate,tab,hqa,hS1,hS2,hS3,hqpc,hr15,encPr,Try.results8,jTA])|(simp (disch:=omega) only [ziw]))
        all_goals (try (exfalso; omega))
        refine ok_drawC 21 (by kernel_rfl) (by decide +kernel) (by intro m hm; simp only [upd_ap,rows_cons,rows_nil]; (repeat (first | rfl | rw [if_neg (by omega)]))) (fun M hM => ?_); simp only [List.take_succ_cons,List.take_zero,List.drop_succ_cons,List.drop_zero]
        repeat' (first|(with_reducible first|refine yrl (by constructor) ?_|refine jk (fun M hM=>?_)|(refine hM _ ?_;clear hM M)|refine xb3 (by decide) ?_|refine yqa (by assumption) ?_ ?_|refine yqb (by assumption) ?_ ?_)|((with_reducible refine je ?_)<;>(first|rfl|assumption|(simp only [znl,znU4];(first|done|fail))))|(with_reducible refine jf (by (simp only [↓reduceIte,zlk,Nat.reduceEqDiff,reduceCtorEq]);exact rfl) ?_)|((with_reducible first|refine jg (fun hc=>?_) (fun hc=>?_)|refine jh (fun hc=>?_) (fun hc=>?_))<;>(try simp (disch:=omega) only [zhb] at hc)<;>(try (exfalso;omega))<;>(try subst hc))|(with_reducible refine ji (by omega) ?_)|(simp (config := { maxSteps := 400000 }) only [↓jt,↓reduceIte,zvs,reduceCtorEq,seval,-List.reduceReplicate,tab,hqa,hS1,hS2,hS3,hqpc,hr15,encPr,Try.results8,jTA])|(simp (disch:=omega) only [ziw]))
        all_goals first
          | (exfalso; omega)
          | (simp only [zrds]; done)
    · rw [if_neg hE] at hS
      generalize spawnE m e = v at hS hE
      refine spec_ok Try.func8 rfl rfl (by kernel_rfl) (k := 2) rfl (by decide) ?_
      repeat' (first|(with_reducible first|refine yrl (by constructor) ?_|refine jk (fun M hM=>?_)|(refine hM _ ?_;clear hM M)|refine xb3 (by decide) ?_|refine yqa (by assumption) ?_ ?_|refine yqb (by assumption) ?_ ?_)|((with_reducible refine je ?_)<;>(first|rfl|assumption|(simp only [znl,znU4];(first|done|fail))))|(with_reducible refine jf (by (simp only [↓reduceIte,zlk,Nat.reduceEqDiff,reduceCtorEq]);exact rfl) ?_)|((with_reducible first|refine jg (fun hc=>?_) (fun hc=>?_)|refine jh (fun hc=>?_) (fun hc=>?_))<;>(try simp (disch:=omega) only [zhb] at hc)<;>(try (exfalso;omega))<;>(try subst hc))|(with_reducible refine ji (by omega) ?_)|(simp (config := { maxSteps := 400000 }) only [↓jt,↓reduceIte,zvs,reduceCtorEq,seval,-List.reduceReplicate,tab,hasFd1,encM,nilM,List.map_nil,Try.results8,jTA])|(simp (disch:=omega) only [ziw]))
      all_goals first
        | (exfalso; omega)
        | (simp only [zrds]; done)
  · obtain ⟨w, hw⟩ : ∃ w : Int, w = if seenM m then 0 else 1 := ⟨_, rfl⟩
    obtain ⟨b, hb⟩ : ∃ b : Bool, b = !decide (seenE e) := ⟨_, rfl⟩
    have hor : w = 1 ∨ (w = 0 ∧ b = true) := by
      by_cases h1 : seenM m
      · have h2 : ¬seenE e := fun h => hs ⟨h1, h⟩
        exact .inr ⟨by rw [hw, if_pos h1], by rw [hb, decide_eq_false h2]; rfl⟩
      · exact .inl (by rw [hw, if_neg h1])
    rw [← hw] at hW
    rw [← hb] at hG
    clear hw hb
    rcases hor with rfl | ⟨rfl, rfl⟩ <;> (
      refine spec_ok Try.func8 rfl rfl (by kernel_rfl) (k := 2) rfl (by decide) ?_
      repeat' (first|(with_reducible first|refine yrl (by constructor) ?_|refine jk (fun M hM=>?_)|(refine hM _ ?_;clear hM M)|refine xb3 (by decide) ?_|refine yqa (by assumption) ?_ ?_|refine yqb (by assumption) ?_ ?_)|((with_reducible refine je ?_)<;>(first|rfl|assumption|(simp only [znl,znU4];(first|done|fail))))|(with_reducible refine jf (by (simp only [↓reduceIte,zlk,Nat.reduceEqDiff,reduceCtorEq]);exact rfl) ?_)|((with_reducible first|refine jg (fun hc=>?_) (fun hc=>?_)|refine jh (fun hc=>?_) (fun hc=>?_))<;>(try simp (disch:=omega) only [zhb] at hc)<;>(try (exfalso;omega))<;>(try subst hc))|(with_reducible refine ji (by omega) ?_)|(simp (config := { maxSteps := 400000 }) only [↓jt,↓reduceIte,zvs,reduceCtorEq,seval,-List.reduceReplicate,tab,hasFd1,Try.results8,jTA])|(simp (disch:=omega) only [ziw]))
      all_goals first
        | (exfalso; omega)
        | (simp only [zrds]; done)
       )
end Go.Proofs.Ytpdhdkpebbfnnaa.V
end
