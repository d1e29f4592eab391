/-
  Parts of the proof of ParityPoly: F2, F3, S1, F4, VregX, VregY, VregS, VregT, A2, A3, A4, A5, A6.
  Conditions: none.
-/
import Derived.Test.YtoibnghkcdopeaaWParityPoly04
import Derived.Test.YtoibnghkcdopeaaWParityPoly03
set_option linter.unusedVariables false
set_option linter.unusedSimpArgs false
set_option linter.unusedSectionVars false
set_option linter.defProp false
section
namespace Go.Proofs.Ytoibnghkcdopeaa.V
open Go Go.Proofs.Ytoibnghkcdopeaa
set_option maxRecDepth 100000
set_option maxHeartbeats 1000000
theorem distinct_spec (l : List UInt8) (hl : l.length < 2 ^ 36) : Spec Try.prog 22 [encBs l] (.bool (dis l)) := by
  obtain ⟨R, hR⟩ : ∃ R, R = dis l := ⟨_, rfl⟩
  rw [← hR]
  refine spec_ok Try.func22 rfl rfl (by kernel_rfl) (k := 1) rfl (by decide) ?_
  repeat' (first|(with_reducible first|refine yrl (by constructor) ?_|refine jk (fun M hM=>?_)|(refine hM _ ?_;clear hM M)|refine xb3 (by decide) ?_|refine yqa (by assumption) ?_ ?_|refine yqb (by assumption) ?_ ?_)|((with_reducible refine je ?_)<;>(first|rfl|assumption|(simp only [znl,nls_u,nls_met];(first|done|fail))))|(with_reducible refine jf (by (simp only [↓reduceIte,zlk,Nat.reduceEqDiff,reduceCtorEq]);exact rfl) ?_)|((with_reducible first|refine jg (fun hc=>?_) (fun hc=>?_)|refine jh (fun hc=>?_) (fun hc=>?_))<;>(try simp (disch:=omega) only [zhb] at hc)<;>(try (exfalso;omega))<;>(try subst hc))|(with_reducible refine ji (by omega) ?_)|(simp (config := { maxSteps := 400000 }) only [↓jt,↓reduceIte,zvs,reduceCtorEq,Nat.reduceEqDiff,Nat.reduceAdd,Nat.reduceLeDiff,Nat.reduceMul,Int.reduceBNe,Int.reduceBEq,Int.reduceEq,Int.reduceNe,Int.reduceLT,Int.reduceLE,Int.reduceGT,Int.reduceGE,Int.reduceNeg,Int.reduceToNat,Nat.reduceLT,Nat.reduceSub,tab,Try.results22,jTA])|(simp (disch:=omega) only [ziw]))
  refine ok_loop (fun k : Nat => ⟨slots [(2, .bool false), (3, .ptr 0 []), (6, encBs l), (7, .int .i64 l.length), (8, .int .i64 k)], rows [(0, .row (.arr 256 .cell) (.agg (met l k)))], 1⟩) (fun k => k ≤ l.length ∧ (l.take k).Nodup) (fun k => l.length - k) 0 ?_ ⟨Nat.zero_le _, by simp⟩ (fun k hk => ?_)
  · have hm0 : met l 0 = List.replicate 256 (.bool false) := rfl
    rw [hm0]
    (refine yrn [(0, 0)] false ?_ ?_<;>(repeat' (first|(with_reducible first|exact ya1|exact ya2|exact ya3|refine jx rfl (by first|rfl|assumption|(simp only [znl,nls_u,nls_met];(first|done|fail)))|exact ya5|exact ya7|exact jy|exact jz|refine jA ?_|refine ya9 ?_ ?_ ?_|refine jC rfl (by first|rfl|assumption|(simp only [znl,nls_u,nls_met];(first|done|fail)))|refine MR.agg (MRL.cons ?_ ?_)|refine MR.fn ?_|refine MRL.cons ?_ ?_|exact MRL.nil|refine jE ?_ ?_|exact jF|exact jG|refine yb1 ?_ ?_|refine MB.row ?_|refine jI ?_ ?_|exact ya8|refine jJ rfl (by first|rfl|assumption|(simp only [znl,nls_u,nls_met];(first|done|fail)))|refine yb2 ?_|rfl)|(simp only [znl,nls_u,nls_met];(first|done|fail))|(simp only [↓reduceIte,zlk,Nat.reduceEqDiff,reduceCtorEq])|(with_reducible first|refine jJ ?_ ?_|refine ya5 ?_|refine ju ?_|refine jv ?_|refine jw ?_|refine jx ?_ (by first|rfl|assumption|(simp only [znl,nls_u,nls_met];(first|done|fail)))|refine jC ?_ (by first|rfl|assumption|(simp only [znl,nls_u,nls_met];(first|done|fail)))))))
  obtain ⟨hk, hn⟩ := hk
  by_cases hlt : k < l.length
  · have hg := get_u l k hlt
    have hm := met_at l k hk (Gf.nth l k)
    have e1 : met l (k + 1) = (met l k).set (Gf.nth l k).toNat (.bool true) := rfl
    have hn2 := nodup_take_succ l k hlt hn
    have hno := dis_no l k hlt hn
    have hb0 := B8_lo (Gf.nth l k)
    have hb1 := B8_hi (Gf.nth l k)
    have eb : (B8 (Gf.nth l k)).toNat = (Gf.nth l k).toNat := rfl
    generalize Gf.nth l k = c at *
    generalize metB l k c = b at *
    cases b with
    | true =>
      rw [hno rfl] at hR
      rw [hR]
      repeat' (first|(with_reducible first|refine yrl (by constructor) ?_|refine jk (fun M hM=>?_)|(refine hM _ ?_;clear hM M)|refine xb3 (by decide) ?_|refine yqa (by assumption) ?_ ?_|refine yqb (by assumption) ?_ ?_)|((with_reducible refine je ?_)<;>(first|rfl|assumption|(simp only [znl,nls_u,nls_met];(first|done|fail))))|(with_reducible refine jf (by (simp only [↓reduceIte,zlk,Nat.reduceEqDiff,reduceCtorEq]);exact rfl) ?_)|((with_reducible first|refine jg (fun hc=>?_) (fun hc=>?_)|refine jh (fun hc=>?_) (fun hc=>?_))<;>(try simp (disch:=omega) only [zhb] at hc)<;>(try (exfalso;omega))<;>(try subst hc))|(with_reducible refine ji (by omega) ?_)|(simp (config := { maxSteps := 400000 }) only [↓jt,↓reduceIte,zvs,reduceCtorEq,Nat.reduceEqDiff,Nat.reduceAdd,Nat.reduceLeDiff,Nat.reduceMul,Int.reduceBNe,Int.reduceBEq,Int.reduceEq,Int.reduceNe,Int.reduceLT,Int.reduceLE,Int.reduceGT,Int.reduceGE,Int.reduceNeg,Int.reduceToNat,Nat.reduceLT,Nat.reduceSub,tab,hg,hm,eb,Try.results22,jTA])|(simp (disch:=omega) only [ziw]))
      simp only [zrds]
    | false =>
      repeat' (first|(with_reducible first|refine yrl (by constructor) ?_|refine jk (fun M hM=>?_)|(refine hM _ ?_;clear hM M)|refine xb3 (by decide) ?_|refine yqa (by assumption) ?_ ?_|refine yqb (by assumption) ?_ ?_)|((with_reducible refine je ?_)<;>(first|rfl|assumption|(simp only [znl,nls_u,nls_met];(first|done|fail))))|(with_reducible refine jf (by (simp only [↓reduceIte,zlk,Nat.reduceEqDiff,reduceCtorEq]);exact rfl) ?_)|((with_reducible first|refine jg (fun hc=>?_) (fun hc=>?_)|refine jh (fun hc=>?_) (fun hc=>?_))<;>(try simp (disch:=omega) only [zhb] at hc)<;>(try (exfalso;omega))<;>(try subst hc))|(with_reducible refine ji (by omega) ?_)|(simp (config := { maxSteps := 400000 }) only [↓jt,↓reduceIte,zvs,reduceCtorEq,Nat.reduceEqDiff,Nat.reduceAdd,Nat.reduceLeDiff,Nat.reduceMul,Int.reduceBNe,Int.reduceBEq,Int.reduceEq,Int.reduceNe,Int.reduceLT,Int.reduceLE,Int.reduceGT,Int.reduceGE,Int.reduceNeg,Int.reduceToNat,Nat.reduceLT,Nat.reduceSub,tab,hg,hm,eb,Try.results22,jTA])|(simp (disch:=omega) only [ziw]))
      refine xl1 (k + 1) ?_ ⟨by omega, hn2.2 rfl⟩ (by show l.length - (k + 1) < l.length - k; omega)
      (refine yrn [(0, 0)] false ?_ ?_<;>(repeat' (first|(with_reducible first|exact ya1|exact ya2|exact ya3|refine jx rfl (by first|rfl|assumption|(simp only [znl,nls_u,nls_met];(first|done|fail)))|exact ya5|exact ya7|exact jy|exact jz|refine jA ?_|refine ya9 ?_ ?_ ?_|refine jC rfl (by first|rfl|assumption|(simp only [znl,nls_u,nls_met];(first|done|fail)))|refine MR.agg (MRL.cons ?_ ?_)|refine MR.fn ?_|refine MRL.cons ?_ ?_|exact MRL.nil|refine jE ?_ ?_|exact jF|exact jG|refine yb1 ?_ ?_|refine MB.row ?_|refine jI ?_ ?_|exact ya8|refine jJ rfl (by first|rfl|assumption|(simp only [znl,nls_u,nls_met];(first|done|fail)))|refine yb2 ?_|rfl)|(simp only [znl,nls_u,nls_met];(first|done|fail))|(simp only [↓reduceIte,zlk,Nat.reduceEqDiff,reduceCtorEq])|(with_reducible first|refine jJ ?_ ?_|refine ya5 ?_|refine ju ?_|refine jv ?_|refine jw ?_|refine jx ?_ (by first|rfl|assumption|(simp only [znl,nls_u,nls_met];(first|done|fail)))|refine jC ?_ (by first|rfl|assumption|(simp only [znl,nls_u,nls_met];(first|done|fail)))))))
      all_goals (first | rfl | exact nls_met _ _ | exact e1 | (rw [e1]; done))
  · have hy := dis_yes l k (by omega) hn
    rw [hy] at hR
    rw [hR]
    repeat' (first|(with_reducible first|refine yrl (by constructor) ?_|refine jk (fun M hM=>?_)|(refine hM _ ?_;clear hM M)|refine xb3 (by decide) ?_|refine yqa (by assumption) ?_ ?_|refine yqb (by assumption) ?_ ?_)|((with_reducible refine je ?_)<;>(first|rfl|assumption|(simp only [znl,nls_u,nls_met];(first|done|fail))))|(with_reducible refine jf (by (simp only [↓reduceIte,zlk,Nat.reduceEqDiff,reduceCtorEq]);exact rfl) ?_)|((with_reducible first|refine jg (fun hc=>?_) (fun hc=>?_)|refine jh (fun hc=>?_) (fun hc=>?_))<;>(try simp (disch:=omega) only [zhb] at hc)<;>(try (exfalso;omega))<;>(try subst hc))|(with_reducible refine ji (by omega) ?_)|(simp (config := { maxSteps := 400000 }) only [↓jt,↓reduceIte,zvs,reduceCtorEq,Nat.reduceEqDiff,Nat.reduceAdd,Nat.reduceLeDiff,Nat.reduceMul,Int.reduceBNe,Int.reduceBEq,Int.reduceEq,Int.reduceNe,Int.reduceLT,Int.reduceLE,Int.reduceGT,Int.reduceGE,Int.reduceNeg,Int.reduceToNat,Nat.reduceLT,Nat.reduceSub,tab,Try.results22,jTA])|(simp (disch:=omega) only [ziw]))
    simp only [zrds]
theorem at_spec (xs ys : List UInt8) (hx : xs.length < 2 ^ 36) (hy : ys.length < 2 ^ 36) (x : UInt8) : Spec Try.prog 15 [encBs xs, encBs ys, .int .u8 (B8 x)] (.tup [.int .u8 (B8 (atVal xs ys x)), .bool (atOk xs ys)]) := by
  have hD := distinct_spec xs hx
  by_cases hok : atOk xs ys = true
  · have hv : atVal xs ys x = Gf.lag xs ys x := by rw [atVal, if_pos hok]
    rw [hv, hok]
    simp only [atOk,Bool.and_eq_true,decide_eq_true_eq] at hok
    obtain ⟨hlen, hd⟩ := hok
    rw [hd] at hD
    refine spec_ok Try.func15 rfl rfl (by kernel_rfl) (k := 3) rfl (by decide) ?_
    repeat' (first|(with_reducible first|refine yrl (by constructor) ?_|refine jk (fun M hM=>?_)|(refine hM _ ?_;clear hM M)|refine xb3 (by decide) ?_|refine yqa (by assumption) ?_ ?_|refine yqb (by assumption) ?_ ?_)|((with_reducible refine je ?_)<;>(first|rfl|assumption|(simp only [znl,nls_u,nls_met];(first|done|fail))))|(with_reducible refine jf (by (simp only [↓reduceIte,zlk,Nat.reduceEqDiff,reduceCtorEq]);exact rfl) ?_)|((with_reducible first|refine jg (fun hc=>?_) (fun hc=>?_)|refine jh (fun hc=>?_) (fun hc=>?_))<;>(try simp (disch:=omega) only [zhb] at hc)<;>(try (exfalso;omega))<;>(try subst hc))|(with_reducible refine ji (by omega) ?_)|(simp (config := { maxSteps := 400000 }) only [↓jt,↓reduceIte,zvs,reduceCtorEq,Nat.reduceEqDiff,Nat.reduceAdd,Nat.reduceLeDiff,Nat.reduceMul,Int.reduceBNe,Int.reduceBEq,Int.reduceEq,Int.reduceNe,Int.reduceLT,Int.reduceLE,Int.reduceGT,Int.reduceGE,Int.reduceNeg,Int.reduceToNat,Nat.reduceLT,Nat.reduceSub,tab,hlen,Try.results15,jTA])|(simp (disch:=omega) only [ziw]))
    refine ok_loop (fun i : Nat => ⟨slots [(0, encBs xs), (1, encBs ys), (2, .int .u8 (B8 x)), (6, .int .u8 0), (7, .bool false), (8, .int .u8 (B8 (Gf.atTo xs ys x i))), (25, encBs xs), (26, .int .i64 xs.length), (27, .int .i64 i)], rows [], 0⟩) (fun i => i ≤ xs.length) (fun i => xs.length - i) 0 ?_ (Nat.zero_le _) (fun i hi => ?_)
    · (refine yrn [] false ?_ ?_<;>(repeat' (first|(with_reducible first|exact ya1|exact ya2|exact ya3|refine jx rfl (by first|rfl|assumption|(simp only [znl,nls_u,nls_met];(first|done|fail)))|exact ya5|exact ya7|exact jy|exact jz|refine jA ?_|refine ya9 ?_ ?_ ?_|refine jC rfl (by first|rfl|assumption|(simp only [znl,nls_u,nls_met];(first|done|fail)))|refine MR.agg (MRL.cons ?_ ?_)|refine MR.fn ?_|refine MRL.cons ?_ ?_|exact MRL.nil|refine jE ?_ ?_|exact jF|exact jG|refine yb1 ?_ ?_|refine MB.row ?_|refine jI ?_ ?_|exact ya8|refine jJ rfl (by first|rfl|assumption|(simp only [znl,nls_u,nls_met];(first|done|fail)))|refine yb2 ?_|rfl)|(simp only [znl,nls_u,nls_met];(first|done|fail))|(simp only [↓reduceIte,zlk,Nat.reduceEqDiff,reduceCtorEq])|(with_reducible first|refine jJ ?_ ?_|refine ya5 ?_|refine ju ?_|refine jv ?_|refine jw ?_|refine jx ?_ (by first|rfl|assumption|(simp only [znl,nls_u,nls_met];(first|done|fail)))|refine jC ?_ (by first|rfl|assumption|(simp only [znl,nls_u,nls_met];(first|done|fail)))))))
      all_goals (first | rfl | (rw [hlen]; rfl))
    by_cases hlt : i < xs.length
    · have hlt2 : i < ys.length := by omega
      have e1 : Gf.atTo xs ys x (i + 1) = Gf.atTo xs ys x i ^^^ Gf.mul (Gf.aboveTo (Gf.nth ys i) xs i x xs.length) (Gf.inv (Gf.aboveTo 1 xs i (Gf.nth xs i) xs.length)) := rfl
      have hgx := get_u xs i hlt
      have hgy := get_u ys i hlt2
      generalize Gf.atTo xs ys x i = v at e1 ⊢
      repeat' (first|(with_reducible first|refine yrl (by constructor) ?_|refine jk (fun M hM=>?_)|(refine hM _ ?_;clear hM M)|refine xb3 (by decide) ?_|refine yqa (by assumption) ?_ ?_|refine yqb (by assumption) ?_ ?_)|((with_reducible refine je ?_)<;>(first|rfl|assumption|(simp only [znl,nls_u,nls_met];(first|done|fail))))|(with_reducible refine jf (by (simp only [↓reduceIte,zlk,Nat.reduceEqDiff,reduceCtorEq]);exact rfl) ?_)|((with_reducible first|refine jg (fun hc=>?_) (fun hc=>?_)|refine jh (fun hc=>?_) (fun hc=>?_))<;>(try simp (disch:=omega) only [zhb] at hc)<;>(try (exfalso;omega))<;>(try subst hc))|(with_reducible refine ji (by omega) ?_)|(simp (config := { maxSteps := 400000 }) only [↓jt,↓reduceIte,zvs,reduceCtorEq,Nat.reduceEqDiff,Nat.reduceAdd,Nat.reduceLeDiff,Nat.reduceMul,Int.reduceBNe,Int.reduceBEq,Int.reduceEq,Int.reduceNe,Int.reduceLT,Int.reduceLE,Int.reduceGT,Int.reduceGE,Int.reduceNeg,Int.reduceToNat,Nat.reduceLT,Nat.reduceSub,tab,hgx,hgy,Try.results15,jTA])|(simp (disch:=omega) only [ziw]))
      refine ok_loop (fun j : Nat => ⟨slots [(0, encBs xs), (1, encBs ys), (2, .int .u8 (B8 x)), (6, .int .u8 0), (7, .bool false), (8, .int .u8 (B8 v)), (25, encBs xs), (26, .int .i64 xs.length), (27, .int .i64 i), (9, .int .i64 i), (10, .int .u8 (B8 (Gf.nth xs i))), (11, .int .u8 (B8 (Gf.aboveTo (Gf.nth ys i) xs i x j))), (12, .int .u8 (B8 (Gf.aboveTo 1 xs i (Gf.nth xs i) j))), (36, encBs xs), (37, .int .i64 xs.length), (38, .int .i64 j)], rows [], 0⟩) (fun j => j ≤ xs.length) (fun j => xs.length - j) 0 ?_ (Nat.zero_le _) (fun j hj => ?_)
      · (refine yrn [] false ?_ ?_<;>(repeat' (first|(with_reducible first|exact ya1|exact ya2|exact ya3|refine jx rfl (by first|rfl|assumption|(simp only [znl,nls_u,nls_met];(first|done|fail)))|exact ya5|exact ya7|exact jy|exact jz|refine jA ?_|refine ya9 ?_ ?_ ?_|refine jC rfl (by first|rfl|assumption|(simp only [znl,nls_u,nls_met];(first|done|fail)))|refine MR.agg (MRL.cons ?_ ?_)|refine MR.fn ?_|refine MRL.cons ?_ ?_|exact MRL.nil|refine jE ?_ ?_|exact jF|exact jG|refine yb1 ?_ ?_|refine MB.row ?_|refine jI ?_ ?_|exact ya8|refine jJ rfl (by first|rfl|assumption|(simp only [znl,nls_u,nls_met];(first|done|fail)))|refine yb2 ?_|rfl)|(simp only [znl,nls_u,nls_met];(first|done|fail))|(simp only [↓reduceIte,zlk,Nat.reduceEqDiff,reduceCtorEq])|(with_reducible first|refine jJ ?_ ?_|refine ya5 ?_|refine ju ?_|refine jv ?_|refine jw ?_|refine jx ?_ (by first|rfl|assumption|(simp only [znl,nls_u,nls_met];(first|done|fail)))|refine jC ?_ (by first|rfl|assumption|(simp only [znl,nls_u,nls_met];(first|done|fail)))))))
        all_goals (first | rfl | (rw [hlen]; rfl))
      by_cases hlj : j < xs.length
      · have hgj := get_u xs j hlj
        have a1 : Gf.aboveTo (Gf.nth ys i) xs i x (j + 1) = if j = i then Gf.aboveTo (Gf.nth ys i) xs i x j else Gf.mul (Gf.aboveTo (Gf.nth ys i) xs i x j) (x ^^^ Gf.nth xs j) := rfl
        have a2 : Gf.aboveTo 1 xs i (Gf.nth xs i) (j + 1) = if j = i then Gf.aboveTo 1 xs i (Gf.nth xs i) j else Gf.mul (Gf.aboveTo 1 xs i (Gf.nth xs i) j) (Gf.nth xs i ^^^ Gf.nth xs j) := rfl
        generalize Gf.aboveTo (Gf.nth ys i) xs i x j = p at a1 ⊢
        generalize Gf.aboveTo 1 xs i (Gf.nth xs i) j = q at a2 ⊢
        have m1 := mul_spec p (x ^^^ Gf.nth xs j)
        have m2 := mul_spec q (Gf.nth xs i ^^^ Gf.nth xs j)
        by_cases hji : j = i
        · rw [if_pos hji] at a1 a2
          repeat' (first|(with_reducible first|refine yrl (by constructor) ?_|refine jk (fun M hM=>?_)|(refine hM _ ?_;clear hM M)|refine xb3 (by decide) ?_|refine yqa (by assumption) ?_ ?_|refine yqb (by assumption) ?_ ?_)|((with_reducible refine je ?_)<;>(first|rfl|assumption|(simp only [znl,nls_u,nls_met];(first|done|fail))))|(with_reducible refine jf (by (simp only [↓reduceIte,zlk,Nat.reduceEqDiff,reduceCtorEq]);exact rfl) ?_)|((with_reducible first|refine jg (fun hc=>?_) (fun hc=>?_)|refine jh (fun hc=>?_) (fun hc=>?_))<;>(try simp (disch:=omega) only [zhb] at hc)<;>(try (exfalso;omega))<;>(try subst hc))|(with_reducible refine ji (by omega) ?_)|(simp (config := { maxSteps := 400000 }) only [↓jt,↓reduceIte,zvs,reduceCtorEq,Nat.reduceEqDiff,Nat.reduceAdd,Nat.reduceLeDiff,Nat.reduceMul,Int.reduceBNe,Int.reduceBEq,Int.reduceEq,Int.reduceNe,Int.reduceLT,Int.reduceLE,Int.reduceGT,Int.reduceGE,Int.reduceNeg,Int.reduceToNat,Nat.reduceLT,Nat.reduceSub,tab,hgj,Try.results15,jTA])|(simp (disch:=omega) only [ziw]))
          all_goals first
            | (exfalso; omega)
            | (refine xl1 (j + 1) ?_ (by show j + 1 ≤ xs.length; omega) (by show xs.length - (j + 1) < xs.length - j; omega); (refine yrn [] false ?_ ?_<;>(repeat' (first|(with_reducible first|exact ya1|exact ya2|exact ya3|refine jx rfl (by first|rfl|assumption|(simp only [znl,nls_u,nls_met];(first|done|fail)))|exact ya5|exact ya7|exact jy|exact jz|refine jA ?_|refine ya9 ?_ ?_ ?_|refine jC rfl (by first|rfl|assumption|(simp only [znl,nls_u,nls_met];(first|done|fail)))|refine MR.agg (MRL.cons ?_ ?_)|refine MR.fn ?_|refine MRL.cons ?_ ?_|exact MRL.nil|refine jE ?_ ?_|exact jF|exact jG|refine yb1 ?_ ?_|refine MB.row ?_|refine jI ?_ ?_|exact ya8|refine jJ rfl (by first|rfl|assumption|(simp only [znl,nls_u,nls_met];(first|done|fail)))|refine yb2 ?_|rfl)|(simp only [znl,nls_u,nls_met];(first|done|fail))|(simp only [↓reduceIte,zlk,Nat.reduceEqDiff,reduceCtorEq])|(with_reducible first|refine jJ ?_ ?_|refine ya5 ?_|refine ju ?_|refine jv ?_|refine jw ?_|refine jx ?_ (by first|rfl|assumption|(simp only [znl,nls_u,nls_met];(first|done|fail)))|refine jC ?_ (by first|rfl|assumption|(simp only [znl,nls_u,nls_met];(first|done|fail))))))) <;> first | rfl | rw [a1] | rw [a2])
        · rw [if_neg hji] at a1 a2
          repeat' (first|(with_reducible first|refine yrl (by constructor) ?_|refine jk (fun M hM=>?_)|(refine hM _ ?_;clear hM M)|refine xb3 (by decide) ?_|refine yqa (by assumption) ?_ ?_|refine yqb (by assumption) ?_ ?_)|((with_reducible refine je ?_)<;>(first|rfl|assumption|(simp only [znl,nls_u,nls_met];(first|done|fail))))|(with_reducible refine jf (by (simp only [↓reduceIte,zlk,Nat.reduceEqDiff,reduceCtorEq]);exact rfl) ?_)|((with_reducible first|refine jg (fun hc=>?_) (fun hc=>?_)|refine jh (fun hc=>?_) (fun hc=>?_))<;>(try simp (disch:=omega) only [zhb] at hc)<;>(try (exfalso;omega))<;>(try subst hc))|(with_reducible refine ji (by omega) ?_)|(simp (config := { maxSteps := 400000 }) only [↓jt,↓reduceIte,zvs,reduceCtorEq,Nat.reduceEqDiff,Nat.reduceAdd,Nat.reduceLeDiff,Nat.reduceMul,Int.reduceBNe,Int.reduceBEq,Int.reduceEq,Int.reduceNe,Int.reduceLT,Int.reduceLE,Int.reduceGT,Int.reduceGE,Int.reduceNeg,Int.reduceToNat,Nat.reduceLT,Nat.reduceSub,tab,hgj,bits_xor8,Try.results15,jTA])|(simp (disch:=omega) only [ziw]))
          all_goals first
            | (exfalso; omega)
            | (refine xl1 (j + 1) ?_ (by show j + 1 ≤ xs.length; omega) (by show xs.length - (j + 1) < xs.length - j; omega); (refine yrn [] false ?_ ?_<;>(repeat' (first|(with_reducible first|exact ya1|exact ya2|exact ya3|refine jx rfl (by first|rfl|assumption|(simp only [znl,nls_u,nls_met];(first|done|fail)))|exact ya5|exact ya7|exact jy|exact jz|refine jA ?_|refine ya9 ?_ ?_ ?_|refine jC rfl (by first|rfl|assumption|(simp only [znl,nls_u,nls_met];(first|done|fail)))|refine MR.agg (MRL.cons ?_ ?_)|refine MR.fn ?_|refine MRL.cons ?_ ?_|exact MRL.nil|refine jE ?_ ?_|exact jF|exact jG|refine yb1 ?_ ?_|refine MB.row ?_|refine jI ?_ ?_|exact ya8|refine jJ rfl (by first|rfl|assumption|(simp only [znl,nls_u,nls_met];(first|done|fail)))|refine yb2 ?_|rfl)|(simp only [znl,nls_u,nls_met];(first|done|fail))|(simp only [↓reduceIte,zlk,Nat.reduceEqDiff,reduceCtorEq])|(with_reducible first|refine jJ ?_ ?_|refine ya5 ?_|refine ju ?_|refine jv ?_|refine jw ?_|refine jx ?_ (by first|rfl|assumption|(simp only [znl,nls_u,nls_met];(first|done|fail)))|refine jC ?_ (by first|rfl|assumption|(simp only [znl,nls_u,nls_met];(first|done|fail))))))) <;> first | rfl | rw [a1] | rw [a2])
      · obtain rfl : j = xs.length := by omega
        have i1 := inv_spec (Gf.aboveTo 1 xs i (Gf.nth xs i) xs.length)
        have m1 := mul_spec (Gf.aboveTo (Gf.nth ys i) xs i x xs.length) (Gf.inv (Gf.aboveTo 1 xs i (Gf.nth xs i) xs.length))
        repeat' (first|(with_reducible first|refine yrl (by constructor) ?_|refine jk (fun M hM=>?_)|(refine hM _ ?_;clear hM M)|refine xb3 (by decide) ?_|refine yqa (by assumption) ?_ ?_|refine yqb (by assumption) ?_ ?_)|((with_reducible refine je ?_)<;>(first|rfl|assumption|(simp only [znl,nls_u,nls_met];(first|done|fail))))|(with_reducible refine jf (by (simp only [↓reduceIte,zlk,Nat.reduceEqDiff,reduceCtorEq]);exact rfl) ?_)|((with_reducible first|refine jg (fun hc=>?_) (fun hc=>?_)|refine jh (fun hc=>?_) (fun hc=>?_))<;>(try simp (disch:=omega) only [zhb] at hc)<;>(try (exfalso;omega))<;>(try subst hc))|(with_reducible refine ji (by omega) ?_)|(simp (config := { maxSteps := 400000 }) only [↓jt,↓reduceIte,zvs,reduceCtorEq,Nat.reduceEqDiff,Nat.reduceAdd,Nat.reduceLeDiff,Nat.reduceMul,Int.reduceBNe,Int.reduceBEq,Int.reduceEq,Int.reduceNe,Int.reduceLT,Int.reduceLE,Int.reduceGT,Int.reduceGE,Int.reduceNeg,Int.reduceToNat,Nat.reduceLT,Nat.reduceSub,tab,bits_xor8,Try.results15,jTA])|(simp (disch:=omega) only [ziw]))
        refine xl1 (i + 1) ?_ (by show i + 1 ≤ xs.length; omega) (by show xs.length - (i + 1) < xs.length - i; omega)
        (refine yrn [] false ?_ ?_<;>(repeat' (first|(with_reducible first|exact ya1|exact ya2|exact ya3|refine jx rfl (by first|rfl|assumption|(simp only [znl,nls_u,nls_met];(first|done|fail)))|exact ya5|exact ya7|exact jy|exact jz|refine jA ?_|refine ya9 ?_ ?_ ?_|refine jC rfl (by first|rfl|assumption|(simp only [znl,nls_u,nls_met];(first|done|fail)))|refine MR.agg (MRL.cons ?_ ?_)|refine MR.fn ?_|refine MRL.cons ?_ ?_|exact MRL.nil|refine jE ?_ ?_|exact jF|exact jG|refine yb1 ?_ ?_|refine MB.row ?_|refine jI ?_ ?_|exact ya8|refine jJ rfl (by first|rfl|assumption|(simp only [znl,nls_u,nls_met];(first|done|fail)))|refine yb2 ?_|rfl)|(simp only [znl,nls_u,nls_met];(first|done|fail))|(simp only [↓reduceIte,zlk,Nat.reduceEqDiff,reduceCtorEq])|(with_reducible first|refine jJ ?_ ?_|refine ya5 ?_|refine ju ?_|refine jv ?_|refine jw ?_|refine jx ?_ (by first|rfl|assumption|(simp only [znl,nls_u,nls_met];(first|done|fail)))|refine jC ?_ (by first|rfl|assumption|(simp only [znl,nls_u,nls_met];(first|done|fail)))))))
        all_goals (first | rfl | rw [e1])
    · obtain rfl : i = xs.length := by omega
      repeat' (first|(with_reducible first|refine yrl (by constructor) ?_|refine jk (fun M hM=>?_)|(refine hM _ ?_;clear hM M)|refine xb3 (by decide) ?_|refine yqa (by assumption) ?_ ?_|refine yqb (by assumption) ?_ ?_)|((with_reducible refine je ?_)<;>(first|rfl|assumption|(simp only [znl,nls_u,nls_met];(first|done|fail))))|(with_reducible refine jf (by (simp only [↓reduceIte,zlk,Nat.reduceEqDiff,reduceCtorEq]);exact rfl) ?_)|((with_reducible first|refine jg (fun hc=>?_) (fun hc=>?_)|refine jh (fun hc=>?_) (fun hc=>?_))<;>(try simp (disch:=omega) only [zhb] at hc)<;>(try (exfalso;omega))<;>(try subst hc))|(with_reducible refine ji (by omega) ?_)|(simp (config := { maxSteps := 400000 }) only [↓jt,↓reduceIte,zvs,reduceCtorEq,Nat.reduceEqDiff,Nat.reduceAdd,Nat.reduceLeDiff,Nat.reduceMul,Int.reduceBNe,Int.reduceBEq,Int.reduceEq,Int.reduceNe,Int.reduceLT,Int.reduceLE,Int.reduceGT,Int.reduceGE,Int.reduceNeg,Int.reduceToNat,Nat.reduceLT,Nat.reduceSub,tab,Try.results15,jTA])|(simp (disch:=omega) only [ziw]))
      simp only [zrds]
      rfl
  · have hv : atVal xs ys x = 0 := by rw [atVal, if_neg hok]
    rw [Bool.not_eq_true] at hok
    rw [hv, hok]
    refine spec_ok Try.func15 rfl rfl (by kernel_rfl) (k := 3) rfl (by decide) ?_
    by_cases hlen : xs.length = ys.length
    · have hd : dis xs = false := by simpa [atOk, hlen] using hok
      rw [hd] at hD
      repeat' (first|(with_reducible first|refine yrl (by constructor) ?_|refine jk (fun M hM=>?_)|(refine hM _ ?_;clear hM M)|refine xb3 (by decide) ?_|refine yqa (by assumption) ?_ ?_|refine yqb (by assumption) ?_ ?_)|((with_reducible refine je ?_)<;>(first|rfl|assumption|(simp only [znl,nls_u,nls_met];(first|done|fail))))|(with_reducible refine jf (by (simp only [↓reduceIte,zlk,Nat.reduceEqDiff,reduceCtorEq]);exact rfl) ?_)|((with_reducible first|refine jg (fun hc=>?_) (fun hc=>?_)|refine jh (fun hc=>?_) (fun hc=>?_))<;>(try simp (disch:=omega) only [zhb] at hc)<;>(try (exfalso;omega))<;>(try subst hc))|(with_reducible refine ji (by omega) ?_)|(simp (config := { maxSteps := 400000 }) only [↓jt,↓reduceIte,zvs,reduceCtorEq,Nat.reduceEqDiff,Nat.reduceAdd,Nat.reduceLeDiff,Nat.reduceMul,Int.reduceBNe,Int.reduceBEq,Int.reduceEq,Int.reduceNe,Int.reduceLT,Int.reduceLE,Int.reduceGT,Int.reduceGE,Int.reduceNeg,Int.reduceToNat,Nat.reduceLT,Nat.reduceSub,tab,hlen,Try.results15,jTA])|(simp (disch:=omega) only [ziw]))
      simp only [zrds]
      rfl
    · repeat' (first|(with_reducible first|refine yrl (by constructor) ?_|refine jk (fun M hM=>?_)|(refine hM _ ?_;clear hM M)|refine xb3 (by decide) ?_|refine yqa (by assumption) ?_ ?_|refine yqb (by assumption) ?_ ?_)|((with_reducible refine je ?_)<;>(first|rfl|assumption|(simp only [znl,nls_u,nls_met];(first|done|fail))))|(with_reducible refine jf (by (simp only [↓reduceIte,zlk,Nat.reduceEqDiff,reduceCtorEq]);exact rfl) ?_)|((with_reducible first|refine jg (fun hc=>?_) (fun hc=>?_)|refine jh (fun hc=>?_) (fun hc=>?_))<;>(try simp (disch:=omega) only [zhb] at hc)<;>(try (exfalso;omega))<;>(try subst hc))|(with_reducible refine ji (by omega) ?_)|(simp (config := { maxSteps := 400000 }) only [↓jt,↓reduceIte,zvs,reduceCtorEq,Nat.reduceEqDiff,Nat.reduceAdd,Nat.reduceLeDiff,Nat.reduceMul,Int.reduceBNe,Int.reduceBEq,Int.reduceEq,Int.reduceNe,Int.reduceLT,Int.reduceLE,Int.reduceGT,Int.reduceGE,Int.reduceNeg,Int.reduceToNat,Nat.reduceLT,Nat.reduceSub,tab,Try.results15,jTA])|(simp (disch:=omega) only [ziw]))
      all_goals first
        | (exfalso; omega)
        | (simp only [zrds]; rfl)
end Go.Proofs.Ytoibnghkcdopeaa.V
end
section
namespace Go.Proofs.Ytoibnghkcdopeaa.V
open Go Go.Proofs.Ytoibnghkcdopeaa
set_option maxRecDepth 100000
set_option maxHeartbeats 1000000
end Go.Proofs.Ytoibnghkcdopeaa.V
end
section
namespace Go.Proofs.Ytoibnghkcdopeaa.V
open Go Go.Proofs.Ytoibnghkcdopeaa

structure Shr where
  x : UInt8
  d : List UInt8
deriving DecidableEq
instance : Inhabited Shr := ⟨⟨0, List.replicate 32 0⟩⟩
def tabU (n : Nat) (f : Nat → UInt8) : List UInt8 := (List.range n).map f
theorem tabU_len (n : Nat) (f : Nat → UInt8) : (tabU n f).length = n := by simp [tabU]
theorem tabU_succ (n : Nat) (f : Nat → UInt8) : tabU (n + 1) f = tabU n f ++ [f n] := by simp [tabU, List.range_succ]
theorem ext_nth {a b : List UInt8} {n : Nat} (ha : a.length = n) (hb : b.length = n) (h : ∀ i, i < n → Gf.nth a i = Gf.nth b i) : a = b := by
  apply List.ext_getElem (by omega)
  intro i h1 h2
  have := h i (by omega)
  rwa [Gf.nth_lt h1, Gf.nth_lt h2] at this
def fillU (n k : Nat) (f : Nat → UInt8) : List UInt8 := tabU k f ++ List.replicate (n - k) 0
theorem fillU_len (n k : Nat) (f : Nat → UInt8) (h : k ≤ n) : (fillU n k f).length = n := by simp [fillU, tabU_len]; omega
theorem fillU_zero (n : Nat) (f : Nat → UInt8) : fillU n 0 f = List.replicate n 0 := by simp [fillU, tabU]
theorem fillU_all (n : Nat) (f : Nat → UInt8) : fillU n n f = tabU n f := by simp [fillU]
theorem fillU_set (n k : Nat) (f : Nat → UInt8) (h : k < n) : (fillU n k f).set k (f k) = fillU n (k + 1) f := by
  unfold fillU
  rw [List.set_append_right _ _ (by rw [tabU_len]; exact Nat.le_refl _), tabU_len, Nat.sub_self, tabU_succ, show n - k = (n - (k + 1)) + 1 by omega, List.replicate_succ, List.set_cons_zero, List.append_assoc]
  rfl
theorem fillU_setV (n k : Nat) (f : Nat → UInt8) (h : k < n) : ((fillU n k f).map encU).set k (.int .u8 (B8 (f k))) = (fillU n (k + 1) f).map encU := by
  rw [← fillU_set n k f h, List.map_set]
  rfl
end Go.Proofs.Ytoibnghkcdopeaa.V
end
section
namespace Go.Proofs.Ytoibnghkcdopeaa.V
open Go Go.Proofs.Ytoibnghkcdopeaa
set_option maxRecDepth 100000
set_option maxHeartbeats 2000000
end Go.Proofs.Ytoibnghkcdopeaa.V
end
section
namespace Go.Proofs.Ytoibnghkcdopeaa.V
open Go Go.RowKit

def Does2 (P : Program) (env tmF : Nat → VV) (G : Heap) (n : Nat) (o : Oper) : Prop :=
  ∃ v n', (∀ t, o.dst = some t → tmF t = v) ∧ n ≤ n' ∧ n' ≤ n + 64 ∧ ∀ e' K', (∀ x ∈ o.op.operands.toList, e' x = ev env x) → K' v G n' → vopH P e' G n K' o
def Fact2 (P : Program) (ops : List Oper) (env tmF : Nat → VV) (G : Heap) (n : Nat) (o : Oper) : Prop :=
  (o.guard = none ∧ Does2 P env tmF G n o) ∨ ∃ g want d, o.guard = some (g, want) ∧ dstAt ops g = some d ∧
    ((env d = .bool want ∧ Does2 P env tmF G n o) ∨ ((env d = .bool (!want) ∨ env d = .raw undef) ∧ ∀ t, o.dst = some t → tmF t = .raw undef))
def rd2 (l : List Oper) (q : Nat) (tm tmF : Nat → VV) (t : Nat) : VV := if ((l.drop q).any fun o => o.dst == some t) = true then tm t else tmF t
def oneL : List Oper → Bool
  | [] => true
  | o :: l => (match o.dst with | some d => l.all fun o' => o'.dst != some d | none => true) && oneL l
theorem held2 {P : Program} {ops : Array Oper} {K : (Nat → VV) → Heap → Nat → Prop} : ∀ (l : List Oper) (tm : Nat → VV) (H : Heap) (n : Nat), oneL l = true → (∀ m, n ≤ m → H m = none) → vheld P ops.toList l tm H n K →
    ∃ tmF G, K tmF G (n + 64 * l.length) ∧ (∀ t, (∀ o ∈ l, o.dst ≠ some t) → tmF t = tm t) ∧ ((∀ m b, H m = some b → G m = some b) ∧ (∀ m, m < n → G m = H m)) ∧
      ∀ q o, l[q]? = some o → ∃ Hq : Heap, (∀ m, m < n → Hq m = H m) ∧ (∀ m, n + 64 * (q + 1) ≤ m → Hq m = none) ∧ (∀ m b, Hq m = some b → G m = some b) ∧
        ∀ G' : Heap, (∀ m b, Hq m = some b → G' m = some b) → Fact2 P ops.toList (rd2 l q tm tmF) tmF G' (n + 64 * q) o
  | [], tm, H, n, _, _, h => ⟨tm, H, h, fun _ _ => rfl, ⟨fun _ _ h => h, fun _ _ => rfl⟩, fun q o h => by simp at h⟩
  | o :: l, tm, H, n, hw, hn, h => by
    simp only [oneL,Bool.and_eq_true] at hw
    obtain ⟨hw1, hw3⟩ := hw
    have hd : ∀ d, o.dst = some d → ∀ o' ∈ l, o'.dst ≠ some d := fun d hd o' ho' => by
      rw [hd] at hw1
      simpa using (List.all_eq_true.1 hw1) o' ho'
    have hput : ∀ (tm' : Nat → VV) (v : VV) (t : Nat), o.dst ≠ some t → put o.dst v tm' t = tm' t := by
      intro tm' v t ht
      cases hod : o.dst with
      | none => rfl
      | some d => simp only [put,upd_ap]; rw [if_neg (by intro e; rw [e] at ht; exact ht hod)]
    have hrd0 : ∀ (tmF : Nat → VV), (∀ t, (∀ o' ∈ o :: l, o'.dst ≠ some t) → tmF t = tm t) → ∀ t, rd2 (o :: l) 0 tm tmF t = tm t := fun tmF h t => by
      unfold rd2
      split
      · rfl
      · rename_i hh
        refine h t fun o' ho' e => hh ?_
        rw [List.drop_zero, List.any_eq_true]
        exact ⟨o', ho', by simp [e]⟩
    have hrdS : ∀ (tmF : Nat → VV) (v : VV) (q : Nat) (t : Nat), rd2 l q (put o.dst v tm) tmF t = rd2 (o :: l) (q + 1) tm tmF t := fun tmF v q t => by
      unfold rd2
      rw [List.drop_succ_cons]
      split
      · rename_i hh
        rw [List.any_eq_true] at hh
        obtain ⟨o', ho', e⟩ := hh
        refine hput tm v t fun e2 => hd t e2 o' (List.mem_of_mem_drop ho') (by simpa using e)
      · rfl
    have done : vopH P (ev tm) H n (fun v H' n' => cnd (n' ≤ n + 64) (vheld P ops.toList l (put o.dst v tm) H' (n + 64) K)) o →
        ∃ tmF G, K tmF G (n + 64 * (l.length + 1)) ∧ (∀ t, (∀ o' ∈ o :: l, o'.dst ≠ some t) → tmF t = tm t) ∧ ((∀ m b, H m = some b → G m = some b) ∧ (∀ m, m < n → G m = H m)) ∧
          (∃ Hq : Heap, (∀ m, m < n → Hq m = H m) ∧ (∀ m, n + 64 ≤ m → Hq m = none) ∧ (∀ m b, Hq m = some b → G m = some b) ∧ ∀ G' : Heap, (∀ m b, Hq m = some b → G' m = some b) → Does2 P tm tmF G' n o) ∧
          ∀ q o', l[q]? = some o' → ∃ Hq : Heap, (∀ m, m < n → Hq m = H m) ∧ (∀ m, n + 64 + 64 * (q + 1) ≤ m → Hq m = none) ∧ (∀ m b, Hq m = some b → G m = some b) ∧
            ∀ G' : Heap, (∀ m b, Hq m = some b → G' m = some b) → Fact2 P ops.toList (rd2 (o :: l) (q + 1) tm tmF) tmF G' (n + 64 + 64 * q) o' := by
      intro h
      obtain ⟨v, H', n', ⟨hn', hk⟩, s1, s2, s3, s4⟩ := vopH_stable (hn n (Nat.le_refl _)) h
      have hn2 : ∀ m, n + 64 ≤ m → H' m = none := fun m hm => by rw [s3 m (.inr (by omega))]; exact hn m (by omega)
      obtain ⟨tmF, G, k1, k2, k3, k4⟩ := held2 l (put o.dst v tm) H' (n + 64) hw3 hn2 hk
      refine ⟨tmF, G, by rw [show n + 64 * (l.length + 1) = n + 64 + 64 * l.length by omega]; exact k1, fun t ht => ?_, ⟨fun m b hm => k3.1 m b (s2 m b hm), fun m hm => by rw [k3.2 m (by omega), s3 m (.inl hm)]⟩, ?_, fun q o' ho' => ?_⟩
      · rw [k2 t (fun o' ho' => ht o' (by simp [ho'])), hput tm v t (ht o (by simp))]
      · refine ⟨H', fun m hm => s3 m (.inl hm), hn2, k3.1, fun G' hG' => ⟨v, n', fun t ht => ?_, s1, hn', fun e' K' he hK => s4 e' G' K' (fun x hx => he x hx) hG' hK⟩⟩
        rw [k2 t (hd t ht), ht]
        simp [put, upd_ap]
      · obtain ⟨Hq, q1, q2, q3, q4⟩ := k4 q o' ho'
        refine ⟨Hq, fun m hm => by rw [q1 m (by omega), s3 m (.inl hm)], q2, q3, fun G' hG' => ?_⟩
        have := q4 G' hG'
        rw [show rd2 l q (put o.dst v tm) tmF = rd2 (o :: l) (q + 1) tm tmF from funext (hrdS tmF v q)] at this
        exact this
    have skip : vheld P ops.toList l (put o.dst (.raw undef) tm) H (n + 64) K →
        ∃ tmF G, K tmF G (n + 64 * (l.length + 1)) ∧ (∀ t, (∀ o' ∈ o :: l, o'.dst ≠ some t) → tmF t = tm t) ∧ ((∀ m b, H m = some b → G m = some b) ∧ (∀ m, m < n → G m = H m)) ∧ (∀ t, o.dst = some t → tmF t = .raw undef) ∧
          ∀ q o', l[q]? = some o' → ∃ Hq : Heap, (∀ m, m < n → Hq m = H m) ∧ (∀ m, n + 64 + 64 * (q + 1) ≤ m → Hq m = none) ∧ (∀ m b, Hq m = some b → G m = some b) ∧
            ∀ G' : Heap, (∀ m b, Hq m = some b → G' m = some b) → Fact2 P ops.toList (rd2 (o :: l) (q + 1) tm tmF) tmF G' (n + 64 + 64 * q) o' := by
      intro h
      obtain ⟨tmF, G, k1, k2, k3, k4⟩ := held2 l _ H (n + 64) hw3 (fun m hm => hn m (by omega)) h
      refine ⟨tmF, G, by rw [show n + 64 * (l.length + 1) = n + 64 + 64 * l.length by omega]; exact k1, fun t ht => ?_, ⟨k3.1, fun m hm => k3.2 m (by omega)⟩, fun t ht => ?_, fun q o' ho' => ?_⟩
      · rw [k2 t (fun o' ho' => ht o' (by simp [ho'])), hput tm _ t (ht o (by simp))]
      · rw [k2 t (hd t ht), ht]
        simp [put, upd_ap]
      · obtain ⟨Hq, q1, q2, q3, q4⟩ := k4 q o' ho'
        refine ⟨Hq, fun m hm => q1 m (by omega), q2, q3, fun G' hG' => ?_⟩
        have := q4 G' hG'
        rw [show rd2 l q (put o.dst (.raw undef) tm) tmF = rd2 (o :: l) (q + 1) tm tmF from funext (hrdS tmF _ q)] at this
        exact this
    -- the parts together
    have tie : ∀ (tmF : Nat → VV) (G : Heap), K tmF G (n + 64 * (l.length + 1)) → (∀ t, (∀ o' ∈ o :: l, o'.dst ≠ some t) → tmF t = tm t) → ((∀ m b, H m = some b → G m = some b) ∧ (∀ m, m < n → G m = H m)) →
        (∃ Hq : Heap, (∀ m, m < n → Hq m = H m) ∧ (∀ m, n + 64 ≤ m → Hq m = none) ∧ (∀ m b, Hq m = some b → G m = some b) ∧ ∀ G' : Heap, (∀ m b, Hq m = some b → G' m = some b) → Fact2 P ops.toList tm tmF G' n o) →
        (∀ q o', l[q]? = some o' → ∃ Hq : Heap, (∀ m, m < n → Hq m = H m) ∧ (∀ m, n + 64 + 64 * (q + 1) ≤ m → Hq m = none) ∧ (∀ m b, Hq m = some b → G m = some b) ∧
            ∀ G' : Heap, (∀ m b, Hq m = some b → G' m = some b) → Fact2 P ops.toList (rd2 (o :: l) (q + 1) tm tmF) tmF G' (n + 64 + 64 * q) o') →
        ∃ tmF G, K tmF G (n + 64 * (o :: l).length) ∧ (∀ t, (∀ o' ∈ o :: l, o'.dst ≠ some t) → tmF t = tm t) ∧ ((∀ m b, H m = some b → G m = some b) ∧ (∀ m, m < n → G m = H m)) ∧
          ∀ q o', (o :: l)[q]? = some o' → ∃ Hq : Heap, (∀ m, m < n → Hq m = H m) ∧ (∀ m, n + 64 * (q + 1) ≤ m → Hq m = none) ∧ (∀ m b, Hq m = some b → G m = some b) ∧
            ∀ G' : Heap, (∀ m b, Hq m = some b → G' m = some b) → Fact2 P ops.toList (rd2 (o :: l) q tm tmF) tmF G' (n + 64 * q) o' := by
      intro tmF G k1 k2 k3 k4 k5
      refine ⟨tmF, G, k1, k2, k3, fun q o' ho' => ?_⟩
      cases q with
      | zero =>
        simp only [List.getElem?_cons_zero,Option.some.injEq] at ho'
        subst ho'
        obtain ⟨Hq, q1, q2, q3, q4⟩ := k4
        refine ⟨Hq, q1, fun m hm => q2 m (by omega), q3, fun G' hG' => ?_⟩
        have := q4 G' hG'
        rw [show tm = rd2 (o :: l) 0 tm tmF from (funext (hrd0 tmF k2)).symm] at this
        exact this
      | succ q =>
        simp only [List.getElem?_cons_succ] at ho'
        obtain ⟨Hq, q1, q2, q3, q4⟩ := k5 q o' ho'
        exact ⟨Hq, q1, fun m hm => q2 m (by omega), q3, fun G' hG' => by
          have := q4 G' hG'
          rwa [show n + 64 + 64 * q = n + 64 * (q + 1) by omega] at this⟩
    simp only [vheld] at h
    split at h
    · rename_i hg
      obtain ⟨tmF, G, k1, k2, k3, ⟨Hq, q1, q2, q3, q4⟩, k5⟩ := done h
      exact tie tmF G k1 k2 k3 ⟨Hq, q1, q2, q3, fun G' hG' => .inl ⟨hg, q4 G' hG'⟩⟩ k5
    · rename_i g want hg
      obtain ⟨d, hdg, h⟩ := bnd_iff.1 h
      unfold onV at h
      dsimp only at h
      split at h
      · rename_i b hb
        obtain ⟨h1, h2⟩ := h
        by_cases hbw : (b == want) = true
        · have hbe : b = want := by simpa using hbw
          subst hbe
          have hu := upd_same hb
          have h1 := h1 hbw
          rw [hu] at h1
          obtain ⟨tmF, G, k1, k2, k3, ⟨Hq, q1, q2, q3, q4⟩, k5⟩ := done h1
          exact tie tmF G k1 k2 k3 ⟨Hq, q1, q2, q3, fun G' hG' => .inr ⟨g, b, d, hg, hdg, .inl ⟨hb, q4 G' hG'⟩⟩⟩ k5
        · have hbf : (b == want) = false := by simpa using hbw
          have hbe : b = !want := by cases b <;> cases want <;> simp_all
          subst hbe
          have hu := upd_same hb
          have h2 := h2 hbf
          rw [hu] at h2
          obtain ⟨tmF, G, k1, k2, k3, k4, k5⟩ := skip h2
          exact tie tmF G k1 k2 k3 ⟨H, fun _ _ => rfl, fun m hm => hn m (by omega), k3.1, fun G' hG' => .inr ⟨g, want, d, hg, hdg, .inr ⟨.inl hb, k4⟩⟩⟩ k5
      · rename_i u hb
        obtain ⟨rfl, h⟩ := h
        obtain ⟨tmF, G, k1, k2, k3, k4, k5⟩ := skip h
        exact tie tmF G k1 k2 k3 ⟨H, fun _ _ => rfl, fun m hm => hn m (by omega), k3.1, fun G' hG' => .inr ⟨g, want, d, hg, hdg, .inr ⟨.inr hb, k4⟩⟩⟩ k5
      · exact h.elim
def dstB (ops : Array Oper) (j t : Nat) : Bool := match ops[j]? with
  | some o => o.dst == some t
  | none => false
theorem dstB_iff {ops : Array Oper} {j t : Nat} : dstB ops j t = true ↔ ∃ o, ops[j]? = some o ∧ o.dst = some t := by
  unfold dstB
  split
  · rename_i o ho
    simp [ho]
  · rename_i ho; simp [ho]
def Fr2 (nx : Nat) (perm : List Nat) (listed : Array Bool) (m : Nat) : Prop := nx ≤ m ∧ ∀ (q : Nat) i, perm[q]? = some i → nx + 64 * q ≤ m → m < nx + 64 * q + 64 → listed.getD i false = false
def tmQ (ops : Array Oper) (listed : Array Bool) (k : Nat) (tm0 tmF : Nat → VV) (t : Nat) : VV := if pendB ops listed k t = true then tm0 t else tmF t
section
variable {P : Program} {N : NN} {B : Nat} {ρ0 : Names} {w0 : World} {ops : Array Oper} {k nx js : Nat} {perm : List Nat} {tm0 tmF : Nat → VV} {GA GB : Heap} {env : Nat → Nat → VV} {K : VS → Prop} {Q : Exit → Act → World → Prop}
end
end Go.Proofs.Ytoibnghkcdopeaa.V
end
section
namespace Go.Proofs.Ytoibnghkcdopeaa.V
open Go Go.RowKit

def picks (l : List Oper) : List Nat → List Oper
  | [] => []
  | i :: p => match l[i]? with
    | some o => o :: picks l p
    | none => picks l p
theorem picks_get (l : List Oper) : ∀ (perm : List Nat), (∀ i ∈ perm, i < l.length) → ∀ q : Nat, (picks l perm)[q]? = (perm[q]?).bind fun i : Nat => l[i]?
  | [], _, q => by simp [picks]
  | i :: p, h, q => by
    have hi : i < l.length := h i (by simp)
    have e : picks l (i :: p) = l[i] :: picks l p := by simp only [picks,List.getElem?_eq_getElem hi]
    rw [e]
    cases q with
    | zero => simp [hi]
    | succ q =>
      simp only [List.getElem?_cons_succ]
      exact picks_get l p (fun j hj => h j (by simp [hj])) q
def isSt : Op → Bool
  | .store _ _ _ => true
  | _ => false
def opD (ops : Array Oper) (i : Nat) (f : Oper → Bool) : Bool := match ops[i]? with
  | some o => f o
  | none => false
theorem opD_some {ops : Array Oper} {i : Nat} {f : Oper → Bool} (h : opD ops i f = true) : ∃ o, ops[i]? = some o ∧ f o = true := by
  unfold opD at h
  split at h
  · rename_i o ho; exact ⟨o, ho, h⟩
  · cases h
def isP (m : Nat) : VV → Prop
  | .ptr m' _ => m' = m
  | _ => False
def storeAt (P : Program) (m : Nat) (e : Operand → VV) (H : Heap) (K : Heap → Prop) (o : Option Oper) : Prop := match o with
  | some o => match o.op with
    | .store t y x => cnd (isP m (e y)) (vStore P e H 0 (fun _ G _ => K G) t y x)
    | _ => False
  | none => False
theorem oneL_one : ∀ (l : List Oper) (i j : Nat) (o o' : Oper) (t : Nat), oneL l = true → i < j → l[i]? = some o → l[j]? = some o' → o.dst = some t → o'.dst ≠ some t
  | [], _, _, _, _, _, _, _, h, _, _ => by simp at h
  | x :: l, i, 0, _, _, _, _, hij, _, _, _ => by omega
  | x :: l, 0, j + 1, o, o', t, hw, _, h, h', hd => by
    simp only [oneL,Bool.and_eq_true] at hw
    rw [List.getElem?_cons_zero] at h
    injection h with h
    subst h
    rw [hd] at hw
    rw [List.getElem?_cons_succ] at h'
    simpa using (List.all_eq_true.1 hw.1) o' (List.mem_of_getElem? h')
  | x :: l, i + 1, j + 1, o, o', t, hw, hij, h, h', hd => by
    simp only [oneL,Bool.and_eq_true] at hw
    rw [List.getElem?_cons_succ] at h h'
    exact oneL_one l i j o o' t hw.2 (by omega) h h' hd
section
variable {P : Program} {ops : Array Oper} {k js qa : Nat} {perm : List Nat} {K : VS → Prop}
end
section
variable {P : Program} {n0 : Nat} {K : VX → VS → Prop}
end
theorem storeAt_go (P : Program) (m : Nat) (e : Operand → VV) (H : Heap) (K : Heap → Prop) (d : Option Tmp) (t : TypeId) (y x : Operand) (ty : TypeId) (ps : String) (af : Array Edge) (g : Option (Nat × Bool)) :
    storeAt P m e H K (some ⟨d, .store t y x, ty, ps, af, g⟩) = cnd (isP m (e y)) (vStore P e H 0 (fun _ G _ => K G) t y x) := id (Eq.refl _)
theorem isP_ptr (m m' : Nat) (p : List Nat) : isP m (.ptr m' p) = (m' = m) := id (Eq.refl _)
end Go.Proofs.Ytoibnghkcdopeaa.V
end
section
namespace Go.Proofs.Ytoibnghkcdopeaa.V
open Go Go.RowKit

def reachC (ops : Array Oper) : Nat → Oper → Nat → Bool
  | 0, _, _ => false
  | f + 1, o, j => o.after.any fun e => Region.binds .any e && (e.on == j || (decide (j < e.on) && (match ops[e.on]? with | some o' => reachC ops f o' j | none => false)))
theorem reachC_B {ops : Array Oper} : ∀ (f : Nat) (o : Oper) (j : Nat), reachC ops f o j = true → reachB ops f o j = true
  | 0, _, _, h => by simp [reachC] at h
  | f + 1, o, j, h => by
    simp only [reachC,reachB,Array.any_eq_true'] at h ⊢
    obtain ⟨e, he, h⟩ := h
    refine ⟨e, he, ?_⟩
    simp only [Bool.and_eq_true,Bool.or_eq_true,beq_iff_eq,decide_eq_true_eq] at h ⊢
    obtain ⟨hb, h⟩ := h
    refine ⟨hb, ?_⟩
    rcases h with h | ⟨_, h⟩
    · exact .inl h
    · right
      split at h
      · rename_i o' ho'
        rw [ho']
        exact reachC_B f o' j h
      · cases h
def drawOkC (ops : Array Oper) (k : Nat) : Bool :=
  decide (k ≤ ops.size ∧ ops.size ≤ 1000000) && wfL ops (ops.toList.take k) && (List.range k).all (fun j => match ops[j]? with | some o => o.after.all (fun e => !Region.binds .any e || decide (e.on < j)) | none => true) &&
  ((List.range k).all fun i => match ops[i]? with
    | some o => (o.looksAt ops).all fun t => (List.range k).all fun j => (match ops[j]? with | some o' => o'.dst != some t | none => true) || reachC ops ops.size o j
    | none => true) &&
  ((List.range ops.size).all fun j => decide (j < k) || (match ops[j]? with
    | some o => (List.range j).all (fun i => reachC ops ops.size o i) && o.after.all (fun e => !Region.binds .any e || decide (e.on < j))
    | none => true))
theorem all_mono {α : Type} {p q : α → Bool} {l : List α} (hpq : ∀ x ∈ l, p x = true → q x = true) (h : l.all p = true) : l.all q = true :=
  List.all_eq_true.2 fun x hx => hpq x hx (List.all_eq_true.1 h x hx)
theorem or_mono {a b c : Bool} (hbc : b = true → c = true) (h : (a || b) = true) : (a || c) = true := by
  cases a
  · exact hbc h
  · rfl
theorem drawOkC_ok {ops : Array Oper} {k : Nat} (h : drawOkC ops k = true) : drawOk ops k = true := by
  unfold drawOkC at h
  unfold drawOk
  simp only [Bool.and_eq_true] at h ⊢
  obtain ⟨⟨⟨⟨h1, h2⟩, h3⟩, h4⟩, h5⟩ := h
  refine ⟨⟨⟨⟨h1, h2⟩, h3⟩, all_mono (fun i _ hi => ?_) h4⟩, all_mono (fun j _ hj => or_mono (fun hj => ?_) hj) h5⟩
  · split at hi
    · rename_i o ho
      rw [ho]
      exact all_mono (fun t _ ht => all_mono (fun j _ hj => or_mono (reachC_B _ _ _) hj) ht) hi
    · rename_i ho; rw [ho]
  · split at hj
    · rename_i o ho
      rw [ho]
      simp only [Bool.and_eq_true] at hj ⊢
      exact ⟨all_mono (fun i _ hi => reachC_B _ _ _ hi) hj.1, hj.2⟩
    · rename_i ho; rw [ho]
section
variable {P : Program} {n0 : Nat} {K : VX → VS → Prop}
theorem ok_drawC {id : Nat} {l : List Oper} {tm : Nat → VV} {H : Heap} {n : Nat} (k : Nat) (hm : P.follows .mixedOrders = true) (hd : drawOkC l.toArray k = true) (hfr : ∀ m, n ≤ m → H m = none)
    (h : ∀ M : VS → Prop, (∀ S, K .normal S → M S) → vh P l (l.take k) tm H n fun tm H n => vl P l (l.drop k) ⟨tm, H, n⟩ M) : Ok P n0 (.region id l.toArray true) ⟨tm, H, n⟩ K := ok_draw k hm (drawOkC_ok hd) hfr h
end
section
variable {P : Program} {N : NN} {B : Nat} {ρ0 : Names} {w0 : World} {ops : Array Oper} {k nx : Nat} {sts : List (Nat × Nat × Blk)} {perm : List Nat} {tm0 tmF : Nat → VV} {GA : Heap} {env : Nat → Nat → VV} {K : VS → Prop} {Q : Exit → Act → World → Prop}
end
def drawOk3 (ops : Array Oper) (k : Nat) (perm : List Nat) (ss : List (Nat × Nat)) : Bool :=
  decide (k ≤ ops.size ∧ ops.size ≤ 1000000) && decide (perm.length ≤ k) && oneL (picks ops.toList perm) && (perm.all fun i => decide (i < k) && ss.all fun s => i != s.1) &&
  ((List.range perm.length).all fun q => (List.range perm.length).all fun r => decide (q = r) || (perm.getD q 0 != perm.getD r 0)) &&
  ((List.range k).all fun i => (ss.any fun s => s.1 == i) || perm.contains i) &&
  ((List.range k).all fun j => opD ops j fun o => o.after.all fun e => !Region.binds .any e || decide (e.on < j)) &&
  ((List.range perm.length).all fun q => opD ops (perm.getD q 0) fun o => (o.looksAt ops).all fun t => (List.range perm.length).all fun r =>
    !dstB ops (perm.getD r 0) t || decide (r = q) || (if r < q then reachC ops ops.size o (perm.getD r 0) else opD ops (perm.getD r 0) fun o' => reachC ops ops.size o' (perm.getD q 0))) &&
  (ss.all fun s => decide (s.1 < k) && opD ops s.1 fun o => o.dst == none && o.guard == none && isSt o.op && ((o.looksAt ops).all fun t => (List.range k).all fun j => !dstB ops j t || reachC ops ops.size o j) &&
    (List.range perm.length).all fun q => decide (q < s.2) || reachC ops ops.size o (perm.getD q 0)) &&
  ((List.range ops.size).all fun j => decide (j < k) || (match ops[j]? with
    | some o => (List.range j).all (fun i => reachC ops ops.size o i) && o.after.all (fun e => !Region.binds .any e || decide (e.on < j))
    | none => true))
theorem storeAt_some2 {P : Program} {m : Nat} {e : Operand → VV} {H : Heap} {K : Heap → Prop} {o : Option Oper} (h : storeAt P m e H K o) :
    ∃ o' t y x b, o = some o' ∧ o'.op = .store t y x ∧ K (upd H m (some b)) ∧ ∀ H' : Heap, H' m = H m → vStore P e H' 0 (fun v G n => v = .any ∧ G = upd H' m (some b) ∧ n = 0) t y x := by
  unfold storeAt at h
  split at h
  · rename_i o'
    split at h
    · rename_i t y x hop
      refine ⟨o', t, y, x, ?_⟩
      obtain ⟨hp, h⟩ := h
      unfold vStore onV at h
      dsimp only at h
      cases hy : e y <;> rw [hy] at hp h <;> simp only [isP] at hp <;> try exact hp.elim
      subst hp
      dsimp only at h
      obtain ⟨b, hb, h⟩ := bnd_iff.1 h
      cases b with
      | map es => exact h.elim
      | row s c =>
        obtain ⟨st, hst, hc, h⟩ := bnd_iff.1 h
        obtain ⟨u, hu, h⟩ := bnd_iff.1 h
        refine ⟨_, rfl, hop, h, fun H' hH' => ?_⟩
        unfold vStore onV
        dsimp only
        rw [hy]
        dsimp only
        exact bnd_intro (hH'.trans hb) (bnd_intro hst ⟨hc, bnd_intro hu ⟨rfl, rfl, rfl⟩⟩)
    · exact h.elim
  · exact h.elim
section
variable {P : Program} {ops : Array Oper} {k : Nat} {perm : List Nat} {ss : List (Nat × Nat)} {sts : List (Nat × Nat × Blk)} {K : VS → Prop}
end
section
variable {P : Program} {n0 : Nat} {K : VX → VS → Prop}
end
end Go.Proofs.Ytoibnghkcdopeaa.V
end
section
namespace Go.Proofs.Ytoibnghkcdopeaa.V
open Go Go.RowKit

def stF (m : Nat) (l : List (Nat × Blk)) (G : Heap) : Heap := l.foldl (fun G e => upd G m (some e.2)) G
def hpL (m : Nat) : List (Nat × Blk) → Heap → (Nat → Bool) → Heap
  | [], G, _ => G
  | e :: l, G, f => if f e.1 = true then hpL m l (upd G m (some e.2)) f else G
theorem hpL_cons {m : Nat} (e : Nat × Blk) (l : List (Nat × Blk)) (G : Heap) (f : Nat → Bool) : hpL m (e :: l) G f = if f e.1 = true then hpL m l (upd G m (some e.2)) f else G := rfl
theorem hpL_congr {m : Nat} {f g : Nat → Bool} : ∀ (l : List (Nat × Blk)) (G : Heap), (∀ e ∈ l, f e.1 = g e.1) → hpL m l G f = hpL m l G g
  | [], _, _ => rfl
  | e :: l, G, h => by
    rw [hpL_cons, hpL_cons, h e (by simp), hpL_congr l _ fun a ha => h a (by simp [ha])]
theorem hpL_mid {m : Nat} (f : Nat → Bool) : ∀ (pre l : List (Nat × Blk)) (G : Heap), (∀ e ∈ pre, f e.1 = true) → hpL m (pre ++ l) G f = hpL m l (stF m pre G) f
  | [], _, _, _ => rfl
  | e :: pre, l, G, h => by
    rw [List.cons_append, hpL_cons, if_pos (h e (by simp)), hpL_mid f pre l _ fun a ha => h a (by simp [ha])]
    rfl
theorem hpL_none {m : Nat} (l : List (Nat × Blk)) (G : Heap) (f : Nat → Bool) (h : ∀ a, l.head? = some a → f a.1 = false) : hpL m l G f = G := by
  cases l with
  | nil => rfl
  | cons e l => rw [hpL_cons, if_neg (by rw [h e rfl]; simp)]
theorem hpL_all {m : Nat} : ∀ (l : List (Nat × Blk)) (G : Heap), hpL m l G (fun _ => true) = stF m l G
  | [], _ => rfl
  | e :: l, G => by rw [hpL_cons, if_pos rfl, hpL_all l]; rfl
theorem hpL_pre {m : Nat} (f : Nat → Bool) : ∀ (l : List (Nat × Blk)) (G : Heap), ∃ pre post, l = pre ++ post ∧ hpL m l G f = stF m pre G
  | [], G => ⟨[], [], rfl, rfl⟩
  | e :: l, G => by
    rw [hpL_cons]
    split
    · obtain ⟨pre, post, h1, h2⟩ := hpL_pre f l (upd G m (some e.2))
      exact ⟨e :: pre, post, by rw [h1]; rfl, h2⟩
    · exact ⟨[], e :: l, rfl, rfl⟩
def ordB (ops : Array Oper) : List Nat → Bool
  | [] => true
  | j :: l => (l.all fun i => opD ops i fun o => reachC ops ops.size o j) && ordB ops l
theorem ordB_pre {ops : Array Oper} : ∀ {js pre : List Nat} {e : Nat} {post : List Nat}, ordB ops js = true → js = pre ++ e :: post → ∀ a ∈ pre, opD ops e (fun o => reachC ops ops.size o a) = true
  | js, [], e, post, _, _, a, ha => by cases ha
  | js, p :: pre, e, post, h, hj, a, ha => by
    subst hj
    simp only [List.cons_append,ordB,Bool.and_eq_true,List.all_eq_true] at h
    rcases List.mem_cons.1 ha with rfl | ha
    · exact h.1 e (by simp)
    · exact ordB_pre h.2 rfl a ha
def drawOk4 (ops : Array Oper) (k : Nat) (perm js : List Nat) : Bool := drawOk3 ops k perm (js.map fun j => (j, perm.length)) && decide js.Nodup && ordB ops js
section
variable {P : Program} {N : NN} {B : Nat} {ρ0 : Names} {w0 : World} {ops : Array Oper} {k nx : Nat} {js : List Nat} {hp : (Nat → Bool) → Heap} {perm : List Nat} {tm0 tmF : Nat → VV} {env : Nat → Nat → VV} {K : VS → Prop} {Q : Exit → Act → World → Prop}
theorem head4 (hk9 : k ≤ ops.size ∧ ops.size ≤ 1000000) (hd : ∀ o ∈ ops.toList, ∀ t, o.dst = some t → t < N)
    (hreach : ∀ j o, k ≤ j → ops[j]? = some o → (∀ i, i < j → reachB ops ops.size o i = true) ∧ ∀ e ∈ o.after, Region.binds .any e = true → e.on < j)
    (hb : ∀ j o, j < k → ops[j]? = some o → ∀ e ∈ o.after, Region.binds .any e = true → e.on < j)
    (hperm : ∀ i, i < k → (∀ e ∈ js, e ≠ i) → ∃ q : Nat, perm[q]? = some i)
    (hpk : ∀ (q : Nat) i, perm[q]? = some i → i < k ∧ ∀ e ∈ js, e ≠ i)
    (hpl : perm.length ≤ k)
    (huniq : ∀ (q r : Nat) i, perm[q]? = some i → perm[r]? = some i → q = r)
    (hone : ∀ i j t, i < k → j < k → i ≠ j → dstB ops i t = true → dstB ops j t = false)
    (henv : ∀ (q : Nat) i o t, perm[q]? = some i → ops[i]? = some o → t ∈ o.looksAt ops → ∀ listed, listed.getD i false = false → Closed ops listed → (∀ e ∈ o.after, Region.binds .any e = true → listed.getD e.on false = true) → tmQ ops listed k tm0 tmF t = env q t)
    (hsk : ∀ e ∈ js, e < k)
    (hpc : ∀ {f g : Nat → Bool}, (∀ e ∈ js, f e = g e) → hp f = hp g)
    (hF : ∀ (q : Nat) i o, perm[q]? = some i → ops[i]? = some o → ∀ listed : Array Bool, listed.getD i false = false → Closed ops listed → Fact2 P ops.toList (env q) tmF (hp fun j => listed.getD j false) (nx + 64 * q) o)
    (hS : ∀ e ∈ js, ∀ o, ops[e]? = some o → o.dst = none ∧ o.guard = none ∧ ∃ t y x, o.op = .store t y x ∧ (∀ listed, Closed ops listed → (∀ e ∈ o.after, Region.binds .any e = true → listed.getD e.on false = true) → ∀ z ∈ o.op.operands.toList, ev (tmQ ops listed k tm0 tmF) z = ev tmF z) ∧ (∀ z, z = y ∨ z = x → z ∈ o.op.operands.toList) ∧
      ∀ listed : Array Bool, e < listed.size → listed.getD e false = false → Closed ops listed → (∀ e ∈ o.after, Region.binds .any e = true → listed.getD e.on false = true) → vStore P (ev tmF) (hp fun j => listed.getD j false) 0 (fun v G n => v = .any ∧ (G = hp fun j => (listed.setIfInBounds e true).getD j false) ∧ n = 0) t y x)
    (htail : vlist P ops.toList (ops.toList.drop k) ⟨tmF, hp fun _ => true, nx + 64 * k⟩ K)
    (next : ∀ S' a' w' ρ', K S' → SR N B ρ0 w0 S' a' w' ρ' → Q .normal a' w') :
    ∀ (fuel : Nat) (listed : Array Bool) (a : Act) (w : World) (ρ : Names), ops.size ≤ cnt listed k + fuel → listed.size = ops.size → (∀ i, k ≤ i → listed.getD i false = false) → Closed ops listed →
      TM ρ w (tmQ ops listed k tm0 tmF) a → a.defers = N.ds → a.tmps.size = N → HR (ZF (Fr2 nx perm listed)) B ρ (hp fun j => listed.getD j false) 0 w → Below B w0 w → Ext ρ0 w0 ρ w → wpAny P .any ops Q fuel listed a w := by
  have fin : ∀ (fuel : Nat) (listed : Array Bool) (a : Act) (w : World) (ρ : Names), ops.size ≤ k + fuel → (∀ i, i < k → listed.getD i false = true) → listed.size = ops.size → (∀ i, k ≤ i → listed.getD i false = false) → Closed ops listed →
      TM ρ w (tmQ ops listed k tm0 tmF) a → a.defers = N.ds → a.tmps.size = N → HR (ZF (Fr2 nx perm listed)) B ρ (hp fun j => listed.getD j false) 0 w → Below B w0 w → Ext ρ0 w0 ρ w → wpAny P .any ops Q fuel listed a w := by
    intro fuel listed a w ρ hf hall hsz hl hc hT hdf hts hh hbl he
    have hTF : TM ρ w tmF a := fun t => by
      have := hT t
      unfold tmQ at this
      rw [if_neg (by intro e; obtain ⟨j, h1, h2, _⟩ := pendB_true.1 e; rw [hall j h1] at h2; cases h2)] at this
      exact this
    have hG : (hp fun j => listed.getD j false) = hp fun _ => true := hpc fun e he => hall e (hsk e he)
    rw [hG] at hh
    exact tail_any hd hreach next fuel k listed ⟨tmF, hp fun _ => true, nx + 64 * k⟩ a w ρ (Nat.le_refl _) (by omega) hsz (fun i => by
        by_cases hi : i < k
        · simp [hi, hall i hi]
        · simp [hi, hl i (by omega)]) hc htail
      ⟨hTF, hdf, hts, hh.zone (fun m (hm : nx + 64 * k ≤ m) => ⟨by omega, fun q i hq h1 h2 => by
        have : q < perm.length := (List.getElem?_eq_some_iff.1 hq).1
        omega⟩), hbl, he⟩
  obtain ⟨hk, hsm⟩ := hk9
  intro fuel
  induction fuel with
  | zero =>
    intro listed a w ρ hf hsz hl hc hT hdf hts hh hbl he
    have hkz : k = ops.size := by have := cnt_le listed k; omega
    exact fin 0 listed a w ρ (by omega) (fun i hi => by
      cases hx : listed.getD i false with
      | true => rfl
      | false => have := cnt_lt k i hi hx; omega) hsz hl hc hT hdf hts hh hbl he
  | succ fuel ih =>
    intro listed a w ρ hf hsz hl hc hT hdf hts hh hbl he
    by_cases hall : ∀ i, i < k → listed.getD i false = true
    · exact fin (fuel + 1) listed a w ρ (by have := cnt_le listed k; omega) hall hsz hl hc hT hdf hts hh hbl he
    · simp only [Classical.not_forall] at hall
      obtain ⟨j0, hj0, hj0l⟩ := hall
      have hj0f : listed.getD j0 false = false := by simpa using hj0l
      refine ⟨fun hr => absurd hr (exists_ready hsz hk hb j0 j0 (Nat.le_refl _) hj0 hj0f), fun i hi => ?_⟩
      obtain ⟨h0, o, ho, hafter⟩ := mem_ready.1 hi
      obtain ⟨hil, hif⟩ := getD_true_false.1 h0
      have hik : i < k := by
        rcases Nat.lt_or_ge i k with h | h
        · exact h
        · exfalso
          have := reach_listed hc ops.size o j0 ((hreach i o h ho).1 j0 (by omega)) hafter
          rw [hj0f] at this
          cases this
      have hdN : ∀ t, o.dst = some t → t < a.tmps.size := fun t ht => by
        rw [hts]
        exact hd o (by obtain ⟨hlt, e⟩ := Array.getElem?_eq_some_iff.1 ho; rw [← e]; simp) t ht
      have hcl : Closed ops (listed.setIfInBounds i true) := fun x o' hx hlx e' he' hb' => by
        rw [getD_set hil] at hlx ⊢
        split
        · rfl
        · by_cases hxi : x = i
          · subst hxi
            rw [ho] at hx
            injection hx with hx
            subst hx
            exact hafter e' he' hb'
          · rw [if_neg hxi] at hlx
            exact hc x o' hx hlx e' he' hb'
      -- the slots behind the operation
      have htm : ∀ (ρ' : Names) (x : Value) (w' : World) (v : VV), (∀ t, o.dst = some t → tmF t = v) → VR ρ' w' v x → Ext ρ w ρ' w' → TM ρ' w' (tmQ ops (listed.setIfInBounds i true) k tm0 tmF) (a.put o.dst x) := by
        intro ρ' x w' v hv hvx he' t
        have hput := (hT.ext he').put hdN hvx t
        have e : V.put o.dst v (tmQ ops listed k tm0 tmF) t = tmQ ops (listed.setIfInBounds i true) k tm0 tmF t := by
          by_cases htd : o.dst = some t
          · have h1 : V.put o.dst v (tmQ ops listed k tm0 tmF) t = v := by rw [htd]; simp [V.put, upd_ap]
            rw [h1]
            unfold tmQ
            rw [if_neg]
            · exact (hv t htd).symm
            · intro e
              obtain ⟨j, h1, h2, o', ho', h3⟩ := pendB_true.1 e
              rw [getD_set hil] at h2
              split at h2
              · cases h2
              · rename_i hji
                have := hone i j t hik h1 (Ne.symm hji) (dstB_iff.2 ⟨o, ho, htd⟩)
                rw [dstB_iff.2 ⟨o', ho', h3⟩] at this
                cases this
          · have h1 : V.put o.dst v (tmQ ops listed k tm0 tmF) t = tmQ ops listed k tm0 tmF t := by
              cases hod : o.dst with
              | none => rfl
              | some d => simp only [V.put,upd_ap]; rw [if_neg (by intro e; rw [e] at htd; exact htd hod)]
            rw [h1]
            unfold tmQ
            have : pendB ops (listed.setIfInBounds i true) k t = pendB ops listed k t := by
              rw [Bool.eq_iff_iff, pendB_true, pendB_true]
              constructor
              · rintro ⟨j, h1, h2, o', ho', h3⟩
                rw [getD_set hil] at h2
                split at h2
                · cases h2
                · exact ⟨j, h1, h2, o', ho', h3⟩
              · rintro ⟨j, h1, h2, o', ho', h3⟩
                refine ⟨j, h1, ?_, o', ho', h3⟩
                rw [getD_set hil, if_neg]
                · exact h2
                · intro e; subst e; rw [ho] at ho'; injection ho' with ho'; subst ho'; exact htd h3
            rw [this]
        rw [e] at hput
        exact hput
      by_cases hjs : ∃ e ∈ js, e = i
      · -- a store
        obtain ⟨e, hes, rfl⟩ := hjs
        obtain ⟨hdst, hg, t, y, x, hop, hev, hyx, hst⟩ := hS e hes o ho
        have hst := hst listed hil hif hc hafter
        have hev := hev listed hc hafter
        obtain ⟨GB, hGB⟩ : ∃ GB, GB = hp fun j => (listed.setIfInBounds e true).getD j false := ⟨_, rfl⟩
        have hset := hGB.symm
        rw [← hGB] at hst
        have hst2 : vStore P (ev (tmQ ops listed k tm0 tmF)) (hp fun j => listed.getD j false) 0 (fun v G n => v = .any ∧ G = GB ∧ n = 0) t y x := by
          unfold vStore at hst ⊢
          unfold onV at hst ⊢
          rw [hev y (hyx y (.inl rfl)), hev x (hyx x (.inr rfl))]
          exact hst
        have hr := store_sound hT hh t y x hop hst2
        have after : ∀ (ρ' : Names) (x : Value) (w' : World), HR (ZF (Fr2 nx perm listed)) B ρ' GB 0 w' → Ext ρ w ρ' w' → Below B w w' → wpAny P .any ops Q fuel (listed.setIfInBounds e true) (a.put o.dst x) w' := by
          intro ρ' x w' hh' he' hb'
          have hz := put_size a o.dst x
          refine ih _ _ _ ρ' ?_ (by simpa using hsz) (fun j hj => by rw [getD_set hil, if_neg (by omega)]; exact hl j hj) hcl ?_ (by rw [hz.2]; exact hdf) (by rw [hz.1]; exact hts) ?_ (hbl.trans hb') (he.trans he')
          · rw [cnt_set hil hif, if_pos hik]; omega
          · exact htm ρ' x w' .any (fun t ht => by rw [hdst] at ht; cases ht) (by simp [VR, VR1]) he'
          · rw [hset]
            refine hh'.zone fun m hm => ⟨hm.1, fun q j hq h1 h2 => ?_⟩
            have := hm.2 q j hq h1 h2
            rw [getD_set hil, if_neg (fun h => (hpk q j hq).2 e hes h.symm)] at this
            exact this
        have hw : (if Region.wanted o (yielded ops a.tmps) = true then o.wp P a w (wpAny P .any ops Q fuel (listed.setIfInBounds e true)) Q else wpAny P .any ops Q fuel (listed.setIfInBounds e true) (a.put o.dst undef) w) := by
          rw [if_pos (by simp [Region.wanted, hg])]
          unfold Oper.wp
          rcases hr with ⟨x, w', hr, hg⟩ | ⟨w', hr, hg⟩ | ⟨f, xs, hr, hcl'⟩
          · rw [hr]
            obtain ⟨v', H', n'', ρ', ⟨rfl, rfl, rfl⟩, h1, h2, h3, h4⟩ := hg
            exact after ρ' x w' h2 h3 h4
          · rw [hr]
            obtain ⟨v', H', n'', ρ', ⟨rfl, rfl, rfl⟩, h1, h2, h3, h4⟩ := hg
            exact after ρ' undef w' h2 h3 h4
          · rw [hr]
            refine Calls.mono hcl' fun e w' hee => ?_
            obtain ⟨x, rfl, v', H', n'', ρ', ⟨rfl, rfl, rfl⟩, h1, h2, h3, h4⟩ := hee
            exact after ρ' x w' h2 h3 h4
        unfold wpOp
        rw [ho]
        dsimp only
        split
        · rename_i hx; rw [if_pos hx] at hw; exact .inl hw
        · rename_i hx; rw [if_neg hx] at hw; exact hw
      -- another one
      obtain ⟨q, hq⟩ := hperm i hik fun e he h => hjs ⟨e, he, h⟩
      have hseen : ∀ t ∈ o.looksAt ops, tmQ ops listed k tm0 tmF t = env q t := fun t ht => henv q i o t hq ho ht listed hif hc hafter
      obtain ⟨G, hGe⟩ : ∃ G, G = hp fun j => listed.getD j false := ⟨_, rfl⟩
      have hFi : Fact2 P ops.toList (env q) tmF G (nx + 64 * q) o := by rw [hGe]; exact hF q i o hq ho listed hif hc
      have hGe' : (hp fun j => (listed.setIfInBounds i true).getD j false) = G := by
        rw [hGe]
        exact hpc fun e he => by rw [getD_set hil, if_neg (fun h => hjs ⟨e, he, h⟩)]
      rw [← hGe] at hh
      -- on behind the operation
      have go : ∀ (ρ' : Names) (x : Value) (w' : World) (v : VV) (n' : Nat), (∀ t, o.dst = some t → tmF t = v) → VR ρ' w' v x → HR (ZI (Fr2 nx perm listed) (nx + 64 * q)) B ρ' G n' w' → n' ≤ nx + 64 * q + 64 → Ext ρ w ρ' w' → Below B w w' →
          wpAny P .any ops Q fuel (listed.setIfInBounds i true) (a.put o.dst x) w' := by
        intro ρ' x w' v n' hv hvx hh' hn' he' hb'
        have hz := put_size a o.dst x
        refine ih _ _ _ ρ' ?_ (by simpa using hsz) (fun j hj => by rw [getD_set hil, if_neg (by omega)]; exact hl j hj) hcl (htm ρ' x w' v hv hvx he') (by rw [hz.2]; exact hdf) (by rw [hz.1]; exact hts) ?_ (hbl.trans hb') (he.trans he')
        · rw [cnt_set hil hif, if_pos hik]; omega
        · rw [hGe']
          refine hh'.zone fun m hm => .inr ⟨⟨hm.1, fun r j hr h1 h2 => ?_⟩, fun hc' => ?_⟩
          · have := hm.2 r j hr h1 h2
            rw [getD_set hil] at this
            split at this
            · cases this
            · exact this
          · have := hm.2 q i hq hc'.1 hc'.2
            rw [getD_set hil, if_pos rfl] at this
            cases this
      have hhI : HR (ZI (Fr2 nx perm listed) (nx + 64 * q)) B ρ G (nx + 64 * q) w := hh.zone fun m hm => by
        rcases hm with hm | hm
        · refine ⟨by omega, fun r j hr h1 h2 => ?_⟩
          have : r = q := by omega
          subst this
          rw [hq] at hr
          injection hr with hr
          subst hr
          exact hif
        · exact hm.1
      have run : Does2 P (env q) tmF G (nx + 64 * q) o → o.wp P a w (wpAny P .any ops Q fuel (listed.setIfInBounds i true)) Q := by
        rintro ⟨v, n', hv, hn1, hn2, hdo⟩
        have hop := hdo (ev (tmQ ops listed k tm0 tmF)) (fun v' H' n'' => v' = v ∧ H' = G ∧ n'' = n') (fun x hx => by
          cases x with
          | tmp t => exact hseen t (looks_operand hx)
          | _ => rfl) ⟨rfl, rfl, rfl⟩
        have hr := vopH_sound (Z := ZI (Fr2 nx perm listed) (nx + 64 * q)) hT hhI (fun v' H' n'' h1 h2 => (⟨Nat.le_refl _, by omega⟩ : nx + 64 * q ≤ nx + 64 * q ∧ nx + 64 * q < nx + 64 * q + 64)) (fun m hm => hh.fresh m ⟨by omega, fun r j hr h1 h2 => by have := (List.getElem?_eq_some_iff.1 hr).1; omega⟩) hop
        unfold Oper.wp
        rcases hr with ⟨x, w', hr, hg⟩ | ⟨w', hr, hg⟩ | ⟨f, xs, hr, hcl'⟩
        · rw [hr]
          obtain ⟨v', H', n'', ρ', ⟨rfl, rfl, rfl⟩, h1, h2, h3, h4⟩ := hg
          exact go ρ' x w' v' n'' hv h1 h2 hn2 h3 h4
        · rw [hr]
          obtain ⟨v', H', n'', ρ', ⟨rfl, rfl, rfl⟩, h1, h2, h3, h4⟩ := hg
          exact go ρ' undef w' v' n'' hv h1 h2 hn2 h3 h4
        · rw [hr]
          refine Calls.mono hcl' fun e w' hee => ?_
          obtain ⟨x, rfl, v', H', n'', ρ', ⟨rfl, rfl, rfl⟩, h1, h2, h3, h4⟩ := hee
          exact go ρ' x w' v' n'' hv h1 h2 hn2 h3 h4
      have skip : (∀ t, o.dst = some t → tmF t = .raw undef) → wpAny P .any ops Q fuel (listed.setIfInBounds i true) (a.put o.dst undef) w := fun hv =>
        go ρ undef w (.raw undef) (nx + 64 * q) hv (by simp [VR, VR1, C1]) hhI (by omega) (Ext.refl _ _) (Below.refl _ _)
      have hst : if Region.wanted o (yielded ops a.tmps) = true then o.wp P a w (wpAny P .any ops Q fuel (listed.setIfInBounds i true)) Q else wpAny P .any ops Q fuel (listed.setIfInBounds i true) (a.put o.dst undef) w := by
        rcases hFi with ⟨hg, hdo⟩ | ⟨g, want, d, hg, hdg, hrest⟩
        · rw [if_pos (by simp [Region.wanted, hg])]
          exact run hdo
        · have hTd := hT d
          rw [hseen d (looks_guard hg hdg)] at hTd
          have hyd : yielded ops a.tmps g = match a.tmps[d]? with | some (.bool b) => some b | _ => none := by
            unfold yielded
            rw [dstAt_eq, Array.getElem?_toList] at hdg
            rw [hdg]
            simp only [Option.bind_some]
            rfl
          have hbool : ∀ b, env q d = .bool b → Region.wanted o (yielded ops a.tmps) = (b == want) := fun b hb2 => by
            rw [hb2] at hTd
            have hx := hTd.bool
            have hbd : a.tmps[d]? = some (.bool b) := by
              rw [Array.getD_eq_getD_getElem?] at hx
              cases hy : a.tmps[d]? with
              | none => rw [hy] at hx; simp [undef] at hx
              | some y => rw [hy] at hx; simp at hx; rw [hx]
            simp only [Region.wanted,hg,hyd,hbd]
            cases b <;> cases want <;> rfl
          rcases hrest with ⟨hdv, hdo⟩ | ⟨hdv, hu⟩
          · rw [hbool want hdv, if_pos (by simp)]
            exact run hdo
          · have hw : Region.wanted o (yielded ops a.tmps) = false := by
              rcases hdv with hdv | hdv
              · rw [hbool _ hdv]; cases want <;> rfl
              · rw [hdv] at hTd
                have hx : a.tmps.getD d undef = undef := by simpa [VR, VR1, C1] using hTd
                simp only [Region.wanted,hg,hyd]
                rw [Array.getD_eq_getD_getElem?] at hx
                cases hy : a.tmps[d]? with
                | none => cases want <;> rfl
                | some y =>
                  rw [hy] at hx
                  simp only [Option.getD_some] at hx
                  subst hx
                  cases want <;> rfl
            rw [hw, if_neg (by simp)]
            exact skip hu
      unfold wpOp
      rw [ho]
      dsimp only
      split
      · rename_i hw; rw [if_pos hw] at hst; exact .inl hst
      · rename_i hw; rw [if_neg hw] at hst; exact hst
end
section
variable {P : Program} {ops : Array Oper} {k : Nat} {perm js : List Nat} {K : VS → Prop}
theorem region4 {S : VS} (hm : P.follows .mixedOrders = true) (hfr : ∀ m, S.nx ≤ m → S.hp m = none) (hok : drawOk4 ops k perm js = true) {tmF : Nat → VV} {GA : Heap}
    (hsame : ∀ t, (∀ o ∈ picks ops.toList perm, o.dst ≠ some t) → tmF t = S.tm t)
    (hnm : ∀ m, m < S.nx → GA m = S.hp m) (m : Nat) (sts : List (Nat × Blk)) (hjs : sts.map (·.1) = js)
    (hF : ∀ (q : Nat) o, (picks ops.toList perm)[q]? = some o → ∀ pre post, sts = pre ++ post → Fact2 P ops.toList (rd2 (picks ops.toList perm) q S.tm tmF) tmF (stF m pre GA) (S.nx + 64 * q) o)
    (hS : ∀ pre e post, sts = pre ++ e :: post → ∀ o t y x, ops[e.1]? = some o → o.op = .store t y x → vStore P (ev tmF) (stF m pre GA) 0 (fun v G n => v = .any ∧ G = upd (stF m pre GA) m (some e.2) ∧ n = 0) t y x)
    (htail : vlist P ops.toList (ops.toList.drop k) ⟨tmF, stF m sts GA, S.nx + 64 * k⟩ K) : vdraw P ops S K := by
  intro id N B ρ0 w0 Q a w ρ hd hT hdf hts hh hbl he next
  unfold drawOk4 at hok
  simp only [Bool.and_eq_true,decide_eq_true_eq] at hok
  obtain ⟨⟨hok, hnd⟩, hord⟩ := hok
  have hs1 : ∀ e ∈ js, ∃ s ∈ js.map (fun j => (j, perm.length)), s.1 = e := fun e he => ⟨_, List.mem_map.2 ⟨e, he, rfl⟩, rfl⟩
  have hs2 : ∀ s ∈ js.map (fun j => (j, perm.length)), ∃ e ∈ js, e = s.1 := fun s hs => by
    obtain ⟨j, hj, rfl⟩ := List.mem_map.1 hs
    exact ⟨j, hj, rfl⟩
  generalize js.map (fun j => (j, perm.length)) = ss at hok hs1 hs2
  unfold drawOk3 at hok
  simp only [Bool.and_eq_true,decide_eq_true_eq] at hok
  obtain ⟨⟨⟨⟨⟨⟨⟨⟨⟨hk9, hpl⟩, hone⟩, hpk⟩, hun⟩, hall⟩, hbk⟩, hrd⟩, hst⟩, htl⟩ := hok
  have hk := hk9.1
  have rep : ∀ i, (Array.replicate ops.size false).getD i false = false := fun i => by
    rw [Array.getD_eq_getD_getElem?, Array.getElem?_replicate]
    split <;> rfl
  have hpk1 : ∀ (q : Nat) i, perm[q]? = some i → i < k ∧ ∀ s ∈ ss, s.1 ≠ i := fun q i hq => by
    have := (List.all_eq_true.1 hpk) i (List.mem_of_getElem? hq)
    simp only [Bool.and_eq_true,decide_eq_true_eq,List.all_eq_true,bne_iff_ne] at this
    exact ⟨this.1, fun s hs e => this.2 s hs e.symm⟩
  have hpk' : ∀ (q : Nat) i, perm[q]? = some i → i < k ∧ ∀ e ∈ js, e ≠ i := fun q i hq => ⟨(hpk1 q i hq).1, fun e he h => by
    obtain ⟨s, hs, h'⟩ := hs1 e he
    exact (hpk1 q i hq).2 s hs (h'.trans h)⟩
  have hlt : ∀ i ∈ perm, i < ops.toList.length := fun i hi => by
    obtain ⟨q, hq, e⟩ := List.mem_iff_getElem.1 hi
    have := (hpk' q i (by rw [List.getElem?_eq_getElem hq, e])).1
    rw [Array.length_toList]; omega
  have hget : ∀ (q i : Nat) o, perm[q]? = some i → ops[i]? = some o → (picks ops.toList perm)[q]? = some o := fun q i o hq ho => by
    rw [picks_get _ _ hlt, hq]
    simpa using ho
  have hgetD : ∀ (q i : Nat), perm[q]? = some i → perm.getD q 0 = i := fun q i hq => by
    rw [List.getD_eq_getElem?_getD, hq]; rfl
  have hql : ∀ (q i : Nat), perm[q]? = some i → q < perm.length := fun q i hq => (List.getElem?_eq_some_iff.1 hq).1
  have hsome : ∀ i, i < k → ∃ o, ops[i]? = some o := fun i hi => ⟨ops[i], by simp [show i < ops.size by omega]⟩
  have hperm : ∀ i, i < k → (∀ e ∈ js, e ≠ i) → ∃ q : Nat, perm[q]? = some i := fun i hi hne => by
    have := (List.all_eq_true.1 hall) i (List.mem_range.2 hi)
    simp only [Bool.or_eq_true,List.any_eq_true,beq_iff_eq] at this
    rcases this with ⟨s, hs, h⟩ | h
    · obtain ⟨e, he, h'⟩ := hs2 s hs
      exact absurd (h'.trans h) (hne e he)
    · obtain ⟨q, hq, e⟩ := List.mem_iff_getElem.1 (List.contains_iff_mem.1 h)
      exact ⟨q, by rw [List.getElem?_eq_getElem hq, e]⟩
  have hstore : ∀ s ∈ ss, s.1 < k ∧ ∃ o, ops[s.1]? = some o ∧ o.dst = none ∧ o.guard = none ∧ isSt o.op = true ∧ (∀ t ∈ o.looksAt ops, ∀ j, j < k → dstB ops j t = true → reachB ops ops.size o j = true) ∧ ∀ (q i : Nat), perm[q]? = some i → s.2 ≤ q → reachB ops ops.size o i = true := fun s hs => by
    have h := (List.all_eq_true.1 hst) s hs
    simp only [Bool.and_eq_true,decide_eq_true_eq] at h
    obtain ⟨hjk, h⟩ := h
    obtain ⟨o, ho, h⟩ := opD_some h
    simp only [Bool.and_eq_true,beq_iff_eq] at h
    obtain ⟨⟨⟨⟨h1, h2⟩, h3⟩, h4⟩, h5⟩ := h
    refine ⟨hjk, o, ho, h1, h2, h3, fun t ht j hj hdj => ?_, fun q i hq hqq => ?_⟩
    · have := (List.all_eq_true.1 ((List.all_eq_true.1 h4) t ht)) j (List.mem_range.2 hj)
      rw [hdj] at this
      exact reachC_B _ _ _ (by simpa using this)
    · have := (List.all_eq_true.1 h5) q (List.mem_range.2 (hql q i hq))
      rw [hgetD q i hq] at this
      simp only [Bool.or_eq_true,decide_eq_true_eq] at this
      rcases this with h | h
      · omega
      · exact reachC_B _ _ _ h
  have hdj : ∀ j t, j < k → dstB ops j t = true → ∀ e ∈ js, e ≠ j := fun j t hj hdt e he h => by
    obtain ⟨s, hs, h'⟩ := hs1 e he
    obtain ⟨_, o, ho, h1, _⟩ := hstore s hs
    obtain ⟨o', ho', h2⟩ := dstB_iff.1 hdt
    rw [h', h, ho'] at ho; injection ho with ho; subst ho
    rw [h1] at h2; cases h2
  have hone' : ∀ i j t, i < k → j < k → i ≠ j → dstB ops i t = true → dstB ops j t = false := fun i j t hi hj hij h => by
    cases hx : dstB ops j t with
    | false => rfl
    | true =>
      exfalso
      obtain ⟨q, hq⟩ := hperm i hi (hdj i t hi h)
      obtain ⟨r, hr⟩ := hperm j hj (hdj j t hj hx)
      obtain ⟨o, ho, h1⟩ := dstB_iff.1 h
      obtain ⟨o', ho', h2⟩ := dstB_iff.1 hx
      rcases Nat.lt_trichotomy q r with h' | h' | h'
      · exact oneL_one _ q r o o' t hone h' (hget q i o hq ho) (hget r j o' hr ho') h1 h2
      · subst h'
        rw [hq] at hr; injection hr with hr; exact hij hr
      · exact oneL_one _ r q o' o t hone h' (hget r j o' hr ho') (hget q i o hq ho) h2 h1
  refine wp_region_any hm ?_
  have hnamed : ∀ m l, ρ m = some l → m < S.nx := fun m l hm' => by
    rcases Nat.lt_or_ge m S.nx with h' | h'
    · exact h'
    · have := hh.fresh m h'
      rw [this] at hm'
      cases hm'
  have hh0 : HR (ZF (Fr2 S.nx perm (Array.replicate ops.size false))) B ρ GA 0 { w with drawn := w.drawn + 1 } := by
    have hd0 := hh.drew
    refine ⟨hd0.base, fun m hm' => hh.fresh m hm'.1, hd0.lt, fun m m' l l' h1 h2 g1 g2 => ?_, fun m s v l hs hl' => ?_, fun m es l hs hl' => ?_⟩
    · rw [hnm m (hnamed m l h1)] at g1
      rw [hnm m' (hnamed m' l' h2)] at g2
      exact hd0.apart m m' l l' h1 h2 g1 g2
    · rw [hnm m (hnamed m l hl')] at hs
      exact hd0.row m s v l hs hl'
    · rw [hnm m (hnamed m l hl')] at hs
      exact hd0.map m es l hs hl'
  have hext : Ext ρ w ρ { w with drawn := w.drawn + 1 } := ⟨fun _ _ h => h, Nat.le_refl _, fun _ _ _ => rfl, fun _ _ h => .inl h, fun _ h => h, fun _ h => .inl h⟩
  have henv : ∀ (q : Nat) i o t, perm[q]? = some i → ops[i]? = some o → t ∈ o.looksAt ops → ∀ listed, listed.getD i false = false → Closed ops listed → (∀ e ∈ o.after, Region.binds .any e = true → listed.getD e.on false = true) → tmQ ops listed k S.tm tmF t = rd2 (picks ops.toList perm) q S.tm tmF t := by
    intro q i o t hq ho ht listed hif hc hafter
    have hrd2 := (List.all_eq_true.1 hrd) q (List.mem_range.2 (hql q i hq))
    rw [hgetD q i hq] at hrd2
    obtain ⟨o2, ho2, hrd2⟩ := opD_some hrd2
    rw [ho] at ho2; injection ho2 with ho2; subst ho2
    have hrd3 := fun (r j : Nat) (hr : perm[r]? = some j) => by
      have := (List.all_eq_true.1 ((List.all_eq_true.1 hrd2) t ht)) r (List.mem_range.2 (hql r j hr))
      rw [hgetD r j hr] at this
      exact this
    unfold rd2 tmQ
    by_cases hany : (((picks ops.toList perm).drop q).any fun o => o.dst == some t) = true
    · rw [if_pos hany, if_pos]
      rw [List.any_eq_true] at hany
      obtain ⟨o', ho', hdt⟩ := hany
      obtain ⟨r0, hr0, e⟩ := List.mem_iff_getElem.1 ho'
      have hr : (picks ops.toList perm)[q + r0]? = some o' := by
        rw [← List.getElem?_drop, List.getElem?_eq_getElem hr0, e]
      rw [picks_get _ _ hlt] at hr
      obtain ⟨j, hj, hjo⟩ := Option.bind_eq_some_iff.1 hr
      have hjo : ops[j]? = some o' := by simpa using hjo
      have hjk := (hpk' _ j hj).1
      have hdt : o'.dst = some t := by simpa using hdt
      refine pendB_true.2 ⟨j, hjk, ?_, o', hjo, hdt⟩
      by_cases h0 : r0 = 0
      · subst h0
        rw [Nat.add_zero, hq] at hj; injection hj with hj
        rw [← hj]; exact hif
      · have := hrd3 (q + r0) j hj
        rw [dstB_iff.2 ⟨o', hjo, hdt⟩] at this
        simp only [Bool.not_true,Bool.false_or,Bool.or_eq_true,decide_eq_true_eq] at this
        rcases this with h | h
        · omega
        · rw [if_neg (by omega)] at h
          obtain ⟨o3, ho3, h⟩ := opD_some h
          rw [hjo] at ho3; injection ho3 with ho3; subst ho3
          have h := reachC_B _ _ _ h
          cases hx : listed.getD j false with
          | false => rfl
          | true =>
            have := reach_listed hc ops.size o' i h (fun e he hb' => hc j o' hjo hx e he hb')
            rw [hif] at this
            cases this
    · rw [if_neg hany, if_neg]
      intro e
      obtain ⟨j, h1, h2, o', ho', h3⟩ := pendB_true.1 e
      obtain ⟨r, hr⟩ := hperm j h1 (hdj j t h1 (dstB_iff.2 ⟨o', ho', h3⟩))
      by_cases hrq : q ≤ r
      · refine hany ?_
        rw [List.any_eq_true]
        refine ⟨o', ?_, by simp [h3]⟩
        have hpr := hget r j o' hr ho'
        have : ((picks ops.toList perm).drop q)[r - q]? = some o' := by rw [List.getElem?_drop, show q + (r - q) = r by omega]; exact hpr
        exact List.mem_of_getElem? this
      · have := hrd3 r j hr
        rw [dstB_iff.2 ⟨o', ho', h3⟩] at this
        simp only [Bool.not_true,Bool.false_or,Bool.or_eq_true,decide_eq_true_eq] at this
        rcases this with h | h
        · omega
        · rw [if_pos (by omega)] at h
          have := reach_listed hc ops.size o j (reachC_B _ _ _ h) hafter
          rw [h2] at this
          cases this
  refine head4 (K := K) (hp := hpL m sts GA) (js := js) (tm0 := S.tm) (tmF := tmF) (nx := S.nx) (N := N) (B := B) (ρ0 := ρ0) (w0 := w0) (k := k) (perm := perm) (env := fun q => rd2 (picks ops.toList perm) q S.tm tmF) hk9 hd ?_ ?_ hperm hpk' hpl ?_ hone' henv ?_ (fun {f g} h => hpL_congr sts GA (fun e he => h e.1 (by rw [← hjs]; exact List.mem_map.2 ⟨e, he, rfl⟩))) ?_ ?_ (by rw [hpL_all]; exact htail) ?_ ops.size _ a _ ρ (by omega) (by simp) ?_ ?_ ?_ hdf hts ?_ ?_ (he.trans hext)
  · intro j o hj ho
    have hlt : j < ops.size := (Array.getElem?_eq_some_iff.1 ho).1
    have := (List.all_eq_true.1 htl) j (List.mem_range.2 hlt)
    rw [ho] at this
    simp only [Bool.or_eq_true,decide_eq_true_eq,Bool.and_eq_true] at this
    rcases this with this | ⟨t1, t2⟩
    · omega
    · exact ⟨fun i hi => reachC_B _ _ _ ((List.all_eq_true.1 t1) i (List.mem_range.2 hi)), fun e he' hb => by
        have := (Array.all_eq_true_iff_forall_mem.1 t2) e he'
        simpa [hb] using this⟩
  · intro j o hj ho e he' hb
    have := (List.all_eq_true.1 hbk) j (List.mem_range.2 hj)
    obtain ⟨o2, ho2, this⟩ := opD_some this
    rw [ho] at ho2; injection ho2 with ho2; subst ho2
    have := (Array.all_eq_true_iff_forall_mem.1 this) e he'
    simpa [hb] using this
  · intro q r i hq hr
    have := (List.all_eq_true.1 ((List.all_eq_true.1 hun) q (List.mem_range.2 (hql q i hq)))) r (List.mem_range.2 (hql r i hr))
    rw [hgetD q i hq, hgetD r i hr] at this
    simpa using this
  · intro e he
    obtain ⟨s, hs, h⟩ := hs1 e he
    rw [← h]
    exact (hstore s hs).1
  · intro q i o hq ho listed hif hc
    obtain ⟨pre, post, h1, h2⟩ := hpL_pre (m := m) (fun j => listed.getD j false) sts GA
    rw [h2]
    exact hF q o (hget q i o hq ho) pre post h1
  · intro e he o ho
    obtain ⟨s, hs, hse⟩ := hs1 e he
    obtain ⟨_, o2, ho2, h1, h2, h3, h4, h5⟩ := hstore s hs
    rw [hse, ho] at ho2; injection ho2 with ho2; subst ho2
    cases hop : o.op <;> rw [hop] at h3 <;> simp only [isSt,Bool.false_eq_true] at h3
    rename_i t y x
    refine ⟨h1, h2, t, y, x, rfl, fun listed hc hafter z hz => ?_, fun z hz => ?_, fun listed hil hif hc hafter => ?_⟩
    · cases z with
      | tmp u =>
        show tmQ ops listed k S.tm tmF u = tmF u
        unfold tmQ
        rw [if_neg]
        intro e
        obtain ⟨j, g1, g2, o', ho', g3⟩ := pendB_true.1 e
        have := h4 u (looks_operand (by rw [hop]; exact hz)) j g1 (dstB_iff.2 ⟨o', ho', g3⟩)
        have := reach_listed hc ops.size o j this hafter
        rw [g2] at this
        cases this
      | _ => rfl
    · rcases hz with rfl | rfl <;> simp [Op.operands]
    · obtain ⟨e2, he2, h21⟩ := List.mem_map.1 (show e ∈ sts.map (·.1) by rw [hjs]; exact he)
      obtain ⟨pre, post, hsp⟩ := List.append_of_mem he2
      subst h21
      have hpre : ∀ a ∈ pre, listed.getD a.1 false = true := fun a ha => by
        have := ordB_pre (ops := ops) (js := js) hord (pre := pre.map (·.1)) (e := e2.1) (post := post.map (·.1)) (by rw [← hjs, hsp]; simp) a.1 (List.mem_map.2 ⟨a, ha, rfl⟩)
        obtain ⟨o', ho', this⟩ := opD_some this
        rw [ho] at ho'; injection ho' with ho'; subst ho'
        exact reach_listed hc ops.size o a.1 (reachC_B _ _ _ this) hafter
      have hpost : ∀ a ∈ post, (listed.setIfInBounds e2.1 true).getD a.1 false = false := fun a ha => by
        have hne : a.1 ≠ e2.1 := fun h => by
          have hn := hnd
          rw [← hjs, hsp] at hn
          simp only [List.map_append,List.map_cons] at hn
          have := (List.nodup_append.1 hn).2.1
          rw [List.nodup_cons] at this
          exact this.1 (List.mem_map.2 ⟨a, ha, h⟩)
        rw [getD_set hil, if_neg hne]
        cases hx : listed.getD a.1 false with
        | false => rfl
        | true =>
          exfalso
          obtain ⟨p1, p2, hsp2⟩ := List.append_of_mem ha
          have := ordB_pre (ops := ops) (js := js) hord (pre := pre.map (·.1) ++ e2.1 :: p1.map (·.1)) (e := a.1) (post := p2.map (·.1)) (by rw [← hjs, hsp, hsp2]; simp) e2.1 (by simp)
          obtain ⟨o', ho', this⟩ := opD_some this
          have := reach_listed hc ops.size o' e2.1 (reachC_B _ _ _ this) (fun e he hb' => hc a.1 o' ho' hx e he hb')
          rw [hif] at this
          cases this
      have e1 : (hpL m sts GA fun j => listed.getD j false) = stF m pre GA := by
        rw [hsp, hpL_mid _ pre _ GA hpre]
        exact hpL_none _ _ _ (by
          intro a ha
          rw [List.head?_cons] at ha
          injection ha with ha
          subst ha
          exact hif)
      have e3 : (hpL m sts GA fun j => (listed.setIfInBounds e2.1 true).getD j false) = upd (stF m pre GA) m (some e2.2) := by
        rw [hsp, hpL_mid _ pre _ GA fun a ha => by
          rw [getD_set hil]
          split
          · rfl
          · exact hpre a ha]
        rw [hpL_cons, if_pos (by rw [getD_set hil, if_pos rfl])]
        exact hpL_none _ _ _ (by
          intro a ha
          exact hpost a (List.mem_of_mem_head? ha))
      rw [e1, e3]
      exact hS pre e2 post hsp o t y x ho hop
  · intro S' a' w' ρ' hk' hS'
    exact next S' a' w' ρ' hk' hS'.tm hS'.defers hS'.size hS'.heap hS'.below hS'.ext
  · intro i _
    exact rep i
  · intro i o _ hli
    rw [rep i] at hli
    cases hli
  · intro t
    unfold tmQ
    split
    · exact (hT.ext hext) t
    · rename_i hp
      rw [hsame t]
      · exact (hT.ext hext) t
      · intro o ho e
        obtain ⟨q, hq, e2⟩ := List.mem_iff_getElem.1 ho
        have hq2 : (picks ops.toList perm)[q]? = some o := by rw [List.getElem?_eq_getElem hq, e2]
        rw [picks_get _ _ hlt] at hq2
        obtain ⟨j, hj, hjo⟩ := Option.bind_eq_some_iff.1 hq2
        exact hp (pendB_true.2 ⟨j, (hpk' q j hj).1, rep j, o, by simpa using hjo, e⟩)
  · rw [show (hpL m sts GA fun j => (Array.replicate ops.size false).getD j false) = GA from hpL_none _ _ _ fun a _ => rep a.1]
    exact hh0
  · exact hbl.drew
def headsM (P : Program) (ops l : List Oper) (tm0 : Nat → VV) (n m : Nat) (tm2 : Nat → VV) : List Nat → Heap → (Heap → Prop) → Prop
  | [], H, K => K H
  | j :: js, H, K => storeAt P m (ev tm2) H (fun G => vheld P ops l tm0 G n fun tm' H' _ => cnd (tm' = tm2 ∧ H' = G) (headsM P ops l tm0 n m tm2 js G K)) ops[j]?
theorem headsM_some {P : Program} {ops : Array Oper} {l : List Oper} {tm0 : Nat → VV} {n m : Nat} {tm2 : Nat → VV} (hone : oneL l = true) (hmn : m < n) {K : Heap → Prop} : ∀ (js : List Nat) (H : Heap), (∀ m, n ≤ m → H m = none) → headsM P ops.toList l tm0 n m tm2 js H K →
    ∃ sts : List (Nat × Blk), sts.map (·.1) = js ∧ K (stF m sts H) ∧
      (∀ pre e post, sts = pre ++ e :: post → ∀ o t y x, ops[e.1]? = some o → o.op = .store t y x → vStore P (ev tm2) (stF m pre H) 0 (fun v G n => v = .any ∧ G = upd (stF m pre H) m (some e.2) ∧ n = 0) t y x) ∧
      ∀ pre e post, sts = pre ++ e :: post → ∀ q o, l[q]? = some o → Fact2 P ops.toList (rd2 l q tm0 tm2) tm2 (stF m (pre ++ [e]) H) (n + 64 * q) o
  | [], H, _, h => ⟨[], rfl, h, fun pre e post hs => by simp at hs, fun pre e post hs => by simp at hs⟩
  | j :: js, H, hfr, h => by
    obtain ⟨o', t, y, x, b, ho, hop, hk, hst⟩ := storeAt_some2 h
    have hfr' : ∀ m', n ≤ m' → (upd H m (some b)) m' = none := fun m' hm' => by rw [upd_ap, if_neg (by omega)]; exact hfr m' hm'
    obtain ⟨tmG, G2, ⟨⟨et, eH⟩, l1⟩, l2, l3, l4⟩ := held2 (ops := ops) _ tm0 (upd H m (some b)) n hone hfr' hk
    subst et
    obtain ⟨sts, h1, h2, h3, h4⟩ := headsM_some hone hmn js _ hfr' l1
    refine ⟨(j, b) :: sts, by rw [List.map_cons, h1], h2, fun pre e post hs => ?_, fun pre e post hs => ?_⟩
    · cases pre with
      | nil =>
        simp only [List.nil_append,List.cons.injEq] at hs
        obtain ⟨rfl, rfl⟩ := hs
        intro o t1 y1 x1 ho1 hop1
        rw [show ops.toList[j]? = ops[j]? by simp] at ho
        rw [ho1] at ho; injection ho with ho; subst ho
        rw [hop1] at hop; injection hop with e1 e2 e3
        subst e1 e2 e3
        exact hst H rfl
      | cons p pre =>
        simp only [List.cons_append,List.cons.injEq] at hs
        obtain ⟨rfl, hs⟩ := hs
        exact h3 pre e post hs
    · cases pre with
      | nil =>
        simp only [List.nil_append,List.cons.injEq] at hs
        obtain ⟨rfl, rfl⟩ := hs
        intro q o hq
        obtain ⟨Hq, q1, q2, q3, q4⟩ := l4 q o hq
        show Fact2 P ops.toList _ _ (upd H m (some b)) _ o
        exact q4 _ (fun m' b' hm' => by rw [← eH]; exact q3 m' b' hm')
      | cons p pre =>
        simp only [List.cons_append,List.cons.injEq] at hs
        obtain ⟨rfl, hs⟩ := hs
        exact h4 pre e post hs
theorem regionM {S : VS} (hm : P.follows .mixedOrders = true) (hfr : ∀ m, S.nx ≤ m → S.hp m = none) (hok : drawOk4 ops k perm js = true) (m : Nat) (hmn : m < S.nx)
    (h : vheld P ops.toList (picks ops.toList perm) S.tm S.hp S.nx fun tm H _ => cnd (H = S.hp) (headsM P ops.toList (picks ops.toList perm) S.tm S.nx m tm js S.hp fun G => vlist P ops.toList (ops.toList.drop k) ⟨tm, G, S.nx + 64 * k⟩ K)) : vdraw P ops S K := by
  have hok' := hok
  unfold drawOk4 drawOk3 at hok'
  simp only [Bool.and_eq_true,decide_eq_true_eq] at hok'
  have hone := hok'.1.1.1.1.1.1.1.1.1.2
  obtain ⟨tmF, G1, ⟨e1, k1⟩, k2, k3, k4⟩ := held2 (ops := ops) _ S.tm S.hp S.nx hone hfr h
  obtain ⟨sts, h1, h2, h3, h4⟩ := headsM_some hone hmn js S.hp hfr k1
  refine region4 hm hfr hok (GA := S.hp) k2 (fun _ _ => rfl) m sts h1 (fun q o ho pre post hs => ?_) h3 h2
  rcases List.eq_nil_or_concat pre with rfl | ⟨p, e, rfl⟩
  · obtain ⟨Hq, q1, q2, q3, q4⟩ := k4 q o ho
    exact q4 S.hp (fun m' b' hm' => by rw [← e1]; exact q3 m' b' hm')
  · rw [List.concat_eq_append] at hs ⊢
    exact h4 p e post (by rw [hs]; simp) q o ho
end
noncomputable def hdM : (P : Program) → (ops l : List Oper) → (tm0 : Nat → VV) → (n m : Nat) → (tm2 : Nat → VV) → List Nat → Heap → (Heap → Prop) → Prop := Classical.choose (⟨headsM, rfl⟩ : ∃ f : (P : Program) → (ops l : List Oper) → (tm0 : Nat → VV) → (n m : Nat) → (tm2 : Nat → VV) → List Nat → Heap → (Heap → Prop) → Prop, f = headsM)
theorem hdM_eq : hdM = headsM := Classical.choose_spec (⟨headsM, rfl⟩ : ∃ f : (P : Program) → (ops l : List Oper) → (tm0 : Nat → VV) → (n m : Nat) → (tm2 : Nat → VV) → List Nat → Heap → (Heap → Prop) → Prop, f = headsM)
theorem hdM_nil (P : Program) (ops l : List Oper) (tm0 : Nat → VV) (n m : Nat) (tm2 : Nat → VV) (H : Heap) (K : Heap → Prop) : hdM P ops l tm0 n m tm2 [] H K = K H := by rw [hdM_eq]; exact id (Eq.refl _)
theorem hdM_cons (P : Program) (ops l : List Oper) (tm0 : Nat → VV) (n m : Nat) (tm2 : Nat → VV) (j : Nat) (js : List Nat) (H : Heap) (K : Heap → Prop) : hdM P ops l tm0 n m tm2 (j :: js) H K = storeAt P m (ev tm2) H (fun G => vh P ops l tm0 G n fun tm' H' _ => cnd (tm' = tm2 ∧ H' = G) (hdM P ops l tm0 n m tm2 js G K)) ops[j]? := by rw [hdM_eq, vh_eq]; exact id (Eq.refl _)
section
variable {P : Program} {n0 : Nat} {K : VX → VS → Prop}
theorem ok_drawM {id : Nat} {l : List Oper} {tm : Nat → VV} {H : Heap} {n : Nat} (k : Nat) (perm js : List Nat) (m : Nat) (hm : P.follows .mixedOrders = true) (hd : drawOk4 l.toArray k perm js = true) (hmn : m < n) (hfr : ∀ m, n ≤ m → H m = none)
    (h : ∀ M : VS → Prop, (∀ S, K .normal S → M S) → vh P l (picks l perm) tm H n fun tm2 H2 _ => cnd (H2 = H) (hdM P l (picks l perm) tm n m tm2 js H fun G => vl P l (l.drop k) ⟨tm2, G, n + 64 * k⟩ M)) : Ok P n0 (.region id l.toArray true) ⟨tm, H, n⟩ K := fun N B ρ0 w0 Q a w ρ h0 hok hS next => by
  simp only [codeOk,List.all_eq_true] at hok
  exact regionM (S := ⟨tm, H, n⟩) hm hfr hd m hmn (by simpa only [vh_def,vl_def,hdM_eq] using h _ fun _ h => h) id N B ρ0 w0 Q a w ρ (fun o ho t ht => by have := hok o ho; rw [ht] at this; simpa using this) hS.tm hS.defers hS.size hS.heap hS.below hS.ext
    fun S' a' w' ρ' hk h1 h2 h3 h4 h5 h6 => next .normal S' a' w' ρ' hk ⟨h1, h2, h3, h4, h5, h6⟩
end
end Go.Proofs.Ytoibnghkcdopeaa.V
end
section
namespace Go.Proofs.Ytoibnghkcdopeaa.V
open Go Go.Proofs.Ytoibnghkcdopeaa Go.Proofs.Ytoibnghkcdopeaa.Gf
set_option maxRecDepth 100000
set_option maxHeartbeats 2000000
abbrev prtSh : Sh := .st [.cell, .cell]
def encPrt (p : Prt) : VV := .agg [.int .i64 p.i, .str p.d]
abbrev encPrts (l : List Prt) : VV := .dat prtSh (l.map encPrt)
theorem nl_prt (p : Prt) : nl (encPrt p) = true := rfl
theorem nls_prt (l : List Prt) : nls (l.map encPrt) = true := nls_map _ nl_prt l
instance : Inhabited Prt := ⟨⟨0, []⟩⟩
def i64P (x : Int) : Prop := -9223372036854775808 ≤ x ∧ x ≤ 9223372036854775807
theorem rowsI_nat (n : Nat) : rowsI n = rowsN n := by unfold rowsI rowsN; omega
theorem rowsI_pos {n : Int} (h : 0 ≤ n) : rowsI n = (n + 2) / 3 := by unfold rowsI; rw [if_neg (by omega)]
theorem rowsI_neg {n : Int} (h : n < 0) : rowsI n = 0 := by unfold rowsI; rw [if_pos h]
theorem srows_spec (n : Int) (h : i64P n) : Spec Try.prog 13 [.int .i64 n] (.int .i64 (rowsI n)) := by
  obtain ⟨h1, h2⟩ := h
  have e1 := fun h => rowsI_neg (n := n) h
  have e2 := fun h => rowsI_pos (n := n) h
  generalize rowsI n = r at e1 e2
  refine spec_ok Try.func13 rfl rfl (by kernel_rfl) (k := 1) rfl (by decide) ?_
  repeat' (first|(with_reducible first|refine yrl (by constructor) ?_|refine jk (fun M hM=>?_)|(refine hM _ ?_;clear hM M)|refine xb3 (by decide) ?_|refine yqa (by assumption) ?_ ?_|refine yqb (by assumption) ?_ ?_)|((with_reducible refine je ?_)<;>(first|rfl|assumption|(simp only [znl,nls_u,nls_prt,nl_prt];(first|done|fail))))|(with_reducible refine jf (by (simp only [↓reduceIte,zlk,Nat.reduceEqDiff,reduceCtorEq]);exact rfl) ?_)|((with_reducible first|refine jg (fun hc=>?_) (fun hc=>?_)|refine jh (fun hc=>?_) (fun hc=>?_))<;>(try simp (disch:=omega) only [zhb] at hc)<;>(try (exfalso;omega))<;>(try subst hc))|(with_reducible refine ji (by omega) ?_)|(simp (config := { maxSteps := 400000 }) only [↓jt,↓reduceIte,zvs,reduceCtorEq,Nat.reduceEqDiff,Nat.reduceAdd,Nat.reduceLeDiff,Nat.reduceMul,Int.reduceBNe,Int.reduceBEq,Int.reduceEq,Int.reduceNe,Int.reduceLT,Int.reduceLE,Int.reduceGT,Int.reduceGE,Int.reduceNeg,Int.reduceToNat,Nat.reduceLT,Nat.reduceSub,tab,Try.results13,jTA])|(simp (disch:=omega) only [ziw]))
  all_goals first
    | (exfalso; omega)
    | (simp only [zrds]; omega)
theorem nth_ge {l : List UInt8} {i : Nat} (h : l.length ≤ i) : nth l i = 0 := by simp [nth, List.getD_eq_getElem?_getD, List.getElem?_eq_none h]
end Go.Proofs.Ytoibnghkcdopeaa.V
end
section
namespace Go.Proofs.Ytoibnghkcdopeaa.V
open Go Go.Proofs.Ytoibnghkcdopeaa Go.Proofs.Ytoibnghkcdopeaa.Gf
set_option maxRecDepth 100000
set_option maxHeartbeats 4000000
end Go.Proofs.Ytoibnghkcdopeaa.V
end
section
namespace Go.Proofs.Ytoibnghkcdopeaa.V
open Go Go.Proofs.Ytoibnghkcdopeaa Go.Proofs.Ytoibnghkcdopeaa.Gf
set_option maxRecDepth 100000
set_option maxHeartbeats 4000000
theorem val123 (a b c t : UInt8) : atVal [1, 2, 3] [a, b, c] t = lag [1, 2, 3] [a, b, c] t := by
  have h : atOk [1, 2, 3] [a, b, c] = true := by unfold atOk dis; simp
  rw [atVal, if_pos h]
def u8n (k : Nat) : UInt8 := UInt8.ofNat k
def cutTo (d : List UInt8) (k : Nat) : List Prt := (List.range k).map fun i : Nat => (⟨(i : Int) + 1, partOf d (u8n (i + 1))⟩ : Prt)
theorem cutTo_five (d : List UInt8) : cutTo d 5 = cutS d := rfl
theorem B8_u8n (k : Nat) (h : k < 256) : B8 (u8n k) = k := B8_of k h
end Go.Proofs.Ytoibnghkcdopeaa.V
end
section
namespace Go.Proofs.Ytoibnghkcdopeaa.V
open Go Go.Proofs.Ytoibnghkcdopeaa Go.Proofs.Ytoibnghkcdopeaa.Gf
set_option maxRecDepth 100000
set_option maxHeartbeats 4000000
structure GoodP (n : Int) (l : List Prt) : Prop where
  nd : (l.map (·.i)).Nodup
  rg : ∀ p ∈ l, 1 ≤ p.i ∧ p.i ≤ 5
  ln : ∀ p ∈ l, (p.d.length : Int) = n
theorem val3 {x y z : UInt8} (h : x ≠ y ∧ x ≠ z ∧ y ≠ z) (a b c t : UInt8) : atVal [x, y, z] [a, b, c] t = lag [x, y, z] [a, b, c] t := by
  have h : atOk [x, y, z] [a, b, c] = true := by unfold atOk dis; simp [h]
  rw [atVal, if_pos h]
theorem nthB (l : List UInt8) (i : Nat) : (((l.getD i 0).toNat : Nat) : Int) = B8 (nth l i) := rfl
end Go.Proofs.Ytoibnghkcdopeaa.V
end
section
namespace Go.Proofs.Ytoibnghkcdopeaa.V
open Go Go.Proofs.Ytoibnghkcdopeaa Go.Proofs.Ytoibnghkcdopeaa.Gf
set_option maxRecDepth 100000
def znA6 := And.intro @nls_u <| And.intro @nls_prt <| And.intro @nl_prt <| True.intro
set_option maxHeartbeats 4000000
def wts (w0 w1 w2 : UInt8) : Nat → List UInt8
  | 0 => [0, 0, 0]
  | 1 => [w0, 0, 0]
  | 2 => [w0, w1, 0]
  | _ => [w0, w1, w2]
def prt3 (p0 p1 p2 : UInt8) : Nat → UInt8
  | 0 => 0
  | 1 => p0
  | 2 => p0 ^^^ p1
  | _ => (p0 ^^^ p1) ^^^ p2
theorem fillU_same (n k : Nat) (f : Nat → UInt8) (h : k < n) : (fillU n k f).set k 0 = fillU n k f := by
  unfold fillU
  rw [List.set_append_right _ _ (by rw [tabU_len]; exact Nat.le_refl _), tabU_len, Nat.sub_self, show n - k = (n - (k + 1)) + 1 by omega, List.replicate_succ, List.set_cons_zero]
theorem line_spec (x y z : UInt8) (hne : x ≠ y ∧ x ≠ z ∧ y ≠ z) (a b c : List UInt8) (n : Nat) (hn : n ≤ 100000) (ha : a.length = n) (hb : b.length = n) (hc : c.length = n) (t : UInt8) :
    Spec Try.prog 33 [.agg [.int .u8 (B8 x), .int .u8 (B8 y), .int .u8 (B8 z)], .agg [.str a, .str b, .str c], .int .u8 (B8 t)] (.str (lineP x y z a b c n t)) := by
  obtain ⟨f, hf⟩ : ∃ f : Nat → UInt8, f = fun i => lag [x, y, z] [nth a i, nth b i, nth c i] t := ⟨_, rfl⟩
  have hL : lineP x y z a b c n t = tabU n f := by rw [hf]; rfl
  rw [hL]
  obtain ⟨w0, h0⟩ : ∃ w, w = lag [x, y, z] [1, 0, 0] t := ⟨_, rfl⟩
  obtain ⟨w1, h1⟩ : ∃ w, w = lag [x, y, z] [0, 1, 0] t := ⟨_, rfl⟩
  obtain ⟨w2, h2⟩ : ∃ w, w = lag [x, y, z] [0, 0, 1] t := ⟨_, rfl⟩
  have A0 := at_spec [x, y, z] [1, 0, 0] (by simp) (by simp) t
  have A1 := at_spec [x, y, z] [0, 1, 0] (by simp) (by simp) t
  have A2 := at_spec [x, y, z] [0, 0, 1] (by simp) (by simp) t
  rw [val3 hne, ← h0] at A0
  rw [val3 hne, ← h1] at A1
  rw [val3 hne, ← h2] at A2
  have hfi : ∀ i, (mul w0 (nth a i) ^^^ mul w1 (nth b i)) ^^^ mul w2 (nth c i) = f i := fun i => by
    rw [h0, h1, h2, hf]; exact lag3_lin hne.1 hne.2.1 hne.2.2 _ _ _ _
  have e2 : ∀ a b c : UInt8, [a, b, c].map encU = [.int .u8 (B8 a), .int .u8 (B8 b), .int .u8 (B8 c)] := fun _ _ _ => rfl
  have b0 : B8 0 = 0 := rfl
  have b1 : B8 1 = 1 := rfl
  simp only [encBs,e2,b0,b1] at A0 A1 A2
  clear h0 h1 h2 hf hL
  have hX : Has (.arr 3 .cell) (.agg [.int .u8 (B8 x), .int .u8 (B8 y), .int .u8 (B8 z)]) := by simp [Has, VV.leaf]
  have hF : Has (.arr 3 .cell) (.agg [.str a, .str b, .str c]) := by simp [Has, VV.leaf]
  refine spec_ok Try.func33 rfl rfl (by kernel_rfl) (k := 3) rfl (by decide) ?_
  repeat' (first|(with_reducible first|refine yrl (by constructor) ?_|refine jk (fun M hM=>?_)|(refine hM _ ?_;clear hM M)|refine xb3 (by decide) ?_|refine yqa (by assumption) ?_ ?_|refine yqb (by assumption) ?_ ?_)|((with_reducible refine je ?_)<;>(first|rfl|assumption|(simp only [znl,znA6];(first|done|fail))))|(with_reducible refine jf (by (simp only [↓reduceIte,zlk,Nat.reduceEqDiff,reduceCtorEq]);exact rfl) ?_)|((with_reducible first|refine jg (fun hc=>?_) (fun hc=>?_)|refine jh (fun hc=>?_) (fun hc=>?_))<;>(try simp (disch:=omega) only [zhb] at hc)<;>(try (exfalso;omega))<;>(try subst hc))|(with_reducible refine ji (by omega) ?_)|(simp (config := { maxSteps := 400000 }) only [↓jt,↓reduceIte,zvs,reduceCtorEq,Nat.reduceEqDiff,Nat.reduceAdd,Nat.reduceLeDiff,Nat.reduceMul,Int.reduceBNe,Int.reduceBEq,Int.reduceEq,Int.reduceNe,Int.reduceLT,Int.reduceLE,Int.reduceGT,Int.reduceGE,Int.reduceNeg,Int.reduceToNat,Nat.reduceLT,Nat.reduceSub,tab,hX,hF,Try.results33,jTA])|(simp (disch:=omega) only [ziw]))
  refine ok_loop (fun k : Nat => ⟨slots [(2, .int .u8 (B8 t)), (3, .ptr 0 []), (4, .ptr 1 []), (6, .str []), (7, .ptr 2 []), (14, .int .i64 k)], rows [(0, .row (.arr 3 .cell) (.agg [.int .u8 (B8 x), .int .u8 (B8 y), .int .u8 (B8 z)])), (1, .row (.arr 3 .cell) (.agg [.str a, .str b, .str c])), (2, .row (.arr 3 .cell) (.agg ((wts w0 w1 w2 k).map encU)))], 3⟩) (fun k => k ≤ 3) (fun k => 3 - k) 0 ?_ (Nat.zero_le _) (fun k hk => ?_)
  · (refine yrn [(0, 0), (1, 1), (2, 2)] false ?_ ?_<;>(repeat' (first|(with_reducible first|exact ya1|exact ya2|exact ya3|refine jx rfl (by first|rfl|assumption|(simp only [znl,znA6];(first|done|fail)))|exact ya5|exact ya7|exact jy|exact jz|refine jA ?_|refine ya9 ?_ ?_ ?_|refine jC rfl (by first|rfl|assumption|(simp only [znl,znA6];(first|done|fail)))|refine MR.agg (MRL.cons ?_ ?_)|refine MR.fn ?_|refine MRL.cons ?_ ?_|exact MRL.nil|refine jE ?_ ?_|exact jF|exact jG|refine yb1 ?_ ?_|refine MB.row ?_|refine jI ?_ ?_|exact ya8|refine jJ rfl (by first|rfl|assumption|(simp only [znl,znA6];(first|done|fail)))|refine yb2 ?_|rfl)|(simp only [znl,znA6];(first|done|fail))|(simp only [↓reduceIte,zlk,Nat.reduceEqDiff,reduceCtorEq])|(with_reducible first|refine jJ ?_ ?_|refine ya5 ?_|refine ju ?_|refine jv ?_|refine jw ?_|refine jx ?_ (by first|rfl|assumption|(simp only [znl,znA6];(first|done|fail)))|refine jC ?_ (by first|rfl|assumption|(simp only [znl,znA6];(first|done|fail)))))))
    all_goals (first | rfl)
  have u0 : (wts w0 w1 w2 0).map encU = [.int .u8 0, .int .u8 0, .int .u8 0] := rfl
  have u1 : (wts w0 w1 w2 1).map encU = [.int .u8 (B8 w0), .int .u8 0, .int .u8 0] := rfl
  have u2 : (wts w0 w1 w2 2).map encU = [.int .u8 (B8 w0), .int .u8 (B8 w1), .int .u8 0] := rfl
  have u3 : (wts w0 w1 w2 3).map encU = [.int .u8 (B8 w0), .int .u8 (B8 w1), .int .u8 (B8 w2)] := rfl
  by_cases hlt : k < 3
  · have hk3 : k = 0 ∨ k = 1 ∨ k = 2 := by omega
    rcases hk3 with rfl | rfl | rfl
    · rw [u0]
      repeat' (first|(with_reducible first|refine yrl (by constructor) ?_|refine jk (fun M hM=>?_)|(refine hM _ ?_;clear hM M)|refine xb3 (by decide) ?_|refine yqa (by assumption) ?_ ?_|refine yqb (by assumption) ?_ ?_)|((with_reducible refine je ?_)<;>(first|rfl|assumption|(simp only [znl,znA6];(first|done|fail))))|(with_reducible refine jf (by (simp only [↓reduceIte,zlk,Nat.reduceEqDiff,reduceCtorEq]);exact rfl) ?_)|((with_reducible first|refine jg (fun hc=>?_) (fun hc=>?_)|refine jh (fun hc=>?_) (fun hc=>?_))<;>(try simp (disch:=omega) only [zhb] at hc)<;>(try (exfalso;omega))<;>(try subst hc))|(with_reducible refine ji (by omega) ?_)|(simp (config := { maxSteps := 400000 }) only [↓jt,↓reduceIte,zvs,reduceCtorEq,Nat.reduceEqDiff,Nat.reduceAdd,Nat.reduceLeDiff,Nat.reduceMul,Int.reduceBNe,Int.reduceBEq,Int.reduceEq,Int.reduceNe,Int.reduceLT,Int.reduceLE,Int.reduceGT,Int.reduceGE,Int.reduceNeg,Int.reduceToNat,Nat.reduceLT,Nat.reduceSub,tab,Try.results33,jTA])|(simp (disch:=omega) only [ziw]))
      all_goals (try (exfalso; omega))
      refine ok_drawM 10 [0, 1, 2, 3, 4, 5, 6, 7, 8] [9] 2 (by kernel_rfl) (by decide +kernel) (by decide) (by intro m hm; simp only [upd_ap,rows_cons,rows_nil]; (repeat (first | rfl | rw [if_neg (by omega)]))) (fun M hM => ?_); simp only [picks,hdM_nil,hdM_cons,List.getElem?_cons_succ,List.getElem?_cons_zero,List.drop_succ_cons,List.drop_zero]
      repeat' (first|(with_reducible first|refine yrl (by constructor) ?_|refine jk (fun M hM=>?_)|(refine hM _ ?_;clear hM M)|refine xb3 (by decide) ?_|refine yqa (by assumption) ?_ ?_|refine yqb (by assumption) ?_ ?_)|((with_reducible refine je ?_)<;>(first|rfl|assumption|(simp only [znl,znA6];(first|done|fail))))|(with_reducible refine jf (by (simp only [↓reduceIte,zlk,Nat.reduceEqDiff,reduceCtorEq]);exact rfl) ?_)|((with_reducible first|refine jg (fun hc=>?_) (fun hc=>?_)|refine jh (fun hc=>?_) (fun hc=>?_))<;>(try simp (disch:=omega) only [zhb] at hc)<;>(try (exfalso;omega))<;>(try subst hc))|(with_reducible refine ji (by omega) ?_)|(simp (config := { maxSteps := 400000 }) only [↓jt,↓reduceIte,zvs,reduceCtorEq,Nat.reduceEqDiff,Nat.reduceAdd,Nat.reduceLeDiff,Nat.reduceMul,Int.reduceBNe,Int.reduceBEq,Int.reduceEq,Int.reduceNe,Int.reduceLT,Int.reduceLE,Int.reduceGT,Int.reduceGE,Int.reduceNeg,Int.reduceToNat,Nat.reduceLT,Nat.reduceSub,tab,storeAt_go,isP_ptr,Try.results33,jTA])|(simp (disch:=omega) only [ziw]))
      all_goals (try (exfalso; omega))
      refine jb (hcall_read (A0) rfl (by repeat (first | exact rdl_nil | refine rdl_cons ?_ ?_ | exact Rd.refl _ _ (by first|rfl|assumption|(simp only [znl,znA6];(first|done|fail))) | (refine rd_own (by (simp only [↓reduceIte,zlk,Nat.reduceEqDiff,reduceCtorEq]); exact rfl) (by first | rfl | (simp; done) | (simp; omega)) rfl (by first|rfl|assumption|(simp only [znl,znA6];(first|done|fail)))) | exact rd_nil | refine (rd_a _ _ _).mpr ?_)) rfl) ?_
      repeat' (first|(with_reducible first|refine yrl (by constructor) ?_|refine jk (fun M hM=>?_)|(refine hM _ ?_;clear hM M)|refine xb3 (by decide) ?_|refine yqa (by assumption) ?_ ?_|refine yqb (by assumption) ?_ ?_)|((with_reducible refine je ?_)<;>(first|rfl|assumption|(simp only [znl,znA6];(first|done|fail))))|(with_reducible refine jf (by (simp only [↓reduceIte,zlk,Nat.reduceEqDiff,reduceCtorEq]);exact rfl) ?_)|((with_reducible first|refine jg (fun hc=>?_) (fun hc=>?_)|refine jh (fun hc=>?_) (fun hc=>?_))<;>(try simp (disch:=omega) only [zhb] at hc)<;>(try (exfalso;omega))<;>(try subst hc))|(with_reducible refine ji (by omega) ?_)|(simp (config := { maxSteps := 400000 }) only [↓jt,↓reduceIte,zvs,reduceCtorEq,Nat.reduceEqDiff,Nat.reduceAdd,Nat.reduceLeDiff,Nat.reduceMul,Int.reduceBNe,Int.reduceBEq,Int.reduceEq,Int.reduceNe,Int.reduceLT,Int.reduceLE,Int.reduceGT,Int.reduceGE,Int.reduceNeg,Int.reduceToNat,Nat.reduceLT,Nat.reduceSub,tab,storeAt_go,isP_ptr,Try.results33,jTA])|(simp (disch:=omega) only [ziw]))
      refine jb (hcall_read (A0) rfl (by repeat (first | exact rdl_nil | refine rdl_cons ?_ ?_ | exact Rd.refl _ _ (by first|rfl|assumption|(simp only [znl,znA6];(first|done|fail))) | (refine rd_own (by (simp only [↓reduceIte,zlk,Nat.reduceEqDiff,reduceCtorEq]); exact rfl) (by first | rfl | (simp; done) | (simp; omega)) rfl (by first|rfl|assumption|(simp only [znl,znA6];(first|done|fail)))) | exact rd_nil | refine (rd_a _ _ _).mpr ?_)) rfl) ?_
      repeat' (first|(with_reducible first|refine yrl (by constructor) ?_|refine jk (fun M hM=>?_)|(refine hM _ ?_;clear hM M)|refine xb3 (by decide) ?_|refine yqa (by assumption) ?_ ?_|refine yqb (by assumption) ?_ ?_)|((with_reducible refine je ?_)<;>(first|rfl|assumption|(simp only [znl,znA6];(first|done|fail))))|(with_reducible refine jf (by (simp only [↓reduceIte,zlk,Nat.reduceEqDiff,reduceCtorEq]);exact rfl) ?_)|((with_reducible first|refine jg (fun hc=>?_) (fun hc=>?_)|refine jh (fun hc=>?_) (fun hc=>?_))<;>(try simp (disch:=omega) only [zhb] at hc)<;>(try (exfalso;omega))<;>(try subst hc))|(with_reducible refine ji (by omega) ?_)|(simp (config := { maxSteps := 400000 }) only [↓jt,↓reduceIte,zvs,reduceCtorEq,Nat.reduceEqDiff,Nat.reduceAdd,Nat.reduceLeDiff,Nat.reduceMul,Int.reduceBNe,Int.reduceBEq,Int.reduceEq,Int.reduceNe,Int.reduceLT,Int.reduceLE,Int.reduceGT,Int.reduceGE,Int.reduceNeg,Int.reduceToNat,Nat.reduceLT,Nat.reduceSub,tab,storeAt_go,isP_ptr,Try.results33,jTA])|(simp (disch:=omega) only [ziw]))
      all_goals first
        | (exfalso; omega)
        | (refine xl1 1 ?_ (by decide) (by decide); (refine yrn [(0, 0), (1, 1), (2, 2)] false ?_ ?_<;>(repeat' (first|(with_reducible first|exact ya1|exact ya2|exact ya3|refine jx rfl (by first|rfl|assumption|(simp only [znl,znA6];(first|done|fail)))|exact ya5|exact ya7|exact jy|exact jz|refine jA ?_|refine ya9 ?_ ?_ ?_|refine jC rfl (by first|rfl|assumption|(simp only [znl,znA6];(first|done|fail)))|refine MR.agg (MRL.cons ?_ ?_)|refine MR.fn ?_|refine MRL.cons ?_ ?_|exact MRL.nil|refine jE ?_ ?_|exact jF|exact jG|refine yb1 ?_ ?_|refine MB.row ?_|refine jI ?_ ?_|exact ya8|refine jJ rfl (by first|rfl|assumption|(simp only [znl,znA6];(first|done|fail)))|refine yb2 ?_|rfl)|(simp only [znl,znA6];(first|done|fail))|(simp only [↓reduceIte,zlk,Nat.reduceEqDiff,reduceCtorEq])|(with_reducible first|refine jJ ?_ ?_|refine ya5 ?_|refine ju ?_|refine jv ?_|refine jw ?_|refine jx ?_ (by first|rfl|assumption|(simp only [znl,znA6];(first|done|fail)))|refine jC ?_ (by first|rfl|assumption|(simp only [znl,znA6];(first|done|fail))))))); all_goals (first | rfl | exact u1.symm); done)
    · rw [u1]
      repeat' (first|(with_reducible first|refine yrl (by constructor) ?_|refine jk (fun M hM=>?_)|(refine hM _ ?_;clear hM M)|refine xb3 (by decide) ?_|refine yqa (by assumption) ?_ ?_|refine yqb (by assumption) ?_ ?_)|((with_reducible refine je ?_)<;>(first|rfl|assumption|(simp only [znl,znA6];(first|done|fail))))|(with_reducible refine jf (by (simp only [↓reduceIte,zlk,Nat.reduceEqDiff,reduceCtorEq]);exact rfl) ?_)|((with_reducible first|refine jg (fun hc=>?_) (fun hc=>?_)|refine jh (fun hc=>?_) (fun hc=>?_))<;>(try simp (disch:=omega) only [zhb] at hc)<;>(try (exfalso;omega))<;>(try subst hc))|(with_reducible refine ji (by omega) ?_)|(simp (config := { maxSteps := 400000 }) only [↓jt,↓reduceIte,zvs,reduceCtorEq,Nat.reduceEqDiff,Nat.reduceAdd,Nat.reduceLeDiff,Nat.reduceMul,Int.reduceBNe,Int.reduceBEq,Int.reduceEq,Int.reduceNe,Int.reduceLT,Int.reduceLE,Int.reduceGT,Int.reduceGE,Int.reduceNeg,Int.reduceToNat,Nat.reduceLT,Nat.reduceSub,tab,Try.results33,jTA])|(simp (disch:=omega) only [ziw]))
      all_goals (try (exfalso; omega))
      refine ok_drawM 10 [0, 1, 2, 3, 4, 5, 6, 7, 8] [9] 2 (by kernel_rfl) (by decide +kernel) (by decide) (by intro m hm; simp only [upd_ap,rows_cons,rows_nil]; (repeat (first | rfl | rw [if_neg (by omega)]))) (fun M hM => ?_); simp only [picks,hdM_nil,hdM_cons,List.getElem?_cons_succ,List.getElem?_cons_zero,List.drop_succ_cons,List.drop_zero]
      repeat' (first|(with_reducible first|refine yrl (by constructor) ?_|refine jk (fun M hM=>?_)|(refine hM _ ?_;clear hM M)|refine xb3 (by decide) ?_|refine yqa (by assumption) ?_ ?_|refine yqb (by assumption) ?_ ?_)|((with_reducible refine je ?_)<;>(first|rfl|assumption|(simp only [znl,znA6];(first|done|fail))))|(with_reducible refine jf (by (simp only [↓reduceIte,zlk,Nat.reduceEqDiff,reduceCtorEq]);exact rfl) ?_)|((with_reducible first|refine jg (fun hc=>?_) (fun hc=>?_)|refine jh (fun hc=>?_) (fun hc=>?_))<;>(try simp (disch:=omega) only [zhb] at hc)<;>(try (exfalso;omega))<;>(try subst hc))|(with_reducible refine ji (by omega) ?_)|(simp (config := { maxSteps := 400000 }) only [↓jt,↓reduceIte,zvs,reduceCtorEq,Nat.reduceEqDiff,Nat.reduceAdd,Nat.reduceLeDiff,Nat.reduceMul,Int.reduceBNe,Int.reduceBEq,Int.reduceEq,Int.reduceNe,Int.reduceLT,Int.reduceLE,Int.reduceGT,Int.reduceGE,Int.reduceNeg,Int.reduceToNat,Nat.reduceLT,Nat.reduceSub,tab,storeAt_go,isP_ptr,Try.results33,jTA])|(simp (disch:=omega) only [ziw]))
      all_goals (try (exfalso; omega))
      refine jb (hcall_read (A1) rfl (by repeat (first | exact rdl_nil | refine rdl_cons ?_ ?_ | exact Rd.refl _ _ (by first|rfl|assumption|(simp only [znl,znA6];(first|done|fail))) | (refine rd_own (by (simp only [↓reduceIte,zlk,Nat.reduceEqDiff,reduceCtorEq]); exact rfl) (by first | rfl | (simp; done) | (simp; omega)) rfl (by first|rfl|assumption|(simp only [znl,znA6];(first|done|fail)))) | exact rd_nil | refine (rd_a _ _ _).mpr ?_)) rfl) ?_
      repeat' (first|(with_reducible first|refine yrl (by constructor) ?_|refine jk (fun M hM=>?_)|(refine hM _ ?_;clear hM M)|refine xb3 (by decide) ?_|refine yqa (by assumption) ?_ ?_|refine yqb (by assumption) ?_ ?_)|((with_reducible refine je ?_)<;>(first|rfl|assumption|(simp only [znl,znA6];(first|done|fail))))|(with_reducible refine jf (by (simp only [↓reduceIte,zlk,Nat.reduceEqDiff,reduceCtorEq]);exact rfl) ?_)|((with_reducible first|refine jg (fun hc=>?_) (fun hc=>?_)|refine jh (fun hc=>?_) (fun hc=>?_))<;>(try simp (disch:=omega) only [zhb] at hc)<;>(try (exfalso;omega))<;>(try subst hc))|(with_reducible refine ji (by omega) ?_)|(simp (config := { maxSteps := 400000 }) only [↓jt,↓reduceIte,zvs,reduceCtorEq,Nat.reduceEqDiff,Nat.reduceAdd,Nat.reduceLeDiff,Nat.reduceMul,Int.reduceBNe,Int.reduceBEq,Int.reduceEq,Int.reduceNe,Int.reduceLT,Int.reduceLE,Int.reduceGT,Int.reduceGE,Int.reduceNeg,Int.reduceToNat,Nat.reduceLT,Nat.reduceSub,tab,storeAt_go,isP_ptr,Try.results33,jTA])|(simp (disch:=omega) only [ziw]))
      refine jb (hcall_read (A1) rfl (by repeat (first | exact rdl_nil | refine rdl_cons ?_ ?_ | exact Rd.refl _ _ (by first|rfl|assumption|(simp only [znl,znA6];(first|done|fail))) | (refine rd_own (by (simp only [↓reduceIte,zlk,Nat.reduceEqDiff,reduceCtorEq]); exact rfl) (by first | rfl | (simp; done) | (simp; omega)) rfl (by first|rfl|assumption|(simp only [znl,znA6];(first|done|fail)))) | exact rd_nil | refine (rd_a _ _ _).mpr ?_)) rfl) ?_
      repeat' (first|(with_reducible first|refine yrl (by constructor) ?_|refine jk (fun M hM=>?_)|(refine hM _ ?_;clear hM M)|refine xb3 (by decide) ?_|refine yqa (by assumption) ?_ ?_|refine yqb (by assumption) ?_ ?_)|((with_reducible refine je ?_)<;>(first|rfl|assumption|(simp only [znl,znA6];(first|done|fail))))|(with_reducible refine jf (by (simp only [↓reduceIte,zlk,Nat.reduceEqDiff,reduceCtorEq]);exact rfl) ?_)|((with_reducible first|refine jg (fun hc=>?_) (fun hc=>?_)|refine jh (fun hc=>?_) (fun hc=>?_))<;>(try simp (disch:=omega) only [zhb] at hc)<;>(try (exfalso;omega))<;>(try subst hc))|(with_reducible refine ji (by omega) ?_)|(simp (config := { maxSteps := 400000 }) only [↓jt,↓reduceIte,zvs,reduceCtorEq,Nat.reduceEqDiff,Nat.reduceAdd,Nat.reduceLeDiff,Nat.reduceMul,Int.reduceBNe,Int.reduceBEq,Int.reduceEq,Int.reduceNe,Int.reduceLT,Int.reduceLE,Int.reduceGT,Int.reduceGE,Int.reduceNeg,Int.reduceToNat,Nat.reduceLT,Nat.reduceSub,tab,storeAt_go,isP_ptr,Try.results33,jTA])|(simp (disch:=omega) only [ziw]))
      all_goals first
        | (exfalso; omega)
        | (refine xl1 2 ?_ (by decide) (by decide); (refine yrn [(0, 0), (1, 1), (2, 2)] false ?_ ?_<;>(repeat' (first|(with_reducible first|exact ya1|exact ya2|exact ya3|refine jx rfl (by first|rfl|assumption|(simp only [znl,znA6];(first|done|fail)))|exact ya5|exact ya7|exact jy|exact jz|refine jA ?_|refine ya9 ?_ ?_ ?_|refine jC rfl (by first|rfl|assumption|(simp only [znl,znA6];(first|done|fail)))|refine MR.agg (MRL.cons ?_ ?_)|refine MR.fn ?_|refine MRL.cons ?_ ?_|exact MRL.nil|refine jE ?_ ?_|exact jF|exact jG|refine yb1 ?_ ?_|refine MB.row ?_|refine jI ?_ ?_|exact ya8|refine jJ rfl (by first|rfl|assumption|(simp only [znl,znA6];(first|done|fail)))|refine yb2 ?_|rfl)|(simp only [znl,znA6];(first|done|fail))|(simp only [↓reduceIte,zlk,Nat.reduceEqDiff,reduceCtorEq])|(with_reducible first|refine jJ ?_ ?_|refine ya5 ?_|refine ju ?_|refine jv ?_|refine jw ?_|refine jx ?_ (by first|rfl|assumption|(simp only [znl,znA6];(first|done|fail)))|refine jC ?_ (by first|rfl|assumption|(simp only [znl,znA6];(first|done|fail))))))); all_goals (first | rfl | exact u2.symm); done)
    · rw [u2]
      repeat' (first|(with_reducible first|refine yrl (by constructor) ?_|refine jk (fun M hM=>?_)|(refine hM _ ?_;clear hM M)|refine xb3 (by decide) ?_|refine yqa (by assumption) ?_ ?_|refine yqb (by assumption) ?_ ?_)|((with_reducible refine je ?_)<;>(first|rfl|assumption|(simp only [znl,znA6];(first|done|fail))))|(with_reducible refine jf (by (simp only [↓reduceIte,zlk,Nat.reduceEqDiff,reduceCtorEq]);exact rfl) ?_)|((with_reducible first|refine jg (fun hc=>?_) (fun hc=>?_)|refine jh (fun hc=>?_) (fun hc=>?_))<;>(try simp (disch:=omega) only [zhb] at hc)<;>(try (exfalso;omega))<;>(try subst hc))|(with_reducible refine ji (by omega) ?_)|(simp (config := { maxSteps := 400000 }) only [↓jt,↓reduceIte,zvs,reduceCtorEq,Nat.reduceEqDiff,Nat.reduceAdd,Nat.reduceLeDiff,Nat.reduceMul,Int.reduceBNe,Int.reduceBEq,Int.reduceEq,Int.reduceNe,Int.reduceLT,Int.reduceLE,Int.reduceGT,Int.reduceGE,Int.reduceNeg,Int.reduceToNat,Nat.reduceLT,Nat.reduceSub,tab,Try.results33,jTA])|(simp (disch:=omega) only [ziw]))
      all_goals (try (exfalso; omega))
      refine ok_drawM 10 [0, 1, 2, 3, 4, 5, 6, 7, 8] [9] 2 (by kernel_rfl) (by decide +kernel) (by decide) (by intro m hm; simp only [upd_ap,rows_cons,rows_nil]; (repeat (first | rfl | rw [if_neg (by omega)]))) (fun M hM => ?_); simp only [picks,hdM_nil,hdM_cons,List.getElem?_cons_succ,List.getElem?_cons_zero,List.drop_succ_cons,List.drop_zero]
      repeat' (first|(with_reducible first|refine yrl (by constructor) ?_|refine jk (fun M hM=>?_)|(refine hM _ ?_;clear hM M)|refine xb3 (by decide) ?_|refine yqa (by assumption) ?_ ?_|refine yqb (by assumption) ?_ ?_)|((with_reducible refine je ?_)<;>(first|rfl|assumption|(simp only [znl,znA6];(first|done|fail))))|(with_reducible refine jf (by (simp only [↓reduceIte,zlk,Nat.reduceEqDiff,reduceCtorEq]);exact rfl) ?_)|((with_reducible first|refine jg (fun hc=>?_) (fun hc=>?_)|refine jh (fun hc=>?_) (fun hc=>?_))<;>(try simp (disch:=omega) only [zhb] at hc)<;>(try (exfalso;omega))<;>(try subst hc))|(with_reducible refine ji (by omega) ?_)|(simp (config := { maxSteps := 400000 }) only [↓jt,↓reduceIte,zvs,reduceCtorEq,Nat.reduceEqDiff,Nat.reduceAdd,Nat.reduceLeDiff,Nat.reduceMul,Int.reduceBNe,Int.reduceBEq,Int.reduceEq,Int.reduceNe,Int.reduceLT,Int.reduceLE,Int.reduceGT,Int.reduceGE,Int.reduceNeg,Int.reduceToNat,Nat.reduceLT,Nat.reduceSub,tab,storeAt_go,isP_ptr,Try.results33,jTA])|(simp (disch:=omega) only [ziw]))
      all_goals (try (exfalso; omega))
      refine jb (hcall_read (A2) rfl (by repeat (first | exact rdl_nil | refine rdl_cons ?_ ?_ | exact Rd.refl _ _ (by first|rfl|assumption|(simp only [znl,znA6];(first|done|fail))) | (refine rd_own (by (simp only [↓reduceIte,zlk,Nat.reduceEqDiff,reduceCtorEq]); exact rfl) (by first | rfl | (simp; done) | (simp; omega)) rfl (by first|rfl|assumption|(simp only [znl,znA6];(first|done|fail)))) | exact rd_nil | refine (rd_a _ _ _).mpr ?_)) rfl) ?_
      repeat' (first|(with_reducible first|refine yrl (by constructor) ?_|refine jk (fun M hM=>?_)|(refine hM _ ?_;clear hM M)|refine xb3 (by decide) ?_|refine yqa (by assumption) ?_ ?_|refine yqb (by assumption) ?_ ?_)|((with_reducible refine je ?_)<;>(first|rfl|assumption|(simp only [znl,znA6];(first|done|fail))))|(with_reducible refine jf (by (simp only [↓reduceIte,zlk,Nat.reduceEqDiff,reduceCtorEq]);exact rfl) ?_)|((with_reducible first|refine jg (fun hc=>?_) (fun hc=>?_)|refine jh (fun hc=>?_) (fun hc=>?_))<;>(try simp (disch:=omega) only [zhb] at hc)<;>(try (exfalso;omega))<;>(try subst hc))|(with_reducible refine ji (by omega) ?_)|(simp (config := { maxSteps := 400000 }) only [↓jt,↓reduceIte,zvs,reduceCtorEq,Nat.reduceEqDiff,Nat.reduceAdd,Nat.reduceLeDiff,Nat.reduceMul,Int.reduceBNe,Int.reduceBEq,Int.reduceEq,Int.reduceNe,Int.reduceLT,Int.reduceLE,Int.reduceGT,Int.reduceGE,Int.reduceNeg,Int.reduceToNat,Nat.reduceLT,Nat.reduceSub,tab,storeAt_go,isP_ptr,Try.results33,jTA])|(simp (disch:=omega) only [ziw]))
      refine jb (hcall_read (A2) rfl (by repeat (first | exact rdl_nil | refine rdl_cons ?_ ?_ | exact Rd.refl _ _ (by first|rfl|assumption|(simp only [znl,znA6];(first|done|fail))) | (refine rd_own (by (simp only [↓reduceIte,zlk,Nat.reduceEqDiff,reduceCtorEq]); exact rfl) (by first | rfl | (simp; done) | (simp; omega)) rfl (by first|rfl|assumption|(simp only [znl,znA6];(first|done|fail)))) | exact rd_nil | refine (rd_a _ _ _).mpr ?_)) rfl) ?_
      repeat' (first|(with_reducible first|refine yrl (by constructor) ?_|refine jk (fun M hM=>?_)|(refine hM _ ?_;clear hM M)|refine xb3 (by decide) ?_|refine yqa (by assumption) ?_ ?_|refine yqb (by assumption) ?_ ?_)|((with_reducible refine je ?_)<;>(first|rfl|assumption|(simp only [znl,znA6];(first|done|fail))))|(with_reducible refine jf (by (simp only [↓reduceIte,zlk,Nat.reduceEqDiff,reduceCtorEq]);exact rfl) ?_)|((with_reducible first|refine jg (fun hc=>?_) (fun hc=>?_)|refine jh (fun hc=>?_) (fun hc=>?_))<;>(try simp (disch:=omega) only [zhb] at hc)<;>(try (exfalso;omega))<;>(try subst hc))|(with_reducible refine ji (by omega) ?_)|(simp (config := { maxSteps := 400000 }) only [↓jt,↓reduceIte,zvs,reduceCtorEq,Nat.reduceEqDiff,Nat.reduceAdd,Nat.reduceLeDiff,Nat.reduceMul,Int.reduceBNe,Int.reduceBEq,Int.reduceEq,Int.reduceNe,Int.reduceLT,Int.reduceLE,Int.reduceGT,Int.reduceGE,Int.reduceNeg,Int.reduceToNat,Nat.reduceLT,Nat.reduceSub,tab,storeAt_go,isP_ptr,Try.results33,jTA])|(simp (disch:=omega) only [ziw]))
      all_goals first
        | (exfalso; omega)
        | (refine xl1 3 ?_ (by decide) (by decide); (refine yrn [(0, 0), (1, 1), (2, 2)] false ?_ ?_<;>(repeat' (first|(with_reducible first|exact ya1|exact ya2|exact ya3|refine jx rfl (by first|rfl|assumption|(simp only [znl,znA6];(first|done|fail)))|exact ya5|exact ya7|exact jy|exact jz|refine jA ?_|refine ya9 ?_ ?_ ?_|refine jC rfl (by first|rfl|assumption|(simp only [znl,znA6];(first|done|fail)))|refine MR.agg (MRL.cons ?_ ?_)|refine MR.fn ?_|refine MRL.cons ?_ ?_|exact MRL.nil|refine jE ?_ ?_|exact jF|exact jG|refine yb1 ?_ ?_|refine MB.row ?_|refine jI ?_ ?_|exact ya8|refine jJ rfl (by first|rfl|assumption|(simp only [znl,znA6];(first|done|fail)))|refine yb2 ?_|rfl)|(simp only [znl,znA6];(first|done|fail))|(simp only [↓reduceIte,zlk,Nat.reduceEqDiff,reduceCtorEq])|(with_reducible first|refine jJ ?_ ?_|refine ya5 ?_|refine ju ?_|refine jv ?_|refine jw ?_|refine jx ?_ (by first|rfl|assumption|(simp only [znl,znA6];(first|done|fail)))|refine jC ?_ (by first|rfl|assumption|(simp only [znl,znA6];(first|done|fail))))))); all_goals (first | rfl | exact u3.symm); done)
  · obtain rfl : k = 3 := by omega
    rw [u3]
    clear A0 A1 A2 u0 u1 u2
    repeat' (first|(with_reducible first|refine yrl (by constructor) ?_|refine jk (fun M hM=>?_)|(refine hM _ ?_;clear hM M)|refine xb3 (by decide) ?_|refine yqa (by assumption) ?_ ?_|refine yqb (by assumption) ?_ ?_)|((with_reducible refine je ?_)<;>(first|rfl|assumption|(simp only [znl,znA6];(first|done|fail))))|(with_reducible refine jf (by (simp only [↓reduceIte,zlk,Nat.reduceEqDiff,reduceCtorEq]);exact rfl) ?_)|((with_reducible first|refine jg (fun hc=>?_) (fun hc=>?_)|refine jh (fun hc=>?_) (fun hc=>?_))<;>(try simp (disch:=omega) only [zhb] at hc)<;>(try (exfalso;omega))<;>(try subst hc))|(with_reducible refine ji (by omega) ?_)|(simp (config := { maxSteps := 400000 }) only [↓jt,↓reduceIte,zvs,reduceCtorEq,Nat.reduceEqDiff,Nat.reduceAdd,Nat.reduceLeDiff,Nat.reduceMul,Int.reduceBNe,Int.reduceBEq,Int.reduceEq,Int.reduceNe,Int.reduceLT,Int.reduceLE,Int.reduceGT,Int.reduceGE,Int.reduceNeg,Int.reduceToNat,Nat.reduceLT,Nat.reduceSub,tab,Try.results33,jTA])|(simp (disch:=omega) only [ziw]))
    all_goals (try (exfalso; omega))
    have hrep : List.replicate n (VV.int .u8 0) = (fillU n 0 f).map encU := by rw [fillU_zero, List.map_replicate]; rfl
    refine ok_loop (fun i : Nat => ⟨slots [(2, .int .u8 (B8 t)), (3, .ptr 0 []), (4, .ptr 1 []), (6, .str []), (7, .ptr 2 []), (10, .sl (some (3, [], 0)) n), (34, .int .i64 n), (35, .int .i64 i)], rows [(0, .row (.arr 3 .cell) (.agg [.int .u8 (B8 x), .int .u8 (B8 y), .int .u8 (B8 z)])), (1, .row (.arr 3 .cell) (.agg [.str a, .str b, .str c])), (2, .row (.arr 3 .cell) (.agg [.int .u8 (B8 w0), .int .u8 (B8 w1), .int .u8 (B8 w2)])), (3, .row (.arr n .cell) (.agg ((fillU n i f).map encU)))], 4⟩) (fun i => i ≤ n) (fun i => n - i) 0 ?_ (Nat.zero_le _) (fun i hi => ?_)
    · (refine yrn [(0, 0), (1, 1), (2, 2), (3, 3)] false ?_ ?_<;>(repeat' (first|(with_reducible first|exact ya1|exact ya2|exact ya3|refine jx rfl (by first|rfl|assumption|(simp only [znl,znA6];(first|done|fail)))|exact ya5|exact ya7|exact jy|exact jz|refine jA ?_|refine ya9 ?_ ?_ ?_|refine jC rfl (by first|rfl|assumption|(simp only [znl,znA6];(first|done|fail)))|refine MR.agg (MRL.cons ?_ ?_)|refine MR.fn ?_|refine MRL.cons ?_ ?_|exact MRL.nil|refine jE ?_ ?_|exact jF|exact jG|refine yb1 ?_ ?_|refine MB.row ?_|refine jI ?_ ?_|exact ya8|refine jJ rfl (by first|rfl|assumption|(simp only [znl,znA6];(first|done|fail)))|refine yb2 ?_|rfl)|(simp only [znl,znA6];(first|done|fail))|(simp only [↓reduceIte,zlk,Nat.reduceEqDiff,reduceCtorEq])|(with_reducible first|refine jJ ?_ ?_|refine ya5 ?_|refine ju ?_|refine jv ?_|refine jw ?_|refine jx ?_ (by first|rfl|assumption|(simp only [znl,znA6];(first|done|fail)))|refine jC ?_ (by first|rfl|assumption|(simp only [znl,znA6];(first|done|fail)))))))
      all_goals (first | rfl | exact hrep | (rw [ha]; done) | (rw [ha]; exact hrep))
    by_cases hli : i < n
    · have hfs := fillU_set n i f hli
      have hfz := fillU_same n i f hli
      have hfl := fillU_len n i f (by omega)
      have hfi := hfi i
      obtain ⟨F, hF2⟩ : ∃ F, F = fillU n i f := ⟨_, rfl⟩
      rw [← hF2] at hfs hfz hfl ⊢
      have gat : ∀ v, ((F.set i v).map encU)[i]? = some (.int .u8 (B8 v)) := fun v => by rw [List.getElem?_map, List.getElem?_set_self (by omega)]; rfl
      have sat : ∀ v v', ((F.set i v).map encU).set i (.int .u8 (B8 v')) = (F.set i v').map encU := fun v v' => by
        have e : VV.int .u8 (B8 v') = encU v' := rfl
        rw [e, ← List.map_set, List.set_set]
      have q0 : prt3 (mul w0 (nth a i)) (mul w1 (nth b i)) (mul w2 (nth c i)) 0 = 0 := rfl
      have q1 : prt3 (mul w0 (nth a i)) (mul w1 (nth b i)) (mul w2 (nth c i)) 1 = 0 ^^^ mul w0 (nth a i) := by rw [UInt8.zero_xor]; rfl
      have q2 : prt3 (mul w0 (nth a i)) (mul w1 (nth b i)) (mul w2 (nth c i)) 2 = (0 ^^^ mul w0 (nth a i)) ^^^ mul w1 (nth b i) := by rw [UInt8.zero_xor]; rfl
      have q3 : prt3 (mul w0 (nth a i)) (mul w1 (nth b i)) (mul w2 (nth c i)) 3 = ((0 ^^^ mul w0 (nth a i)) ^^^ mul w1 (nth b i)) ^^^ mul w2 (nth c i) := by rw [UInt8.zero_xor]; rfl
      rw [← UInt8.zero_xor (a := mul w0 (nth a i))] at hfi
      rw [← q3] at hfi
      repeat' (first|(with_reducible first|refine yrl (by constructor) ?_|refine jk (fun M hM=>?_)|(refine hM _ ?_;clear hM M)|refine xb3 (by decide) ?_|refine yqa (by assumption) ?_ ?_|refine yqb (by assumption) ?_ ?_)|((with_reducible refine je ?_)<;>(first|rfl|assumption|(simp only [znl,znA6];(first|done|fail))))|(with_reducible refine jf (by (simp only [↓reduceIte,zlk,Nat.reduceEqDiff,reduceCtorEq]);exact rfl) ?_)|((with_reducible first|refine jg (fun hc=>?_) (fun hc=>?_)|refine jh (fun hc=>?_) (fun hc=>?_))<;>(try simp (disch:=omega) only [zhb] at hc)<;>(try (exfalso;omega))<;>(try subst hc))|(with_reducible refine ji (by omega) ?_)|(simp (config := { maxSteps := 400000 }) only [↓jt,↓reduceIte,zvs,reduceCtorEq,Nat.reduceEqDiff,Nat.reduceAdd,Nat.reduceLeDiff,Nat.reduceMul,Int.reduceBNe,Int.reduceBEq,Int.reduceEq,Int.reduceNe,Int.reduceLT,Int.reduceLE,Int.reduceGT,Int.reduceGE,Int.reduceNeg,Int.reduceToNat,Nat.reduceLT,Nat.reduceSub,tab,Try.results33,jTA])|(simp (disch:=omega) only [ziw]))
      all_goals (try (exfalso; omega))
      refine ok_loop (fun j : Nat => ⟨slots [(2, .int .u8 (B8 t)), (3, .ptr 0 []), (4, .ptr 1 []), (6, .str []), (7, .ptr 2 []), (10, .sl (some (3, [], 0)) n), (34, .int .i64 n), (35, .int .i64 i), (11, .int .i64 i), (38, .agg [.int .u8 (B8 w0), .int .u8 (B8 w1), .int .u8 (B8 w2)]), (39, .int .i64 j)], rows [(0, .row (.arr 3 .cell) (.agg [.int .u8 (B8 x), .int .u8 (B8 y), .int .u8 (B8 z)])), (1, .row (.arr 3 .cell) (.agg [.str a, .str b, .str c])), (2, .row (.arr 3 .cell) (.agg [.int .u8 (B8 w0), .int .u8 (B8 w1), .int .u8 (B8 w2)])), (3, .row (.arr n .cell) (.agg ((F.set i (prt3 (mul w0 (nth a i)) (mul w1 (nth b i)) (mul w2 (nth c i)) j)).map encU)))], 4⟩) (fun j => j ≤ 3) (fun j => 3 - j) 0 ?_ (Nat.zero_le _) (fun j hj => ?_)
      · (refine yrn [(0, 0), (1, 1), (2, 2), (3, 3)] false ?_ ?_<;>(repeat' (first|(with_reducible first|exact ya1|exact ya2|exact ya3|refine jx rfl (by first|rfl|assumption|(simp only [znl,znA6];(first|done|fail)))|exact ya5|exact ya7|exact jy|exact jz|refine jA ?_|refine ya9 ?_ ?_ ?_|refine jC rfl (by first|rfl|assumption|(simp only [znl,znA6];(first|done|fail)))|refine MR.agg (MRL.cons ?_ ?_)|refine MR.fn ?_|refine MRL.cons ?_ ?_|exact MRL.nil|refine jE ?_ ?_|exact jF|exact jG|refine yb1 ?_ ?_|refine MB.row ?_|refine jI ?_ ?_|exact ya8|refine jJ rfl (by first|rfl|assumption|(simp only [znl,znA6];(first|done|fail)))|refine yb2 ?_|rfl)|(simp only [znl,znA6];(first|done|fail))|(simp only [↓reduceIte,zlk,Nat.reduceEqDiff,reduceCtorEq])|(with_reducible first|refine jJ ?_ ?_|refine ya5 ?_|refine ju ?_|refine jv ?_|refine jw ?_|refine jx ?_ (by first|rfl|assumption|(simp only [znl,znA6];(first|done|fail)))|refine jC ?_ (by first|rfl|assumption|(simp only [znl,znA6];(first|done|fail)))))))
        all_goals (first | rfl | (rw [q0, hfz]; done))
      by_cases hlj : j < 3
      · have hj3 : j = 0 ∨ j = 1 ∨ j = 2 := by omega
        have hWg : Has (.arr 3 .cell) (.agg [.int .u8 (B8 w0), .int .u8 (B8 w1), .int .u8 (B8 w2)]) := by simp [Has, VV.leaf]
        have hx0 : bits .xor .u8 0 = bits .xor .u8 (B8 0) := rfl
        rcases hj3 with rfl | rfl | rfl
        · have hM := mul_spec w0 (nth a i)
          rw [q0]
          have hgj := gat (prt3 (mul w0 (nth a i)) (mul w1 (nth b i)) (mul w2 (nth c i)) 0)
          have hsj := sat (prt3 (mul w0 (nth a i)) (mul w1 (nth b i)) (mul w2 (nth c i)) 0) (prt3 (mul w0 (nth a i)) (mul w1 (nth b i)) (mul w2 (nth c i)) 1)
          rw [q0] at hgj hsj
          rw [q1] at hsj
          repeat' (first|(with_reducible first|refine yrl (by constructor) ?_|refine jk (fun M hM=>?_)|(refine hM _ ?_;clear hM M)|refine xb3 (by decide) ?_|refine yqa (by assumption) ?_ ?_|refine yqb (by assumption) ?_ ?_)|((with_reducible refine je ?_)<;>(first|rfl|assumption|(simp only [znl,znA6];(first|done|fail))))|(with_reducible refine jf (by (simp only [↓reduceIte,zlk,Nat.reduceEqDiff,reduceCtorEq]);exact rfl) ?_)|((with_reducible first|refine jg (fun hc=>?_) (fun hc=>?_)|refine jh (fun hc=>?_) (fun hc=>?_))<;>(try simp (disch:=omega) only [zhb] at hc)<;>(try (exfalso;omega))<;>(try subst hc))|(with_reducible refine ji (by omega) ?_)|(simp (config := { maxSteps := 400000 }) only [↓jt,↓reduceIte,zvs,reduceCtorEq,Nat.reduceEqDiff,Nat.reduceAdd,Nat.reduceLeDiff,Nat.reduceMul,Int.reduceBNe,Int.reduceBEq,Int.reduceEq,Int.reduceNe,Int.reduceLT,Int.reduceLE,Int.reduceGT,Int.reduceGE,Int.reduceNeg,Int.reduceToNat,Nat.reduceLT,Nat.reduceSub,tab,Try.results33,jTA])|(simp (disch:=omega) only [ziw]))
          all_goals (try (exfalso; omega))
          refine ok_drawC 13 (by kernel_rfl) (by decide +kernel) (by intro m hm; simp only [upd_ap,rows_cons,rows_nil]; (repeat (first | rfl | rw [if_neg (by omega)]))) (fun M hM => ?_); simp only [List.take_succ_cons,List.take_zero,List.drop_succ_cons,List.drop_zero]
          repeat' (first|(with_reducible first|refine yrl (by constructor) ?_|refine jk (fun M hM=>?_)|(refine hM _ ?_;clear hM M)|refine xb3 (by decide) ?_|refine yqa (by assumption) ?_ ?_|refine yqb (by assumption) ?_ ?_)|((with_reducible refine je ?_)<;>(first|rfl|assumption|(simp only [znl,znA6];(first|done|fail))))|(with_reducible refine jf (by (simp only [↓reduceIte,zlk,Nat.reduceEqDiff,reduceCtorEq]);exact rfl) ?_)|((with_reducible first|refine jg (fun hc=>?_) (fun hc=>?_)|refine jh (fun hc=>?_) (fun hc=>?_))<;>(try simp (disch:=omega) only [zhb] at hc)<;>(try (exfalso;omega))<;>(try subst hc))|(with_reducible refine ji (by omega) ?_)|(simp (config := { maxSteps := 400000 }) only [↓jt,↓reduceIte,zvs,reduceCtorEq,Nat.reduceEqDiff,Nat.reduceAdd,Nat.reduceLeDiff,Nat.reduceMul,Int.reduceBNe,Int.reduceBEq,Int.reduceEq,Int.reduceNe,Int.reduceLT,Int.reduceLE,Int.reduceGT,Int.reduceGE,Int.reduceNeg,Int.reduceToNat,Nat.reduceLT,Nat.reduceSub,tab,nthB,hgj,bits_xor8,Int.toNat_natCast,Try.results33,jTA])|(simp (disch:=omega) only [ziw]))
          all_goals first
            | (exfalso; omega)
            | (refine xl1 1 ?_ (by decide) (by decide); (refine yrn [(0, 0), (1, 1), (2, 2), (3, 3)] false ?_ ?_<;>(repeat' (first|(with_reducible first|exact ya1|exact ya2|exact ya3|refine jx rfl (by first|rfl|assumption|(simp only [znl,znA6];(first|done|fail)))|exact ya5|exact ya7|exact jy|exact jz|refine jA ?_|refine ya9 ?_ ?_ ?_|refine jC rfl (by first|rfl|assumption|(simp only [znl,znA6];(first|done|fail)))|refine MR.agg (MRL.cons ?_ ?_)|refine MR.fn ?_|refine MRL.cons ?_ ?_|exact MRL.nil|refine jE ?_ ?_|exact jF|exact jG|refine yb1 ?_ ?_|refine MB.row ?_|refine jI ?_ ?_|exact ya8|refine jJ rfl (by first|rfl|assumption|(simp only [znl,znA6];(first|done|fail)))|refine yb2 ?_|rfl)|(simp only [znl,znA6];(first|done|fail))|(simp only [↓reduceIte,zlk,Nat.reduceEqDiff,reduceCtorEq])|(with_reducible first|refine jJ ?_ ?_|refine ya5 ?_|refine ju ?_|refine jv ?_|refine jw ?_|refine jx ?_ (by first|rfl|assumption|(simp only [znl,znA6];(first|done|fail)))|refine jC ?_ (by first|rfl|assumption|(simp only [znl,znA6];(first|done|fail))))))); all_goals (first | rfl | (rw [q1]; exact hsj)); done)
        · have hM := mul_spec w1 (nth b i)
          rw [q1]
          have hgj := gat (prt3 (mul w0 (nth a i)) (mul w1 (nth b i)) (mul w2 (nth c i)) 1)
          have hsj := sat (prt3 (mul w0 (nth a i)) (mul w1 (nth b i)) (mul w2 (nth c i)) 1) (prt3 (mul w0 (nth a i)) (mul w1 (nth b i)) (mul w2 (nth c i)) 2)
          rw [q1] at hgj hsj
          rw [q2] at hsj
          repeat' (first|(with_reducible first|refine yrl (by constructor) ?_|refine jk (fun M hM=>?_)|(refine hM _ ?_;clear hM M)|refine xb3 (by decide) ?_|refine yqa (by assumption) ?_ ?_|refine yqb (by assumption) ?_ ?_)|((with_reducible refine je ?_)<;>(first|rfl|assumption|(simp only [znl,znA6];(first|done|fail))))|(with_reducible refine jf (by (simp only [↓reduceIte,zlk,Nat.reduceEqDiff,reduceCtorEq]);exact rfl) ?_)|((with_reducible first|refine jg (fun hc=>?_) (fun hc=>?_)|refine jh (fun hc=>?_) (fun hc=>?_))<;>(try simp (disch:=omega) only [zhb] at hc)<;>(try (exfalso;omega))<;>(try subst hc))|(with_reducible refine ji (by omega) ?_)|(simp (config := { maxSteps := 400000 }) only [↓jt,↓reduceIte,zvs,reduceCtorEq,Nat.reduceEqDiff,Nat.reduceAdd,Nat.reduceLeDiff,Nat.reduceMul,Int.reduceBNe,Int.reduceBEq,Int.reduceEq,Int.reduceNe,Int.reduceLT,Int.reduceLE,Int.reduceGT,Int.reduceGE,Int.reduceNeg,Int.reduceToNat,Nat.reduceLT,Nat.reduceSub,tab,Try.results33,jTA])|(simp (disch:=omega) only [ziw]))
          all_goals (try (exfalso; omega))
          refine ok_drawC 13 (by kernel_rfl) (by decide +kernel) (by intro m hm; simp only [upd_ap,rows_cons,rows_nil]; (repeat (first | rfl | rw [if_neg (by omega)]))) (fun M hM => ?_); simp only [List.take_succ_cons,List.take_zero,List.drop_succ_cons,List.drop_zero]
          repeat' (first|(with_reducible first|refine yrl (by constructor) ?_|refine jk (fun M hM=>?_)|(refine hM _ ?_;clear hM M)|refine xb3 (by decide) ?_|refine yqa (by assumption) ?_ ?_|refine yqb (by assumption) ?_ ?_)|((with_reducible refine je ?_)<;>(first|rfl|assumption|(simp only [znl,znA6];(first|done|fail))))|(with_reducible refine jf (by (simp only [↓reduceIte,zlk,Nat.reduceEqDiff,reduceCtorEq]);exact rfl) ?_)|((with_reducible first|refine jg (fun hc=>?_) (fun hc=>?_)|refine jh (fun hc=>?_) (fun hc=>?_))<;>(try simp (disch:=omega) only [zhb] at hc)<;>(try (exfalso;omega))<;>(try subst hc))|(with_reducible refine ji (by omega) ?_)|(simp (config := { maxSteps := 400000 }) only [↓jt,↓reduceIte,zvs,reduceCtorEq,Nat.reduceEqDiff,Nat.reduceAdd,Nat.reduceLeDiff,Nat.reduceMul,Int.reduceBNe,Int.reduceBEq,Int.reduceEq,Int.reduceNe,Int.reduceLT,Int.reduceLE,Int.reduceGT,Int.reduceGE,Int.reduceNeg,Int.reduceToNat,Nat.reduceLT,Nat.reduceSub,tab,nthB,hgj,bits_xor8,Int.toNat_natCast,Try.results33,jTA])|(simp (disch:=omega) only [ziw]))
          all_goals first
            | (exfalso; omega)
            | (refine xl1 2 ?_ (by decide) (by decide); (refine yrn [(0, 0), (1, 1), (2, 2), (3, 3)] false ?_ ?_<;>(repeat' (first|(with_reducible first|exact ya1|exact ya2|exact ya3|refine jx rfl (by first|rfl|assumption|(simp only [znl,znA6];(first|done|fail)))|exact ya5|exact ya7|exact jy|exact jz|refine jA ?_|refine ya9 ?_ ?_ ?_|refine jC rfl (by first|rfl|assumption|(simp only [znl,znA6];(first|done|fail)))|refine MR.agg (MRL.cons ?_ ?_)|refine MR.fn ?_|refine MRL.cons ?_ ?_|exact MRL.nil|refine jE ?_ ?_|exact jF|exact jG|refine yb1 ?_ ?_|refine MB.row ?_|refine jI ?_ ?_|exact ya8|refine jJ rfl (by first|rfl|assumption|(simp only [znl,znA6];(first|done|fail)))|refine yb2 ?_|rfl)|(simp only [znl,znA6];(first|done|fail))|(simp only [↓reduceIte,zlk,Nat.reduceEqDiff,reduceCtorEq])|(with_reducible first|refine jJ ?_ ?_|refine ya5 ?_|refine ju ?_|refine jv ?_|refine jw ?_|refine jx ?_ (by first|rfl|assumption|(simp only [znl,znA6];(first|done|fail)))|refine jC ?_ (by first|rfl|assumption|(simp only [znl,znA6];(first|done|fail))))))); all_goals (first | rfl | (rw [q2]; exact hsj)); done)
        · have hM := mul_spec w2 (nth c i)
          rw [q2]
          have hgj := gat (prt3 (mul w0 (nth a i)) (mul w1 (nth b i)) (mul w2 (nth c i)) 2)
          have hsj := sat (prt3 (mul w0 (nth a i)) (mul w1 (nth b i)) (mul w2 (nth c i)) 2) (prt3 (mul w0 (nth a i)) (mul w1 (nth b i)) (mul w2 (nth c i)) 3)
          rw [q2] at hgj hsj
          rw [q3] at hsj
          repeat' (first|(with_reducible first|refine yrl (by constructor) ?_|refine jk (fun M hM=>?_)|(refine hM _ ?_;clear hM M)|refine xb3 (by decide) ?_|refine yqa (by assumption) ?_ ?_|refine yqb (by assumption) ?_ ?_)|((with_reducible refine je ?_)<;>(first|rfl|assumption|(simp only [znl,znA6];(first|done|fail))))|(with_reducible refine jf (by (simp only [↓reduceIte,zlk,Nat.reduceEqDiff,reduceCtorEq]);exact rfl) ?_)|((with_reducible first|refine jg (fun hc=>?_) (fun hc=>?_)|refine jh (fun hc=>?_) (fun hc=>?_))<;>(try simp (disch:=omega) only [zhb] at hc)<;>(try (exfalso;omega))<;>(try subst hc))|(with_reducible refine ji (by omega) ?_)|(simp (config := { maxSteps := 400000 }) only [↓jt,↓reduceIte,zvs,reduceCtorEq,Nat.reduceEqDiff,Nat.reduceAdd,Nat.reduceLeDiff,Nat.reduceMul,Int.reduceBNe,Int.reduceBEq,Int.reduceEq,Int.reduceNe,Int.reduceLT,Int.reduceLE,Int.reduceGT,Int.reduceGE,Int.reduceNeg,Int.reduceToNat,Nat.reduceLT,Nat.reduceSub,tab,Try.results33,jTA])|(simp (disch:=omega) only [ziw]))
          all_goals (try (exfalso; omega))
          refine ok_drawC 13 (by kernel_rfl) (by decide +kernel) (by intro m hm; simp only [upd_ap,rows_cons,rows_nil]; (repeat (first | rfl | rw [if_neg (by omega)]))) (fun M hM => ?_); simp only [List.take_succ_cons,List.take_zero,List.drop_succ_cons,List.drop_zero]
          repeat' (first|(with_reducible first|refine yrl (by constructor) ?_|refine jk (fun M hM=>?_)|(refine hM _ ?_;clear hM M)|refine xb3 (by decide) ?_|refine yqa (by assumption) ?_ ?_|refine yqb (by assumption) ?_ ?_)|((with_reducible refine je ?_)<;>(first|rfl|assumption|(simp only [znl,znA6];(first|done|fail))))|(with_reducible refine jf (by (simp only [↓reduceIte,zlk,Nat.reduceEqDiff,reduceCtorEq]);exact rfl) ?_)|((with_reducible first|refine jg (fun hc=>?_) (fun hc=>?_)|refine jh (fun hc=>?_) (fun hc=>?_))<;>(try simp (disch:=omega) only [zhb] at hc)<;>(try (exfalso;omega))<;>(try subst hc))|(with_reducible refine ji (by omega) ?_)|(simp (config := { maxSteps := 400000 }) only [↓jt,↓reduceIte,zvs,reduceCtorEq,Nat.reduceEqDiff,Nat.reduceAdd,Nat.reduceLeDiff,Nat.reduceMul,Int.reduceBNe,Int.reduceBEq,Int.reduceEq,Int.reduceNe,Int.reduceLT,Int.reduceLE,Int.reduceGT,Int.reduceGE,Int.reduceNeg,Int.reduceToNat,Nat.reduceLT,Nat.reduceSub,tab,nthB,hgj,bits_xor8,Int.toNat_natCast,Try.results33,jTA])|(simp (disch:=omega) only [ziw]))
          all_goals first
            | (exfalso; omega)
            | (refine xl1 3 ?_ (by decide) (by decide); (refine yrn [(0, 0), (1, 1), (2, 2), (3, 3)] false ?_ ?_<;>(repeat' (first|(with_reducible first|exact ya1|exact ya2|exact ya3|refine jx rfl (by first|rfl|assumption|(simp only [znl,znA6];(first|done|fail)))|exact ya5|exact ya7|exact jy|exact jz|refine jA ?_|refine ya9 ?_ ?_ ?_|refine jC rfl (by first|rfl|assumption|(simp only [znl,znA6];(first|done|fail)))|refine MR.agg (MRL.cons ?_ ?_)|refine MR.fn ?_|refine MRL.cons ?_ ?_|exact MRL.nil|refine jE ?_ ?_|exact jF|exact jG|refine yb1 ?_ ?_|refine MB.row ?_|refine jI ?_ ?_|exact ya8|refine jJ rfl (by first|rfl|assumption|(simp only [znl,znA6];(first|done|fail)))|refine yb2 ?_|rfl)|(simp only [znl,znA6];(first|done|fail))|(simp only [↓reduceIte,zlk,Nat.reduceEqDiff,reduceCtorEq])|(with_reducible first|refine jJ ?_ ?_|refine ya5 ?_|refine ju ?_|refine jv ?_|refine jw ?_|refine jx ?_ (by first|rfl|assumption|(simp only [znl,znA6];(first|done|fail)))|refine jC ?_ (by first|rfl|assumption|(simp only [znl,znA6];(first|done|fail))))))); all_goals (first | rfl | (rw [q3]; exact hsj)); done)
      · obtain rfl : j = 3 := by omega
        rw [hfi, hfs]
        repeat' (first|(with_reducible first|refine yrl (by constructor) ?_|refine jk (fun M hM=>?_)|(refine hM _ ?_;clear hM M)|refine xb3 (by decide) ?_|refine yqa (by assumption) ?_ ?_|refine yqb (by assumption) ?_ ?_)|((with_reducible refine je ?_)<;>(first|rfl|assumption|(simp only [znl,znA6];(first|done|fail))))|(with_reducible refine jf (by (simp only [↓reduceIte,zlk,Nat.reduceEqDiff,reduceCtorEq]);exact rfl) ?_)|((with_reducible first|refine jg (fun hc=>?_) (fun hc=>?_)|refine jh (fun hc=>?_) (fun hc=>?_))<;>(try simp (disch:=omega) only [zhb] at hc)<;>(try (exfalso;omega))<;>(try subst hc))|(with_reducible refine ji (by omega) ?_)|(simp (config := { maxSteps := 400000 }) only [↓jt,↓reduceIte,zvs,reduceCtorEq,Nat.reduceEqDiff,Nat.reduceAdd,Nat.reduceLeDiff,Nat.reduceMul,Int.reduceBNe,Int.reduceBEq,Int.reduceEq,Int.reduceNe,Int.reduceLT,Int.reduceLE,Int.reduceGT,Int.reduceGE,Int.reduceNeg,Int.reduceToNat,Nat.reduceLT,Nat.reduceSub,tab,Try.results33,jTA])|(simp (disch:=omega) only [ziw]))
        all_goals first
          | (exfalso; omega)
          | (refine xl1 (i + 1) ?_ (by show i + 1 ≤ n; omega) (by show n - (i + 1) < n - i; omega); (refine yrn [(0, 0), (1, 1), (2, 2), (3, 3)] false ?_ ?_<;>(repeat' (first|(with_reducible first|exact ya1|exact ya2|exact ya3|refine jx rfl (by first|rfl|assumption|(simp only [znl,znA6];(first|done|fail)))|exact ya5|exact ya7|exact jy|exact jz|refine jA ?_|refine ya9 ?_ ?_ ?_|refine jC rfl (by first|rfl|assumption|(simp only [znl,znA6];(first|done|fail)))|refine MR.agg (MRL.cons ?_ ?_)|refine MR.fn ?_|refine MRL.cons ?_ ?_|exact MRL.nil|refine jE ?_ ?_|exact jF|exact jG|refine yb1 ?_ ?_|refine MB.row ?_|refine jI ?_ ?_|exact ya8|refine jJ rfl (by first|rfl|assumption|(simp only [znl,znA6];(first|done|fail)))|refine yb2 ?_|rfl)|(simp only [znl,znA6];(first|done|fail))|(simp only [↓reduceIte,zlk,Nat.reduceEqDiff,reduceCtorEq])|(with_reducible first|refine jJ ?_ ?_|refine ya5 ?_|refine ju ?_|refine jv ?_|refine jw ?_|refine jx ?_ (by first|rfl|assumption|(simp only [znl,znA6];(first|done|fail)))|refine jC ?_ (by first|rfl|assumption|(simp only [znl,znA6];(first|done|fail))))))); all_goals (first | rfl); done)
    · obtain rfl : i = n := by omega
      rw [fillU_all]
      have hbo := bytesOf_u (tabU i f)
      have htl := tabU_len i f
      have htk : ((tabU i f).map encU).take i = (tabU i f).map encU := by rw [← List.map_take]; congr 1; exact List.take_of_length_le (by omega)
      repeat' (first|(with_reducible first|refine yrl (by constructor) ?_|refine jk (fun M hM=>?_)|(refine hM _ ?_;clear hM M)|refine xb3 (by decide) ?_|refine yqa (by assumption) ?_ ?_|refine yqb (by assumption) ?_ ?_)|((with_reducible refine je ?_)<;>(first|rfl|assumption|(simp only [znl,znA6];(first|done|fail))))|(with_reducible refine jf (by (simp only [↓reduceIte,zlk,Nat.reduceEqDiff,reduceCtorEq]);exact rfl) ?_)|((with_reducible first|refine jg (fun hc=>?_) (fun hc=>?_)|refine jh (fun hc=>?_) (fun hc=>?_))<;>(try simp (disch:=omega) only [zhb] at hc)<;>(try (exfalso;omega))<;>(try subst hc))|(with_reducible refine ji (by omega) ?_)|(simp (config := { maxSteps := 400000 }) only [↓jt,↓reduceIte,zvs,reduceCtorEq,Nat.reduceEqDiff,Nat.reduceAdd,Nat.reduceLeDiff,Nat.reduceMul,Int.reduceBNe,Int.reduceBEq,Int.reduceEq,Int.reduceNe,Int.reduceLT,Int.reduceLE,Int.reduceGT,Int.reduceGE,Int.reduceNeg,Int.reduceToNat,Nat.reduceLT,Nat.reduceSub,tab,hbo,htk,htl,Try.results33,jTA])|(simp (disch:=omega) only [ziw]))
      all_goals first
        | (exfalso; omega)
        | (simp only [zrds]; done)
end Go.Proofs.Ytoibnghkcdopeaa.V
end
