/-
  Parts of the proof of StateSwept: O2, Q8.
  Conditions: none.
-/
import Derived.Test.YtlgldkjjbbbapaaWStateSwept08
import Derived.Test.YtlgldkjjbbbapaaWStateSwept09
import Derived.Test.YtlgldkjjbbbapaaWStateSwept07
section
/-
  PIPES, part 2: the chapter's example holds.
-/
set_option linter.unusedVariables false
set_option linter.unusedSimpArgs false
namespace Go.Proofs.Ytlgldkjjbbbapaa.V
open Go
set_option maxRecDepth 100000
set_option linter.defProp false in
def znO2 := And.intro @jO <| And.intro @jP <| And.intro @jQ <| And.intro @jR <| And.intro @jS <| And.intro @jT <| And.intro @jU <| True.intro
set_option maxHeartbeats 4000000
abbrev zMV : VV := .agg [.int .u64 0, .int .i64 0, .int .i64 0, .int .i64 0, .sl none 0, .sl none 0, .int .i64 0, .str [], .sl none 0, .int .i64 0, .str [], .bool false, .int .u64 0, .agg [.sl none 0, .sl none 0, .int .i64 0], .sl none 0]
theorem numbers_zero : Spec Try.prog 50 [zMV] (.int .i64 2) := by
  refine spec_ok Try.func50 rfl rfl (by kernel_rfl) (k := 1) rfl (by decide) ?_
  repeat' (first|(with_reducible first|refine yrl (by constructor) ?_|refine jk (fun M hM=>?_)|(refine hM _ ?_;clear hM M)|refine xb3 (by decide) ?_|refine yqa (by assumption) ?_ ?_|refine yqb (by assumption) ?_ ?_)|((with_reducible refine je ?_)<;>(first|rfl|assumption|(simp only [znl,znO2];(first|done|fail))))|(with_reducible refine jf (by (simp only [↓reduceIte,zlk,Nat.reduceEqDiff,reduceCtorEq]);exact rfl) ?_)|((with_reducible first|refine jg (fun hc=>?_) (fun hc=>?_)|refine jh (fun hc=>?_) (fun hc=>?_))<;>(try simp (disch:=omega) only [zhb] at hc)<;>(try (exfalso;omega))<;>(try subst hc))|(with_reducible refine ji (by omega) ?_)|(simp (config := { maxSteps := 400000 }) only [↓jt,↓reduceIte,zvs,reduceCtorEq,Nat.reduceEqDiff,Nat.reduceAdd,Nat.reduceLeDiff,Nat.reduceMul,Int.reduceBNe,Int.reduceBEq,Int.reduceEq,Int.reduceNe,Int.reduceLT,Int.reduceLE,Int.reduceGT,Int.reduceGE,Int.reduceNeg,Int.reduceToNat,Nat.reduceLT,Nat.reduceSub,tab,Try.results50,List.toList_toArray])|(simp (disch:=omega) only [ziw]))
  all_goals first
    | (exfalso; omega)
    | (simp only [zrds]; done)
    | trace_state
theorem scheck_zero : Spec Try.prog 24 [zMV] (.int .i64 2) := by
  have c1 := numbers_zero
  have z0 : ((0 : Nat) : Int) = 0 := rfl
  have z6 : ((6 : Nat) : Int) = 6 := rfl
  have r6 : ∀ a : VV, List.replicate 6 a = [a, a, a, a, a, a] := fun _ => rfl
  refine spec_ok Try.func24 rfl rfl (by kernel_rfl) (k := 1) rfl (by decide) ?_
  repeat' (first|(with_reducible first|refine yrl (by constructor) ?_|refine jk (fun M hM=>?_)|(refine hM _ ?_;clear hM M)|refine xb3 (by decide) ?_|refine yqa (by assumption) ?_ ?_|refine yqb (by assumption) ?_ ?_)|((with_reducible refine je ?_)<;>(first|rfl|assumption|(simp only [znl,znO2];(first|done|fail))))|(with_reducible refine jf (by (simp only [↓reduceIte,zlk,Nat.reduceEqDiff,reduceCtorEq]);exact rfl) ?_)|((with_reducible first|refine jg (fun hc=>?_) (fun hc=>?_)|refine jh (fun hc=>?_) (fun hc=>?_))<;>(try simp (disch:=omega) only [zhb] at hc)<;>(try (exfalso;omega))<;>(try subst hc))|(with_reducible refine ji (by omega) ?_)|(simp (config := { maxSteps := 400000 }) only [↓jt,↓reduceIte,zvs,reduceCtorEq,Nat.reduceEqDiff,Nat.reduceAdd,Nat.reduceLeDiff,Nat.reduceMul,Int.reduceBNe,Int.reduceBEq,Int.reduceEq,Int.reduceNe,Int.reduceLT,Int.reduceLE,Int.reduceGT,Int.reduceGE,Int.reduceNeg,Int.reduceToNat,Nat.reduceLT,Nat.reduceSub,tab,tabF,r6,z6,Try.results24,List.toList_toArray])|(simp (disch:=omega) only [ziw]))
  refine ok_loop (fun k : Nat => ⟨slots [(1, .ptr 0 []), (6, .sl (some (1, [], 0)) 6), (7, .int .i64 6), (8, .int .i64 k)], rows [(0, .row machSh zMV), (1, .row (.arr 6 .cell) (.agg [.fn 50 [], .fn 51 [], .fn 52 [], .fn 53 [], .fn 54 [], .fn 55 []]))], 2⟩) (fun k => k = 0) (fun k => 6 - k) 0 ?_ rfl (fun k hk => ?_)
  · (refine yrn [(0, 0), (1, 1)] false ?_ ?_<;>(repeat' (first|(with_reducible first|exact ya1|exact ya2|exact ya3|refine jx rfl (by first|rfl|assumption|(simp only [znl,znO2];(first|done|fail)))|exact ya5|exact ya7|exact jy|exact jz|refine jA ?_|refine ya9 ?_ ?_ ?_|refine jC rfl (by first|rfl|assumption|(simp only [znl,znO2];(first|done|fail)))|refine MR.agg (MRL.cons ?_ ?_)|refine MR.fn ?_|refine MRL.cons ?_ ?_|exact MRL.nil|refine jE ?_ ?_|exact jF|exact jG|refine yb1 ?_ ?_|refine MB.row ?_|refine jI ?_ ?_|exact ya8|refine jJ rfl (by first|rfl|assumption|(simp only [znl,znO2];(first|done|fail)))|refine yb2 ?_|rfl)|(simp only [znl,znO2];(first|done|fail))|(simp only [↓reduceIte,zlk,Nat.reduceEqDiff,reduceCtorEq])|(with_reducible first|refine jJ ?_ ?_|refine ya5 ?_|refine ju ?_|refine jv ?_|refine jw ?_|refine jx ?_ (by first|rfl|assumption|(simp only [znl,znO2];(first|done|fail)))|refine jC ?_ (by first|rfl|assumption|(simp only [znl,znO2];(first|done|fail)))))))
    all_goals (first | rfl | trace_state)
  subst hk
  repeat' (first|(with_reducible first|refine yrl (by constructor) ?_|refine jk (fun M hM=>?_)|(refine hM _ ?_;clear hM M)|refine xb3 (by decide) ?_|refine yqa (by assumption) ?_ ?_|refine yqb (by assumption) ?_ ?_)|((with_reducible refine je ?_)<;>(first|rfl|assumption|(simp only [znl,znO2];(first|done|fail))))|(with_reducible refine jf (by (simp only [↓reduceIte,zlk,Nat.reduceEqDiff,reduceCtorEq]);exact rfl) ?_)|((with_reducible first|refine jg (fun hc=>?_) (fun hc=>?_)|refine jh (fun hc=>?_) (fun hc=>?_))<;>(try simp (disch:=omega) only [zhb] at hc)<;>(try (exfalso;omega))<;>(try subst hc))|(with_reducible refine ji (by omega) ?_)|(simp (config := { maxSteps := 400000 }) only [↓jt,↓reduceIte,zvs,reduceCtorEq,Nat.reduceEqDiff,Nat.reduceAdd,Nat.reduceLeDiff,Nat.reduceMul,Int.reduceBNe,Int.reduceBEq,Int.reduceEq,Int.reduceNe,Int.reduceLT,Int.reduceLE,Int.reduceGT,Int.reduceGE,Int.reduceNeg,Int.reduceToNat,Nat.reduceLT,Nat.reduceSub,tab,tabF,z0,Try.results24,List.toList_toArray])|(simp (disch:=omega) only [ziw]))
  all_goals first
    | (exfalso; omega)
    | (simp only [zrds]; done)
    | trace_state
theorem flM_chk (f : List UInt8) (d : Dr) (x : List UInt8) (hf : f.length = 128) (hx : x.length ≤ 64) (hc : checkD d = 0) (hh : homeD d = vol0) : chkM (flM f d [⟨1, x⟩] 2) = 0 := by
  have e1 : numB (flM f d [⟨1, x⟩] 2) = false := rfl
  have e2 : procsB (flM f d [⟨1, x⟩] 2) = true := rfl
  have e3 : pipesB (flM f d [⟨1, x⟩] 2) = true := by
    refine List.all_eq_true.2 fun i hi => ?_
    have hi := List.mem_range.1 hi
    obtain rfl : i = 0 := by have : (flM f d [⟨1, x⟩] 2).pipes.length = 1 := rfl; omega
    show (!(false || false || (false && decide ((1 : Int) ≤ 1)) || longB 64 x)) = true
    unfold longB
    rw [show decide (64 < x.length) = false from decide_eq_false (by omega)]
    rfl
  have e4 : diskE (flM f d [⟨1, x⟩] 2) = 0 := by
    unfold diskE
    rw [show (flM f d [⟨1, x⟩] 2).dr = d from rfl, if_neg (by rw [hc]; simp), hh, if_neg (by intro h; have := congrArg List.length h; rw [vol0_len] at this; cases this), if_neg (by show ¬32 < 0; omega)]
    rw [show dirtyE vol0 (flM f d [⟨1, x⟩] 2).dirty = true from rfl, if_neg (by simp), show volM (flM f d [⟨1, x⟩] 2) = homeD d from rfl, hh]
    exact vol0_ok
  unfold chkM
  rw [if_neg (by rw [e1]; simp), if_neg (by show ¬(4 < 1 ∨ 64 < 4); omega), if_neg (by show ¬(([f, f, f, f].any fun s => decide (s.length ≠ 128)) = true); simp [hf]), if_neg (by show ¬(8 < 0); omega), if_neg (by rw [e2]; simp), if_neg (by show ¬(64 < 1); omega), if_neg (by rw [e3]; simp), if_neg (by show ¬(65536 < 0 ∨ 128 < 0); omega), e4]
theorem salive_spec : Spec Try.prog 25 [] (.bool true) := by
  obtain ⟨f, d, hf, h1, h2, h3, h4, hc, hh, hB⟩ := bare_specX
  have hB : Spec Try.prog 29 [] (exF f d [] 1) := hB
  have hO := open_spec f d (by omega) (by rw [h3]; simp)
  obtain ⟨A, eA, lA⟩ : ∃ A : List UInt8, A = (List.replicate 35 [97, 98]).flatten ∧ A.length = 70 := ⟨_, rfl, rfl⟩
  obtain ⟨C, eC, lC⟩ : ∃ A : List UInt8, A = (List.replicate 70 [99]).flatten ∧ A.length = 70 := ⟨_, rfl, rfl⟩
  have hR1 : Spec Try.prog 27 [.str [97, 98], .int .i64 35] (.str A) := by
    have hr := repeat_spec [97, 98] 35 (by decide) (by decide)
    rw [← eA] at hr
    exact hr
  have hR2 : Spec Try.prog 27 [.str [99], .int .i64 70] (.str C) := by
    have hr := repeat_spec [99] 70 (by decide) (by decide)
    rw [← eC] at hr
    exact hr
  have hP1 := put_spec f d hf h1 h2 h3 h4 [] A (by simp) (by omega) 64 (by rw [lA]; rfl)
  rw [List.nil_append] at hP1
  have lX : (A.take 64).length = 64 := by rw [List.length_take, lA]; rfl
  have hT := take_spec f d hf h1 h2 h3 h4 (A.take 64) (by omega) 3 (by omega) 3 (by rw [lX]; rfl)
  rw [show (A.take 64).take 3 = [97, 98, 97] from by rw [eA]; rfl] at hT
  have lY : ((A.take 64).drop 3).length = 61 := by rw [List.length_drop, lX]
  have hC1 := scheck_ok (flM f d [⟨1, (A.take 64).drop 3⟩] 2) (flM_fit f d _ 2 hf h1 h2 h3 h4 (by simp) (fun p hp => by
    rw [List.mem_singleton] at hp
    subst hp
    exact ⟨⟨by show (-9223372036854775808 : Int) ≤ 1; omega, by show (1 : Int) ≤ 9223372036854775807; omega⟩, by show ((A.take 64).drop 3).length ≤ 20000; omega⟩) (by omega)) (flM_chk f d _ hf (by omega) hc hh)
  have hC1 : Spec Try.prog 24 [exF f d [⟨1, (A.take 64).drop 3⟩] 2] (.int .i64 0) := hC1
  have hP2 := put_spec f d hf h1 h2 h3 h4 ((A.take 64).drop 3) C (by omega) (by omega) 3 (by rw [lC, lY]; rfl)
  have hC2 := scheck_zero
  rw [show ((3 : Nat) : Int) = 3 from rfl] at hT hP2
  rw [show ((64 : Nat) : Int) = 64 from rfl] at hP1
  generalize A.take 64 = X at *
  generalize X.drop 3 = Y at *
  generalize C.take 3 = D at *
  clear eA eC h1 h2 h3 h4 hc hh
  refine spec_ok Try.func25 rfl rfl (by kernel_rfl) (k := 0) rfl (by decide) ?_
  repeat' (first|(with_reducible first|refine yrl (by constructor) ?_|refine jk (fun M hM=>?_)|(refine hM _ ?_;clear hM M)|refine xb3 (by decide) ?_|refine yqa (by assumption) ?_ ?_|refine yqb (by assumption) ?_ ?_)|((with_reducible refine je ?_)<;>(first|rfl|assumption|(simp only [znl,znO2];(first|done|fail))))|(with_reducible refine jf (by (simp only [↓reduceIte,zlk,Nat.reduceEqDiff,reduceCtorEq]);exact rfl) ?_)|((with_reducible first|refine jg (fun hc=>?_) (fun hc=>?_)|refine jh (fun hc=>?_) (fun hc=>?_))<;>(try simp (disch:=omega) only [zhb] at hc)<;>(try (exfalso;omega))<;>(try subst hc))|(with_reducible refine ji (by omega) ?_)|(simp (config := { maxSteps := 400000 }) only [↓jt,↓reduceIte,zvs,reduceCtorEq,Nat.reduceEqDiff,Nat.reduceAdd,Nat.reduceLeDiff,Nat.reduceMul,Int.reduceBNe,Int.reduceBEq,Int.reduceEq,Int.reduceNe,Int.reduceLT,Int.reduceLE,Int.reduceGT,Int.reduceGE,Int.reduceNeg,Int.reduceToNat,Nat.reduceLT,Nat.reduceSub,tab,Try.results25,List.toList_toArray])|(simp (disch:=omega) only [ziw]))
  refine ok_drawK 9 [0, 1, 2, 3, 4, 5, 6, 8] 7 0 (by kernel_rfl) (by decide +kernel) (by decide) (by decide) (by intro m hm; simp only [upd_ap,rows_cons,rows_nil]; (repeat (first | rfl | rw [if_neg (by omega)]))) (fun M hM => ?_); simp only [picks,List.getElem?_cons_succ,List.getElem?_cons_zero,List.drop_succ_cons,List.drop_zero]
  repeat' (first|(with_reducible first|refine yrl (by constructor) ?_|refine jk (fun M hM=>?_)|(refine hM _ ?_;clear hM M)|refine xb3 (by decide) ?_|refine yqa (by assumption) ?_ ?_|refine yqb (by assumption) ?_ ?_)|((with_reducible refine je ?_)<;>(first|rfl|assumption|(simp only [znl,znO2];(first|done|fail))))|(with_reducible refine jf (by (simp only [↓reduceIte,zlk,Nat.reduceEqDiff,reduceCtorEq]);exact rfl) ?_)|((with_reducible first|refine jg (fun hc=>?_) (fun hc=>?_)|refine jh (fun hc=>?_) (fun hc=>?_))<;>(try simp (disch:=omega) only [zhb] at hc)<;>(try (exfalso;omega))<;>(try subst hc))|(with_reducible refine ji (by omega) ?_)|(simp (config := { maxSteps := 400000 }) only [↓jt,↓reduceIte,zvs,reduceCtorEq,Nat.reduceEqDiff,Nat.reduceAdd,Nat.reduceLeDiff,Nat.reduceMul,Int.reduceBNe,Int.reduceBEq,Int.reduceEq,Int.reduceNe,Int.reduceLT,Int.reduceLE,Int.reduceGT,Int.reduceGE,Int.reduceNeg,Int.reduceToNat,Nat.reduceLT,Nat.reduceSub,tab,storeAt_go,isP_ptr,Try.results25,List.toList_toArray])|(simp (disch:=omega) only [ziw]))
  refine ok_drawF 10 [0, 1, 2, 3, 4, 5, 6, 9, 7] 8 8 1089 (by kernel_rfl) (by decide +kernel) (by decide) (by decide) (by intro m hm; simp only [upd_ap,rows_cons,rows_nil]; (repeat (first | rfl | rw [if_neg (by omega)]))) (fun M hM => ?_); simp only [picks,List.getElem?_cons_succ,List.getElem?_cons_zero,List.drop_succ_cons,List.drop_zero]
  repeat' (first|(with_reducible first|refine yrl (by constructor) ?_|refine jk (fun M hM=>?_)|(refine hM _ ?_;clear hM M)|refine xb3 (by decide) ?_|refine yqa (by assumption) ?_ ?_|refine yqb (by assumption) ?_ ?_)|((with_reducible refine je ?_)<;>(first|rfl|assumption|(simp only [znl,znO2];(first|done|fail))))|(with_reducible refine jf (by (simp only [↓reduceIte,zlk,Nat.reduceEqDiff,reduceCtorEq]);exact rfl) ?_)|((with_reducible first|refine jg (fun hc=>?_) (fun hc=>?_)|refine jh (fun hc=>?_) (fun hc=>?_))<;>(try simp (disch:=omega) only [zhb] at hc)<;>(try (exfalso;omega))<;>(try subst hc))|(with_reducible refine ji (by omega) ?_)|(simp (config := { maxSteps := 400000 }) only [↓jt,↓reduceIte,zvs,reduceCtorEq,Nat.reduceEqDiff,Nat.reduceAdd,Nat.reduceLeDiff,Nat.reduceMul,Int.reduceBNe,Int.reduceBEq,Int.reduceEq,Int.reduceNe,Int.reduceLT,Int.reduceLE,Int.reduceGT,Int.reduceGE,Int.reduceNeg,Int.reduceToNat,Nat.reduceLT,Nat.reduceSub,tab,storeAt_go,isP_ptr,Try.results25,List.toList_toArray])|(simp (disch:=omega) only [ziw]))
  all_goals first
    | (simp only [zrds]; done)
    | trace_state
end Go.Proofs.Ytlgldkjjbbbapaa.V
end
section
/-
  THE LAW StateSwept.
-/
set_option linter.unusedVariables false
set_option linter.unusedSimpArgs false
namespace Go.Proofs.Ytlgldkjjbbbapaa.V
open Go
set_option maxRecDepth 100000
set_option linter.defProp false in
def znQ8 := And.intro @jO <| And.intro @jP <| And.intro @jQ <| And.intro @jR <| And.intro @jS <| And.intro @jT <| And.intro @jU <| True.intro
set_option maxHeartbeats 8000000
theorem sweepI_at {m : Mach} {j : Nat} (h : j < m.pipes.length) (hk : endB m (m.pipes.getD j default) = true) : (sweepI m j).length < (m.pipes.filter (endB m)).length ∧ (m.pipes.filter (endB m)).getD (sweepI m j).length default = m.pipes.getD j default := by
  have e : m.pipes.filter (endB m) = sweepI m (j + 1) ++ (m.pipes.drop (j + 1)).filter (endB m) := by
    unfold sweepI
    rw [← List.filter_append, List.take_append_drop]
  rw [e, sweepI_keep h hk]
  refine ⟨by simp only [List.length_append,List.length_singleton]; omega, ?_⟩
  rw [List.append_assoc, List.getD_eq_getElem?_getD, List.getElem?_append_right (Nat.le_refl _), Nat.sub_self]
  rfl
theorem sweepI_end (m : Mach) : (sweepI m m.pipes.length).length = (m.pipes.filter (endB m)).length := by
  unfold sweepI; rw [List.take_length]
def seenN (m : Mach) (id : Int) (j : Nat) : Nat := endsN (m.pr.take j) 4 id + endsN (m.pr.take j) 5 id
def seenS (q : Pr) (id : Int) (i : Nat) : Nat := endsS 4 id (q.fds.take i) + endsS 5 id (q.fds.take i)
theorem seenS_next (q : Pr) (id : Int) (i : Nat) (hi : i < q.fds.length) : seenS q id (i + 1) = seenS q id i + if ((q.fds.getD i default).kind = 4 ∨ (q.fds.getD i default).kind = 5) ∧ (q.fds.getD i default).n = id then 1 else 0 := by
  unfold seenS
  rw [take_snoc _ _ hi, endsS_snoc, endsS_snoc]
  generalize q.fds.getD i default = f
  by_cases hn : f.n = id
  · by_cases h4 : f.kind = 4
    · rw [if_pos ⟨h4, hn⟩, if_neg (by omega), if_pos ⟨.inl h4, hn⟩]; omega
    · by_cases h5 : f.kind = 5
      · rw [if_neg (by omega), if_pos ⟨h5, hn⟩, if_pos ⟨.inr h5, hn⟩]; omega
      · rw [if_neg (by omega), if_neg (by omega), if_neg (by omega)]; omega
  · rw [if_neg (fun h => hn h.2), if_neg (fun h => hn h.2), if_neg (fun h => hn h.2)]; omega
theorem seenN_next (m : Mach) (id : Int) (j : Nat) (hj : j < m.pr.length) (h8 : (m.pr.getD j default).fds.length = 8) : seenN m id (j + 1) = seenN m id j + seenS (m.pr.getD j default) id 8 := by
  unfold seenN seenS
  rw [take_snoc _ _ hj, endsN_snoc, endsN_snoc, List.take_of_length_le (l := (m.pr.getD j default).fds) (by omega)]
  omega
theorem seenN_all (m : Mach) (p : Pip) : decide (0 < seenN m p.id m.pr.length) = endB m p := by
  unfold seenN endB; rw [List.take_length]
theorem swept_law (x0 : MachD) (g0 : good machT x0) (l0 : Ty.lite machT x0) : Spec Try.prog 13 [toV machT x0] (.bool true) := by
  have hm := mach_good x0 g0 l0
  rw [toV_mach]
  generalize mMach x0 = m at hm
  clear g0 l0 x0
  have hA := salive_spec
  have hG := great_spec m hm
  have hbe : ∀ a : Int, (a != a) = false := fun a => bne_self_eq_false a
  cases hg : greatM m with
  | true =>
    rw [hg, if_pos rfl] at hG
    refine spec_ok Try.func13 rfl rfl (by kernel_rfl) (k := 1) rfl (by decide) ?_
    repeat' (first|(with_reducible first|refine yrl (by constructor) ?_|refine jk (fun M hM=>?_)|(refine hM _ ?_;clear hM M)|refine xb3 (by decide) ?_|refine yqa (by assumption) ?_ ?_|refine yqb (by assumption) ?_ ?_)|((with_reducible refine je ?_)<;>(first|rfl|assumption|(simp only [znl,znQ8];(first|done|fail))))|(with_reducible refine jf (by (simp only [↓reduceIte,zlk,Nat.reduceEqDiff,reduceCtorEq]);exact rfl) ?_)|((with_reducible first|refine jg (fun hc=>?_) (fun hc=>?_)|refine jh (fun hc=>?_) (fun hc=>?_))<;>(try simp (disch:=omega) only [zhb] at hc)<;>(try (exfalso;omega))<;>(try subst hc))|(with_reducible refine ji (by omega) ?_)|(simp (config := { maxSteps := 400000 }) only [↓jt,↓reduceIte,zvs,reduceCtorEq,Nat.reduceEqDiff,Nat.reduceAdd,Nat.reduceLeDiff,Nat.reduceMul,Int.reduceBNe,Int.reduceBEq,Int.reduceEq,Int.reduceNe,Int.reduceLT,Int.reduceLE,Int.reduceGT,Int.reduceGE,Int.reduceNeg,Int.reduceToNat,Nat.reduceLT,Nat.reduceSub,tab,Try.results13,List.toList_toArray])|(simp (disch:=omega) only [ziw]))
    all_goals first
      | (exfalso; omega)
      | (simp only [zrds]; done)
      | trace_state
  | false =>
    rw [hg, if_neg (by simp)] at hG
    have hfit := (hm.small hg).1
    have hC := rcheckM_spec m hfit
    by_cases h0 : chkM m = 0
    · rw [h0] at hC
      have hW := ssweep_spec m hfit
      have hcw := sweep_chk h0
      have hfw : MFit 20000 (sweepM m) := chk_pipM_fit hfit hcw
      have hWW := ssweep_spec (sweepM m) hfw
      rw [sweep_sweep] at hWW
      have hS := same_spec m hfit
      have hSw := same_spec (sweepM m) hfw
      have hK := scheck_ok (sweepM m) hfw hcw
      have hpR := hfit.pipesR
      have hmp := hfit.pipes
      have hpr := hfit.pr
      have hprR := hfit.prR
      have hend := sweepI_end m
      have hwl : (sweepM m).pipes = m.pipes.filter (endB m) := rfl
      have hwl2 : (sweepM m).pipes.length ≤ m.pipes.length := List.length_filter_le ..
      have hback : encMP (sweepM m) (encPis m.pipes) = encM m := rfl
      generalize sweepM m = w at hW hcw hfw hWW hSw hK hwl hwl2 hback
      refine spec_ok Try.func13 rfl rfl (by kernel_rfl) (k := 1) rfl (by decide) ?_
      repeat' (first|(with_reducible first|refine yrl (by constructor) ?_|refine jk (fun M hM=>?_)|(refine hM _ ?_;clear hM M)|refine xb3 (by decide) ?_|refine yqa (by assumption) ?_ ?_|refine yqb (by assumption) ?_ ?_)|((with_reducible refine je ?_)<;>(first|rfl|assumption|(simp only [znl,znQ8];(first|done|fail))))|(with_reducible refine jf (by (simp only [↓reduceIte,zlk,Nat.reduceEqDiff,reduceCtorEq]);exact rfl) ?_)|((with_reducible first|refine jg (fun hc=>?_) (fun hc=>?_)|refine jh (fun hc=>?_) (fun hc=>?_))<;>(try simp (disch:=omega) only [zhb] at hc)<;>(try (exfalso;omega))<;>(try subst hc))|(with_reducible refine ji (by omega) ?_)|(simp (config := { maxSteps := 400000 }) only [↓jt,↓reduceIte,zvs,reduceCtorEq,Nat.reduceEqDiff,Nat.reduceAdd,Nat.reduceLeDiff,Nat.reduceMul,Int.reduceBNe,Int.reduceBEq,Int.reduceEq,Int.reduceNe,Int.reduceLT,Int.reduceLE,Int.reduceGT,Int.reduceGE,Int.reduceNeg,Int.reduceToNat,Nat.reduceLT,Nat.reduceSub,tab,hbe,Try.results13,List.toList_toArray])|(simp (disch:=omega) only [ziw]))
      all_goals (try (exfalso; omega))
      refine ok_loop (fun k : Nat => ⟨slots [(1, .ptr 0 []), (3, .ptr 1 []), (4, .int .i64 (sweepI m k).length), (26, encPis m.pipes), (27, .int .i64 m.pipes.length), (28, .int .i64 k)], rows [(0, .row machSh (encM m)), (1, .row machSh (encM w))], 2⟩) (fun k => k ≤ m.pipes.length) (fun k => m.pipes.length - k) 0 ?_ (Nat.zero_le _) (fun k hk => ?_)
      · (refine yrn [(0, 0), (1, 1)] false ?_ ?_<;>(repeat' (first|(with_reducible first|exact ya1|exact ya2|exact ya3|refine jx rfl (by first|rfl|assumption|(simp only [znl,znQ8];(first|done|fail)))|exact ya5|exact ya7|exact jy|exact jz|refine jA ?_|refine ya9 ?_ ?_ ?_|refine jC rfl (by first|rfl|assumption|(simp only [znl,znQ8];(first|done|fail)))|refine MR.agg (MRL.cons ?_ ?_)|refine MR.fn ?_|refine MRL.cons ?_ ?_|exact MRL.nil|refine jE ?_ ?_|exact jF|exact jG|refine yb1 ?_ ?_|refine MB.row ?_|refine jI ?_ ?_|exact ya8|refine jJ rfl (by first|rfl|assumption|(simp only [znl,znQ8];(first|done|fail)))|refine yb2 ?_|rfl)|(simp only [znl,znQ8];(first|done|fail))|(simp only [↓reduceIte,zlk,Nat.reduceEqDiff,reduceCtorEq])|(with_reducible first|refine jJ ?_ ?_|refine ya5 ?_|refine ju ?_|refine jv ?_|refine jw ?_|refine jx ?_ (by first|rfl|assumption|(simp only [znl,znQ8];(first|done|fail)))|refine jC ?_ (by first|rfl|assumption|(simp only [znl,znQ8];(first|done|fail)))))))
        all_goals (first | rfl | trace_state)
      have hq := sweepI_len m k
      by_cases hlt : k < m.pipes.length
      · obtain ⟨hpi, hpd⟩ := hpR _ (getD_mem' hlt)
        obtain ⟨hpi1, hpi2⟩ := hpi
        have hat := fun h => sweepI_at (m := m) hlt h
        rw [← hwl] at hat
        have hk1 := fun h => sweepI_keep (m := m) hlt h
        have hk2 := fun h => sweepI_drop (m := m) hlt h
        have hall := seenN_all m (m.pipes.getD k default)
        obtain ⟨q, hqd⟩ : ∃ q, (sweepI m k).length = q := ⟨_, rfl⟩
        rw [hqd] at hq hat
        generalize hp : m.pipes.getD k default = p at hpi1 hpi2 hpd hat hk1 hk2 hall
        repeat' (first|(with_reducible first|refine yrl (by constructor) ?_|refine jk (fun M hM=>?_)|(refine hM _ ?_;clear hM M)|refine xb3 (by decide) ?_|refine yqa (by assumption) ?_ ?_|refine yqb (by assumption) ?_ ?_)|((with_reducible refine je ?_)<;>(first|rfl|assumption|(simp only [znl,znQ8];(first|done|fail))))|(with_reducible refine jf (by (simp only [↓reduceIte,zlk,Nat.reduceEqDiff,reduceCtorEq]);exact rfl) ?_)|((with_reducible first|refine jg (fun hc=>?_) (fun hc=>?_)|refine jh (fun hc=>?_) (fun hc=>?_))<;>(try simp (disch:=omega) only [zhb] at hc)<;>(try (exfalso;omega))<;>(try subst hc))|(with_reducible refine ji (by omega) ?_)|(simp (config := { maxSteps := 400000 }) only [↓jt,↓reduceIte,zvs,reduceCtorEq,Nat.reduceEqDiff,Nat.reduceAdd,Nat.reduceLeDiff,Nat.reduceMul,Int.reduceBNe,Int.reduceBEq,Int.reduceEq,Int.reduceNe,Int.reduceLT,Int.reduceLE,Int.reduceGT,Int.reduceGE,Int.reduceNeg,Int.reduceToNat,Nat.reduceLT,Nat.reduceSub,tab,hbe,hp,hqd,encPi,Try.results13,List.toList_toArray])|(simp (disch:=omega) only [ziw]))
        all_goals (try (exfalso; omega))
        refine ok_loop (fun j : Nat => ⟨slots [(1, .ptr 0 []), (3, .ptr 1 []), (4, .int .i64 q), (26, encPis m.pipes), (27, .int .i64 m.pipes.length), (28, .int .i64 k), (6, .ptr 2 []), (7, .bool (decide (0 < seenN m p.id j))), (33, encPrs m.pr), (34, .int .i64 m.pr.length), (35, .int .i64 j)], rows [(0, .row machSh (encM m)), (1, .row machSh (encM w)), (2, .row piSh (.agg [.int .i64 p.id, .str p.d]))], 3⟩) (fun j => j ≤ m.pr.length) (fun j => m.pr.length - j) 0 ?_ (Nat.zero_le _) (fun j hj => ?_)
        · (refine yrn [(0, 0), (1, 1), (2, 2)] false ?_ ?_<;>(repeat' (first|(with_reducible first|exact ya1|exact ya2|exact ya3|refine jx rfl (by first|rfl|assumption|(simp only [znl,znQ8];(first|done|fail)))|exact ya5|exact ya7|exact jy|exact jz|refine jA ?_|refine ya9 ?_ ?_ ?_|refine jC rfl (by first|rfl|assumption|(simp only [znl,znQ8];(first|done|fail)))|refine MR.agg (MRL.cons ?_ ?_)|refine MR.fn ?_|refine MRL.cons ?_ ?_|exact MRL.nil|refine jE ?_ ?_|exact jF|exact jG|refine yb1 ?_ ?_|refine MB.row ?_|refine jI ?_ ?_|exact ya8|refine jJ rfl (by first|rfl|assumption|(simp only [znl,znQ8];(first|done|fail)))|refine yb2 ?_|rfl)|(simp only [znl,znQ8];(first|done|fail))|(simp only [↓reduceIte,zlk,Nat.reduceEqDiff,reduceCtorEq])|(with_reducible first|refine jJ ?_ ?_|refine ya5 ?_|refine ju ?_|refine jv ?_|refine jw ?_|refine jx ?_ (by first|rfl|assumption|(simp only [znl,znQ8];(first|done|fail)))|refine jC ?_ (by first|rfl|assumption|(simp only [znl,znQ8];(first|done|fail)))))))
          all_goals (first | rfl | exact hqd | trace_state)
        by_cases hjl : j < m.pr.length
        · have hb := hprR _ (getD_mem' hjl)
          obtain ⟨hS1, hS2, hS3⟩ := pr3 hb
          have h8 := hb.fds
          have hsR := hb.fdsR
          have hnx := seenN_next m p.id j hjl h8
          generalize hX : seenN m p.id j = X at hnx
          repeat' (first|(with_reducible first|refine yrl (by constructor) ?_|refine jk (fun M hM=>?_)|(refine hM _ ?_;clear hM M)|refine xb3 (by decide) ?_|refine yqa (by assumption) ?_ ?_|refine yqb (by assumption) ?_ ?_)|((with_reducible refine je ?_)<;>(first|rfl|assumption|(simp only [znl,znQ8];(first|done|fail))))|(with_reducible refine jf (by (simp only [↓reduceIte,zlk,Nat.reduceEqDiff,reduceCtorEq]);exact rfl) ?_)|((with_reducible first|refine jg (fun hc=>?_) (fun hc=>?_)|refine jh (fun hc=>?_) (fun hc=>?_))<;>(try simp (disch:=omega) only [zhb] at hc)<;>(try (exfalso;omega))<;>(try subst hc))|(with_reducible refine ji (by omega) ?_)|(simp (config := { maxSteps := 400000 }) only [↓jt,↓reduceIte,zvs,reduceCtorEq,Nat.reduceEqDiff,Nat.reduceAdd,Nat.reduceLeDiff,Nat.reduceMul,Int.reduceBNe,Int.reduceBEq,Int.reduceEq,Int.reduceNe,Int.reduceLT,Int.reduceLE,Int.reduceGT,Int.reduceGE,Int.reduceNeg,Int.reduceToNat,Nat.reduceLT,Nat.reduceSub,tab,hbe,hX,hS1,hS2,hS3,encPr,Try.results13,List.toList_toArray])|(simp (disch:=omega) only [ziw]))
          all_goals (try (exfalso; omega))
          generalize hu : m.pr.getD j default = u at *
          refine ok_loop (fun i : Nat => ⟨slots [(1, .ptr 0 []), (3, .ptr 1 []), (4, .int .i64 q), (26, encPis m.pipes), (27, .int .i64 m.pipes.length), (28, .int .i64 k), (6, .ptr 2 []), (7, .bool (decide (0 < X + seenS u p.id i))), (33, encPrs m.pr), (34, .int .i64 m.pr.length), (35, .int .i64 j), (40, .agg (u.fds.map encFd)), (41, .int .i64 i)], rows [(0, .row machSh (encM m)), (1, .row machSh (encM w)), (2, .row piSh (.agg [.int .i64 p.id, .str p.d]))], 3⟩) (fun i => i ≤ 8) (fun i => 8 - i) 0 ?_ (Nat.zero_le _) (fun i hi => ?_)
          · (refine yrn [(0, 0), (1, 1), (2, 2)] false ?_ ?_<;>(repeat' (first|(with_reducible first|exact ya1|exact ya2|exact ya3|refine jx rfl (by first|rfl|assumption|(simp only [znl,znQ8];(first|done|fail)))|exact ya5|exact ya7|exact jy|exact jz|refine jA ?_|refine ya9 ?_ ?_ ?_|refine jC rfl (by first|rfl|assumption|(simp only [znl,znQ8];(first|done|fail)))|refine MR.agg (MRL.cons ?_ ?_)|refine MR.fn ?_|refine MRL.cons ?_ ?_|exact MRL.nil|refine jE ?_ ?_|exact jF|exact jG|refine yb1 ?_ ?_|refine MB.row ?_|refine jI ?_ ?_|exact ya8|refine jJ rfl (by first|rfl|assumption|(simp only [znl,znQ8];(first|done|fail)))|refine yb2 ?_|rfl)|(simp only [znl,znQ8];(first|done|fail))|(simp only [↓reduceIte,zlk,Nat.reduceEqDiff,reduceCtorEq])|(with_reducible first|refine jJ ?_ ?_|refine ya5 ?_|refine ju ?_|refine jv ?_|refine jw ?_|refine jx ?_ (by first|rfl|assumption|(simp only [znl,znQ8];(first|done|fail)))|refine jC ?_ (by first|rfl|assumption|(simp only [znl,znQ8];(first|done|fail)))))))
            all_goals (first | rfl | trace_state)
          by_cases hil : i < 8
          · obtain ⟨⟨b1, b2⟩, ⟨b3, b4⟩, b5⟩ := hsR _ (getD_mem' (show i < u.fds.length by omega))
            have hnx2 := seenS_next u p.id i (by omega)
            generalize hf : u.fds.getD i default = f at b1 b2 b3 b4 b5 hnx2
            generalize hY : seenS u p.id i = Y at hnx2
            cases hcv : decide (0 < X + Y) <;> by_cases hh : (f.kind = 4 ∨ f.kind = 5) ∧ f.n = p.id <;> (
              first | rw [if_pos hh] at hnx2 | rw [if_neg hh] at hnx2
              first | have hcv := of_decide_eq_true hcv | have hcv := of_decide_eq_false hcv
              repeat' (first|(with_reducible first|refine yrl (by constructor) ?_|refine jk (fun M hM=>?_)|(refine hM _ ?_;clear hM M)|refine xb3 (by decide) ?_|refine yqa (by assumption) ?_ ?_|refine yqb (by assumption) ?_ ?_)|((with_reducible refine je ?_)<;>(first|rfl|assumption|(simp only [znl,znQ8];(first|done|fail))))|(with_reducible refine jf (by (simp only [↓reduceIte,zlk,Nat.reduceEqDiff,reduceCtorEq]);exact rfl) ?_)|((with_reducible first|refine jg (fun hc=>?_) (fun hc=>?_)|refine jh (fun hc=>?_) (fun hc=>?_))<;>(try simp (disch:=omega) only [zhb] at hc)<;>(try (exfalso;omega))<;>(try subst hc))|(with_reducible refine ji (by omega) ?_)|(simp (config := { maxSteps := 400000 }) only [↓jt,↓reduceIte,zvs,reduceCtorEq,Nat.reduceEqDiff,Nat.reduceAdd,Nat.reduceLeDiff,Nat.reduceMul,Int.reduceBNe,Int.reduceBEq,Int.reduceEq,Int.reduceNe,Int.reduceLT,Int.reduceLE,Int.reduceGT,Int.reduceGE,Int.reduceNeg,Int.reduceToNat,Nat.reduceLT,Nat.reduceSub,tab,hbe,hX,hf,hY,hcv,hS1,hS2,hS3,encFd,Try.results13,List.toList_toArray])|(simp (disch:=omega) only [ziw]))
              all_goals first
                | (exfalso; omega)
                | (refine xl1 (i + 1) ?_ (by show i + 1 ≤ 8; omega) (by show 8 - (i + 1) < 8 - i; omega); (refine yrn [(0, 0), (1, 1), (2, 2)] false ?_ ?_<;>(repeat' (first|(with_reducible first|exact ya1|exact ya2|exact ya3|refine jx rfl (by first|rfl|assumption|(simp only [znl,znQ8];(first|done|fail)))|exact ya5|exact ya7|exact jy|exact jz|refine jA ?_|refine ya9 ?_ ?_ ?_|refine jC rfl (by first|rfl|assumption|(simp only [znl,znQ8];(first|done|fail)))|refine MR.agg (MRL.cons ?_ ?_)|refine MR.fn ?_|refine MRL.cons ?_ ?_|exact MRL.nil|refine jE ?_ ?_|exact jF|exact jG|refine yb1 ?_ ?_|refine MB.row ?_|refine jI ?_ ?_|exact ya8|refine jJ rfl (by first|rfl|assumption|(simp only [znl,znQ8];(first|done|fail)))|refine yb2 ?_|rfl)|(simp only [znl,znQ8];(first|done|fail))|(simp only [↓reduceIte,zlk,Nat.reduceEqDiff,reduceCtorEq])|(with_reducible first|refine jJ ?_ ?_|refine ya5 ?_|refine ju ?_|refine jv ?_|refine jw ?_|refine jx ?_ (by first|rfl|assumption|(simp only [znl,znQ8];(first|done|fail)))|refine jC ?_ (by first|rfl|assumption|(simp only [znl,znQ8];(first|done|fail))))))); all_goals (first | rfl | exact (decide_eq_true (by omega)).symm | exact (decide_eq_false (by omega)).symm | (rw [Bool.eq_iff_iff]; simp only [beq_iff_eq,decide_eq_true_eq]; omega) | trace_state); done)
                | trace_state)
          · obtain rfl : i = 8 := by omega
            rw [← hnx]
            repeat' (first|(with_reducible first|refine yrl (by constructor) ?_|refine jk (fun M hM=>?_)|(refine hM _ ?_;clear hM M)|refine xb3 (by decide) ?_|refine yqa (by assumption) ?_ ?_|refine yqb (by assumption) ?_ ?_)|((with_reducible refine je ?_)<;>(first|rfl|assumption|(simp only [znl,znQ8];(first|done|fail))))|(with_reducible refine jf (by (simp only [↓reduceIte,zlk,Nat.reduceEqDiff,reduceCtorEq]);exact rfl) ?_)|((with_reducible first|refine jg (fun hc=>?_) (fun hc=>?_)|refine jh (fun hc=>?_) (fun hc=>?_))<;>(try simp (disch:=omega) only [zhb] at hc)<;>(try (exfalso;omega))<;>(try subst hc))|(with_reducible refine ji (by omega) ?_)|(simp (config := { maxSteps := 400000 }) only [↓jt,↓reduceIte,zvs,reduceCtorEq,Nat.reduceEqDiff,Nat.reduceAdd,Nat.reduceLeDiff,Nat.reduceMul,Int.reduceBNe,Int.reduceBEq,Int.reduceEq,Int.reduceNe,Int.reduceLT,Int.reduceLE,Int.reduceGT,Int.reduceGE,Int.reduceNeg,Int.reduceToNat,Nat.reduceLT,Nat.reduceSub,tab,hbe,Try.results13,List.toList_toArray])|(simp (disch:=omega) only [ziw]))
            all_goals first
              | (exfalso; omega)
              | (refine xl1 (j + 1) ?_ (by show j + 1 ≤ m.pr.length; omega) (by show m.pr.length - (j + 1) < m.pr.length - j; omega); (refine yrn [(0, 0), (1, 1), (2, 2)] false ?_ ?_<;>(repeat' (first|(with_reducible first|exact ya1|exact ya2|exact ya3|refine jx rfl (by first|rfl|assumption|(simp only [znl,znQ8];(first|done|fail)))|exact ya5|exact ya7|exact jy|exact jz|refine jA ?_|refine ya9 ?_ ?_ ?_|refine jC rfl (by first|rfl|assumption|(simp only [znl,znQ8];(first|done|fail)))|refine MR.agg (MRL.cons ?_ ?_)|refine MR.fn ?_|refine MRL.cons ?_ ?_|exact MRL.nil|refine jE ?_ ?_|exact jF|exact jG|refine yb1 ?_ ?_|refine MB.row ?_|refine jI ?_ ?_|exact ya8|refine jJ rfl (by first|rfl|assumption|(simp only [znl,znQ8];(first|done|fail)))|refine yb2 ?_|rfl)|(simp only [znl,znQ8];(first|done|fail))|(simp only [↓reduceIte,zlk,Nat.reduceEqDiff,reduceCtorEq])|(with_reducible first|refine jJ ?_ ?_|refine ya5 ?_|refine ju ?_|refine jv ?_|refine jw ?_|refine jx ?_ (by first|rfl|assumption|(simp only [znl,znQ8];(first|done|fail)))|refine jC ?_ (by first|rfl|assumption|(simp only [znl,znQ8];(first|done|fail))))))); all_goals (first | rfl | trace_state); done)
              | trace_state
        · obtain rfl : j = m.pr.length := by omega
          rw [hall]
          cases he : endB m p with
          | false =>
            have hk2 := hk2 he
            repeat' (first|(with_reducible first|refine yrl (by constructor) ?_|refine jk (fun M hM=>?_)|(refine hM _ ?_;clear hM M)|refine xb3 (by decide) ?_|refine yqa (by assumption) ?_ ?_|refine yqb (by assumption) ?_ ?_)|((with_reducible refine je ?_)<;>(first|rfl|assumption|(simp only [znl,znQ8];(first|done|fail))))|(with_reducible refine jf (by (simp only [↓reduceIte,zlk,Nat.reduceEqDiff,reduceCtorEq]);exact rfl) ?_)|((with_reducible first|refine jg (fun hc=>?_) (fun hc=>?_)|refine jh (fun hc=>?_) (fun hc=>?_))<;>(try simp (disch:=omega) only [zhb] at hc)<;>(try (exfalso;omega))<;>(try subst hc))|(with_reducible refine ji (by omega) ?_)|(simp (config := { maxSteps := 400000 }) only [↓jt,↓reduceIte,zvs,reduceCtorEq,Nat.reduceEqDiff,Nat.reduceAdd,Nat.reduceLeDiff,Nat.reduceMul,Int.reduceBNe,Int.reduceBEq,Int.reduceEq,Int.reduceNe,Int.reduceLT,Int.reduceLE,Int.reduceGT,Int.reduceGE,Int.reduceNeg,Int.reduceToNat,Nat.reduceLT,Nat.reduceSub,tab,hbe,Try.results13,List.toList_toArray])|(simp (disch:=omega) only [ziw]))
            all_goals first
              | (exfalso; omega)
              | (refine xl1 (k + 1) ?_ (by show k + 1 ≤ m.pipes.length; omega) (by show m.pipes.length - (k + 1) < m.pipes.length - k; omega); (refine yrn [(0, 0), (1, 1)] false ?_ ?_<;>(repeat' (first|(with_reducible first|exact ya1|exact ya2|exact ya3|refine jx rfl (by first|rfl|assumption|(simp only [znl,znQ8];(first|done|fail)))|exact ya5|exact ya7|exact jy|exact jz|refine jA ?_|refine ya9 ?_ ?_ ?_|refine jC rfl (by first|rfl|assumption|(simp only [znl,znQ8];(first|done|fail)))|refine MR.agg (MRL.cons ?_ ?_)|refine MR.fn ?_|refine MRL.cons ?_ ?_|exact MRL.nil|refine jE ?_ ?_|exact jF|exact jG|refine yb1 ?_ ?_|refine MB.row ?_|refine jI ?_ ?_|exact ya8|refine jJ rfl (by first|rfl|assumption|(simp only [znl,znQ8];(first|done|fail)))|refine yb2 ?_|rfl)|(simp only [znl,znQ8];(first|done|fail))|(simp only [↓reduceIte,zlk,Nat.reduceEqDiff,reduceCtorEq])|(with_reducible first|refine jJ ?_ ?_|refine ya5 ?_|refine ju ?_|refine jv ?_|refine jw ?_|refine jx ?_ (by first|rfl|assumption|(simp only [znl,znQ8];(first|done|fail)))|refine jC ?_ (by first|rfl|assumption|(simp only [znl,znQ8];(first|done|fail))))))); all_goals (first | rfl | (rw [hk2, hqd]; done) | trace_state); done)
              | trace_state
          | true =>
            have hk1 := hk1 he
            obtain ⟨hat1, hat2⟩ := hat he
            repeat' (first|(with_reducible first|refine yrl (by constructor) ?_|refine jk (fun M hM=>?_)|(refine hM _ ?_;clear hM M)|refine xb3 (by decide) ?_|refine yqa (by assumption) ?_ ?_|refine yqb (by assumption) ?_ ?_)|((with_reducible refine je ?_)<;>(first|rfl|assumption|(simp only [znl,znQ8];(first|done|fail))))|(with_reducible refine jf (by (simp only [↓reduceIte,zlk,Nat.reduceEqDiff,reduceCtorEq]);exact rfl) ?_)|((with_reducible first|refine jg (fun hc=>?_) (fun hc=>?_)|refine jh (fun hc=>?_) (fun hc=>?_))<;>(try simp (disch:=omega) only [zhb] at hc)<;>(try (exfalso;omega))<;>(try subst hc))|(with_reducible refine ji (by omega) ?_)|(simp (config := { maxSteps := 400000 }) only [↓jt,↓reduceIte,zvs,reduceCtorEq,Nat.reduceEqDiff,Nat.reduceAdd,Nat.reduceLeDiff,Nat.reduceMul,Int.reduceBNe,Int.reduceBEq,Int.reduceEq,Int.reduceNe,Int.reduceLT,Int.reduceLE,Int.reduceGT,Int.reduceGE,Int.reduceNeg,Int.reduceToNat,Nat.reduceLT,Nat.reduceSub,tab,hbe,Try.results13,List.toList_toArray])|(simp (disch:=omega) only [ziw]))
            refine ok_drawC 12 (by kernel_rfl) (by decide +kernel) (by intro m hm; simp only [upd_ap,rows_cons,rows_nil]; (repeat (first | rfl | rw [if_neg (by omega)]))) (fun M hM => ?_); simp only [List.take_succ_cons,List.take_zero,List.drop_succ_cons,List.drop_zero]
            have hv : veq (.agg [.int .i64 p.id, .str p.d]) (.agg [.int .i64 p.id, .str p.d]) = true := by simp [veq, veqs]
            have hk1' : ((sweepI m (k + 1)).length : Int) = q + 1 := by rw [hk1, List.length_append, hqd]; rfl
            repeat' (first|(with_reducible first|refine yrl (by constructor) ?_|refine jk (fun M hM=>?_)|(refine hM _ ?_;clear hM M)|refine xb3 (by decide) ?_|refine yqa (by assumption) ?_ ?_|refine yqb (by assumption) ?_ ?_)|((with_reducible refine je ?_)<;>(first|rfl|assumption|(simp only [znl,znQ8];(first|done|fail))))|(with_reducible refine jf (by (simp only [↓reduceIte,zlk,Nat.reduceEqDiff,reduceCtorEq]);exact rfl) ?_)|((with_reducible first|refine jg (fun hc=>?_) (fun hc=>?_)|refine jh (fun hc=>?_) (fun hc=>?_))<;>(try simp (disch:=omega) only [zhb] at hc)<;>(try (exfalso;omega))<;>(try subst hc))|(with_reducible refine ji (by omega) ?_)|(simp (config := { maxSteps := 400000 }) only [↓jt,↓reduceIte,zvs,reduceCtorEq,Nat.reduceEqDiff,Nat.reduceAdd,Nat.reduceLeDiff,Nat.reduceMul,Int.reduceBNe,Int.reduceBEq,Int.reduceEq,Int.reduceNe,Int.reduceLT,Int.reduceLE,Int.reduceGT,Int.reduceGE,Int.reduceNeg,Int.reduceToNat,Nat.reduceLT,Nat.reduceSub,tab,hbe,hat2,hv,encPi,fit_pi,Try.results13,List.toList_toArray])|(simp (disch:=omega) only [ziw]))
            all_goals first
              | (exfalso; omega)
              | (refine xl1 (k + 1) ?_ (by show k + 1 ≤ m.pipes.length; omega) (by show m.pipes.length - (k + 1) < m.pipes.length - k; omega); (refine yrn [(0, 0), (1, 1)] false ?_ ?_<;>(repeat' (first|(with_reducible first|exact ya1|exact ya2|exact ya3|refine jx rfl (by first|rfl|assumption|(simp only [znl,znQ8];(first|done|fail)))|exact ya5|exact ya7|exact jy|exact jz|refine jA ?_|refine ya9 ?_ ?_ ?_|refine jC rfl (by first|rfl|assumption|(simp only [znl,znQ8];(first|done|fail)))|refine MR.agg (MRL.cons ?_ ?_)|refine MR.fn ?_|refine MRL.cons ?_ ?_|exact MRL.nil|refine jE ?_ ?_|exact jF|exact jG|refine yb1 ?_ ?_|refine MB.row ?_|refine jI ?_ ?_|exact ya8|refine jJ rfl (by first|rfl|assumption|(simp only [znl,znQ8];(first|done|fail)))|refine yb2 ?_|rfl)|(simp only [znl,znQ8];(first|done|fail))|(simp only [↓reduceIte,zlk,Nat.reduceEqDiff,reduceCtorEq])|(with_reducible first|refine jJ ?_ ?_|refine ya5 ?_|refine ju ?_|refine jv ?_|refine jw ?_|refine jx ?_ (by first|rfl|assumption|(simp only [znl,znQ8];(first|done|fail)))|refine jC ?_ (by first|rfl|assumption|(simp only [znl,znQ8];(first|done|fail))))))); all_goals (first | rfl | exact hk1'.symm | trace_state); done)
              | trace_state
      · obtain rfl : k = m.pipes.length := by omega
        repeat' (first|(with_reducible first|refine yrl (by constructor) ?_|refine jk (fun M hM=>?_)|(refine hM _ ?_;clear hM M)|refine xb3 (by decide) ?_|refine yqa (by assumption) ?_ ?_|refine yqb (by assumption) ?_ ?_)|((with_reducible refine je ?_)<;>(first|rfl|assumption|(simp only [znl,znQ8];(first|done|fail))))|(with_reducible refine jf (by (simp only [↓reduceIte,zlk,Nat.reduceEqDiff,reduceCtorEq]);exact rfl) ?_)|((with_reducible first|refine jg (fun hc=>?_) (fun hc=>?_)|refine jh (fun hc=>?_) (fun hc=>?_))<;>(try simp (disch:=omega) only [zhb] at hc)<;>(try (exfalso;omega))<;>(try subst hc))|(with_reducible refine ji (by omega) ?_)|(simp (config := { maxSteps := 400000 }) only [↓jt,↓reduceIte,zvs,reduceCtorEq,Nat.reduceEqDiff,Nat.reduceAdd,Nat.reduceLeDiff,Nat.reduceMul,Int.reduceBNe,Int.reduceBEq,Int.reduceEq,Int.reduceNe,Int.reduceLT,Int.reduceLE,Int.reduceGT,Int.reduceGE,Int.reduceNeg,Int.reduceToNat,Nat.reduceLT,Nat.reduceSub,tab,hbe,Try.results13,List.toList_toArray])|(simp (disch:=omega) only [ziw]))
        rw [← hwl] at hend
        have hS2 : Spec Try.prog 40 [encMP w (encPis m.pipes), encM m] (.int .i64 1) := by rw [hback]; exact hS
        simp only [encMP] at hS2
        refine ok_drawC 15 (by kernel_rfl) (by decide +kernel) (by intro m hm; simp only [upd_ap,rows_cons,rows_nil]; (repeat (first | rfl | rw [if_neg (by omega)]))) (fun M hM => ?_); simp only [List.take_succ_cons,List.take_zero,List.drop_succ_cons,List.drop_zero]
        repeat' (first|(with_reducible first|refine yrl (by constructor) ?_|refine jk (fun M hM=>?_)|(refine hM _ ?_;clear hM M)|refine xb3 (by decide) ?_|refine yqa (by assumption) ?_ ?_|refine yqb (by assumption) ?_ ?_)|((with_reducible refine je ?_)<;>(first|rfl|assumption|(simp only [znl,znQ8];(first|done|fail))))|(with_reducible refine jf (by (simp only [↓reduceIte,zlk,Nat.reduceEqDiff,reduceCtorEq]);exact rfl) ?_)|((with_reducible first|refine jg (fun hc=>?_) (fun hc=>?_)|refine jh (fun hc=>?_) (fun hc=>?_))<;>(try simp (disch:=omega) only [zhb] at hc)<;>(try (exfalso;omega))<;>(try subst hc))|(with_reducible refine ji (by omega) ?_)|(simp (config := { maxSteps := 400000 }) only [↓jt,↓reduceIte,zvs,reduceCtorEq,Nat.reduceEqDiff,Nat.reduceAdd,Nat.reduceLeDiff,Nat.reduceMul,Int.reduceBNe,Int.reduceBEq,Int.reduceEq,Int.reduceNe,Int.reduceLT,Int.reduceLE,Int.reduceGT,Int.reduceGE,Int.reduceNeg,Int.reduceToNat,Nat.reduceLT,Nat.reduceSub,tab,hbe,hend,Try.results13,List.toList_toArray])|(simp (disch:=omega) only [ziw]))
        all_goals first
          | (exfalso; omega)
          | (simp only [zrds]; done)
          | (simp only [zrds]; rfl)
          | trace_state
    · generalize chkM m = c at hC h0
      have hbe : (c != c) = false := bne_self_eq_false c
      refine spec_ok Try.func13 rfl rfl (by kernel_rfl) (k := 1) rfl (by decide) ?_
      repeat' (first|(with_reducible first|refine yrl (by constructor) ?_|refine jk (fun M hM=>?_)|(refine hM _ ?_;clear hM M)|refine xb3 (by decide) ?_|refine yqa (by assumption) ?_ ?_|refine yqb (by assumption) ?_ ?_)|((with_reducible refine je ?_)<;>(first|rfl|assumption|(simp only [znl,znQ8];(first|done|fail))))|(with_reducible refine jf (by (simp only [↓reduceIte,zlk,Nat.reduceEqDiff,reduceCtorEq]);exact rfl) ?_)|((with_reducible first|refine jg (fun hc=>?_) (fun hc=>?_)|refine jh (fun hc=>?_) (fun hc=>?_))<;>(try simp (disch:=omega) only [zhb] at hc)<;>(try (exfalso;omega))<;>(try subst hc))|(with_reducible refine ji (by omega) ?_)|(simp (config := { maxSteps := 400000 }) only [↓jt,↓reduceIte,zvs,reduceCtorEq,Nat.reduceEqDiff,Nat.reduceAdd,Nat.reduceLeDiff,Nat.reduceMul,Int.reduceBNe,Int.reduceBEq,Int.reduceEq,Int.reduceNe,Int.reduceLT,Int.reduceLE,Int.reduceGT,Int.reduceGE,Int.reduceNeg,Int.reduceToNat,Nat.reduceLT,Nat.reduceSub,tab,hbe,Try.results13,List.toList_toArray])|(simp (disch:=omega) only [ziw]))
      all_goals first
        | (exfalso; omega)
        | (simp only [zrds]; done)
        | trace_state
end Go.Proofs.Ytlgldkjjbbbapaa.V
end
