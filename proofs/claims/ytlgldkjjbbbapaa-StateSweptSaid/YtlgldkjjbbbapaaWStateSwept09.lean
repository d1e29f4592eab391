/-
  Parts of the proof of StateSwept: NU, M14, NS, NV, NW, NJ, VregW.
  Conditions: none.
-/
import Derived.Test.YtlgldkjjbbbapaaWStateSwept06
import Derived.Test.YtlgldkjjbbbapaaWStateSwept07
import Derived.Test.YtlgldkjjbbbapaaWStateSwept04
import Derived.Test.YtlgldkjjbbbapaaWStateSwept08
import Derived.Test.YtlgldkjjbbbapaaWStateSwept05
section
/-
  MACHINES, part 27: the program's own test of a volume's first blocks.
-/
set_option linter.unusedVariables false
set_option linter.unusedSimpArgs false
namespace Go.Proofs.Ytlgldkjjbbbapaa.V
open Go
set_option maxRecDepth 100000
set_option linter.defProp false in
def znNU := And.intro @jO <| And.intro @jP <| And.intro @jQ <| And.intro @jR <| And.intro @jS <| And.intro @jT <| And.intro @jU <| True.intro
set_option maxHeartbeats 4000000
theorem gplan_spec (b i : Int) (hb : 0 ≤ b ∧ b ≤ 1000000) (hi : 0 ≤ i ∧ i ≤ 1000000) : Spec Try.prog 119 [.int .i64 b, .int .i64 i] (planV (planG b i)) := by
  unfold planG
  have h6 : ∀ a : VV, List.replicate 6 a = [a, a, a, a, a, a] := fun _ => rfl
  by_cases h1 : b < 16 ∨ 223 < b ∨ i < 4 ∨ 64 < i
  · rw [if_pos h1]
    refine spec_ok Try.func119 rfl rfl (by kernel_rfl) (k := 2) rfl (by decide) ?_
    repeat' (first|(with_reducible first|refine yrl (by constructor) ?_|refine jk (fun M hM=>?_)|(refine hM _ ?_;clear hM M)|refine xb3 (by decide) ?_|refine yqa (by assumption) ?_ ?_|refine yqb (by assumption) ?_ ?_)|((with_reducible refine je ?_)<;>(first|rfl|assumption|(simp only [znl,znNU];(first|done|fail))))|(with_reducible refine jf (by (simp only [↓reduceIte,zlk,Nat.reduceEqDiff,reduceCtorEq]);exact rfl) ?_)|((with_reducible first|refine jg (fun hc=>?_) (fun hc=>?_)|refine jh (fun hc=>?_) (fun hc=>?_))<;>(try simp (disch:=omega) only [zhb] at hc)<;>(try (exfalso;omega))<;>(try subst hc))|(with_reducible refine ji (by omega) ?_)|(simp (config := { maxSteps := 400000 }) only [↓jt,↓reduceIte,zvs,reduceCtorEq,Nat.reduceEqDiff,Nat.reduceAdd,Nat.reduceLeDiff,Nat.reduceMul,Int.reduceBNe,Int.reduceBEq,Int.reduceEq,Int.reduceNe,Int.reduceLT,Int.reduceLE,Int.reduceGT,Int.reduceGE,Int.reduceNeg,Int.reduceToNat,Nat.reduceLT,Nat.reduceSub,tab,h6,Try.results119,List.toList_toArray])|(simp (disch:=omega) only [ziw]))
    all_goals first
      | (exfalso; omega)
      | (simp only [planV,geoV]; simp only [zrds]; done)
      | trace_state
  · rw [if_neg h1]
    by_cases h2 : b ≤ 3 + (i + 1) / 2
    · rw [if_pos h2]
      refine spec_ok Try.func119 rfl rfl (by kernel_rfl) (k := 2) rfl (by decide) ?_
      repeat' (first|(with_reducible first|refine yrl (by constructor) ?_|refine jk (fun M hM=>?_)|(refine hM _ ?_;clear hM M)|refine xb3 (by decide) ?_|refine yqa (by assumption) ?_ ?_|refine yqb (by assumption) ?_ ?_)|((with_reducible refine je ?_)<;>(first|rfl|assumption|(simp only [znl,znNU];(first|done|fail))))|(with_reducible refine jf (by (simp only [↓reduceIte,zlk,Nat.reduceEqDiff,reduceCtorEq]);exact rfl) ?_)|((with_reducible first|refine jg (fun hc=>?_) (fun hc=>?_)|refine jh (fun hc=>?_) (fun hc=>?_))<;>(try simp (disch:=omega) only [zhb] at hc)<;>(try (exfalso;omega))<;>(try subst hc))|(with_reducible refine ji (by omega) ?_)|(simp (config := { maxSteps := 400000 }) only [↓jt,↓reduceIte,zvs,reduceCtorEq,Nat.reduceEqDiff,Nat.reduceAdd,Nat.reduceLeDiff,Nat.reduceMul,Int.reduceBNe,Int.reduceBEq,Int.reduceEq,Int.reduceNe,Int.reduceLT,Int.reduceLE,Int.reduceGT,Int.reduceGE,Int.reduceNeg,Int.reduceToNat,Nat.reduceLT,Nat.reduceSub,tab,h6,Try.results119,List.toList_toArray])|(simp (disch:=omega) only [ziw]))
      all_goals first
        | (exfalso; omega)
        | (simp only [planV,geoV]; simp only [zrds]; done)
        | trace_state
    · rw [if_neg h2]
      refine spec_ok Try.func119 rfl rfl (by kernel_rfl) (k := 2) rfl (by decide) ?_
      repeat' (first|(with_reducible first|refine yrl (by constructor) ?_|refine jk (fun M hM=>?_)|(refine hM _ ?_;clear hM M)|refine xb3 (by decide) ?_|refine yqa (by assumption) ?_ ?_|refine yqb (by assumption) ?_ ?_)|((with_reducible refine je ?_)<;>(first|rfl|assumption|(simp only [znl,znNU];(first|done|fail))))|(with_reducible refine jf (by (simp only [↓reduceIte,zlk,Nat.reduceEqDiff,reduceCtorEq]);exact rfl) ?_)|((with_reducible first|refine jg (fun hc=>?_) (fun hc=>?_)|refine jh (fun hc=>?_) (fun hc=>?_))<;>(try simp (disch:=omega) only [zhb] at hc)<;>(try (exfalso;omega))<;>(try subst hc))|(with_reducible refine ji (by omega) ?_)|(simp (config := { maxSteps := 400000 }) only [↓jt,↓reduceIte,zvs,reduceCtorEq,Nat.reduceEqDiff,Nat.reduceAdd,Nat.reduceLeDiff,Nat.reduceMul,Int.reduceBNe,Int.reduceBEq,Int.reduceEq,Int.reduceNe,Int.reduceLT,Int.reduceLE,Int.reduceGT,Int.reduceGE,Int.reduceNeg,Int.reduceToNat,Nat.reduceLT,Nat.reduceSub,tab,h6,Try.results119,List.toList_toArray])|(simp (disch:=omega) only [ziw]))
      all_goals first
        | (exfalso; omega)
        | (simp only [planV,geoV]; simp only [zrds]; done)
        | trace_state
theorem gfirst_spec (g : Geo) (h1 : 0 ≤ g.bl ∧ g.bl < 1000) (h2 : 0 ≤ g.ino ∧ g.ino < 1000) : Spec Try.prog 121 [geoV g] (.str (headG g.bl g.ino)) := by
  obtain ⟨b, i, q, mp, tb, da⟩ := g
  dsimp only at h1 h2
  obtain ⟨b, rfl⟩ := Int.eq_ofNat_of_zero_le h1.1
  obtain ⟨i, rfl⟩ := Int.eq_ofNat_of_zero_le h2.1
  have hA : Spec Try.prog 130 [.int .u64 b, .int .i64 2] (.str (putLE b 2)) := num_put_spec b (by omega) 2
  have hB : Spec Try.prog 130 [.int .u64 i, .int .i64 2] (.str (putLE i 2)) := num_put_spec i (by omega) 2
  have hC : Spec Try.prog 27 [.str [0], .int .i64 120] (.str (List.replicate 120 0)) := by
    have hr := repeat_spec [0] 120 (by decide) (by decide)
    rw [show (List.replicate 120 [(0 : UInt8)]).flatten = List.replicate 120 0 from by decide] at hr
    exact hr
  have l1 := putLE_len b 2
  have l2 := putLE_len i 2
  have z120 : (128 : Int) - ((8 : Nat) : Int) = 120 := rfl
  simp only [geoV,headG,Int.toNat_natCast]
  refine spec_ok Try.func121 rfl rfl (by kernel_rfl) (k := 1) rfl (by decide) ?_
  repeat' (first|(with_reducible first|refine yrl (by constructor) ?_|refine jk (fun M hM=>?_)|(refine hM _ ?_;clear hM M)|refine xb3 (by decide) ?_|refine yqa (by assumption) ?_ ?_|refine yqb (by assumption) ?_ ?_)|((with_reducible refine je ?_)<;>(first|rfl|assumption|(simp only [znl,znNU];(first|done|fail))))|(with_reducible refine jf (by (simp only [↓reduceIte,zlk,Nat.reduceEqDiff,reduceCtorEq]);exact rfl) ?_)|((with_reducible first|refine jg (fun hc=>?_) (fun hc=>?_)|refine jh (fun hc=>?_) (fun hc=>?_))<;>(try simp (disch:=omega) only [zhb] at hc)<;>(try (exfalso;omega))<;>(try subst hc))|(with_reducible refine ji (by omega) ?_)|(simp (config := { maxSteps := 400000 }) only [↓jt,↓reduceIte,zvs,reduceCtorEq,Nat.reduceEqDiff,Nat.reduceAdd,Nat.reduceLeDiff,Nat.reduceMul,Int.reduceBNe,Int.reduceBEq,Int.reduceEq,Int.reduceNe,Int.reduceLT,Int.reduceLE,Int.reduceGT,Int.reduceGE,Int.reduceNeg,Int.reduceToNat,Nat.reduceLT,Nat.reduceSub,tab,l1,l2,Try.results121,List.toList_toArray])|(simp (disch:=omega) only [ziw]))
  refine ok_draw 10 (by kernel_rfl) (by decide +kernel) (by intro m hm; simp only [upd_ap,rows_cons,rows_nil]; (repeat (first | rfl | rw [if_neg (by omega)]))) (fun M hM => ?_); simp only [List.take_succ_cons,List.take_zero,List.drop_succ_cons,List.drop_zero]
  repeat' (first|(with_reducible first|refine yrl (by constructor) ?_|refine jk (fun M hM=>?_)|(refine hM _ ?_;clear hM M)|refine xb3 (by decide) ?_|refine yqa (by assumption) ?_ ?_|refine yqb (by assumption) ?_ ?_)|((with_reducible refine je ?_)<;>(first|rfl|assumption|(simp only [znl,znNU];(first|done|fail))))|(with_reducible refine jf (by (simp only [↓reduceIte,zlk,Nat.reduceEqDiff,reduceCtorEq]);exact rfl) ?_)|((with_reducible first|refine jg (fun hc=>?_) (fun hc=>?_)|refine jh (fun hc=>?_) (fun hc=>?_))<;>(try simp (disch:=omega) only [zhb] at hc)<;>(try (exfalso;omega))<;>(try subst hc))|(with_reducible refine ji (by omega) ?_)|(simp (config := { maxSteps := 400000 }) only [↓jt,↓reduceIte,zvs,reduceCtorEq,Nat.reduceEqDiff,Nat.reduceAdd,Nat.reduceLeDiff,Nat.reduceMul,Int.reduceBNe,Int.reduceBEq,Int.reduceEq,Int.reduceNe,Int.reduceLT,Int.reduceLE,Int.reduceGT,Int.reduceGE,Int.reduceNeg,Int.reduceToNat,Nat.reduceLT,Nat.reduceSub,tab,l1,l2,z120,Try.results121,List.toList_toArray])|(simp (disch:=omega) only [ziw]))
  all_goals first
    | (simp only [zrds]; done)
    | trace_state
theorem gbit_spec (v : Frames) (hv : 3 ≤ v.length ∧ v.length ≤ 20000) (hs : (v.getD 2 []).length = 128) (i : Nat) (hi : i < 1024) : Spec Try.prog 122 [encStrs v, .int .i64 i] (.bool (bitB (v.getD 2 []) i)) := by
  refine spec_ok Try.func122 rfl rfl (by kernel_rfl) (k := 2) rfl (by decide) ?_
  repeat' (first|(with_reducible first|refine yrl (by constructor) ?_|refine jk (fun M hM=>?_)|(refine hM _ ?_;clear hM M)|refine xb3 (by decide) ?_|refine yqa (by assumption) ?_ ?_|refine yqb (by assumption) ?_ ?_)|((with_reducible refine je ?_)<;>(first|rfl|assumption|(simp only [znl,znNU];(first|done|fail))))|(with_reducible refine jf (by (simp only [↓reduceIte,zlk,Nat.reduceEqDiff,reduceCtorEq]);exact rfl) ?_)|((with_reducible first|refine jg (fun hc=>?_) (fun hc=>?_)|refine jh (fun hc=>?_) (fun hc=>?_))<;>(try simp (disch:=omega) only [zhb] at hc)<;>(try (exfalso;omega))<;>(try subst hc))|(with_reducible refine ji (by omega) ?_)|(simp (config := { maxSteps := 400000 }) only [↓jt,↓reduceIte,zvs,reduceCtorEq,Nat.reduceEqDiff,Nat.reduceAdd,Nat.reduceLeDiff,Nat.reduceMul,Int.reduceBNe,Int.reduceBEq,Int.reduceEq,Int.reduceNe,Int.reduceLT,Int.reduceLE,Int.reduceGT,Int.reduceGE,Int.reduceNeg,Int.reduceToNat,Nat.reduceLT,Nat.reduceSub,tab,hs,Try.results122,List.toList_toArray])|(simp (disch:=omega) only [ziw]))
  unfold bitB
  simp only [zrds]
theorem head_le {v : List UInt8} {b i : Nat} (hv : v = headG b i) (hb : b < 65536) (hi : i < 65536) : getLE ((v.drop 4).take 2) = b ∧ getLE ((v.drop 6).take 2) = i := by
  subst hv
  have e1 : ((headG b i).drop 4).take 2 = putLE b 2 := by
    simp only [headG,Int.toNat_natCast]
    simp [putLE]
  have e2 : ((headG b i).drop 6).take 2 = putLE i 2 := by
    simp only [headG,Int.toNat_natCast]
    simp [putLE]
  have key : ∀ n : Nat, n < 65536 → getLE (putLE n 2) = n := fun n hn => by
    simp only [putLE,List.nil_append,List.cons_append,getLE,Nat.pow_zero,Nat.div_one,Nat.pow_one,Nat.mul_zero,Nat.add_zero,UInt8.toNat_ofNat']
    omega
  rw [e1, e2]
  exact ⟨key b hb, key i hi⟩
theorem gof_ok (v : Frames) (hv : v.length ≤ 20000) (hs : ∀ s ∈ v, s.length ≤ 20000) (h0 : volE v = 0) : ∃ g, Spec Try.prog 88 [encStrs v] (.tup [geoV g, .int .i64 0]) := by
  have h6 : ∀ a : VV, List.replicate 6 a = [a, a, a, a, a, a] := fun _ => rfl
  unfold volE at h0
  dsimp only at h0
  split at h0
  · omega
  rename_i h16
  split at h0
  · omega
  rename_i hAny
  have hA : ∀ s ∈ v, s.length = 128 := fun s h => by
    refine Decidable.byContradiction fun hc => hAny ?_
    rw [List.any_eq_true]
    exact ⟨s, h, decide_eq_true hc⟩
  split at h0
  · omega
  rename_i hp
  split at h0
  · rename_i hbits
    have hl0 : (v.getD 0 []).length = 128 := by
      have := hA _ (getD_mem' (show 0 < v.length by omega))
      rw [default_str] at this
      exact this
    have hl2 : (v.getD 2 []).length = 128 := by
      have := hA _ (getD_mem' (show 2 < v.length by omega))
      rw [default_str] at this
      exact this
    have hb6 : ((v.getD 0 []).drop 6 |>.take 2).length = 2 := by rw [List.length_take, List.length_drop]; omega
    have hb4 : ((v.getD 0 []).drop 4 |>.take 2).length = 2 := by rw [List.length_take, List.length_drop]; omega
    have hN6 := num_get_spec (((v.getD 0 []).drop 6).take 2) (by omega)
    have hN4 := num_get_spec (((v.getD 0 []).drop 4).take 2) (by omega)
    rw [show List.take 8 (((v.getD 0 []).drop 6).take 2) = ((v.getD 0 []).drop 6).take 2 from List.take_of_length_le (by omega)] at hN6
    rw [show List.take 8 (((v.getD 0 []).drop 4).take 2) = ((v.getD 0 []).drop 4).take 2 from List.take_of_length_le (by omega)] at hN4
    have hNl := getLE_lt (((v.getD 0 []).drop 6).take 2)
    rw [hb6] at hNl
    have hd : v.getD 0 [] = headG v.length (getLE (((v.getD 0 []).drop 6).take 2)) := Decidable.byContradiction fun hc => hp (.inr hc)
    have hpl : (planG v.length (getLE (((v.getD 0 []).drop 6).take 2))).2 = 0 := Decidable.byContradiction fun hc => hp (.inl hc)
    have hlen : v.length ≤ 223 ∧ 4 ≤ getLE (((v.getD 0 []).drop 6).take 2) ∧ getLE (((v.getD 0 []).drop 6).take 2) ≤ 64 ∧ planG v.length (getLE (((v.getD 0 []).drop 6).take 2)) = (⟨v.length, getLE (((v.getD 0 []).drop 6).take 2), 1, 2, 3, 3 + ((getLE (((v.getD 0 []).drop 6).take 2) : Int) + 1) / 2⟩, 0) := by
      unfold planG at hpl ⊢
      split at hpl
      · simp at hpl
      · split at hpl
        · simp at hpl
        · rename_i q1 q2
          rw [if_neg q1, if_neg q2]
          exact ⟨by omega, by omega, by omega, rfl⟩
    have h4 := (head_le hd (by omega) (by omega)).1
    rw [h4] at hN4
    generalize getLE (((v.getD 0 []).drop 6).take 2) = ino at hN6 hNl hd hlen hbits hpl
    obtain ⟨q1, q2, q3, hq⟩ := hlen
    rw [hq] at hbits
    have hP := gplan_spec v.length ino (by omega) (by omega)
    rw [hq] at hP
    simp only [planV,geoV] at hP
    have hH := gfirst_spec ⟨v.length, ino, 1, 2, 3, 3 + ((ino : Int) + 1) / 2⟩ (by dsimp only; omega) (by dsimp only; omega)
    simp only [geoV] at hH
    rw [← hd] at hH
    have hQ : ∀ k : Nat, k < 1024 → (!((decide ((k : Int) < 3 + ((ino : Int) + 1) / 2) && !bitB (v.getD 2 []) k) || (decide ((v.length : Int) ≤ k) && bitB (v.getD 2 []) k))) = true := fun k hk => (List.all_eq_true.1 hbits) k (List.mem_range.2 hk)
    clear hbits hq hpl hp hAny
    refine ⟨⟨v.length, ino, 1, 2, 3, 3 + ((ino : Int) + 1) / 2⟩, spec_ok Try.func88 rfl rfl (by kernel_rfl) (k := 1) rfl (by decide) ?_⟩
    repeat' (first|(with_reducible first|refine yrl (by constructor) ?_|refine jk (fun M hM=>?_)|(refine hM _ ?_;clear hM M)|refine xb3 (by decide) ?_|refine yqa (by assumption) ?_ ?_|refine yqb (by assumption) ?_ ?_)|((with_reducible refine je ?_)<;>(first|rfl|assumption|(simp only [znl,znNU];(first|done|fail))))|(with_reducible refine jf (by (simp only [↓reduceIte,zlk,Nat.reduceEqDiff,reduceCtorEq]);exact rfl) ?_)|((with_reducible first|refine jg (fun hc=>?_) (fun hc=>?_)|refine jh (fun hc=>?_) (fun hc=>?_))<;>(try simp (disch:=omega) only [zhb] at hc)<;>(try (exfalso;omega))<;>(try subst hc))|(with_reducible refine ji (by omega) ?_)|(simp (config := { maxSteps := 400000 }) only [↓jt,↓reduceIte,zvs,reduceCtorEq,Nat.reduceEqDiff,Nat.reduceAdd,Nat.reduceLeDiff,Nat.reduceMul,Int.reduceBNe,Int.reduceBEq,Int.reduceEq,Int.reduceNe,Int.reduceLT,Int.reduceLE,Int.reduceGT,Int.reduceGE,Int.reduceNeg,Int.reduceToNat,Nat.reduceLT,Nat.reduceSub,tab,h6,Try.results88,List.toList_toArray])|(simp (disch:=omega) only [ziw]))
    refine ok_loop (fun k : Nat => ⟨slots [(0, encStrs v), (2, .ptr 0 []), (10, encStrs v), (11, .int .i64 v.length), (12, .int .i64 k)], rows [(0, .row geoSh (.agg [.int .i64 0, .int .i64 0, .int .i64 0, .int .i64 0, .int .i64 0, .int .i64 0]))], 1⟩) (fun k => k ≤ v.length) (fun k => v.length - k) 0 ?_ (Nat.zero_le _) (fun k hk => ?_)
    · (refine yrn [(0, 0)] false ?_ ?_<;>(repeat' (first|(with_reducible first|exact ya1|exact ya2|exact ya3|refine jx rfl (by first|rfl|assumption|(simp only [znl,znNU];(first|done|fail)))|exact ya5|exact ya7|exact jy|exact jz|refine jA ?_|refine ya9 ?_ ?_ ?_|refine jC rfl (by first|rfl|assumption|(simp only [znl,znNU];(first|done|fail)))|refine MR.agg (MRL.cons ?_ ?_)|refine MR.fn ?_|refine MRL.cons ?_ ?_|exact MRL.nil|refine jE ?_ ?_|exact jF|exact jG|refine yb1 ?_ ?_|refine MB.row ?_|refine jI ?_ ?_|exact ya8|refine jJ rfl (by first|rfl|assumption|(simp only [znl,znNU];(first|done|fail)))|refine yb2 ?_|rfl)|(simp only [znl,znNU];(first|done|fail))|(simp only [↓reduceIte,zlk,Nat.reduceEqDiff,reduceCtorEq])|(with_reducible first|refine jJ ?_ ?_|refine ya5 ?_|refine ju ?_|refine jv ?_|refine jw ?_|refine jx ?_ (by first|rfl|assumption|(simp only [znl,znNU];(first|done|fail)))|refine jC ?_ (by first|rfl|assumption|(simp only [znl,znNU];(first|done|fail)))))))
      all_goals (first | rfl | trace_state)
    by_cases hlt : k < v.length
    · have hsk := hA _ (getD_mem' hlt)
      rw [default_str] at hsk
      repeat' (first|(with_reducible first|refine yrl (by constructor) ?_|refine jk (fun M hM=>?_)|(refine hM _ ?_;clear hM M)|refine xb3 (by decide) ?_|refine yqa (by assumption) ?_ ?_|refine yqb (by assumption) ?_ ?_)|((with_reducible refine je ?_)<;>(first|rfl|assumption|(simp only [znl,znNU];(first|done|fail))))|(with_reducible refine jf (by (simp only [↓reduceIte,zlk,Nat.reduceEqDiff,reduceCtorEq]);exact rfl) ?_)|((with_reducible first|refine jg (fun hc=>?_) (fun hc=>?_)|refine jh (fun hc=>?_) (fun hc=>?_))<;>(try simp (disch:=omega) only [zhb] at hc)<;>(try (exfalso;omega))<;>(try subst hc))|(with_reducible refine ji (by omega) ?_)|(simp (config := { maxSteps := 400000 }) only [↓jt,↓reduceIte,zvs,reduceCtorEq,Nat.reduceEqDiff,Nat.reduceAdd,Nat.reduceLeDiff,Nat.reduceMul,Int.reduceBNe,Int.reduceBEq,Int.reduceEq,Int.reduceNe,Int.reduceLT,Int.reduceLE,Int.reduceGT,Int.reduceGE,Int.reduceNeg,Int.reduceToNat,Nat.reduceLT,Nat.reduceSub,tab,h6,hsk,Try.results88,List.toList_toArray])|(simp (disch:=omega) only [ziw]))
      all_goals first
        | (exfalso; omega)
        | (refine xl1 (k + 1) ?_ (by show k + 1 ≤ v.length; omega) (by show v.length - (k + 1) < v.length - k; omega); (refine yrn [(0, 0)] false ?_ ?_<;>(repeat' (first|(with_reducible first|exact ya1|exact ya2|exact ya3|refine jx rfl (by first|rfl|assumption|(simp only [znl,znNU];(first|done|fail)))|exact ya5|exact ya7|exact jy|exact jz|refine jA ?_|refine ya9 ?_ ?_ ?_|refine jC rfl (by first|rfl|assumption|(simp only [znl,znNU];(first|done|fail)))|refine MR.agg (MRL.cons ?_ ?_)|refine MR.fn ?_|refine MRL.cons ?_ ?_|exact MRL.nil|refine jE ?_ ?_|exact jF|exact jG|refine yb1 ?_ ?_|refine MB.row ?_|refine jI ?_ ?_|exact ya8|refine jJ rfl (by first|rfl|assumption|(simp only [znl,znNU];(first|done|fail)))|refine yb2 ?_|rfl)|(simp only [znl,znNU];(first|done|fail))|(simp only [↓reduceIte,zlk,Nat.reduceEqDiff,reduceCtorEq])|(with_reducible first|refine jJ ?_ ?_|refine ya5 ?_|refine ju ?_|refine jv ?_|refine jw ?_|refine jx ?_ (by first|rfl|assumption|(simp only [znl,znNU];(first|done|fail)))|refine jC ?_ (by first|rfl|assumption|(simp only [znl,znNU];(first|done|fail))))))); done)
        | trace_state
    obtain rfl : k = v.length := by omega
    repeat' (first|(with_reducible first|refine yrl (by constructor) ?_|refine jk (fun M hM=>?_)|(refine hM _ ?_;clear hM M)|refine xb3 (by decide) ?_|refine yqa (by assumption) ?_ ?_|refine yqb (by assumption) ?_ ?_)|((with_reducible refine je ?_)<;>(first|rfl|assumption|(simp only [znl,znNU];(first|done|fail))))|(with_reducible refine jf (by (simp only [↓reduceIte,zlk,Nat.reduceEqDiff,reduceCtorEq]);exact rfl) ?_)|((with_reducible first|refine jg (fun hc=>?_) (fun hc=>?_)|refine jh (fun hc=>?_) (fun hc=>?_))<;>(try simp (disch:=omega) only [zhb] at hc)<;>(try (exfalso;omega))<;>(try subst hc))|(with_reducible refine ji (by omega) ?_)|(simp (config := { maxSteps := 400000 }) only [↓jt,↓reduceIte,zvs,reduceCtorEq,Nat.reduceEqDiff,Nat.reduceAdd,Nat.reduceLeDiff,Nat.reduceMul,Int.reduceBNe,Int.reduceBEq,Int.reduceEq,Int.reduceNe,Int.reduceLT,Int.reduceLE,Int.reduceGT,Int.reduceGE,Int.reduceNeg,Int.reduceToNat,Nat.reduceLT,Nat.reduceSub,tab,h6,hl0,Try.results88,List.toList_toArray])|(simp (disch:=omega) only [ziw]))
    all_goals (try (exfalso; omega))
    refine ok_drawF 19 [0, 1, 2, 3, 4, 5, 6, 7, 8, 9, 10, 11, 12, 13, 14, 15, 18, 16] 17 17 1089 (by kernel_rfl) (by decide +kernel) (by decide) (by decide) (by intro m hm; simp only [upd_ap,rows_cons,rows_nil]; (repeat (first | rfl | rw [if_neg (by omega)]))) (fun M hM => ?_); simp only [picks,List.getElem?_cons_succ,List.getElem?_cons_zero,List.drop_succ_cons,List.drop_zero]
    repeat' (first|(with_reducible first|refine yrl (by constructor) ?_|refine jk (fun M hM=>?_)|(refine hM _ ?_;clear hM M)|refine xb3 (by decide) ?_|refine yqa (by assumption) ?_ ?_|refine yqb (by assumption) ?_ ?_)|((with_reducible refine je ?_)<;>(first|rfl|assumption|(simp only [znl,znNU];(first|done|fail))))|(with_reducible refine jf (by (simp only [↓reduceIte,zlk,Nat.reduceEqDiff,reduceCtorEq]);exact rfl) ?_)|((with_reducible first|refine jg (fun hc=>?_) (fun hc=>?_)|refine jh (fun hc=>?_) (fun hc=>?_))<;>(try simp (disch:=omega) only [zhb] at hc)<;>(try (exfalso;omega))<;>(try subst hc))|(with_reducible refine ji (by omega) ?_)|(simp (config := { maxSteps := 400000 }) only [↓jt,↓reduceIte,zvs,reduceCtorEq,Nat.reduceEqDiff,Nat.reduceAdd,Nat.reduceLeDiff,Nat.reduceMul,Int.reduceBNe,Int.reduceBEq,Int.reduceEq,Int.reduceNe,Int.reduceLT,Int.reduceLE,Int.reduceGT,Int.reduceGE,Int.reduceNeg,Int.reduceToNat,Nat.reduceLT,Nat.reduceSub,tab,h6,hl0,storeAt_go,isP_ptr,Try.results88,List.toList_toArray])|(simp (disch:=omega) only [ziw]))
    refine ok_drawC 16 (by kernel_rfl) (by decide +kernel) (by intro m hm; simp only [upd_ap,rows_cons,rows_nil]; (repeat (first | rfl | rw [if_neg (by omega)]))) (fun M hM => ?_); simp only [List.take_succ_cons,List.take_zero,List.drop_succ_cons,List.drop_zero]
    repeat' (first|(with_reducible first|refine yrl (by constructor) ?_|refine jk (fun M hM=>?_)|(refine hM _ ?_;clear hM M)|refine xb3 (by decide) ?_|refine yqa (by assumption) ?_ ?_|refine yqb (by assumption) ?_ ?_)|((with_reducible refine je ?_)<;>(first|rfl|assumption|(simp only [znl,znNU];(first|done|fail))))|(with_reducible refine jf (by (simp only [↓reduceIte,zlk,Nat.reduceEqDiff,reduceCtorEq]);exact rfl) ?_)|((with_reducible first|refine jg (fun hc=>?_) (fun hc=>?_)|refine jh (fun hc=>?_) (fun hc=>?_))<;>(try simp (disch:=omega) only [zhb] at hc)<;>(try (exfalso;omega))<;>(try subst hc))|(with_reducible refine ji (by omega) ?_)|(simp (config := { maxSteps := 400000 }) only [↓jt,↓reduceIte,zvs,reduceCtorEq,Nat.reduceEqDiff,Nat.reduceAdd,Nat.reduceLeDiff,Nat.reduceMul,Int.reduceBNe,Int.reduceBEq,Int.reduceEq,Int.reduceNe,Int.reduceLT,Int.reduceLE,Int.reduceGT,Int.reduceGE,Int.reduceNeg,Int.reduceToNat,Nat.reduceLT,Nat.reduceSub,tab,h6,hl0,Try.results88,List.toList_toArray])|(simp (disch:=omega) only [ziw]))
    all_goals (try (exfalso; omega))
    refine ok_loop (fun k : Nat => ⟨slots [(0, encStrs v), (2, .ptr 0 []), (6, .ptr 1 []), (59, .int .i64 k)], rows [(0, .row geoSh (.agg [.int .i64 0, .int .i64 0, .int .i64 0, .int .i64 0, .int .i64 0, .int .i64 0])), (1, .row geoSh (.agg [.int .i64 v.length, .int .i64 ino, .int .i64 1, .int .i64 2, .int .i64 3, .int .i64 (3 + ((ino : Int) + 1) / 2)]))], 2⟩) (fun k => k ≤ 1024) (fun k => 1024 - k) 0 ?_ (Nat.zero_le _) (fun k hk => ?_)
    · (refine yrn [(0, 0), (1, 1089)] false ?_ ?_<;>(repeat' (first|(with_reducible first|exact ya1|exact ya2|exact ya3|refine jx rfl (by first|rfl|assumption|(simp only [znl,znNU];(first|done|fail)))|exact ya5|exact ya7|exact jy|exact jz|refine jA ?_|refine ya9 ?_ ?_ ?_|refine jC rfl (by first|rfl|assumption|(simp only [znl,znNU];(first|done|fail)))|refine MR.agg (MRL.cons ?_ ?_)|refine MR.fn ?_|refine MRL.cons ?_ ?_|exact MRL.nil|refine jE ?_ ?_|exact jF|exact jG|refine yb1 ?_ ?_|refine MB.row ?_|refine jI ?_ ?_|exact ya8|refine jJ rfl (by first|rfl|assumption|(simp only [znl,znNU];(first|done|fail)))|refine yb2 ?_|rfl)|(simp only [znl,znNU];(first|done|fail))|(simp only [↓reduceIte,zlk,Nat.reduceEqDiff,reduceCtorEq])|(with_reducible first|refine jJ ?_ ?_|refine ya5 ?_|refine ju ?_|refine jv ?_|refine jw ?_|refine jx ?_ (by first|rfl|assumption|(simp only [znl,znNU];(first|done|fail)))|refine jC ?_ (by first|rfl|assumption|(simp only [znl,znNU];(first|done|fail)))))))
      all_goals (first | rfl | trace_state)
    by_cases hlt : k < 1024
    · have hB := gbit_spec v (by omega) hl2 k hlt
      have hQk := hQ k hlt
      generalize bitB (v.getD 2 []) k = b at hB hQk
      have hb1 : b = false → ¬(k : Int) < 3 + ((ino : Int) + 1) / 2 := fun e h => by
        rw [e, decide_eq_true h] at hQk; cases hQk
      have hb2 : b = true → ¬(v.length : Int) ≤ k := fun e h => by
        rw [e, decide_eq_true h, Bool.not_true, Bool.and_false] at hQk; cases hQk
      cases b
      all_goals
        first | have hb1 := hb1 rfl | have hb2 := hb2 rfl
        repeat' (first|(with_reducible first|refine yrl (by constructor) ?_|refine jk (fun M hM=>?_)|(refine hM _ ?_;clear hM M)|refine xb3 (by decide) ?_|refine yqa (by assumption) ?_ ?_|refine yqb (by assumption) ?_ ?_)|((with_reducible refine je ?_)<;>(first|rfl|assumption|(simp only [znl,znNU];(first|done|fail))))|(with_reducible refine jf (by (simp only [↓reduceIte,zlk,Nat.reduceEqDiff,reduceCtorEq]);exact rfl) ?_)|((with_reducible first|refine jg (fun hc=>?_) (fun hc=>?_)|refine jh (fun hc=>?_) (fun hc=>?_))<;>(try simp (disch:=omega) only [zhb] at hc)<;>(try (exfalso;omega))<;>(try subst hc))|(with_reducible refine ji (by omega) ?_)|(simp (config := { maxSteps := 400000 }) only [↓jt,↓reduceIte,zvs,reduceCtorEq,Nat.reduceEqDiff,Nat.reduceAdd,Nat.reduceLeDiff,Nat.reduceMul,Int.reduceBNe,Int.reduceBEq,Int.reduceEq,Int.reduceNe,Int.reduceLT,Int.reduceLE,Int.reduceGT,Int.reduceGE,Int.reduceNeg,Int.reduceToNat,Nat.reduceLT,Nat.reduceSub,tab,h6,hl2,Try.results88,List.toList_toArray])|(simp (disch:=omega) only [ziw]))
        all_goals first
          | (exfalso; omega)
          | (refine xl1 (k + 1) ?_ (by show k + 1 ≤ 1024; omega) (by show 1024 - (k + 1) < 1024 - k; omega); (refine yrn [(0, 0), (1, 1)] false ?_ ?_<;>(repeat' (first|(with_reducible first|exact ya1|exact ya2|exact ya3|refine jx rfl (by first|rfl|assumption|(simp only [znl,znNU];(first|done|fail)))|exact ya5|exact ya7|exact jy|exact jz|refine jA ?_|refine ya9 ?_ ?_ ?_|refine jC rfl (by first|rfl|assumption|(simp only [znl,znNU];(first|done|fail)))|refine MR.agg (MRL.cons ?_ ?_)|refine MR.fn ?_|refine MRL.cons ?_ ?_|exact MRL.nil|refine jE ?_ ?_|exact jF|exact jG|refine yb1 ?_ ?_|refine MB.row ?_|refine jI ?_ ?_|exact ya8|refine jJ rfl (by first|rfl|assumption|(simp only [znl,znNU];(first|done|fail)))|refine yb2 ?_|rfl)|(simp only [znl,znNU];(first|done|fail))|(simp only [↓reduceIte,zlk,Nat.reduceEqDiff,reduceCtorEq])|(with_reducible first|refine jJ ?_ ?_|refine ya5 ?_|refine ju ?_|refine jv ?_|refine jw ?_|refine jx ?_ (by first|rfl|assumption|(simp only [znl,znNU];(first|done|fail)))|refine jC ?_ (by first|rfl|assumption|(simp only [znl,znNU];(first|done|fail))))))); done)
          | trace_state
    · obtain rfl : k = 1024 := by omega
      repeat' (first|(with_reducible first|refine yrl (by constructor) ?_|refine jk (fun M hM=>?_)|(refine hM _ ?_;clear hM M)|refine xb3 (by decide) ?_|refine yqa (by assumption) ?_ ?_|refine yqb (by assumption) ?_ ?_)|((with_reducible refine je ?_)<;>(first|rfl|assumption|(simp only [znl,znNU];(first|done|fail))))|(with_reducible refine jf (by (simp only [↓reduceIte,zlk,Nat.reduceEqDiff,reduceCtorEq]);exact rfl) ?_)|((with_reducible first|refine jg (fun hc=>?_) (fun hc=>?_)|refine jh (fun hc=>?_) (fun hc=>?_))<;>(try simp (disch:=omega) only [zhb] at hc)<;>(try (exfalso;omega))<;>(try subst hc))|(with_reducible refine ji (by omega) ?_)|(simp (config := { maxSteps := 400000 }) only [↓jt,↓reduceIte,zvs,reduceCtorEq,Nat.reduceEqDiff,Nat.reduceAdd,Nat.reduceLeDiff,Nat.reduceMul,Int.reduceBNe,Int.reduceBEq,Int.reduceEq,Int.reduceNe,Int.reduceLT,Int.reduceLE,Int.reduceGT,Int.reduceGE,Int.reduceNeg,Int.reduceToNat,Nat.reduceLT,Nat.reduceSub,tab,h6,hl2,Try.results88,List.toList_toArray])|(simp (disch:=omega) only [ziw]))
      all_goals first
        | (exfalso; omega)
        | (simp only [geoV]; simp only [zrds]; done)
        | trace_state
  · omega
end Go.Proofs.Ytlgldkjjbbbapaa.V
end
section
/-
  MMU, part 14: has no page a frame that another one has?
-/
set_option linter.unusedVariables false
set_option linter.unusedSimpArgs false
namespace Go.Proofs.Ytlgldkjjbbbapaa.V
open Go
set_option maxRecDepth 100000
-- nlx: jR, jV
set_option maxHeartbeats 1000000
def setM (L : List Int) : List (VV × VV) := L.foldl (fun es f => mput es (.int .i64 f) (.bool true)) []
theorem mget_mput : ∀ (es : List (VV × VV)) (f g : Int), mget (mput es (.int .i64 f) (.bool true)) (.int .i64 g) = if g = f then some (.bool true) else mget es (.int .i64 g)
  | [], f, g => by
    simp only [mput,mget,keq,beq_iff_eq]
  | (k, v) :: es, f, g => by
    simp only [mput]
    by_cases h : keq (.int .i64 f) k = true
    · rw [if_pos h]
      simp only [mget]
      cases k <;> simp [keq] at h
      subst h
      simp only [keq,beq_iff_eq]
      split <;> rfl
    · rw [if_neg h]
      simp only [mget,mget_mput es f g]
      by_cases h2 : keq (.int .i64 g) k = true
      · rw [if_pos h2, if_pos h2]
        by_cases e : g = f
        · subst e; exact absurd h2 h
        · rw [if_neg e]
      · rw [if_neg h2, if_neg h2]
theorem setM_snoc (L : List Int) (f : Int) : mput (setM L) (.int .i64 f) (.bool true) = setM (L ++ [f]) := by
  simp [setM, List.foldl_append]
theorem mget_setM (f : Int) : ∀ (L : List Int) (es : List (VV × VV)), mget (L.foldl (fun es f => mput es (.int .i64 f) (.bool true)) es) (.int .i64 f) = if f ∈ L then some (.bool true) else mget es (.int .i64 f)
  | [], es => by simp
  | g :: L, es => by
    simp only [List.foldl_cons,mget_setM f L,mget_mput,List.mem_cons]
    by_cases h : f ∈ L
    · simp [h]
    · simp [h]
theorem look_setM (L : List Int) (f : Int) : (mget (setM L) (.int .i64 f)).getD (.bool false) = .bool (decide (f ∈ L)) := by
  rw [setM, mget_setM]
  by_cases h : f ∈ L <;> simp [h, mget]
theorem mput_keys : ∀ (es : List (VV × VV)) (f : Int), (es.all fun q => keyV (.int .i64) q.1) = true → ((mput es (.int .i64 f) (.bool true)).all fun q => keyV (.int .i64) q.1) = true
  | [], f, _ => by simp [mput, keyV]
  | (k, v) :: es, f, h => by
    simp only [List.all_cons,Bool.and_eq_true] at h
    simp only [mput]
    split
    · simp only [List.all_cons,Bool.and_eq_true]; exact h
    · simp only [List.all_cons,Bool.and_eq_true]; exact ⟨h.1, mput_keys es f h.2⟩
theorem keys_setM (L : List Int) : ((setM L).all fun q => keyV (.int .i64) q.1) = true := by
  have key : ∀ (L : List Int) (es : List (VV × VV)), (es.all fun q => keyV (.int .i64) q.1) = true → ((L.foldl (fun es f => mput es (.int .i64 f) (.bool true)) es).all fun q => keyV (.int .i64) q.1) = true := by
    intro L
    induction L with
    | nil => intro es h; exact h
    | cons g L ih => intro es h; exact ih _ (mput_keys es g h)
  exact key L [] rfl
theorem jV (L : List Int) : ((setM L).all fun q => nl q.1 && nl q.2) = true := by
  have hp : ∀ (es : List (VV × VV)) (f : Int), (es.all fun q => nl q.1 && nl q.2) = true → ((mput es (.int .i64 f) (.bool true)).all fun q => nl q.1 && nl q.2) = true := by
    intro es f
    induction es with
    | nil => intro _; simp [mput, nl]
    | cons x es ih =>
      obtain ⟨k, v⟩ := x
      intro h
      simp only [List.all_cons,Bool.and_eq_true] at h
      simp only [mput]
      split
      · simp only [List.all_cons,Bool.and_eq_true]; exact ⟨⟨h.1.1, by simp [nl]⟩, h.2⟩
      · simp only [List.all_cons,Bool.and_eq_true]; exact ⟨h.1, ih h.2⟩
  have key : ∀ (L : List Int) (es : List (VV × VV)), (es.all fun q => nl q.1 && nl q.2) = true → ((L.foldl (fun es f => mput es (.int .i64 f) (.bool true)) es).all fun q => nl q.1 && nl q.2) = true := by
    intro L
    induction L with
    | nil => intro es h; exact h
    | cons g L ih => intro es h; exact ih _ (hp es g h)
  exact key L [] rfl
def own (s : List Pte) (k : Nat) : List Int := ((s.take k).filter (·.is)).map (·.fr)
theorem own_succ (s : List Pte) (k : Nat) (h : k < s.length) : own s (k + 1) = own s k ++ if (s.getD k default).is = true then [(s.getD k default).fr] else [] := by
  have e : s.take (k + 1) = s.take k ++ [s.getD k default] := by
    rw [List.take_add_one, List.getElem?_eq_getElem h, List.getD_eq_getElem?_getD, List.getElem?_eq_getElem h]; rfl
  unfold own
  rw [e, List.filter_append, List.map_append]
  congr 1
  by_cases h2 : (s.getD k default).is = true
  · rw [if_pos h2, List.filter_cons_of_pos h2]; rfl
  · rw [if_neg h2, List.filter_cons_of_neg h2]; rfl
end Go.Proofs.Ytlgldkjjbbbapaa.V
end
section
/-
  MACHINES, part 26: the program's own test of the processes.
-/
set_option linter.unusedVariables false
set_option linter.unusedSimpArgs false
namespace Go.Proofs.Ytlgldkjjbbbapaa.V
open Go
set_option maxRecDepth 100000
set_option linter.defProp false in
def znNS := And.intro @jO <| And.intro @jP <| And.intro @jQ <| And.intro @jR <| And.intro @jS <| And.intro @jT <| And.intro @jU <| And.intro @jV <| True.intro
set_option maxHeartbeats 8000000
theorem usersS_pos {f : Int} {s : List Pte} {j : Nat} (hj : j < s.length) (h1 : (s.getD j default).is = true) (h2 : (s.getD j default).fr = f) : 1 ≤ usersS f s :=
  List.countP_pos_iff.2 ⟨_, getD_mem' hj, by rw [h1, decide_eq_true h2]; rfl⟩
theorem usersS_app (f : Int) (a b : List Pte) : usersS f (a ++ b) = usersS f a + usersS f b := List.countP_append
theorem usersS_two {f : Int} {s : List Pte} {i j : Nat} (hij : i < j) (hj : j < s.length) (h1 : (s.getD i default).is = true) (h2 : (s.getD i default).fr = f) (h3 : (s.getD j default).is = true) (h4 : (s.getD j default).fr = f) : 2 ≤ usersS f s := by
  have e := usersS_app f (s.take j) (s.drop j)
  rw [List.take_append_drop] at e
  have ea : (s.take j).getD i default = s.getD i default := by
    rw [List.getD_eq_getElem?_getD, List.getElem?_take, if_pos hij, ← List.getD_eq_getElem?_getD]
  have eb : (s.drop j).getD 0 default = s.getD j default := by
    rw [List.getD_eq_getElem?_getD, List.getElem?_drop, Nat.add_zero, ← List.getD_eq_getElem?_getD]
  have a1 := usersS_pos (s := s.take j) (j := i) (f := f) (by rw [List.length_take]; omega) (by rw [ea]; exact h1) (by rw [ea]; exact h2)
  have a2 := usersS_pos (s := s.drop j) (j := 0) (f := f) (by rw [List.length_drop]; omega) (by rw [eb]; exact h3) (by rw [eb]; exact h4)
  omega
theorem usersN_app (f : Int) (a b : List Pr) : usersN (a ++ b) f = usersN a f + usersN b f := by simp [usersN]
theorem usersN_ge (f : Int) {l : List Pr} {p : Pr} (h : p ∈ l) : usersS f p.sp ≤ usersN l f := by
  obtain ⟨a, b, rfl⟩ := List.append_of_mem h
  rw [usersN_app]
  have : usersN (p :: b) f = usersS f p.sp + usersN b f := by simp [usersN]
  omega
theorem usersN_two (f : Int) {l : List Pr} {i k : Nat} (hik : i < k) (hk : k < l.length) : usersS f (l.getD i default).sp + usersS f (l.getD k default).sp ≤ usersN l f := by
  have e := usersN_app f (l.take k) (l.drop k)
  rw [List.take_append_drop] at e
  have ea : (l.take k).getD i default = l.getD i default := by
    rw [List.getD_eq_getElem?_getD, List.getElem?_take, if_pos hik, ← List.getD_eq_getElem?_getD]
  have eb : (l.drop k).getD 0 default = l.getD k default := by
    rw [List.getD_eq_getElem?_getD, List.getElem?_drop, Nat.add_zero, ← List.getD_eq_getElem?_getD]
  have a1 := usersN_ge f (getD_mem' (l := l.take k) (i := i) (by rw [List.length_take]; omega))
  have a2 := usersN_ge f (getD_mem' (l := l.drop k) (i := 0) (by rw [List.length_drop]; omega))
  rw [ea] at a1
  rw [eb] at a2
  omega
theorem mem_own' {s : List Pte} {f : Int} : ∀ {k : Nat}, k ≤ s.length → f ∈ own s k → ∃ j, j < k ∧ (s.getD j default).is = true ∧ (s.getD j default).fr = f := by
  intro k
  induction k with
  | zero => intro _ h; simp [own] at h
  | succ k ih =>
    intro hk h
    rw [own_succ s k (by omega), List.mem_append] at h
    rcases h with h | h
    · obtain ⟨j, h1, h2⟩ := ih (by omega) h
      exact ⟨j, by omega, h2⟩
    · split at h
      · rename_i hi
        rw [List.mem_singleton] at h
        exact ⟨k, by omega, hi, h.symm⟩
      · cases h
def metF (m : Mach) (k j : Nat) : List Int := ((m.pr.take k).flatMap fun p => own p.sp 16) ++ own (m.pr.getD k default).sp j
theorem metF_next {m : Mach} {k : Nat} (h : k < m.pr.length) : metF m (k + 1) 0 = metF m k 16 := by
  unfold metF
  rw [take_snoc m.pr k h, List.flatMap_append]
  simp [own]
theorem metF_in {m : Mach} {k j : Nat} (h : k < m.pr.length) (hj : j < (m.pr.getD k default).sp.length) (hi : ((m.pr.getD k default).sp.getD j default).is = true) : metF m k (j + 1) = metF m k j ++ [((m.pr.getD k default).sp.getD j default).fr] := by
  unfold metF
  rw [own_succ _ _ hj, if_pos hi, List.append_assoc]
theorem metF_out {m : Mach} {k j : Nat} (h : k < m.pr.length) (hj : j < (m.pr.getD k default).sp.length) (hi : ((m.pr.getD k default).sp.getD j default).is = false) : metF m k (j + 1) = metF m k j := by
  unfold metF
  rw [own_succ _ _ hj, if_neg (by rw [hi]; simp), List.append_nil]
theorem metF_new {m : Mach} {k j : Nat} (hR : ∀ p ∈ m.pr, PrR p) (h : k < m.pr.length) (hj : j < 16) (hi : ((m.pr.getD k default).sp.getD j default).is = true) (hu : usersN m.pr ((m.pr.getD k default).sp.getD j default).fr = 1) : ((m.pr.getD k default).sp.getD j default).fr ∉ metF m k j := by
  intro hm
  have hl := (hR _ (getD_mem' h)).sp
  have a1 := usersS_pos (s := (m.pr.getD k default).sp) (j := j) (by omega) hi rfl
  unfold metF at hm
  rcases List.mem_append.1 hm with hm | hm
  · obtain ⟨p, hp, h2⟩ := List.mem_flatMap.1 hm
    obtain ⟨i, hi2, e⟩ := List.mem_iff_getElem.1 hp
    have hik : i < k := by rw [List.length_take] at hi2; omega
    have e2 : p = m.pr.getD i default := by
      rw [← e, List.getElem_take, List.getD_eq_getElem?_getD, List.getElem?_eq_getElem (by omega)]; rfl
    have hl2 := (hR _ (getD_mem' (show i < m.pr.length by omega))).sp
    rw [e2] at h2
    obtain ⟨q, q1, q2, q3⟩ := mem_own' (by omega) h2
    have a2 := usersS_pos (s := (m.pr.getD i default).sp) (j := q) (by omega) q2 q3
    have a3 := usersN_two ((m.pr.getD k default).sp.getD j default).fr hik h
    omega
  · obtain ⟨q, q1, q2, q3⟩ := mem_own' (by omega) hm
    have a2 := usersS_two (f := ((m.pr.getD k default).sp.getD j default).fr) q1 (by omega) q2 q3 hi rfl
    have a3 := usersN_ge ((m.pr.getD k default).sp.getD j default).fr (getD_mem' h)
    omega
def lastQ (l : List Pr) : Nat → Int
  | 0 => 0
  | k + 1 => (l.getD k default).pid
theorem fit_fd (a b c : Int) : Fit (EQ.st [EQ.int .i64, EQ.int .i64, EQ.int .i64]) (.agg [.int .i64 a, .int .i64 b, .int .i64 c]) := by simp [Fit, FitL]
theorem veq_fd (a b c a' b' c' : Int) : veq (.agg [.int .i64 a, .int .i64 b, .int .i64 c]) (.agg [.int .i64 a', .int .i64 b', .int .i64 c']) = decide (a = a' ∧ b = b' ∧ c = c') := by
  simp only [veq,veqs,Bool.and_true]
  rw [Bool.eq_iff_iff]; simp
theorem procs_ok (m : Mach) (hm : MFit 20000 m) (h8 : m.pr.length ≤ 8) (hs : procsB m = true) : Spec Try.prog 52 [encM m] (.int .i64 0) := by
  have hpR := hm.prR
  have hfrl := hm.fr
  have hq : ∀ i, i < m.pr.length → procQ m i = true := fun i hi => (List.all_eq_true.1 hs) i (List.mem_range.2 hi)
  refine spec_ok Try.func52 rfl rfl (by kernel_rfl) (k := 1) rfl (by decide) ?_
  repeat' (first|(with_reducible first|refine yrl (by constructor) ?_|refine jk (fun M hM=>?_)|(refine hM _ ?_;clear hM M)|refine xb3 (by decide) ?_|refine yqa (by assumption) ?_ ?_|refine yqb (by assumption) ?_ ?_)|((with_reducible refine je ?_)<;>(first|rfl|assumption|(simp only [znl,znNS];(first|done|fail))))|(with_reducible refine jf (by (simp only [↓reduceIte,zlk,Nat.reduceEqDiff,reduceCtorEq]);exact rfl) ?_)|((with_reducible first|refine jg (fun hc=>?_) (fun hc=>?_)|refine jh (fun hc=>?_) (fun hc=>?_))<;>(try simp (disch:=omega) only [zhb] at hc)<;>(try (exfalso;omega))<;>(try subst hc))|(with_reducible refine ji (by omega) ?_)|(simp (config := { maxSteps := 400000 }) only [↓jt,↓reduceIte,zvs,reduceCtorEq,Nat.reduceEqDiff,Nat.reduceAdd,Nat.reduceLeDiff,Nat.reduceMul,Int.reduceBNe,Int.reduceBEq,Int.reduceEq,Int.reduceNe,Int.reduceLT,Int.reduceLE,Int.reduceGT,Int.reduceGE,Int.reduceNeg,Int.reduceToNat,Nat.reduceLT,Nat.reduceSub,tab,Try.results52,List.toList_toArray])|(simp (disch:=omega) only [ziw]))
  all_goals (try (exfalso; omega))
  refine ok_loop (fun k : Nat => ⟨slots [(1, .ptr 0 []), (3, .map 1), (4, .int .i64 (lastQ m.pr k)), (17, encPrs m.pr), (18, .int .i64 m.pr.length), (19, .int .i64 k)], rows [(0, .row machSh (encM m)), (1, .map (setM (metF m k 0)))], 2⟩) (fun k => k ≤ m.pr.length) (fun k => m.pr.length - k) 0 ?_ (Nat.zero_le _) (fun k hk => ?_)
  · (refine yrn [(0, 0), (1, 1)] false ?_ ?_<;>(repeat' (first|(with_reducible first|exact ya1|exact ya2|exact ya3|refine jx rfl (by first|rfl|assumption|(simp only [znl,znNS];(first|done|fail)))|exact ya5|exact ya7|exact jy|exact jz|refine jA ?_|refine ya9 ?_ ?_ ?_|refine jC rfl (by first|rfl|assumption|(simp only [znl,znNS];(first|done|fail)))|refine MR.agg (MRL.cons ?_ ?_)|refine MR.fn ?_|refine MRL.cons ?_ ?_|exact MRL.nil|refine jE ?_ ?_|exact jF|exact jG|refine yb1 ?_ ?_|refine MB.row ?_|refine jI ?_ ?_|exact ya8|refine jJ rfl (by first|rfl|assumption|(simp only [znl,znNS];(first|done|fail)))|refine yb2 ?_|rfl)|(simp only [znl,znNS];(first|done|fail))|(simp only [↓reduceIte,zlk,Nat.reduceEqDiff,reduceCtorEq])|(with_reducible first|refine jJ ?_ ?_|refine ya5 ?_|refine ju ?_|refine jv ?_|refine jw ?_|refine jx ?_ (by first|rfl|assumption|(simp only [znl,znNS];(first|done|fail)))|refine jC ?_ (by first|rfl|assumption|(simp only [znl,znNS];(first|done|fail)))))))
    all_goals (first | rfl | (rw [metF_zero]; rfl) | trace_state)
  by_cases hlt : k < m.pr.length
  · have hb := hpR _ (getD_mem' hlt)
    obtain ⟨hS1, hS2, hS3⟩ := pr3 hb
    have hQ := procQ_pos (hq k hlt)
    have hlast : lastQ m.pr k < (m.pr.getD k default).pid := by
      cases k with
      | zero => show (0 : Int) < _; omega
      | succ k => exact procQ_inc (hq (k + 1) hlt)
    have hB := hQ.2
    unfold procB at hB
    simp only [Bool.and_eq_true] at hB
    obtain ⟨⟨hH, hPg⟩, hFd⟩ := hB
    have hH := (procH_iff m _).1 hH
    have hFl := fields_ok m _ hb hH
    have hPar := parent_ok m hm _ hb (by
      unfold headP at hH
      rcases hH.2.2.2.2.1 with h | h
      · exact .inl h
      · refine .inr ⟨h.2, ?_⟩
        have h1 := h.1
        unfold livesP
        rcases hH.2.2.1 with h3 | h3 | h3
        · rw [decide_eq_true h3]; rfl
        · rw [decide_eq_true h3, Bool.or_true]
        · exact absurd h3 h1)
    simp only [encPr] at hFl hPar
    have hpl := hH.2.1
    have hst3 := hH.2.2.1
    clear hH
    have hsl := hb.sp
    have hfl := hb.fds
    have hsR := hb.spR
    have hfR := hb.fdsR
    have hpg : ∀ j, j < 16 → pteB m (m.pr.getD k default) ((m.pr.getD k default).sp.getD j default) = true := fun j hj => (List.all_eq_true.1 hPg) _ (getD_mem' (by omega))
    have hfg : ∀ j, j < 8 → fdsB m (m.pr.getD k default) ((m.pr.getD k default).fds.getD j default) = true := fun j hj => (List.all_eq_true.1 hFd) _ (getD_mem' (by omega))
    repeat' (first|(with_reducible first|refine yrl (by constructor) ?_|refine jk (fun M hM=>?_)|(refine hM _ ?_;clear hM M)|refine xb3 (by decide) ?_|refine yqa (by assumption) ?_ ?_|refine yqb (by assumption) ?_ ?_)|((with_reducible refine je ?_)<;>(first|rfl|assumption|(simp only [znl,znNS];(first|done|fail))))|(with_reducible refine jf (by (simp only [↓reduceIte,zlk,Nat.reduceEqDiff,reduceCtorEq]);exact rfl) ?_)|((with_reducible first|refine jg (fun hc=>?_) (fun hc=>?_)|refine jh (fun hc=>?_) (fun hc=>?_))<;>(try simp (disch:=omega) only [zhb] at hc)<;>(try (exfalso;omega))<;>(try subst hc))|(with_reducible refine ji (by omega) ?_)|(simp (config := { maxSteps := 400000 }) only [↓jt,↓reduceIte,zvs,reduceCtorEq,Nat.reduceEqDiff,Nat.reduceAdd,Nat.reduceLeDiff,Nat.reduceMul,Int.reduceBNe,Int.reduceBEq,Int.reduceEq,Int.reduceNe,Int.reduceLT,Int.reduceLE,Int.reduceGT,Int.reduceGE,Int.reduceNeg,Int.reduceToNat,Nat.reduceLT,Nat.reduceSub,tab,hS1,hS2,hS3,encPr,Try.results52,List.toList_toArray])|(simp (disch:=omega) only [ziw]))
    all_goals (try (exfalso; omega))
    refine ok_loop (fun j : Nat => ⟨slots [(1, .ptr 0 []), (3, .map 1), (4, .int .i64 (m.pr.getD k default).pid), (6, .ptr 2 []), (17, encPrs m.pr), (18, .int .i64 m.pr.length), (19, .int .i64 k), (48, .agg ((m.pr.getD k default).sp.map encPte)), (49, .int .i64 j)], rows [(0, .row machSh (encM m)), (1, .map (setM (metF m k j))), (2, .row prSh (encPrA (m.pr.getD k default)))], 3⟩) (fun j => j ≤ 16) (fun j => 16 - j) 0 ?_ (Nat.zero_le _) (fun j hj => ?_)
    · (refine yrn [(0, 0), (1, 1), (2, 2)] false ?_ ?_<;>(repeat' (first|(with_reducible first|exact ya1|exact ya2|exact ya3|refine jx rfl (by first|rfl|assumption|(simp only [znl,znNS];(first|done|fail)))|exact ya5|exact ya7|exact jy|exact jz|refine jA ?_|refine ya9 ?_ ?_ ?_|refine jC rfl (by first|rfl|assumption|(simp only [znl,znNS];(first|done|fail)))|refine MR.agg (MRL.cons ?_ ?_)|refine MR.fn ?_|refine MRL.cons ?_ ?_|exact MRL.nil|refine jE ?_ ?_|exact jF|exact jG|refine yb1 ?_ ?_|refine MB.row ?_|refine jI ?_ ?_|exact ya8|refine jJ rfl (by first|rfl|assumption|(simp only [znl,znNS];(first|done|fail)))|refine yb2 ?_|rfl)|(simp only [znl,znNS];(first|done|fail))|(simp only [↓reduceIte,zlk,Nat.reduceEqDiff,reduceCtorEq])|(with_reducible first|refine jJ ?_ ?_|refine ya5 ?_|refine ju ?_|refine jv ?_|refine jw ?_|refine jx ?_ (by first|rfl|assumption|(simp only [znl,znNS];(first|done|fail)))|refine jC ?_ (by first|rfl|assumption|(simp only [znl,znNS];(first|done|fail)))))))
      all_goals (first | rfl | trace_state)
    by_cases hjlt : j < 16
    · have hpb := hsR _ (getD_mem' (show j < (m.pr.getD k default).sp.length by omega))
      have hp0 := hpg j hjlt
      cases hi : ((m.pr.getD k default).sp.getD j default).is with
      | true =>
        have hp1 := (pteB_is hi).1 hp0
        have hnew := metF_new hpR hlt hjlt hi hp1.2.2.2
        have hin := metF_in hlt (by omega) hi
        have hlook : (mget (setM (metF m k j)) (.int .i64 ((m.pr.getD k default).sp.getD j default).fr)).getD (.bool false) = .bool false := by rw [look_setM, decide_eq_false hnew]
        repeat' (first|(with_reducible first|refine yrl (by constructor) ?_|refine jk (fun M hM=>?_)|(refine hM _ ?_;clear hM M)|refine xb3 (by decide) ?_|refine yqa (by assumption) ?_ ?_|refine yqb (by assumption) ?_ ?_)|((with_reducible refine je ?_)<;>(first|rfl|assumption|(simp only [znl,znNS];(first|done|fail))))|(with_reducible refine jf (by (simp only [↓reduceIte,zlk,Nat.reduceEqDiff,reduceCtorEq]);exact rfl) ?_)|((with_reducible first|refine jg (fun hc=>?_) (fun hc=>?_)|refine jh (fun hc=>?_) (fun hc=>?_))<;>(try simp (disch:=omega) only [zhb] at hc)<;>(try (exfalso;omega))<;>(try subst hc))|(with_reducible refine ji (by omega) ?_)|(simp (config := { maxSteps := 400000 }) only [↓jt,↓reduceIte,zvs,reduceCtorEq,Nat.reduceEqDiff,Nat.reduceAdd,Nat.reduceLeDiff,Nat.reduceMul,Int.reduceBNe,Int.reduceBEq,Int.reduceEq,Int.reduceNe,Int.reduceLT,Int.reduceLE,Int.reduceGT,Int.reduceGE,Int.reduceNeg,Int.reduceToNat,Nat.reduceLT,Nat.reduceSub,tab,hS1,hS2,hS3,encPr,encPte,hi,hlook,keys_setM,setM_snoc,Try.results52,List.toList_toArray])|(simp (disch:=omega) only [ziw]))
        all_goals first
          | (exfalso; omega)
          | (refine xl1 (j + 1) ?_ (by show j + 1 ≤ 16; omega) (by show 16 - (j + 1) < 16 - j; omega); (refine yrn [(0, 0), (1, 1), (2, 2)] false ?_ ?_<;>(repeat' (first|(with_reducible first|exact ya1|exact ya2|exact ya3|refine jx rfl (by first|rfl|assumption|(simp only [znl,znNS];(first|done|fail)))|exact ya5|exact ya7|exact jy|exact jz|refine jA ?_|refine ya9 ?_ ?_ ?_|refine jC rfl (by first|rfl|assumption|(simp only [znl,znNS];(first|done|fail)))|refine MR.agg (MRL.cons ?_ ?_)|refine MR.fn ?_|refine MRL.cons ?_ ?_|exact MRL.nil|refine jE ?_ ?_|exact jF|exact jG|refine yb1 ?_ ?_|refine MB.row ?_|refine jI ?_ ?_|exact ya8|refine jJ rfl (by first|rfl|assumption|(simp only [znl,znNS];(first|done|fail)))|refine yb2 ?_|rfl)|(simp only [znl,znNS];(first|done|fail))|(simp only [↓reduceIte,zlk,Nat.reduceEqDiff,reduceCtorEq])|(with_reducible first|refine jJ ?_ ?_|refine ya5 ?_|refine ju ?_|refine jv ?_|refine jw ?_|refine jx ?_ (by first|rfl|assumption|(simp only [znl,znNS];(first|done|fail)))|refine jC ?_ (by first|rfl|assumption|(simp only [znl,znNS];(first|done|fail))))))); all_goals (rw [hin]))
          | trace_state
      | false =>
        have hp1 := (pteB_no hi).1 hp0
        have hw := hp1.1
        have hout := metF_out hlt (by omega) hi
        have hfa : ∀ b : Bool, (false && b) = false := fun _ => rfl
        have hz : (((m.pr.getD k default).sp.getD j default).fr == 0) = true := by rw [hp1.2]; rfl
        repeat' (first|(with_reducible first|refine yrl (by constructor) ?_|refine jk (fun M hM=>?_)|(refine hM _ ?_;clear hM M)|refine xb3 (by decide) ?_|refine yqa (by assumption) ?_ ?_|refine yqb (by assumption) ?_ ?_)|((with_reducible refine je ?_)<;>(first|rfl|assumption|(simp only [znl,znNS];(first|done|fail))))|(with_reducible refine jf (by (simp only [↓reduceIte,zlk,Nat.reduceEqDiff,reduceCtorEq]);exact rfl) ?_)|((with_reducible first|refine jg (fun hc=>?_) (fun hc=>?_)|refine jh (fun hc=>?_) (fun hc=>?_))<;>(try simp (disch:=omega) only [zhb] at hc)<;>(try (exfalso;omega))<;>(try subst hc))|(with_reducible refine ji (by omega) ?_)|(simp (config := { maxSteps := 400000 }) only [↓jt,↓reduceIte,zvs,reduceCtorEq,Nat.reduceEqDiff,Nat.reduceAdd,Nat.reduceLeDiff,Nat.reduceMul,Int.reduceBNe,Int.reduceBEq,Int.reduceEq,Int.reduceNe,Int.reduceLT,Int.reduceLE,Int.reduceGT,Int.reduceGE,Int.reduceNeg,Int.reduceToNat,Nat.reduceLT,Nat.reduceSub,tab,hS1,hS2,hS3,encPr,encPte,hi,hw,hz,fit_pt,veq_pt,Try.results52,List.toList_toArray])|(simp (disch:=omega) only [ziw]))
        all_goals first
          | (exfalso; omega)
          | (refine xl1 (j + 1) ?_ (by show j + 1 ≤ 16; omega) (by show 16 - (j + 1) < 16 - j; omega); (refine yrn [(0, 0), (1, 1), (2, 2)] false ?_ ?_<;>(repeat' (first|(with_reducible first|exact ya1|exact ya2|exact ya3|refine jx rfl (by first|rfl|assumption|(simp only [znl,znNS];(first|done|fail)))|exact ya5|exact ya7|exact jy|exact jz|refine jA ?_|refine ya9 ?_ ?_ ?_|refine jC rfl (by first|rfl|assumption|(simp only [znl,znNS];(first|done|fail)))|refine MR.agg (MRL.cons ?_ ?_)|refine MR.fn ?_|refine MRL.cons ?_ ?_|exact MRL.nil|refine jE ?_ ?_|exact jF|exact jG|refine yb1 ?_ ?_|refine MB.row ?_|refine jI ?_ ?_|exact ya8|refine jJ rfl (by first|rfl|assumption|(simp only [znl,znNS];(first|done|fail)))|refine yb2 ?_|rfl)|(simp only [znl,znNS];(first|done|fail))|(simp only [↓reduceIte,zlk,Nat.reduceEqDiff,reduceCtorEq])|(with_reducible first|refine jJ ?_ ?_|refine ya5 ?_|refine ju ?_|refine jv ?_|refine jw ?_|refine jx ?_ (by first|rfl|assumption|(simp only [znl,znNS];(first|done|fail)))|refine jC ?_ (by first|rfl|assumption|(simp only [znl,znNS];(first|done|fail))))))); all_goals (rw [hout]))
          | trace_state
    · obtain rfl : j = 16 := by omega
      repeat' (first|(with_reducible first|refine yrl (by constructor) ?_|refine jk (fun M hM=>?_)|(refine hM _ ?_;clear hM M)|refine xb3 (by decide) ?_|refine yqa (by assumption) ?_ ?_|refine yqb (by assumption) ?_ ?_)|((with_reducible refine je ?_)<;>(first|rfl|assumption|(simp only [znl,znNS];(first|done|fail))))|(with_reducible refine jf (by (simp only [↓reduceIte,zlk,Nat.reduceEqDiff,reduceCtorEq]);exact rfl) ?_)|((with_reducible first|refine jg (fun hc=>?_) (fun hc=>?_)|refine jh (fun hc=>?_) (fun hc=>?_))<;>(try simp (disch:=omega) only [zhb] at hc)<;>(try (exfalso;omega))<;>(try subst hc))|(with_reducible refine ji (by omega) ?_)|(simp (config := { maxSteps := 400000 }) only [↓jt,↓reduceIte,zvs,reduceCtorEq,Nat.reduceEqDiff,Nat.reduceAdd,Nat.reduceLeDiff,Nat.reduceMul,Int.reduceBNe,Int.reduceBEq,Int.reduceEq,Int.reduceNe,Int.reduceLT,Int.reduceLE,Int.reduceGT,Int.reduceGE,Int.reduceNeg,Int.reduceToNat,Nat.reduceLT,Nat.reduceSub,tab,hS1,hS2,hS3,Try.results52,List.toList_toArray])|(simp (disch:=omega) only [ziw]))
      refine ok_loop (fun j : Nat => ⟨slots [(1, .ptr 0 []), (3, .map 1), (4, .int .i64 (m.pr.getD k default).pid), (6, .ptr 2 []), (17, encPrs m.pr), (18, .int .i64 m.pr.length), (19, .int .i64 k), (85, .agg ((m.pr.getD k default).fds.map encFd)), (86, .int .i64 j)], rows [(0, .row machSh (encM m)), (1, .map (setM (metF m k 16))), (2, .row prSh (encPrA (m.pr.getD k default)))], 3⟩) (fun j => j ≤ 8) (fun j => 8 - j) 0 ?_ (Nat.zero_le _) (fun j hj => ?_)
      · (refine yrn [(0, 0), (1, 1), (2, 2)] false ?_ ?_<;>(repeat' (first|(with_reducible first|exact ya1|exact ya2|exact ya3|refine jx rfl (by first|rfl|assumption|(simp only [znl,znNS];(first|done|fail)))|exact ya5|exact ya7|exact jy|exact jz|refine jA ?_|refine ya9 ?_ ?_ ?_|refine jC rfl (by first|rfl|assumption|(simp only [znl,znNS];(first|done|fail)))|refine MR.agg (MRL.cons ?_ ?_)|refine MR.fn ?_|refine MRL.cons ?_ ?_|exact MRL.nil|refine jE ?_ ?_|exact jF|exact jG|refine yb1 ?_ ?_|refine MB.row ?_|refine jI ?_ ?_|exact ya8|refine jJ rfl (by first|rfl|assumption|(simp only [znl,znNS];(first|done|fail)))|refine yb2 ?_|rfl)|(simp only [znl,znNS];(first|done|fail))|(simp only [↓reduceIte,zlk,Nat.reduceEqDiff,reduceCtorEq])|(with_reducible first|refine jJ ?_ ?_|refine ya5 ?_|refine ju ?_|refine jv ?_|refine jw ?_|refine jx ?_ (by first|rfl|assumption|(simp only [znl,znNS];(first|done|fail)))|refine jC ?_ (by first|rfl|assumption|(simp only [znl,znNS];(first|done|fail)))))))
        all_goals (first | rfl | trace_state)
      by_cases hjlt : j < 8
      · have hfb := hfR _ (getD_mem' (show j < (m.pr.getD k default).fds.length by omega))
        have hf0 := hfg j hjlt
        unfold fdsB at hf0
        rw [Bool.and_eq_true] at hf0
        have hf1 : (m.pr.getD k default).st = 3 → ((m.pr.getD k default).fds.getD j default).kind = 0 := fun h => by
          have := hf0.2
          rw [decide_eq_true h] at this
          simpa using this
        have hf2 : ((m.pr.getD k default).fds.getD j default).kind = 0 → ((m.pr.getD k default).fds.getD j default).n = 0 ∧ ((m.pr.getD k default).fds.getD j default).pos = 0 := fun h => by
          have := hf0.1
          unfold fdB at this
          rw [if_pos (.inl h)] at this
          exact of_decide_eq_true this
        by_cases hk0 : ((m.pr.getD k default).fds.getD j default).kind = 0
        · have hf3 := hf2 hk0
          repeat' (first|(with_reducible first|refine yrl (by constructor) ?_|refine jk (fun M hM=>?_)|(refine hM _ ?_;clear hM M)|refine xb3 (by decide) ?_|refine yqa (by assumption) ?_ ?_|refine yqb (by assumption) ?_ ?_)|((with_reducible refine je ?_)<;>(first|rfl|assumption|(simp only [znl,znNS];(first|done|fail))))|(with_reducible refine jf (by (simp only [↓reduceIte,zlk,Nat.reduceEqDiff,reduceCtorEq]);exact rfl) ?_)|((with_reducible first|refine jg (fun hc=>?_) (fun hc=>?_)|refine jh (fun hc=>?_) (fun hc=>?_))<;>(try simp (disch:=omega) only [zhb] at hc)<;>(try (exfalso;omega))<;>(try subst hc))|(with_reducible refine ji (by omega) ?_)|(simp (config := { maxSteps := 400000 }) only [↓jt,↓reduceIte,zvs,reduceCtorEq,Nat.reduceEqDiff,Nat.reduceAdd,Nat.reduceLeDiff,Nat.reduceMul,Int.reduceBNe,Int.reduceBEq,Int.reduceEq,Int.reduceNe,Int.reduceLT,Int.reduceLE,Int.reduceGT,Int.reduceGE,Int.reduceNeg,Int.reduceToNat,Nat.reduceLT,Nat.reduceSub,tab,hS1,hS2,hS3,encPr,encFd,fit_fd,veq_fd,Try.results52,List.toList_toArray])|(simp (disch:=omega) only [ziw]))
          all_goals first
            | (exfalso; omega)
            | (refine xl1 (j + 1) ?_ (by show j + 1 ≤ 8; omega) (by show 8 - (j + 1) < 8 - j; omega); (refine yrn [(0, 0), (1, 1), (2, 2)] false ?_ ?_<;>(repeat' (first|(with_reducible first|exact ya1|exact ya2|exact ya3|refine jx rfl (by first|rfl|assumption|(simp only [znl,znNS];(first|done|fail)))|exact ya5|exact ya7|exact jy|exact jz|refine jA ?_|refine ya9 ?_ ?_ ?_|refine jC rfl (by first|rfl|assumption|(simp only [znl,znNS];(first|done|fail)))|refine MR.agg (MRL.cons ?_ ?_)|refine MR.fn ?_|refine MRL.cons ?_ ?_|exact MRL.nil|refine jE ?_ ?_|exact jF|exact jG|refine yb1 ?_ ?_|refine MB.row ?_|refine jI ?_ ?_|exact ya8|refine jJ rfl (by first|rfl|assumption|(simp only [znl,znNS];(first|done|fail)))|refine yb2 ?_|rfl)|(simp only [znl,znNS];(first|done|fail))|(simp only [↓reduceIte,zlk,Nat.reduceEqDiff,reduceCtorEq])|(with_reducible first|refine jJ ?_ ?_|refine ya5 ?_|refine ju ?_|refine jv ?_|refine jw ?_|refine jx ?_ (by first|rfl|assumption|(simp only [znl,znNS];(first|done|fail)))|refine jC ?_ (by first|rfl|assumption|(simp only [znl,znNS];(first|done|fail))))))); done)
            | trace_state
        · have hF := file_ok m hm _ hfb hf0.1 hk0
          simp only [encFd] at hF
          obtain ⟨⟨g1, g2⟩, ⟨g3, g4⟩, g5, g6⟩ := hfb
          repeat' (first|(with_reducible first|refine yrl (by constructor) ?_|refine jk (fun M hM=>?_)|(refine hM _ ?_;clear hM M)|refine xb3 (by decide) ?_|refine yqa (by assumption) ?_ ?_|refine yqb (by assumption) ?_ ?_)|((with_reducible refine je ?_)<;>(first|rfl|assumption|(simp only [znl,znNS];(first|done|fail))))|(with_reducible refine jf (by (simp only [↓reduceIte,zlk,Nat.reduceEqDiff,reduceCtorEq]);exact rfl) ?_)|((with_reducible first|refine jg (fun hc=>?_) (fun hc=>?_)|refine jh (fun hc=>?_) (fun hc=>?_))<;>(try simp (disch:=omega) only [zhb] at hc)<;>(try (exfalso;omega))<;>(try subst hc))|(with_reducible refine ji (by omega) ?_)|(simp (config := { maxSteps := 400000 }) only [↓jt,↓reduceIte,zvs,reduceCtorEq,Nat.reduceEqDiff,Nat.reduceAdd,Nat.reduceLeDiff,Nat.reduceMul,Int.reduceBNe,Int.reduceBEq,Int.reduceEq,Int.reduceNe,Int.reduceLT,Int.reduceLE,Int.reduceGT,Int.reduceGE,Int.reduceNeg,Int.reduceToNat,Nat.reduceLT,Nat.reduceSub,tab,hS1,hS2,hS3,encPr,encFd,fit_fd,veq_fd,Try.results52,List.toList_toArray])|(simp (disch:=omega) only [ziw]))
          all_goals first
            | (exfalso; omega)
            | (refine xl1 (j + 1) ?_ (by show j + 1 ≤ 8; omega) (by show 8 - (j + 1) < 8 - j; omega); (refine yrn [(0, 0), (1, 1), (2, 2)] false ?_ ?_<;>(repeat' (first|(with_reducible first|exact ya1|exact ya2|exact ya3|refine jx rfl (by first|rfl|assumption|(simp only [znl,znNS];(first|done|fail)))|exact ya5|exact ya7|exact jy|exact jz|refine jA ?_|refine ya9 ?_ ?_ ?_|refine jC rfl (by first|rfl|assumption|(simp only [znl,znNS];(first|done|fail)))|refine MR.agg (MRL.cons ?_ ?_)|refine MR.fn ?_|refine MRL.cons ?_ ?_|exact MRL.nil|refine jE ?_ ?_|exact jF|exact jG|refine yb1 ?_ ?_|refine MB.row ?_|refine jI ?_ ?_|exact ya8|refine jJ rfl (by first|rfl|assumption|(simp only [znl,znNS];(first|done|fail)))|refine yb2 ?_|rfl)|(simp only [znl,znNS];(first|done|fail))|(simp only [↓reduceIte,zlk,Nat.reduceEqDiff,reduceCtorEq])|(with_reducible first|refine jJ ?_ ?_|refine ya5 ?_|refine ju ?_|refine jv ?_|refine jw ?_|refine jx ?_ (by first|rfl|assumption|(simp only [znl,znNS];(first|done|fail)))|refine jC ?_ (by first|rfl|assumption|(simp only [znl,znNS];(first|done|fail))))))); done)
            | trace_state
      · obtain rfl : j = 8 := by omega
        have hnx := metF_next hlt
        repeat' (first|(with_reducible first|refine yrl (by constructor) ?_|refine jk (fun M hM=>?_)|(refine hM _ ?_;clear hM M)|refine xb3 (by decide) ?_|refine yqa (by assumption) ?_ ?_|refine yqb (by assumption) ?_ ?_)|((with_reducible refine je ?_)<;>(first|rfl|assumption|(simp only [znl,znNS];(first|done|fail))))|(with_reducible refine jf (by (simp only [↓reduceIte,zlk,Nat.reduceEqDiff,reduceCtorEq]);exact rfl) ?_)|((with_reducible first|refine jg (fun hc=>?_) (fun hc=>?_)|refine jh (fun hc=>?_) (fun hc=>?_))<;>(try simp (disch:=omega) only [zhb] at hc)<;>(try (exfalso;omega))<;>(try subst hc))|(with_reducible refine ji (by omega) ?_)|(simp (config := { maxSteps := 400000 }) only [↓jt,↓reduceIte,zvs,reduceCtorEq,Nat.reduceEqDiff,Nat.reduceAdd,Nat.reduceLeDiff,Nat.reduceMul,Int.reduceBNe,Int.reduceBEq,Int.reduceEq,Int.reduceNe,Int.reduceLT,Int.reduceLE,Int.reduceGT,Int.reduceGE,Int.reduceNeg,Int.reduceToNat,Nat.reduceLT,Nat.reduceSub,tab,hS1,hS2,hS3,Try.results52,List.toList_toArray])|(simp (disch:=omega) only [ziw]))
        refine xl1 (k + 1) ?_ (by show k + 1 ≤ m.pr.length; omega) (by show m.pr.length - (k + 1) < m.pr.length - k; omega)
        (refine yrn [(0, 0), (1, 1)] false ?_ ?_<;>(repeat' (first|(with_reducible first|exact ya1|exact ya2|exact ya3|refine jx rfl (by first|rfl|assumption|(simp only [znl,znNS];(first|done|fail)))|exact ya5|exact ya7|exact jy|exact jz|refine jA ?_|refine ya9 ?_ ?_ ?_|refine jC rfl (by first|rfl|assumption|(simp only [znl,znNS];(first|done|fail)))|refine MR.agg (MRL.cons ?_ ?_)|refine MR.fn ?_|refine MRL.cons ?_ ?_|exact MRL.nil|refine jE ?_ ?_|exact jF|exact jG|refine yb1 ?_ ?_|refine MB.row ?_|refine jI ?_ ?_|exact ya8|refine jJ rfl (by first|rfl|assumption|(simp only [znl,znNS];(first|done|fail)))|refine yb2 ?_|rfl)|(simp only [znl,znNS];(first|done|fail))|(simp only [↓reduceIte,zlk,Nat.reduceEqDiff,reduceCtorEq])|(with_reducible first|refine jJ ?_ ?_|refine ya5 ?_|refine ju ?_|refine jv ?_|refine jw ?_|refine jx ?_ (by first|rfl|assumption|(simp only [znl,znNS];(first|done|fail)))|refine jC ?_ (by first|rfl|assumption|(simp only [znl,znNS];(first|done|fail)))))))
        all_goals (first | rfl | (rw [hnx]; done) | trace_state)
  · obtain rfl : k = m.pr.length := by omega
    repeat' (first|(with_reducible first|refine yrl (by constructor) ?_|refine jk (fun M hM=>?_)|(refine hM _ ?_;clear hM M)|refine xb3 (by decide) ?_|refine yqa (by assumption) ?_ ?_|refine yqb (by assumption) ?_ ?_)|((with_reducible refine je ?_)<;>(first|rfl|assumption|(simp only [znl,znNS];(first|done|fail))))|(with_reducible refine jf (by (simp only [↓reduceIte,zlk,Nat.reduceEqDiff,reduceCtorEq]);exact rfl) ?_)|((with_reducible first|refine jg (fun hc=>?_) (fun hc=>?_)|refine jh (fun hc=>?_) (fun hc=>?_))<;>(try simp (disch:=omega) only [zhb] at hc)<;>(try (exfalso;omega))<;>(try subst hc))|(with_reducible refine ji (by omega) ?_)|(simp (config := { maxSteps := 400000 }) only [↓jt,↓reduceIte,zvs,reduceCtorEq,Nat.reduceEqDiff,Nat.reduceAdd,Nat.reduceLeDiff,Nat.reduceMul,Int.reduceBNe,Int.reduceBEq,Int.reduceEq,Int.reduceNe,Int.reduceLT,Int.reduceLE,Int.reduceGT,Int.reduceGE,Int.reduceNeg,Int.reduceToNat,Nat.reduceLT,Nat.reduceSub,tab,Try.results52,List.toList_toArray])|(simp (disch:=omega) only [ziw]))
    all_goals first
      | (exfalso; omega)
      | (simp only [zrds]; done)
      | trace_state
end Go.Proofs.Ytlgldkjjbbbapaa.V
end
section
/-
  MACHINES, part 28: the program's own test of a machine: one that may be, may be.
-/
set_option linter.unusedVariables false
set_option linter.unusedSimpArgs false
namespace Go.Proofs.Ytlgldkjjbbbapaa.V
open Go
set_option maxRecDepth 100000
set_option linter.defProp false in
def znNV := And.intro @jO <| And.intro @jP <| And.intro @jQ <| And.intro @jR <| And.intro @jS <| And.intro @jT <| And.intro @jU <| True.intro
set_option maxHeartbeats 4000000
theorem journaled_ok (d : Dr) (hd : dfit d) (h0 : checkD d = 0) (h1 : 33 < d.bl.length) : Spec Try.prog 118 [encDr d] (.int .i64 0) := by
  have hC := check_spec d hd
  rw [h0] at hC
  have hb := checkD_le h0
  refine spec_ok Try.func118 rfl rfl (by kernel_rfl) (k := 1) rfl (by decide) ?_
  repeat' (first|(with_reducible first|refine yrl (by constructor) ?_|refine jk (fun M hM=>?_)|(refine hM _ ?_;clear hM M)|refine xb3 (by decide) ?_|refine yqa (by assumption) ?_ ?_|refine yqb (by assumption) ?_ ?_)|((with_reducible refine je ?_)<;>(first|rfl|assumption|(simp only [znl,znNV];(first|done|fail))))|(with_reducible refine jf (by (simp only [↓reduceIte,zlk,Nat.reduceEqDiff,reduceCtorEq]);exact rfl) ?_)|((with_reducible first|refine jg (fun hc=>?_) (fun hc=>?_)|refine jh (fun hc=>?_) (fun hc=>?_))<;>(try simp (disch:=omega) only [zhb] at hc)<;>(try (exfalso;omega))<;>(try subst hc))|(with_reducible refine ji (by omega) ?_)|(simp (config := { maxSteps := 400000 }) only [↓jt,↓reduceIte,zvs,reduceCtorEq,Nat.reduceEqDiff,Nat.reduceAdd,Nat.reduceLeDiff,Nat.reduceMul,Int.reduceBNe,Int.reduceBEq,Int.reduceEq,Int.reduceNe,Int.reduceLT,Int.reduceLE,Int.reduceGT,Int.reduceGE,Int.reduceNeg,Int.reduceToNat,Nat.reduceLT,Nat.reduceSub,tab,Try.results118,List.toList_toArray])|(simp (disch:=omega) only [ziw]))
  all_goals first
    | (exfalso; omega)
    | (simp only [zrds]; done)
    | trace_state
def hwF (v : Frames) (w : Wr) : Frames := if 33 ≤ w.b then v.set (w.b - 33).toNat w.d else v
theorem hwF_len (v : Frames) (w : Wr) : (hwF v w).length = v.length := by unfold hwF; split <;> simp
theorem hwF_all_len (l : List Wr) : ∀ v : Frames, (l.foldl hwF v).length = v.length := by
  induction l with
  | nil => intro v; rfl
  | cons w l ih => intro v; rw [List.foldl_cons, ih, hwF_len]
theorem hwF_getP (i : Nat) : ∀ (l : List Wr) (v : Frames), i < v.length → (∀ w ∈ l, w.b < 33 + (v.length : Int)) → (l.foldl hwF v).getD i [] = getP l ((33 + i : Nat) : Int) (v.getD i [])
  | [], v, _, _ => rfl
  | w :: l, v, hi, h => by
    have hw := h w (by simp)
    rw [List.foldl_cons, hwF_getP i l (hwF v w) (by rw [hwF_len]; exact hi) (fun x hx => by rw [hwF_len]; exact h x (by simp [hx]))]
    have e : getP (w :: l) ((33 + i : Nat) : Int) (v.getD i []) = getP l ((33 + i : Nat) : Int) (if w.b = ((33 + i : Nat) : Int) then w.d else v.getD i []) := rfl
    rw [e]
    congr 1
    unfold hwF
    by_cases h33 : 33 ≤ w.b
    · rw [if_pos h33, List.getD_eq_getElem?_getD, List.getElem?_set]
      by_cases hq : (w.b - 33).toNat = i
      · rw [if_pos hq, if_pos (by omega), if_pos (by omega)]; rfl
      · rw [if_neg hq, if_neg (by omega), ← List.getD_eq_getElem?_getD]
    · rw [if_neg h33, if_neg (by omega)]
theorem home_eq {d : Dr} (h0 : checkD d = 0) (h1 : 33 < d.bl.length) (hr : ∀ w ∈ d.pe, w.b < d.bl.length) : d.pe.foldl hwF (d.bl.drop 33) = homeD d := by
  unfold homeD
  rw [if_pos ⟨h0, h1⟩]
  have hl : (d.pe.foldl hwF (d.bl.drop 33)).length = d.bl.length - 33 := by rw [hwF_all_len, List.length_drop]
  apply List.ext_getElem
  · rw [hl]; simp
  · intro i hi1 hi2
    have hi : i < d.bl.length - 33 := by rw [hl] at hi1; exact hi1
    have key := hwF_getP i d.pe (d.bl.drop 33) (by rw [List.length_drop]; exact hi) (fun w hw => by have := hr w hw; rw [List.length_drop]; omega)
    rw [List.getD_eq_getElem?_getD, List.getElem?_eq_getElem hi1] at key
    simp only [Option.getD_some] at key
    rw [key, List.getElem_map, List.getElem_range]
    unfold homeB
    congr 1
    rw [List.getD_eq_getElem?_getD, List.getElem?_drop, ← List.getD_eq_getElem?_getD]
theorem checkW_rng : ∀ {n : Nat} {l : List Wr}, checkW n l = 0 → ∀ w ∈ l, 0 ≤ w.b ∧ w.b < (n : Int)
  | n, [], _, w, hw => by cases hw
  | n, x :: l, h, w, hw => by
    unfold checkW at h
    split at h
    · omega
    · split at h
      · omega
      · rename_i h1 h2
        rcases List.mem_cons.1 hw with rfl | hw
        · exact Decidable.byContradiction fun hc => h1 hc
        · exact checkW_rng h w hw
theorem checkD_rng {d : Dr} (h : checkD d = 0) : ∀ w ∈ d.pe, 0 ≤ w.b ∧ w.b < (d.bl.length : Int) := by
  unfold checkD at h
  split at h
  · omega
  · split at h
    · omega
    · exact checkW_rng h
def lastW (l : List Wr) : Nat → Int
  | 0 => -1
  | k + 1 => (l.getD k default).b
theorem dirtyQ_facts {v : Frames} {l : List Wr} {k : Nat} (h : dirtyQ v l k = true) : 0 ≤ (l.getD k default).b ∧ (l.getD k default).b < v.length ∧ (l.getD k default).d.length = 128 ∧ lastW l k < (l.getD k default).b := by
  unfold dirtyQ at h
  simp only [Bool.not_eq_true',Bool.or_eq_false_iff,decide_eq_false_iff_not,Bool.and_eq_false_iff,ne_eq,Decidable.not_not] at h
  refine ⟨by omega, by omega, h.1.2, ?_⟩
  cases k with
  | zero => show (-1 : Int) < _; omega
  | succ k =>
    have h2 := h.2
    rw [Nat.add_sub_cancel] at h2
    show (l.getD k default).b < _
    omega
theorem volume_ok (m : Mach) (hm : MFit 20000 m) (h : diskE m = 0) : Spec Try.prog 55 [encM m] (.int .i64 0) := by
  have hd := dfit_of hm
  unfold diskE at h
  split at h
  · omega
  rename_i hc
  have hc : checkD m.dr = 0 := by omega
  split at h
  · omega
  rename_i hne
  split at h
  · omega
  rename_i h32
  split at h
  · omega
  rename_i hdE
  have h33 : 33 < m.dr.bl.length := by
    refine Decidable.byContradiction fun hx => hne ?_
    unfold homeD
    rw [if_neg (fun y => hx y.2)]
  have hbl := checkD_le hc
  have hC := check_spec m.dr hd
  rw [hc] at hC
  have hJ := journaled_ok m.dr hd hc h33
  have hrng := checkD_rng hc
  have hE := home_eq hc h33 fun w hw => (hrng w hw).2
  have hvf := volM_fit hm
  obtain ⟨g, hO⟩ := gof_ok (volM m) hvf.1 hvf.2 h
  have hpeL := hm.pe
  have hpeS := hm.peS
  have hdS := hm.dirtyS
  have hq : ∀ i, i < m.dirty.length → dirtyQ (homeD m.dr) m.dirty i = true := fun i hi => by
    have hdE : dirtyE (homeD m.dr) m.dirty = true := by simpa using hdE
    exact (List.all_eq_true.1 hdE) i (List.mem_range.2 hi)
  have hhl : (homeD m.dr).length = m.dr.bl.length - 33 := by rw [← hE, hwF_all_len, List.length_drop]
  obtain ⟨n, hn⟩ : ∃ n, n = m.dr.bl.length - 33 := ⟨_, rfl⟩
  refine spec_ok Try.func55 rfl rfl (by kernel_rfl) (k := 1) rfl (by decide) ?_
  repeat' (first|(with_reducible first|refine yrl (by constructor) ?_|refine jk (fun M hM=>?_)|(refine hM _ ?_;clear hM M)|refine xb3 (by decide) ?_|refine yqa (by assumption) ?_ ?_|refine yqb (by assumption) ?_ ?_)|((with_reducible refine je ?_)<;>(first|rfl|assumption|(simp only [znl,znNV];(first|done|fail))))|(with_reducible refine jf (by (simp only [↓reduceIte,zlk,Nat.reduceEqDiff,reduceCtorEq]);exact rfl) ?_)|((with_reducible first|refine jg (fun hc=>?_) (fun hc=>?_)|refine jh (fun hc=>?_) (fun hc=>?_))<;>(try simp (disch:=omega) only [zhb] at hc)<;>(try (exfalso;omega))<;>(try subst hc))|(with_reducible refine ji (by omega) ?_)|(simp (config := { maxSteps := 400000 }) only [↓jt,↓reduceIte,zvs,reduceCtorEq,Nat.reduceEqDiff,Nat.reduceAdd,Nat.reduceLeDiff,Nat.reduceMul,Int.reduceBNe,Int.reduceBEq,Int.reduceEq,Int.reduceNe,Int.reduceLT,Int.reduceLE,Int.reduceGT,Int.reduceGE,Int.reduceNeg,Int.reduceToNat,Nat.reduceLT,Nat.reduceSub,tab,Try.results55,List.toList_toArray])|(simp (disch:=omega) only [ziw]))
  refine ja (ok_body Try.func87 rfl rfl (by kernel_rfl) (k := 1) (by rfl) (by decide) ?_)
  repeat' (first|(with_reducible first|refine yrl (by constructor) ?_|refine jk (fun M hM=>?_)|(refine hM _ ?_;clear hM M)|refine xb3 (by decide) ?_|refine yqa (by assumption) ?_ ?_|refine yqb (by assumption) ?_ ?_)|((with_reducible refine je ?_)<;>(first|rfl|assumption|(simp only [znl,znNV];(first|done|fail))))|(with_reducible refine jf (by (simp only [↓reduceIte,zlk,Nat.reduceEqDiff,reduceCtorEq]);exact rfl) ?_)|((with_reducible first|refine jg (fun hc=>?_) (fun hc=>?_)|refine jh (fun hc=>?_) (fun hc=>?_))<;>(try simp (disch:=omega) only [zhb] at hc)<;>(try (exfalso;omega))<;>(try subst hc))|(with_reducible refine ji (by omega) ?_)|(simp (config := { maxSteps := 400000 }) only [↓jt,↓reduceIte,zvs,reduceCtorEq,Nat.reduceEqDiff,Nat.reduceAdd,Nat.reduceLeDiff,Nat.reduceMul,Int.reduceBNe,Int.reduceBEq,Int.reduceEq,Int.reduceNe,Int.reduceLT,Int.reduceLE,Int.reduceGT,Int.reduceGE,Int.reduceNeg,Int.reduceToNat,Nat.reduceLT,Nat.reduceSub,tab,Try.results87,List.toList_toArray])|(simp (disch:=omega) only [ziw]))
  refine ok_loop (fun k : Nat => ⟨slots [(1, .ptr 1 []), (3, .sl (some (2, [], 0)) n), (14, encWrs m.dr.pe), (15, .int .i64 m.dr.pe.length), (16, .int .i64 k)], rows [(0, .row machSh (encM m)), (1, .row (.st [.cell, .cell, .cell]) (encDr m.dr)), (2, .row (.arr n .cell) (.agg (((m.dr.pe.take k).foldl hwF (m.dr.bl.drop 33)).map .str)))], 3⟩) (fun k => k ≤ m.dr.pe.length) (fun k => m.dr.pe.length - k) 0 ?_ (Nat.zero_le _) (fun k hk => ?_)
  · (refine yrn [(1, 1), (2, 2)] false ?_ ?_<;>(repeat' (first|(with_reducible first|exact ya1|exact ya2|exact ya3|refine jx rfl (by first|rfl|assumption|(simp only [znl,znNV];(first|done|fail)))|exact ya5|exact ya7|exact jy|exact jz|refine jA ?_|refine ya9 ?_ ?_ ?_|refine jC rfl (by first|rfl|assumption|(simp only [znl,znNV];(first|done|fail)))|refine MR.agg (MRL.cons ?_ ?_)|refine MR.fn ?_|refine MRL.cons ?_ ?_|exact MRL.nil|refine jE ?_ ?_|exact jF|exact jG|refine yb1 ?_ ?_|refine MB.row ?_|refine jI ?_ ?_|exact ya8|refine jJ rfl (by first|rfl|assumption|(simp only [znl,znNV];(first|done|fail)))|refine yb2 ?_|rfl)|(simp only [znl,znNV];(first|done|fail))|(simp only [↓reduceIte,zlk,Nat.reduceEqDiff,reduceCtorEq])|(with_reducible first|refine jJ ?_ ?_|refine ya5 ?_|refine ju ?_|refine jv ?_|refine jw ?_|refine jx ?_ (by first|rfl|assumption|(simp only [znl,znNV];(first|done|fail)))|refine jC ?_ (by first|rfl|assumption|(simp only [znl,znNV];(first|done|fail)))))))
    all_goals (first | rfl | omega | (rw [List.take_of_length_le (by simp), List.take_zero, List.foldl_nil, List.map_drop]; done) | (rw [hn]; simp; done) | (simp; done) | trace_state)
  have hvl := hwF_all_len (m.dr.pe.take k) (m.dr.bl.drop 33)
  rw [List.length_drop, ← hn] at hvl
  by_cases hlt : k < m.dr.pe.length
  · obtain ⟨⟨w1, w2⟩, w3⟩ := hpeS _ (getD_mem' hlt)
    obtain ⟨w4, w5⟩ := hrng _ (getD_mem' hlt)
    have e1 : (m.dr.pe.take (k + 1)).foldl hwF (m.dr.bl.drop 33) = hwF ((m.dr.pe.take k).foldl hwF (m.dr.bl.drop 33)) (m.dr.pe.getD k default) := by
      rw [take_snoc m.dr.pe k hlt, List.foldl_append]; rfl
    generalize (m.dr.pe.take k).foldl hwF (m.dr.bl.drop 33) = v at hvl e1 ⊢
    have hset : ∀ (i : Nat) (s : List UInt8), (v.map VV.str).set i (.str s) = (v.set i s).map VV.str := fun i s => (List.map_set ..).symm
    by_cases hq33 : 33 ≤ (m.dr.pe.getD k default).b
    · have e1 := e1.trans (show hwF v (m.dr.pe.getD k default) = v.set ((m.dr.pe.getD k default).b - 33).toNat (m.dr.pe.getD k default).d from if_pos hq33)
      repeat' (first|(with_reducible first|refine yrl (by constructor) ?_|refine jk (fun M hM=>?_)|(refine hM _ ?_;clear hM M)|refine xb3 (by decide) ?_|refine yqa (by assumption) ?_ ?_|refine yqb (by assumption) ?_ ?_)|((with_reducible refine je ?_)<;>(first|rfl|assumption|(simp only [znl,znNV];(first|done|fail))))|(with_reducible refine jf (by (simp only [↓reduceIte,zlk,Nat.reduceEqDiff,reduceCtorEq]);exact rfl) ?_)|((with_reducible first|refine jg (fun hc=>?_) (fun hc=>?_)|refine jh (fun hc=>?_) (fun hc=>?_))<;>(try simp (disch:=omega) only [zhb] at hc)<;>(try (exfalso;omega))<;>(try subst hc))|(with_reducible refine ji (by omega) ?_)|(simp (config := { maxSteps := 400000 }) only [↓jt,↓reduceIte,zvs,reduceCtorEq,Nat.reduceEqDiff,Nat.reduceAdd,Nat.reduceLeDiff,Nat.reduceMul,Int.reduceBNe,Int.reduceBEq,Int.reduceEq,Int.reduceNe,Int.reduceLT,Int.reduceLE,Int.reduceGT,Int.reduceGE,Int.reduceNeg,Int.reduceToNat,Nat.reduceLT,Nat.reduceSub,tab,encWr,hvl,hset,Try.results87,List.toList_toArray])|(simp (disch:=omega) only [ziw]))
      all_goals first
        | (exfalso; omega)
        | (refine xl1 (k + 1) ?_ (by show k + 1 ≤ m.dr.pe.length; omega) (by show m.dr.pe.length - (k + 1) < m.dr.pe.length - k; omega); (refine yrn [(1, 1), (2, 2)] false ?_ ?_<;>(repeat' (first|(with_reducible first|exact ya1|exact ya2|exact ya3|refine jx rfl (by first|rfl|assumption|(simp only [znl,znNV];(first|done|fail)))|exact ya5|exact ya7|exact jy|exact jz|refine jA ?_|refine ya9 ?_ ?_ ?_|refine jC rfl (by first|rfl|assumption|(simp only [znl,znNV];(first|done|fail)))|refine MR.agg (MRL.cons ?_ ?_)|refine MR.fn ?_|refine MRL.cons ?_ ?_|exact MRL.nil|refine jE ?_ ?_|exact jF|exact jG|refine yb1 ?_ ?_|refine MB.row ?_|refine jI ?_ ?_|exact ya8|refine jJ rfl (by first|rfl|assumption|(simp only [znl,znNV];(first|done|fail)))|refine yb2 ?_|rfl)|(simp only [znl,znNV];(first|done|fail))|(simp only [↓reduceIte,zlk,Nat.reduceEqDiff,reduceCtorEq])|(with_reducible first|refine jJ ?_ ?_|refine ya5 ?_|refine ju ?_|refine jv ?_|refine jw ?_|refine jx ?_ (by first|rfl|assumption|(simp only [znl,znNV];(first|done|fail)))|refine jC ?_ (by first|rfl|assumption|(simp only [znl,znNV];(first|done|fail))))))); all_goals (first | rfl | (rw [e1]; done)))
        | trace_state
    · have e1 := e1.trans (show hwF v (m.dr.pe.getD k default) = v from if_neg hq33)
      repeat' (first|(with_reducible first|refine yrl (by constructor) ?_|refine jk (fun M hM=>?_)|(refine hM _ ?_;clear hM M)|refine xb3 (by decide) ?_|refine yqa (by assumption) ?_ ?_|refine yqb (by assumption) ?_ ?_)|((with_reducible refine je ?_)<;>(first|rfl|assumption|(simp only [znl,znNV];(first|done|fail))))|(with_reducible refine jf (by (simp only [↓reduceIte,zlk,Nat.reduceEqDiff,reduceCtorEq]);exact rfl) ?_)|((with_reducible first|refine jg (fun hc=>?_) (fun hc=>?_)|refine jh (fun hc=>?_) (fun hc=>?_))<;>(try simp (disch:=omega) only [zhb] at hc)<;>(try (exfalso;omega))<;>(try subst hc))|(with_reducible refine ji (by omega) ?_)|(simp (config := { maxSteps := 400000 }) only [↓jt,↓reduceIte,zvs,reduceCtorEq,Nat.reduceEqDiff,Nat.reduceAdd,Nat.reduceLeDiff,Nat.reduceMul,Int.reduceBNe,Int.reduceBEq,Int.reduceEq,Int.reduceNe,Int.reduceLT,Int.reduceLE,Int.reduceGT,Int.reduceGE,Int.reduceNeg,Int.reduceToNat,Nat.reduceLT,Nat.reduceSub,tab,encWr,hvl,hset,Try.results87,List.toList_toArray])|(simp (disch:=omega) only [ziw]))
      all_goals first
        | (exfalso; omega)
        | (refine xl1 (k + 1) ?_ (by show k + 1 ≤ m.dr.pe.length; omega) (by show m.dr.pe.length - (k + 1) < m.dr.pe.length - k; omega); (refine yrn [(1, 1), (2, 2)] false ?_ ?_<;>(repeat' (first|(with_reducible first|exact ya1|exact ya2|exact ya3|refine jx rfl (by first|rfl|assumption|(simp only [znl,znNV];(first|done|fail)))|exact ya5|exact ya7|exact jy|exact jz|refine jA ?_|refine ya9 ?_ ?_ ?_|refine jC rfl (by first|rfl|assumption|(simp only [znl,znNV];(first|done|fail)))|refine MR.agg (MRL.cons ?_ ?_)|refine MR.fn ?_|refine MRL.cons ?_ ?_|exact MRL.nil|refine jE ?_ ?_|exact jF|exact jG|refine yb1 ?_ ?_|refine MB.row ?_|refine jI ?_ ?_|exact ya8|refine jJ rfl (by first|rfl|assumption|(simp only [znl,znNV];(first|done|fail)))|refine yb2 ?_|rfl)|(simp only [znl,znNV];(first|done|fail))|(simp only [↓reduceIte,zlk,Nat.reduceEqDiff,reduceCtorEq])|(with_reducible first|refine jJ ?_ ?_|refine ya5 ?_|refine ju ?_|refine jv ?_|refine jw ?_|refine jx ?_ (by first|rfl|assumption|(simp only [znl,znNV];(first|done|fail)))|refine jC ?_ (by first|rfl|assumption|(simp only [znl,znNV];(first|done|fail))))))); all_goals (first | rfl | (rw [e1]; done)))
        | trace_state
  obtain rfl : k = m.dr.pe.length := by omega
  rw [List.take_length, hE] at *
  have hnh : n = (homeD m.dr).length := by rw [hhl]; exact hn
  have hn0 : 0 < n := by omega
  repeat' (first|(with_reducible first|refine yrl (by constructor) ?_|refine jk (fun M hM=>?_)|(refine hM _ ?_;clear hM M)|refine xb3 (by decide) ?_|refine yqa (by assumption) ?_ ?_|refine yqb (by assumption) ?_ ?_)|((with_reducible refine je ?_)<;>(first|rfl|assumption|(simp only [znl,znNV];(first|done|fail))))|(with_reducible refine jf (by (simp only [↓reduceIte,zlk,Nat.reduceEqDiff,reduceCtorEq]);exact rfl) ?_)|((with_reducible first|refine jg (fun hc=>?_) (fun hc=>?_)|refine jh (fun hc=>?_) (fun hc=>?_))<;>(try simp (disch:=omega) only [zhb] at hc)<;>(try (exfalso;omega))<;>(try subst hc))|(with_reducible refine ji (by omega) ?_)|(simp (config := { maxSteps := 400000 }) only [↓jt,↓reduceIte,zvs,reduceCtorEq,Nat.reduceEqDiff,Nat.reduceAdd,Nat.reduceLeDiff,Nat.reduceMul,Int.reduceBNe,Int.reduceBEq,Int.reduceEq,Int.reduceNe,Int.reduceLT,Int.reduceLE,Int.reduceGT,Int.reduceGE,Int.reduceNeg,Int.reduceToNat,Nat.reduceLT,Nat.reduceSub,tab,List.take_length,Try.results87,Try.results55,List.toList_toArray])|(simp (disch:=omega) only [ziw]))
  all_goals (try (exfalso; omega))
  clear hE
  unfold volM at hO
  generalize homeD m.dr = h0 at hq hnh hO hhl ⊢
  refine ok_loop (fun k : Nat => ⟨slots [(1, .ptr 0 []), (4, .sl (some (2, [], 0)) n), (5, .int .i64 (lastW m.dirty k)), (27, encWrs m.dirty), (28, .int .i64 m.dirty.length), (29, .int .i64 k)], rows [(0, .row machSh (encM m)), (2, .row (.arr n .cell) (.agg (((m.dirty.take k).foldl wrV h0).map .str)))], 3⟩) (fun k => k ≤ m.dirty.length) (fun k => m.dirty.length - k) 0 ?_ (Nat.zero_le _) (fun k hk => ?_)
  · (refine yrn [(0, 0), (2, 2)] false ?_ ?_<;>(repeat' (first|(with_reducible first|exact ya1|exact ya2|exact ya3|refine jx rfl (by first|rfl|assumption|(simp only [znl,znNV];(first|done|fail)))|exact ya5|exact ya7|exact jy|exact jz|refine jA ?_|refine ya9 ?_ ?_ ?_|refine jC rfl (by first|rfl|assumption|(simp only [znl,znNV];(first|done|fail)))|refine MR.agg (MRL.cons ?_ ?_)|refine MR.fn ?_|refine MRL.cons ?_ ?_|exact MRL.nil|refine jE ?_ ?_|exact jF|exact jG|refine yb1 ?_ ?_|refine MB.row ?_|refine jI ?_ ?_|exact ya8|refine jJ rfl (by first|rfl|assumption|(simp only [znl,znNV];(first|done|fail)))|refine yb2 ?_|rfl)|(simp only [znl,znNV];(first|done|fail))|(simp only [↓reduceIte,zlk,Nat.reduceEqDiff,reduceCtorEq])|(with_reducible first|refine jJ ?_ ?_|refine ya5 ?_|refine ju ?_|refine jv ?_|refine jw ?_|refine jx ?_ (by first|rfl|assumption|(simp only [znl,znNV];(first|done|fail)))|refine jC ?_ (by first|rfl|assumption|(simp only [znl,znNV];(first|done|fail)))))))
    all_goals (first | rfl | omega | trace_state)
  have hvl := foldl_wrV_len (m.dirty.take k) h0
  rw [← hnh] at hvl
  by_cases hlt : k < m.dirty.length
  · obtain ⟨⟨w1, w2⟩, w3⟩ := hdS _ (getD_mem' hlt)
    obtain ⟨d1, d2, d3, d4⟩ := dirtyQ_facts (hq k hlt)
    have dn : lastW m.dirty (k + 1) = (m.dirty.getD k default).b := rfl
    have e1 : (m.dirty.take (k + 1)).foldl wrV h0 = wrV ((m.dirty.take k).foldl wrV h0) (m.dirty.getD k default) := by
      rw [take_snoc m.dirty k hlt, List.foldl_append]; rfl
    generalize (m.dirty.take k).foldl wrV h0 = v at hvl e1 ⊢
    have hset : ∀ (i : Nat) (s : List UInt8), (v.map VV.str).set i (.str s) = (v.set i s).map VV.str := fun i s => (List.map_set ..).symm
    have e1 := e1.trans (show wrV v (m.dirty.getD k default) = v.set (m.dirty.getD k default).b.toNat (m.dirty.getD k default).d from if_pos ⟨d1, by omega⟩)
    repeat' (first|(with_reducible first|refine yrl (by constructor) ?_|refine jk (fun M hM=>?_)|(refine hM _ ?_;clear hM M)|refine xb3 (by decide) ?_|refine yqa (by assumption) ?_ ?_|refine yqb (by assumption) ?_ ?_)|((with_reducible refine je ?_)<;>(first|rfl|assumption|(simp only [znl,znNV];(first|done|fail))))|(with_reducible refine jf (by (simp only [↓reduceIte,zlk,Nat.reduceEqDiff,reduceCtorEq]);exact rfl) ?_)|((with_reducible first|refine jg (fun hc=>?_) (fun hc=>?_)|refine jh (fun hc=>?_) (fun hc=>?_))<;>(try simp (disch:=omega) only [zhb] at hc)<;>(try (exfalso;omega))<;>(try subst hc))|(with_reducible refine ji (by omega) ?_)|(simp (config := { maxSteps := 400000 }) only [↓jt,↓reduceIte,zvs,reduceCtorEq,Nat.reduceEqDiff,Nat.reduceAdd,Nat.reduceLeDiff,Nat.reduceMul,Int.reduceBNe,Int.reduceBEq,Int.reduceEq,Int.reduceNe,Int.reduceLT,Int.reduceLE,Int.reduceGT,Int.reduceGE,Int.reduceNeg,Int.reduceToNat,Nat.reduceLT,Nat.reduceSub,tab,encWr,hvl,hset,Try.results55,List.toList_toArray])|(simp (disch:=omega) only [ziw]))
    all_goals first
      | (exfalso; omega)
      | (refine xl1 (k + 1) ?_ (by show k + 1 ≤ m.dirty.length; omega) (by show m.dirty.length - (k + 1) < m.dirty.length - k; omega); (refine yrn [(0, 0), (2, 2)] false ?_ ?_<;>(repeat' (first|(with_reducible first|exact ya1|exact ya2|exact ya3|refine jx rfl (by first|rfl|assumption|(simp only [znl,znNV];(first|done|fail)))|exact ya5|exact ya7|exact jy|exact jz|refine jA ?_|refine ya9 ?_ ?_ ?_|refine jC rfl (by first|rfl|assumption|(simp only [znl,znNV];(first|done|fail)))|refine MR.agg (MRL.cons ?_ ?_)|refine MR.fn ?_|refine MRL.cons ?_ ?_|exact MRL.nil|refine jE ?_ ?_|exact jF|exact jG|refine yb1 ?_ ?_|refine MB.row ?_|refine jI ?_ ?_|exact ya8|refine jJ rfl (by first|rfl|assumption|(simp only [znl,znNV];(first|done|fail)))|refine yb2 ?_|rfl)|(simp only [znl,znNV];(first|done|fail))|(simp only [↓reduceIte,zlk,Nat.reduceEqDiff,reduceCtorEq])|(with_reducible first|refine jJ ?_ ?_|refine ya5 ?_|refine ju ?_|refine jv ?_|refine jw ?_|refine jx ?_ (by first|rfl|assumption|(simp only [znl,znNV];(first|done|fail)))|refine jC ?_ (by first|rfl|assumption|(simp only [znl,znNV];(first|done|fail))))))); all_goals (first | rfl | omega | (rw [e1]; done)))
      | trace_state
  obtain rfl : k = m.dirty.length := by omega
  rw [List.take_length] at *
  simp only [geoV] at hO
  repeat' (first|(with_reducible first|refine yrl (by constructor) ?_|refine jk (fun M hM=>?_)|(refine hM _ ?_;clear hM M)|refine xb3 (by decide) ?_|refine yqa (by assumption) ?_ ?_|refine yqb (by assumption) ?_ ?_)|((with_reducible refine je ?_)<;>(first|rfl|assumption|(simp only [znl,znNV];(first|done|fail))))|(with_reducible refine jf (by (simp only [↓reduceIte,zlk,Nat.reduceEqDiff,reduceCtorEq]);exact rfl) ?_)|((with_reducible first|refine jg (fun hc=>?_) (fun hc=>?_)|refine jh (fun hc=>?_) (fun hc=>?_))<;>(try simp (disch:=omega) only [zhb] at hc)<;>(try (exfalso;omega))<;>(try subst hc))|(with_reducible refine ji (by omega) ?_)|(simp (config := { maxSteps := 400000 }) only [↓jt,↓reduceIte,zvs,reduceCtorEq,Nat.reduceEqDiff,Nat.reduceAdd,Nat.reduceLeDiff,Nat.reduceMul,Int.reduceBNe,Int.reduceBEq,Int.reduceEq,Int.reduceNe,Int.reduceLT,Int.reduceLE,Int.reduceGT,Int.reduceGE,Int.reduceNeg,Int.reduceToNat,Nat.reduceLT,Nat.reduceSub,tab,List.take_length,Try.results55,List.toList_toArray])|(simp (disch:=omega) only [ziw]))
  all_goals (try (exfalso; omega))
  refine ja (call_plain (hO) (by repeat (first | exact rdl_nil | refine rdl_cons ?_ ?_ | exact Rd.refl _ _ (by first|rfl|assumption|(simp only [znl,znNV];(first|done|fail))) | (refine rd_own (by (simp only [↓reduceIte,zlk,Nat.reduceEqDiff,reduceCtorEq]); exact rfl) (by first | rfl | (simp; done) | (simp; omega)) rfl (by first|rfl|assumption|(simp only [znl,znNV];(first|done|fail)))) | exact rd_nil | refine (rd_a _ _ _).mpr ?_)) rfl rfl ?_)
  repeat' (first|(with_reducible first|refine yrl (by constructor) ?_|refine jk (fun M hM=>?_)|(refine hM _ ?_;clear hM M)|refine xb3 (by decide) ?_|refine yqa (by assumption) ?_ ?_|refine yqb (by assumption) ?_ ?_)|((with_reducible refine je ?_)<;>(first|rfl|assumption|(simp only [znl,znNV];(first|done|fail))))|(with_reducible refine jf (by (simp only [↓reduceIte,zlk,Nat.reduceEqDiff,reduceCtorEq]);exact rfl) ?_)|((with_reducible first|refine jg (fun hc=>?_) (fun hc=>?_)|refine jh (fun hc=>?_) (fun hc=>?_))<;>(try simp (disch:=omega) only [zhb] at hc)<;>(try (exfalso;omega))<;>(try subst hc))|(with_reducible refine ji (by omega) ?_)|(simp (config := { maxSteps := 400000 }) only [↓jt,↓reduceIte,zvs,reduceCtorEq,Nat.reduceEqDiff,Nat.reduceAdd,Nat.reduceLeDiff,Nat.reduceMul,Int.reduceBNe,Int.reduceBEq,Int.reduceEq,Int.reduceNe,Int.reduceLT,Int.reduceLE,Int.reduceGT,Int.reduceGE,Int.reduceNeg,Int.reduceToNat,Nat.reduceLT,Nat.reduceSub,tab,Try.results55,List.toList_toArray])|(simp (disch:=omega) only [ziw]))
  all_goals first
    | (exfalso; omega)
    | (simp only [zrds]; done)
    | trace_state
end Go.Proofs.Ytlgldkjjbbbapaa.V
end
section
/-
  MACHINES, part 29: the program's own test of a machine that may be.
-/
set_option linter.unusedVariables false
set_option linter.unusedSimpArgs false
namespace Go.Proofs.Ytlgldkjjbbbapaa.V
open Go
set_option maxRecDepth 100000
set_option linter.defProp false in
def znNW := And.intro @jO <| And.intro @jP <| And.intro @jQ <| And.intro @jR <| And.intro @jS <| And.intro @jT <| And.intro @jU <| True.intro
set_option maxHeartbeats 4000000
theorem tabF : SH Try.prog 52 = some .cell ∧ ZE Try.prog 52 = some (.raw .nilFunc) ∧ BY Try.prog 52 = 8 := ⟨by kernel_rfl, by kernel_rfl, by kernel_rfl⟩
theorem scheck_ok (m : Mach) (hm : MFit 20000 m) (h : chkM m = 0) : Spec Try.prog 24 [encM m] (.int .i64 0) := by
  obtain ⟨h1, h2, h3, h4, h5, h6, h7, h8, h9, h10⟩ := chk_parts h
  have c1 := numbers_ok m h1
  have c2 := frames_ok m h2 h3
  have c3 := procs_ok m hm h4 h5
  have c4 := spipes_ok m hm h6 h7
  have c5 := texts_ok m ⟨h8, h9⟩
  have c6 := volume_ok m hm h10
  have z0 : ((0 : Nat) : Int) = 0 := rfl
  have z1 : ((1 : Nat) : Int) = 1 := rfl
  have z2 : ((2 : Nat) : Int) = 2 := rfl
  have z3 : ((3 : Nat) : Int) = 3 := rfl
  have z4 : ((4 : Nat) : Int) = 4 := rfl
  have z5 : ((5 : Nat) : Int) = 5 := rfl
  have z6 : ((6 : Nat) : Int) = 6 := rfl
  have r6 : ∀ a : VV, List.replicate 6 a = [a, a, a, a, a, a] := fun _ => rfl
  refine spec_ok Try.func24 rfl rfl (by kernel_rfl) (k := 1) rfl (by decide) ?_
  repeat' (first|(with_reducible first|refine yrl (by constructor) ?_|refine jk (fun M hM=>?_)|(refine hM _ ?_;clear hM M)|refine xb3 (by decide) ?_|refine yqa (by assumption) ?_ ?_|refine yqb (by assumption) ?_ ?_)|((with_reducible refine je ?_)<;>(first|rfl|assumption|(simp only [znl,znNW];(first|done|fail))))|(with_reducible refine jf (by (simp only [↓reduceIte,zlk,Nat.reduceEqDiff,reduceCtorEq]);exact rfl) ?_)|((with_reducible first|refine jg (fun hc=>?_) (fun hc=>?_)|refine jh (fun hc=>?_) (fun hc=>?_))<;>(try simp (disch:=omega) only [zhb] at hc)<;>(try (exfalso;omega))<;>(try subst hc))|(with_reducible refine ji (by omega) ?_)|(simp (config := { maxSteps := 400000 }) only [↓jt,↓reduceIte,zvs,reduceCtorEq,Nat.reduceEqDiff,Nat.reduceAdd,Nat.reduceLeDiff,Nat.reduceMul,Int.reduceBNe,Int.reduceBEq,Int.reduceEq,Int.reduceNe,Int.reduceLT,Int.reduceLE,Int.reduceGT,Int.reduceGE,Int.reduceNeg,Int.reduceToNat,Nat.reduceLT,Nat.reduceSub,tab,tabF,r6,z6,Try.results24,List.toList_toArray])|(simp (disch:=omega) only [ziw]))
  refine ok_loop (fun k : Nat => ⟨slots [(1, .ptr 0 []), (6, .sl (some (1, [], 0)) 6), (7, .int .i64 6), (8, .int .i64 k)], rows [(0, .row machSh (encM m)), (1, .row (.arr 6 .cell) (.agg [.fn 50 [], .fn 51 [], .fn 52 [], .fn 53 [], .fn 54 [], .fn 55 []]))], 2⟩) (fun k => k ≤ 6) (fun k => 6 - k) 0 ?_ (Nat.zero_le _) (fun k hk => ?_)
  · (refine yrn [(0, 0), (1, 1)] false ?_ ?_<;>(repeat' (first|(with_reducible first|exact ya1|exact ya2|exact ya3|refine jx rfl (by first|rfl|assumption|(simp only [znl,znNW];(first|done|fail)))|exact ya5|exact ya7|exact jy|exact jz|refine jA ?_|refine ya9 ?_ ?_ ?_|refine jC rfl (by first|rfl|assumption|(simp only [znl,znNW];(first|done|fail)))|refine MR.agg (MRL.cons ?_ ?_)|refine MR.fn ?_|refine MRL.cons ?_ ?_|exact MRL.nil|refine jE ?_ ?_|exact jF|exact jG|refine yb1 ?_ ?_|refine MB.row ?_|refine jI ?_ ?_|exact ya8|refine jJ rfl (by first|rfl|assumption|(simp only [znl,znNW];(first|done|fail)))|refine yb2 ?_|rfl)|(simp only [znl,znNW];(first|done|fail))|(simp only [↓reduceIte,zlk,Nat.reduceEqDiff,reduceCtorEq])|(with_reducible first|refine jJ ?_ ?_|refine ya5 ?_|refine ju ?_|refine jv ?_|refine jw ?_|refine jx ?_ (by first|rfl|assumption|(simp only [znl,znNW];(first|done|fail)))|refine jC ?_ (by first|rfl|assumption|(simp only [znl,znNW];(first|done|fail)))))))
    all_goals (first | rfl | trace_state)
  by_cases hlt : k < 6
  · rcases (show k = 0 ∨ k = 1 ∨ k = 2 ∨ k = 3 ∨ k = 4 ∨ k = 5 by omega) with rfl | rfl | rfl | rfl | rfl | rfl
    all_goals
      repeat' (first|(with_reducible first|refine yrl (by constructor) ?_|refine jk (fun M hM=>?_)|(refine hM _ ?_;clear hM M)|refine xb3 (by decide) ?_|refine yqa (by assumption) ?_ ?_|refine yqb (by assumption) ?_ ?_)|((with_reducible refine je ?_)<;>(first|rfl|assumption|(simp only [znl,znNW];(first|done|fail))))|(with_reducible refine jf (by (simp only [↓reduceIte,zlk,Nat.reduceEqDiff,reduceCtorEq]);exact rfl) ?_)|((with_reducible first|refine jg (fun hc=>?_) (fun hc=>?_)|refine jh (fun hc=>?_) (fun hc=>?_))<;>(try simp (disch:=omega) only [zhb] at hc)<;>(try (exfalso;omega))<;>(try subst hc))|(with_reducible refine ji (by omega) ?_)|(simp (config := { maxSteps := 400000 }) only [↓jt,↓reduceIte,zvs,reduceCtorEq,Nat.reduceEqDiff,Nat.reduceAdd,Nat.reduceLeDiff,Nat.reduceMul,Int.reduceBNe,Int.reduceBEq,Int.reduceEq,Int.reduceNe,Int.reduceLT,Int.reduceLE,Int.reduceGT,Int.reduceGE,Int.reduceNeg,Int.reduceToNat,Nat.reduceLT,Nat.reduceSub,tab,tabF,z0,z1,z2,z3,z4,z5,Try.results24,List.toList_toArray])|(simp (disch:=omega) only [ziw]))
    · refine xl1 1 ?_ (by show 1 ≤ 6; omega) (by show 6 - 1 < 6 - 0; omega)
      (refine yrn [(0, 0), (1, 1)] false ?_ ?_<;>(repeat' (first|(with_reducible first|exact ya1|exact ya2|exact ya3|refine jx rfl (by first|rfl|assumption|(simp only [znl,znNW];(first|done|fail)))|exact ya5|exact ya7|exact jy|exact jz|refine jA ?_|refine ya9 ?_ ?_ ?_|refine jC rfl (by first|rfl|assumption|(simp only [znl,znNW];(first|done|fail)))|refine MR.agg (MRL.cons ?_ ?_)|refine MR.fn ?_|refine MRL.cons ?_ ?_|exact MRL.nil|refine jE ?_ ?_|exact jF|exact jG|refine yb1 ?_ ?_|refine MB.row ?_|refine jI ?_ ?_|exact ya8|refine jJ rfl (by first|rfl|assumption|(simp only [znl,znNW];(first|done|fail)))|refine yb2 ?_|rfl)|(simp only [znl,znNW];(first|done|fail))|(simp only [↓reduceIte,zlk,Nat.reduceEqDiff,reduceCtorEq])|(with_reducible first|refine jJ ?_ ?_|refine ya5 ?_|refine ju ?_|refine jv ?_|refine jw ?_|refine jx ?_ (by first|rfl|assumption|(simp only [znl,znNW];(first|done|fail)))|refine jC ?_ (by first|rfl|assumption|(simp only [znl,znNW];(first|done|fail)))))))
      all_goals trace_state
    · refine xl1 2 ?_ (by show 2 ≤ 6; omega) (by show 6 - 2 < 6 - 1; omega)
      (refine yrn [(0, 0), (1, 1)] false ?_ ?_<;>(repeat' (first|(with_reducible first|exact ya1|exact ya2|exact ya3|refine jx rfl (by first|rfl|assumption|(simp only [znl,znNW];(first|done|fail)))|exact ya5|exact ya7|exact jy|exact jz|refine jA ?_|refine ya9 ?_ ?_ ?_|refine jC rfl (by first|rfl|assumption|(simp only [znl,znNW];(first|done|fail)))|refine MR.agg (MRL.cons ?_ ?_)|refine MR.fn ?_|refine MRL.cons ?_ ?_|exact MRL.nil|refine jE ?_ ?_|exact jF|exact jG|refine yb1 ?_ ?_|refine MB.row ?_|refine jI ?_ ?_|exact ya8|refine jJ rfl (by first|rfl|assumption|(simp only [znl,znNW];(first|done|fail)))|refine yb2 ?_|rfl)|(simp only [znl,znNW];(first|done|fail))|(simp only [↓reduceIte,zlk,Nat.reduceEqDiff,reduceCtorEq])|(with_reducible first|refine jJ ?_ ?_|refine ya5 ?_|refine ju ?_|refine jv ?_|refine jw ?_|refine jx ?_ (by first|rfl|assumption|(simp only [znl,znNW];(first|done|fail)))|refine jC ?_ (by first|rfl|assumption|(simp only [znl,znNW];(first|done|fail)))))))
    · refine xl1 3 ?_ (by show 3 ≤ 6; omega) (by show 6 - 3 < 6 - 2; omega)
      (refine yrn [(0, 0), (1, 1)] false ?_ ?_<;>(repeat' (first|(with_reducible first|exact ya1|exact ya2|exact ya3|refine jx rfl (by first|rfl|assumption|(simp only [znl,znNW];(first|done|fail)))|exact ya5|exact ya7|exact jy|exact jz|refine jA ?_|refine ya9 ?_ ?_ ?_|refine jC rfl (by first|rfl|assumption|(simp only [znl,znNW];(first|done|fail)))|refine MR.agg (MRL.cons ?_ ?_)|refine MR.fn ?_|refine MRL.cons ?_ ?_|exact MRL.nil|refine jE ?_ ?_|exact jF|exact jG|refine yb1 ?_ ?_|refine MB.row ?_|refine jI ?_ ?_|exact ya8|refine jJ rfl (by first|rfl|assumption|(simp only [znl,znNW];(first|done|fail)))|refine yb2 ?_|rfl)|(simp only [znl,znNW];(first|done|fail))|(simp only [↓reduceIte,zlk,Nat.reduceEqDiff,reduceCtorEq])|(with_reducible first|refine jJ ?_ ?_|refine ya5 ?_|refine ju ?_|refine jv ?_|refine jw ?_|refine jx ?_ (by first|rfl|assumption|(simp only [znl,znNW];(first|done|fail)))|refine jC ?_ (by first|rfl|assumption|(simp only [znl,znNW];(first|done|fail)))))))
    · refine xl1 4 ?_ (by show 4 ≤ 6; omega) (by show 6 - 4 < 6 - 3; omega)
      (refine yrn [(0, 0), (1, 1)] false ?_ ?_<;>(repeat' (first|(with_reducible first|exact ya1|exact ya2|exact ya3|refine jx rfl (by first|rfl|assumption|(simp only [znl,znNW];(first|done|fail)))|exact ya5|exact ya7|exact jy|exact jz|refine jA ?_|refine ya9 ?_ ?_ ?_|refine jC rfl (by first|rfl|assumption|(simp only [znl,znNW];(first|done|fail)))|refine MR.agg (MRL.cons ?_ ?_)|refine MR.fn ?_|refine MRL.cons ?_ ?_|exact MRL.nil|refine jE ?_ ?_|exact jF|exact jG|refine yb1 ?_ ?_|refine MB.row ?_|refine jI ?_ ?_|exact ya8|refine jJ rfl (by first|rfl|assumption|(simp only [znl,znNW];(first|done|fail)))|refine yb2 ?_|rfl)|(simp only [znl,znNW];(first|done|fail))|(simp only [↓reduceIte,zlk,Nat.reduceEqDiff,reduceCtorEq])|(with_reducible first|refine jJ ?_ ?_|refine ya5 ?_|refine ju ?_|refine jv ?_|refine jw ?_|refine jx ?_ (by first|rfl|assumption|(simp only [znl,znNW];(first|done|fail)))|refine jC ?_ (by first|rfl|assumption|(simp only [znl,znNW];(first|done|fail)))))))
    · refine xl1 5 ?_ (by show 5 ≤ 6; omega) (by show 6 - 5 < 6 - 4; omega)
      (refine yrn [(0, 0), (1, 1)] false ?_ ?_<;>(repeat' (first|(with_reducible first|exact ya1|exact ya2|exact ya3|refine jx rfl (by first|rfl|assumption|(simp only [znl,znNW];(first|done|fail)))|exact ya5|exact ya7|exact jy|exact jz|refine jA ?_|refine ya9 ?_ ?_ ?_|refine jC rfl (by first|rfl|assumption|(simp only [znl,znNW];(first|done|fail)))|refine MR.agg (MRL.cons ?_ ?_)|refine MR.fn ?_|refine MRL.cons ?_ ?_|exact MRL.nil|refine jE ?_ ?_|exact jF|exact jG|refine yb1 ?_ ?_|refine MB.row ?_|refine jI ?_ ?_|exact ya8|refine jJ rfl (by first|rfl|assumption|(simp only [znl,znNW];(first|done|fail)))|refine yb2 ?_|rfl)|(simp only [znl,znNW];(first|done|fail))|(simp only [↓reduceIte,zlk,Nat.reduceEqDiff,reduceCtorEq])|(with_reducible first|refine jJ ?_ ?_|refine ya5 ?_|refine ju ?_|refine jv ?_|refine jw ?_|refine jx ?_ (by first|rfl|assumption|(simp only [znl,znNW];(first|done|fail)))|refine jC ?_ (by first|rfl|assumption|(simp only [znl,znNW];(first|done|fail)))))))
    · refine xl1 6 ?_ (by show 6 ≤ 6; omega) (by show 6 - 6 < 6 - 5; omega)
      (refine yrn [(0, 0), (1, 1)] false ?_ ?_<;>(repeat' (first|(with_reducible first|exact ya1|exact ya2|exact ya3|refine jx rfl (by first|rfl|assumption|(simp only [znl,znNW];(first|done|fail)))|exact ya5|exact ya7|exact jy|exact jz|refine jA ?_|refine ya9 ?_ ?_ ?_|refine jC rfl (by first|rfl|assumption|(simp only [znl,znNW];(first|done|fail)))|refine MR.agg (MRL.cons ?_ ?_)|refine MR.fn ?_|refine MRL.cons ?_ ?_|exact MRL.nil|refine jE ?_ ?_|exact jF|exact jG|refine yb1 ?_ ?_|refine MB.row ?_|refine jI ?_ ?_|exact ya8|refine jJ rfl (by first|rfl|assumption|(simp only [znl,znNW];(first|done|fail)))|refine yb2 ?_|rfl)|(simp only [znl,znNW];(first|done|fail))|(simp only [↓reduceIte,zlk,Nat.reduceEqDiff,reduceCtorEq])|(with_reducible first|refine jJ ?_ ?_|refine ya5 ?_|refine ju ?_|refine jv ?_|refine jw ?_|refine jx ?_ (by first|rfl|assumption|(simp only [znl,znNW];(first|done|fail)))|refine jC ?_ (by first|rfl|assumption|(simp only [znl,znNW];(first|done|fail)))))))
  · obtain rfl : k = 6 := by omega
    repeat' (first|(with_reducible first|refine yrl (by constructor) ?_|refine jk (fun M hM=>?_)|(refine hM _ ?_;clear hM M)|refine xb3 (by decide) ?_|refine yqa (by assumption) ?_ ?_|refine yqb (by assumption) ?_ ?_)|((with_reducible refine je ?_)<;>(first|rfl|assumption|(simp only [znl,znNW];(first|done|fail))))|(with_reducible refine jf (by (simp only [↓reduceIte,zlk,Nat.reduceEqDiff,reduceCtorEq]);exact rfl) ?_)|((with_reducible first|refine jg (fun hc=>?_) (fun hc=>?_)|refine jh (fun hc=>?_) (fun hc=>?_))<;>(try simp (disch:=omega) only [zhb] at hc)<;>(try (exfalso;omega))<;>(try subst hc))|(with_reducible refine ji (by omega) ?_)|(simp (config := { maxSteps := 400000 }) only [↓jt,↓reduceIte,zvs,reduceCtorEq,Nat.reduceEqDiff,Nat.reduceAdd,Nat.reduceLeDiff,Nat.reduceMul,Int.reduceBNe,Int.reduceBEq,Int.reduceEq,Int.reduceNe,Int.reduceLT,Int.reduceLE,Int.reduceGT,Int.reduceGE,Int.reduceNeg,Int.reduceToNat,Nat.reduceLT,Nat.reduceSub,tab,tabF,z6,Try.results24,List.toList_toArray])|(simp (disch:=omega) only [ziw]))
    all_goals first
      | (exfalso; omega)
      | (simp only [zrds]; done)
      | trace_state
end Go.Proofs.Ytlgldkjjbbbapaa.V
end
section
/-
  MACHINES, part 19: a machine is the same as itself.
-/
set_option linter.unusedVariables false
set_option linter.unusedSimpArgs false
namespace Go.Proofs.Ytlgldkjjbbbapaa.V
open Go
set_option maxRecDepth 100000
set_option linter.defProp false in
def znNJ := And.intro @jO <| And.intro @jP <| And.intro @jQ <| And.intro @jR <| And.intro @jS <| And.intro @jT <| And.intro @jU <| True.intro
set_option maxHeartbeats 4000000
theorem strs_same (l : Frames) (hl : l.length ≤ 20000) : Spec Try.prog 70 [encStrs l, encStrs l] (.bool true) := by
  have hbs : ∀ a : List UInt8, (a != a) = false := fun a => bne_self_eq_false a
  refine spec_ok Try.func70 rfl rfl (by kernel_rfl) (k := 2) rfl (by decide) ?_
  repeat' (first|(with_reducible first|refine yrl (by constructor) ?_|refine jk (fun M hM=>?_)|(refine hM _ ?_;clear hM M)|refine xb3 (by decide) ?_|refine yqa (by assumption) ?_ ?_|refine yqb (by assumption) ?_ ?_)|((with_reducible refine je ?_)<;>(first|rfl|assumption|(simp only [znl,znNJ];(first|done|fail))))|(with_reducible refine jf (by (simp only [↓reduceIte,zlk,Nat.reduceEqDiff,reduceCtorEq]);exact rfl) ?_)|((with_reducible first|refine jg (fun hc=>?_) (fun hc=>?_)|refine jh (fun hc=>?_) (fun hc=>?_))<;>(try simp (disch:=omega) only [zhb] at hc)<;>(try (exfalso;omega))<;>(try subst hc))|(with_reducible refine ji (by omega) ?_)|(simp (config := { maxSteps := 400000 }) only [↓jt,↓reduceIte,zvs,reduceCtorEq,Nat.reduceEqDiff,Nat.reduceAdd,Nat.reduceLeDiff,Nat.reduceMul,Int.reduceBNe,Int.reduceBEq,Int.reduceEq,Int.reduceNe,Int.reduceLT,Int.reduceLE,Int.reduceGT,Int.reduceGE,Int.reduceNeg,Int.reduceToNat,Nat.reduceLT,Nat.reduceSub,tab,Try.results70,List.toList_toArray])|(simp (disch:=omega) only [ziw]))
  all_goals (try (exfalso; omega))
  refine ok_loop (fun k : Nat => ⟨slots [(0, encStrs l), (1, encStrs l), (12, .int .i64 l.length), (13, .int .i64 k)], rows [], 0⟩) (fun k => k ≤ l.length) (fun k => l.length - k) 0 ?_ (Nat.zero_le _) (fun k hk => ?_)
  · (refine yrn [] false ?_ ?_<;>(repeat' (first|(with_reducible first|exact ya1|exact ya2|exact ya3|refine jx rfl (by first|rfl|assumption|(simp only [znl,znNJ];(first|done|fail)))|exact ya5|exact ya7|exact jy|exact jz|refine jA ?_|refine ya9 ?_ ?_ ?_|refine jC rfl (by first|rfl|assumption|(simp only [znl,znNJ];(first|done|fail)))|refine MR.agg (MRL.cons ?_ ?_)|refine MR.fn ?_|refine MRL.cons ?_ ?_|exact MRL.nil|refine jE ?_ ?_|exact jF|exact jG|refine yb1 ?_ ?_|refine MB.row ?_|refine jI ?_ ?_|exact ya8|refine jJ rfl (by first|rfl|assumption|(simp only [znl,znNJ];(first|done|fail)))|refine yb2 ?_|rfl)|(simp only [znl,znNJ];(first|done|fail))|(simp only [↓reduceIte,zlk,Nat.reduceEqDiff,reduceCtorEq])|(with_reducible first|refine jJ ?_ ?_|refine ya5 ?_|refine ju ?_|refine jv ?_|refine jw ?_|refine jx ?_ (by first|rfl|assumption|(simp only [znl,znNJ];(first|done|fail)))|refine jC ?_ (by first|rfl|assumption|(simp only [znl,znNJ];(first|done|fail)))))))
    all_goals (first | rfl | trace_state)
  by_cases hlt : k < l.length
  · repeat' (first|(with_reducible first|refine yrl (by constructor) ?_|refine jk (fun M hM=>?_)|(refine hM _ ?_;clear hM M)|refine xb3 (by decide) ?_|refine yqa (by assumption) ?_ ?_|refine yqb (by assumption) ?_ ?_)|((with_reducible refine je ?_)<;>(first|rfl|assumption|(simp only [znl,znNJ];(first|done|fail))))|(with_reducible refine jf (by (simp only [↓reduceIte,zlk,Nat.reduceEqDiff,reduceCtorEq]);exact rfl) ?_)|((with_reducible first|refine jg (fun hc=>?_) (fun hc=>?_)|refine jh (fun hc=>?_) (fun hc=>?_))<;>(try simp (disch:=omega) only [zhb] at hc)<;>(try (exfalso;omega))<;>(try subst hc))|(with_reducible refine ji (by omega) ?_)|(simp (config := { maxSteps := 400000 }) only [↓jt,↓reduceIte,zvs,reduceCtorEq,Nat.reduceEqDiff,Nat.reduceAdd,Nat.reduceLeDiff,Nat.reduceMul,Int.reduceBNe,Int.reduceBEq,Int.reduceEq,Int.reduceNe,Int.reduceLT,Int.reduceLE,Int.reduceGT,Int.reduceGE,Int.reduceNeg,Int.reduceToNat,Nat.reduceLT,Nat.reduceSub,tab,hbs,Try.results70,List.toList_toArray])|(simp (disch:=omega) only [ziw]))
    refine ok_draw 8 (by kernel_rfl) (by decide +kernel) (by intro m hm; simp only [upd_ap,rows_cons,rows_nil]; (repeat (first | rfl | rw [if_neg (by omega)]))) (fun M hM => ?_); simp only [List.take_succ_cons,List.take_zero,List.drop_succ_cons,List.drop_zero]
    repeat' (first|(with_reducible first|refine yrl (by constructor) ?_|refine jk (fun M hM=>?_)|(refine hM _ ?_;clear hM M)|refine xb3 (by decide) ?_|refine yqa (by assumption) ?_ ?_|refine yqb (by assumption) ?_ ?_)|((with_reducible refine je ?_)<;>(first|rfl|assumption|(simp only [znl,znNJ];(first|done|fail))))|(with_reducible refine jf (by (simp only [↓reduceIte,zlk,Nat.reduceEqDiff,reduceCtorEq]);exact rfl) ?_)|((with_reducible first|refine jg (fun hc=>?_) (fun hc=>?_)|refine jh (fun hc=>?_) (fun hc=>?_))<;>(try simp (disch:=omega) only [zhb] at hc)<;>(try (exfalso;omega))<;>(try subst hc))|(with_reducible refine ji (by omega) ?_)|(simp (config := { maxSteps := 400000 }) only [↓jt,↓reduceIte,zvs,reduceCtorEq,Nat.reduceEqDiff,Nat.reduceAdd,Nat.reduceLeDiff,Nat.reduceMul,Int.reduceBNe,Int.reduceBEq,Int.reduceEq,Int.reduceNe,Int.reduceLT,Int.reduceLE,Int.reduceGT,Int.reduceGE,Int.reduceNeg,Int.reduceToNat,Nat.reduceLT,Nat.reduceSub,tab,hbs,Try.results70,List.toList_toArray])|(simp (disch:=omega) only [ziw]))
    all_goals first
      | (exfalso; omega)
      | (exfalso; simp_all; done)
      | (refine xl1 (k + 1) ?_ (by show k + 1 ≤ l.length; omega) (by show l.length - (k + 1) < l.length - k; omega); (refine yrn [] false ?_ ?_<;>(repeat' (first|(with_reducible first|exact ya1|exact ya2|exact ya3|refine jx rfl (by first|rfl|assumption|(simp only [znl,znNJ];(first|done|fail)))|exact ya5|exact ya7|exact jy|exact jz|refine jA ?_|refine ya9 ?_ ?_ ?_|refine jC rfl (by first|rfl|assumption|(simp only [znl,znNJ];(first|done|fail)))|refine MR.agg (MRL.cons ?_ ?_)|refine MR.fn ?_|refine MRL.cons ?_ ?_|exact MRL.nil|refine jE ?_ ?_|exact jF|exact jG|refine yb1 ?_ ?_|refine MB.row ?_|refine jI ?_ ?_|exact ya8|refine jJ rfl (by first|rfl|assumption|(simp only [znl,znNJ];(first|done|fail)))|refine yb2 ?_|rfl)|(simp only [znl,znNJ];(first|done|fail))|(simp only [↓reduceIte,zlk,Nat.reduceEqDiff,reduceCtorEq])|(with_reducible first|refine jJ ?_ ?_|refine ya5 ?_|refine ju ?_|refine jv ?_|refine jw ?_|refine jx ?_ (by first|rfl|assumption|(simp only [znl,znNJ];(first|done|fail)))|refine jC ?_ (by first|rfl|assumption|(simp only [znl,znNJ];(first|done|fail))))))); done)
      | trace_state
  · obtain rfl : k = l.length := by omega
    repeat' (first|(with_reducible first|refine yrl (by constructor) ?_|refine jk (fun M hM=>?_)|(refine hM _ ?_;clear hM M)|refine xb3 (by decide) ?_|refine yqa (by assumption) ?_ ?_|refine yqb (by assumption) ?_ ?_)|((with_reducible refine je ?_)<;>(first|rfl|assumption|(simp only [znl,znNJ];(first|done|fail))))|(with_reducible refine jf (by (simp only [↓reduceIte,zlk,Nat.reduceEqDiff,reduceCtorEq]);exact rfl) ?_)|((with_reducible first|refine jg (fun hc=>?_) (fun hc=>?_)|refine jh (fun hc=>?_) (fun hc=>?_))<;>(try simp (disch:=omega) only [zhb] at hc)<;>(try (exfalso;omega))<;>(try subst hc))|(with_reducible refine ji (by omega) ?_)|(simp (config := { maxSteps := 400000 }) only [↓jt,↓reduceIte,zvs,reduceCtorEq,Nat.reduceEqDiff,Nat.reduceAdd,Nat.reduceLeDiff,Nat.reduceMul,Int.reduceBNe,Int.reduceBEq,Int.reduceEq,Int.reduceNe,Int.reduceLT,Int.reduceLE,Int.reduceGT,Int.reduceGE,Int.reduceNeg,Int.reduceToNat,Nat.reduceLT,Nat.reduceSub,tab,Try.results70,List.toList_toArray])|(simp (disch:=omega) only [ziw]))
    all_goals first
      | (exfalso; omega)
      | (simp only [zrds]; done)
      | trace_state
theorem fit_pi (a : Int) (s : List UInt8) : Fit (EQ.st [EQ.int .i64, EQ.str]) (.agg [.int .i64 a, .str s]) := by simp [Fit, FitL]
theorem pipes_same (l : List Pip) (hl : l.length ≤ 20000) : Spec Try.prog 71 [encPis l, encPis l] (.bool true) := by
  have hv : ∀ (a : Int) (s : List UInt8), veq (.agg [.int .i64 a, .str s]) (.agg [.int .i64 a, .str s]) = true := fun a s => by simp [veq, veqs]
  refine spec_ok Try.func71 rfl rfl (by kernel_rfl) (k := 2) rfl (by decide) ?_
  repeat' (first|(with_reducible first|refine yrl (by constructor) ?_|refine jk (fun M hM=>?_)|(refine hM _ ?_;clear hM M)|refine xb3 (by decide) ?_|refine yqa (by assumption) ?_ ?_|refine yqb (by assumption) ?_ ?_)|((with_reducible refine je ?_)<;>(first|rfl|assumption|(simp only [znl,znNJ];(first|done|fail))))|(with_reducible refine jf (by (simp only [↓reduceIte,zlk,Nat.reduceEqDiff,reduceCtorEq]);exact rfl) ?_)|((with_reducible first|refine jg (fun hc=>?_) (fun hc=>?_)|refine jh (fun hc=>?_) (fun hc=>?_))<;>(try simp (disch:=omega) only [zhb] at hc)<;>(try (exfalso;omega))<;>(try subst hc))|(with_reducible refine ji (by omega) ?_)|(simp (config := { maxSteps := 400000 }) only [↓jt,↓reduceIte,zvs,reduceCtorEq,Nat.reduceEqDiff,Nat.reduceAdd,Nat.reduceLeDiff,Nat.reduceMul,Int.reduceBNe,Int.reduceBEq,Int.reduceEq,Int.reduceNe,Int.reduceLT,Int.reduceLE,Int.reduceGT,Int.reduceGE,Int.reduceNeg,Int.reduceToNat,Nat.reduceLT,Nat.reduceSub,tab,Try.results71,List.toList_toArray])|(simp (disch:=omega) only [ziw]))
  all_goals (try (exfalso; omega))
  refine ok_loop (fun k : Nat => ⟨slots [(0, encPis l), (1, encPis l), (12, .int .i64 l.length), (13, .int .i64 k)], rows [], 0⟩) (fun k => k ≤ l.length) (fun k => l.length - k) 0 ?_ (Nat.zero_le _) (fun k hk => ?_)
  · (refine yrn [] false ?_ ?_<;>(repeat' (first|(with_reducible first|exact ya1|exact ya2|exact ya3|refine jx rfl (by first|rfl|assumption|(simp only [znl,znNJ];(first|done|fail)))|exact ya5|exact ya7|exact jy|exact jz|refine jA ?_|refine ya9 ?_ ?_ ?_|refine jC rfl (by first|rfl|assumption|(simp only [znl,znNJ];(first|done|fail)))|refine MR.agg (MRL.cons ?_ ?_)|refine MR.fn ?_|refine MRL.cons ?_ ?_|exact MRL.nil|refine jE ?_ ?_|exact jF|exact jG|refine yb1 ?_ ?_|refine MB.row ?_|refine jI ?_ ?_|exact ya8|refine jJ rfl (by first|rfl|assumption|(simp only [znl,znNJ];(first|done|fail)))|refine yb2 ?_|rfl)|(simp only [znl,znNJ];(first|done|fail))|(simp only [↓reduceIte,zlk,Nat.reduceEqDiff,reduceCtorEq])|(with_reducible first|refine jJ ?_ ?_|refine ya5 ?_|refine ju ?_|refine jv ?_|refine jw ?_|refine jx ?_ (by first|rfl|assumption|(simp only [znl,znNJ];(first|done|fail)))|refine jC ?_ (by first|rfl|assumption|(simp only [znl,znNJ];(first|done|fail)))))))
    all_goals (first | rfl | trace_state)
  by_cases hlt : k < l.length
  · repeat' (first|(with_reducible first|refine yrl (by constructor) ?_|refine jk (fun M hM=>?_)|(refine hM _ ?_;clear hM M)|refine xb3 (by decide) ?_|refine yqa (by assumption) ?_ ?_|refine yqb (by assumption) ?_ ?_)|((with_reducible refine je ?_)<;>(first|rfl|assumption|(simp only [znl,znNJ];(first|done|fail))))|(with_reducible refine jf (by (simp only [↓reduceIte,zlk,Nat.reduceEqDiff,reduceCtorEq]);exact rfl) ?_)|((with_reducible first|refine jg (fun hc=>?_) (fun hc=>?_)|refine jh (fun hc=>?_) (fun hc=>?_))<;>(try simp (disch:=omega) only [zhb] at hc)<;>(try (exfalso;omega))<;>(try subst hc))|(with_reducible refine ji (by omega) ?_)|(simp (config := { maxSteps := 400000 }) only [↓jt,↓reduceIte,zvs,reduceCtorEq,Nat.reduceEqDiff,Nat.reduceAdd,Nat.reduceLeDiff,Nat.reduceMul,Int.reduceBNe,Int.reduceBEq,Int.reduceEq,Int.reduceNe,Int.reduceLT,Int.reduceLE,Int.reduceGT,Int.reduceGE,Int.reduceNeg,Int.reduceToNat,Nat.reduceLT,Nat.reduceSub,tab,encPi,fit_pi,hv,Try.results71,List.toList_toArray])|(simp (disch:=omega) only [ziw]))
    refine ok_draw 8 (by kernel_rfl) (by decide +kernel) (by intro m hm; simp only [upd_ap,rows_cons,rows_nil]; (repeat (first | rfl | rw [if_neg (by omega)]))) (fun M hM => ?_); simp only [List.take_succ_cons,List.take_zero,List.drop_succ_cons,List.drop_zero]
    repeat' (first|(with_reducible first|refine yrl (by constructor) ?_|refine jk (fun M hM=>?_)|(refine hM _ ?_;clear hM M)|refine xb3 (by decide) ?_|refine yqa (by assumption) ?_ ?_|refine yqb (by assumption) ?_ ?_)|((with_reducible refine je ?_)<;>(first|rfl|assumption|(simp only [znl,znNJ];(first|done|fail))))|(with_reducible refine jf (by (simp only [↓reduceIte,zlk,Nat.reduceEqDiff,reduceCtorEq]);exact rfl) ?_)|((with_reducible first|refine jg (fun hc=>?_) (fun hc=>?_)|refine jh (fun hc=>?_) (fun hc=>?_))<;>(try simp (disch:=omega) only [zhb] at hc)<;>(try (exfalso;omega))<;>(try subst hc))|(with_reducible refine ji (by omega) ?_)|(simp (config := { maxSteps := 400000 }) only [↓jt,↓reduceIte,zvs,reduceCtorEq,Nat.reduceEqDiff,Nat.reduceAdd,Nat.reduceLeDiff,Nat.reduceMul,Int.reduceBNe,Int.reduceBEq,Int.reduceEq,Int.reduceNe,Int.reduceLT,Int.reduceLE,Int.reduceGT,Int.reduceGE,Int.reduceNeg,Int.reduceToNat,Nat.reduceLT,Nat.reduceSub,tab,encPi,fit_pi,hv,Try.results71,List.toList_toArray])|(simp (disch:=omega) only [ziw]))
    all_goals first
      | (exfalso; omega)
      | (exfalso; simp_all; done)
      | (refine xl1 (k + 1) ?_ (by show k + 1 ≤ l.length; omega) (by show l.length - (k + 1) < l.length - k; omega); (refine yrn [] false ?_ ?_<;>(repeat' (first|(with_reducible first|exact ya1|exact ya2|exact ya3|refine jx rfl (by first|rfl|assumption|(simp only [znl,znNJ];(first|done|fail)))|exact ya5|exact ya7|exact jy|exact jz|refine jA ?_|refine ya9 ?_ ?_ ?_|refine jC rfl (by first|rfl|assumption|(simp only [znl,znNJ];(first|done|fail)))|refine MR.agg (MRL.cons ?_ ?_)|refine MR.fn ?_|refine MRL.cons ?_ ?_|exact MRL.nil|refine jE ?_ ?_|exact jF|exact jG|refine yb1 ?_ ?_|refine MB.row ?_|refine jI ?_ ?_|exact ya8|refine jJ rfl (by first|rfl|assumption|(simp only [znl,znNJ];(first|done|fail)))|refine yb2 ?_|rfl)|(simp only [znl,znNJ];(first|done|fail))|(simp only [↓reduceIte,zlk,Nat.reduceEqDiff,reduceCtorEq])|(with_reducible first|refine jJ ?_ ?_|refine ya5 ?_|refine ju ?_|refine jv ?_|refine jw ?_|refine jx ?_ (by first|rfl|assumption|(simp only [znl,znNJ];(first|done|fail)))|refine jC ?_ (by first|rfl|assumption|(simp only [znl,znNJ];(first|done|fail))))))); done)
      | trace_state
  · obtain rfl : k = l.length := by omega
    repeat' (first|(with_reducible first|refine yrl (by constructor) ?_|refine jk (fun M hM=>?_)|(refine hM _ ?_;clear hM M)|refine xb3 (by decide) ?_|refine yqa (by assumption) ?_ ?_|refine yqb (by assumption) ?_ ?_)|((with_reducible refine je ?_)<;>(first|rfl|assumption|(simp only [znl,znNJ];(first|done|fail))))|(with_reducible refine jf (by (simp only [↓reduceIte,zlk,Nat.reduceEqDiff,reduceCtorEq]);exact rfl) ?_)|((with_reducible first|refine jg (fun hc=>?_) (fun hc=>?_)|refine jh (fun hc=>?_) (fun hc=>?_))<;>(try simp (disch:=omega) only [zhb] at hc)<;>(try (exfalso;omega))<;>(try subst hc))|(with_reducible refine ji (by omega) ?_)|(simp (config := { maxSteps := 400000 }) only [↓jt,↓reduceIte,zvs,reduceCtorEq,Nat.reduceEqDiff,Nat.reduceAdd,Nat.reduceLeDiff,Nat.reduceMul,Int.reduceBNe,Int.reduceBEq,Int.reduceEq,Int.reduceNe,Int.reduceLT,Int.reduceLE,Int.reduceGT,Int.reduceGE,Int.reduceNeg,Int.reduceToNat,Nat.reduceLT,Nat.reduceSub,tab,Try.results71,List.toList_toArray])|(simp (disch:=omega) only [ziw]))
    all_goals first
      | (exfalso; omega)
      | (simp only [zrds]; done)
      | trace_state
theorem veqs_map {α : Type} (f : α → VV) (h : ∀ x, veq (f x) (f x) = true) : ∀ l : List α, veqs (l.map f) (l.map f) = true
  | [] => by simp [veqs]
  | x :: l => by
    rw [List.map_cons, veqs, h x, veqs_map f h l]; rfl
theorem fit_pr {p : Pr} (h : PrR p) : Fit (EQ.st [EQ.int .i64, EQ.int .i64, EQ.int .i64, EQ.st [EQ.arr 16 (EQ.int .u32), EQ.int .u32], EQ.arr 16 (EQ.st [EQ.bool, EQ.bool, EQ.int .i64]), EQ.arr 8 (EQ.st [EQ.int .i64, EQ.int .i64, EQ.int .i64]), EQ.bool, EQ.int .u32, EQ.int .i64, EQ.int .u64]) (.agg [.int .i64 p.pid, .int .i64 p.par, .int .i64 p.st, .agg [.agg (p.rs.map (.int .u32)), .int .u32 p.pc], .agg (p.sp.map encPte), .agg (p.fds.map encFd), .bool p.mask, .int .u32 p.code, .int .i64 p.why, .int .u64 p.n]) := by
  simp only [Fit,FitL,List.length_map,List.mem_map,forall_exists_index,and_imp,forall_apply_eq_imp_iff₂,true_and,and_true]
  refine ⟨⟨h.rs, fun _ _ => trivial⟩, ⟨h.sp, fun x _ => ?_⟩, h.fds, fun x _ => ?_⟩
  · simp [encPte, Fit, FitL]
  · simp [encFd, Fit, FitL]
theorem veq_pr (p : Pr) : veq (.agg [.int .i64 p.pid, .int .i64 p.par, .int .i64 p.st, .agg [.agg (p.rs.map (.int .u32)), .int .u32 p.pc], .agg (p.sp.map encPte), .agg (p.fds.map encFd), .bool p.mask, .int .u32 p.code, .int .i64 p.why, .int .u64 p.n]) (.agg [.int .i64 p.pid, .int .i64 p.par, .int .i64 p.st, .agg [.agg (p.rs.map (.int .u32)), .int .u32 p.pc], .agg (p.sp.map encPte), .agg (p.fds.map encFd), .bool p.mask, .int .u32 p.code, .int .i64 p.why, .int .u64 p.n]) = true := by
  have h1 := veqs_map (fun x : Int => VV.int .u32 x) (fun x => by simp [veq]) p.rs
  have h2 := veqs_map encPte (fun x => by simp [encPte, veq, veqs]) p.sp
  have h3 := veqs_map encFd (fun x => by simp [encFd, veq, veqs]) p.fds
  simp only [veq,veqs,h1,h2,h3,BEq.rfl,Bool.and_self]
theorem same_spec (m : Mach) (hm : MFit 20000 m) : Spec Try.prog 40 [encM m, encM m] (.int .i64 1) := by
  have hA := strs_same m.fr hm.fr
  have hB := pipes_same m.pipes hm.pipes
  have hl := hm.pr
  have hpR := hm.prR
  have hd := hm.dirty
  have hbe : ∀ a : Int, (a != a) = false := fun a => bne_self_eq_false a
  have hbs : ∀ a : List UInt8, (a != a) = false := fun a => bne_self_eq_false a
  have hv : ∀ (a : Int) (s : List UInt8), veq (.agg [.int .i64 a, .str s]) (.agg [.int .i64 a, .str s]) = true := fun a s => by simp [veq, veqs]
  have hbb : ∀ a : Bool, (a != a) = false := fun a => by cases a <;> rfl
  refine spec_ok Try.func40 rfl rfl (by kernel_rfl) (k := 2) rfl (by decide) ?_
  repeat' (first|(with_reducible first|refine yrl (by constructor) ?_|refine jk (fun M hM=>?_)|(refine hM _ ?_;clear hM M)|refine xb3 (by decide) ?_|refine yqa (by assumption) ?_ ?_|refine yqb (by assumption) ?_ ?_)|((with_reducible refine je ?_)<;>(first|rfl|assumption|(simp only [znl,znNJ];(first|done|fail))))|(with_reducible refine jf (by (simp only [↓reduceIte,zlk,Nat.reduceEqDiff,reduceCtorEq]);exact rfl) ?_)|((with_reducible first|refine jg (fun hc=>?_) (fun hc=>?_)|refine jh (fun hc=>?_) (fun hc=>?_))<;>(try simp (disch:=omega) only [zhb] at hc)<;>(try (exfalso;omega))<;>(try subst hc))|(with_reducible refine ji (by omega) ?_)|(simp (config := { maxSteps := 400000 }) only [↓jt,↓reduceIte,zvs,reduceCtorEq,Nat.reduceEqDiff,Nat.reduceAdd,Nat.reduceLeDiff,Nat.reduceMul,Int.reduceBNe,Int.reduceBEq,Int.reduceEq,Int.reduceNe,Int.reduceLT,Int.reduceLE,Int.reduceGT,Int.reduceGE,Int.reduceNeg,Int.reduceToNat,Nat.reduceLT,Nat.reduceSub,tab,hbe,hbs,hbb,Try.results40,List.toList_toArray])|(simp (disch:=omega) only [ziw]))
  have hap : ∀ (a b : List Oper), a.append b = a ++ b := fun _ _ => rfl
  simp only [hap,List.cons_append,List.nil_append]
  repeat' (first|(with_reducible first|refine yrl (by constructor) ?_|refine jk (fun M hM=>?_)|(refine hM _ ?_;clear hM M)|refine xb3 (by decide) ?_|refine yqa (by assumption) ?_ ?_|refine yqb (by assumption) ?_ ?_)|((with_reducible refine je ?_)<;>(first|rfl|assumption|(simp only [znl,znNJ];(first|done|fail))))|(with_reducible refine jf (by (simp only [↓reduceIte,zlk,Nat.reduceEqDiff,reduceCtorEq]);exact rfl) ?_)|((with_reducible first|refine jg (fun hc=>?_) (fun hc=>?_)|refine jh (fun hc=>?_) (fun hc=>?_))<;>(try simp (disch:=omega) only [zhb] at hc)<;>(try (exfalso;omega))<;>(try subst hc))|(with_reducible refine ji (by omega) ?_)|(simp (config := { maxSteps := 400000 }) only [↓jt,↓reduceIte,zvs,reduceCtorEq,Nat.reduceEqDiff,Nat.reduceAdd,Nat.reduceLeDiff,Nat.reduceMul,Int.reduceBNe,Int.reduceBEq,Int.reduceEq,Int.reduceNe,Int.reduceLT,Int.reduceLE,Int.reduceGT,Int.reduceGE,Int.reduceNeg,Int.reduceToNat,Nat.reduceLT,Nat.reduceSub,tab,hbe,hbs,hbb,Try.results40,List.toList_toArray])|(simp (disch:=omega) only [ziw]))
  refine ok_loop (fun k : Nat => ⟨slots [(2, .ptr 0 []), (3, .ptr 1 []), (142, .int .i64 m.pr.length), (143, .int .i64 k)], rows [(0, .row machSh (encM m)), (1, .row machSh (encM m))], 2⟩) (fun k => k ≤ m.pr.length) (fun k => m.pr.length - k) 0 ?_ (Nat.zero_le _) (fun k hk => ?_)
  · (refine yrn [(0, 0), (1, 1)] false ?_ ?_<;>(repeat' (first|(with_reducible first|exact ya1|exact ya2|exact ya3|refine jx rfl (by first|rfl|assumption|(simp only [znl,znNJ];(first|done|fail)))|exact ya5|exact ya7|exact jy|exact jz|refine jA ?_|refine ya9 ?_ ?_ ?_|refine jC rfl (by first|rfl|assumption|(simp only [znl,znNJ];(first|done|fail)))|refine MR.agg (MRL.cons ?_ ?_)|refine MR.fn ?_|refine MRL.cons ?_ ?_|exact MRL.nil|refine jE ?_ ?_|exact jF|exact jG|refine yb1 ?_ ?_|refine MB.row ?_|refine jI ?_ ?_|exact ya8|refine jJ rfl (by first|rfl|assumption|(simp only [znl,znNJ];(first|done|fail)))|refine yb2 ?_|rfl)|(simp only [znl,znNJ];(first|done|fail))|(simp only [↓reduceIte,zlk,Nat.reduceEqDiff,reduceCtorEq])|(with_reducible first|refine jJ ?_ ?_|refine ya5 ?_|refine ju ?_|refine jv ?_|refine jw ?_|refine jx ?_ (by first|rfl|assumption|(simp only [znl,znNJ];(first|done|fail)))|refine jC ?_ (by first|rfl|assumption|(simp only [znl,znNJ];(first|done|fail)))))))
    all_goals (first | rfl | trace_state)
  by_cases hlt : k < m.pr.length
  · have hb := hpR _ (getD_mem' hlt)
    obtain ⟨hS1, hS2, hS3⟩ := pr3 hb
    have hf := fit_pr hb
    have hvp := veq_pr (m.pr.getD k default)
    repeat' (first|(with_reducible first|refine yrl (by constructor) ?_|refine jk (fun M hM=>?_)|(refine hM _ ?_;clear hM M)|refine xb3 (by decide) ?_|refine yqa (by assumption) ?_ ?_|refine yqb (by assumption) ?_ ?_)|((with_reducible refine je ?_)<;>(first|rfl|assumption|(simp only [znl,znNJ];(first|done|fail))))|(with_reducible refine jf (by (simp only [↓reduceIte,zlk,Nat.reduceEqDiff,reduceCtorEq]);exact rfl) ?_)|((with_reducible first|refine jg (fun hc=>?_) (fun hc=>?_)|refine jh (fun hc=>?_) (fun hc=>?_))<;>(try simp (disch:=omega) only [zhb] at hc)<;>(try (exfalso;omega))<;>(try subst hc))|(with_reducible refine ji (by omega) ?_)|(simp (config := { maxSteps := 400000 }) only [↓jt,↓reduceIte,zvs,reduceCtorEq,Nat.reduceEqDiff,Nat.reduceAdd,Nat.reduceLeDiff,Nat.reduceMul,Int.reduceBNe,Int.reduceBEq,Int.reduceEq,Int.reduceNe,Int.reduceLT,Int.reduceLE,Int.reduceGT,Int.reduceGE,Int.reduceNeg,Int.reduceToNat,Nat.reduceLT,Nat.reduceSub,tab,hS1,hS2,hS3,encPr,Try.results40,List.toList_toArray])|(simp (disch:=omega) only [ziw]))
    refine ok_draw 10 (by kernel_rfl) (by decide +kernel) (by intro m hm; simp only [upd_ap,rows_cons,rows_nil]; (repeat (first | rfl | rw [if_neg (by omega)]))) (fun M hM => ?_); simp only [List.take_succ_cons,List.take_zero,List.drop_succ_cons,List.drop_zero]
    repeat' (first|(with_reducible first|refine yrl (by constructor) ?_|refine jk (fun M hM=>?_)|(refine hM _ ?_;clear hM M)|refine xb3 (by decide) ?_|refine yqa (by assumption) ?_ ?_|refine yqb (by assumption) ?_ ?_)|((with_reducible refine je ?_)<;>(first|rfl|assumption|(simp only [znl,znNJ];(first|done|fail))))|(with_reducible refine jf (by (simp only [↓reduceIte,zlk,Nat.reduceEqDiff,reduceCtorEq]);exact rfl) ?_)|((with_reducible first|refine jg (fun hc=>?_) (fun hc=>?_)|refine jh (fun hc=>?_) (fun hc=>?_))<;>(try simp (disch:=omega) only [zhb] at hc)<;>(try (exfalso;omega))<;>(try subst hc))|(with_reducible refine ji (by omega) ?_)|(simp (config := { maxSteps := 400000 }) only [↓jt,↓reduceIte,zvs,reduceCtorEq,Nat.reduceEqDiff,Nat.reduceAdd,Nat.reduceLeDiff,Nat.reduceMul,Int.reduceBNe,Int.reduceBEq,Int.reduceEq,Int.reduceNe,Int.reduceLT,Int.reduceLE,Int.reduceGT,Int.reduceGE,Int.reduceNeg,Int.reduceToNat,Nat.reduceLT,Nat.reduceSub,tab,hS1,hS2,hS3,hf,hvp,encPr,Try.results40,List.toList_toArray])|(simp (disch:=omega) only [ziw]))
    all_goals first
      | (exfalso; omega)
      | (exfalso; simp_all; done)
      | (refine xl1 (k + 1) ?_ (by show k + 1 ≤ m.pr.length; omega) (by show m.pr.length - (k + 1) < m.pr.length - k; omega); (refine yrn [(0, 0), (1, 1)] false ?_ ?_<;>(repeat' (first|(with_reducible first|exact ya1|exact ya2|exact ya3|refine jx rfl (by first|rfl|assumption|(simp only [znl,znNJ];(first|done|fail)))|exact ya5|exact ya7|exact jy|exact jz|refine jA ?_|refine ya9 ?_ ?_ ?_|refine jC rfl (by first|rfl|assumption|(simp only [znl,znNJ];(first|done|fail)))|refine MR.agg (MRL.cons ?_ ?_)|refine MR.fn ?_|refine MRL.cons ?_ ?_|exact MRL.nil|refine jE ?_ ?_|exact jF|exact jG|refine yb1 ?_ ?_|refine MB.row ?_|refine jI ?_ ?_|exact ya8|refine jJ rfl (by first|rfl|assumption|(simp only [znl,znNJ];(first|done|fail)))|refine yb2 ?_|rfl)|(simp only [znl,znNJ];(first|done|fail))|(simp only [↓reduceIte,zlk,Nat.reduceEqDiff,reduceCtorEq])|(with_reducible first|refine jJ ?_ ?_|refine ya5 ?_|refine ju ?_|refine jv ?_|refine jw ?_|refine jx ?_ (by first|rfl|assumption|(simp only [znl,znNJ];(first|done|fail)))|refine jC ?_ (by first|rfl|assumption|(simp only [znl,znNJ];(first|done|fail))))))); done)
      | trace_state
  · obtain rfl : k = m.pr.length := by omega
    repeat' (first|(with_reducible first|refine yrl (by constructor) ?_|refine jk (fun M hM=>?_)|(refine hM _ ?_;clear hM M)|refine xb3 (by decide) ?_|refine yqa (by assumption) ?_ ?_|refine yqb (by assumption) ?_ ?_)|((with_reducible refine je ?_)<;>(first|rfl|assumption|(simp only [znl,znNJ];(first|done|fail))))|(with_reducible refine jf (by (simp only [↓reduceIte,zlk,Nat.reduceEqDiff,reduceCtorEq]);exact rfl) ?_)|((with_reducible first|refine jg (fun hc=>?_) (fun hc=>?_)|refine jh (fun hc=>?_) (fun hc=>?_))<;>(try simp (disch:=omega) only [zhb] at hc)<;>(try (exfalso;omega))<;>(try subst hc))|(with_reducible refine ji (by omega) ?_)|(simp (config := { maxSteps := 400000 }) only [↓jt,↓reduceIte,zvs,reduceCtorEq,Nat.reduceEqDiff,Nat.reduceAdd,Nat.reduceLeDiff,Nat.reduceMul,Int.reduceBNe,Int.reduceBEq,Int.reduceEq,Int.reduceNe,Int.reduceLT,Int.reduceLE,Int.reduceGT,Int.reduceGE,Int.reduceNeg,Int.reduceToNat,Nat.reduceLT,Nat.reduceSub,tab,Try.results40,List.toList_toArray])|(simp (disch:=omega) only [ziw]))
    refine ok_loop (fun k : Nat => ⟨slots [(2, .ptr 0 []), (3, .ptr 1 []), (160, .int .i64 m.dirty.length), (161, .int .i64 k)], rows [(0, .row machSh (encM m)), (1, .row machSh (encM m))], 2⟩) (fun k => k ≤ m.dirty.length) (fun k => m.dirty.length - k) 0 ?_ (Nat.zero_le _) (fun k hk => ?_)
    · (refine yrn [(0, 0), (1, 1)] false ?_ ?_<;>(repeat' (first|(with_reducible first|exact ya1|exact ya2|exact ya3|refine jx rfl (by first|rfl|assumption|(simp only [znl,znNJ];(first|done|fail)))|exact ya5|exact ya7|exact jy|exact jz|refine jA ?_|refine ya9 ?_ ?_ ?_|refine jC rfl (by first|rfl|assumption|(simp only [znl,znNJ];(first|done|fail)))|refine MR.agg (MRL.cons ?_ ?_)|refine MR.fn ?_|refine MRL.cons ?_ ?_|exact MRL.nil|refine jE ?_ ?_|exact jF|exact jG|refine yb1 ?_ ?_|refine MB.row ?_|refine jI ?_ ?_|exact ya8|refine jJ rfl (by first|rfl|assumption|(simp only [znl,znNJ];(first|done|fail)))|refine yb2 ?_|rfl)|(simp only [znl,znNJ];(first|done|fail))|(simp only [↓reduceIte,zlk,Nat.reduceEqDiff,reduceCtorEq])|(with_reducible first|refine jJ ?_ ?_|refine ya5 ?_|refine ju ?_|refine jv ?_|refine jw ?_|refine jx ?_ (by first|rfl|assumption|(simp only [znl,znNJ];(first|done|fail)))|refine jC ?_ (by first|rfl|assumption|(simp only [znl,znNJ];(first|done|fail)))))))
      all_goals (first | rfl | trace_state)
    by_cases hlt : k < m.dirty.length
    · repeat' (first|(with_reducible first|refine yrl (by constructor) ?_|refine jk (fun M hM=>?_)|(refine hM _ ?_;clear hM M)|refine xb3 (by decide) ?_|refine yqa (by assumption) ?_ ?_|refine yqb (by assumption) ?_ ?_)|((with_reducible refine je ?_)<;>(first|rfl|assumption|(simp only [znl,znNJ];(first|done|fail))))|(with_reducible refine jf (by (simp only [↓reduceIte,zlk,Nat.reduceEqDiff,reduceCtorEq]);exact rfl) ?_)|((with_reducible first|refine jg (fun hc=>?_) (fun hc=>?_)|refine jh (fun hc=>?_) (fun hc=>?_))<;>(try simp (disch:=omega) only [zhb] at hc)<;>(try (exfalso;omega))<;>(try subst hc))|(with_reducible refine ji (by omega) ?_)|(simp (config := { maxSteps := 400000 }) only [↓jt,↓reduceIte,zvs,reduceCtorEq,Nat.reduceEqDiff,Nat.reduceAdd,Nat.reduceLeDiff,Nat.reduceMul,Int.reduceBNe,Int.reduceBEq,Int.reduceEq,Int.reduceNe,Int.reduceLT,Int.reduceLE,Int.reduceGT,Int.reduceGE,Int.reduceNeg,Int.reduceToNat,Nat.reduceLT,Nat.reduceSub,tab,encWr,fit_pi,hv,Try.results40,List.toList_toArray])|(simp (disch:=omega) only [ziw]))
      refine ok_draw 10 (by kernel_rfl) (by decide +kernel) (by intro m hm; simp only [upd_ap,rows_cons,rows_nil]; (repeat (first | rfl | rw [if_neg (by omega)]))) (fun M hM => ?_); simp only [List.take_succ_cons,List.take_zero,List.drop_succ_cons,List.drop_zero]
      repeat' (first|(with_reducible first|refine yrl (by constructor) ?_|refine jk (fun M hM=>?_)|(refine hM _ ?_;clear hM M)|refine xb3 (by decide) ?_|refine yqa (by assumption) ?_ ?_|refine yqb (by assumption) ?_ ?_)|((with_reducible refine je ?_)<;>(first|rfl|assumption|(simp only [znl,znNJ];(first|done|fail))))|(with_reducible refine jf (by (simp only [↓reduceIte,zlk,Nat.reduceEqDiff,reduceCtorEq]);exact rfl) ?_)|((with_reducible first|refine jg (fun hc=>?_) (fun hc=>?_)|refine jh (fun hc=>?_) (fun hc=>?_))<;>(try simp (disch:=omega) only [zhb] at hc)<;>(try (exfalso;omega))<;>(try subst hc))|(with_reducible refine ji (by omega) ?_)|(simp (config := { maxSteps := 400000 }) only [↓jt,↓reduceIte,zvs,reduceCtorEq,Nat.reduceEqDiff,Nat.reduceAdd,Nat.reduceLeDiff,Nat.reduceMul,Int.reduceBNe,Int.reduceBEq,Int.reduceEq,Int.reduceNe,Int.reduceLT,Int.reduceLE,Int.reduceGT,Int.reduceGE,Int.reduceNeg,Int.reduceToNat,Nat.reduceLT,Nat.reduceSub,tab,encWr,fit_pi,hv,Try.results40,List.toList_toArray])|(simp (disch:=omega) only [ziw]))
      all_goals first
        | (exfalso; omega)
        | (exfalso; simp_all; done)
        | (refine xl1 (k + 1) ?_ (by show k + 1 ≤ m.dirty.length; omega) (by show m.dirty.length - (k + 1) < m.dirty.length - k; omega); (refine yrn [(0, 0), (1, 1)] false ?_ ?_<;>(repeat' (first|(with_reducible first|exact ya1|exact ya2|exact ya3|refine jx rfl (by first|rfl|assumption|(simp only [znl,znNJ];(first|done|fail)))|exact ya5|exact ya7|exact jy|exact jz|refine jA ?_|refine ya9 ?_ ?_ ?_|refine jC rfl (by first|rfl|assumption|(simp only [znl,znNJ];(first|done|fail)))|refine MR.agg (MRL.cons ?_ ?_)|refine MR.fn ?_|refine MRL.cons ?_ ?_|exact MRL.nil|refine jE ?_ ?_|exact jF|exact jG|refine yb1 ?_ ?_|refine MB.row ?_|refine jI ?_ ?_|exact ya8|refine jJ rfl (by first|rfl|assumption|(simp only [znl,znNJ];(first|done|fail)))|refine yb2 ?_|rfl)|(simp only [znl,znNJ];(first|done|fail))|(simp only [↓reduceIte,zlk,Nat.reduceEqDiff,reduceCtorEq])|(with_reducible first|refine jJ ?_ ?_|refine ya5 ?_|refine ju ?_|refine jv ?_|refine jw ?_|refine jx ?_ (by first|rfl|assumption|(simp only [znl,znNJ];(first|done|fail)))|refine jC ?_ (by first|rfl|assumption|(simp only [znl,znNJ];(first|done|fail))))))); done)
        | trace_state
    · obtain rfl : k = m.dirty.length := by omega
      repeat' (first|(with_reducible first|refine yrl (by constructor) ?_|refine jk (fun M hM=>?_)|(refine hM _ ?_;clear hM M)|refine xb3 (by decide) ?_|refine yqa (by assumption) ?_ ?_|refine yqb (by assumption) ?_ ?_)|((with_reducible refine je ?_)<;>(first|rfl|assumption|(simp only [znl,znNJ];(first|done|fail))))|(with_reducible refine jf (by (simp only [↓reduceIte,zlk,Nat.reduceEqDiff,reduceCtorEq]);exact rfl) ?_)|((with_reducible first|refine jg (fun hc=>?_) (fun hc=>?_)|refine jh (fun hc=>?_) (fun hc=>?_))<;>(try simp (disch:=omega) only [zhb] at hc)<;>(try (exfalso;omega))<;>(try subst hc))|(with_reducible refine ji (by omega) ?_)|(simp (config := { maxSteps := 400000 }) only [↓jt,↓reduceIte,zvs,reduceCtorEq,Nat.reduceEqDiff,Nat.reduceAdd,Nat.reduceLeDiff,Nat.reduceMul,Int.reduceBNe,Int.reduceBEq,Int.reduceEq,Int.reduceNe,Int.reduceLT,Int.reduceLE,Int.reduceGT,Int.reduceGE,Int.reduceNeg,Int.reduceToNat,Nat.reduceLT,Nat.reduceSub,tab,Try.results40,List.toList_toArray])|(simp (disch:=omega) only [ziw]))
      all_goals first
        | (exfalso; omega)
        | (simp only [zrds]; done)
        | trace_state
end Go.Proofs.Ytlgldkjjbbbapaa.V
end
section
/-
  A MACHINE OF VALUES: a drawn region with one store into a block that was there; what the store does not wait for only moves values.
-/
set_option linter.unusedVariables false
set_option linter.unusedSectionVars false
set_option linter.unusedSimpArgs false
namespace Go.Proofs.Ytlgldkjjbbbapaa.V
open Go Go.RowKit
def isMv (o : Oper) : Bool := o.guard == none && match o.op with
  | .move _ => true
  | .assign _ => true
  | .extract _ _ => true
  | _ => false
theorem fact_mv {P : Program} {ops : List Oper} {env tmF : Nat → VV} {GA : Heap} {n : Nat} {o : Oper} (GB : Heap) (h : isMv o = true) (hA : Fact2 P ops env tmF GA n o) : Fact2 P ops env tmF GB n o := by
  unfold isMv at h
  rw [Bool.and_eq_true, beq_iff_eq] at h
  obtain ⟨hg, h⟩ := h
  rcases hA with ⟨h1, v, n', h2, h3, h4, h5⟩ | ⟨g, w, d, h1, _⟩
  · refine .inl ⟨hg, ?_⟩
    have h6 := h5 (ev env) (fun v' _ m => v' = v ∧ m = n') (fun _ _ => rfl) ⟨rfl, rfl⟩
    refine ⟨v, n', h2, h3, h4, fun e' K' he hK => ?_⟩
    cases hop : o.op <;> rw [hop] at h <;> try (cases h; done)
    · rename_i x
      rw [hop] at he
      unfold vopH at h6 ⊢
      simp only [hop] at h6 ⊢
      obtain ⟨e1, e2⟩ := h6
      have hx := he x (by simp [Op.operands])
      rw [hx, e1, e2]; exact hK
    · rename_i x
      rw [hop] at he
      unfold vopH at h6 ⊢
      simp only [hop] at h6 ⊢
      obtain ⟨e1, e2⟩ := h6
      have hx := he x (by simp [Op.operands])
      rw [hx, e1, e2]; exact hK
    · rename_i x i
      rw [hop] at he
      unfold vopH at h6 ⊢
      simp only [hop] at h6 ⊢
      unfold vExtract onV at h6 ⊢
      have hx := he x (by simp [Op.operands])
      rw [hx]
      cases hv : ev env x <;> rw [hv] at h6 <;> try exact h6.elim
      dsimp only at h6 ⊢
      obtain ⟨u, hu, e1, e2⟩ := bnd_iff.1 h6
      exact bnd_intro hu (by rw [e1, e2]; exact hK)
  · rw [hg] at h1; cases h1
section
variable {P : Program} {ops : Array Oper} {k js : Nat} {perm : List Nat} {K : VS → Prop}
def mvOk (ops : Array Oper) (perm : List Nat) (js : Nat) : Bool := (List.range perm.length).all fun q => opD ops js (fun s => reachB ops ops.size s (perm.getD q 0)) || opD ops (perm.getD q 0) isMv
theorem regionK {S : VS} (hm : P.follows .mixedOrders = true) (hfr : ∀ m, S.nx ≤ m → S.hp m = none) (hok : drawOk2 ops k perm js perm.length = true) (hmv : mvOk ops perm js = true) (hjk : js < k) (m : Nat) (hmn : m < S.nx)
    (h : vheld P ops.toList (picks ops.toList perm) S.tm S.hp S.nx fun tm H _ => storeAt P m (ev tm) H (fun G => vlist P ops.toList (ops.toList.drop k) ⟨tm, G, S.nx + 64 * k⟩ K) ops[js]?) : vdraw P ops S K := by
  have hok' := hok
  unfold drawOk2 at hok'
  simp only [Bool.and_eq_true,decide_eq_true_eq] at hok'
  obtain ⟨⟨⟨⟨⟨⟨⟨⟨⟨hk, hpl⟩, hone⟩, hpk⟩, hun⟩, hall⟩, hbk⟩, hrd⟩, hst⟩, htl⟩ := hok'
  obtain ⟨tmF, G, k1, k2, k3, k4⟩ := held2 (ops := ops) _ S.tm S.hp S.nx hone hfr h
  have hst' : opD ops js (fun o => isSt o.op) = true := by
    simp only [Bool.or_eq_true,decide_eq_true_eq] at hst
    rcases hst with h | h
    · omega
    · obtain ⟨o, ho, h⟩ := opD_some h
      simp only [Bool.and_eq_true] at h
      unfold opD
      rw [ho]
      exact h.1.1.2
  obtain ⟨o, ho, hs⟩ := opD_some hst'
  rw [ho] at k1
  cases hop : o.op <;> rw [hop] at hs <;> simp only [isSt,Bool.false_eq_true] at hs
  rename_i t y x
  obtain ⟨b, g1, g2⟩ := storeAt_some hop k1
  have key : ∀ (q : Nat) o, (picks ops.toList perm)[q]? = some o → Fact2 P ops.toList (rd2 (picks ops.toList perm) q S.tm tmF) tmF G (S.nx + 64 * q) o := fun q o ho => by
    obtain ⟨Hq, q1, q2, q3, q4⟩ := k4 q o ho
    exact q4 _ q3
  have hlt : ∀ i ∈ perm, i < ops.toList.length := fun i hi => by
    have := (List.all_eq_true.1 hpk) i hi
    simp only [Bool.and_eq_true,decide_eq_true_eq] at this
    rw [Array.length_toList]; omega
  refine region2p hm hfr hok (GA := G) (GB := upd G m (some b)) k2 (fun m' hm' => k3.2 m' hm') key (fun q o hq hql hnp => ?_) (fun h => by omega) (fun _ o' t' y' x' ho' hop' => ?_) g1
  · have h1 := (List.all_eq_true.1 hmv) q (List.mem_range.2 hql)
    rw [hnp hjk, Bool.false_or] at h1
    obtain ⟨o2, ho2, h2⟩ := opD_some h1
    have e : o2 = o := by
      rw [picks_get _ _ hlt, List.getElem?_eq_getElem hql] at hq
      rw [List.getD_eq_getElem?_getD, List.getElem?_eq_getElem hql] at ho2
      simp only [Option.getD_some,Option.bind_some] at ho2 hq
      rw [Array.getElem?_toList, ho2] at hq
      injection hq
    rw [e] at h2
    exact fact_mv _ h2 (key q o hq)
  · rw [ho] at ho'; injection ho' with ho'; subst ho'
    rw [hop] at hop'; injection hop' with e1 e2 e3
    subst e1 e2 e3
    exact g2
end
section
variable {P : Program} {n0 : Nat} {K : VX → VS → Prop}
theorem ok_drawK {id : Nat} {l : List Oper} {tm : Nat → VV} {H : Heap} {n : Nat} (k : Nat) (perm : List Nat) (js m : Nat) (hm : P.follows .mixedOrders = true) (hd : (drawOk2 l.toArray k perm js perm.length && mvOk l.toArray perm js) = true) (hjk : js < k) (hmn : m < n) (hfr : ∀ m, n ≤ m → H m = none)
    (h : ∀ M : VS → Prop, (∀ S, K .normal S → M S) → vh P l (picks l perm) tm H n fun tm2 H2 _ => storeAt P m (ev tm2) H2 (fun G => vl P l (l.drop k) ⟨tm2, G, n + 64 * k⟩ M) l[js]?) : Ok P n0 (.region id l.toArray true) ⟨tm, H, n⟩ K := fun N B ρ0 w0 Q a w ρ h0 hok hS next => by
  simp only [codeOk,List.all_eq_true] at hok
  rw [Bool.and_eq_true] at hd
  exact regionK (S := ⟨tm, H, n⟩) hm hfr hd.1 hd.2 hjk m hmn (by simpa only [vh_def,vl_def,List.getElem?_toArray] using h _ fun _ h => h) id N B ρ0 w0 Q a w ρ (fun o ho t ht => by have := hok o ho; rw [ht] at this; simpa using this) hS.tm hS.defers hS.size hS.heap hS.below hS.ext
    fun S' a' w' ρ' hk h1 h2 h3 h4 h5 h6 => next .normal S' a' w' ρ' hk ⟨h1, h2, h3, h4, h5, h6⟩
end
end Go.Proofs.Ytlgldkjjbbbapaa.V
end
