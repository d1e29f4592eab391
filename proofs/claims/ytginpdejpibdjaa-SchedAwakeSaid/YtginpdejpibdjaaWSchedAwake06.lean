/-
  Parts of the proof of SchedAwake: N9, ND, N5, N6, N7, VregX.
  Conditions: none.
-/
import Derived.Test.YtginpdejpibdjaaWSchedAwake05
import Derived.Test.YtginpdejpibdjaaWSchedAwake03
set_option linter.unusedVariables false
set_option linter.unusedSimpArgs false
set_option linter.unusedSectionVars false
set_option linter.defProp false
section
namespace Go.Proofs.Ytginpdejpibdjaa.V
open Go
set_option maxRecDepth 100000
def znN9 := And.intro @jO <| And.intro @jP <| And.intro @jQ <| And.intro @jR <| And.intro @jS <| And.intro @jT <| And.intro @jU <| True.intro
set_option maxHeartbeats 4000000
theorem checkD_le {d : Dr} (h : checkD d = 0) : d.bl.length ≤ 256 := by
  unfold checkD at h
  split at h
  · omega
  · omega
def badD (d : Dr) : Int := if checkD d ≠ 0 then checkD d else if d.bl.length ≤ 33 then 2 else 0
theorem bad_spec (d : Dr) (hd : dfit d) : Spec Try.prog 126 [encDr d] (.int .i64 (badD d)) := by
  have hC := rcheck_spec d hd
  obtain ⟨⟨hf1, hf2⟩, hf3, hf4⟩ := hd
  unfold badD
  by_cases h0 : checkD d = 0
  · rw [if_neg (by omega)]
    rw [h0] at hC
    by_cases h1 : d.bl.length ≤ 33
    · rw [if_pos h1]
      refine spec_ok Try.func126 rfl rfl (by kernel_rfl) (k := 1) rfl (by decide) ?_
      repeat' (first|(with_reducible first|refine yrl (by constructor) ?_|refine jk (fun M hM=>?_)|(refine hM _ ?_;clear hM M)|refine xb3 (by decide) ?_|refine yqa (by assumption) ?_ ?_|refine yqb (by assumption) ?_ ?_)|((with_reducible refine je ?_)<;>(first|rfl|assumption|(simp only [znl,znN9];(first|done|fail))))|(with_reducible refine jf (by (simp only [↓reduceIte,zlk,Nat.reduceEqDiff,reduceCtorEq]);exact rfl) ?_)|((with_reducible first|refine jg (fun hc=>?_) (fun hc=>?_)|refine jh (fun hc=>?_) (fun hc=>?_))<;>(try simp (disch:=omega) only [zhb] at hc)<;>(try (exfalso;omega))<;>(try subst hc))|(with_reducible refine ji (by omega) ?_)|(simp (config := { maxSteps := 400000 }) only [↓jt,↓reduceIte,zvs,reduceCtorEq,Nat.reduceEqDiff,Nat.reduceAdd,Nat.reduceLeDiff,Nat.reduceMul,Int.reduceBNe,Int.reduceBEq,Int.reduceEq,Int.reduceNe,Int.reduceLT,Int.reduceLE,Int.reduceGT,Int.reduceGE,Int.reduceNeg,Int.reduceToNat,Nat.reduceLT,Nat.reduceSub,tab,Try.results126,jTA])|(simp (disch:=omega) only [ziw]))
      all_goals simp only [zrds]
    · rw [if_neg h1]
      refine spec_ok Try.func126 rfl rfl (by kernel_rfl) (k := 1) rfl (by decide) ?_
      repeat' (first|(with_reducible first|refine yrl (by constructor) ?_|refine jk (fun M hM=>?_)|(refine hM _ ?_;clear hM M)|refine xb3 (by decide) ?_|refine yqa (by assumption) ?_ ?_|refine yqb (by assumption) ?_ ?_)|((with_reducible refine je ?_)<;>(first|rfl|assumption|(simp only [znl,znN9];(first|done|fail))))|(with_reducible refine jf (by (simp only [↓reduceIte,zlk,Nat.reduceEqDiff,reduceCtorEq]);exact rfl) ?_)|((with_reducible first|refine jg (fun hc=>?_) (fun hc=>?_)|refine jh (fun hc=>?_) (fun hc=>?_))<;>(try simp (disch:=omega) only [zhb] at hc)<;>(try (exfalso;omega))<;>(try subst hc))|(with_reducible refine ji (by omega) ?_)|(simp (config := { maxSteps := 400000 }) only [↓jt,↓reduceIte,zvs,reduceCtorEq,Nat.reduceEqDiff,Nat.reduceAdd,Nat.reduceLeDiff,Nat.reduceMul,Int.reduceBNe,Int.reduceBEq,Int.reduceEq,Int.reduceNe,Int.reduceLT,Int.reduceLE,Int.reduceGT,Int.reduceGE,Int.reduceNeg,Int.reduceToNat,Nat.reduceLT,Nat.reduceSub,tab,Try.results126,jTA])|(simp (disch:=omega) only [ziw]))
      all_goals simp only [zrds]
  · rw [if_pos h0]
    refine spec_ok Try.func126 rfl rfl (by kernel_rfl) (k := 1) rfl (by decide) ?_
    repeat' (first|(with_reducible first|refine yrl (by constructor) ?_|refine jk (fun M hM=>?_)|(refine hM _ ?_;clear hM M)|refine xb3 (by decide) ?_|refine yqa (by assumption) ?_ ?_|refine yqb (by assumption) ?_ ?_)|((with_reducible refine je ?_)<;>(first|rfl|assumption|(simp only [znl,znN9];(first|done|fail))))|(with_reducible refine jf (by (simp only [↓reduceIte,zlk,Nat.reduceEqDiff,reduceCtorEq]);exact rfl) ?_)|((with_reducible first|refine jg (fun hc=>?_) (fun hc=>?_)|refine jh (fun hc=>?_) (fun hc=>?_))<;>(try simp (disch:=omega) only [zhb] at hc)<;>(try (exfalso;omega))<;>(try subst hc))|(with_reducible refine ji (by omega) ?_)|(simp (config := { maxSteps := 400000 }) only [↓jt,↓reduceIte,zvs,reduceCtorEq,Nat.reduceEqDiff,Nat.reduceAdd,Nat.reduceLeDiff,Nat.reduceMul,Int.reduceBNe,Int.reduceBEq,Int.reduceEq,Int.reduceNe,Int.reduceLT,Int.reduceLE,Int.reduceGT,Int.reduceGE,Int.reduceNeg,Int.reduceToNat,Nat.reduceLT,Nat.reduceSub,tab,Try.results126,jTA])|(simp (disch:=omega) only [ziw]))
    all_goals simp only [zrds]
theorem rhome_spec (d : Dr) (hd : dfit d) : Spec Try.prog 104 [encDr d] (encStrs (homeD d)) := by
  have hC := bad_spec d hd
  obtain ⟨⟨hf1, hf2⟩, hf3, hf4⟩ := id hd
  unfold homeD
  by_cases h0 : checkD d = 0 ∧ 33 < d.bl.length
  · rw [if_pos h0]
    rw [badD, if_neg (by omega), if_neg (by omega)] at hC
    have hbl := checkD_le h0.1
    obtain ⟨n, hn⟩ : ∃ n, d.bl.length = 33 + n := ⟨d.bl.length - 33, by omega⟩
    rw [show d.bl.length - 33 = n by omega]
    refine spec_ok Try.func104 rfl rfl (by kernel_rfl) (k := 1) rfl (by decide) ?_
    repeat' (first|(with_reducible first|refine yrl (by constructor) ?_|refine jk (fun M hM=>?_)|(refine hM _ ?_;clear hM M)|refine xb3 (by decide) ?_|refine yqa (by assumption) ?_ ?_|refine yqb (by assumption) ?_ ?_)|((with_reducible refine je ?_)<;>(first|rfl|assumption|(simp only [znl,znN9];(first|done|fail))))|(with_reducible refine jf (by (simp only [↓reduceIte,zlk,Nat.reduceEqDiff,reduceCtorEq]);exact rfl) ?_)|((with_reducible first|refine jg (fun hc=>?_) (fun hc=>?_)|refine jh (fun hc=>?_) (fun hc=>?_))<;>(try simp (disch:=omega) only [zhb] at hc)<;>(try (exfalso;omega))<;>(try subst hc))|(with_reducible refine ji (by omega) ?_)|(simp (config := { maxSteps := 400000 }) only [↓jt,↓reduceIte,zvs,reduceCtorEq,Nat.reduceEqDiff,Nat.reduceAdd,Nat.reduceLeDiff,Nat.reduceMul,Int.reduceBNe,Int.reduceBEq,Int.reduceEq,Int.reduceNe,Int.reduceLT,Int.reduceLE,Int.reduceGT,Int.reduceGE,Int.reduceNeg,Int.reduceToNat,Nat.reduceLT,Nat.reduceSub,tab,Try.results104,jTA])|(simp (disch:=omega) only [ziw]))
    refine ok_loop (fun k : Nat => ⟨slots [(1, .ptr 0 []), (2, .sl none 0), (3, .sl (some (1, [], 0)) k), (4, .int .i64 ((33 + k : Nat) : Int))], rows [(0, .row (.st [.cell, .cell, .cell]) (encDr d)), (1, .row (.arr k .cell) (.agg (((List.range k).map (homeB d)).map .str)))], 2⟩) (fun k => k ≤ n) (fun k => n - k) 0 ?_ (Nat.zero_le _) (fun k hk => ?_)
    · (refine yrn [(0, 0), (1, 1)] false ?_ ?_<;>(repeat' (first|(with_reducible first|exact ya1|exact ya2|exact ya3|refine jx rfl (by first|rfl|assumption|(simp only [znl,znN9];(first|done|fail)))|exact ya5|exact ya7|exact jy|exact jz|refine jA ?_|refine ya9 ?_ ?_ ?_|refine jC rfl (by first|rfl|assumption|(simp only [znl,znN9];(first|done|fail)))|refine MR.agg (MRL.cons ?_ ?_)|refine MR.fn ?_|refine MRL.cons ?_ ?_|exact MRL.nil|refine jE ?_ ?_|exact jF|exact jG|refine yb1 ?_ ?_|refine MB.row ?_|refine jI ?_ ?_|exact ya8|refine jJ rfl (by first|rfl|assumption|(simp only [znl,znN9];(first|done|fail)))|refine yb2 ?_|rfl)|(simp only [znl,znN9];(first|done|fail))|(simp only [↓reduceIte,zlk,Nat.reduceEqDiff,reduceCtorEq])|(with_reducible first|refine jJ ?_ ?_|refine ya5 ?_|refine ju ?_|refine jv ?_|refine jw ?_|refine jx ?_ (by first|rfl|assumption|(simp only [znl,znN9];(first|done|fail)))|refine jC ?_ (by first|rfl|assumption|(simp only [znl,znN9];(first|done|fail)))))))
      all_goals (first | rfl | (simp; done))
    by_cases hlt : k < n
    · have hG := rget_spec d hd ((33 + k : Nat) : Int) (by omega)
      rw [getV, if_pos (by omega), show (((33 + k : Nat) : Int)).toNat = 33 + k by omega] at hG
      have e1 : (List.range (k + 1)).map (homeB d) = (List.range k).map (homeB d) ++ [homeB d k] := by rw [List.range_succ, List.map_append]; rfl
      have e2 : homeB d k = getP d.pe ((33 + k : Nat) : Int) (d.bl.getD (33 + k) []) := rfl
      rw [← e2] at hG
      have hlr : (List.range k).length = k := List.length_range
      repeat' (first|(with_reducible first|refine yrl (by constructor) ?_|refine jk (fun M hM=>?_)|(refine hM _ ?_;clear hM M)|refine xb3 (by decide) ?_|refine yqa (by assumption) ?_ ?_|refine yqb (by assumption) ?_ ?_)|((with_reducible refine je ?_)<;>(first|rfl|assumption|(simp only [znl,znN9];(first|done|fail))))|(with_reducible refine jf (by (simp only [↓reduceIte,zlk,Nat.reduceEqDiff,reduceCtorEq]);exact rfl) ?_)|((with_reducible first|refine jg (fun hc=>?_) (fun hc=>?_)|refine jh (fun hc=>?_) (fun hc=>?_))<;>(try simp (disch:=omega) only [zhb] at hc)<;>(try (exfalso;omega))<;>(try subst hc))|(with_reducible refine ji (by omega) ?_)|(simp (config := { maxSteps := 400000 }) only [↓jt,↓reduceIte,zvs,reduceCtorEq,Nat.reduceEqDiff,Nat.reduceAdd,Nat.reduceLeDiff,Nat.reduceMul,Int.reduceBNe,Int.reduceBEq,Int.reduceEq,Int.reduceNe,Int.reduceLT,Int.reduceLE,Int.reduceGT,Int.reduceGE,Int.reduceNeg,Int.reduceToNat,Nat.reduceLT,Nat.reduceSub,tab,hlr,Try.results104,jTA])|(simp (disch:=omega) only [ziw]))
      refine xl1 (k + 1) ?_ (by show k + 1 ≤ n; omega) (by show n - (k + 1) < n - k; omega)
      (refine yrn [(0, 0), (1, 3)] false ?_ ?_<;>(repeat' (first|(with_reducible first|exact ya1|exact ya2|exact ya3|refine jx rfl (by first|rfl|assumption|(simp only [znl,znN9];(first|done|fail)))|exact ya5|exact ya7|exact jy|exact jz|refine jA ?_|refine ya9 ?_ ?_ ?_|refine jC rfl (by first|rfl|assumption|(simp only [znl,znN9];(first|done|fail)))|refine MR.agg (MRL.cons ?_ ?_)|refine MR.fn ?_|refine MRL.cons ?_ ?_|exact MRL.nil|refine jE ?_ ?_|exact jF|exact jG|refine yb1 ?_ ?_|refine MB.row ?_|refine jI ?_ ?_|exact ya8|refine jJ rfl (by first|rfl|assumption|(simp only [znl,znN9];(first|done|fail)))|refine yb2 ?_|rfl)|(simp only [znl,znN9];(first|done|fail))|(simp only [↓reduceIte,zlk,Nat.reduceEqDiff,reduceCtorEq])|(with_reducible first|refine jJ ?_ ?_|refine ya5 ?_|refine ju ?_|refine jv ?_|refine jw ?_|refine jx ?_ (by first|rfl|assumption|(simp only [znl,znN9];(first|done|fail)))|refine jC ?_ (by first|rfl|assumption|(simp only [znl,znN9];(first|done|fail)))))))
      all_goals (first | rfl | (rw [e1]; simp; done))
    · obtain rfl : k = n := by omega
      repeat' (first|(with_reducible first|refine yrl (by constructor) ?_|refine jk (fun M hM=>?_)|(refine hM _ ?_;clear hM M)|refine xb3 (by decide) ?_|refine yqa (by assumption) ?_ ?_|refine yqb (by assumption) ?_ ?_)|((with_reducible refine je ?_)<;>(first|rfl|assumption|(simp only [znl,znN9];(first|done|fail))))|(with_reducible refine jf (by (simp only [↓reduceIte,zlk,Nat.reduceEqDiff,reduceCtorEq]);exact rfl) ?_)|((with_reducible first|refine jg (fun hc=>?_) (fun hc=>?_)|refine jh (fun hc=>?_) (fun hc=>?_))<;>(try simp (disch:=omega) only [zhb] at hc)<;>(try (exfalso;omega))<;>(try subst hc))|(with_reducible refine ji (by omega) ?_)|(simp (config := { maxSteps := 400000 }) only [↓jt,↓reduceIte,zvs,reduceCtorEq,Nat.reduceEqDiff,Nat.reduceAdd,Nat.reduceLeDiff,Nat.reduceMul,Int.reduceBNe,Int.reduceBEq,Int.reduceEq,Int.reduceNe,Int.reduceLT,Int.reduceLE,Int.reduceGT,Int.reduceGE,Int.reduceNeg,Int.reduceToNat,Nat.reduceLT,Nat.reduceSub,tab,Try.results104,jTA])|(simp (disch:=omega) only [ziw]))
      refine rdt_of ?_ (by rfl)
      (refine rd_own (by (simp only [↓reduceIte,zlk,Nat.reduceEqDiff,reduceCtorEq]); exact rfl) ?_ ?_ ?_) <;> (first | rfl | assumption | (simp only [znl,znN9];(first|done|fail)) | (simp; done) | (simp; omega) | skip)
  · rw [if_neg h0]
    have hC2 : badD d ≠ 0 := by unfold badD; split <;> (try split) <;> omega
    generalize badD d = b at hC hC2
    refine spec_ok Try.func104 rfl rfl (by kernel_rfl) (k := 1) rfl (by decide) ?_
    repeat' (first|(with_reducible first|refine yrl (by constructor) ?_|refine jk (fun M hM=>?_)|(refine hM _ ?_;clear hM M)|refine xb3 (by decide) ?_|refine yqa (by assumption) ?_ ?_|refine yqb (by assumption) ?_ ?_)|((with_reducible refine je ?_)<;>(first|rfl|assumption|(simp only [znl,znN9];(first|done|fail))))|(with_reducible refine jf (by (simp only [↓reduceIte,zlk,Nat.reduceEqDiff,reduceCtorEq]);exact rfl) ?_)|((with_reducible first|refine jg (fun hc=>?_) (fun hc=>?_)|refine jh (fun hc=>?_) (fun hc=>?_))<;>(try simp (disch:=omega) only [zhb] at hc)<;>(try (exfalso;omega))<;>(try subst hc))|(with_reducible refine ji (by omega) ?_)|(simp (config := { maxSteps := 400000 }) only [↓jt,↓reduceIte,zvs,reduceCtorEq,Nat.reduceEqDiff,Nat.reduceAdd,Nat.reduceLeDiff,Nat.reduceMul,Int.reduceBNe,Int.reduceBEq,Int.reduceEq,Int.reduceNe,Int.reduceLT,Int.reduceLE,Int.reduceGT,Int.reduceGE,Int.reduceNeg,Int.reduceToNat,Nat.reduceLT,Nat.reduceSub,tab,Try.results104,jTA])|(simp (disch:=omega) only [ziw]))
    all_goals first
      | (exfalso; omega)
      | (refine rdt_of ?_ (by rfl); (refine rd_own (by (simp only [↓reduceIte,zlk,Nat.reduceEqDiff,reduceCtorEq]); exact rfl) ?_ ?_ ?_) <;> (first | rfl | assumption | (simp only [znl,znN9];(first|done|fail)) | (simp; done) | (simp; omega) | skip); done)
end Go.Proofs.Ytginpdejpibdjaa.V
end
section
namespace Go.Proofs.Ytginpdejpibdjaa.V
open Go
set_option maxRecDepth 100000
def znND := And.intro @jO <| And.intro @jP <| And.intro @jQ <| And.intro @jR <| And.intro @jS <| And.intro @jT <| And.intro @jU <| True.intro
set_option maxHeartbeats 4000000
theorem wrV_len (v : Frames) (w : Wr) : (wrV v w).length = v.length := by
  unfold wrV; split <;> simp
theorem foldl_wrV_len (l : List Wr) : ∀ v : Frames, (l.foldl wrV v).length = v.length := by
  induction l with
  | nil => intro v; rfl
  | cons w l ih => intro v; rw [List.foldl_cons, ih, wrV_len]
theorem homeD_len (d : Dr) : (homeD d).length ≤ d.bl.length := by
  unfold homeD; split
  · simp
  · simp
theorem getP_mem (i : Int) : ∀ (pe : List Wr) (s : List UInt8), getP pe i s = s ∨ ∃ w ∈ pe, getP pe i s = w.d
  | [], s => .inl rfl
  | w :: l, s => by
    have e : getP (w :: l) i s = getP l i (if w.b = i then w.d else s) := rfl
    rw [e]
    rcases getP_mem i l (if w.b = i then w.d else s) with h | ⟨x, h1, h2⟩
    · by_cases hw : w.b = i
      · rw [if_pos hw] at h ⊢
        exact .inr ⟨w, by simp, h⟩
      · rw [if_neg hw] at h ⊢
        exact .inl h
    · exact .inr ⟨x, by simp [h1], h2⟩
theorem homeD_fit {d : Dr} {n : Nat} (h1 : ∀ s ∈ d.bl, s.length ≤ n) (h2 : ∀ w ∈ d.pe, w.d.length ≤ n) : ∀ s ∈ homeD d, s.length ≤ n := by
  intro s hs
  unfold homeD at hs
  split at hs
  · obtain ⟨i, hi, rfl⟩ := List.mem_map.1 hs
    have hi := List.mem_range.1 hi
    unfold homeB
    rcases getP_mem ((33 + i : Nat) : Int) d.pe (d.bl.getD (33 + i) []) with h | ⟨w, hw, h⟩
    · rw [h]
      have := h1 _ (getD_mem' (show 33 + i < d.bl.length by omega))
      rw [default_str] at this
      exact this
    · rw [h]; exact h2 w hw
  · cases hs
theorem wrV_fit {v : Frames} {w : Wr} {n : Nat} (h1 : ∀ s ∈ v, s.length ≤ n) (h2 : w.d.length ≤ n) : ∀ s ∈ wrV v w, s.length ≤ n := by
  intro s hs
  unfold wrV at hs
  split at hs
  · rcases List.mem_or_eq_of_mem_set hs with h | h
    · exact h1 s h
    · rw [h]; exact h2
  · exact h1 s hs
theorem foldl_wrV_fit {n : Nat} (l : List Wr) : ∀ v : Frames, (∀ s ∈ v, s.length ≤ n) → (∀ w ∈ l, w.d.length ≤ n) → ∀ s ∈ l.foldl wrV v, s.length ≤ n := by
  induction l with
  | nil => intro v h1 _; exact h1
  | cons w l ih => intro v h1 h2; rw [List.foldl_cons]; exact ih _ (wrV_fit h1 (h2 w (by simp))) fun x hx => h2 x (by simp [hx])
theorem dfit_of {m : Mach} (hm : MFit 20000 m) : dfit m.dr :=
  ⟨⟨by have := hm.bl; omega, fun s hs => by have := hm.blS s hs; omega⟩, by have := hm.pe; omega, fun w hw => by have := (hm.peS w hw).2; omega⟩
theorem volume_spec (m : Mach) (hm : MFit 20000 m) : Spec Try.prog 106 [encM m] (encStrs (volM m)) := by
  have hH := rhome_spec m.dr (dfit_of hm)
  have hlen := homeD_len m.dr
  have hb := hm.bl
  have hd := hm.dirty
  have hdS := hm.dirtyS
  unfold volM
  generalize homeD m.dr = h0 at hH hlen ⊢
  refine spec_ok Try.func106 rfl rfl (by kernel_rfl) (k := 1) rfl (by decide) ?_
  repeat' (first|(with_reducible first|refine yrl (by constructor) ?_|refine jk (fun M hM=>?_)|(refine hM _ ?_;clear hM M)|refine xb3 (by decide) ?_|refine yqa (by assumption) ?_ ?_|refine yqb (by assumption) ?_ ?_)|((with_reducible refine je ?_)<;>(first|rfl|assumption|(simp only [znl,znND];(first|done|fail))))|(with_reducible refine jf (by (simp only [↓reduceIte,zlk,Nat.reduceEqDiff,reduceCtorEq]);exact rfl) ?_)|((with_reducible first|refine jg (fun hc=>?_) (fun hc=>?_)|refine jh (fun hc=>?_) (fun hc=>?_))<;>(try simp (disch:=omega) only [zhb] at hc)<;>(try (exfalso;omega))<;>(try subst hc))|(with_reducible refine ji (by omega) ?_)|(simp (config := { maxSteps := 400000 }) only [↓jt,↓reduceIte,zvs,reduceCtorEq,Nat.reduceEqDiff,Nat.reduceAdd,Nat.reduceLeDiff,Nat.reduceMul,Int.reduceBNe,Int.reduceBEq,Int.reduceEq,Int.reduceNe,Int.reduceLT,Int.reduceLE,Int.reduceGT,Int.reduceGE,Int.reduceNeg,Int.reduceToNat,Nat.reduceLT,Nat.reduceSub,tab,Try.results106,jTA])|(simp (disch:=omega) only [ziw]))
  refine ok_loop (fun k : Nat => ⟨slots [(1, .ptr 0 []), (2, .sl none 0), (3, .sl (some (1, [], 0)) h0.length), (12, encWrs m.dirty), (13, .int .i64 m.dirty.length), (14, .int .i64 k)], rows [(0, .row machSh (encM m)), (1, .row (.arr h0.length .cell) (.agg (((m.dirty.take k).foldl wrV h0).map .str)))], 2⟩) (fun k => k ≤ m.dirty.length) (fun k => m.dirty.length - k) 0 ?_ (Nat.zero_le _) (fun k hk => ?_)
  · (refine yrn [(0, 0), (1, 2)] false ?_ ?_<;>(repeat' (first|(with_reducible first|exact ya1|exact ya2|exact ya3|refine jx rfl (by first|rfl|assumption|(simp only [znl,znND];(first|done|fail)))|exact ya5|exact ya7|exact jy|exact jz|refine jA ?_|refine ya9 ?_ ?_ ?_|refine jC rfl (by first|rfl|assumption|(simp only [znl,znND];(first|done|fail)))|refine MR.agg (MRL.cons ?_ ?_)|refine MR.fn ?_|refine MRL.cons ?_ ?_|exact MRL.nil|refine jE ?_ ?_|exact jF|exact jG|refine yb1 ?_ ?_|refine MB.row ?_|refine jI ?_ ?_|exact ya8|refine jJ rfl (by first|rfl|assumption|(simp only [znl,znND];(first|done|fail)))|refine yb2 ?_|rfl)|(simp only [znl,znND];(first|done|fail))|(simp only [↓reduceIte,zlk,Nat.reduceEqDiff,reduceCtorEq])|(with_reducible first|refine jJ ?_ ?_|refine ya5 ?_|refine ju ?_|refine jv ?_|refine jw ?_|refine jx ?_ (by first|rfl|assumption|(simp only [znl,znND];(first|done|fail)))|refine jC ?_ (by first|rfl|assumption|(simp only [znl,znND];(first|done|fail)))))))
    all_goals (first | rfl | (simp; done))
  have hvl := foldl_wrV_len (m.dirty.take k) h0
  by_cases hlt : k < m.dirty.length
  · obtain ⟨⟨hw1, hw2⟩, hw3⟩ := hdS _ (getD_mem' hlt)
    have e1 : (m.dirty.take (k + 1)).foldl wrV h0 = wrV ((m.dirty.take k).foldl wrV h0) (m.dirty.getD k default) := by
      rw [take_snoc m.dirty k hlt, List.foldl_append]; rfl
    generalize (m.dirty.take k).foldl wrV h0 = v at hvl e1 ⊢
    have hset : ∀ (i : Nat) (s : List UInt8), (v.map VV.str).set i (.str s) = (v.set i s).map VV.str := fun i s => (List.map_set ..).symm
    by_cases hq : 0 ≤ (m.dirty.getD k default).b ∧ (m.dirty.getD k default).b < v.length
    · have e1 := e1.trans (show wrV v (m.dirty.getD k default) = v.set (m.dirty.getD k default).b.toNat (m.dirty.getD k default).d from if_pos hq)
      repeat' (first|(with_reducible first|refine yrl (by constructor) ?_|refine jk (fun M hM=>?_)|(refine hM _ ?_;clear hM M)|refine xb3 (by decide) ?_|refine yqa (by assumption) ?_ ?_|refine yqb (by assumption) ?_ ?_)|((with_reducible refine je ?_)<;>(first|rfl|assumption|(simp only [znl,znND];(first|done|fail))))|(with_reducible refine jf (by (simp only [↓reduceIte,zlk,Nat.reduceEqDiff,reduceCtorEq]);exact rfl) ?_)|((with_reducible first|refine jg (fun hc=>?_) (fun hc=>?_)|refine jh (fun hc=>?_) (fun hc=>?_))<;>(try simp (disch:=omega) only [zhb] at hc)<;>(try (exfalso;omega))<;>(try subst hc))|(with_reducible refine ji (by omega) ?_)|(simp (config := { maxSteps := 400000 }) only [↓jt,↓reduceIte,zvs,reduceCtorEq,Nat.reduceEqDiff,Nat.reduceAdd,Nat.reduceLeDiff,Nat.reduceMul,Int.reduceBNe,Int.reduceBEq,Int.reduceEq,Int.reduceNe,Int.reduceLT,Int.reduceLE,Int.reduceGT,Int.reduceGE,Int.reduceNeg,Int.reduceToNat,Nat.reduceLT,Nat.reduceSub,tab,encWr,hvl,hset,Try.results106,jTA])|(simp (disch:=omega) only [ziw]))
      all_goals first
        | (exfalso; omega)
        | (refine xl1 (k + 1) ?_ (by show k + 1 ≤ m.dirty.length; omega) (by show m.dirty.length - (k + 1) < m.dirty.length - k; omega); (refine yrn [(0, 0), (1, 1)] false ?_ ?_<;>(repeat' (first|(with_reducible first|exact ya1|exact ya2|exact ya3|refine jx rfl (by first|rfl|assumption|(simp only [znl,znND];(first|done|fail)))|exact ya5|exact ya7|exact jy|exact jz|refine jA ?_|refine ya9 ?_ ?_ ?_|refine jC rfl (by first|rfl|assumption|(simp only [znl,znND];(first|done|fail)))|refine MR.agg (MRL.cons ?_ ?_)|refine MR.fn ?_|refine MRL.cons ?_ ?_|exact MRL.nil|refine jE ?_ ?_|exact jF|exact jG|refine yb1 ?_ ?_|refine MB.row ?_|refine jI ?_ ?_|exact ya8|refine jJ rfl (by first|rfl|assumption|(simp only [znl,znND];(first|done|fail)))|refine yb2 ?_|rfl)|(simp only [znl,znND];(first|done|fail))|(simp only [↓reduceIte,zlk,Nat.reduceEqDiff,reduceCtorEq])|(with_reducible first|refine jJ ?_ ?_|refine ya5 ?_|refine ju ?_|refine jv ?_|refine jw ?_|refine jx ?_ (by first|rfl|assumption|(simp only [znl,znND];(first|done|fail)))|refine jC ?_ (by first|rfl|assumption|(simp only [znl,znND];(first|done|fail))))))); all_goals (first | rfl | (rw [e1]; done)))
    · have e1 := e1.trans (show wrV v (m.dirty.getD k default) = v from if_neg hq)
      repeat' (first|(with_reducible first|refine yrl (by constructor) ?_|refine jk (fun M hM=>?_)|(refine hM _ ?_;clear hM M)|refine xb3 (by decide) ?_|refine yqa (by assumption) ?_ ?_|refine yqb (by assumption) ?_ ?_)|((with_reducible refine je ?_)<;>(first|rfl|assumption|(simp only [znl,znND];(first|done|fail))))|(with_reducible refine jf (by (simp only [↓reduceIte,zlk,Nat.reduceEqDiff,reduceCtorEq]);exact rfl) ?_)|((with_reducible first|refine jg (fun hc=>?_) (fun hc=>?_)|refine jh (fun hc=>?_) (fun hc=>?_))<;>(try simp (disch:=omega) only [zhb] at hc)<;>(try (exfalso;omega))<;>(try subst hc))|(with_reducible refine ji (by omega) ?_)|(simp (config := { maxSteps := 400000 }) only [↓jt,↓reduceIte,zvs,reduceCtorEq,Nat.reduceEqDiff,Nat.reduceAdd,Nat.reduceLeDiff,Nat.reduceMul,Int.reduceBNe,Int.reduceBEq,Int.reduceEq,Int.reduceNe,Int.reduceLT,Int.reduceLE,Int.reduceGT,Int.reduceGE,Int.reduceNeg,Int.reduceToNat,Nat.reduceLT,Nat.reduceSub,tab,encWr,hvl,hset,Try.results106,jTA])|(simp (disch:=omega) only [ziw]))
      all_goals first
        | (exfalso; omega)
        | (refine xl1 (k + 1) ?_ (by show k + 1 ≤ m.dirty.length; omega) (by show m.dirty.length - (k + 1) < m.dirty.length - k; omega); (refine yrn [(0, 0), (1, 1)] false ?_ ?_<;>(repeat' (first|(with_reducible first|exact ya1|exact ya2|exact ya3|refine jx rfl (by first|rfl|assumption|(simp only [znl,znND];(first|done|fail)))|exact ya5|exact ya7|exact jy|exact jz|refine jA ?_|refine ya9 ?_ ?_ ?_|refine jC rfl (by first|rfl|assumption|(simp only [znl,znND];(first|done|fail)))|refine MR.agg (MRL.cons ?_ ?_)|refine MR.fn ?_|refine MRL.cons ?_ ?_|exact MRL.nil|refine jE ?_ ?_|exact jF|exact jG|refine yb1 ?_ ?_|refine MB.row ?_|refine jI ?_ ?_|exact ya8|refine jJ rfl (by first|rfl|assumption|(simp only [znl,znND];(first|done|fail)))|refine yb2 ?_|rfl)|(simp only [znl,znND];(first|done|fail))|(simp only [↓reduceIte,zlk,Nat.reduceEqDiff,reduceCtorEq])|(with_reducible first|refine jJ ?_ ?_|refine ya5 ?_|refine ju ?_|refine jv ?_|refine jw ?_|refine jx ?_ (by first|rfl|assumption|(simp only [znl,znND];(first|done|fail)))|refine jC ?_ (by first|rfl|assumption|(simp only [znl,znND];(first|done|fail))))))); all_goals (first | rfl | (rw [e1]; done)))
  · obtain rfl : k = m.dirty.length := by omega
    rw [List.take_length] at *
    repeat' (first|(with_reducible first|refine yrl (by constructor) ?_|refine jk (fun M hM=>?_)|(refine hM _ ?_;clear hM M)|refine xb3 (by decide) ?_|refine yqa (by assumption) ?_ ?_|refine yqb (by assumption) ?_ ?_)|((with_reducible refine je ?_)<;>(first|rfl|assumption|(simp only [znl,znND];(first|done|fail))))|(with_reducible refine jf (by (simp only [↓reduceIte,zlk,Nat.reduceEqDiff,reduceCtorEq]);exact rfl) ?_)|((with_reducible first|refine jg (fun hc=>?_) (fun hc=>?_)|refine jh (fun hc=>?_) (fun hc=>?_))<;>(try simp (disch:=omega) only [zhb] at hc)<;>(try (exfalso;omega))<;>(try subst hc))|(with_reducible refine ji (by omega) ?_)|(simp (config := { maxSteps := 400000 }) only [↓jt,↓reduceIte,zvs,reduceCtorEq,Nat.reduceEqDiff,Nat.reduceAdd,Nat.reduceLeDiff,Nat.reduceMul,Int.reduceBNe,Int.reduceBEq,Int.reduceEq,Int.reduceNe,Int.reduceLT,Int.reduceLE,Int.reduceGT,Int.reduceGE,Int.reduceNeg,Int.reduceToNat,Nat.reduceLT,Nat.reduceSub,tab,List.take_length,Try.results106,jTA])|(simp (disch:=omega) only [ziw]))
    all_goals first
      | (exfalso; omega)
      | (refine rdt_of ?_ (by rfl); (refine rd_own (by (simp only [↓reduceIte,zlk,Nat.reduceEqDiff,reduceCtorEq]); exact rfl) ?_ ?_ ?_) <;> (first | rfl | assumption | (simp only [znl,znND];(first|done|fail)) | (simp; done) | (simp; omega) | skip); done)
theorem of_spec (v : Frames) (hv : v.length ≤ 20000) (hs : ∀ s ∈ v, s.length ≤ 20000) : ∃ g, Spec Try.prog 105 [encStrs v] (.tup [geoV g, .int .i64 (volE v)]) := by
  have h6 : ∀ a : VV, List.replicate 6 a = [a, a, a, a, a, a] := fun _ => rfl
  have hw0 := hs (v.getD 0 [])
  obtain ⟨R, hR⟩ : ∃ R, R = volE v := ⟨_, rfl⟩
  rw [← hR]
  unfold volE at hR
  dsimp only at hR
  by_cases hA : ∃ k, k < v.length ∧ (v.getD k []).length ≠ 128
  · obtain ⟨k0, hk0, hk1⟩ := hA
    have hAny : (v.any fun s => decide (s.length ≠ 128)) = true := by
      rw [List.any_eq_true]
      refine ⟨v.getD k0 [], ?_, decide_eq_true hk1⟩
      have := getD_mem' hk0
      rw [default_str] at this
      exact this
    have hR : R = 3 := by
      rw [hR]
      split
      · rfl
      · first | rfl | rw [if_pos hAny]
    rw [hR]
    refine ⟨⟨0, 0, 0, 0, 0, 0⟩, spec_ok Try.func105 rfl rfl (by kernel_rfl) (k := 1) rfl (by decide) ?_⟩
    simp only [geoV]
    repeat' (first|(with_reducible first|refine yrl (by constructor) ?_|refine jk (fun M hM=>?_)|(refine hM _ ?_;clear hM M)|refine xb3 (by decide) ?_|refine yqa (by assumption) ?_ ?_|refine yqb (by assumption) ?_ ?_)|((with_reducible refine je ?_)<;>(first|rfl|assumption|(simp only [znl,znND];(first|done|fail))))|(with_reducible refine jf (by (simp only [↓reduceIte,zlk,Nat.reduceEqDiff,reduceCtorEq]);exact rfl) ?_)|((with_reducible first|refine jg (fun hc=>?_) (fun hc=>?_)|refine jh (fun hc=>?_) (fun hc=>?_))<;>(try simp (disch:=omega) only [zhb] at hc)<;>(try (exfalso;omega))<;>(try subst hc))|(with_reducible refine ji (by omega) ?_)|(simp (config := { maxSteps := 400000 }) only [↓jt,↓reduceIte,zvs,reduceCtorEq,Nat.reduceEqDiff,Nat.reduceAdd,Nat.reduceLeDiff,Nat.reduceMul,Int.reduceBNe,Int.reduceBEq,Int.reduceEq,Int.reduceNe,Int.reduceLT,Int.reduceLE,Int.reduceGT,Int.reduceGE,Int.reduceNeg,Int.reduceToNat,Nat.reduceLT,Nat.reduceSub,tab,h6,Try.results105,jTA])|(simp (disch:=omega) only [ziw]))
    all_goals first
      | (exfalso; omega)
      | (simp only [zrds]; done)
      | skip
    refine ok_loop (fun k : Nat => ⟨slots [(0, encStrs v), (2, .ptr 0 []), (13, encStrs v), (14, .int .i64 v.length), (15, .int .i64 k)], rows [(0, .row geoSh (.agg [.int .i64 0, .int .i64 0, .int .i64 0, .int .i64 0, .int .i64 0, .int .i64 0]))], 1⟩) (fun k => k ≤ k0) (fun k => v.length - k) 0 ?_ (Nat.zero_le _) (fun k hk => ?_)
    · (refine yrn [(0, 0)] false ?_ ?_<;>(repeat' (first|(with_reducible first|exact ya1|exact ya2|exact ya3|refine jx rfl (by first|rfl|assumption|(simp only [znl,znND];(first|done|fail)))|exact ya5|exact ya7|exact jy|exact jz|refine jA ?_|refine ya9 ?_ ?_ ?_|refine jC rfl (by first|rfl|assumption|(simp only [znl,znND];(first|done|fail)))|refine MR.agg (MRL.cons ?_ ?_)|refine MR.fn ?_|refine MRL.cons ?_ ?_|exact MRL.nil|refine jE ?_ ?_|exact jF|exact jG|refine yb1 ?_ ?_|refine MB.row ?_|refine jI ?_ ?_|exact ya8|refine jJ rfl (by first|rfl|assumption|(simp only [znl,znND];(first|done|fail)))|refine yb2 ?_|rfl)|(simp only [znl,znND];(first|done|fail))|(simp only [↓reduceIte,zlk,Nat.reduceEqDiff,reduceCtorEq])|(with_reducible first|refine jJ ?_ ?_|refine ya5 ?_|refine ju ?_|refine jv ?_|refine jw ?_|refine jx ?_ (by first|rfl|assumption|(simp only [znl,znND];(first|done|fail)))|refine jC ?_ (by first|rfl|assumption|(simp only [znl,znND];(first|done|fail)))))))
      all_goals (first | rfl)
    have hsk := hs _ (getD_mem' (show k < v.length by omega))
    rw [default_str] at hsk
    repeat' (first|(with_reducible first|refine yrl (by constructor) ?_|refine jk (fun M hM=>?_)|(refine hM _ ?_;clear hM M)|refine xb3 (by decide) ?_|refine yqa (by assumption) ?_ ?_|refine yqb (by assumption) ?_ ?_)|((with_reducible refine je ?_)<;>(first|rfl|assumption|(simp only [znl,znND];(first|done|fail))))|(with_reducible refine jf (by (simp only [↓reduceIte,zlk,Nat.reduceEqDiff,reduceCtorEq]);exact rfl) ?_)|((with_reducible first|refine jg (fun hc=>?_) (fun hc=>?_)|refine jh (fun hc=>?_) (fun hc=>?_))<;>(try simp (disch:=omega) only [zhb] at hc)<;>(try (exfalso;omega))<;>(try subst hc))|(with_reducible refine ji (by omega) ?_)|(simp (config := { maxSteps := 400000 }) only [↓jt,↓reduceIte,zvs,reduceCtorEq,Nat.reduceEqDiff,Nat.reduceAdd,Nat.reduceLeDiff,Nat.reduceMul,Int.reduceBNe,Int.reduceBEq,Int.reduceEq,Int.reduceNe,Int.reduceLT,Int.reduceLE,Int.reduceGT,Int.reduceGE,Int.reduceNeg,Int.reduceToNat,Nat.reduceLT,Nat.reduceSub,tab,h6,Try.results105,jTA])|(simp (disch:=omega) only [ziw]))
    all_goals first
      | (exfalso; omega)
      | (simp only [zrds]; done)
      | (refine xl1 (k + 1) ?_ (by by_cases e : k = k0; (subst e; exfalso; omega); show k + 1 ≤ k0; omega) (by show v.length - (k + 1) < v.length - k; omega); (refine yrn [(0, 0)] false ?_ ?_<;>(repeat' (first|(with_reducible first|exact ya1|exact ya2|exact ya3|refine jx rfl (by first|rfl|assumption|(simp only [znl,znND];(first|done|fail)))|exact ya5|exact ya7|exact jy|exact jz|refine jA ?_|refine ya9 ?_ ?_ ?_|refine jC rfl (by first|rfl|assumption|(simp only [znl,znND];(first|done|fail)))|refine MR.agg (MRL.cons ?_ ?_)|refine MR.fn ?_|refine MRL.cons ?_ ?_|exact MRL.nil|refine jE ?_ ?_|exact jF|exact jG|refine yb1 ?_ ?_|refine MB.row ?_|refine jI ?_ ?_|exact ya8|refine jJ rfl (by first|rfl|assumption|(simp only [znl,znND];(first|done|fail)))|refine yb2 ?_|rfl)|(simp only [znl,znND];(first|done|fail))|(simp only [↓reduceIte,zlk,Nat.reduceEqDiff,reduceCtorEq])|(with_reducible first|refine jJ ?_ ?_|refine ya5 ?_|refine ju ?_|refine jv ?_|refine jw ?_|refine jx ?_ (by first|rfl|assumption|(simp only [znl,znND];(first|done|fail)))|refine jC ?_ (by first|rfl|assumption|(simp only [znl,znND];(first|done|fail))))))); done)
  have hA : ∀ s ∈ v, s.length = 128 := fun s h => by
    obtain ⟨i, hi, rfl⟩ := List.mem_iff_getElem.1 h
    refine Decidable.byContradiction fun hc => hA ⟨i, hi, ?_⟩
    rw [List.getD_eq_getElem?_getD, List.getElem?_eq_getElem hi]
    exact hc
  have hAny : (v.any fun s => decide (s.length ≠ 128)) = false := by
    rw [List.any_eq_false]
    intro s h
    rw [hA s h]; simp
  rw [hAny] at hR
  by_cases h3 : v.length < 3
  · rw [if_pos (by omega)] at hR
    rw [hR]
    refine ⟨⟨0, 0, 0, 0, 0, 0⟩, spec_ok Try.func105 rfl rfl (by kernel_rfl) (k := 1) rfl (by decide) ?_⟩
    repeat' (first|(with_reducible first|refine yrl (by constructor) ?_|refine jk (fun M hM=>?_)|(refine hM _ ?_;clear hM M)|refine xb3 (by decide) ?_|refine yqa (by assumption) ?_ ?_|refine yqb (by assumption) ?_ ?_)|((with_reducible refine je ?_)<;>(first|rfl|assumption|(simp only [znl,znND];(first|done|fail))))|(with_reducible refine jf (by (simp only [↓reduceIte,zlk,Nat.reduceEqDiff,reduceCtorEq]);exact rfl) ?_)|((with_reducible first|refine jg (fun hc=>?_) (fun hc=>?_)|refine jh (fun hc=>?_) (fun hc=>?_))<;>(try simp (disch:=omega) only [zhb] at hc)<;>(try (exfalso;omega))<;>(try subst hc))|(with_reducible refine ji (by omega) ?_)|(simp (config := { maxSteps := 400000 }) only [↓jt,↓reduceIte,zvs,reduceCtorEq,Nat.reduceEqDiff,Nat.reduceAdd,Nat.reduceLeDiff,Nat.reduceMul,Int.reduceBNe,Int.reduceBEq,Int.reduceEq,Int.reduceNe,Int.reduceLT,Int.reduceLE,Int.reduceGT,Int.reduceGE,Int.reduceNeg,Int.reduceToNat,Nat.reduceLT,Nat.reduceSub,tab,h6,Try.results105,jTA])|(simp (disch:=omega) only [ziw]))
    all_goals first
      | (exfalso; omega)
      | (simp only [geoV]; simp only [zrds]; done)
  have hl0 : (v.getD 0 []).length = 128 := by
    have := hA _ (getD_mem' (show 0 < v.length by omega))
    rw [default_str] at this
    exact this
  have hl2 : (v.getD 2 []).length = 128 := by
    have := hA _ (getD_mem' (show 2 < v.length by omega))
    rw [default_str] at this
    exact this
  have hb : ((v.getD 0 []).drop 6 |>.take 2).length = 2 := by rw [List.length_take, List.length_drop]; omega
  have hN := rnum_get_spec (((v.getD 0 []).drop 6).take 2) (by omega)
  have hNl := getLE_lt (((v.getD 0 []).drop 6).take 2)
  rw [hb] at hNl
  generalize getLE (((v.getD 0 []).drop 6).take 2) = ino at hN hNl hR
  have hNl : ino < 65536 := hNl
  have hP := plan_spec v.length ino (by omega) (by omega)
  have hq : (planG v.length ino).2 ≠ 0 ∨ (planG v.length ino = (⟨v.length, ino, 1, 2, 3, 3 + ((ino : Int) + 1) / 2⟩, 0) ∧ 16 ≤ v.length ∧ v.length ≤ 223 ∧ 4 ≤ ino ∧ ino ≤ 64 ∧ 3 + (ino + 1) / 2 < v.length) := by
    unfold planG
    split
    · left; simp
    · split
      · left; simp
      · right; exact ⟨rfl, by omega, by omega, by omega, by omega, by omega⟩
  rcases hq with hq | ⟨hq, q1, q2, q3, q4, q5⟩
  · have hR : R = 3 := by
      rw [hR]
      split
      · rfl
      · rw [if_neg (by simp), if_pos (.inl hq)]
    rw [hR]
    obtain ⟨⟨g, e⟩, hp⟩ : ∃ x, planG v.length ino = x := ⟨_, rfl⟩
    rw [hp] at hP hq
    dsimp only at hq
    simp only [planV,geoV] at hP
    refine ⟨⟨0, 0, 0, 0, 0, 0⟩, spec_ok Try.func105 rfl rfl (by kernel_rfl) (k := 1) rfl (by decide) ?_⟩
    repeat' (first|(with_reducible first|refine yrl (by constructor) ?_|refine jk (fun M hM=>?_)|(refine hM _ ?_;clear hM M)|refine xb3 (by decide) ?_|refine yqa (by assumption) ?_ ?_|refine yqb (by assumption) ?_ ?_)|((with_reducible refine je ?_)<;>(first|rfl|assumption|(simp only [znl,znND];(first|done|fail))))|(with_reducible refine jf (by (simp only [↓reduceIte,zlk,Nat.reduceEqDiff,reduceCtorEq]);exact rfl) ?_)|((with_reducible first|refine jg (fun hc=>?_) (fun hc=>?_)|refine jh (fun hc=>?_) (fun hc=>?_))<;>(try simp (disch:=omega) only [zhb] at hc)<;>(try (exfalso;omega))<;>(try subst hc))|(with_reducible refine ji (by omega) ?_)|(simp (config := { maxSteps := 400000 }) only [↓jt,↓reduceIte,zvs,reduceCtorEq,Nat.reduceEqDiff,Nat.reduceAdd,Nat.reduceLeDiff,Nat.reduceMul,Int.reduceBNe,Int.reduceBEq,Int.reduceEq,Int.reduceNe,Int.reduceLT,Int.reduceLE,Int.reduceGT,Int.reduceGE,Int.reduceNeg,Int.reduceToNat,Nat.reduceLT,Nat.reduceSub,tab,h6,Try.results105,jTA])|(simp (disch:=omega) only [ziw]))
    all_goals (try (exfalso; omega))
    refine ok_loop (fun k : Nat => ⟨slots [(0, encStrs v), (2, .ptr 0 []), (13, encStrs v), (14, .int .i64 v.length), (15, .int .i64 k)], rows [(0, .row geoSh (.agg [.int .i64 0, .int .i64 0, .int .i64 0, .int .i64 0, .int .i64 0, .int .i64 0]))], 1⟩) (fun k => k ≤ v.length) (fun k => v.length - k) 0 ?_ (Nat.zero_le _) (fun k hk => ?_)
    · (refine yrn [(0, 0)] false ?_ ?_<;>(repeat' (first|(with_reducible first|exact ya1|exact ya2|exact ya3|refine jx rfl (by first|rfl|assumption|(simp only [znl,znND];(first|done|fail)))|exact ya5|exact ya7|exact jy|exact jz|refine jA ?_|refine ya9 ?_ ?_ ?_|refine jC rfl (by first|rfl|assumption|(simp only [znl,znND];(first|done|fail)))|refine MR.agg (MRL.cons ?_ ?_)|refine MR.fn ?_|refine MRL.cons ?_ ?_|exact MRL.nil|refine jE ?_ ?_|exact jF|exact jG|refine yb1 ?_ ?_|refine MB.row ?_|refine jI ?_ ?_|exact ya8|refine jJ rfl (by first|rfl|assumption|(simp only [znl,znND];(first|done|fail)))|refine yb2 ?_|rfl)|(simp only [znl,znND];(first|done|fail))|(simp only [↓reduceIte,zlk,Nat.reduceEqDiff,reduceCtorEq])|(with_reducible first|refine jJ ?_ ?_|refine ya5 ?_|refine ju ?_|refine jv ?_|refine jw ?_|refine jx ?_ (by first|rfl|assumption|(simp only [znl,znND];(first|done|fail)))|refine jC ?_ (by first|rfl|assumption|(simp only [znl,znND];(first|done|fail)))))))
      all_goals (first | rfl)
    by_cases hlt : k < v.length
    · have hsk := hA _ (getD_mem' hlt)
      rw [default_str] at hsk
      repeat' (first|(with_reducible first|refine yrl (by constructor) ?_|refine jk (fun M hM=>?_)|(refine hM _ ?_;clear hM M)|refine xb3 (by decide) ?_|refine yqa (by assumption) ?_ ?_|refine yqb (by assumption) ?_ ?_)|((with_reducible refine je ?_)<;>(first|rfl|assumption|(simp only [znl,znND];(first|done|fail))))|(with_reducible refine jf (by (simp only [↓reduceIte,zlk,Nat.reduceEqDiff,reduceCtorEq]);exact rfl) ?_)|((with_reducible first|refine jg (fun hc=>?_) (fun hc=>?_)|refine jh (fun hc=>?_) (fun hc=>?_))<;>(try simp (disch:=omega) only [zhb] at hc)<;>(try (exfalso;omega))<;>(try subst hc))|(with_reducible refine ji (by omega) ?_)|(simp (config := { maxSteps := 400000 }) only [↓jt,↓reduceIte,zvs,reduceCtorEq,Nat.reduceEqDiff,Nat.reduceAdd,Nat.reduceLeDiff,Nat.reduceMul,Int.reduceBNe,Int.reduceBEq,Int.reduceEq,Int.reduceNe,Int.reduceLT,Int.reduceLE,Int.reduceGT,Int.reduceGE,Int.reduceNeg,Int.reduceToNat,Nat.reduceLT,Nat.reduceSub,tab,h6,hsk,Try.results105,jTA])|(simp (disch:=omega) only [ziw]))
      all_goals first
        | (exfalso; omega)
        | (refine xl1 (k + 1) ?_ (by show k + 1 ≤ v.length; omega) (by show v.length - (k + 1) < v.length - k; omega); (refine yrn [(0, 0)] false ?_ ?_<;>(repeat' (first|(with_reducible first|exact ya1|exact ya2|exact ya3|refine jx rfl (by first|rfl|assumption|(simp only [znl,znND];(first|done|fail)))|exact ya5|exact ya7|exact jy|exact jz|refine jA ?_|refine ya9 ?_ ?_ ?_|refine jC rfl (by first|rfl|assumption|(simp only [znl,znND];(first|done|fail)))|refine MR.agg (MRL.cons ?_ ?_)|refine MR.fn ?_|refine MRL.cons ?_ ?_|exact MRL.nil|refine jE ?_ ?_|exact jF|exact jG|refine yb1 ?_ ?_|refine MB.row ?_|refine jI ?_ ?_|exact ya8|refine jJ rfl (by first|rfl|assumption|(simp only [znl,znND];(first|done|fail)))|refine yb2 ?_|rfl)|(simp only [znl,znND];(first|done|fail))|(simp only [↓reduceIte,zlk,Nat.reduceEqDiff,reduceCtorEq])|(with_reducible first|refine jJ ?_ ?_|refine ya5 ?_|refine ju ?_|refine jv ?_|refine jw ?_|refine jx ?_ (by first|rfl|assumption|(simp only [znl,znND];(first|done|fail)))|refine jC ?_ (by first|rfl|assumption|(simp only [znl,znND];(first|done|fail))))))); done)
    obtain rfl : k = v.length := by omega
    repeat' (first|(with_reducible first|refine yrl (by constructor) ?_|refine jk (fun M hM=>?_)|(refine hM _ ?_;clear hM M)|refine xb3 (by decide) ?_|refine yqa (by assumption) ?_ ?_|refine yqb (by assumption) ?_ ?_)|((with_reducible refine je ?_)<;>(first|rfl|assumption|(simp only [znl,znND];(first|done|fail))))|(with_reducible refine jf (by (simp only [↓reduceIte,zlk,Nat.reduceEqDiff,reduceCtorEq]);exact rfl) ?_)|((with_reducible first|refine jg (fun hc=>?_) (fun hc=>?_)|refine jh (fun hc=>?_) (fun hc=>?_))<;>(try simp (disch:=omega) only [zhb] at hc)<;>(try (exfalso;omega))<;>(try subst hc))|(with_reducible refine ji (by omega) ?_)|(simp (config := { maxSteps := 400000 }) only [↓jt,↓reduceIte,zvs,reduceCtorEq,Nat.reduceEqDiff,Nat.reduceAdd,Nat.reduceLeDiff,Nat.reduceMul,Int.reduceBNe,Int.reduceBEq,Int.reduceEq,Int.reduceNe,Int.reduceLT,Int.reduceLE,Int.reduceGT,Int.reduceGE,Int.reduceNeg,Int.reduceToNat,Nat.reduceLT,Nat.reduceSub,tab,h6,hl0,Try.results105,jTA])|(simp (disch:=omega) only [ziw]))
    refine ok_draw 9 (by kernel_rfl) (by decide +kernel) (by intro m hm; simp only [upd_ap,rows_cons,rows_nil]; (repeat (first | rfl | rw [if_neg (by omega)]))) (fun M hM => ?_); simp only [List.take_succ_cons,List.take_zero,List.drop_succ_cons,List.drop_zero]
    repeat' (first|(with_reducible first|refine yrl (by constructor) ?_|refine jk (fun M hM=>?_)|(refine hM _ ?_;clear hM M)|refine xb3 (by decide) ?_|refine yqa (by assumption) ?_ ?_|refine yqb (by assumption) ?_ ?_)|((with_reducible refine je ?_)<;>(first|rfl|assumption|(simp only [znl,znND];(first|done|fail))))|(with_reducible refine jf (by (simp only [↓reduceIte,zlk,Nat.reduceEqDiff,reduceCtorEq]);exact rfl) ?_)|((with_reducible first|refine jg (fun hc=>?_) (fun hc=>?_)|refine jh (fun hc=>?_) (fun hc=>?_))<;>(try simp (disch:=omega) only [zhb] at hc)<;>(try (exfalso;omega))<;>(try subst hc))|(with_reducible refine ji (by omega) ?_)|(simp (config := { maxSteps := 400000 }) only [↓jt,↓reduceIte,zvs,reduceCtorEq,Nat.reduceEqDiff,Nat.reduceAdd,Nat.reduceLeDiff,Nat.reduceMul,Int.reduceBNe,Int.reduceBEq,Int.reduceEq,Int.reduceNe,Int.reduceLT,Int.reduceLE,Int.reduceGT,Int.reduceGE,Int.reduceNeg,Int.reduceToNat,Nat.reduceLT,Nat.reduceSub,tab,h6,hl0,Try.results105,jTA])|(simp (disch:=omega) only [ziw]))
    all_goals first
      | (exfalso; omega)
      | (simp only [geoV]; simp only [zrds]; done)
  rw [hq] at hP hR
  simp only [planV,geoV] at hP
  have hH := head_spec ⟨v.length, ino, 1, 2, 3, 3 + ((ino : Int) + 1) / 2⟩ (by dsimp only; omega) (by dsimp only; omega)
  simp only [geoV] at hH
  rw [if_neg (by omega), if_neg (by simp)] at hR
  dsimp only at hR
  by_cases hd : v.getD 0 [] = headG v.length ino
  · rw [if_neg (by rintro (h | h); exact h rfl; exact h hd)] at hR
    rw [← hd] at hH
    refine ⟨if R = 0 then ⟨v.length, ino, 1, 2, 3, 3 + ((ino : Int) + 1) / 2⟩ else ⟨0, 0, 0, 0, 0, 0⟩, spec_ok Try.func105 rfl rfl (by kernel_rfl) (k := 1) rfl (by decide) ?_⟩
    repeat' (first|(with_reducible first|refine yrl (by constructor) ?_|refine jk (fun M hM=>?_)|(refine hM _ ?_;clear hM M)|refine xb3 (by decide) ?_|refine yqa (by assumption) ?_ ?_|refine yqb (by assumption) ?_ ?_)|((with_reducible refine je ?_)<;>(first|rfl|assumption|(simp only [znl,znND];(first|done|fail))))|(with_reducible refine jf (by (simp only [↓reduceIte,zlk,Nat.reduceEqDiff,reduceCtorEq]);exact rfl) ?_)|((with_reducible first|refine jg (fun hc=>?_) (fun hc=>?_)|refine jh (fun hc=>?_) (fun hc=>?_))<;>(try simp (disch:=omega) only [zhb] at hc)<;>(try (exfalso;omega))<;>(try subst hc))|(with_reducible refine ji (by omega) ?_)|(simp (config := { maxSteps := 400000 }) only [↓jt,↓reduceIte,zvs,reduceCtorEq,Nat.reduceEqDiff,Nat.reduceAdd,Nat.reduceLeDiff,Nat.reduceMul,Int.reduceBNe,Int.reduceBEq,Int.reduceEq,Int.reduceNe,Int.reduceLT,Int.reduceLE,Int.reduceGT,Int.reduceGE,Int.reduceNeg,Int.reduceToNat,Nat.reduceLT,Nat.reduceSub,tab,h6,Try.results105,jTA])|(simp (disch:=omega) only [ziw]))
    all_goals (try (exfalso; omega))
    refine ok_loop (fun k : Nat => ⟨slots [(0, encStrs v), (2, .ptr 0 []), (13, encStrs v), (14, .int .i64 v.length), (15, .int .i64 k)], rows [(0, .row geoSh (.agg [.int .i64 0, .int .i64 0, .int .i64 0, .int .i64 0, .int .i64 0, .int .i64 0]))], 1⟩) (fun k => k ≤ v.length) (fun k => v.length - k) 0 ?_ (Nat.zero_le _) (fun k hk => ?_)
    · (refine yrn [(0, 0)] false ?_ ?_<;>(repeat' (first|(with_reducible first|exact ya1|exact ya2|exact ya3|refine jx rfl (by first|rfl|assumption|(simp only [znl,znND];(first|done|fail)))|exact ya5|exact ya7|exact jy|exact jz|refine jA ?_|refine ya9 ?_ ?_ ?_|refine jC rfl (by first|rfl|assumption|(simp only [znl,znND];(first|done|fail)))|refine MR.agg (MRL.cons ?_ ?_)|refine MR.fn ?_|refine MRL.cons ?_ ?_|exact MRL.nil|refine jE ?_ ?_|exact jF|exact jG|refine yb1 ?_ ?_|refine MB.row ?_|refine jI ?_ ?_|exact ya8|refine jJ rfl (by first|rfl|assumption|(simp only [znl,znND];(first|done|fail)))|refine yb2 ?_|rfl)|(simp only [znl,znND];(first|done|fail))|(simp only [↓reduceIte,zlk,Nat.reduceEqDiff,reduceCtorEq])|(with_reducible first|refine jJ ?_ ?_|refine ya5 ?_|refine ju ?_|refine jv ?_|refine jw ?_|refine jx ?_ (by first|rfl|assumption|(simp only [znl,znND];(first|done|fail)))|refine jC ?_ (by first|rfl|assumption|(simp only [znl,znND];(first|done|fail)))))))
      all_goals (first | rfl)
    by_cases hlt : k < v.length
    · have hsk := hA _ (getD_mem' hlt)
      rw [default_str] at hsk
      repeat' (first|(with_reducible first|refine yrl (by constructor) ?_|refine jk (fun M hM=>?_)|(refine hM _ ?_;clear hM M)|refine xb3 (by decide) ?_|refine yqa (by assumption) ?_ ?_|refine yqb (by assumption) ?_ ?_)|((with_reducible refine je ?_)<;>(first|rfl|assumption|(simp only [znl,znND];(first|done|fail))))|(with_reducible refine jf (by (simp only [↓reduceIte,zlk,Nat.reduceEqDiff,reduceCtorEq]);exact rfl) ?_)|((with_reducible first|refine jg (fun hc=>?_) (fun hc=>?_)|refine jh (fun hc=>?_) (fun hc=>?_))<;>(try simp (disch:=omega) only [zhb] at hc)<;>(try (exfalso;omega))<;>(try subst hc))|(with_reducible refine ji (by omega) ?_)|(simp (config := { maxSteps := 400000 }) only [↓jt,↓reduceIte,zvs,reduceCtorEq,Nat.reduceEqDiff,Nat.reduceAdd,Nat.reduceLeDiff,Nat.reduceMul,Int.reduceBNe,Int.reduceBEq,Int.reduceEq,Int.reduceNe,Int.reduceLT,Int.reduceLE,Int.reduceGT,Int.reduceGE,Int.reduceNeg,Int.reduceToNat,Nat.reduceLT,Nat.reduceSub,tab,h6,hsk,Try.results105,jTA])|(simp (disch:=omega) only [ziw]))
      all_goals first
        | (exfalso; omega)
        | (refine xl1 (k + 1) ?_ (by show k + 1 ≤ v.length; omega) (by show v.length - (k + 1) < v.length - k; omega); (refine yrn [(0, 0)] false ?_ ?_<;>(repeat' (first|(with_reducible first|exact ya1|exact ya2|exact ya3|refine jx rfl (by first|rfl|assumption|(simp only [znl,znND];(first|done|fail)))|exact ya5|exact ya7|exact jy|exact jz|refine jA ?_|refine ya9 ?_ ?_ ?_|refine jC rfl (by first|rfl|assumption|(simp only [znl,znND];(first|done|fail)))|refine MR.agg (MRL.cons ?_ ?_)|refine MR.fn ?_|refine MRL.cons ?_ ?_|exact MRL.nil|refine jE ?_ ?_|exact jF|exact jG|refine yb1 ?_ ?_|refine MB.row ?_|refine jI ?_ ?_|exact ya8|refine jJ rfl (by first|rfl|assumption|(simp only [znl,znND];(first|done|fail)))|refine yb2 ?_|rfl)|(simp only [znl,znND];(first|done|fail))|(simp only [↓reduceIte,zlk,Nat.reduceEqDiff,reduceCtorEq])|(with_reducible first|refine jJ ?_ ?_|refine ya5 ?_|refine ju ?_|refine jv ?_|refine jw ?_|refine jx ?_ (by first|rfl|assumption|(simp only [znl,znND];(first|done|fail)))|refine jC ?_ (by first|rfl|assumption|(simp only [znl,znND];(first|done|fail))))))); done)
    obtain rfl : k = v.length := by omega
    repeat' (first|(with_reducible first|refine yrl (by constructor) ?_|refine jk (fun M hM=>?_)|(refine hM _ ?_;clear hM M)|refine xb3 (by decide) ?_|refine yqa (by assumption) ?_ ?_|refine yqb (by assumption) ?_ ?_)|((with_reducible refine je ?_)<;>(first|rfl|assumption|(simp only [znl,znND];(first|done|fail))))|(with_reducible refine jf (by (simp only [↓reduceIte,zlk,Nat.reduceEqDiff,reduceCtorEq]);exact rfl) ?_)|((with_reducible first|refine jg (fun hc=>?_) (fun hc=>?_)|refine jh (fun hc=>?_) (fun hc=>?_))<;>(try simp (disch:=omega) only [zhb] at hc)<;>(try (exfalso;omega))<;>(try subst hc))|(with_reducible refine ji (by omega) ?_)|(simp (config := { maxSteps := 400000 }) only [↓jt,↓reduceIte,zvs,reduceCtorEq,Nat.reduceEqDiff,Nat.reduceAdd,Nat.reduceLeDiff,Nat.reduceMul,Int.reduceBNe,Int.reduceBEq,Int.reduceEq,Int.reduceNe,Int.reduceLT,Int.reduceLE,Int.reduceGT,Int.reduceGE,Int.reduceNeg,Int.reduceToNat,Nat.reduceLT,Nat.reduceSub,tab,h6,hl0,Try.results105,jTA])|(simp (disch:=omega) only [ziw]))
    refine ok_draw 9 (by kernel_rfl) (by decide +kernel) (by intro m hm; simp only [upd_ap,rows_cons,rows_nil]; (repeat (first | rfl | rw [if_neg (by omega)]))) (fun M hM => ?_); simp only [List.take_succ_cons,List.take_zero,List.drop_succ_cons,List.drop_zero]
    repeat' (first|(with_reducible first|refine yrl (by constructor) ?_|refine jk (fun M hM=>?_)|(refine hM _ ?_;clear hM M)|refine xb3 (by decide) ?_|refine yqa (by assumption) ?_ ?_|refine yqb (by assumption) ?_ ?_)|((with_reducible refine je ?_)<;>(first|rfl|assumption|(simp only [znl,znND];(first|done|fail))))|(with_reducible refine jf (by (simp only [↓reduceIte,zlk,Nat.reduceEqDiff,reduceCtorEq]);exact rfl) ?_)|((with_reducible first|refine jg (fun hc=>?_) (fun hc=>?_)|refine jh (fun hc=>?_) (fun hc=>?_))<;>(try simp (disch:=omega) only [zhb] at hc)<;>(try (exfalso;omega))<;>(try subst hc))|(with_reducible refine ji (by omega) ?_)|(simp (config := { maxSteps := 400000 }) only [↓jt,↓reduceIte,zvs,reduceCtorEq,Nat.reduceEqDiff,Nat.reduceAdd,Nat.reduceLeDiff,Nat.reduceMul,Int.reduceBNe,Int.reduceBEq,Int.reduceEq,Int.reduceNe,Int.reduceLT,Int.reduceLE,Int.reduceGT,Int.reduceGE,Int.reduceNeg,Int.reduceToNat,Nat.reduceLT,Nat.reduceSub,tab,h6,hl0,Try.results105,jTA])|(simp (disch:=omega) only [ziw]))
    obtain ⟨Q, hQ⟩ : ∃ Q : Nat → Bool, Q = fun (k : Nat) => !((decide ((k : Int) < 3 + ((ino : Int) + 1) / 2) && !bitB (v.getD 2 []) k) || (decide ((v.length : Int) ≤ k) && bitB (v.getD 2 []) k)) := ⟨_, rfl⟩
    rw [← hQ] at hR
    refine ok_loop (fun k : Nat => ⟨slots [(0, encStrs v), (2, .ptr 0 []), (6, .ptr 1 []), (8, .int .i64 k)], rows [(0, .row geoSh (.agg [.int .i64 0, .int .i64 0, .int .i64 0, .int .i64 0, .int .i64 0, .int .i64 0])), (1, .row geoSh (.agg [.int .i64 v.length, .int .i64 ino, .int .i64 1, .int .i64 2, .int .i64 3, .int .i64 (3 + ((ino : Int) + 1) / 2)]))], 2⟩) (fun k => k ≤ 1024 ∧ ∀ j, j < k → Q j = true) (fun k => 1024 - k) 0 ?_ ⟨Nat.zero_le _, fun j hj => by omega⟩ (fun k hk => ?_)
    · (refine yrn [(0, 0), (1, 1)] false ?_ ?_<;>(repeat' (first|(with_reducible first|exact ya1|exact ya2|exact ya3|refine jx rfl (by first|rfl|assumption|(simp only [znl,znND];(first|done|fail)))|exact ya5|exact ya7|exact jy|exact jz|refine jA ?_|refine ya9 ?_ ?_ ?_|refine jC rfl (by first|rfl|assumption|(simp only [znl,znND];(first|done|fail)))|refine MR.agg (MRL.cons ?_ ?_)|refine MR.fn ?_|refine MRL.cons ?_ ?_|exact MRL.nil|refine jE ?_ ?_|exact jF|exact jG|refine yb1 ?_ ?_|refine MB.row ?_|refine jI ?_ ?_|exact ya8|refine jJ rfl (by first|rfl|assumption|(simp only [znl,znND];(first|done|fail)))|refine yb2 ?_|rfl)|(simp only [znl,znND];(first|done|fail))|(simp only [↓reduceIte,zlk,Nat.reduceEqDiff,reduceCtorEq])|(with_reducible first|refine jJ ?_ ?_|refine ya5 ?_|refine ju ?_|refine jv ?_|refine jw ?_|refine jx ?_ (by first|rfl|assumption|(simp only [znl,znND];(first|done|fail)))|refine jC ?_ (by first|rfl|assumption|(simp only [znl,znND];(first|done|fail)))))))
      all_goals (first | rfl)
    obtain ⟨hk, hn⟩ := hk
    by_cases hlt : k < 1024
    · have hB := bit_spec (v.getD 2 []) hl2 k hlt
      have hF : Q k = false → R = 3 := fun h => by
        rw [hR, if_neg]
        rw [List.all_eq_true]
        intro h2
        rw [h2 k (List.mem_range.2 hlt)] at h
        cases h
      have hst : Q k = true → ∀ j, j < k + 1 → Q j = true := fun h j hj => by
        by_cases e : j = k
        · rw [e]; exact h
        · exact hn j (by omega)
      have hQk : Q k = !((decide ((k : Int) < 3 + ((ino : Int) + 1) / 2) && !bitB (v.getD 2 []) k) || (decide ((v.length : Int) ≤ k) && bitB (v.getD 2 []) k)) := by rw [hQ]
      generalize bitB (v.getD 2 []) k = b at hB hQk
      cases b
      all_goals
        repeat' (first|(with_reducible first|refine yrl (by constructor) ?_|refine jk (fun M hM=>?_)|(refine hM _ ?_;clear hM M)|refine xb3 (by decide) ?_|refine yqa (by assumption) ?_ ?_|refine yqb (by assumption) ?_ ?_)|((with_reducible refine je ?_)<;>(first|rfl|assumption|(simp only [znl,znND];(first|done|fail))))|(with_reducible refine jf (by (simp only [↓reduceIte,zlk,Nat.reduceEqDiff,reduceCtorEq]);exact rfl) ?_)|((with_reducible first|refine jg (fun hc=>?_) (fun hc=>?_)|refine jh (fun hc=>?_) (fun hc=>?_))<;>(try simp (disch:=omega) only [zhb] at hc)<;>(try (exfalso;omega))<;>(try subst hc))|(with_reducible refine ji (by omega) ?_)|(simp (config := { maxSteps := 400000 }) only [↓jt,↓reduceIte,zvs,reduceCtorEq,Nat.reduceEqDiff,Nat.reduceAdd,Nat.reduceLeDiff,Nat.reduceMul,Int.reduceBNe,Int.reduceBEq,Int.reduceEq,Int.reduceNe,Int.reduceLT,Int.reduceLE,Int.reduceGT,Int.reduceGE,Int.reduceNeg,Int.reduceToNat,Nat.reduceLT,Nat.reduceSub,tab,h6,hl2,Try.results105,jTA])|(simp (disch:=omega) only [ziw]))
        all_goals first
          | (exfalso; omega)
          | (rw [hF (by rw [hQk]; first | (rw [decide_eq_true (by omega)]; rfl) | (rw [decide_eq_false (by omega), decide_eq_true (by omega)]; rfl) | (rw [decide_eq_true (by omega), decide_eq_true (by omega)]; rfl)), if_neg (by omega)]; simp only [geoV]; simp only [zrds]; done)
          | (refine xl1 (k + 1) ?_ ⟨by omega, hst (by rw [hQk]; first | (rw [decide_eq_false (by omega)]; (first | rfl | (cases decide ((v.length : Int) ≤ k) <;> rfl))) | (rw [decide_eq_false (show ¬(v.length : Int) ≤ k by omega)]; cases decide ((k : Int) < 3 + ((ino : Int) + 1) / 2) <;> rfl))⟩ (by show 1024 - (k + 1) < 1024 - k; omega); (refine yrn [(0, 0), (1, 1)] false ?_ ?_<;>(repeat' (first|(with_reducible first|exact ya1|exact ya2|exact ya3|refine jx rfl (by first|rfl|assumption|(simp only [znl,znND];(first|done|fail)))|exact ya5|exact ya7|exact jy|exact jz|refine jA ?_|refine ya9 ?_ ?_ ?_|refine jC rfl (by first|rfl|assumption|(simp only [znl,znND];(first|done|fail)))|refine MR.agg (MRL.cons ?_ ?_)|refine MR.fn ?_|refine MRL.cons ?_ ?_|exact MRL.nil|refine jE ?_ ?_|exact jF|exact jG|refine yb1 ?_ ?_|refine MB.row ?_|refine jI ?_ ?_|exact ya8|refine jJ rfl (by first|rfl|assumption|(simp only [znl,znND];(first|done|fail)))|refine yb2 ?_|rfl)|(simp only [znl,znND];(first|done|fail))|(simp only [↓reduceIte,zlk,Nat.reduceEqDiff,reduceCtorEq])|(with_reducible first|refine jJ ?_ ?_|refine ya5 ?_|refine ju ?_|refine jv ?_|refine jw ?_|refine jx ?_ (by first|rfl|assumption|(simp only [znl,znND];(first|done|fail)))|refine jC ?_ (by first|rfl|assumption|(simp only [znl,znND];(first|done|fail))))))); done)
    · obtain rfl : k = 1024 := by omega
      have hT : R = 0 := by
        rw [hR, if_pos]
        rw [List.all_eq_true]
        intro j hj
        exact hn j (List.mem_range.1 hj)
      rw [hT, if_pos rfl]
      repeat' (first|(with_reducible first|refine yrl (by constructor) ?_|refine jk (fun M hM=>?_)|(refine hM _ ?_;clear hM M)|refine xb3 (by decide) ?_|refine yqa (by assumption) ?_ ?_|refine yqb (by assumption) ?_ ?_)|((with_reducible refine je ?_)<;>(first|rfl|assumption|(simp only [znl,znND];(first|done|fail))))|(with_reducible refine jf (by (simp only [↓reduceIte,zlk,Nat.reduceEqDiff,reduceCtorEq]);exact rfl) ?_)|((with_reducible first|refine jg (fun hc=>?_) (fun hc=>?_)|refine jh (fun hc=>?_) (fun hc=>?_))<;>(try simp (disch:=omega) only [zhb] at hc)<;>(try (exfalso;omega))<;>(try subst hc))|(with_reducible refine ji (by omega) ?_)|(simp (config := { maxSteps := 400000 }) only [↓jt,↓reduceIte,zvs,reduceCtorEq,Nat.reduceEqDiff,Nat.reduceAdd,Nat.reduceLeDiff,Nat.reduceMul,Int.reduceBNe,Int.reduceBEq,Int.reduceEq,Int.reduceNe,Int.reduceLT,Int.reduceLE,Int.reduceGT,Int.reduceGE,Int.reduceNeg,Int.reduceToNat,Nat.reduceLT,Nat.reduceSub,tab,h6,hl2,Try.results105,jTA])|(simp (disch:=omega) only [ziw]))
      all_goals first
        | (exfalso; omega)
        | (simp only [geoV]; simp only [zrds]; done)
  · have hR : R = 3 := by rw [hR, if_pos (.inr hd)]
    rw [hR]
    refine ⟨⟨0, 0, 0, 0, 0, 0⟩, spec_ok Try.func105 rfl rfl (by kernel_rfl) (k := 1) rfl (by decide) ?_⟩
    repeat' (first|(with_reducible first|refine yrl (by constructor) ?_|refine jk (fun M hM=>?_)|(refine hM _ ?_;clear hM M)|refine xb3 (by decide) ?_|refine yqa (by assumption) ?_ ?_|refine yqb (by assumption) ?_ ?_)|((with_reducible refine je ?_)<;>(first|rfl|assumption|(simp only [znl,znND];(first|done|fail))))|(with_reducible refine jf (by (simp only [↓reduceIte,zlk,Nat.reduceEqDiff,reduceCtorEq]);exact rfl) ?_)|((with_reducible first|refine jg (fun hc=>?_) (fun hc=>?_)|refine jh (fun hc=>?_) (fun hc=>?_))<;>(try simp (disch:=omega) only [zhb] at hc)<;>(try (exfalso;omega))<;>(try subst hc))|(with_reducible refine ji (by omega) ?_)|(simp (config := { maxSteps := 400000 }) only [↓jt,↓reduceIte,zvs,reduceCtorEq,Nat.reduceEqDiff,Nat.reduceAdd,Nat.reduceLeDiff,Nat.reduceMul,Int.reduceBNe,Int.reduceBEq,Int.reduceEq,Int.reduceNe,Int.reduceLT,Int.reduceLE,Int.reduceGT,Int.reduceGE,Int.reduceNeg,Int.reduceToNat,Nat.reduceLT,Nat.reduceSub,tab,h6,Try.results105,jTA])|(simp (disch:=omega) only [ziw]))
    all_goals (try (exfalso; omega))
    refine ok_loop (fun k : Nat => ⟨slots [(0, encStrs v), (2, .ptr 0 []), (13, encStrs v), (14, .int .i64 v.length), (15, .int .i64 k)], rows [(0, .row geoSh (.agg [.int .i64 0, .int .i64 0, .int .i64 0, .int .i64 0, .int .i64 0, .int .i64 0]))], 1⟩) (fun k => k ≤ v.length) (fun k => v.length - k) 0 ?_ (Nat.zero_le _) (fun k hk => ?_)
    · (refine yrn [(0, 0)] false ?_ ?_<;>(repeat' (first|(with_reducible first|exact ya1|exact ya2|exact ya3|refine jx rfl (by first|rfl|assumption|(simp only [znl,znND];(first|done|fail)))|exact ya5|exact ya7|exact jy|exact jz|refine jA ?_|refine ya9 ?_ ?_ ?_|refine jC rfl (by first|rfl|assumption|(simp only [znl,znND];(first|done|fail)))|refine MR.agg (MRL.cons ?_ ?_)|refine MR.fn ?_|refine MRL.cons ?_ ?_|exact MRL.nil|refine jE ?_ ?_|exact jF|exact jG|refine yb1 ?_ ?_|refine MB.row ?_|refine jI ?_ ?_|exact ya8|refine jJ rfl (by first|rfl|assumption|(simp only [znl,znND];(first|done|fail)))|refine yb2 ?_|rfl)|(simp only [znl,znND];(first|done|fail))|(simp only [↓reduceIte,zlk,Nat.reduceEqDiff,reduceCtorEq])|(with_reducible first|refine jJ ?_ ?_|refine ya5 ?_|refine ju ?_|refine jv ?_|refine jw ?_|refine jx ?_ (by first|rfl|assumption|(simp only [znl,znND];(first|done|fail)))|refine jC ?_ (by first|rfl|assumption|(simp only [znl,znND];(first|done|fail)))))))
      all_goals (first | rfl)
    by_cases hlt : k < v.length
    · have hsk := hA _ (getD_mem' hlt)
      rw [default_str] at hsk
      repeat' (first|(with_reducible first|refine yrl (by constructor) ?_|refine jk (fun M hM=>?_)|(refine hM _ ?_;clear hM M)|refine xb3 (by decide) ?_|refine yqa (by assumption) ?_ ?_|refine yqb (by assumption) ?_ ?_)|((with_reducible refine je ?_)<;>(first|rfl|assumption|(simp only [znl,znND];(first|done|fail))))|(with_reducible refine jf (by (simp only [↓reduceIte,zlk,Nat.reduceEqDiff,reduceCtorEq]);exact rfl) ?_)|((with_reducible first|refine jg (fun hc=>?_) (fun hc=>?_)|refine jh (fun hc=>?_) (fun hc=>?_))<;>(try simp (disch:=omega) only [zhb] at hc)<;>(try (exfalso;omega))<;>(try subst hc))|(with_reducible refine ji (by omega) ?_)|(simp (config := { maxSteps := 400000 }) only [↓jt,↓reduceIte,zvs,reduceCtorEq,Nat.reduceEqDiff,Nat.reduceAdd,Nat.reduceLeDiff,Nat.reduceMul,Int.reduceBNe,Int.reduceBEq,Int.reduceEq,Int.reduceNe,Int.reduceLT,Int.reduceLE,Int.reduceGT,Int.reduceGE,Int.reduceNeg,Int.reduceToNat,Nat.reduceLT,Nat.reduceSub,tab,h6,hsk,Try.results105,jTA])|(simp (disch:=omega) only [ziw]))
      all_goals first
        | (exfalso; omega)
        | (refine xl1 (k + 1) ?_ (by show k + 1 ≤ v.length; omega) (by show v.length - (k + 1) < v.length - k; omega); (refine yrn [(0, 0)] false ?_ ?_<;>(repeat' (first|(with_reducible first|exact ya1|exact ya2|exact ya3|refine jx rfl (by first|rfl|assumption|(simp only [znl,znND];(first|done|fail)))|exact ya5|exact ya7|exact jy|exact jz|refine jA ?_|refine ya9 ?_ ?_ ?_|refine jC rfl (by first|rfl|assumption|(simp only [znl,znND];(first|done|fail)))|refine MR.agg (MRL.cons ?_ ?_)|refine MR.fn ?_|refine MRL.cons ?_ ?_|exact MRL.nil|refine jE ?_ ?_|exact jF|exact jG|refine yb1 ?_ ?_|refine MB.row ?_|refine jI ?_ ?_|exact ya8|refine jJ rfl (by first|rfl|assumption|(simp only [znl,znND];(first|done|fail)))|refine yb2 ?_|rfl)|(simp only [znl,znND];(first|done|fail))|(simp only [↓reduceIte,zlk,Nat.reduceEqDiff,reduceCtorEq])|(with_reducible first|refine jJ ?_ ?_|refine ya5 ?_|refine ju ?_|refine jv ?_|refine jw ?_|refine jx ?_ (by first|rfl|assumption|(simp only [znl,znND];(first|done|fail)))|refine jC ?_ (by first|rfl|assumption|(simp only [znl,znND];(first|done|fail))))))); done)
    obtain rfl : k = v.length := by omega
    repeat' (first|(with_reducible first|refine yrl (by constructor) ?_|refine jk (fun M hM=>?_)|(refine hM _ ?_;clear hM M)|refine xb3 (by decide) ?_|refine yqa (by assumption) ?_ ?_|refine yqb (by assumption) ?_ ?_)|((with_reducible refine je ?_)<;>(first|rfl|assumption|(simp only [znl,znND];(first|done|fail))))|(with_reducible refine jf (by (simp only [↓reduceIte,zlk,Nat.reduceEqDiff,reduceCtorEq]);exact rfl) ?_)|((with_reducible first|refine jg (fun hc=>?_) (fun hc=>?_)|refine jh (fun hc=>?_) (fun hc=>?_))<;>(try simp (disch:=omega) only [zhb] at hc)<;>(try (exfalso;omega))<;>(try subst hc))|(with_reducible refine ji (by omega) ?_)|(simp (config := { maxSteps := 400000 }) only [↓jt,↓reduceIte,zvs,reduceCtorEq,Nat.reduceEqDiff,Nat.reduceAdd,Nat.reduceLeDiff,Nat.reduceMul,Int.reduceBNe,Int.reduceBEq,Int.reduceEq,Int.reduceNe,Int.reduceLT,Int.reduceLE,Int.reduceGT,Int.reduceGE,Int.reduceNeg,Int.reduceToNat,Nat.reduceLT,Nat.reduceSub,tab,h6,hl0,Try.results105,jTA])|(simp (disch:=omega) only [ziw]))
    refine ok_draw 9 (by kernel_rfl) (by decide +kernel) (by intro m hm; simp only [upd_ap,rows_cons,rows_nil]; (repeat (first | rfl | rw [if_neg (by omega)]))) (fun M hM => ?_); simp only [List.take_succ_cons,List.take_zero,List.drop_succ_cons,List.drop_zero]
    repeat' (first|(with_reducible first|refine yrl (by constructor) ?_|refine jk (fun M hM=>?_)|(refine hM _ ?_;clear hM M)|refine xb3 (by decide) ?_|refine yqa (by assumption) ?_ ?_|refine yqb (by assumption) ?_ ?_)|((with_reducible refine je ?_)<;>(first|rfl|assumption|(simp only [znl,znND];(first|done|fail))))|(with_reducible refine jf (by (simp only [↓reduceIte,zlk,Nat.reduceEqDiff,reduceCtorEq]);exact rfl) ?_)|((with_reducible first|refine jg (fun hc=>?_) (fun hc=>?_)|refine jh (fun hc=>?_) (fun hc=>?_))<;>(try simp (disch:=omega) only [zhb] at hc)<;>(try (exfalso;omega))<;>(try subst hc))|(with_reducible refine ji (by omega) ?_)|(simp (config := { maxSteps := 400000 }) only [↓jt,↓reduceIte,zvs,reduceCtorEq,Nat.reduceEqDiff,Nat.reduceAdd,Nat.reduceLeDiff,Nat.reduceMul,Int.reduceBNe,Int.reduceBEq,Int.reduceEq,Int.reduceNe,Int.reduceLT,Int.reduceLE,Int.reduceGT,Int.reduceGE,Int.reduceNeg,Int.reduceToNat,Nat.reduceLT,Nat.reduceSub,tab,h6,hl0,Try.results105,jTA])|(simp (disch:=omega) only [ziw]))
    all_goals first
      | (exfalso; omega)
      | (exfalso; exact hd hc)
      | (simp only [geoV]; simp only [zrds]; done)
end Go.Proofs.Ytginpdejpibdjaa.V
end
section
namespace Go.Proofs.Ytginpdejpibdjaa.V
open Go
set_option maxRecDepth 100000
def znN5 := And.intro @jO <| And.intro @jP <| And.intro @jQ <| And.intro @jR <| And.intro @jS <| And.intro @jT <| And.intro @jU <| True.intro
set_option maxHeartbeats 1000000
theorem pipe_hit {l : List Pip} {id : Int} {k : Nat} (h : k < l.length) (hn : ∀ j, j < k → (l.getD j default).id ≠ id) (hk : (l.getD k default).id = id) : pipeO l id = some (l.getD k default) := by
  unfold pipeO
  rw [List.find?_eq_some_iff_getElem]
  have e : l.getD k default = l[k] := by rw [List.getD_eq_getElem?_getD, List.getElem?_eq_getElem h]; rfl
  refine ⟨by simpa using hk, k, h, e.symm, fun j hj => ?_⟩
  have := hn j hj
  rw [List.getD_eq_getElem?_getD, List.getElem?_eq_getElem (by omega)] at this
  simpa using this
theorem pipe_miss {l : List Pip} {id : Int} (hn : ∀ j, j < l.length → (l.getD j default).id ≠ id) : pipeO l id = none := by
  unfold pipeO
  rw [List.find?_eq_none]
  intro x hx
  obtain ⟨j, hj, rfl⟩ := List.mem_iff_getElem.1 hx
  have := hn j hj
  rw [List.getD_eq_getElem?_getD, List.getElem?_eq_getElem hj] at this
  simpa using this
theorem rpipe_spec (m : Mach) (hm : MFit 20000 m) (id : Int) (hp : i64R id) : Spec Try.prog 42 [encM m, .int .i64 id] (pipeV (pipeO m.pipes id)) := by
  obtain ⟨R, hR⟩ : ∃ R, R = pipeV (pipeO m.pipes id) := ⟨_, rfl⟩
  rw [← hR]
  have hl := hm.pipes
  have hpR := hm.pipesR
  obtain ⟨hp1, hp2⟩ := hp
  refine spec_ok Try.func42 rfl rfl (by kernel_rfl) (k := 2) rfl (by decide) ?_
  repeat' (first|(with_reducible first|refine yrl (by constructor) ?_|refine jk (fun M hM=>?_)|(refine hM _ ?_;clear hM M)|refine xb3 (by decide) ?_|refine yqa (by assumption) ?_ ?_|refine yqb (by assumption) ?_ ?_)|((with_reducible refine je ?_)<;>(first|rfl|assumption|(simp only [znl,znN5];(first|done|fail))))|(with_reducible refine jf (by (simp only [↓reduceIte,zlk,Nat.reduceEqDiff,reduceCtorEq]);exact rfl) ?_)|((with_reducible first|refine jg (fun hc=>?_) (fun hc=>?_)|refine jh (fun hc=>?_) (fun hc=>?_))<;>(try simp (disch:=omega) only [zhb] at hc)<;>(try (exfalso;omega))<;>(try subst hc))|(with_reducible refine ji (by omega) ?_)|(simp (config := { maxSteps := 400000 }) only [↓jt,↓reduceIte,zvs,reduceCtorEq,Nat.reduceEqDiff,Nat.reduceAdd,Nat.reduceLeDiff,Nat.reduceMul,Int.reduceBNe,Int.reduceBEq,Int.reduceEq,Int.reduceNe,Int.reduceLT,Int.reduceLE,Int.reduceGT,Int.reduceGE,Int.reduceNeg,Int.reduceToNat,Nat.reduceLT,Nat.reduceSub,tab,Try.results42,jTA])|(simp (disch:=omega) only [ziw]))
  refine ok_loop (fun k : Nat => ⟨slots [(1, .int .i64 id), (2, .ptr 0 []), (4, .ptr 1 []), (5, .bool false), (9, encPis m.pipes), (10, .int .i64 m.pipes.length), (11, .int .i64 k)], rows [(0, .row machSh (encM m)), (1, .row piSh (.agg [.int .i64 0, .str []]))], 2⟩) (fun k => k ≤ m.pipes.length ∧ ∀ j, j < k → (m.pipes.getD j default).id ≠ id) (fun k => m.pipes.length - k) 0 ?_ ⟨Nat.zero_le _, fun j hj => by omega⟩ (fun k hk => ?_)
  · (refine yrn [(0, 0), (1, 1)] false ?_ ?_<;>(repeat' (first|(with_reducible first|exact ya1|exact ya2|exact ya3|refine jx rfl (by first|rfl|assumption|(simp only [znl,znN5];(first|done|fail)))|exact ya5|exact ya7|exact jy|exact jz|refine jA ?_|refine ya9 ?_ ?_ ?_|refine jC rfl (by first|rfl|assumption|(simp only [znl,znN5];(first|done|fail)))|refine MR.agg (MRL.cons ?_ ?_)|refine MR.fn ?_|refine MRL.cons ?_ ?_|exact MRL.nil|refine jE ?_ ?_|exact jF|exact jG|refine yb1 ?_ ?_|refine MB.row ?_|refine jI ?_ ?_|exact ya8|refine jJ rfl (by first|rfl|assumption|(simp only [znl,znN5];(first|done|fail)))|refine yb2 ?_|rfl)|(simp only [znl,znN5];(first|done|fail))|(simp only [↓reduceIte,zlk,Nat.reduceEqDiff,reduceCtorEq])|(with_reducible first|refine jJ ?_ ?_|refine ya5 ?_|refine ju ?_|refine jv ?_|refine jw ?_|refine jx ?_ (by first|rfl|assumption|(simp only [znl,znN5];(first|done|fail)))|refine jC ?_ (by first|rfl|assumption|(simp only [znl,znN5];(first|done|fail)))))))
  obtain ⟨hk, hn⟩ := hk
  by_cases hlt : k < m.pipes.length
  · obtain ⟨⟨hb1, hb2⟩, hb3⟩ := hpR _ (getD_mem' hlt)
    by_cases hq : (m.pipes.getD k default).id = id
    · rw [pipe_hit hlt hn hq] at hR
      repeat' (first|(with_reducible first|refine yrl (by constructor) ?_|refine jk (fun M hM=>?_)|(refine hM _ ?_;clear hM M)|refine xb3 (by decide) ?_|refine yqa (by assumption) ?_ ?_|refine yqb (by assumption) ?_ ?_)|((with_reducible refine je ?_)<;>(first|rfl|assumption|(simp only [znl,znN5];(first|done|fail))))|(with_reducible refine jf (by (simp only [↓reduceIte,zlk,Nat.reduceEqDiff,reduceCtorEq]);exact rfl) ?_)|((with_reducible first|refine jg (fun hc=>?_) (fun hc=>?_)|refine jh (fun hc=>?_) (fun hc=>?_))<;>(try simp (disch:=omega) only [zhb] at hc)<;>(try (exfalso;omega))<;>(try subst hc))|(with_reducible refine ji (by omega) ?_)|(simp (config := { maxSteps := 400000 }) only [↓jt,↓reduceIte,zvs,reduceCtorEq,Nat.reduceEqDiff,Nat.reduceAdd,Nat.reduceLeDiff,Nat.reduceMul,Int.reduceBNe,Int.reduceBEq,Int.reduceEq,Int.reduceNe,Int.reduceLT,Int.reduceLE,Int.reduceGT,Int.reduceGE,Int.reduceNeg,Int.reduceToNat,Nat.reduceLT,Nat.reduceSub,tab,encPi,Try.results42,jTA])|(simp (disch:=omega) only [ziw]))
      all_goals first
        | (exfalso; omega)
        | (rw [hR]; simp only [pipeV,encPi]; simp only [zrds]; done)
        | (rw [hR]; simp only [pipeV,encPi]; simp only [zrds]; rw [hq])
    · repeat' (first|(with_reducible first|refine yrl (by constructor) ?_|refine jk (fun M hM=>?_)|(refine hM _ ?_;clear hM M)|refine xb3 (by decide) ?_|refine yqa (by assumption) ?_ ?_|refine yqb (by assumption) ?_ ?_)|((with_reducible refine je ?_)<;>(first|rfl|assumption|(simp only [znl,znN5];(first|done|fail))))|(with_reducible refine jf (by (simp only [↓reduceIte,zlk,Nat.reduceEqDiff,reduceCtorEq]);exact rfl) ?_)|((with_reducible first|refine jg (fun hc=>?_) (fun hc=>?_)|refine jh (fun hc=>?_) (fun hc=>?_))<;>(try simp (disch:=omega) only [zhb] at hc)<;>(try (exfalso;omega))<;>(try subst hc))|(with_reducible refine ji (by omega) ?_)|(simp (config := { maxSteps := 400000 }) only [↓jt,↓reduceIte,zvs,reduceCtorEq,Nat.reduceEqDiff,Nat.reduceAdd,Nat.reduceLeDiff,Nat.reduceMul,Int.reduceBNe,Int.reduceBEq,Int.reduceEq,Int.reduceNe,Int.reduceLT,Int.reduceLE,Int.reduceGT,Int.reduceGE,Int.reduceNeg,Int.reduceToNat,Nat.reduceLT,Nat.reduceSub,tab,encPi,Try.results42,jTA])|(simp (disch:=omega) only [ziw]))
      all_goals first
        | (exfalso; omega)
        | (refine xl1 (k + 1) ?_ ⟨by omega, fun j hj => ?_⟩ (by show m.pipes.length - (k + 1) < m.pipes.length - k; omega) <;> first | (by_cases e : j = k; (rw [e]; exact hq); exact hn j (by omega)) | ((refine yrn [(0, 0), (1, 1)] false ?_ ?_<;>(repeat' (first|(with_reducible first|exact ya1|exact ya2|exact ya3|refine jx rfl (by first|rfl|assumption|(simp only [znl,znN5];(first|done|fail)))|exact ya5|exact ya7|exact jy|exact jz|refine jA ?_|refine ya9 ?_ ?_ ?_|refine jC rfl (by first|rfl|assumption|(simp only [znl,znN5];(first|done|fail)))|refine MR.agg (MRL.cons ?_ ?_)|refine MR.fn ?_|refine MRL.cons ?_ ?_|exact MRL.nil|refine jE ?_ ?_|exact jF|exact jG|refine yb1 ?_ ?_|refine MB.row ?_|refine jI ?_ ?_|exact ya8|refine jJ rfl (by first|rfl|assumption|(simp only [znl,znN5];(first|done|fail)))|refine yb2 ?_|rfl)|(simp only [znl,znN5];(first|done|fail))|(simp only [↓reduceIte,zlk,Nat.reduceEqDiff,reduceCtorEq])|(with_reducible first|refine jJ ?_ ?_|refine ya5 ?_|refine ju ?_|refine jv ?_|refine jw ?_|refine jx ?_ (by first|rfl|assumption|(simp only [znl,znN5];(first|done|fail)))|refine jC ?_ (by first|rfl|assumption|(simp only [znl,znN5];(first|done|fail))))))); done))
  · obtain rfl : k = m.pipes.length := by omega
    rw [pipe_miss hn] at hR
    repeat' (first|(with_reducible first|refine yrl (by constructor) ?_|refine jk (fun M hM=>?_)|(refine hM _ ?_;clear hM M)|refine xb3 (by decide) ?_|refine yqa (by assumption) ?_ ?_|refine yqb (by assumption) ?_ ?_)|((with_reducible refine je ?_)<;>(first|rfl|assumption|(simp only [znl,znN5];(first|done|fail))))|(with_reducible refine jf (by (simp only [↓reduceIte,zlk,Nat.reduceEqDiff,reduceCtorEq]);exact rfl) ?_)|((with_reducible first|refine jg (fun hc=>?_) (fun hc=>?_)|refine jh (fun hc=>?_) (fun hc=>?_))<;>(try simp (disch:=omega) only [zhb] at hc)<;>(try (exfalso;omega))<;>(try subst hc))|(with_reducible refine ji (by omega) ?_)|(simp (config := { maxSteps := 400000 }) only [↓jt,↓reduceIte,zvs,reduceCtorEq,Nat.reduceEqDiff,Nat.reduceAdd,Nat.reduceLeDiff,Nat.reduceMul,Int.reduceBNe,Int.reduceBEq,Int.reduceEq,Int.reduceNe,Int.reduceLT,Int.reduceLE,Int.reduceGT,Int.reduceGE,Int.reduceNeg,Int.reduceToNat,Nat.reduceLT,Nat.reduceSub,tab,encPi,Try.results42,jTA])|(simp (disch:=omega) only [ziw]))
    all_goals first
      | (exfalso; omega)
      | (rw [hR]; simp only [pipeV]; simp only [zrds]; done)
theorem users_spec (m : Mach) (hm : MFit 20000 m) (f : Int) (hf : i64R f) : Spec Try.prog 72 [encM m, .int .i64 f] (.int .i64 (usersN m.pr f)) := by
  obtain ⟨R, hR⟩ : ∃ R, R = usersN m.pr f := ⟨_, rfl⟩
  rw [← hR]
  have hl := hm.pr
  have hpR := hm.prR
  have hU : ∀ k, k ≤ m.pr.length → usersN (m.pr.take k) f ≤ 16 * k := fun k hk => by
    have := usersN_le f (m.pr.take k) fun p hp => (hpR p (List.mem_of_mem_take hp)).sp
    rw [List.length_take] at this
    omega
  obtain ⟨hp1, hp2⟩ := hf
  refine spec_ok Try.func72 rfl rfl (by kernel_rfl) (k := 2) rfl (by decide) ?_
  repeat' (first|(with_reducible first|refine yrl (by constructor) ?_|refine jk (fun M hM=>?_)|(refine hM _ ?_;clear hM M)|refine xb3 (by decide) ?_|refine yqa (by assumption) ?_ ?_|refine yqb (by assumption) ?_ ?_)|((with_reducible refine je ?_)<;>(first|rfl|assumption|(simp only [znl,znN5];(first|done|fail))))|(with_reducible refine jf (by (simp only [↓reduceIte,zlk,Nat.reduceEqDiff,reduceCtorEq]);exact rfl) ?_)|((with_reducible first|refine jg (fun hc=>?_) (fun hc=>?_)|refine jh (fun hc=>?_) (fun hc=>?_))<;>(try simp (disch:=omega) only [zhb] at hc)<;>(try (exfalso;omega))<;>(try subst hc))|(with_reducible refine ji (by omega) ?_)|(simp (config := { maxSteps := 400000 }) only [↓jt,↓reduceIte,zvs,reduceCtorEq,Nat.reduceEqDiff,Nat.reduceAdd,Nat.reduceLeDiff,Nat.reduceMul,Int.reduceBNe,Int.reduceBEq,Int.reduceEq,Int.reduceNe,Int.reduceLT,Int.reduceLE,Int.reduceGT,Int.reduceGE,Int.reduceNeg,Int.reduceToNat,Nat.reduceLT,Nat.reduceSub,tab,Try.results72,jTA])|(simp (disch:=omega) only [ziw]))
  refine ok_loop (fun k : Nat => ⟨slots [(1, .int .i64 f), (2, .ptr 0 []), (4, .int .i64 0), (5, .int .i64 (usersN (m.pr.take k) f)), (11, encPrs m.pr), (12, .int .i64 m.pr.length), (13, .int .i64 k)], rows [(0, .row machSh (encM m))], 1⟩) (fun k => k ≤ m.pr.length) (fun k => m.pr.length - k) 0 ?_ (Nat.zero_le _) (fun k hk => ?_)
  · (refine yrn [(0, 0)] false ?_ ?_<;>(repeat' (first|(with_reducible first|exact ya1|exact ya2|exact ya3|refine jx rfl (by first|rfl|assumption|(simp only [znl,znN5];(first|done|fail)))|exact ya5|exact ya7|exact jy|exact jz|refine jA ?_|refine ya9 ?_ ?_ ?_|refine jC rfl (by first|rfl|assumption|(simp only [znl,znN5];(first|done|fail)))|refine MR.agg (MRL.cons ?_ ?_)|refine MR.fn ?_|refine MRL.cons ?_ ?_|exact MRL.nil|refine jE ?_ ?_|exact jF|exact jG|refine yb1 ?_ ?_|refine MB.row ?_|refine jI ?_ ?_|exact ya8|refine jJ rfl (by first|rfl|assumption|(simp only [znl,znN5];(first|done|fail)))|refine yb2 ?_|rfl)|(simp only [znl,znN5];(first|done|fail))|(simp only [↓reduceIte,zlk,Nat.reduceEqDiff,reduceCtorEq])|(with_reducible first|refine jJ ?_ ?_|refine ya5 ?_|refine ju ?_|refine jv ?_|refine jw ?_|refine jx ?_ (by first|rfl|assumption|(simp only [znl,znN5];(first|done|fail)))|refine jC ?_ (by first|rfl|assumption|(simp only [znl,znN5];(first|done|fail)))))))
    all_goals (first | rfl | (simp; done))
  have hUk := hU k hk
  by_cases hlt : k < m.pr.length
  · have hb := hpR _ (getD_mem' hlt)
    obtain ⟨hS1, hS2, hS3⟩ := pr3 hb
    have e1 := take_snoc m.pr k hlt
    have e2 := usersN_snoc (m.pr.take k) (m.pr.getD k default) f
    rw [← e1] at e2
    have hsl := hb.sp
    have hsR := hb.spR
    repeat' (first|(with_reducible first|refine yrl (by constructor) ?_|refine jk (fun M hM=>?_)|(refine hM _ ?_;clear hM M)|refine xb3 (by decide) ?_|refine yqa (by assumption) ?_ ?_|refine yqb (by assumption) ?_ ?_)|((with_reducible refine je ?_)<;>(first|rfl|assumption|(simp only [znl,znN5];(first|done|fail))))|(with_reducible refine jf (by (simp only [↓reduceIte,zlk,Nat.reduceEqDiff,reduceCtorEq]);exact rfl) ?_)|((with_reducible first|refine jg (fun hc=>?_) (fun hc=>?_)|refine jh (fun hc=>?_) (fun hc=>?_))<;>(try simp (disch:=omega) only [zhb] at hc)<;>(try (exfalso;omega))<;>(try subst hc))|(with_reducible refine ji (by omega) ?_)|(simp (config := { maxSteps := 400000 }) only [↓jt,↓reduceIte,zvs,reduceCtorEq,Nat.reduceEqDiff,Nat.reduceAdd,Nat.reduceLeDiff,Nat.reduceMul,Int.reduceBNe,Int.reduceBEq,Int.reduceEq,Int.reduceNe,Int.reduceLT,Int.reduceLE,Int.reduceGT,Int.reduceGE,Int.reduceNeg,Int.reduceToNat,Nat.reduceLT,Nat.reduceSub,tab,hS1,hS2,hS3,encPr,Try.results72,jTA])|(simp (disch:=omega) only [ziw]))
    refine ok_loop (fun j : Nat => ⟨slots [(1, .int .i64 f), (2, .ptr 0 []), (4, .int .i64 0), (5, .int .i64 ((usersN (m.pr.take k) f : Int) + usersS f ((m.pr.getD k default).sp.take j))), (11, encPrs m.pr), (12, .int .i64 m.pr.length), (13, .int .i64 k), (18, .agg ((m.pr.getD k default).sp.map encPte)), (19, .int .i64 j)], rows [(0, .row machSh (encM m))], 1⟩) (fun j => j ≤ 16) (fun j => 16 - j) 0 ?_ (Nat.zero_le _) (fun j hj => ?_)
    · (refine yrn [(0, 0)] false ?_ ?_<;>(repeat' (first|(with_reducible first|exact ya1|exact ya2|exact ya3|refine jx rfl (by first|rfl|assumption|(simp only [znl,znN5];(first|done|fail)))|exact ya5|exact ya7|exact jy|exact jz|refine jA ?_|refine ya9 ?_ ?_ ?_|refine jC rfl (by first|rfl|assumption|(simp only [znl,znN5];(first|done|fail)))|refine MR.agg (MRL.cons ?_ ?_)|refine MR.fn ?_|refine MRL.cons ?_ ?_|exact MRL.nil|refine jE ?_ ?_|exact jF|exact jG|refine yb1 ?_ ?_|refine MB.row ?_|refine jI ?_ ?_|exact ya8|refine jJ rfl (by first|rfl|assumption|(simp only [znl,znN5];(first|done|fail)))|refine yb2 ?_|rfl)|(simp only [znl,znN5];(first|done|fail))|(simp only [↓reduceIte,zlk,Nat.reduceEqDiff,reduceCtorEq])|(with_reducible first|refine jJ ?_ ?_|refine ya5 ?_|refine ju ?_|refine jv ?_|refine jw ?_|refine jx ?_ (by first|rfl|assumption|(simp only [znl,znN5];(first|done|fail)))|refine jC ?_ (by first|rfl|assumption|(simp only [znl,znN5];(first|done|fail)))))))
      all_goals (first | rfl | (simp [usersS]; done))
    have hUj := usersS_le f ((m.pr.getD k default).sp.take j)
    rw [List.length_take] at hUj
    by_cases hjlt : j < 16
    · have hpb := hsR _ (getD_mem' (show j < (m.pr.getD k default).sp.length by omega))
      have e3 := take_snoc (m.pr.getD k default).sp j (by omega)
      have e4 := usersS_snoc f ((m.pr.getD k default).sp.take j) ((m.pr.getD k default).sp.getD j default)
      rw [← e3] at e4
      by_cases hq : ((m.pr.getD k default).sp.getD j default).is = true ∧ ((m.pr.getD k default).sp.getD j default).fr = f
      · rw [if_pos hq] at e4
        obtain ⟨q1, q2⟩ := hq
        repeat' (first|(with_reducible first|refine yrl (by constructor) ?_|refine jk (fun M hM=>?_)|(refine hM _ ?_;clear hM M)|refine xb3 (by decide) ?_|refine yqa (by assumption) ?_ ?_|refine yqb (by assumption) ?_ ?_)|((with_reducible refine je ?_)<;>(first|rfl|assumption|(simp only [znl,znN5];(first|done|fail))))|(with_reducible refine jf (by (simp only [↓reduceIte,zlk,Nat.reduceEqDiff,reduceCtorEq]);exact rfl) ?_)|((with_reducible first|refine jg (fun hc=>?_) (fun hc=>?_)|refine jh (fun hc=>?_) (fun hc=>?_))<;>(try simp (disch:=omega) only [zhb] at hc)<;>(try (exfalso;omega))<;>(try subst hc))|(with_reducible refine ji (by omega) ?_)|(simp (config := { maxSteps := 400000 }) only [↓jt,↓reduceIte,zvs,reduceCtorEq,Nat.reduceEqDiff,Nat.reduceAdd,Nat.reduceLeDiff,Nat.reduceMul,Int.reduceBNe,Int.reduceBEq,Int.reduceEq,Int.reduceNe,Int.reduceLT,Int.reduceLE,Int.reduceGT,Int.reduceGE,Int.reduceNeg,Int.reduceToNat,Nat.reduceLT,Nat.reduceSub,tab,hS1,hS2,hS3,encPte,q1,Try.results72,jTA])|(simp (disch:=omega) only [ziw]))
        all_goals first
          | (exfalso; omega)
          | (refine xl1 (j + 1) ?_ (by show j + 1 ≤ 16; omega) (by show 16 - (j + 1) < 16 - j; omega); (refine yrn [(0, 0)] false ?_ ?_<;>(repeat' (first|(with_reducible first|exact ya1|exact ya2|exact ya3|refine jx rfl (by first|rfl|assumption|(simp only [znl,znN5];(first|done|fail)))|exact ya5|exact ya7|exact jy|exact jz|refine jA ?_|refine ya9 ?_ ?_ ?_|refine jC rfl (by first|rfl|assumption|(simp only [znl,znN5];(first|done|fail)))|refine MR.agg (MRL.cons ?_ ?_)|refine MR.fn ?_|refine MRL.cons ?_ ?_|exact MRL.nil|refine jE ?_ ?_|exact jF|exact jG|refine yb1 ?_ ?_|refine MB.row ?_|refine jI ?_ ?_|exact ya8|refine jJ rfl (by first|rfl|assumption|(simp only [znl,znN5];(first|done|fail)))|refine yb2 ?_|rfl)|(simp only [znl,znN5];(first|done|fail))|(simp only [↓reduceIte,zlk,Nat.reduceEqDiff,reduceCtorEq])|(with_reducible first|refine jJ ?_ ?_|refine ya5 ?_|refine ju ?_|refine jv ?_|refine jw ?_|refine jx ?_ (by first|rfl|assumption|(simp only [znl,znN5];(first|done|fail)))|refine jC ?_ (by first|rfl|assumption|(simp only [znl,znN5];(first|done|fail))))))); all_goals (rw [e4]; omega))
      · rw [if_neg hq] at e4
        cases hi : ((m.pr.getD k default).sp.getD j default).is with
        | true =>
          have hq2 : ((m.pr.getD k default).sp.getD j default).fr ≠ f := fun h => hq ⟨hi, h⟩
          repeat' (first|(with_reducible first|refine yrl (by constructor) ?_|refine jk (fun M hM=>?_)|(refine hM _ ?_;clear hM M)|refine xb3 (by decide) ?_|refine yqa (by assumption) ?_ ?_|refine yqb (by assumption) ?_ ?_)|((with_reducible refine je ?_)<;>(first|rfl|assumption|(simp only [znl,znN5];(first|done|fail))))|(with_reducible refine jf (by (simp only [↓reduceIte,zlk,Nat.reduceEqDiff,reduceCtorEq]);exact rfl) ?_)|((with_reducible first|refine jg (fun hc=>?_) (fun hc=>?_)|refine jh (fun hc=>?_) (fun hc=>?_))<;>(try simp (disch:=omega) only [zhb] at hc)<;>(try (exfalso;omega))<;>(try subst hc))|(with_reducible refine ji (by omega) ?_)|(simp (config := { maxSteps := 400000 }) only [↓jt,↓reduceIte,zvs,reduceCtorEq,Nat.reduceEqDiff,Nat.reduceAdd,Nat.reduceLeDiff,Nat.reduceMul,Int.reduceBNe,Int.reduceBEq,Int.reduceEq,Int.reduceNe,Int.reduceLT,Int.reduceLE,Int.reduceGT,Int.reduceGE,Int.reduceNeg,Int.reduceToNat,Nat.reduceLT,Nat.reduceSub,tab,hS1,hS2,hS3,encPte,hi,Try.results72,jTA])|(simp (disch:=omega) only [ziw]))
          all_goals first
            | (exfalso; omega)
            | (refine xl1 (j + 1) ?_ (by show j + 1 ≤ 16; omega) (by show 16 - (j + 1) < 16 - j; omega); (refine yrn [(0, 0)] false ?_ ?_<;>(repeat' (first|(with_reducible first|exact ya1|exact ya2|exact ya3|refine jx rfl (by first|rfl|assumption|(simp only [znl,znN5];(first|done|fail)))|exact ya5|exact ya7|exact jy|exact jz|refine jA ?_|refine ya9 ?_ ?_ ?_|refine jC rfl (by first|rfl|assumption|(simp only [znl,znN5];(first|done|fail)))|refine MR.agg (MRL.cons ?_ ?_)|refine MR.fn ?_|refine MRL.cons ?_ ?_|exact MRL.nil|refine jE ?_ ?_|exact jF|exact jG|refine yb1 ?_ ?_|refine MB.row ?_|refine jI ?_ ?_|exact ya8|refine jJ rfl (by first|rfl|assumption|(simp only [znl,znN5];(first|done|fail)))|refine yb2 ?_|rfl)|(simp only [znl,znN5];(first|done|fail))|(simp only [↓reduceIte,zlk,Nat.reduceEqDiff,reduceCtorEq])|(with_reducible first|refine jJ ?_ ?_|refine ya5 ?_|refine ju ?_|refine jv ?_|refine jw ?_|refine jx ?_ (by first|rfl|assumption|(simp only [znl,znN5];(first|done|fail)))|refine jC ?_ (by first|rfl|assumption|(simp only [znl,znN5];(first|done|fail))))))); all_goals (rw [e4]; omega))
            | (exfalso; exact absurd hc hq2)
        | false =>
          repeat' (first|(with_reducible first|refine yrl (by constructor) ?_|refine jk (fun M hM=>?_)|(refine hM _ ?_;clear hM M)|refine xb3 (by decide) ?_|refine yqa (by assumption) ?_ ?_|refine yqb (by assumption) ?_ ?_)|((with_reducible refine je ?_)<;>(first|rfl|assumption|(simp only [znl,znN5];(first|done|fail))))|(with_reducible refine jf (by (simp only [↓reduceIte,zlk,Nat.reduceEqDiff,reduceCtorEq]);exact rfl) ?_)|((with_reducible first|refine jg (fun hc=>?_) (fun hc=>?_)|refine jh (fun hc=>?_) (fun hc=>?_))<;>(try simp (disch:=omega) only [zhb] at hc)<;>(try (exfalso;omega))<;>(try subst hc))|(with_reducible refine ji (by omega) ?_)|(simp (config := { maxSteps := 400000 }) only [↓jt,↓reduceIte,zvs,reduceCtorEq,Nat.reduceEqDiff,Nat.reduceAdd,Nat.reduceLeDiff,Nat.reduceMul,Int.reduceBNe,Int.reduceBEq,Int.reduceEq,Int.reduceNe,Int.reduceLT,Int.reduceLE,Int.reduceGT,Int.reduceGE,Int.reduceNeg,Int.reduceToNat,Nat.reduceLT,Nat.reduceSub,tab,hS1,hS2,hS3,encPte,hi,Try.results72,jTA])|(simp (disch:=omega) only [ziw]))
          all_goals first
            | (exfalso; omega)
            | (refine xl1 (j + 1) ?_ (by show j + 1 ≤ 16; omega) (by show 16 - (j + 1) < 16 - j; omega); (refine yrn [(0, 0)] false ?_ ?_<;>(repeat' (first|(with_reducible first|exact ya1|exact ya2|exact ya3|refine jx rfl (by first|rfl|assumption|(simp only [znl,znN5];(first|done|fail)))|exact ya5|exact ya7|exact jy|exact jz|refine jA ?_|refine ya9 ?_ ?_ ?_|refine jC rfl (by first|rfl|assumption|(simp only [znl,znN5];(first|done|fail)))|refine MR.agg (MRL.cons ?_ ?_)|refine MR.fn ?_|refine MRL.cons ?_ ?_|exact MRL.nil|refine jE ?_ ?_|exact jF|exact jG|refine yb1 ?_ ?_|refine MB.row ?_|refine jI ?_ ?_|exact ya8|refine jJ rfl (by first|rfl|assumption|(simp only [znl,znN5];(first|done|fail)))|refine yb2 ?_|rfl)|(simp only [znl,znN5];(first|done|fail))|(simp only [↓reduceIte,zlk,Nat.reduceEqDiff,reduceCtorEq])|(with_reducible first|refine jJ ?_ ?_|refine ya5 ?_|refine ju ?_|refine jv ?_|refine jw ?_|refine jx ?_ (by first|rfl|assumption|(simp only [znl,znN5];(first|done|fail)))|refine jC ?_ (by first|rfl|assumption|(simp only [znl,znN5];(first|done|fail))))))); all_goals (rw [e4]; omega))
    · obtain rfl : j = 16 := by omega
      have e5 : (m.pr.getD k default).sp.take 16 = (m.pr.getD k default).sp := List.take_of_length_le (by omega)
      rw [e5] at *
      repeat' (first|(with_reducible first|refine yrl (by constructor) ?_|refine jk (fun M hM=>?_)|(refine hM _ ?_;clear hM M)|refine xb3 (by decide) ?_|refine yqa (by assumption) ?_ ?_|refine yqb (by assumption) ?_ ?_)|((with_reducible refine je ?_)<;>(first|rfl|assumption|(simp only [znl,znN5];(first|done|fail))))|(with_reducible refine jf (by (simp only [↓reduceIte,zlk,Nat.reduceEqDiff,reduceCtorEq]);exact rfl) ?_)|((with_reducible first|refine jg (fun hc=>?_) (fun hc=>?_)|refine jh (fun hc=>?_) (fun hc=>?_))<;>(try simp (disch:=omega) only [zhb] at hc)<;>(try (exfalso;omega))<;>(try subst hc))|(with_reducible refine ji (by omega) ?_)|(simp (config := { maxSteps := 400000 }) only [↓jt,↓reduceIte,zvs,reduceCtorEq,Nat.reduceEqDiff,Nat.reduceAdd,Nat.reduceLeDiff,Nat.reduceMul,Int.reduceBNe,Int.reduceBEq,Int.reduceEq,Int.reduceNe,Int.reduceLT,Int.reduceLE,Int.reduceGT,Int.reduceGE,Int.reduceNeg,Int.reduceToNat,Nat.reduceLT,Nat.reduceSub,tab,hS1,hS2,hS3,Try.results72,jTA])|(simp (disch:=omega) only [ziw]))
      all_goals first
        | (refine xl1 (k + 1) ?_ (by show k + 1 ≤ m.pr.length; omega) (by show m.pr.length - (k + 1) < m.pr.length - k; omega); (refine yrn [(0, 0)] false ?_ ?_<;>(repeat' (first|(with_reducible first|exact ya1|exact ya2|exact ya3|refine jx rfl (by first|rfl|assumption|(simp only [znl,znN5];(first|done|fail)))|exact ya5|exact ya7|exact jy|exact jz|refine jA ?_|refine ya9 ?_ ?_ ?_|refine jC rfl (by first|rfl|assumption|(simp only [znl,znN5];(first|done|fail)))|refine MR.agg (MRL.cons ?_ ?_)|refine MR.fn ?_|refine MRL.cons ?_ ?_|exact MRL.nil|refine jE ?_ ?_|exact jF|exact jG|refine yb1 ?_ ?_|refine MB.row ?_|refine jI ?_ ?_|exact ya8|refine jJ rfl (by first|rfl|assumption|(simp only [znl,znN5];(first|done|fail)))|refine yb2 ?_|rfl)|(simp only [znl,znN5];(first|done|fail))|(simp only [↓reduceIte,zlk,Nat.reduceEqDiff,reduceCtorEq])|(with_reducible first|refine jJ ?_ ?_|refine ya5 ?_|refine ju ?_|refine jv ?_|refine jw ?_|refine jx ?_ (by first|rfl|assumption|(simp only [znl,znN5];(first|done|fail)))|refine jC ?_ (by first|rfl|assumption|(simp only [znl,znN5];(first|done|fail))))))); all_goals (rw [e2]; omega))
  · obtain rfl : k = m.pr.length := by omega
    rw [List.take_length] at *
    repeat' (first|(with_reducible first|refine yrl (by constructor) ?_|refine jk (fun M hM=>?_)|(refine hM _ ?_;clear hM M)|refine xb3 (by decide) ?_|refine yqa (by assumption) ?_ ?_|refine yqb (by assumption) ?_ ?_)|((with_reducible refine je ?_)<;>(first|rfl|assumption|(simp only [znl,znN5];(first|done|fail))))|(with_reducible refine jf (by (simp only [↓reduceIte,zlk,Nat.reduceEqDiff,reduceCtorEq]);exact rfl) ?_)|((with_reducible first|refine jg (fun hc=>?_) (fun hc=>?_)|refine jh (fun hc=>?_) (fun hc=>?_))<;>(try simp (disch:=omega) only [zhb] at hc)<;>(try (exfalso;omega))<;>(try subst hc))|(with_reducible refine ji (by omega) ?_)|(simp (config := { maxSteps := 400000 }) only [↓jt,↓reduceIte,zvs,reduceCtorEq,Nat.reduceEqDiff,Nat.reduceAdd,Nat.reduceLeDiff,Nat.reduceMul,Int.reduceBNe,Int.reduceBEq,Int.reduceEq,Int.reduceNe,Int.reduceLT,Int.reduceLE,Int.reduceGT,Int.reduceGE,Int.reduceNeg,Int.reduceToNat,Nat.reduceLT,Nat.reduceSub,tab,List.take_length,Try.results72,jTA])|(simp (disch:=omega) only [ziw]))
    all_goals first
      | (simp only [zrds]; rw [hR]; done)
      | (simp only [zrds]; omega)
end Go.Proofs.Ytginpdejpibdjaa.V
end
section
namespace Go.Proofs.Ytginpdejpibdjaa.V
open Go
set_option maxRecDepth 100000
def znN6 := And.intro @jO <| And.intro @jP <| And.intro @jQ <| And.intro @jR <| And.intro @jS <| And.intro @jT <| And.intro @jU <| True.intro
set_option maxHeartbeats 1000000
theorem fd_spec (m : Mach) (hm : MFit 20000 m) (f : Fdd) (hf : fdR f) : Spec Try.prog 102 [encM m, encFd f] (.bool (fdB m.pipes f)) := by
  obtain ⟨R, hR⟩ : ∃ R, R = fdB m.pipes f := ⟨_, rfl⟩
  rw [← hR]
  have hP := rpipe_spec m hm f.n hf.2.1
  unfold fdB at hR
  obtain ⟨⟨f1, f2⟩, ⟨f3, f4⟩, f5, f6⟩ := hf
  cases hp : pipeO m.pipes f.n with
  | some p =>
    rw [hp] at hP hR
    simp only [pipeV,encPi] at hP
    simp only [Option.isSome_some,Bool.and_true] at hR
    refine spec_ok Try.func102 rfl rfl (by kernel_rfl) (k := 2) rfl (by decide) ?_
    repeat' (first|(with_reducible first|refine yrl (by constructor) ?_|refine jk (fun M hM=>?_)|(refine hM _ ?_;clear hM M)|refine xb3 (by decide) ?_|refine yqa (by assumption) ?_ ?_|refine yqb (by assumption) ?_ ?_)|((with_reducible refine je ?_)<;>(first|rfl|assumption|(simp only [znl,znN6];(first|done|fail))))|(with_reducible refine jf (by (simp only [↓reduceIte,zlk,Nat.reduceEqDiff,reduceCtorEq]);exact rfl) ?_)|((with_reducible first|refine jg (fun hc=>?_) (fun hc=>?_)|refine jh (fun hc=>?_) (fun hc=>?_))<;>(try simp (disch:=omega) only [zhb] at hc)<;>(try (exfalso;omega))<;>(try subst hc))|(with_reducible refine ji (by omega) ?_)|(simp (config := { maxSteps := 400000 }) only [↓jt,↓reduceIte,zvs,reduceCtorEq,Nat.reduceEqDiff,Nat.reduceAdd,Nat.reduceLeDiff,Nat.reduceMul,Int.reduceBNe,Int.reduceBEq,Int.reduceEq,Int.reduceNe,Int.reduceLT,Int.reduceLE,Int.reduceGT,Int.reduceGE,Int.reduceNeg,Int.reduceToNat,Nat.reduceLT,Nat.reduceSub,tab,encFd,Try.results102,jTA])|(simp (disch:=omega) only [ziw]))
    all_goals first
      | (exfalso; omega)
      | (simp only [zrds]; rw [hR]; (repeat' split) <;> first | rfl | (exfalso; omega) | (rw [Bool.eq_iff_iff]; simp only [beq_iff_eq,decide_eq_true_eq,Bool.and_eq_true,Bool.false_eq_true,true_iff,iff_true,false_iff,iff_false]; omega))
  | none =>
    rw [hp] at hP hR
    simp only [pipeV,encPi] at hP
    simp only [Option.isSome_none,Bool.and_false] at hR
    refine spec_ok Try.func102 rfl rfl (by kernel_rfl) (k := 2) rfl (by decide) ?_
    repeat' (first|(with_reducible first|refine yrl (by constructor) ?_|refine jk (fun M hM=>?_)|(refine hM _ ?_;clear hM M)|refine xb3 (by decide) ?_|refine yqa (by assumption) ?_ ?_|refine yqb (by assumption) ?_ ?_)|((with_reducible refine je ?_)<;>(first|rfl|assumption|(simp only [znl,znN6];(first|done|fail))))|(with_reducible refine jf (by (simp only [↓reduceIte,zlk,Nat.reduceEqDiff,reduceCtorEq]);exact rfl) ?_)|((with_reducible first|refine jg (fun hc=>?_) (fun hc=>?_)|refine jh (fun hc=>?_) (fun hc=>?_))<;>(try simp (disch:=omega) only [zhb] at hc)<;>(try (exfalso;omega))<;>(try subst hc))|(with_reducible refine ji (by omega) ?_)|(simp (config := { maxSteps := 400000 }) only [↓jt,↓reduceIte,zvs,reduceCtorEq,Nat.reduceEqDiff,Nat.reduceAdd,Nat.reduceLeDiff,Nat.reduceMul,Int.reduceBNe,Int.reduceBEq,Int.reduceEq,Int.reduceNe,Int.reduceLT,Int.reduceLE,Int.reduceGT,Int.reduceGE,Int.reduceNeg,Int.reduceToNat,Nat.reduceLT,Nat.reduceSub,tab,encFd,Try.results102,jTA])|(simp (disch:=omega) only [ziw]))
    all_goals first
      | (exfalso; omega)
      | (simp only [zrds]; rw [hR]; (repeat' split) <;> first | rfl | (exfalso; omega) | (rw [Bool.eq_iff_iff]; simp only [beq_iff_eq,decide_eq_true_eq,Bool.and_eq_true,Bool.false_eq_true,true_iff,iff_true,false_iff,iff_false]; omega))
end Go.Proofs.Ytginpdejpibdjaa.V
end
section
namespace Go.Proofs.Ytginpdejpibdjaa.V
open Go
set_option maxRecDepth 100000
def znN7 := And.intro @jO <| And.intro @jP <| And.intro @jQ <| And.intro @jR <| And.intro @jS <| And.intro @jT <| And.intro @jU <| True.intro
set_option maxHeartbeats 8000000
def headP (next pid st r0 par why n code : Int) (lb : Prop) : Prop :=
  1 ≤ pid ∧ pid < next ∧ (st = 1 ∨ st = 2 ∨ st = 3) ∧ r0 = 0 ∧ (lb ∨ (st ≠ 3 ∧ par = 0)) ∧ (st = 2 ↔ why ≠ 0) ∧ 0 ≤ why ∧ why ≤ 5 ∧ (st = 2 ∨ n = 0) ∧ (st = 3 ∨ code = 0)
theorem procH_iff (m : Mach) (p : Pr) : procH m p = true ↔ headP m.next p.pid p.st (p.rs.getD 0 default) p.par p.why p.n p.code (livesB m.pr p.par = true) := by
  unfold procH headP
  rw [show p.rs.getD 0 default = p.rs.getD 0 0 from rfl]
  cases livesB m.pr p.par
  · simp only [true_and,Bool.false_eq_true,false_or]
    (repeat' split)
    all_goals (simp only [Bool.false_eq_true,false_iff,true_iff]; omega)
  · simp only [Bool.true_eq_false,false_and,if_false,true_or,true_and]
    (repeat' split)
    all_goals (simp only [Bool.false_eq_true,false_iff,true_iff]; omega)
theorem all_take {α : Type} [Inhabited α] (l : List α) (q : α → Bool) (h : ∀ j, j < l.length → q (l.getD j default) = true) : l.all q = true := by
  rw [List.all_eq_true]
  intro x hx
  obtain ⟨j, hj, e⟩ := List.mem_iff_getElem.1 hx
  have := h j hj
  rw [List.getD_eq_getElem?_getD, List.getElem?_eq_getElem hj] at this
  rw [← e]
  exact this
theorem all_not {α : Type} [Inhabited α] (l : List α) (q : α → Bool) (k : Nat) (h : k < l.length) (hq : q (l.getD k default) = false) : l.all q = false := by
  rw [List.all_eq_false]
  exact ⟨_, getD_mem' h, by rw [hq]; simp⟩
theorem st_why (a b : Int) : ((a == 2) = (b != 0)) ↔ (a = 2 ↔ b ≠ 0) := by
  rw [Bool.eq_iff_iff]; simp
theorem fit_pt (a b : Bool) (c : Int) : Fit (EQ.st [EQ.bool, EQ.bool, EQ.int .i64]) (.agg [.bool a, .bool b, .int .i64 c]) := by simp [Fit, FitL]
theorem veq_pt (a b a' b' : Bool) (c c' : Int) : veq (.agg [.bool a, .bool b, .int .i64 c]) (.agg [.bool a', .bool b', .int .i64 c']) = ((a == a') && ((b == b') && (c == c'))) := by
  simp only [veq,veqs,Bool.and_true]
abbrev encPrA (p : Pr) : VV := .agg [.int .i64 p.pid, .int .i64 p.par, .int .i64 p.st, .agg [.agg (p.rs.map (.int .u32)), .int .u32 p.pc], .agg (p.sp.map encPte), .agg (p.fds.map encFd), .bool p.mask, .int .u32 p.code, .int .i64 p.why, .int .u64 p.n]
theorem pteB_is {m : Mach} {p : Pr} {x : Pte} (h : x.is = true) : pteB m p x = true ↔ (p.st ≠ 3 ∧ 0 ≤ x.fr ∧ x.fr < m.fr.length ∧ usersN m.pr x.fr = 1) := by
  unfold pteB; rw [if_pos h, decide_eq_true_eq]
theorem pteB_no {m : Mach} {p : Pr} {x : Pte} (h : x.is = false) : pteB m p x = true ↔ (x.wr = false ∧ x.fr = 0) := by
  unfold pteB; rw [if_neg (by rw [h]; simp), decide_eq_true_eq]
theorem process_spec (m : Mach) (hm : MFit 20000 m) (p : Pr) (hp : PrR p) : Spec Try.prog 65 [encM m, encPr p] (.bool (procB m p)) := by
  obtain ⟨R, hR⟩ : ∃ R, R = procB m p := ⟨_, rfl⟩
  rw [← hR]
  have hL := lives_spec m hm p.par hp.par
  have hI := procH_iff m p
  obtain ⟨hS1, hS2, hS3⟩ := pr3 hp
  have hrl := hp.rs
  have hsl := hp.sp
  have hfl := hp.fds
  have hsR := hp.spR
  have hfR := hp.fdsR
  have hfr := hm.fr
  have hfa : ∀ b : Bool, (false && b) = false := fun _ => rfl
  unfold headP at hI
  obtain ⟨lb, hlb⟩ : ∃ lb, livesB m.pr p.par = lb := ⟨_, rfl⟩
  rw [hlb] at hL hI
  cases hH : procH m p with
  | false =>
    have hF : R = false := by rw [hR, procB, hH]; rfl
    have hI := mt hI.2 (by rw [hH]; simp)
    rw [hF]
    cases lb
    all_goals
      simp only [true_or,true_and,Bool.false_eq_true,false_or] at hI
      refine spec_ok Try.func65 rfl rfl (by kernel_rfl) (k := 2) rfl (by decide) ?_
      repeat' (first|(with_reducible first|refine yrl (by constructor) ?_|refine jk (fun M hM=>?_)|(refine hM _ ?_;clear hM M)|refine xb3 (by decide) ?_|refine yqa (by assumption) ?_ ?_|refine yqb (by assumption) ?_ ?_)|((with_reducible refine je ?_)<;>(first|rfl|assumption|(simp only [znl,znN7];(first|done|fail))))|(with_reducible refine jf (by (simp only [↓reduceIte,zlk,Nat.reduceEqDiff,reduceCtorEq]);exact rfl) ?_)|((with_reducible first|refine jg (fun hc=>?_) (fun hc=>?_)|refine jh (fun hc=>?_) (fun hc=>?_))<;>(try simp (disch:=omega) only [zhb] at hc)<;>(try (exfalso;omega))<;>(try subst hc))|(with_reducible refine ji (by omega) ?_)|(simp (config := { maxSteps := 400000 }) only [↓jt,↓reduceIte,zvs,reduceCtorEq,Nat.reduceEqDiff,Nat.reduceAdd,Nat.reduceLeDiff,Nat.reduceMul,Int.reduceBNe,Int.reduceBEq,Int.reduceEq,Int.reduceNe,Int.reduceLT,Int.reduceLE,Int.reduceGT,Int.reduceGE,Int.reduceNeg,Int.reduceToNat,Nat.reduceLT,Nat.reduceSub,tab,hS1,hS2,hS3,encPr,Try.results65,jTA])|(simp (disch:=omega) only [ziw]))
      all_goals (try simp only [st_why] at *)
      all_goals first
        | (exfalso; omega)
        | (simp only [zrds]; done)
  | true =>
    have hI := hI.1 hH
    cases lb
    all_goals
      simp only [true_or,true_and,Bool.false_eq_true,false_or] at hI
      refine spec_ok Try.func65 rfl rfl (by kernel_rfl) (k := 2) rfl (by decide) ?_
      repeat' (first|(with_reducible first|refine yrl (by constructor) ?_|refine jk (fun M hM=>?_)|(refine hM _ ?_;clear hM M)|refine xb3 (by decide) ?_|refine yqa (by assumption) ?_ ?_|refine yqb (by assumption) ?_ ?_)|((with_reducible refine je ?_)<;>(first|rfl|assumption|(simp only [znl,znN7];(first|done|fail))))|(with_reducible refine jf (by (simp only [↓reduceIte,zlk,Nat.reduceEqDiff,reduceCtorEq]);exact rfl) ?_)|((with_reducible first|refine jg (fun hc=>?_) (fun hc=>?_)|refine jh (fun hc=>?_) (fun hc=>?_))<;>(try simp (disch:=omega) only [zhb] at hc)<;>(try (exfalso;omega))<;>(try subst hc))|(with_reducible refine ji (by omega) ?_)|(simp (config := { maxSteps := 400000 }) only [↓jt,↓reduceIte,zvs,reduceCtorEq,Nat.reduceEqDiff,Nat.reduceAdd,Nat.reduceLeDiff,Nat.reduceMul,Int.reduceBNe,Int.reduceBEq,Int.reduceEq,Int.reduceNe,Int.reduceLT,Int.reduceLE,Int.reduceGT,Int.reduceGE,Int.reduceNeg,Int.reduceToNat,Nat.reduceLT,Nat.reduceSub,tab,hS1,hS2,hS3,encPr,Try.results65,jTA])|(simp (disch:=omega) only [ziw]))
      all_goals (try simp only [st_why] at *)
      all_goals (try (exfalso; omega))
      all_goals refine ok_loop (fun j : Nat => ⟨slots [(2, .ptr 0 []), (3, .ptr 1 []), (4, .bool false), (5, .bool (p.st == 3)), (95, .agg (p.sp.map encPte)), (96, .int .i64 j)], rows [(0, .row machSh (encM m)), (1, .row prSh (encPrA p))], 2⟩) (fun j => j ≤ 16 ∧ ∀ i, i < j → pteB m p (p.sp.getD i default) = true) (fun j => 16 - j) 0 ?_ ⟨Nat.zero_le _, fun i hi => by omega⟩ (fun j hj => ?_)
      all_goals first
        | ((refine yrn [(0, 0), (1, 1)] false ?_ ?_<;>(repeat' (first|(with_reducible first|exact ya1|exact ya2|exact ya3|refine jx rfl (by first|rfl|assumption|(simp only [znl,znN7];(first|done|fail)))|exact ya5|exact ya7|exact jy|exact jz|refine jA ?_|refine ya9 ?_ ?_ ?_|refine jC rfl (by first|rfl|assumption|(simp only [znl,znN7];(first|done|fail)))|refine MR.agg (MRL.cons ?_ ?_)|refine MR.fn ?_|refine MRL.cons ?_ ?_|exact MRL.nil|refine jE ?_ ?_|exact jF|exact jG|refine yb1 ?_ ?_|refine MB.row ?_|refine jI ?_ ?_|exact ya8|refine jJ rfl (by first|rfl|assumption|(simp only [znl,znN7];(first|done|fail)))|refine yb2 ?_|rfl)|(simp only [znl,znN7];(first|done|fail))|(simp only [↓reduceIte,zlk,Nat.reduceEqDiff,reduceCtorEq])|(with_reducible first|refine jJ ?_ ?_|refine ya5 ?_|refine ju ?_|refine jv ?_|refine jw ?_|refine jx ?_ (by first|rfl|assumption|(simp only [znl,znN7];(first|done|fail)))|refine jC ?_ (by first|rfl|assumption|(simp only [znl,znN7];(first|done|fail))))))); done)
        | skip
      all_goals
        obtain ⟨hj, hn⟩ := hj
        by_cases hjlt : j < 16
        · have hpb := hsR _ (getD_mem' (show j < p.sp.length by omega))
          have hUx := users_spec m hm _ hpb
          have hst : pteB m p (p.sp.getD j default) = true → ∀ i, i < j + 1 → pteB m p (p.sp.getD i default) = true := fun hb i hi => by
            by_cases e : i = j
            · rw [e]; exact hb
            · exact hn i (by omega)
          have hF : pteB m p (p.sp.getD j default) ≠ true → R = false := fun h => by
            rw [hR, procB, all_not p.sp (pteB m p) j (by omega) (Bool.not_eq_true _ ▸ h)]; simp
          cases hi : (p.sp.getD j default).is with
          | true =>
            have hB := pteB_is (m := m) (p := p) hi
            repeat' (first|(with_reducible first|refine yrl (by constructor) ?_|refine jk (fun M hM=>?_)|(refine hM _ ?_;clear hM M)|refine xb3 (by decide) ?_|refine yqa (by assumption) ?_ ?_|refine yqb (by assumption) ?_ ?_)|((with_reducible refine je ?_)<;>(first|rfl|assumption|(simp only [znl,znN7];(first|done|fail))))|(with_reducible refine jf (by (simp only [↓reduceIte,zlk,Nat.reduceEqDiff,reduceCtorEq]);exact rfl) ?_)|((with_reducible first|refine jg (fun hc=>?_) (fun hc=>?_)|refine jh (fun hc=>?_) (fun hc=>?_))<;>(try simp (disch:=omega) only [zhb] at hc)<;>(try (exfalso;omega))<;>(try subst hc))|(with_reducible refine ji (by omega) ?_)|(simp (config := { maxSteps := 400000 }) only [↓jt,↓reduceIte,zvs,reduceCtorEq,Nat.reduceEqDiff,Nat.reduceAdd,Nat.reduceLeDiff,Nat.reduceMul,Int.reduceBNe,Int.reduceBEq,Int.reduceEq,Int.reduceNe,Int.reduceLT,Int.reduceLE,Int.reduceGT,Int.reduceGE,Int.reduceNeg,Int.reduceToNat,Nat.reduceLT,Nat.reduceSub,tab,hS1,hS2,hS3,encPr,encPte,hi,fit_pt,veq_pt,Try.results65,jTA])|(simp (disch:=omega) only [ziw]))
            all_goals first
              | (exfalso; omega)
              | (rw [hF (fun h => by have := hB.1 h; omega)]; simp only [zrds]; done)
              | (refine xl1 (j + 1) ?_ ⟨by omega, hst (hB.2 (by omega))⟩ (by show 16 - (j + 1) < 16 - j; omega); (refine yrn [(0, 0), (1, 1)] false ?_ ?_<;>(repeat' (first|(with_reducible first|exact ya1|exact ya2|exact ya3|refine jx rfl (by first|rfl|assumption|(simp only [znl,znN7];(first|done|fail)))|exact ya5|exact ya7|exact jy|exact jz|refine jA ?_|refine ya9 ?_ ?_ ?_|refine jC rfl (by first|rfl|assumption|(simp only [znl,znN7];(first|done|fail)))|refine MR.agg (MRL.cons ?_ ?_)|refine MR.fn ?_|refine MRL.cons ?_ ?_|exact MRL.nil|refine jE ?_ ?_|exact jF|exact jG|refine yb1 ?_ ?_|refine MB.row ?_|refine jI ?_ ?_|exact ya8|refine jJ rfl (by first|rfl|assumption|(simp only [znl,znN7];(first|done|fail)))|refine yb2 ?_|rfl)|(simp only [znl,znN7];(first|done|fail))|(simp only [↓reduceIte,zlk,Nat.reduceEqDiff,reduceCtorEq])|(with_reducible first|refine jJ ?_ ?_|refine ya5 ?_|refine ju ?_|refine jv ?_|refine jw ?_|refine jx ?_ (by first|rfl|assumption|(simp only [znl,znN7];(first|done|fail)))|refine jC ?_ (by first|rfl|assumption|(simp only [znl,znN7];(first|done|fail))))))); done)
          | false =>
            have hB := pteB_no (m := m) (p := p) hi
            cases hw : (p.sp.getD j default).wr with
            | true =>
              rw [hF (fun h => by have := (hB.1 h).1; rw [hw] at this; cases this)]
              repeat' (first|(with_reducible first|refine yrl (by constructor) ?_|refine jk (fun M hM=>?_)|(refine hM _ ?_;clear hM M)|refine xb3 (by decide) ?_|refine yqa (by assumption) ?_ ?_|refine yqb (by assumption) ?_ ?_)|((with_reducible refine je ?_)<;>(first|rfl|assumption|(simp only [znl,znN7];(first|done|fail))))|(with_reducible refine jf (by (simp only [↓reduceIte,zlk,Nat.reduceEqDiff,reduceCtorEq]);exact rfl) ?_)|((with_reducible first|refine jg (fun hc=>?_) (fun hc=>?_)|refine jh (fun hc=>?_) (fun hc=>?_))<;>(try simp (disch:=omega) only [zhb] at hc)<;>(try (exfalso;omega))<;>(try subst hc))|(with_reducible refine ji (by omega) ?_)|(simp (config := { maxSteps := 400000 }) only [↓jt,↓reduceIte,zvs,reduceCtorEq,Nat.reduceEqDiff,Nat.reduceAdd,Nat.reduceLeDiff,Nat.reduceMul,Int.reduceBNe,Int.reduceBEq,Int.reduceEq,Int.reduceNe,Int.reduceLT,Int.reduceLE,Int.reduceGT,Int.reduceGE,Int.reduceNeg,Int.reduceToNat,Nat.reduceLT,Nat.reduceSub,tab,hS1,hS2,hS3,encPr,encPte,hi,hw,hfa,fit_pt,veq_pt,Try.results65,jTA])|(simp (disch:=omega) only [ziw]))
              all_goals first
                | (exfalso; omega)
                | (simp only [zrds]; done)
            | false =>
              repeat' (first|(with_reducible first|refine yrl (by constructor) ?_|refine jk (fun M hM=>?_)|(refine hM _ ?_;clear hM M)|refine xb3 (by decide) ?_|refine yqa (by assumption) ?_ ?_|refine yqb (by assumption) ?_ ?_)|((with_reducible refine je ?_)<;>(first|rfl|assumption|(simp only [znl,znN7];(first|done|fail))))|(with_reducible refine jf (by (simp only [↓reduceIte,zlk,Nat.reduceEqDiff,reduceCtorEq]);exact rfl) ?_)|((with_reducible first|refine jg (fun hc=>?_) (fun hc=>?_)|refine jh (fun hc=>?_) (fun hc=>?_))<;>(try simp (disch:=omega) only [zhb] at hc)<;>(try (exfalso;omega))<;>(try subst hc))|(with_reducible refine ji (by omega) ?_)|(simp (config := { maxSteps := 400000 }) only [↓jt,↓reduceIte,zvs,reduceCtorEq,Nat.reduceEqDiff,Nat.reduceAdd,Nat.reduceLeDiff,Nat.reduceMul,Int.reduceBNe,Int.reduceBEq,Int.reduceEq,Int.reduceNe,Int.reduceLT,Int.reduceLE,Int.reduceGT,Int.reduceGE,Int.reduceNeg,Int.reduceToNat,Nat.reduceLT,Nat.reduceSub,tab,hS1,hS2,hS3,encPr,encPte,hi,hw,hfa,fit_pt,veq_pt,Try.results65,jTA])|(simp (disch:=omega) only [ziw]))
              all_goals first
                | (exfalso; omega)
                | (rw [hF (fun h => by have := (hB.1 h).2; omega)]; simp only [zrds]; done)
                | (refine xl1 (j + 1) ?_ ⟨by omega, hst (hB.2 ⟨hw, by omega⟩)⟩ (by show 16 - (j + 1) < 16 - j; omega); (refine yrn [(0, 0), (1, 1)] false ?_ ?_<;>(repeat' (first|(with_reducible first|exact ya1|exact ya2|exact ya3|refine jx rfl (by first|rfl|assumption|(simp only [znl,znN7];(first|done|fail)))|exact ya5|exact ya7|exact jy|exact jz|refine jA ?_|refine ya9 ?_ ?_ ?_|refine jC rfl (by first|rfl|assumption|(simp only [znl,znN7];(first|done|fail)))|refine MR.agg (MRL.cons ?_ ?_)|refine MR.fn ?_|refine MRL.cons ?_ ?_|exact MRL.nil|refine jE ?_ ?_|exact jF|exact jG|refine yb1 ?_ ?_|refine MB.row ?_|refine jI ?_ ?_|exact ya8|refine jJ rfl (by first|rfl|assumption|(simp only [znl,znN7];(first|done|fail)))|refine yb2 ?_|rfl)|(simp only [znl,znN7];(first|done|fail))|(simp only [↓reduceIte,zlk,Nat.reduceEqDiff,reduceCtorEq])|(with_reducible first|refine jJ ?_ ?_|refine ya5 ?_|refine ju ?_|refine jv ?_|refine jw ?_|refine jx ?_ (by first|rfl|assumption|(simp only [znl,znN7];(first|done|fail)))|refine jC ?_ (by first|rfl|assumption|(simp only [znl,znN7];(first|done|fail))))))); done)
        · obtain rfl : j = 16 := by omega
          have hA := all_take p.sp (pteB m p) (by rw [hsl]; exact hn)
          repeat' (first|(with_reducible first|refine yrl (by constructor) ?_|refine jk (fun M hM=>?_)|(refine hM _ ?_;clear hM M)|refine xb3 (by decide) ?_|refine yqa (by assumption) ?_ ?_|refine yqb (by assumption) ?_ ?_)|((with_reducible refine je ?_)<;>(first|rfl|assumption|(simp only [znl,znN7];(first|done|fail))))|(with_reducible refine jf (by (simp only [↓reduceIte,zlk,Nat.reduceEqDiff,reduceCtorEq]);exact rfl) ?_)|((with_reducible first|refine jg (fun hc=>?_) (fun hc=>?_)|refine jh (fun hc=>?_) (fun hc=>?_))<;>(try simp (disch:=omega) only [zhb] at hc)<;>(try (exfalso;omega))<;>(try subst hc))|(with_reducible refine ji (by omega) ?_)|(simp (config := { maxSteps := 400000 }) only [↓jt,↓reduceIte,zvs,reduceCtorEq,Nat.reduceEqDiff,Nat.reduceAdd,Nat.reduceLeDiff,Nat.reduceMul,Int.reduceBNe,Int.reduceBEq,Int.reduceEq,Int.reduceNe,Int.reduceLT,Int.reduceLE,Int.reduceGT,Int.reduceGE,Int.reduceNeg,Int.reduceToNat,Nat.reduceLT,Nat.reduceSub,tab,hS1,hS2,hS3,Try.results65,jTA])|(simp (disch:=omega) only [ziw]))
          refine ok_loop (fun j : Nat => ⟨slots [(2, .ptr 0 []), (3, .ptr 1 []), (4, .bool false), (5, .bool (p.st == 3)), (138, .agg (p.fds.map encFd)), (139, .int .i64 j)], rows [(0, .row machSh (encM m)), (1, .row prSh (encPrA p))], 2⟩) (fun j => j ≤ 8 ∧ ∀ i, i < j → fdsB m p (p.fds.getD i default) = true) (fun j => 8 - j) 0 ?_ ⟨Nat.zero_le _, fun i hi => by omega⟩ (fun j hj => ?_)
          · (refine yrn [(0, 0), (1, 1)] false ?_ ?_<;>(repeat' (first|(with_reducible first|exact ya1|exact ya2|exact ya3|refine jx rfl (by first|rfl|assumption|(simp only [znl,znN7];(first|done|fail)))|exact ya5|exact ya7|exact jy|exact jz|refine jA ?_|refine ya9 ?_ ?_ ?_|refine jC rfl (by first|rfl|assumption|(simp only [znl,znN7];(first|done|fail)))|refine MR.agg (MRL.cons ?_ ?_)|refine MR.fn ?_|refine MRL.cons ?_ ?_|exact MRL.nil|refine jE ?_ ?_|exact jF|exact jG|refine yb1 ?_ ?_|refine MB.row ?_|refine jI ?_ ?_|exact ya8|refine jJ rfl (by first|rfl|assumption|(simp only [znl,znN7];(first|done|fail)))|refine yb2 ?_|rfl)|(simp only [znl,znN7];(first|done|fail))|(simp only [↓reduceIte,zlk,Nat.reduceEqDiff,reduceCtorEq])|(with_reducible first|refine jJ ?_ ?_|refine ya5 ?_|refine ju ?_|refine jv ?_|refine jw ?_|refine jx ?_ (by first|rfl|assumption|(simp only [znl,znN7];(first|done|fail)))|refine jC ?_ (by first|rfl|assumption|(simp only [znl,znN7];(first|done|fail)))))))
          obtain ⟨hj, hn⟩ := hj
          by_cases hjlt : j < 8
          · have hfb := hfR _ (getD_mem' (show j < p.fds.length by omega))
            have hFd := fd_spec m hm _ hfb
            obtain ⟨⟨g1, g2⟩, g3, g4⟩ := hfb
            have hst : fdsB m p (p.fds.getD j default) = true → ∀ i, i < j + 1 → fdsB m p (p.fds.getD i default) = true := fun hb i hi => by
              by_cases e : i = j
              · rw [e]; exact hb
              · exact hn i (by omega)
            have hF : fdsB m p (p.fds.getD j default) = false → R = false := fun h => by
              rw [hR, procB, all_not p.fds (fdsB m p) j (by omega) h]; simp
            unfold fdsB at hst hF
            obtain ⟨b, hb⟩ : ∃ b, fdB m.pipes (p.fds.getD j default) = b := ⟨_, rfl⟩
            rw [hb] at hFd hst hF
            simp only [encFd] at hFd
            cases b
            all_goals
              repeat' (first|(with_reducible first|refine yrl (by constructor) ?_|refine jk (fun M hM=>?_)|(refine hM _ ?_;clear hM M)|refine xb3 (by decide) ?_|refine yqa (by assumption) ?_ ?_|refine yqb (by assumption) ?_ ?_)|((with_reducible refine je ?_)<;>(first|rfl|assumption|(simp only [znl,znN7];(first|done|fail))))|(with_reducible refine jf (by (simp only [↓reduceIte,zlk,Nat.reduceEqDiff,reduceCtorEq]);exact rfl) ?_)|((with_reducible first|refine jg (fun hc=>?_) (fun hc=>?_)|refine jh (fun hc=>?_) (fun hc=>?_))<;>(try simp (disch:=omega) only [zhb] at hc)<;>(try (exfalso;omega))<;>(try subst hc))|(with_reducible refine ji (by omega) ?_)|(simp (config := { maxSteps := 400000 }) only [↓jt,↓reduceIte,zvs,reduceCtorEq,Nat.reduceEqDiff,Nat.reduceAdd,Nat.reduceLeDiff,Nat.reduceMul,Int.reduceBNe,Int.reduceBEq,Int.reduceEq,Int.reduceNe,Int.reduceLT,Int.reduceLE,Int.reduceGT,Int.reduceGE,Int.reduceNeg,Int.reduceToNat,Nat.reduceLT,Nat.reduceSub,tab,hS1,hS2,hS3,encPr,encFd,Try.results65,jTA])|(simp (disch:=omega) only [ziw]))
              all_goals first
                | (exfalso; omega)
                | (rw [hF rfl]; simp only [zrds]; done)
                | (rw [hF (by rw [decide_eq_true (by omega), decide_eq_true (by omega)]; rfl)]; simp only [zrds]; done)
                | (refine xl1 (j + 1) ?_ ⟨by omega, hst (by first | (rw [decide_eq_false (by omega)]; rfl) | (rw [decide_eq_false (show ¬(p.fds.getD j default).kind ≠ 0 by omega), Bool.and_false]; rfl))⟩ (by show 8 - (j + 1) < 8 - j; omega); (refine yrn [(0, 0), (1, 1)] false ?_ ?_<;>(repeat' (first|(with_reducible first|exact ya1|exact ya2|exact ya3|refine jx rfl (by first|rfl|assumption|(simp only [znl,znN7];(first|done|fail)))|exact ya5|exact ya7|exact jy|exact jz|refine jA ?_|refine ya9 ?_ ?_ ?_|refine jC rfl (by first|rfl|assumption|(simp only [znl,znN7];(first|done|fail)))|refine MR.agg (MRL.cons ?_ ?_)|refine MR.fn ?_|refine MRL.cons ?_ ?_|exact MRL.nil|refine jE ?_ ?_|exact jF|exact jG|refine yb1 ?_ ?_|refine MB.row ?_|refine jI ?_ ?_|exact ya8|refine jJ rfl (by first|rfl|assumption|(simp only [znl,znN7];(first|done|fail)))|refine yb2 ?_|rfl)|(simp only [znl,znN7];(first|done|fail))|(simp only [↓reduceIte,zlk,Nat.reduceEqDiff,reduceCtorEq])|(with_reducible first|refine jJ ?_ ?_|refine ya5 ?_|refine ju ?_|refine jv ?_|refine jw ?_|refine jx ?_ (by first|rfl|assumption|(simp only [znl,znN7];(first|done|fail)))|refine jC ?_ (by first|rfl|assumption|(simp only [znl,znN7];(first|done|fail))))))); done)
          · obtain rfl : j = 8 := by omega
            have hA2 := all_take p.fds (fdsB m p) (by rw [hfl]; exact hn)
            have hT : R = true := by rw [hR, procB, hH, hA, hA2]; rfl
            rw [hT]
            repeat' (first|(with_reducible first|refine yrl (by constructor) ?_|refine jk (fun M hM=>?_)|(refine hM _ ?_;clear hM M)|refine xb3 (by decide) ?_|refine yqa (by assumption) ?_ ?_|refine yqb (by assumption) ?_ ?_)|((with_reducible refine je ?_)<;>(first|rfl|assumption|(simp only [znl,znN7];(first|done|fail))))|(with_reducible refine jf (by (simp only [↓reduceIte,zlk,Nat.reduceEqDiff,reduceCtorEq]);exact rfl) ?_)|((with_reducible first|refine jg (fun hc=>?_) (fun hc=>?_)|refine jh (fun hc=>?_) (fun hc=>?_))<;>(try simp (disch:=omega) only [zhb] at hc)<;>(try (exfalso;omega))<;>(try subst hc))|(with_reducible refine ji (by omega) ?_)|(simp (config := { maxSteps := 400000 }) only [↓jt,↓reduceIte,zvs,reduceCtorEq,Nat.reduceEqDiff,Nat.reduceAdd,Nat.reduceLeDiff,Nat.reduceMul,Int.reduceBNe,Int.reduceBEq,Int.reduceEq,Int.reduceNe,Int.reduceLT,Int.reduceLE,Int.reduceGT,Int.reduceGE,Int.reduceNeg,Int.reduceToNat,Nat.reduceLT,Nat.reduceSub,tab,hS1,hS2,hS3,Try.results65,jTA])|(simp (disch:=omega) only [ziw]))
            simp only [zrds]
end Go.Proofs.Ytginpdejpibdjaa.V
end
section
namespace Go.Proofs.Ytginpdejpibdjaa.V
open Go Go.RowKit

def Does2 (P : Program) (env tmF : Nat → VV) (G : Heap) (n : Nat) (o : Oper) : Prop :=
  ∃ v n', (∀ t, o.dst = some t → tmF t = v) ∧ n ≤ n' ∧ n' ≤ n + 64 ∧ ∀ e' K', (∀ x ∈ o.op.operands.toList, e' x = ev env x) → K' v G n' → vopH P e' G n K' o
def Fact2 (P : Program) (ops : List Oper) (env tmF : Nat → VV) (G : Heap) (n : Nat) (o : Oper) : Prop :=
  (o.guard = none ∧ Does2 P env tmF G n o) ∨ ∃ g want d, o.guard = some (g, want) ∧ dstAt ops g = some d ∧
    ((env d = .bool want ∧ Does2 P env tmF G n o) ∨ ((env d = .bool (!want) ∨ env d = .raw undef) ∧ ∀ t, o.dst = some t → tmF t = .raw undef))
def rd2 (l : List Oper) (q : Nat) (tm tmF : Nat → VV) (t : Nat) : VV := if ((l.drop q).any fun o => o.dst == some t) = true then tm t else tmF t
def oneL : List Oper → Bool
  | [] => true
  | o :: l => (match o.dst with | some d => l.all fun o' => o'.dst != some d | none => true) && oneL l
theorem held2 {P : Program} {ops : Array Oper} {K : (Nat → VV) → Heap → Nat → Prop} : ∀ (l : List Oper) (tm : Nat → VV) (H : Heap) (n : Nat), oneL l = true → (∀ m, n ≤ m → H m = none) → vheld P ops.toList l tm H n K →
    ∃ tmF G, K tmF G (n + 64 * l.length) ∧ (∀ t, (∀ o ∈ l, o.dst ≠ some t) → tmF t = tm t) ∧ ((∀ m b, H m = some b → G m = some b) ∧ (∀ m, m < n → G m = H m)) ∧
      ∀ q o, l[q]? = some o → ∃ Hq : Heap, (∀ m, m < n → Hq m = H m) ∧ (∀ m, n + 64 * (q + 1) ≤ m → Hq m = none) ∧ (∀ m b, Hq m = some b → G m = some b) ∧
        ∀ G' : Heap, (∀ m b, Hq m = some b → G' m = some b) → Fact2 P ops.toList (rd2 l q tm tmF) tmF G' (n + 64 * q) o
  | [], tm, H, n, _, _, h => ⟨tm, H, h, fun _ _ => rfl, ⟨fun _ _ h => h, fun _ _ => rfl⟩, fun q o h => by simp at h⟩
  | o :: l, tm, H, n, hw, hn, h => by
    simp only [oneL,Bool.and_eq_true] at hw
    obtain ⟨hw1, hw3⟩ := hw
    have hd : ∀ d, o.dst = some d → ∀ o' ∈ l, o'.dst ≠ some d := fun d hd o' ho' => by
      rw [hd] at hw1
      simpa using (List.all_eq_true.1 hw1) o' ho'
    have hput : ∀ (tm' : Nat → VV) (v : VV) (t : Nat), o.dst ≠ some t → put o.dst v tm' t = tm' t := by
      intro tm' v t ht
      cases hod : o.dst with
      | none => rfl
      | some d => simp only [put,upd_ap]; rw [if_neg (by intro e; rw [e] at ht; exact ht hod)]
    have hrd0 : ∀ (tmF : Nat → VV), (∀ t, (∀ o' ∈ o :: l, o'.dst ≠ some t) → tmF t = tm t) → ∀ t, rd2 (o :: l) 0 tm tmF t = tm t := fun tmF h t => by
      unfold rd2
      split
      · rfl
      · rename_i hh
        refine h t fun o' ho' e => hh ?_
        rw [List.drop_zero, List.any_eq_true]
        exact ⟨o', ho', by simp [e]⟩
    have hrdS : ∀ (tmF : Nat → VV) (v : VV) (q : Nat) (t : Nat), rd2 l q (put o.dst v tm) tmF t = rd2 (o :: l) (q + 1) tm tmF t := fun tmF v q t => by
      unfold rd2
      rw [List.drop_succ_cons]
      split
      · rename_i hh
        rw [List.any_eq_true] at hh
        obtain ⟨o', ho', e⟩ := hh
        refine hput tm v t fun e2 => hd t e2 o' (List.mem_of_mem_drop ho') (by simpa using e)
      · rfl
    have done : vopH P (ev tm) H n (fun v H' n' => cnd (n' ≤ n + 64) (vheld P ops.toList l (put o.dst v tm) H' (n + 64) K)) o →
        ∃ tmF G, K tmF G (n + 64 * (l.length + 1)) ∧ (∀ t, (∀ o' ∈ o :: l, o'.dst ≠ some t) → tmF t = tm t) ∧ ((∀ m b, H m = some b → G m = some b) ∧ (∀ m, m < n → G m = H m)) ∧
          (∃ Hq : Heap, (∀ m, m < n → Hq m = H m) ∧ (∀ m, n + 64 ≤ m → Hq m = none) ∧ (∀ m b, Hq m = some b → G m = some b) ∧ ∀ G' : Heap, (∀ m b, Hq m = some b → G' m = some b) → Does2 P tm tmF G' n o) ∧
          ∀ q o', l[q]? = some o' → ∃ Hq : Heap, (∀ m, m < n → Hq m = H m) ∧ (∀ m, n + 64 + 64 * (q + 1) ≤ m → Hq m = none) ∧ (∀ m b, Hq m = some b → G m = some b) ∧
            ∀ G' : Heap, (∀ m b, Hq m = some b → G' m = some b) → Fact2 P ops.toList (rd2 (o :: l) (q + 1) tm tmF) tmF G' (n + 64 + 64 * q) o' := by
      intro h
      obtain ⟨v, H', n', ⟨hn', hk⟩, s1, s2, s3, s4⟩ := vopH_stable (hn n (Nat.le_refl _)) h
      have hn2 : ∀ m, n + 64 ≤ m → H' m = none := fun m hm => by rw [s3 m (.inr (by omega))]; exact hn m (by omega)
      obtain ⟨tmF, G, k1, k2, k3, k4⟩ := held2 l (put o.dst v tm) H' (n + 64) hw3 hn2 hk
      refine ⟨tmF, G, by rw [show n + 64 * (l.length + 1) = n + 64 + 64 * l.length by omega]; exact k1, fun t ht => ?_, ⟨fun m b hm => k3.1 m b (s2 m b hm), fun m hm => by rw [k3.2 m (by omega), s3 m (.inl hm)]⟩, ?_, fun q o' ho' => ?_⟩
      · rw [k2 t (fun o' ho' => ht o' (by simp [ho'])), hput tm v t (ht o (by simp))]
      · refine ⟨H', fun m hm => s3 m (.inl hm), hn2, k3.1, fun G' hG' => ⟨v, n', fun t ht => ?_, s1, hn', fun e' K' he hK => s4 e' G' K' (fun x hx => he x hx) hG' hK⟩⟩
        rw [k2 t (hd t ht), ht]
        simp [put, upd_ap]
      · obtain ⟨Hq, q1, q2, q3, q4⟩ := k4 q o' ho'
        refine ⟨Hq, fun m hm => by rw [q1 m (by omega), s3 m (.inl hm)], q2, q3, fun G' hG' => ?_⟩
        have := q4 G' hG'
        rw [show rd2 l q (put o.dst v tm) tmF = rd2 (o :: l) (q + 1) tm tmF from funext (hrdS tmF v q)] at this
        exact this
    have skip : vheld P ops.toList l (put o.dst (.raw undef) tm) H (n + 64) K →
        ∃ tmF G, K tmF G (n + 64 * (l.length + 1)) ∧ (∀ t, (∀ o' ∈ o :: l, o'.dst ≠ some t) → tmF t = tm t) ∧ ((∀ m b, H m = some b → G m = some b) ∧ (∀ m, m < n → G m = H m)) ∧ (∀ t, o.dst = some t → tmF t = .raw undef) ∧
          ∀ q o', l[q]? = some o' → ∃ Hq : Heap, (∀ m, m < n → Hq m = H m) ∧ (∀ m, n + 64 + 64 * (q + 1) ≤ m → Hq m = none) ∧ (∀ m b, Hq m = some b → G m = some b) ∧
            ∀ G' : Heap, (∀ m b, Hq m = some b → G' m = some b) → Fact2 P ops.toList (rd2 (o :: l) (q + 1) tm tmF) tmF G' (n + 64 + 64 * q) o' := by
      intro h
      obtain ⟨tmF, G, k1, k2, k3, k4⟩ := held2 l _ H (n + 64) hw3 (fun m hm => hn m (by omega)) h
      refine ⟨tmF, G, by rw [show n + 64 * (l.length + 1) = n + 64 + 64 * l.length by omega]; exact k1, fun t ht => ?_, ⟨k3.1, fun m hm => k3.2 m (by omega)⟩, fun t ht => ?_, fun q o' ho' => ?_⟩
      · rw [k2 t (fun o' ho' => ht o' (by simp [ho'])), hput tm _ t (ht o (by simp))]
      · rw [k2 t (hd t ht), ht]
        simp [put, upd_ap]
      · obtain ⟨Hq, q1, q2, q3, q4⟩ := k4 q o' ho'
        refine ⟨Hq, fun m hm => q1 m (by omega), q2, q3, fun G' hG' => ?_⟩
        have := q4 G' hG'
        rw [show rd2 l q (put o.dst (.raw undef) tm) tmF = rd2 (o :: l) (q + 1) tm tmF from funext (hrdS tmF _ q)] at this
        exact this
    -- the parts together
    have tie : ∀ (tmF : Nat → VV) (G : Heap), K tmF G (n + 64 * (l.length + 1)) → (∀ t, (∀ o' ∈ o :: l, o'.dst ≠ some t) → tmF t = tm t) → ((∀ m b, H m = some b → G m = some b) ∧ (∀ m, m < n → G m = H m)) →
        (∃ Hq : Heap, (∀ m, m < n → Hq m = H m) ∧ (∀ m, n + 64 ≤ m → Hq m = none) ∧ (∀ m b, Hq m = some b → G m = some b) ∧ ∀ G' : Heap, (∀ m b, Hq m = some b → G' m = some b) → Fact2 P ops.toList tm tmF G' n o) →
        (∀ q o', l[q]? = some o' → ∃ Hq : Heap, (∀ m, m < n → Hq m = H m) ∧ (∀ m, n + 64 + 64 * (q + 1) ≤ m → Hq m = none) ∧ (∀ m b, Hq m = some b → G m = some b) ∧
            ∀ G' : Heap, (∀ m b, Hq m = some b → G' m = some b) → Fact2 P ops.toList (rd2 (o :: l) (q + 1) tm tmF) tmF G' (n + 64 + 64 * q) o') →
        ∃ tmF G, K tmF G (n + 64 * (o :: l).length) ∧ (∀ t, (∀ o' ∈ o :: l, o'.dst ≠ some t) → tmF t = tm t) ∧ ((∀ m b, H m = some b → G m = some b) ∧ (∀ m, m < n → G m = H m)) ∧
          ∀ q o', (o :: l)[q]? = some o' → ∃ Hq : Heap, (∀ m, m < n → Hq m = H m) ∧ (∀ m, n + 64 * (q + 1) ≤ m → Hq m = none) ∧ (∀ m b, Hq m = some b → G m = some b) ∧
            ∀ G' : Heap, (∀ m b, Hq m = some b → G' m = some b) → Fact2 P ops.toList (rd2 (o :: l) q tm tmF) tmF G' (n + 64 * q) o' := by
      intro tmF G k1 k2 k3 k4 k5
      refine ⟨tmF, G, k1, k2, k3, fun q o' ho' => ?_⟩
      cases q with
      | zero =>
        simp only [List.getElem?_cons_zero,Option.some.injEq] at ho'
        subst ho'
        obtain ⟨Hq, q1, q2, q3, q4⟩ := k4
        refine ⟨Hq, q1, fun m hm => q2 m (by omega), q3, fun G' hG' => ?_⟩
        have := q4 G' hG'
        rw [show tm = rd2 (o :: l) 0 tm tmF from (funext (hrd0 tmF k2)).symm] at this
        exact this
      | succ q =>
        simp only [List.getElem?_cons_succ] at ho'
        obtain ⟨Hq, q1, q2, q3, q4⟩ := k5 q o' ho'
        exact ⟨Hq, q1, fun m hm => q2 m (by omega), q3, fun G' hG' => by
          have := q4 G' hG'
          rwa [show n + 64 + 64 * q = n + 64 * (q + 1) by omega] at this⟩
    simp only [vheld] at h
    split at h
    · rename_i hg
      obtain ⟨tmF, G, k1, k2, k3, ⟨Hq, q1, q2, q3, q4⟩, k5⟩ := done h
      exact tie tmF G k1 k2 k3 ⟨Hq, q1, q2, q3, fun G' hG' => .inl ⟨hg, q4 G' hG'⟩⟩ k5
    · rename_i g want hg
      obtain ⟨d, hdg, h⟩ := bnd_iff.1 h
      unfold onV at h
      dsimp only at h
      split at h
      · rename_i b hb
        obtain ⟨h1, h2⟩ := h
        by_cases hbw : (b == want) = true
        · have hbe : b = want := by simpa using hbw
          subst hbe
          have hu := upd_same hb
          have h1 := h1 hbw
          rw [hu] at h1
          obtain ⟨tmF, G, k1, k2, k3, ⟨Hq, q1, q2, q3, q4⟩, k5⟩ := done h1
          exact tie tmF G k1 k2 k3 ⟨Hq, q1, q2, q3, fun G' hG' => .inr ⟨g, b, d, hg, hdg, .inl ⟨hb, q4 G' hG'⟩⟩⟩ k5
        · have hbf : (b == want) = false := by simpa using hbw
          have hbe : b = !want := by cases b <;> cases want <;> simp_all
          subst hbe
          have hu := upd_same hb
          have h2 := h2 hbf
          rw [hu] at h2
          obtain ⟨tmF, G, k1, k2, k3, k4, k5⟩ := skip h2
          exact tie tmF G k1 k2 k3 ⟨H, fun _ _ => rfl, fun m hm => hn m (by omega), k3.1, fun G' hG' => .inr ⟨g, want, d, hg, hdg, .inr ⟨.inl hb, k4⟩⟩⟩ k5
      · rename_i u hb
        obtain ⟨rfl, h⟩ := h
        obtain ⟨tmF, G, k1, k2, k3, k4, k5⟩ := skip h
        exact tie tmF G k1 k2 k3 ⟨H, fun _ _ => rfl, fun m hm => hn m (by omega), k3.1, fun G' hG' => .inr ⟨g, want, d, hg, hdg, .inr ⟨.inr hb, k4⟩⟩⟩ k5
      · exact h.elim
def dstB (ops : Array Oper) (j t : Nat) : Bool := match ops[j]? with
  | some o => o.dst == some t
  | none => false
theorem dstB_iff {ops : Array Oper} {j t : Nat} : dstB ops j t = true ↔ ∃ o, ops[j]? = some o ∧ o.dst = some t := by
  unfold dstB
  split
  · rename_i o ho
    simp [ho]
  · rename_i ho; simp [ho]
def Fr2 (nx : Nat) (perm : List Nat) (listed : Array Bool) (m : Nat) : Prop := nx ≤ m ∧ ∀ (q : Nat) i, perm[q]? = some i → nx + 64 * q ≤ m → m < nx + 64 * q + 64 → listed.getD i false = false
def tmQ (ops : Array Oper) (listed : Array Bool) (k : Nat) (tm0 tmF : Nat → VV) (t : Nat) : VV := if pendB ops listed k t = true then tm0 t else tmF t
section
variable {P : Program} {N B : Nat} {ρ0 : Names} {w0 : World} {ops : Array Oper} {k nx js : Nat} {perm : List Nat} {tm0 tmF : Nat → VV} {GA GB : Heap} {env : Nat → Nat → VV} {K : VS → Prop} {Q : Exit → Act → World → Prop}
theorem head2 (hk : k ≤ ops.size) (hd : ∀ o ∈ ops.toList, ∀ t, o.dst = some t → t < N)
    (hreach : ∀ j o, k ≤ j → ops[j]? = some o → (∀ i, i < j → reachB ops ops.size o i = true) ∧ ∀ e ∈ o.after, Region.binds .any e = true → e.on < j)
    (hb : ∀ j o, j < k → ops[j]? = some o → ∀ e ∈ o.after, Region.binds .any e = true → e.on < j)
    (hperm : ∀ i, i < k → i ≠ js → ∃ q : Nat, perm[q]? = some i)
    (hpk : ∀ (q : Nat) i, perm[q]? = some i → i < k ∧ i ≠ js)
    (hpl : perm.length ≤ k)
    (huniq : ∀ (q r : Nat) i, perm[q]? = some i → perm[r]? = some i → q = r)
    (hone : ∀ i j t, i < k → j < k → i ≠ j → dstB ops i t = true → dstB ops j t = false)
    (henv : ∀ (q : Nat) i o t, perm[q]? = some i → ops[i]? = some o → t ∈ o.looksAt ops → ∀ listed, listed.getD i false = false → Closed ops listed → (∀ e ∈ o.after, Region.binds .any e = true → listed.getD e.on false = true) → tmQ ops listed k tm0 tmF t = env q t)
    (hA : ∀ (q : Nat) i o, perm[q]? = some i → ops[i]? = some o → Fact2 P ops.toList (env q) tmF GA (nx + 64 * q) o)
    (hB : ∀ (q : Nat) i o, perm[q]? = some i → ops[i]? = some o → (∃ oj, ops[js]? = some oj ∧ reachB ops ops.size oj i = true) ∨ Fact2 P ops.toList (env q) tmF GB (nx + 64 * q) o)
    (hS : js < k → ∀ o, ops[js]? = some o → o.dst = none ∧ o.guard = none ∧ ∃ t y x, o.op = .store t y x ∧ (∀ listed, Closed ops listed → (∀ e ∈ o.after, Region.binds .any e = true → listed.getD e.on false = true) → ∀ z ∈ o.op.operands.toList, ev (tmQ ops listed k tm0 tmF) z = ev tmF z) ∧ (∀ z, z = y ∨ z = x → z ∈ o.op.operands.toList) ∧ vStore P (ev tmF) GA 0 (fun v G n => v = .any ∧ G = GB ∧ n = 0) t y x)
    (hGG : k ≤ js → GA = GB)
    (htail : vlist P ops.toList (ops.toList.drop k) ⟨tmF, GB, nx + 64 * k⟩ K)
    (next : ∀ S' a' w' ρ', K S' → SR N B ρ0 w0 S' a' w' ρ' → Q .normal a' w') :
    ∀ (fuel : Nat) (listed : Array Bool) (a : Act) (w : World) (ρ : Names), ops.size ≤ cnt listed k + fuel → listed.size = ops.size → (∀ i, k ≤ i → listed.getD i false = false) → Closed ops listed →
      TM ρ w (tmQ ops listed k tm0 tmF) a → a.defers = [] → a.tmps.size = N → HR (ZF (Fr2 nx perm listed)) B ρ (if listed.getD js false = true then GB else GA) 0 w → Below B w0 w → Ext ρ0 w0 ρ w → wpAny P .any ops Q fuel listed a w := by
  have fin : ∀ (fuel : Nat) (listed : Array Bool) (a : Act) (w : World) (ρ : Names), ops.size ≤ k + fuel → (∀ i, i < k → listed.getD i false = true) → listed.size = ops.size → (∀ i, k ≤ i → listed.getD i false = false) → Closed ops listed →
      TM ρ w (tmQ ops listed k tm0 tmF) a → a.defers = [] → a.tmps.size = N → HR (ZF (Fr2 nx perm listed)) B ρ (if listed.getD js false = true then GB else GA) 0 w → Below B w0 w → Ext ρ0 w0 ρ w → wpAny P .any ops Q fuel listed a w := by
    intro fuel listed a w ρ hf hall hsz hl hc hT hdf hts hh hbl he
    have hTF : TM ρ w tmF a := fun t => by
      have := hT t
      unfold tmQ at this
      rw [if_neg (by intro e; obtain ⟨j, h1, h2, _⟩ := pendB_true.1 e; rw [hall j h1] at h2; cases h2)] at this
      exact this
    have hG : (if listed.getD js false = true then GB else GA) = GB := by
      by_cases hjk : js < k
      · rw [if_pos (hall js hjk)]
      · rw [if_neg (by rw [hl js (by omega)]; simp)]
        exact hGG (by omega)
    rw [hG] at hh
    exact tail_any hd hreach next fuel k listed ⟨tmF, GB, nx + 64 * k⟩ a w ρ (Nat.le_refl _) (by omega) hsz (fun i => by
        by_cases hi : i < k
        · simp [hi, hall i hi]
        · simp [hi, hl i (by omega)]) hc htail
      ⟨hTF, hdf, hts, hh.zone (fun m (hm : nx + 64 * k ≤ m) => ⟨by omega, fun q i hq h1 h2 => by
        have : q < perm.length := (List.getElem?_eq_some_iff.1 hq).1
        omega⟩), hbl, he⟩
  intro fuel
  induction fuel with
  | zero =>
    intro listed a w ρ hf hsz hl hc hT hdf hts hh hbl he
    have hkz : k = ops.size := by have := cnt_le listed k; omega
    exact fin 0 listed a w ρ (by omega) (fun i hi => by
      cases hx : listed.getD i false with
      | true => rfl
      | false => have := cnt_lt k i hi hx; omega) hsz hl hc hT hdf hts hh hbl he
  | succ fuel ih =>
    intro listed a w ρ hf hsz hl hc hT hdf hts hh hbl he
    by_cases hall : ∀ i, i < k → listed.getD i false = true
    · exact fin (fuel + 1) listed a w ρ (by have := cnt_le listed k; omega) hall hsz hl hc hT hdf hts hh hbl he
    · simp only [Classical.not_forall] at hall
      obtain ⟨j0, hj0, hj0l⟩ := hall
      have hj0f : listed.getD j0 false = false := by simpa using hj0l
      refine ⟨fun hr => absurd hr (exists_ready hsz hk hb j0 j0 (Nat.le_refl _) hj0 hj0f), fun i hi => ?_⟩
      obtain ⟨h0, o, ho, hafter⟩ := mem_ready.1 hi
      obtain ⟨hil, hif⟩ := getD_true_false.1 h0
      have hik : i < k := by
        rcases Nat.lt_or_ge i k with h | h
        · exact h
        · exfalso
          have := reach_listed hc ops.size o j0 ((hreach i o h ho).1 j0 (by omega)) hafter
          rw [hj0f] at this
          cases this
      have hdN : ∀ t, o.dst = some t → t < a.tmps.size := fun t ht => by
        rw [hts]
        exact hd o (by obtain ⟨hlt, e⟩ := Array.getElem?_eq_some_iff.1 ho; rw [← e]; simp) t ht
      have hcl : Closed ops (listed.setIfInBounds i true) := fun x o' hx hlx e' he' hb' => by
        rw [getD_set hil] at hlx ⊢
        split
        · rfl
        · by_cases hxi : x = i
          · subst hxi
            rw [ho] at hx
            injection hx with hx
            subst hx
            exact hafter e' he' hb'
          · rw [if_neg hxi] at hlx
            exact hc x o' hx hlx e' he' hb'
      -- the slots behind the operation
      have htm : ∀ (ρ' : Names) (x : Value) (w' : World) (v : VV), (∀ t, o.dst = some t → tmF t = v) → VR ρ' w' v x → Ext ρ w ρ' w' → TM ρ' w' (tmQ ops (listed.setIfInBounds i true) k tm0 tmF) (a.put o.dst x) := by
        intro ρ' x w' v hv hvx he' t
        have hput := (hT.ext he').put hdN hvx t
        have e : V.put o.dst v (tmQ ops listed k tm0 tmF) t = tmQ ops (listed.setIfInBounds i true) k tm0 tmF t := by
          by_cases htd : o.dst = some t
          · have h1 : V.put o.dst v (tmQ ops listed k tm0 tmF) t = v := by rw [htd]; simp [V.put, upd_ap]
            rw [h1]
            unfold tmQ
            rw [if_neg]
            · exact (hv t htd).symm
            · intro e
              obtain ⟨j, h1, h2, o', ho', h3⟩ := pendB_true.1 e
              rw [getD_set hil] at h2
              split at h2
              · cases h2
              · rename_i hji
                have := hone i j t hik h1 (Ne.symm hji) (dstB_iff.2 ⟨o, ho, htd⟩)
                rw [dstB_iff.2 ⟨o', ho', h3⟩] at this
                cases this
          · have h1 : V.put o.dst v (tmQ ops listed k tm0 tmF) t = tmQ ops listed k tm0 tmF t := by
              cases hod : o.dst with
              | none => rfl
              | some d => simp only [V.put,upd_ap]; rw [if_neg (by intro e; rw [e] at htd; exact htd hod)]
            rw [h1]
            unfold tmQ
            have : pendB ops (listed.setIfInBounds i true) k t = pendB ops listed k t := by
              rw [Bool.eq_iff_iff, pendB_true, pendB_true]
              constructor
              · rintro ⟨j, h1, h2, o', ho', h3⟩
                rw [getD_set hil] at h2
                split at h2
                · cases h2
                · exact ⟨j, h1, h2, o', ho', h3⟩
              · rintro ⟨j, h1, h2, o', ho', h3⟩
                refine ⟨j, h1, ?_, o', ho', h3⟩
                rw [getD_set hil, if_neg]
                · exact h2
                · intro e; subst e; rw [ho] at ho'; injection ho' with ho'; subst ho'; exact htd h3
            rw [this]
        rw [e] at hput
        exact hput
      by_cases hjs : i = js
      · -- the store
        subst hjs
        obtain ⟨hdst, hg, t, y, x, hop, hev, hyx, hst⟩ := hS hik o ho
        have hev := hev listed hc hafter
        rw [if_neg (by rw [hif]; simp)] at hh
        have hst2 : vStore P (ev (tmQ ops listed k tm0 tmF)) GA 0 (fun v G n => v = .any ∧ G = GB ∧ n = 0) t y x := by
          unfold vStore at hst ⊢
          unfold onV at hst ⊢
          rw [hev y (hyx y (.inl rfl)), hev x (hyx x (.inr rfl))]
          exact hst
        have hr := store_sound hT hh t y x hop hst2
        have after : ∀ (ρ' : Names) (x : Value) (w' : World), HR (ZF (Fr2 nx perm listed)) B ρ' GB 0 w' → Ext ρ w ρ' w' → Below B w w' → wpAny P .any ops Q fuel (listed.setIfInBounds i true) (a.put o.dst x) w' := by
          intro ρ' x w' hh' he' hb'
          have hz := put_size a o.dst x
          refine ih _ _ _ ρ' ?_ (by simpa using hsz) (fun j hj => by rw [getD_set hil, if_neg (by omega)]; exact hl j hj) hcl ?_ (by rw [hz.2]; exact hdf) (by rw [hz.1]; exact hts) ?_ (hbl.trans hb') (he.trans he')
          · rw [cnt_set hil hif, if_pos hik]; omega
          · exact htm ρ' x w' .any (fun t ht => by rw [hdst] at ht; cases ht) (by simp [VR, VR1]) he'
          · rw [if_pos (by rw [getD_set hil, if_pos rfl])]
            refine hh'.zone fun m hm => ⟨hm.1, fun q j hq h1 h2 => ?_⟩
            have := hm.2 q j hq h1 h2
            rw [getD_set hil, if_neg (hpk q j hq).2] at this
            exact this
        have hw : (if Region.wanted o (yielded ops a.tmps) = true then o.wp P a w (wpAny P .any ops Q fuel (listed.setIfInBounds i true)) Q else wpAny P .any ops Q fuel (listed.setIfInBounds i true) (a.put o.dst undef) w) := by
          rw [if_pos (by simp [Region.wanted, hg])]
          unfold Oper.wp
          rcases hr with ⟨x, w', hr, hg⟩ | ⟨w', hr, hg⟩ | ⟨f, xs, hr, hcl'⟩
          · rw [hr]
            obtain ⟨v', H', n'', ρ', ⟨rfl, rfl, rfl⟩, h1, h2, h3, h4⟩ := hg
            exact after ρ' x w' h2 h3 h4
          · rw [hr]
            obtain ⟨v', H', n'', ρ', ⟨rfl, rfl, rfl⟩, h1, h2, h3, h4⟩ := hg
            exact after ρ' undef w' h2 h3 h4
          · rw [hr]
            refine Calls.mono hcl' fun e w' hee => ?_
            obtain ⟨x, rfl, v', H', n'', ρ', ⟨rfl, rfl, rfl⟩, h1, h2, h3, h4⟩ := hee
            exact after ρ' x w' h2 h3 h4
        unfold wpOp
        rw [ho]
        dsimp only
        split
        · rename_i hx; rw [if_pos hx] at hw; exact .inl hw
        · rename_i hx; rw [if_neg hx] at hw; exact hw
      -- another one
      obtain ⟨q, hq⟩ := hperm i hik hjs
      have hseen : ∀ t ∈ o.looksAt ops, tmQ ops listed k tm0 tmF t = env q t := fun t ht => henv q i o t hq ho ht listed hif hc hafter
      obtain ⟨G, hGe, hFi⟩ : ∃ G, (if listed.getD js false = true then GB else GA) = G ∧ Fact2 P ops.toList (env q) tmF G (nx + 64 * q) o := by
        by_cases hj : listed.getD js false = true
        · rw [if_pos hj]
          rcases hB q i o hq ho with ⟨oj, hoj, hr⟩ | h
          · exfalso
            have := reach_listed hc ops.size oj i hr (fun e he hb' => hc js oj hoj hj e he hb')
            rw [hif] at this
            cases this
          · exact ⟨GB, rfl, h⟩
        · rw [if_neg hj]
          exact ⟨GA, rfl, hA q i o hq ho⟩
      have hGe' : (if (listed.setIfInBounds i true).getD js false = true then GB else GA) = G := by
        rw [getD_set hil, if_neg (Ne.symm hjs)]
        exact hGe
      rw [hGe] at hh
      -- on behind the operation
      have go : ∀ (ρ' : Names) (x : Value) (w' : World) (v : VV) (n' : Nat), (∀ t, o.dst = some t → tmF t = v) → VR ρ' w' v x → HR (ZI (Fr2 nx perm listed) (nx + 64 * q)) B ρ' G n' w' → n' ≤ nx + 64 * q + 64 → Ext ρ w ρ' w' → Below B w w' →
          wpAny P .any ops Q fuel (listed.setIfInBounds i true) (a.put o.dst x) w' := by
        intro ρ' x w' v n' hv hvx hh' hn' he' hb'
        have hz := put_size a o.dst x
        refine ih _ _ _ ρ' ?_ (by simpa using hsz) (fun j hj => by rw [getD_set hil, if_neg (by omega)]; exact hl j hj) hcl (htm ρ' x w' v hv hvx he') (by rw [hz.2]; exact hdf) (by rw [hz.1]; exact hts) ?_ (hbl.trans hb') (he.trans he')
        · rw [cnt_set hil hif, if_pos hik]; omega
        · rw [hGe']
          refine hh'.zone fun m hm => .inr ⟨⟨hm.1, fun r j hr h1 h2 => ?_⟩, fun hc' => ?_⟩
          · have := hm.2 r j hr h1 h2
            rw [getD_set hil] at this
            split at this
            · cases this
            · exact this
          · have := hm.2 q i hq hc'.1 hc'.2
            rw [getD_set hil, if_pos rfl] at this
            cases this
      have hhI : HR (ZI (Fr2 nx perm listed) (nx + 64 * q)) B ρ G (nx + 64 * q) w := hh.zone fun m hm => by
        rcases hm with hm | hm
        · refine ⟨by omega, fun r j hr h1 h2 => ?_⟩
          have : r = q := by omega
          subst this
          rw [hq] at hr
          injection hr with hr
          subst hr
          exact hif
        · exact hm.1
      have run : Does2 P (env q) tmF G (nx + 64 * q) o → o.wp P a w (wpAny P .any ops Q fuel (listed.setIfInBounds i true)) Q := by
        rintro ⟨v, n', hv, hn1, hn2, hdo⟩
        have hop := hdo (ev (tmQ ops listed k tm0 tmF)) (fun v' H' n'' => v' = v ∧ H' = G ∧ n'' = n') (fun x hx => by
          cases x with
          | tmp t => exact hseen t (looks_operand hx)
          | _ => rfl) ⟨rfl, rfl, rfl⟩
        have hr := vopH_sound (Z := ZI (Fr2 nx perm listed) (nx + 64 * q)) hT hhI (fun v' H' n'' h1 h2 => (⟨Nat.le_refl _, by omega⟩ : nx + 64 * q ≤ nx + 64 * q ∧ nx + 64 * q < nx + 64 * q + 64)) hop
        unfold Oper.wp
        rcases hr with ⟨x, w', hr, hg⟩ | ⟨w', hr, hg⟩ | ⟨f, xs, hr, hcl'⟩
        · rw [hr]
          obtain ⟨v', H', n'', ρ', ⟨rfl, rfl, rfl⟩, h1, h2, h3, h4⟩ := hg
          exact go ρ' x w' v' n'' hv h1 h2 hn2 h3 h4
        · rw [hr]
          obtain ⟨v', H', n'', ρ', ⟨rfl, rfl, rfl⟩, h1, h2, h3, h4⟩ := hg
          exact go ρ' undef w' v' n'' hv h1 h2 hn2 h3 h4
        · rw [hr]
          refine Calls.mono hcl' fun e w' hee => ?_
          obtain ⟨x, rfl, v', H', n'', ρ', ⟨rfl, rfl, rfl⟩, h1, h2, h3, h4⟩ := hee
          exact go ρ' x w' v' n'' hv h1 h2 hn2 h3 h4
      have skip : (∀ t, o.dst = some t → tmF t = .raw undef) → wpAny P .any ops Q fuel (listed.setIfInBounds i true) (a.put o.dst undef) w := fun hv =>
        go ρ undef w (.raw undef) (nx + 64 * q) hv (by simp [VR, VR1, C1]) hhI (by omega) (Ext.refl _ _) (Below.refl _ _)
      have hst : if Region.wanted o (yielded ops a.tmps) = true then o.wp P a w (wpAny P .any ops Q fuel (listed.setIfInBounds i true)) Q else wpAny P .any ops Q fuel (listed.setIfInBounds i true) (a.put o.dst undef) w := by
        rcases hFi with ⟨hg, hdo⟩ | ⟨g, want, d, hg, hdg, hrest⟩
        · rw [if_pos (by simp [Region.wanted, hg])]
          exact run hdo
        · have hTd := hT d
          rw [hseen d (looks_guard hg hdg)] at hTd
          have hyd : yielded ops a.tmps g = match a.tmps[d]? with | some (.bool b) => some b | _ => none := by
            unfold yielded
            rw [dstAt_eq, Array.getElem?_toList] at hdg
            rw [hdg]
            simp only [Option.bind_some]
            rfl
          have hbool : ∀ b, env q d = .bool b → Region.wanted o (yielded ops a.tmps) = (b == want) := fun b hb2 => by
            rw [hb2] at hTd
            have hx := hTd.bool
            have hbd : a.tmps[d]? = some (.bool b) := by
              rw [Array.getD_eq_getD_getElem?] at hx
              cases hy : a.tmps[d]? with
              | none => rw [hy] at hx; simp [undef] at hx
              | some y => rw [hy] at hx; simp at hx; rw [hx]
            simp only [Region.wanted,hg,hyd,hbd]
            cases b <;> cases want <;> rfl
          rcases hrest with ⟨hdv, hdo⟩ | ⟨hdv, hu⟩
          · rw [hbool want hdv, if_pos (by simp)]
            exact run hdo
          · have hw : Region.wanted o (yielded ops a.tmps) = false := by
              rcases hdv with hdv | hdv
              · rw [hbool _ hdv]; cases want <;> rfl
              · rw [hdv] at hTd
                have hx : a.tmps.getD d undef = undef := by simpa [VR, VR1, C1] using hTd
                simp only [Region.wanted,hg,hyd]
                rw [Array.getD_eq_getD_getElem?] at hx
                cases hy : a.tmps[d]? with
                | none => cases want <;> rfl
                | some y =>
                  rw [hy] at hx
                  simp only [Option.getD_some] at hx
                  subst hx
                  cases want <;> rfl
            rw [hw, if_neg (by simp)]
            exact skip hu
      unfold wpOp
      rw [ho]
      dsimp only
      split
      · rename_i hw; rw [if_pos hw] at hst; exact .inl hst
      · rename_i hw; rw [if_neg hw] at hst; exact hst
end
end Go.Proofs.Ytginpdejpibdjaa.V
end
