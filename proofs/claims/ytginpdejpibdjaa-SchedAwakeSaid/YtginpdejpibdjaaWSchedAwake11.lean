/-
  Parts of the proof of SchedAwake: NV, NW, R8.
  Conditions: none.
-/
import Derived.Test.YtginpdejpibdjaaWSchedAwake10
set_option linter.unusedVariables false
set_option linter.unusedSimpArgs false
set_option linter.unusedSectionVars false
set_option linter.defProp false
section
namespace Go.Proofs.Ytginpdejpibdjaa.V
open Go
set_option maxRecDepth 100000
def znNV := And.intro @jO <| And.intro @jP <| And.intro @jQ <| And.intro @jR <| And.intro @jS <| And.intro @jT <| And.intro @jU <| True.intro
set_option maxHeartbeats 4000000
theorem journaled_ok (d : Dr) (hd : dfit d) (h0 : checkD d = 0) (h1 : 33 < d.bl.length) : Spec Try.prog 118 [encDr d] (.int .i64 0) := by
  have hC := check_spec d hd
  rw [h0] at hC
  have hb := checkD_le h0
  refine spec_ok Try.func118 rfl rfl (by kernel_rfl) (k := 1) rfl (by decide) ?_
  repeat' (first|(with_reducible first|refine yrl (by constructor) ?_|refine jk (fun M hM=>?_)|(refine hM _ ?_;clear hM M)|refine xb3 (by decide) ?_|refine yqa (by assumption) ?_ ?_|refine yqb (by assumption) ?_ ?_)|((with_reducible refine je ?_)<;>(first|rfl|assumption|(simp only [znl,znNV];(first|done|fail))))|(with_reducible refine jf (by (simp only [↓reduceIte,zlk,Nat.reduceEqDiff,reduceCtorEq]);exact rfl) ?_)|((with_reducible first|refine jg (fun hc=>?_) (fun hc=>?_)|refine jh (fun hc=>?_) (fun hc=>?_))<;>(try simp (disch:=omega) only [zhb] at hc)<;>(try (exfalso;omega))<;>(try subst hc))|(with_reducible refine ji (by omega) ?_)|(simp (config := { maxSteps := 400000 }) only [↓jt,↓reduceIte,zvs,reduceCtorEq,Nat.reduceEqDiff,Nat.reduceAdd,Nat.reduceLeDiff,Nat.reduceMul,Int.reduceBNe,Int.reduceBEq,Int.reduceEq,Int.reduceNe,Int.reduceLT,Int.reduceLE,Int.reduceGT,Int.reduceGE,Int.reduceNeg,Int.reduceToNat,Nat.reduceLT,Nat.reduceSub,tab,Try.results118,jTA])|(simp (disch:=omega) only [ziw]))
  all_goals first
    | (exfalso; omega)
    | (simp only [zrds]; done)
def hwF (v : Frames) (w : Wr) : Frames := if 33 ≤ w.b then v.set (w.b - 33).toNat w.d else v
theorem hwF_len (v : Frames) (w : Wr) : (hwF v w).length = v.length := by unfold hwF; split <;> simp
theorem hwF_all_len (l : List Wr) : ∀ v : Frames, (l.foldl hwF v).length = v.length := by
  induction l with
  | nil => intro v; rfl
  | cons w l ih => intro v; rw [List.foldl_cons, ih, hwF_len]
theorem hwF_getP (i : Nat) : ∀ (l : List Wr) (v : Frames), i < v.length → (∀ w ∈ l, w.b < 33 + (v.length : Int)) → (l.foldl hwF v).getD i [] = getP l ((33 + i : Nat) : Int) (v.getD i [])
  | [], v, _, _ => rfl
  | w :: l, v, hi, h => by
    have hw := h w (by simp)
    rw [List.foldl_cons, hwF_getP i l (hwF v w) (by rw [hwF_len]; exact hi) (fun x hx => by rw [hwF_len]; exact h x (by simp [hx]))]
    have e : getP (w :: l) ((33 + i : Nat) : Int) (v.getD i []) = getP l ((33 + i : Nat) : Int) (if w.b = ((33 + i : Nat) : Int) then w.d else v.getD i []) := rfl
    rw [e]
    congr 1
    unfold hwF
    by_cases h33 : 33 ≤ w.b
    · rw [if_pos h33, List.getD_eq_getElem?_getD, List.getElem?_set]
      by_cases hq : (w.b - 33).toNat = i
      · rw [if_pos hq, if_pos (by omega), if_pos (by omega)]; rfl
      · rw [if_neg hq, if_neg (by omega), ← List.getD_eq_getElem?_getD]
    · rw [if_neg h33, if_neg (by omega)]
theorem home_eq {d : Dr} (h0 : checkD d = 0) (h1 : 33 < d.bl.length) (hr : ∀ w ∈ d.pe, w.b < d.bl.length) : d.pe.foldl hwF (d.bl.drop 33) = homeD d := by
  unfold homeD
  rw [if_pos ⟨h0, h1⟩]
  have hl : (d.pe.foldl hwF (d.bl.drop 33)).length = d.bl.length - 33 := by rw [hwF_all_len, List.length_drop]
  apply List.ext_getElem
  · rw [hl]; simp
  · intro i hi1 hi2
    have hi : i < d.bl.length - 33 := by rw [hl] at hi1; exact hi1
    have key := hwF_getP i d.pe (d.bl.drop 33) (by rw [List.length_drop]; exact hi) (fun w hw => by have := hr w hw; rw [List.length_drop]; omega)
    rw [List.getD_eq_getElem?_getD, List.getElem?_eq_getElem hi1] at key
    simp only [Option.getD_some] at key
    rw [key, List.getElem_map, List.getElem_range]
    unfold homeB
    congr 1
    rw [List.getD_eq_getElem?_getD, List.getElem?_drop, ← List.getD_eq_getElem?_getD]
theorem checkW_rng : ∀ {n : Nat} {l : List Wr}, checkW n l = 0 → ∀ w ∈ l, 0 ≤ w.b ∧ w.b < (n : Int)
  | n, [], _, w, hw => by cases hw
  | n, x :: l, h, w, hw => by
    unfold checkW at h
    split at h
    · omega
    · split at h
      · omega
      · rename_i h1 h2
        rcases List.mem_cons.1 hw with rfl | hw
        · exact Decidable.byContradiction fun hc => h1 hc
        · exact checkW_rng h w hw
theorem checkD_rng {d : Dr} (h : checkD d = 0) : ∀ w ∈ d.pe, 0 ≤ w.b ∧ w.b < (d.bl.length : Int) := by
  unfold checkD at h
  split at h
  · omega
  · split at h
    · omega
    · exact checkW_rng h
def lastW (l : List Wr) : Nat → Int
  | 0 => -1
  | k + 1 => (l.getD k default).b
theorem dirtyQ_facts {v : Frames} {l : List Wr} {k : Nat} (h : dirtyQ v l k = true) : 0 ≤ (l.getD k default).b ∧ (l.getD k default).b < v.length ∧ (l.getD k default).d.length = 128 ∧ lastW l k < (l.getD k default).b := by
  unfold dirtyQ at h
  simp only [Bool.not_eq_true',Bool.or_eq_false_iff,decide_eq_false_iff_not,Bool.and_eq_false_iff,ne_eq,Decidable.not_not] at h
  refine ⟨by omega, by omega, h.1.2, ?_⟩
  cases k with
  | zero => show (-1 : Int) < _; omega
  | succ k =>
    have h2 := h.2
    rw [Nat.add_sub_cancel] at h2
    show (l.getD k default).b < _
    omega
theorem volume_ok (m : Mach) (hm : MFit 20000 m) (h : diskE m = 0) : Spec Try.prog 55 [encM m] (.int .i64 0) := by
  have hd := dfit_of hm
  unfold diskE at h
  split at h
  · omega
  rename_i hc
  have hc : checkD m.dr = 0 := by omega
  split at h
  · omega
  rename_i hne
  split at h
  · omega
  rename_i h32
  split at h
  · omega
  rename_i hdE
  have h33 : 33 < m.dr.bl.length := by
    refine Decidable.byContradiction fun hx => hne ?_
    unfold homeD
    rw [if_neg (fun y => hx y.2)]
  have hbl := checkD_le hc
  have hC := check_spec m.dr hd
  rw [hc] at hC
  have hJ := journaled_ok m.dr hd hc h33
  have hrng := checkD_rng hc
  have hE := home_eq hc h33 fun w hw => (hrng w hw).2
  have hvf := volM_fit hm
  obtain ⟨g, hO⟩ := gof_ok (volM m) hvf.1 hvf.2 h
  have hpeL := hm.pe
  have hpeS := hm.peS
  have hdS := hm.dirtyS
  have hq : ∀ i, i < m.dirty.length → dirtyQ (homeD m.dr) m.dirty i = true := fun i hi => by
    have hdE : dirtyE (homeD m.dr) m.dirty = true := by simpa using hdE
    exact (List.all_eq_true.1 hdE) i (List.mem_range.2 hi)
  have hhl : (homeD m.dr).length = m.dr.bl.length - 33 := by rw [← hE, hwF_all_len, List.length_drop]
  obtain ⟨n, hn⟩ : ∃ n, n = m.dr.bl.length - 33 := ⟨_, rfl⟩
  refine spec_ok Try.func55 rfl rfl (by kernel_rfl) (k := 1) rfl (by decide) ?_
  repeat' (first|(with_reducible first|refine yrl (by constructor) ?_|refine jk (fun M hM=>?_)|(refine hM _ ?_;clear hM M)|refine xb3 (by decide) ?_|refine yqa (by assumption) ?_ ?_|refine yqb (by assumption) ?_ ?_)|((with_reducible refine je ?_)<;>(first|rfl|assumption|(simp only [znl,znNV];(first|done|fail))))|(with_reducible refine jf (by (simp only [↓reduceIte,zlk,Nat.reduceEqDiff,reduceCtorEq]);exact rfl) ?_)|((with_reducible first|refine jg (fun hc=>?_) (fun hc=>?_)|refine jh (fun hc=>?_) (fun hc=>?_))<;>(try simp (disch:=omega) only [zhb] at hc)<;>(try (exfalso;omega))<;>(try subst hc))|(with_reducible refine ji (by omega) ?_)|(simp (config := { maxSteps := 400000 }) only [↓jt,↓reduceIte,zvs,reduceCtorEq,Nat.reduceEqDiff,Nat.reduceAdd,Nat.reduceLeDiff,Nat.reduceMul,Int.reduceBNe,Int.reduceBEq,Int.reduceEq,Int.reduceNe,Int.reduceLT,Int.reduceLE,Int.reduceGT,Int.reduceGE,Int.reduceNeg,Int.reduceToNat,Nat.reduceLT,Nat.reduceSub,tab,Try.results55,jTA])|(simp (disch:=omega) only [ziw]))
  refine ja (ok_body Try.func87 rfl rfl (by kernel_rfl) (k := 1) (by rfl) (by decide) ?_)
  repeat' (first|(with_reducible first|refine yrl (by constructor) ?_|refine jk (fun M hM=>?_)|(refine hM _ ?_;clear hM M)|refine xb3 (by decide) ?_|refine yqa (by assumption) ?_ ?_|refine yqb (by assumption) ?_ ?_)|((with_reducible refine je ?_)<;>(first|rfl|assumption|(simp only [znl,znNV];(first|done|fail))))|(with_reducible refine jf (by (simp only [↓reduceIte,zlk,Nat.reduceEqDiff,reduceCtorEq]);exact rfl) ?_)|((with_reducible first|refine jg (fun hc=>?_) (fun hc=>?_)|refine jh (fun hc=>?_) (fun hc=>?_))<;>(try simp (disch:=omega) only [zhb] at hc)<;>(try (exfalso;omega))<;>(try subst hc))|(with_reducible refine ji (by omega) ?_)|(simp (config := { maxSteps := 400000 }) only [↓jt,↓reduceIte,zvs,reduceCtorEq,Nat.reduceEqDiff,Nat.reduceAdd,Nat.reduceLeDiff,Nat.reduceMul,Int.reduceBNe,Int.reduceBEq,Int.reduceEq,Int.reduceNe,Int.reduceLT,Int.reduceLE,Int.reduceGT,Int.reduceGE,Int.reduceNeg,Int.reduceToNat,Nat.reduceLT,Nat.reduceSub,tab,Try.results87,jTA])|(simp (disch:=omega) only [ziw]))
  refine ok_loop (fun k : Nat => ⟨slots [(1, .ptr 1 []), (3, .sl (some (2, [], 0)) n), (14, encWrs m.dr.pe), (15, .int .i64 m.dr.pe.length), (16, .int .i64 k)], rows [(0, .row machSh (encM m)), (1, .row (.st [.cell, .cell, .cell]) (encDr m.dr)), (2, .row (.arr n .cell) (.agg (((m.dr.pe.take k).foldl hwF (m.dr.bl.drop 33)).map .str)))], 3⟩) (fun k => k ≤ m.dr.pe.length) (fun k => m.dr.pe.length - k) 0 ?_ (Nat.zero_le _) (fun k hk => ?_)
  · (refine yrn [(1, 1), (2, 2)] false ?_ ?_<;>(repeat' (first|(with_reducible first|exact ya1|exact ya2|exact ya3|refine jx rfl (by first|rfl|assumption|(simp only [znl,znNV];(first|done|fail)))|exact ya5|exact ya7|exact jy|exact jz|refine jA ?_|refine ya9 ?_ ?_ ?_|refine jC rfl (by first|rfl|assumption|(simp only [znl,znNV];(first|done|fail)))|refine MR.agg (MRL.cons ?_ ?_)|refine MR.fn ?_|refine MRL.cons ?_ ?_|exact MRL.nil|refine jE ?_ ?_|exact jF|exact jG|refine yb1 ?_ ?_|refine MB.row ?_|refine jI ?_ ?_|exact ya8|refine jJ rfl (by first|rfl|assumption|(simp only [znl,znNV];(first|done|fail)))|refine yb2 ?_|rfl)|(simp only [znl,znNV];(first|done|fail))|(simp only [↓reduceIte,zlk,Nat.reduceEqDiff,reduceCtorEq])|(with_reducible first|refine jJ ?_ ?_|refine ya5 ?_|refine ju ?_|refine jv ?_|refine jw ?_|refine jx ?_ (by first|rfl|assumption|(simp only [znl,znNV];(first|done|fail)))|refine jC ?_ (by first|rfl|assumption|(simp only [znl,znNV];(first|done|fail)))))))
    all_goals (first | rfl | omega | (rw [List.take_of_length_le (by simp), List.take_zero, List.foldl_nil, List.map_drop]; done) | (rw [hn]; simp; done) | (simp; done))
  have hvl := hwF_all_len (m.dr.pe.take k) (m.dr.bl.drop 33)
  rw [List.length_drop, ← hn] at hvl
  by_cases hlt : k < m.dr.pe.length
  · obtain ⟨⟨w1, w2⟩, w3⟩ := hpeS _ (getD_mem' hlt)
    obtain ⟨w4, w5⟩ := hrng _ (getD_mem' hlt)
    have e1 : (m.dr.pe.take (k + 1)).foldl hwF (m.dr.bl.drop 33) = hwF ((m.dr.pe.take k).foldl hwF (m.dr.bl.drop 33)) (m.dr.pe.getD k default) := by
      rw [take_snoc m.dr.pe k hlt, List.foldl_append]; rfl
    generalize (m.dr.pe.take k).foldl hwF (m.dr.bl.drop 33) = v at hvl e1 ⊢
    have hset : ∀ (i : Nat) (s : List UInt8), (v.map VV.str).set i (.str s) = (v.set i s).map VV.str := fun i s => (List.map_set ..).symm
    by_cases hq33 : 33 ≤ (m.dr.pe.getD k default).b
    · have e1 := e1.trans (show hwF v (m.dr.pe.getD k default) = v.set ((m.dr.pe.getD k default).b - 33).toNat (m.dr.pe.getD k default).d from if_pos hq33)
      repeat' (first|(with_reducible first|refine yrl (by constructor) ?_|refine jk (fun M hM=>?_)|(refine hM _ ?_;clear hM M)|refine xb3 (by decide) ?_|refine yqa (by assumption) ?_ ?_|refine yqb (by assumption) ?_ ?_)|((with_reducible refine je ?_)<;>(first|rfl|assumption|(simp only [znl,znNV];(first|done|fail))))|(with_reducible refine jf (by (simp only [↓reduceIte,zlk,Nat.reduceEqDiff,reduceCtorEq]);exact rfl) ?_)|((with_reducible first|refine jg (fun hc=>?_) (fun hc=>?_)|refine jh (fun hc=>?_) (fun hc=>?_))<;>(try simp (disch:=omega) only [zhb] at hc)<;>(try (exfalso;omega))<;>(try subst hc))|(with_reducible refine ji (by omega) ?_)|(simp (config := { maxSteps := 400000 }) only [↓jt,↓reduceIte,zvs,reduceCtorEq,Nat.reduceEqDiff,Nat.reduceAdd,Nat.reduceLeDiff,Nat.reduceMul,Int.reduceBNe,Int.reduceBEq,Int.reduceEq,Int.reduceNe,Int.reduceLT,Int.reduceLE,Int.reduceGT,Int.reduceGE,Int.reduceNeg,Int.reduceToNat,Nat.reduceLT,Nat.reduceSub,tab,encWr,hvl,hset,Try.results87,jTA])|(simp (disch:=omega) only [ziw]))
      all_goals first
        | (exfalso; omega)
        | (refine xl1 (k + 1) ?_ (by show k + 1 ≤ m.dr.pe.length; omega) (by show m.dr.pe.length - (k + 1) < m.dr.pe.length - k; omega); (refine yrn [(1, 1), (2, 2)] false ?_ ?_<;>(repeat' (first|(with_reducible first|exact ya1|exact ya2|exact ya3|refine jx rfl (by first|rfl|assumption|(simp only [znl,znNV];(first|done|fail)))|exact ya5|exact ya7|exact jy|exact jz|refine jA ?_|refine ya9 ?_ ?_ ?_|refine jC rfl (by first|rfl|assumption|(simp only [znl,znNV];(first|done|fail)))|refine MR.agg (MRL.cons ?_ ?_)|refine MR.fn ?_|refine MRL.cons ?_ ?_|exact MRL.nil|refine jE ?_ ?_|exact jF|exact jG|refine yb1 ?_ ?_|refine MB.row ?_|refine jI ?_ ?_|exact ya8|refine jJ rfl (by first|rfl|assumption|(simp only [znl,znNV];(first|done|fail)))|refine yb2 ?_|rfl)|(simp only [znl,znNV];(first|done|fail))|(simp only [↓reduceIte,zlk,Nat.reduceEqDiff,reduceCtorEq])|(with_reducible first|refine jJ ?_ ?_|refine ya5 ?_|refine ju ?_|refine jv ?_|refine jw ?_|refine jx ?_ (by first|rfl|assumption|(simp only [znl,znNV];(first|done|fail)))|refine jC ?_ (by first|rfl|assumption|(simp only [znl,znNV];(first|done|fail))))))); all_goals (first | rfl | (rw [e1]; done)))
    · have e1 := e1.trans (show hwF v (m.dr.pe.getD k default) = v from if_neg hq33)
      repeat' (first|(with_reducible first|refine yrl (by constructor) ?_|refine jk (fun M hM=>?_)|(refine hM _ ?_;clear hM M)|refine xb3 (by decide) ?_|refine yqa (by assumption) ?_ ?_|refine yqb (by assumption) ?_ ?_)|((with_reducible refine je ?_)<;>(first|rfl|assumption|(simp only [znl,znNV];(first|done|fail))))|(with_reducible refine jf (by (simp only [↓reduceIte,zlk,Nat.reduceEqDiff,reduceCtorEq]);exact rfl) ?_)|((with_reducible first|refine jg (fun hc=>?_) (fun hc=>?_)|refine jh (fun hc=>?_) (fun hc=>?_))<;>(try simp (disch:=omega) only [zhb] at hc)<;>(try (exfalso;omega))<;>(try subst hc))|(with_reducible refine ji (by omega) ?_)|(simp (config := { maxSteps := 400000 }) only [↓jt,↓reduceIte,zvs,reduceCtorEq,Nat.reduceEqDiff,Nat.reduceAdd,Nat.reduceLeDiff,Nat.reduceMul,Int.reduceBNe,Int.reduceBEq,Int.reduceEq,Int.reduceNe,Int.reduceLT,Int.reduceLE,Int.reduceGT,Int.reduceGE,Int.reduceNeg,Int.reduceToNat,Nat.reduceLT,Nat.reduceSub,tab,encWr,hvl,hset,Try.results87,jTA])|(simp (disch:=omega) only [ziw]))
      all_goals first
        | (exfalso; omega)
        | (refine xl1 (k + 1) ?_ (by show k + 1 ≤ m.dr.pe.length; omega) (by show m.dr.pe.length - (k + 1) < m.dr.pe.length - k; omega); (refine yrn [(1, 1), (2, 2)] false ?_ ?_<;>(repeat' (first|(with_reducible first|exact ya1|exact ya2|exact ya3|refine jx rfl (by first|rfl|assumption|(simp only [znl,znNV];(first|done|fail)))|exact ya5|exact ya7|exact jy|exact jz|refine jA ?_|refine ya9 ?_ ?_ ?_|refine jC rfl (by first|rfl|assumption|(simp only [znl,znNV];(first|done|fail)))|refine MR.agg (MRL.cons ?_ ?_)|refine MR.fn ?_|refine MRL.cons ?_ ?_|exact MRL.nil|refine jE ?_ ?_|exact jF|exact jG|refine yb1 ?_ ?_|refine MB.row ?_|refine jI ?_ ?_|exact ya8|refine jJ rfl (by first|rfl|assumption|(simp only [znl,znNV];(first|done|fail)))|refine yb2 ?_|rfl)|(simp only [znl,znNV];(first|done|fail))|(simp only [↓reduceIte,zlk,Nat.reduceEqDiff,reduceCtorEq])|(with_reducible first|refine jJ ?_ ?_|refine ya5 ?_|refine ju ?_|refine jv ?_|refine jw ?_|refine jx ?_ (by first|rfl|assumption|(simp only [znl,znNV];(first|done|fail)))|refine jC ?_ (by first|rfl|assumption|(simp only [znl,znNV];(first|done|fail))))))); all_goals (first | rfl | (rw [e1]; done)))
  obtain rfl : k = m.dr.pe.length := by omega
  rw [List.take_length, hE] at *
  have hnh : n = (homeD m.dr).length := by rw [hhl]; exact hn
  have hn0 : 0 < n := by omega
  repeat' (first|(with_reducible first|refine yrl (by constructor) ?_|refine jk (fun M hM=>?_)|(refine hM _ ?_;clear hM M)|refine xb3 (by decide) ?_|refine yqa (by assumption) ?_ ?_|refine yqb (by assumption) ?_ ?_)|((with_reducible refine je ?_)<;>(first|rfl|assumption|(simp only [znl,znNV];(first|done|fail))))|(with_reducible refine jf (by (simp only [↓reduceIte,zlk,Nat.reduceEqDiff,reduceCtorEq]);exact rfl) ?_)|((with_reducible first|refine jg (fun hc=>?_) (fun hc=>?_)|refine jh (fun hc=>?_) (fun hc=>?_))<;>(try simp (disch:=omega) only [zhb] at hc)<;>(try (exfalso;omega))<;>(try subst hc))|(with_reducible refine ji (by omega) ?_)|(simp (config := { maxSteps := 400000 }) only [↓jt,↓reduceIte,zvs,reduceCtorEq,Nat.reduceEqDiff,Nat.reduceAdd,Nat.reduceLeDiff,Nat.reduceMul,Int.reduceBNe,Int.reduceBEq,Int.reduceEq,Int.reduceNe,Int.reduceLT,Int.reduceLE,Int.reduceGT,Int.reduceGE,Int.reduceNeg,Int.reduceToNat,Nat.reduceLT,Nat.reduceSub,tab,List.take_length,Try.results87,Try.results55,jTA])|(simp (disch:=omega) only [ziw]))
  all_goals (try (exfalso; omega))
  clear hE
  unfold volM at hO
  generalize homeD m.dr = h0 at hq hnh hO hhl ⊢
  refine ok_loop (fun k : Nat => ⟨slots [(1, .ptr 0 []), (4, .sl (some (2, [], 0)) n), (5, .int .i64 (lastW m.dirty k)), (27, encWrs m.dirty), (28, .int .i64 m.dirty.length), (29, .int .i64 k)], rows [(0, .row machSh (encM m)), (2, .row (.arr n .cell) (.agg (((m.dirty.take k).foldl wrV h0).map .str)))], 3⟩) (fun k => k ≤ m.dirty.length) (fun k => m.dirty.length - k) 0 ?_ (Nat.zero_le _) (fun k hk => ?_)
  · (refine yrn [(0, 0), (2, 2)] false ?_ ?_<;>(repeat' (first|(with_reducible first|exact ya1|exact ya2|exact ya3|refine jx rfl (by first|rfl|assumption|(simp only [znl,znNV];(first|done|fail)))|exact ya5|exact ya7|exact jy|exact jz|refine jA ?_|refine ya9 ?_ ?_ ?_|refine jC rfl (by first|rfl|assumption|(simp only [znl,znNV];(first|done|fail)))|refine MR.agg (MRL.cons ?_ ?_)|refine MR.fn ?_|refine MRL.cons ?_ ?_|exact MRL.nil|refine jE ?_ ?_|exact jF|exact jG|refine yb1 ?_ ?_|refine MB.row ?_|refine jI ?_ ?_|exact ya8|refine jJ rfl (by first|rfl|assumption|(simp only [znl,znNV];(first|done|fail)))|refine yb2 ?_|rfl)|(simp only [znl,znNV];(first|done|fail))|(simp only [↓reduceIte,zlk,Nat.reduceEqDiff,reduceCtorEq])|(with_reducible first|refine jJ ?_ ?_|refine ya5 ?_|refine ju ?_|refine jv ?_|refine jw ?_|refine jx ?_ (by first|rfl|assumption|(simp only [znl,znNV];(first|done|fail)))|refine jC ?_ (by first|rfl|assumption|(simp only [znl,znNV];(first|done|fail)))))))
    all_goals (first | rfl | omega)
  have hvl := foldl_wrV_len (m.dirty.take k) h0
  rw [← hnh] at hvl
  by_cases hlt : k < m.dirty.length
  · obtain ⟨⟨w1, w2⟩, w3⟩ := hdS _ (getD_mem' hlt)
    obtain ⟨d1, d2, d3, d4⟩ := dirtyQ_facts (hq k hlt)
    have dn : lastW m.dirty (k + 1) = (m.dirty.getD k default).b := rfl
    have e1 : (m.dirty.take (k + 1)).foldl wrV h0 = wrV ((m.dirty.take k).foldl wrV h0) (m.dirty.getD k default) := by
      rw [take_snoc m.dirty k hlt, List.foldl_append]; rfl
    generalize (m.dirty.take k).foldl wrV h0 = v at hvl e1 ⊢
    have hset : ∀ (i : Nat) (s : List UInt8), (v.map VV.str).set i (.str s) = (v.set i s).map VV.str := fun i s => (List.map_set ..).symm
    have e1 := e1.trans (show wrV v (m.dirty.getD k default) = v.set (m.dirty.getD k default).b.toNat (m.dirty.getD k default).d from if_pos ⟨d1, by omega⟩)
    repeat' (first|(with_reducible first|refine yrl (by constructor) ?_|refine jk (fun M hM=>?_)|(refine hM _ ?_;clear hM M)|refine xb3 (by decide) ?_|refine yqa (by assumption) ?_ ?_|refine yqb (by assumption) ?_ ?_)|((with_reducible refine je ?_)<;>(first|rfl|assumption|(simp only [znl,znNV];(first|done|fail))))|(with_reducible refine jf (by (simp only [↓reduceIte,zlk,Nat.reduceEqDiff,reduceCtorEq]);exact rfl) ?_)|((with_reducible first|refine jg (fun hc=>?_) (fun hc=>?_)|refine jh (fun hc=>?_) (fun hc=>?_))<;>(try simp (disch:=omega) only [zhb] at hc)<;>(try (exfalso;omega))<;>(try subst hc))|(with_reducible refine ji (by omega) ?_)|(simp (config := { maxSteps := 400000 }) only [↓jt,↓reduceIte,zvs,reduceCtorEq,Nat.reduceEqDiff,Nat.reduceAdd,Nat.reduceLeDiff,Nat.reduceMul,Int.reduceBNe,Int.reduceBEq,Int.reduceEq,Int.reduceNe,Int.reduceLT,Int.reduceLE,Int.reduceGT,Int.reduceGE,Int.reduceNeg,Int.reduceToNat,Nat.reduceLT,Nat.reduceSub,tab,encWr,hvl,hset,Try.results55,jTA])|(simp (disch:=omega) only [ziw]))
    all_goals first
      | (exfalso; omega)
      | (refine xl1 (k + 1) ?_ (by show k + 1 ≤ m.dirty.length; omega) (by show m.dirty.length - (k + 1) < m.dirty.length - k; omega); (refine yrn [(0, 0), (2, 2)] false ?_ ?_<;>(repeat' (first|(with_reducible first|exact ya1|exact ya2|exact ya3|refine jx rfl (by first|rfl|assumption|(simp only [znl,znNV];(first|done|fail)))|exact ya5|exact ya7|exact jy|exact jz|refine jA ?_|refine ya9 ?_ ?_ ?_|refine jC rfl (by first|rfl|assumption|(simp only [znl,znNV];(first|done|fail)))|refine MR.agg (MRL.cons ?_ ?_)|refine MR.fn ?_|refine MRL.cons ?_ ?_|exact MRL.nil|refine jE ?_ ?_|exact jF|exact jG|refine yb1 ?_ ?_|refine MB.row ?_|refine jI ?_ ?_|exact ya8|refine jJ rfl (by first|rfl|assumption|(simp only [znl,znNV];(first|done|fail)))|refine yb2 ?_|rfl)|(simp only [znl,znNV];(first|done|fail))|(simp only [↓reduceIte,zlk,Nat.reduceEqDiff,reduceCtorEq])|(with_reducible first|refine jJ ?_ ?_|refine ya5 ?_|refine ju ?_|refine jv ?_|refine jw ?_|refine jx ?_ (by first|rfl|assumption|(simp only [znl,znNV];(first|done|fail)))|refine jC ?_ (by first|rfl|assumption|(simp only [znl,znNV];(first|done|fail))))))); all_goals (first | rfl | omega | (rw [e1]; done)))
  obtain rfl : k = m.dirty.length := by omega
  rw [List.take_length] at *
  simp only [geoV] at hO
  repeat' (first|(with_reducible first|refine yrl (by constructor) ?_|refine jk (fun M hM=>?_)|(refine hM _ ?_;clear hM M)|refine xb3 (by decide) ?_|refine yqa (by assumption) ?_ ?_|refine yqb (by assumption) ?_ ?_)|((with_reducible refine je ?_)<;>(first|rfl|assumption|(simp only [znl,znNV];(first|done|fail))))|(with_reducible refine jf (by (simp only [↓reduceIte,zlk,Nat.reduceEqDiff,reduceCtorEq]);exact rfl) ?_)|((with_reducible first|refine jg (fun hc=>?_) (fun hc=>?_)|refine jh (fun hc=>?_) (fun hc=>?_))<;>(try simp (disch:=omega) only [zhb] at hc)<;>(try (exfalso;omega))<;>(try subst hc))|(with_reducible refine ji (by omega) ?_)|(simp (config := { maxSteps := 400000 }) only [↓jt,↓reduceIte,zvs,reduceCtorEq,Nat.reduceEqDiff,Nat.reduceAdd,Nat.reduceLeDiff,Nat.reduceMul,Int.reduceBNe,Int.reduceBEq,Int.reduceEq,Int.reduceNe,Int.reduceLT,Int.reduceLE,Int.reduceGT,Int.reduceGE,Int.reduceNeg,Int.reduceToNat,Nat.reduceLT,Nat.reduceSub,tab,List.take_length,Try.results55,jTA])|(simp (disch:=omega) only [ziw]))
  all_goals (try (exfalso; omega))
  refine ja (call_plain (hO) (by repeat (first | exact rdl_nil | refine rdl_cons ?_ ?_ | exact Rd.refl _ _ (by first|rfl|assumption|(simp only [znl,znNV];(first|done|fail))) | (refine rd_own (by (simp only [↓reduceIte,zlk,Nat.reduceEqDiff,reduceCtorEq]); exact rfl) (by first | rfl | (simp; done) | (simp; omega)) rfl (by first|rfl|assumption|(simp only [znl,znNV];(first|done|fail)))) | exact rd_nil | refine (rd_a _ _ _).mpr ?_)) rfl rfl ?_)
  repeat' (first|(with_reducible first|refine yrl (by constructor) ?_|refine jk (fun M hM=>?_)|(refine hM _ ?_;clear hM M)|refine xb3 (by decide) ?_|refine yqa (by assumption) ?_ ?_|refine yqb (by assumption) ?_ ?_)|((with_reducible refine je ?_)<;>(first|rfl|assumption|(simp only [znl,znNV];(first|done|fail))))|(with_reducible refine jf (by (simp only [↓reduceIte,zlk,Nat.reduceEqDiff,reduceCtorEq]);exact rfl) ?_)|((with_reducible first|refine jg (fun hc=>?_) (fun hc=>?_)|refine jh (fun hc=>?_) (fun hc=>?_))<;>(try simp (disch:=omega) only [zhb] at hc)<;>(try (exfalso;omega))<;>(try subst hc))|(with_reducible refine ji (by omega) ?_)|(simp (config := { maxSteps := 400000 }) only [↓jt,↓reduceIte,zvs,reduceCtorEq,Nat.reduceEqDiff,Nat.reduceAdd,Nat.reduceLeDiff,Nat.reduceMul,Int.reduceBNe,Int.reduceBEq,Int.reduceEq,Int.reduceNe,Int.reduceLT,Int.reduceLE,Int.reduceGT,Int.reduceGE,Int.reduceNeg,Int.reduceToNat,Nat.reduceLT,Nat.reduceSub,tab,Try.results55,jTA])|(simp (disch:=omega) only [ziw]))
  all_goals first
    | (exfalso; omega)
    | (simp only [zrds]; done)
end Go.Proofs.Ytginpdejpibdjaa.V
end
section
namespace Go.Proofs.Ytginpdejpibdjaa.V
open Go
set_option maxRecDepth 100000
def znNW := And.intro @jO <| And.intro @jP <| And.intro @jQ <| And.intro @jR <| And.intro @jS <| And.intro @jT <| And.intro @jU <| True.intro
set_option maxHeartbeats 4000000
theorem tabF : SH Try.prog 52 = some .cell ∧ ZE Try.prog 52 = some (.raw .nilFunc) ∧ BY Try.prog 52 = 8 := ⟨by kernel_rfl, by kernel_rfl, by kernel_rfl⟩
theorem scheck_ok (m : Mach) (hm : MFit 20000 m) (h : chkM m = 0) : Spec Try.prog 24 [encM m] (.int .i64 0) := by
  obtain ⟨h1, h2, h3, h4, h5, h6, h7, h8, h9, h10⟩ := chk_parts h
  have c1 := numbers_ok m h1
  have c2 := frames_ok m h2 h3
  have c3 := procs_ok m hm h4 h5
  have c4 := spipes_ok m hm h6 h7
  have c5 := texts_ok m ⟨h8, h9⟩
  have c6 := volume_ok m hm h10
  have z0 : ((0 : Nat) : Int) = 0 := rfl
  have z1 : ((1 : Nat) : Int) = 1 := rfl
  have z2 : ((2 : Nat) : Int) = 2 := rfl
  have z3 : ((3 : Nat) : Int) = 3 := rfl
  have z4 : ((4 : Nat) : Int) = 4 := rfl
  have z5 : ((5 : Nat) : Int) = 5 := rfl
  have z6 : ((6 : Nat) : Int) = 6 := rfl
  have r6 : ∀ a : VV, List.replicate 6 a = [a, a, a, a, a, a] := fun _ => rfl
  refine spec_ok Try.func24 rfl rfl (by kernel_rfl) (k := 1) rfl (by decide) ?_
  repeat' (first|(with_reducible first|refine yrl (by constructor) ?_|refine jk (fun M hM=>?_)|(refine hM _ ?_;clear hM M)|refine xb3 (by decide) ?_|refine yqa (by assumption) ?_ ?_|refine yqb (by assumption) ?_ ?_)|((with_reducible refine je ?_)<;>(first|rfl|assumption|(simp only [znl,znNW];(first|done|fail))))|(with_reducible refine jf (by (simp only [↓reduceIte,zlk,Nat.reduceEqDiff,reduceCtorEq]);exact rfl) ?_)|((with_reducible first|refine jg (fun hc=>?_) (fun hc=>?_)|refine jh (fun hc=>?_) (fun hc=>?_))<;>(try simp (disch:=omega) only [zhb] at hc)<;>(try (exfalso;omega))<;>(try subst hc))|(with_reducible refine ji (by omega) ?_)|(simp (config := { maxSteps := 400000 }) only [↓jt,↓reduceIte,zvs,reduceCtorEq,Nat.reduceEqDiff,Nat.reduceAdd,Nat.reduceLeDiff,Nat.reduceMul,Int.reduceBNe,Int.reduceBEq,Int.reduceEq,Int.reduceNe,Int.reduceLT,Int.reduceLE,Int.reduceGT,Int.reduceGE,Int.reduceNeg,Int.reduceToNat,Nat.reduceLT,Nat.reduceSub,tab,tabF,r6,z6,Try.results24,jTA])|(simp (disch:=omega) only [ziw]))
  refine ok_loop (fun k : Nat => ⟨slots [(1, .ptr 0 []), (6, .sl (some (1, [], 0)) 6), (7, .int .i64 6), (8, .int .i64 k)], rows [(0, .row machSh (encM m)), (1, .row (.arr 6 .cell) (.agg [.fn 50 [], .fn 51 [], .fn 52 [], .fn 53 [], .fn 54 [], .fn 55 []]))], 2⟩) (fun k => k ≤ 6) (fun k => 6 - k) 0 ?_ (Nat.zero_le _) (fun k hk => ?_)
  · (refine yrn [(0, 0), (1, 1)] false ?_ ?_<;>(repeat' (first|(with_reducible first|exact ya1|exact ya2|exact ya3|refine jx rfl (by first|rfl|assumption|(simp only [znl,znNW];(first|done|fail)))|exact ya5|exact ya7|exact jy|exact jz|refine jA ?_|refine ya9 ?_ ?_ ?_|refine jC rfl (by first|rfl|assumption|(simp only [znl,znNW];(first|done|fail)))|refine MR.agg (MRL.cons ?_ ?_)|refine MR.fn ?_|refine MRL.cons ?_ ?_|exact MRL.nil|refine jE ?_ ?_|exact jF|exact jG|refine yb1 ?_ ?_|refine MB.row ?_|refine jI ?_ ?_|exact ya8|refine jJ rfl (by first|rfl|assumption|(simp only [znl,znNW];(first|done|fail)))|refine yb2 ?_|rfl)|(simp only [znl,znNW];(first|done|fail))|(simp only [↓reduceIte,zlk,Nat.reduceEqDiff,reduceCtorEq])|(with_reducible first|refine jJ ?_ ?_|refine ya5 ?_|refine ju ?_|refine jv ?_|refine jw ?_|refine jx ?_ (by first|rfl|assumption|(simp only [znl,znNW];(first|done|fail)))|refine jC ?_ (by first|rfl|assumption|(simp only [znl,znNW];(first|done|fail)))))))
    all_goals (first | rfl)
  by_cases hlt : k < 6
  · rcases (show k = 0 ∨ k = 1 ∨ k = 2 ∨ k = 3 ∨ k = 4 ∨ k = 5 by omega) with rfl | rfl | rfl | rfl | rfl | rfl
    all_goals
      repeat' (first|(with_reducible first|refine yrl (by constructor) ?_|refine jk (fun M hM=>?_)|(refine hM _ ?_;clear hM M)|refine xb3 (by decide) ?_|refine yqa (by assumption) ?_ ?_|refine yqb (by assumption) ?_ ?_)|((with_reducible refine je ?_)<;>(first|rfl|assumption|(simp only [znl,znNW];(first|done|fail))))|(with_reducible refine jf (by (simp only [↓reduceIte,zlk,Nat.reduceEqDiff,reduceCtorEq]);exact rfl) ?_)|((with_reducible first|refine jg (fun hc=>?_) (fun hc=>?_)|refine jh (fun hc=>?_) (fun hc=>?_))<;>(try simp (disch:=omega) only [zhb] at hc)<;>(try (exfalso;omega))<;>(try subst hc))|(with_reducible refine ji (by omega) ?_)|(simp (config := { maxSteps := 400000 }) only [↓jt,↓reduceIte,zvs,reduceCtorEq,Nat.reduceEqDiff,Nat.reduceAdd,Nat.reduceLeDiff,Nat.reduceMul,Int.reduceBNe,Int.reduceBEq,Int.reduceEq,Int.reduceNe,Int.reduceLT,Int.reduceLE,Int.reduceGT,Int.reduceGE,Int.reduceNeg,Int.reduceToNat,Nat.reduceLT,Nat.reduceSub,tab,tabF,z0,z1,z2,z3,z4,z5,Try.results24,jTA])|(simp (disch:=omega) only [ziw]))
    · refine xl1 1 ?_ (by show 1 ≤ 6; omega) (by show 6 - 1 < 6 - 0; omega)
      (refine yrn [(0, 0), (1, 1)] false ?_ ?_<;>(repeat' (first|(with_reducible first|exact ya1|exact ya2|exact ya3|refine jx rfl (by first|rfl|assumption|(simp only [znl,znNW];(first|done|fail)))|exact ya5|exact ya7|exact jy|exact jz|refine jA ?_|refine ya9 ?_ ?_ ?_|refine jC rfl (by first|rfl|assumption|(simp only [znl,znNW];(first|done|fail)))|refine MR.agg (MRL.cons ?_ ?_)|refine MR.fn ?_|refine MRL.cons ?_ ?_|exact MRL.nil|refine jE ?_ ?_|exact jF|exact jG|refine yb1 ?_ ?_|refine MB.row ?_|refine jI ?_ ?_|exact ya8|refine jJ rfl (by first|rfl|assumption|(simp only [znl,znNW];(first|done|fail)))|refine yb2 ?_|rfl)|(simp only [znl,znNW];(first|done|fail))|(simp only [↓reduceIte,zlk,Nat.reduceEqDiff,reduceCtorEq])|(with_reducible first|refine jJ ?_ ?_|refine ya5 ?_|refine ju ?_|refine jv ?_|refine jw ?_|refine jx ?_ (by first|rfl|assumption|(simp only [znl,znNW];(first|done|fail)))|refine jC ?_ (by first|rfl|assumption|(simp only [znl,znNW];(first|done|fail)))))))
      all_goals trace_state
    · refine xl1 2 ?_ (by show 2 ≤ 6; omega) (by show 6 - 2 < 6 - 1; omega)
      (refine yrn [(0, 0), (1, 1)] false ?_ ?_<;>(repeat' (first|(with_reducible first|exact ya1|exact ya2|exact ya3|refine jx rfl (by first|rfl|assumption|(simp only [znl,znNW];(first|done|fail)))|exact ya5|exact ya7|exact jy|exact jz|refine jA ?_|refine ya9 ?_ ?_ ?_|refine jC rfl (by first|rfl|assumption|(simp only [znl,znNW];(first|done|fail)))|refine MR.agg (MRL.cons ?_ ?_)|refine MR.fn ?_|refine MRL.cons ?_ ?_|exact MRL.nil|refine jE ?_ ?_|exact jF|exact jG|refine yb1 ?_ ?_|refine MB.row ?_|refine jI ?_ ?_|exact ya8|refine jJ rfl (by first|rfl|assumption|(simp only [znl,znNW];(first|done|fail)))|refine yb2 ?_|rfl)|(simp only [znl,znNW];(first|done|fail))|(simp only [↓reduceIte,zlk,Nat.reduceEqDiff,reduceCtorEq])|(with_reducible first|refine jJ ?_ ?_|refine ya5 ?_|refine ju ?_|refine jv ?_|refine jw ?_|refine jx ?_ (by first|rfl|assumption|(simp only [znl,znNW];(first|done|fail)))|refine jC ?_ (by first|rfl|assumption|(simp only [znl,znNW];(first|done|fail)))))))
    · refine xl1 3 ?_ (by show 3 ≤ 6; omega) (by show 6 - 3 < 6 - 2; omega)
      (refine yrn [(0, 0), (1, 1)] false ?_ ?_<;>(repeat' (first|(with_reducible first|exact ya1|exact ya2|exact ya3|refine jx rfl (by first|rfl|assumption|(simp only [znl,znNW];(first|done|fail)))|exact ya5|exact ya7|exact jy|exact jz|refine jA ?_|refine ya9 ?_ ?_ ?_|refine jC rfl (by first|rfl|assumption|(simp only [znl,znNW];(first|done|fail)))|refine MR.agg (MRL.cons ?_ ?_)|refine MR.fn ?_|refine MRL.cons ?_ ?_|exact MRL.nil|refine jE ?_ ?_|exact jF|exact jG|refine yb1 ?_ ?_|refine MB.row ?_|refine jI ?_ ?_|exact ya8|refine jJ rfl (by first|rfl|assumption|(simp only [znl,znNW];(first|done|fail)))|refine yb2 ?_|rfl)|(simp only [znl,znNW];(first|done|fail))|(simp only [↓reduceIte,zlk,Nat.reduceEqDiff,reduceCtorEq])|(with_reducible first|refine jJ ?_ ?_|refine ya5 ?_|refine ju ?_|refine jv ?_|refine jw ?_|refine jx ?_ (by first|rfl|assumption|(simp only [znl,znNW];(first|done|fail)))|refine jC ?_ (by first|rfl|assumption|(simp only [znl,znNW];(first|done|fail)))))))
    · refine xl1 4 ?_ (by show 4 ≤ 6; omega) (by show 6 - 4 < 6 - 3; omega)
      (refine yrn [(0, 0), (1, 1)] false ?_ ?_<;>(repeat' (first|(with_reducible first|exact ya1|exact ya2|exact ya3|refine jx rfl (by first|rfl|assumption|(simp only [znl,znNW];(first|done|fail)))|exact ya5|exact ya7|exact jy|exact jz|refine jA ?_|refine ya9 ?_ ?_ ?_|refine jC rfl (by first|rfl|assumption|(simp only [znl,znNW];(first|done|fail)))|refine MR.agg (MRL.cons ?_ ?_)|refine MR.fn ?_|refine MRL.cons ?_ ?_|exact MRL.nil|refine jE ?_ ?_|exact jF|exact jG|refine yb1 ?_ ?_|refine MB.row ?_|refine jI ?_ ?_|exact ya8|refine jJ rfl (by first|rfl|assumption|(simp only [znl,znNW];(first|done|fail)))|refine yb2 ?_|rfl)|(simp only [znl,znNW];(first|done|fail))|(simp only [↓reduceIte,zlk,Nat.reduceEqDiff,reduceCtorEq])|(with_reducible first|refine jJ ?_ ?_|refine ya5 ?_|refine ju ?_|refine jv ?_|refine jw ?_|refine jx ?_ (by first|rfl|assumption|(simp only [znl,znNW];(first|done|fail)))|refine jC ?_ (by first|rfl|assumption|(simp only [znl,znNW];(first|done|fail)))))))
    · refine xl1 5 ?_ (by show 5 ≤ 6; omega) (by show 6 - 5 < 6 - 4; omega)
      (refine yrn [(0, 0), (1, 1)] false ?_ ?_<;>(repeat' (first|(with_reducible first|exact ya1|exact ya2|exact ya3|refine jx rfl (by first|rfl|assumption|(simp only [znl,znNW];(first|done|fail)))|exact ya5|exact ya7|exact jy|exact jz|refine jA ?_|refine ya9 ?_ ?_ ?_|refine jC rfl (by first|rfl|assumption|(simp only [znl,znNW];(first|done|fail)))|refine MR.agg (MRL.cons ?_ ?_)|refine MR.fn ?_|refine MRL.cons ?_ ?_|exact MRL.nil|refine jE ?_ ?_|exact jF|exact jG|refine yb1 ?_ ?_|refine MB.row ?_|refine jI ?_ ?_|exact ya8|refine jJ rfl (by first|rfl|assumption|(simp only [znl,znNW];(first|done|fail)))|refine yb2 ?_|rfl)|(simp only [znl,znNW];(first|done|fail))|(simp only [↓reduceIte,zlk,Nat.reduceEqDiff,reduceCtorEq])|(with_reducible first|refine jJ ?_ ?_|refine ya5 ?_|refine ju ?_|refine jv ?_|refine jw ?_|refine jx ?_ (by first|rfl|assumption|(simp only [znl,znNW];(first|done|fail)))|refine jC ?_ (by first|rfl|assumption|(simp only [znl,znNW];(first|done|fail)))))))
    · refine xl1 6 ?_ (by show 6 ≤ 6; omega) (by show 6 - 6 < 6 - 5; omega)
      (refine yrn [(0, 0), (1, 1)] false ?_ ?_<;>(repeat' (first|(with_reducible first|exact ya1|exact ya2|exact ya3|refine jx rfl (by first|rfl|assumption|(simp only [znl,znNW];(first|done|fail)))|exact ya5|exact ya7|exact jy|exact jz|refine jA ?_|refine ya9 ?_ ?_ ?_|refine jC rfl (by first|rfl|assumption|(simp only [znl,znNW];(first|done|fail)))|refine MR.agg (MRL.cons ?_ ?_)|refine MR.fn ?_|refine MRL.cons ?_ ?_|exact MRL.nil|refine jE ?_ ?_|exact jF|exact jG|refine yb1 ?_ ?_|refine MB.row ?_|refine jI ?_ ?_|exact ya8|refine jJ rfl (by first|rfl|assumption|(simp only [znl,znNW];(first|done|fail)))|refine yb2 ?_|rfl)|(simp only [znl,znNW];(first|done|fail))|(simp only [↓reduceIte,zlk,Nat.reduceEqDiff,reduceCtorEq])|(with_reducible first|refine jJ ?_ ?_|refine ya5 ?_|refine ju ?_|refine jv ?_|refine jw ?_|refine jx ?_ (by first|rfl|assumption|(simp only [znl,znNW];(first|done|fail)))|refine jC ?_ (by first|rfl|assumption|(simp only [znl,znNW];(first|done|fail)))))))
  · obtain rfl : k = 6 := by omega
    repeat' (first|(with_reducible first|refine yrl (by constructor) ?_|refine jk (fun M hM=>?_)|(refine hM _ ?_;clear hM M)|refine xb3 (by decide) ?_|refine yqa (by assumption) ?_ ?_|refine yqb (by assumption) ?_ ?_)|((with_reducible refine je ?_)<;>(first|rfl|assumption|(simp only [znl,znNW];(first|done|fail))))|(with_reducible refine jf (by (simp only [↓reduceIte,zlk,Nat.reduceEqDiff,reduceCtorEq]);exact rfl) ?_)|((with_reducible first|refine jg (fun hc=>?_) (fun hc=>?_)|refine jh (fun hc=>?_) (fun hc=>?_))<;>(try simp (disch:=omega) only [zhb] at hc)<;>(try (exfalso;omega))<;>(try subst hc))|(with_reducible refine ji (by omega) ?_)|(simp (config := { maxSteps := 400000 }) only [↓jt,↓reduceIte,zvs,reduceCtorEq,Nat.reduceEqDiff,Nat.reduceAdd,Nat.reduceLeDiff,Nat.reduceMul,Int.reduceBNe,Int.reduceBEq,Int.reduceEq,Int.reduceNe,Int.reduceLT,Int.reduceLE,Int.reduceGT,Int.reduceGE,Int.reduceNeg,Int.reduceToNat,Nat.reduceLT,Nat.reduceSub,tab,tabF,z6,Try.results24,jTA])|(simp (disch:=omega) only [ziw]))
    all_goals first
      | (exfalso; omega)
      | (simp only [zrds]; done)
end Go.Proofs.Ytginpdejpibdjaa.V
end
section
namespace Go.Proofs.Ytginpdejpibdjaa.V
open Go
set_option maxRecDepth 100000
def znR8 := And.intro @jO <| And.intro @jP <| And.intro @jQ <| And.intro @jR <| And.intro @jS <| And.intro @jT <| And.intro @jU <| True.intro
set_option maxHeartbeats 8000000
theorem chk_ids {m : Mach} (h : chkM m = 0) : ∀ p ∈ m.pipes, 0 ≤ p.id := fun p hp => by
  have := ((pipesB_iff m).1 (chk_parts h).2.2.2.2.2.2.1).pos p hp
  omega
theorem chk_pid0 {m : Mach} (h : chkM m = 0) : ∀ p ∈ m.pr, 0 ≤ p.pid := fun p hp => by
  have := (chk_pids h).pos p hp
  omega
theorem wakes_law (x0 : MachD) (x1 : Int) (g0 : good machT x0) (g1 : good (.int .i64) x1) (l0 : Ty.lite machT x0) (l1 : Ty.lite (.int .i64) x1) : Spec Try.prog 5 [toV machT x0, toV (.int .i64) x1] (.bool true) := by
  have hm := mach_good x0 g0 l0
  have hid : i64R x1 := bounds_i64 g1
  rw [toV_mach]
  simp only [toV]
  generalize mMach x0 = m at hm
  clear g0 l0 x0 g1 l1
  have hG := great27_spec m hm
  have hF := fixed27_spec
  cases hs : sadB m with
  | true =>
    rw [hs] at hG
    refine spec_ok Try.func5 rfl rfl (by kernel_rfl) (k := 2) rfl (by decide) ?_
    repeat' (first|(with_reducible first|refine yrl (by constructor) ?_|refine jk (fun M hM=>?_)|(refine hM _ ?_;clear hM M)|refine xb3 (by decide) ?_|refine yqa (by assumption) ?_ ?_|refine yqb (by assumption) ?_ ?_)|((with_reducible refine je ?_)<;>(first|rfl|assumption|(simp only [znl,znR8];(first|done|fail))))|(with_reducible refine jf (by (simp only [↓reduceIte,zlk,Nat.reduceEqDiff,reduceCtorEq]);exact rfl) ?_)|((with_reducible first|refine jg (fun hc=>?_) (fun hc=>?_)|refine jh (fun hc=>?_) (fun hc=>?_))<;>(try simp (disch:=omega) only [zhb] at hc)<;>(try (exfalso;omega))<;>(try subst hc))|(with_reducible refine ji (by omega) ?_)|(simp (config := { maxSteps := 400000 }) only [↓jt,↓reduceIte,zvs,reduceCtorEq,Nat.reduceEqDiff,Nat.reduceAdd,Nat.reduceLeDiff,Nat.reduceMul,Int.reduceBNe,Int.reduceBEq,Int.reduceEq,Int.reduceNe,Int.reduceLT,Int.reduceLE,Int.reduceGT,Int.reduceGE,Int.reduceNeg,Int.reduceToNat,Nat.reduceLT,Nat.reduceSub,tab,Try.results5,jTA])|(simp (disch:=omega) only [ziw]))
    all_goals first
      | (exfalso; omega)
      | (simp only [zrds]; done)
      | (simp only [zrds]; rfl)
  | false =>
    rw [hs] at hG
    unfold sadB at hs
    simp only [Bool.or_eq_false_iff,decide_eq_false_iff_not,ne_eq,Decidable.not_not] at hs
    have hfit := (hm.small hs.1).1
    have hW := swake_spec m hfit
    have hV := rwake_spec m hfit (chk_ids hs.2) (chk_pid0 hs.2)
    have hC := Could_spec m hfit x1 hid
    have hD := rCould_spec m hfit (chk_ids hs.2) (chk_pid0 hs.2) x1 hid
    have hS := same27_spec (wakeM m) (wakeM_fit hfit)
    have hbb : ∀ a : Bool, veq (.bool a) (.bool a) = true := fun a => by cases a <;> rfl
    generalize wakeM m = w at hW hV hS
    generalize CouldM m x1 = b at hC hD
    refine spec_ok Try.func5 rfl rfl (by kernel_rfl) (k := 2) rfl (by decide) ?_
    repeat' (first|(with_reducible first|refine yrl (by constructor) ?_|refine jk (fun M hM=>?_)|(refine hM _ ?_;clear hM M)|refine xb3 (by decide) ?_|refine yqa (by assumption) ?_ ?_|refine yqb (by assumption) ?_ ?_)|((with_reducible refine je ?_)<;>(first|rfl|assumption|(simp only [znl,znR8];(first|done|fail))))|(with_reducible refine jf (by (simp only [↓reduceIte,zlk,Nat.reduceEqDiff,reduceCtorEq]);exact rfl) ?_)|((with_reducible first|refine jg (fun hc=>?_) (fun hc=>?_)|refine jh (fun hc=>?_) (fun hc=>?_))<;>(try simp (disch:=omega) only [zhb] at hc)<;>(try (exfalso;omega))<;>(try subst hc))|(with_reducible refine ji (by omega) ?_)|(simp (config := { maxSteps := 400000 }) only [↓jt,↓reduceIte,zvs,reduceCtorEq,Nat.reduceEqDiff,Nat.reduceAdd,Nat.reduceLeDiff,Nat.reduceMul,Int.reduceBNe,Int.reduceBEq,Int.reduceEq,Int.reduceNe,Int.reduceLT,Int.reduceLE,Int.reduceGT,Int.reduceGE,Int.reduceNeg,Int.reduceToNat,Nat.reduceLT,Nat.reduceSub,tab,Try.results5,jTA])|(simp (disch:=omega) only [ziw]))
    refine ok_drawC 14 (by kernel_rfl) (by decide +kernel) (by intro m hm; simp only [upd_ap,rows_cons,rows_nil]; (repeat (first | rfl | rw [if_neg (by omega)]))) (fun M hM => ?_); simp only [List.take_succ_cons,List.take_zero,List.drop_succ_cons,List.drop_zero]
    repeat' (first|(with_reducible first|refine yrl (by constructor) ?_|refine jk (fun M hM=>?_)|(refine hM _ ?_;clear hM M)|refine xb3 (by decide) ?_|refine yqa (by assumption) ?_ ?_|refine yqb (by assumption) ?_ ?_)|((with_reducible refine je ?_)<;>(first|rfl|assumption|(simp only [znl,znR8];(first|done|fail))))|(with_reducible refine jf (by (simp only [↓reduceIte,zlk,Nat.reduceEqDiff,reduceCtorEq]);exact rfl) ?_)|((with_reducible first|refine jg (fun hc=>?_) (fun hc=>?_)|refine jh (fun hc=>?_) (fun hc=>?_))<;>(try simp (disch:=omega) only [zhb] at hc)<;>(try (exfalso;omega))<;>(try subst hc))|(with_reducible refine ji (by omega) ?_)|(simp (config := { maxSteps := 400000 }) only [↓jt,↓reduceIte,zvs,reduceCtorEq,Nat.reduceEqDiff,Nat.reduceAdd,Nat.reduceLeDiff,Nat.reduceMul,Int.reduceBNe,Int.reduceBEq,Int.reduceEq,Int.reduceNe,Int.reduceLT,Int.reduceLE,Int.reduceGT,Int.reduceGE,Int.reduceNeg,Int.reduceToNat,Nat.reduceLT,Nat.reduceSub,tab,hbb,Try.results5,jTA])|(simp (disch:=omega) only [ziw]))
    all_goals first
      | (exfalso; omega)
      | (simp only [zrds]; done)
      | (simp only [zrds]; rfl)
theorem Could_at {m : Mach} (hO : PidOk m) {k : Nat} (hk : k < m.pr.length) : CouldM m (m.pr.getD k default).pid = couldM m (m.pr.getD k default) := by
  unfold CouldM
  rw [find_hit hk (fun j hj e => ?_) rfl]
  have := inc_inj hO (show j < m.pr.length by omega) hk e
  omega
theorem wake_pids {m : Mach} (hO : PidOk m) : PidOk (wakeM m) := by
  have hs := wakeP_same m
  refine ⟨fun p hp => ?_, ?_, hO.cur⟩
  · obtain ⟨q, hq, rfl⟩ := List.mem_map.1 hp
    rw [(hs q).1]; exact hO.pos q hq
  · show (m.pr.map (wakeP m)).Pairwise _
    rw [List.pairwise_map]
    refine hO.inc.imp fun {a b} hab => ?_
    rw [(hs a).1, (hs b).1]; exact hab
theorem awake_law (x0 : MachD) (g0 : good machT x0) (l0 : Ty.lite machT x0) : Spec Try.prog 8 [toV machT x0] (.bool true) := by
  have hm := mach_good x0 g0 l0
  rw [toV_mach]
  generalize mMach x0 = m at hm
  clear g0 l0 x0
  have hG := great27_spec m hm
  have hF := fixed27_spec
  cases hs : sadB m with
  | true =>
    rw [hs] at hG
    refine spec_ok Try.func8 rfl rfl (by kernel_rfl) (k := 1) rfl (by decide) ?_
    repeat' (first|(with_reducible first|refine yrl (by constructor) ?_|refine jk (fun M hM=>?_)|(refine hM _ ?_;clear hM M)|refine xb3 (by decide) ?_|refine yqa (by assumption) ?_ ?_|refine yqb (by assumption) ?_ ?_)|((with_reducible refine je ?_)<;>(first|rfl|assumption|(simp only [znl,znR8];(first|done|fail))))|(with_reducible refine jf (by (simp only [↓reduceIte,zlk,Nat.reduceEqDiff,reduceCtorEq]);exact rfl) ?_)|((with_reducible first|refine jg (fun hc=>?_) (fun hc=>?_)|refine jh (fun hc=>?_) (fun hc=>?_))<;>(try simp (disch:=omega) only [zhb] at hc)<;>(try (exfalso;omega))<;>(try subst hc))|(with_reducible refine ji (by omega) ?_)|(simp (config := { maxSteps := 400000 }) only [↓jt,↓reduceIte,zvs,reduceCtorEq,Nat.reduceEqDiff,Nat.reduceAdd,Nat.reduceLeDiff,Nat.reduceMul,Int.reduceBNe,Int.reduceBEq,Int.reduceEq,Int.reduceNe,Int.reduceLT,Int.reduceLE,Int.reduceGT,Int.reduceGE,Int.reduceNeg,Int.reduceToNat,Nat.reduceLT,Nat.reduceSub,tab,Try.results8,jTA])|(simp (disch:=omega) only [ziw]))
    all_goals first
      | (exfalso; omega)
      | (simp only [zrds]; done)
      | (simp only [zrds]; rfl)
  | false =>
    rw [hs] at hG
    unfold sadB at hs
    simp only [Bool.or_eq_false_iff,decide_eq_false_iff_not,ne_eq,Decidable.not_not] at hs
    have hfit := (hm.small hs.1).1
    have hO := chk_pids hs.2
    have hfw := wakeM_fit hfit
    have hOw := wake_pids hO
    have hW := swake_spec m hfit
    have hWW := swake_spec (wakeM m) hfw
    rw [wake_wake] at hWW
    have hS := same27_spec (wakeM m) hfw
    have hSm := same27_spec m hfit
    have hK := scheck_ok (wakeM m) hfw (wake_chk hs.2)
    have hlw : (wakeM m).pr.length = m.pr.length := List.length_map _
    have hl := hfit.pr
    have hbe : ∀ a : Int, (a != a) = false := fun a => bne_self_eq_false a
    have hbb : ∀ a : Bool, veq (.bool a) (.bool a) = true := fun a => by cases a <;> rfl
    refine spec_ok Try.func8 rfl rfl (by kernel_rfl) (k := 1) rfl (by decide) ?_
    repeat' (first|(with_reducible first|refine yrl (by constructor) ?_|refine jk (fun M hM=>?_)|(refine hM _ ?_;clear hM M)|refine xb3 (by decide) ?_|refine yqa (by assumption) ?_ ?_|refine yqb (by assumption) ?_ ?_)|((with_reducible refine je ?_)<;>(first|rfl|assumption|(simp only [znl,znR8];(first|done|fail))))|(with_reducible refine jf (by (simp only [↓reduceIte,zlk,Nat.reduceEqDiff,reduceCtorEq]);exact rfl) ?_)|((with_reducible first|refine jg (fun hc=>?_) (fun hc=>?_)|refine jh (fun hc=>?_) (fun hc=>?_))<;>(try simp (disch:=omega) only [zhb] at hc)<;>(try (exfalso;omega))<;>(try subst hc))|(with_reducible refine ji (by omega) ?_)|(simp (config := { maxSteps := 400000 }) only [↓jt,↓reduceIte,zvs,reduceCtorEq,Nat.reduceEqDiff,Nat.reduceAdd,Nat.reduceLeDiff,Nat.reduceMul,Int.reduceBNe,Int.reduceBEq,Int.reduceEq,Int.reduceNe,Int.reduceLT,Int.reduceLE,Int.reduceGT,Int.reduceGE,Int.reduceNeg,Int.reduceToNat,Nat.reduceLT,Nat.reduceSub,tab,hbe,Try.results8,jTA])|(simp (disch:=omega) only [ziw]))
    refine ok_drawC 16 (by kernel_rfl) (by decide +kernel) (by intro m hm; simp only [upd_ap,rows_cons,rows_nil]; (repeat (first | rfl | rw [if_neg (by omega)]))) (fun M hM => ?_); simp only [List.take_succ_cons,List.take_zero,List.drop_succ_cons,List.drop_zero]
    repeat' (first|(with_reducible first|refine yrl (by constructor) ?_|refine jk (fun M hM=>?_)|(refine hM _ ?_;clear hM M)|refine xb3 (by decide) ?_|refine yqa (by assumption) ?_ ?_|refine yqb (by assumption) ?_ ?_)|((with_reducible refine je ?_)<;>(first|rfl|assumption|(simp only [znl,znR8];(first|done|fail))))|(with_reducible refine jf (by (simp only [↓reduceIte,zlk,Nat.reduceEqDiff,reduceCtorEq]);exact rfl) ?_)|((with_reducible first|refine jg (fun hc=>?_) (fun hc=>?_)|refine jh (fun hc=>?_) (fun hc=>?_))<;>(try simp (disch:=omega) only [zhb] at hc)<;>(try (exfalso;omega))<;>(try subst hc))|(with_reducible refine ji (by omega) ?_)|(simp (config := { maxSteps := 400000 }) only [↓jt,↓reduceIte,zvs,reduceCtorEq,Nat.reduceEqDiff,Nat.reduceAdd,Nat.reduceLeDiff,Nat.reduceMul,Int.reduceBNe,Int.reduceBEq,Int.reduceEq,Int.reduceNe,Int.reduceLT,Int.reduceLE,Int.reduceGT,Int.reduceGE,Int.reduceNeg,Int.reduceToNat,Nat.reduceLT,Nat.reduceSub,tab,hbe,hlw,Try.results8,jTA])|(simp (disch:=omega) only [ziw]))
    refine ok_loop (fun k : Nat => ⟨slots [(1, .ptr 0 []), (2, .bool false), (3, .ptr 1 []), (33, encPrs (wakeM m).pr), (34, .int .i64 m.pr.length), (35, .int .i64 k)], rows [(0, .row machSh (encM m)), (1, .row machSh (encM (wakeM m)))], 2⟩) (fun k => k ≤ m.pr.length) (fun k => m.pr.length - k) 0 ?_ (Nat.zero_le _) (fun k hk => ?_)
    · (refine yrn [(0, 0), (1, 1)] false ?_ ?_<;>(repeat' (first|(with_reducible first|exact ya1|exact ya2|exact ya3|refine jx rfl (by first|rfl|assumption|(simp only [znl,znR8];(first|done|fail)))|exact ya5|exact ya7|exact jy|exact jz|refine jA ?_|refine ya9 ?_ ?_ ?_|refine jC rfl (by first|rfl|assumption|(simp only [znl,znR8];(first|done|fail)))|refine MR.agg (MRL.cons ?_ ?_)|refine MR.fn ?_|refine MRL.cons ?_ ?_|exact MRL.nil|refine jE ?_ ?_|exact jF|exact jG|refine yb1 ?_ ?_|refine MB.row ?_|refine jI ?_ ?_|exact ya8|refine jJ rfl (by first|rfl|assumption|(simp only [znl,znR8];(first|done|fail)))|refine yb2 ?_|rfl)|(simp only [znl,znR8];(first|done|fail))|(simp only [↓reduceIte,zlk,Nat.reduceEqDiff,reduceCtorEq])|(with_reducible first|refine jJ ?_ ?_|refine ya5 ?_|refine ju ?_|refine jv ?_|refine jw ?_|refine jx ?_ (by first|rfl|assumption|(simp only [znl,znR8];(first|done|fail)))|refine jC ?_ (by first|rfl|assumption|(simp only [znl,znR8];(first|done|fail)))))))
      all_goals (first | rfl)
    by_cases hlt : k < m.pr.length
    · have hb := hfit.prR _ (getD_mem' hlt)
      obtain ⟨hS1, hS2, hS3⟩ := pr3 hb
      have hat := wake_at hlt
      have hbw := wakeP_fit m hb
      obtain ⟨hT1, hT2, hT3⟩ := pr3 hbw
      have hC1 := Could_spec m hfit (m.pr.getD k default).pid hb.pid
      rw [Could_at hO hlt] at hC1
      have hC2 := Could_spec (wakeM m) hfw (m.pr.getD k default).pid hb.pid
      have e2 := Could_at hOw (show k < (wakeM m).pr.length by rw [hlw]; exact hlt)
      rw [hat, (wakeP_same m _).1, could_awake] at e2
      rw [e2] at hC2
      obtain ⟨b1, b2⟩ := hb.st
      cases hcd : couldM m (m.pr.getD k default) with
      | true =>
        rw [hcd] at hC1
        have h2 := could_st hcd
        have hwk : wakeP m (m.pr.getD k default) = wokeP (m.pr.getD k default) := by unfold wakeP; rw [if_pos hcd]
        rw [hwk] at hat hbw hT1 hT2 hT3
        have hf := fit_pr hbw
        have hvp := veq_pr (wokeP (m.pr.getD k default))
        simp only [wokeP] at hat hT1 hT2 hT3 hf hvp
        repeat' (first|(with_reducible first|refine yrl (by constructor) ?_|refine jk (fun M hM=>?_)|(refine hM _ ?_;clear hM M)|refine xb3 (by decide) ?_|refine yqa (by assumption) ?_ ?_|refine yqb (by assumption) ?_ ?_)|((with_reducible refine je ?_)<;>(first|rfl|assumption|(simp only [znl,znR8];(first|done|fail))))|(with_reducible refine jf (by (simp only [↓reduceIte,zlk,Nat.reduceEqDiff,reduceCtorEq]);exact rfl) ?_)|((with_reducible first|refine jg (fun hc=>?_) (fun hc=>?_)|refine jh (fun hc=>?_) (fun hc=>?_))<;>(try simp (disch:=omega) only [zhb] at hc)<;>(try (exfalso;omega))<;>(try subst hc))|(with_reducible refine ji (by omega) ?_)|(simp (config := { maxSteps := 400000 }) only [↓jt,↓reduceIte,zvs,reduceCtorEq,Nat.reduceEqDiff,Nat.reduceAdd,Nat.reduceLeDiff,Nat.reduceMul,Int.reduceBNe,Int.reduceBEq,Int.reduceEq,Int.reduceNe,Int.reduceLT,Int.reduceLE,Int.reduceGT,Int.reduceGE,Int.reduceNeg,Int.reduceToNat,Nat.reduceLT,Nat.reduceSub,tab,hat,hlw,hS1,hS2,hS3,hT1,hT2,hT3,encPr,Try.results8,jTA])|(simp (disch:=omega) only [ziw]))
        all_goals (try (exfalso; omega))
        refine ok_drawC 14 (by kernel_rfl) (by decide +kernel) (by intro m hm; simp only [upd_ap,rows_cons,rows_nil]; (repeat (first | rfl | rw [if_neg (by omega)]))) (fun M hM => ?_); simp only [List.take_succ_cons,List.take_zero,List.drop_succ_cons,List.drop_zero]
        repeat' (first|(with_reducible first|refine yrl (by constructor) ?_|refine jk (fun M hM=>?_)|(refine hM _ ?_;clear hM M)|refine xb3 (by decide) ?_|refine yqa (by assumption) ?_ ?_|refine yqb (by assumption) ?_ ?_)|((with_reducible refine je ?_)<;>(first|rfl|assumption|(simp only [znl,znR8];(first|done|fail))))|(with_reducible refine jf (by (simp only [↓reduceIte,zlk,Nat.reduceEqDiff,reduceCtorEq]);exact rfl) ?_)|((with_reducible first|refine jg (fun hc=>?_) (fun hc=>?_)|refine jh (fun hc=>?_) (fun hc=>?_))<;>(try simp (disch:=omega) only [zhb] at hc)<;>(try (exfalso;omega))<;>(try subst hc))|(with_reducible refine ji (by omega) ?_)|(simp (config := { maxSteps := 400000 }) only [↓jt,↓reduceIte,zvs,reduceCtorEq,Nat.reduceEqDiff,Nat.reduceAdd,Nat.reduceLeDiff,Nat.reduceMul,Int.reduceBNe,Int.reduceBEq,Int.reduceEq,Int.reduceNe,Int.reduceLT,Int.reduceLE,Int.reduceGT,Int.reduceGE,Int.reduceNeg,Int.reduceToNat,Nat.reduceLT,Nat.reduceSub,tab,hat,hlw,hS1,hS2,hS3,hT1,hT2,hT3,hf,hvp,h2,hbb,encPr,Try.results8,jTA])|(simp (disch:=omega) only [ziw]))
        all_goals first
          | (exfalso; omega)
          | (refine xl1 (k + 1) ?_ (by show k + 1 ≤ m.pr.length; omega) (by show m.pr.length - (k + 1) < m.pr.length - k; omega); (refine yrn [(0, 0), (1, 1)] false ?_ ?_<;>(repeat' (first|(with_reducible first|exact ya1|exact ya2|exact ya3|refine jx rfl (by first|rfl|assumption|(simp only [znl,znR8];(first|done|fail)))|exact ya5|exact ya7|exact jy|exact jz|refine jA ?_|refine ya9 ?_ ?_ ?_|refine jC rfl (by first|rfl|assumption|(simp only [znl,znR8];(first|done|fail)))|refine MR.agg (MRL.cons ?_ ?_)|refine MR.fn ?_|refine MRL.cons ?_ ?_|exact MRL.nil|refine jE ?_ ?_|exact jF|exact jG|refine yb1 ?_ ?_|refine MB.row ?_|refine jI ?_ ?_|exact ya8|refine jJ rfl (by first|rfl|assumption|(simp only [znl,znR8];(first|done|fail)))|refine yb2 ?_|rfl)|(simp only [znl,znR8];(first|done|fail))|(simp only [↓reduceIte,zlk,Nat.reduceEqDiff,reduceCtorEq])|(with_reducible first|refine jJ ?_ ?_|refine ya5 ?_|refine ju ?_|refine jv ?_|refine jw ?_|refine jx ?_ (by first|rfl|assumption|(simp only [znl,znR8];(first|done|fail)))|refine jC ?_ (by first|rfl|assumption|(simp only [znl,znR8];(first|done|fail))))))); done)
      | false =>
        rw [hcd] at hC1
        have hwk : wakeP m (m.pr.getD k default) = m.pr.getD k default := by unfold wakeP; rw [if_neg (by rw [hcd]; simp)]
        rw [hwk] at hat
        have hf := fit_pr hb
        have hvp := veq_pr (m.pr.getD k default)
        repeat' (first|(with_reducible first|refine yrl (by constructor) ?_|refine jk (fun M hM=>?_)|(refine hM _ ?_;clear hM M)|refine xb3 (by decide) ?_|refine yqa (by assumption) ?_ ?_|refine yqb (by assumption) ?_ ?_)|((with_reducible refine je ?_)<;>(first|rfl|assumption|(simp only [znl,znR8];(first|done|fail))))|(with_reducible refine jf (by (simp only [↓reduceIte,zlk,Nat.reduceEqDiff,reduceCtorEq]);exact rfl) ?_)|((with_reducible first|refine jg (fun hc=>?_) (fun hc=>?_)|refine jh (fun hc=>?_) (fun hc=>?_))<;>(try simp (disch:=omega) only [zhb] at hc)<;>(try (exfalso;omega))<;>(try subst hc))|(with_reducible refine ji (by omega) ?_)|(simp (config := { maxSteps := 400000 }) only [↓jt,↓reduceIte,zvs,reduceCtorEq,Nat.reduceEqDiff,Nat.reduceAdd,Nat.reduceLeDiff,Nat.reduceMul,Int.reduceBNe,Int.reduceBEq,Int.reduceEq,Int.reduceNe,Int.reduceLT,Int.reduceLE,Int.reduceGT,Int.reduceGE,Int.reduceNeg,Int.reduceToNat,Nat.reduceLT,Nat.reduceSub,tab,hat,hlw,hS1,hS2,hS3,encPr,Try.results8,jTA])|(simp (disch:=omega) only [ziw]))
        all_goals (try (exfalso; omega))
        refine ok_drawC 14 (by kernel_rfl) (by decide +kernel) (by intro m hm; simp only [upd_ap,rows_cons,rows_nil]; (repeat (first | rfl | rw [if_neg (by omega)]))) (fun M hM => ?_); simp only [List.take_succ_cons,List.take_zero,List.drop_succ_cons,List.drop_zero]
        repeat' (first|(with_reducible first|refine yrl (by constructor) ?_|refine jk (fun M hM=>?_)|(refine hM _ ?_;clear hM M)|refine xb3 (by decide) ?_|refine yqa (by assumption) ?_ ?_|refine yqb (by assumption) ?_ ?_)|((with_reducible refine je ?_)<;>(first|rfl|assumption|(simp only [znl,znR8];(first|done|fail))))|(with_reducible refine jf (by (simp only [↓reduceIte,zlk,Nat.reduceEqDiff,reduceCtorEq]);exact rfl) ?_)|((with_reducible first|refine jg (fun hc=>?_) (fun hc=>?_)|refine jh (fun hc=>?_) (fun hc=>?_))<;>(try simp (disch:=omega) only [zhb] at hc)<;>(try (exfalso;omega))<;>(try subst hc))|(with_reducible refine ji (by omega) ?_)|(simp (config := { maxSteps := 400000 }) only [↓jt,↓reduceIte,zvs,reduceCtorEq,Nat.reduceEqDiff,Nat.reduceAdd,Nat.reduceLeDiff,Nat.reduceMul,Int.reduceBNe,Int.reduceBEq,Int.reduceEq,Int.reduceNe,Int.reduceLT,Int.reduceLE,Int.reduceGT,Int.reduceGE,Int.reduceNeg,Int.reduceToNat,Nat.reduceLT,Nat.reduceSub,tab,hat,hlw,hS1,hS2,hS3,hf,hvp,hbe,hbb,encPr,Try.results8,jTA])|(simp (disch:=omega) only [ziw]))
        all_goals first
          | (exfalso; omega)
          | (refine xl1 (k + 1) ?_ (by show k + 1 ≤ m.pr.length; omega) (by show m.pr.length - (k + 1) < m.pr.length - k; omega); (refine yrn [(0, 0), (1, 1)] false ?_ ?_<;>(repeat' (first|(with_reducible first|exact ya1|exact ya2|exact ya3|refine jx rfl (by first|rfl|assumption|(simp only [znl,znR8];(first|done|fail)))|exact ya5|exact ya7|exact jy|exact jz|refine jA ?_|refine ya9 ?_ ?_ ?_|refine jC rfl (by first|rfl|assumption|(simp only [znl,znR8];(first|done|fail)))|refine MR.agg (MRL.cons ?_ ?_)|refine MR.fn ?_|refine MRL.cons ?_ ?_|exact MRL.nil|refine jE ?_ ?_|exact jF|exact jG|refine yb1 ?_ ?_|refine MB.row ?_|refine jI ?_ ?_|exact ya8|refine jJ rfl (by first|rfl|assumption|(simp only [znl,znR8];(first|done|fail)))|refine yb2 ?_|rfl)|(simp only [znl,znR8];(first|done|fail))|(simp only [↓reduceIte,zlk,Nat.reduceEqDiff,reduceCtorEq])|(with_reducible first|refine jJ ?_ ?_|refine ya5 ?_|refine ju ?_|refine jv ?_|refine jw ?_|refine jx ?_ (by first|rfl|assumption|(simp only [znl,znR8];(first|done|fail)))|refine jC ?_ (by first|rfl|assumption|(simp only [znl,znR8];(first|done|fail))))))); done)
    · obtain rfl : k = m.pr.length := by omega
      have hSy : Spec Try.prog 17 [encMA (wakeM m) (encPrs m.pr), encM m] (.bool true) := hSm
      simp only [encMA] at hSy
      repeat' (first|(with_reducible first|refine yrl (by constructor) ?_|refine jk (fun M hM=>?_)|(refine hM _ ?_;clear hM M)|refine xb3 (by decide) ?_|refine yqa (by assumption) ?_ ?_|refine yqb (by assumption) ?_ ?_)|((with_reducible refine je ?_)<;>(first|rfl|assumption|(simp only [znl,znR8];(first|done|fail))))|(with_reducible refine jf (by (simp only [↓reduceIte,zlk,Nat.reduceEqDiff,reduceCtorEq]);exact rfl) ?_)|((with_reducible first|refine jg (fun hc=>?_) (fun hc=>?_)|refine jh (fun hc=>?_) (fun hc=>?_))<;>(try simp (disch:=omega) only [zhb] at hc)<;>(try (exfalso;omega))<;>(try subst hc))|(with_reducible refine ji (by omega) ?_)|(simp (config := { maxSteps := 400000 }) only [↓jt,↓reduceIte,zvs,reduceCtorEq,Nat.reduceEqDiff,Nat.reduceAdd,Nat.reduceLeDiff,Nat.reduceMul,Int.reduceBNe,Int.reduceBEq,Int.reduceEq,Int.reduceNe,Int.reduceLT,Int.reduceLE,Int.reduceGT,Int.reduceGE,Int.reduceNeg,Int.reduceToNat,Nat.reduceLT,Nat.reduceSub,tab,hlw,Try.results8,jTA])|(simp (disch:=omega) only [ziw]))
      all_goals first
        | (exfalso; omega)
        | (simp only [zrds]; done)
        | (simp only [zrds]; rfl)
end Go.Proofs.Ytginpdejpibdjaa.V
end
