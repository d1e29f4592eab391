/-
  Parts of the proof of WalRecovers: HD, HE, HF, VregW, HG, D6, HI, HJ, HK.
  Conditions: none.
-/
import Derived.Test.YtcilmfhncjfdbaaDoorWWalRecovers09
import Derived.Test.YtcilmfhncjfdbaaDoorWWalRecovers05
import Derived.Test.YtcilmfhncjfdbaaDoorWWalRecovers08
section
/-
  WAL: calls of a drive, one behind the other.
-/
set_option linter.unusedVariables false
set_option linter.unusedSimpArgs false
namespace Go.Proofs.YtcilmfhncjfdbaaDoor.V
open Go
set_option maxRecDepth 100000
set_option maxHeartbeats 4000000
inductive Cl where
  | put (i : Int) (s : List UInt8)
  | flush
instance : Inhabited Cl := ⟨.flush⟩
def encCl : Cl → VV
  | .put i s => .fn 50 [.pd .cell (.int .i64 i), .pd .cell (.str s)]
  | .flush => .fn 32 []
theorem nl_encCl : ∀ c, nl (encCl c) = true
  | .put _ _ => rfl
  | .flush => rfl
theorem nls_cls (l : List Cl) : nls (l.map encCl) = true := nls_map _ nl_encCl l
theorem nl_pd (s : Sh) (v : VV) : nl (.pd s v) = nl v := by simp only [nl]
-- nlx: jO, nls_mapB, nls_cls, nl_pd
def stepC (d : Dr) : Cl → Dr × Int
  | .put i s => putD d i s
  | .flush => flushD d
def runC (d : Dr) : List Cl → Dr × Int
  | [] => (d, 0)
  | c :: cs => if (stepC d c).2 ≠ 0 then stepC d c else runC (stepC d c).1 cs
theorem runC_append : ∀ (a b : List Cl) (d : Dr), runC d (a ++ b) = if (runC d a).2 ≠ 0 then runC d a else runC (runC d a).1 b
  | [], b, d => by simp [runC]
  | c :: a, b, d => by
    rw [List.cons_append, runC, runC]
    by_cases h : (stepC d c).2 ≠ 0
    · rw [if_pos h, if_pos h, if_pos h]
    · rw [if_neg h, if_neg h, runC_append a b]
structure DOk (N : Nat) (d : Dr) : Prop where
  bl : d.bl.length ≤ 1000
  blS : ∀ s ∈ d.bl, s.length ≤ 1000
  pe : d.pe.length ≤ N
  peS : ∀ w ∈ d.pe, w.d.length ≤ 1000
  l1 : -2 ^ 63 ≤ d.left
  l2 : d.left < 2 ^ 63
theorem DOk.mono {N M : Nat} {d : Dr} (h : DOk N d) (hN : N ≤ M) : DOk M d := ⟨h.bl, h.blS, Nat.le_trans h.pe hN, h.peS, h.l1, h.l2⟩
theorem DOk.fit {N : Nat} {d : Dr} (h : DOk N d) (hN : N < 2 ^ 36) : dfit d := by
  obtain ⟨h1, h2, h3, h4, h5, h6⟩ := h
  exact ⟨⟨by omega, fun s hs => by have := h2 s hs; omega⟩, by omega, fun w hw => by have := h4 w hw; omega⟩
def ClR : Cl → Prop
  | .put i s => -2 ^ 62 ≤ i ∧ i < 2 ^ 62 ∧ s.length ≤ 1000
  | .flush => True
theorem dok_nil (N : Nat) : DOk N ⟨[], [], 0⟩ := ⟨by simp, by simp, by simp, by simp, by decide, by decide⟩
theorem less_r {n : Int} (h1 : -2 ^ 63 ≤ n) (h2 : n < 2 ^ 63) : -2 ^ 63 ≤ lessD n ∧ lessD n < 2 ^ 63 := by unfold lessD; split <;> omega
theorem flushB_mem (pe : List Wr) (n : Nat) (hp : ∀ w ∈ pe, w.d.length ≤ n) : ∀ g : Frames, (∀ s ∈ g, s.length ≤ n) → ∀ s ∈ flushB pe g, s.length ≤ n := by
  induction pe with
  | nil => intro g h; exact h
  | cons w pe ih =>
    intro g h
    show ∀ s ∈ flushB pe (wrB g w), _
    refine ih (fun x hx => hp x (by simp [hx])) _ fun s hs => ?_
    unfold wrB at hs
    split at hs
    · rcases List.mem_or_eq_of_mem_set hs with hs | rfl
      · exact h s hs
      · exact hp w (by simp)
    · exact h s hs
theorem stepC_ok {N : Nat} {d : Dr} (h : DOk N d) (c : Cl) (hc : ClR c) : DOk (N + 1) (stepC d c).1 := by
  obtain ⟨h1, h2, h3, h4, h5, h6⟩ := h
  cases c with
  | put i s =>
    obtain ⟨_, _, hs⟩ := hc
    show DOk (N + 1) (putD d i s).1
    unfold putD
    split
    · exact dok_nil _
    · split
      · exact dok_nil _
      · split
        · exact ⟨h1, h2, by show d.pe.length ≤ N + 1; omega, h4, h5, h6⟩
        · obtain ⟨k1, k2⟩ := less_r h5 h6
          refine ⟨h1, h2, by show (d.pe ++ [_]).length ≤ N + 1; rw [List.length_append]; simp only [List.length_cons,List.length_nil]; omega, fun w hw => ?_, k1, k2⟩
          rcases List.mem_append.1 hw with hw | hw
          · exact h4 w hw
          · simp only [List.mem_cons,List.not_mem_nil,or_false] at hw; rw [hw]; exact hs
  | flush =>
    show DOk (N + 1) (flushD d).1
    unfold flushD
    split
    · exact ⟨h1, h2, by show d.pe.length ≤ N + 1; omega, h4, h5, h6⟩
    · obtain ⟨k1, k2⟩ := less_r h5 h6
      exact ⟨by show (flushB d.pe d.bl).length ≤ _; rw [flushB_len]; exact h1, flushB_mem _ _ h4 _ h2, Nat.zero_le _, fun w hw => (by cases hw), k1, k2⟩
theorem pputting_spec (d : Dr) {N : Nat} (hd : DOk N d) (hN : N < 2 ^ 36) (i : Int) (s : List UInt8) (hc : ClR (.put i s)) : Spec Tryd.prog 50 [encDr d, .pd .cell (.int .i64 i), .pd .cell (.str s)] (drV (putD d i s)) := by
  obtain ⟨c1, c2, c3⟩ := hc
  have hP := dput_spec d (hd.fit hN) ⟨hd.l1, hd.l2⟩ i (by omega) s (by omega)
  obtain ⟨x, hx⟩ : ∃ x, x = putD d i s := ⟨_, rfl⟩
  rw [← hx] at hP ⊢
  obtain ⟨y, e⟩ := x
  simp only [drV] at hP ⊢
  refine spec_ok Tryd.func50 rfl rfl (by kernel_rfl) (k := 3) rfl (by decide) ?_
  repeat' (first|(with_reducible first|refine yrl (by constructor) ?_|refine jk (fun M hM=>?_)|(refine hM _ ?_;clear hM M)|refine xb3 (by decide) ?_|refine yqa (by assumption) ?_ ?_|refine yqb (by assumption) ?_ ?_)|((with_reducible refine je ?_)<;>(first|rfl|assumption|(simp only [znl,jO,nls_mapB,nls_cls,nl_pd];(first|done|fail))))|(with_reducible refine jf (by (simp only [↓reduceIte,zlk,Nat.reduceEqDiff,reduceCtorEq]);exact rfl) ?_)|((with_reducible first|refine jg (fun hc=>?_) (fun hc=>?_)|refine jh (fun hc=>?_) (fun hc=>?_))<;>(try simp (disch:=omega) only [zhb] at hc)<;>(try (exfalso;omega))<;>(try subst hc))|(with_reducible refine ji (by omega) ?_)|(simp (config := { maxSteps := 400000 }) only [↓jt,↓reduceIte,zvs,reduceCtorEq,Nat.reduceEqDiff,Nat.reduceAdd,Nat.reduceLeDiff,Nat.reduceMul,Int.reduceBNe,Int.reduceBEq,Int.reduceEq,Int.reduceNe,Int.reduceLT,Int.reduceLE,Int.reduceGT,Int.reduceGE,Int.reduceNeg,Int.reduceToNat,Nat.reduceLT,Nat.reduceSub,tab,Tryd.results50,List.toList_toArray])|(simp (disch:=omega) only [ziw]))
  all_goals first
    | (((try simp only [encDr,encWrs,List.map_nil]); simp only [zrds]; (repeat' (first | exact rd_nil | exact Rd.refl _ _ (by first|rfl|assumption|(simp only [znl,jO,nls_mapB,nls_cls,nl_pd];(first|done|fail))) | (refine And.intro ?_ ?_) | (refine rd_own (by (simp only [↓reduceIte,zlk,Nat.reduceEqDiff,reduceCtorEq]); exact rfl) ?_ ?_ ?_) | rfl | assumption | (simp only [znl,jO,nls_mapB,nls_cls,nl_pd];(first|done|fail)) | (simp; done) | (simp; omega)))); done)
    | trace_state
theorem cls_get {cs : List Cl} {k : Nat} (h : k < cs.length) : (cs.map encCl)[k]? = some (encCl (cs.getD k default)) := by simp [h]
theorem pdone_spec (d : Dr) {N : Nat} (hd : DOk N d) (cs : List Cl) (hN : N + cs.length < 2 ^ 36) (hc : ∀ c ∈ cs, ClR c) : Spec Tryd.prog 33 [encDr d, .dat .cell (cs.map encCl)] (drV (runC d cs)) := by
  obtain ⟨R, hR⟩ : ∃ R, R = runC d cs := ⟨_, rfl⟩
  rw [← hR]
  have hnc := nls_cls cs
  refine spec_ok Tryd.func33 rfl rfl (by kernel_rfl) (k := 2) rfl (by decide) ?_
  repeat' (first|(with_reducible first|refine yrl (by constructor) ?_|refine jk (fun M hM=>?_)|(refine hM _ ?_;clear hM M)|refine xb3 (by decide) ?_|refine yqa (by assumption) ?_ ?_|refine yqb (by assumption) ?_ ?_)|((with_reducible refine je ?_)<;>(first|rfl|assumption|(simp only [znl,jO,nls_mapB,nls_cls,nl_pd];(first|done|fail))))|(with_reducible refine jf (by (simp only [↓reduceIte,zlk,Nat.reduceEqDiff,reduceCtorEq]);exact rfl) ?_)|((with_reducible first|refine jg (fun hc=>?_) (fun hc=>?_)|refine jh (fun hc=>?_) (fun hc=>?_))<;>(try simp (disch:=omega) only [zhb] at hc)<;>(try (exfalso;omega))<;>(try subst hc))|(with_reducible refine ji (by omega) ?_)|(simp (config := { maxSteps := 400000 }) only [↓jt,↓reduceIte,zvs,reduceCtorEq,Nat.reduceEqDiff,Nat.reduceAdd,Nat.reduceLeDiff,Nat.reduceMul,Int.reduceBNe,Int.reduceBEq,Int.reduceEq,Int.reduceNe,Int.reduceLT,Int.reduceLE,Int.reduceGT,Int.reduceGE,Int.reduceNeg,Int.reduceToNat,Nat.reduceLT,Nat.reduceSub,tab,Tryd.results33,List.toList_toArray])|(simp (disch:=omega) only [ziw]))
  refine ok_loop (fun x : Dr × Nat => ⟨slots [(2, .ptr 0 []), (4, .ptr 1 []), (5, .int .i64 0), (10, .dat .cell (cs.map encCl)), (11, .int .i64 cs.length), (12, .int .i64 x.2)], rows [(0, .row (.st [.cell, .cell, .cell]) (encDr x.1)), (1, .row (.st [.cell, .cell, .cell]) (.agg [.sl none 0, .sl none 0, .int .i64 0]))], 2⟩)
    (fun x => x.2 ≤ cs.length ∧ DOk (N + x.2) x.1 ∧ R = runC x.1 (cs.drop x.2)) (fun x => cs.length - x.2) (d, 0) ?_ ⟨Nat.zero_le _, hd, hR⟩ (fun x hx => ?_)
  · (refine yrn [(0, 0), (1, 1)] false ?_ ?_<;>(repeat' (first|(with_reducible first|exact ya1|exact ya2|exact ya3|refine jx rfl (by first|rfl|assumption|(simp only [znl,jO,nls_mapB,nls_cls,nl_pd];(first|done|fail)))|exact ya5|exact ya7|exact jy|exact jz|refine jA ?_|refine ya9 ?_ ?_ ?_|refine jC rfl (by first|rfl|assumption|(simp only [znl,jO,nls_mapB,nls_cls,nl_pd];(first|done|fail)))|refine MR.agg (MRL.cons ?_ ?_)|refine MR.fn ?_|refine MRL.cons ?_ ?_|exact MRL.nil|refine jE ?_ ?_|exact jF|exact jG|refine yb1 ?_ ?_|refine MB.row ?_|refine jI ?_ ?_|exact ya8|refine jJ rfl (by first|rfl|assumption|(simp only [znl,jO,nls_mapB,nls_cls,nl_pd];(first|done|fail)))|refine yb2 ?_|rfl)|(simp only [znl,jO,nls_mapB,nls_cls,nl_pd];(first|done|fail))|(simp only [↓reduceIte,zlk,Nat.reduceEqDiff,reduceCtorEq])|(with_reducible first|refine jJ ?_ ?_|refine ya5 ?_|refine ju ?_|refine jv ?_|refine jw ?_|refine jx ?_ (by first|rfl|assumption|(simp only [znl,jO,nls_mapB,nls_cls,nl_pd];(first|done|fail)))|refine jC ?_ (by first|rfl|assumption|(simp only [znl,jO,nls_mapB,nls_cls,nl_pd];(first|done|fail)))))))
    all_goals (first | rfl | trace_state)
  obtain ⟨u, k⟩ := x
  obtain ⟨hk, hu, hr⟩ := hx
  have hk : k ≤ cs.length := hk
  have hu : DOk (N + k) u := hu
  have hr : R = runC u (cs.drop k) := hr
  by_cases hlt : k < cs.length
  · have hcl := hc _ (getD_mem' hlt)
    have hg := cls_get hlt
    have hok := stepC_ok hu (cs.getD k default) hcl
    cases hcc : cs.getD k default with
    | put i s =>
      rw [hcc] at hg hok hcl
      simp only [encCl] at hg
      have hS : Spec Tryd.prog 50 [encDr u, .pd .cell (.int .i64 i), .pd .cell (.str s)] (drV (stepC u (.put i s))) := pputting_spec u hu (by omega) i s hcl
      rw [drop_getD' cs k hlt, hcc, runC] at hr
      obtain ⟨x, hx⟩ : ∃ x, x = stepC u (.put i s) := ⟨_, rfl⟩
      rw [← hx] at hr hok hS
      obtain ⟨y, e⟩ := x
      dsimp only at hr hok
      simp only [drV] at hS
      repeat' (first|(with_reducible first|refine yrl (by constructor) ?_|refine jk (fun M hM=>?_)|(refine hM _ ?_;clear hM M)|refine xb3 (by decide) ?_|refine yqa (by assumption) ?_ ?_|refine yqb (by assumption) ?_ ?_)|((with_reducible refine je ?_)<;>(first|rfl|assumption|(simp only [znl,jO,nls_mapB,nls_cls,nl_pd];(first|done|fail))))|(with_reducible refine jf (by (simp only [↓reduceIte,zlk,Nat.reduceEqDiff,reduceCtorEq]);exact rfl) ?_)|((with_reducible first|refine jg (fun hc=>?_) (fun hc=>?_)|refine jh (fun hc=>?_) (fun hc=>?_))<;>(try simp (disch:=omega) only [zhb] at hc)<;>(try (exfalso;omega))<;>(try subst hc))|(with_reducible refine ji (by omega) ?_)|(simp (config := { maxSteps := 400000 }) only [↓jt,↓reduceIte,zvs,reduceCtorEq,Nat.reduceEqDiff,Nat.reduceAdd,Nat.reduceLeDiff,Nat.reduceMul,Int.reduceBNe,Int.reduceBEq,Int.reduceEq,Int.reduceNe,Int.reduceLT,Int.reduceLE,Int.reduceGT,Int.reduceGE,Int.reduceNeg,Int.reduceToNat,Nat.reduceLT,Nat.reduceSub,tab,hg,Tryd.results33,List.toList_toArray])|(simp (disch:=omega) only [ziw]))
      all_goals first
        | (exfalso; omega)
        | (rw [if_neg (by omega)] at hr; refine xl1 (y, k + 1) ?_ ⟨by show k + 1 ≤ cs.length; omega, hok, hr⟩ (by show cs.length - (k + 1) < cs.length - k; omega); (refine yrn [(0, 0), (1, 1)] false ?_ ?_<;>(repeat' (first|(with_reducible first|exact ya1|exact ya2|exact ya3|refine jx rfl (by first|rfl|assumption|(simp only [znl,jO,nls_mapB,nls_cls,nl_pd];(first|done|fail)))|exact ya5|exact ya7|exact jy|exact jz|refine jA ?_|refine ya9 ?_ ?_ ?_|refine jC rfl (by first|rfl|assumption|(simp only [znl,jO,nls_mapB,nls_cls,nl_pd];(first|done|fail)))|refine MR.agg (MRL.cons ?_ ?_)|refine MR.fn ?_|refine MRL.cons ?_ ?_|exact MRL.nil|refine jE ?_ ?_|exact jF|exact jG|refine yb1 ?_ ?_|refine MB.row ?_|refine jI ?_ ?_|exact ya8|refine jJ rfl (by first|rfl|assumption|(simp only [znl,jO,nls_mapB,nls_cls,nl_pd];(first|done|fail)))|refine yb2 ?_|rfl)|(simp only [znl,jO,nls_mapB,nls_cls,nl_pd];(first|done|fail))|(simp only [↓reduceIte,zlk,Nat.reduceEqDiff,reduceCtorEq])|(with_reducible first|refine jJ ?_ ?_|refine ya5 ?_|refine ju ?_|refine jv ?_|refine jw ?_|refine jx ?_ (by first|rfl|assumption|(simp only [znl,jO,nls_mapB,nls_cls,nl_pd];(first|done|fail)))|refine jC ?_ (by first|rfl|assumption|(simp only [znl,jO,nls_mapB,nls_cls,nl_pd];(first|done|fail))))))); all_goals (first | rfl | trace_state); done)
        | (rw [if_pos (by omega)] at hr; rw [hr]; ((try simp only [drV,encDr,encWrs,List.map_nil]); simp only [zrds]; (repeat' (first | exact rd_nil | exact Rd.refl _ _ (by first|rfl|assumption|(simp only [znl,jO,nls_mapB,nls_cls,nl_pd];(first|done|fail))) | (refine And.intro ?_ ?_) | (refine rd_own (by (simp only [↓reduceIte,zlk,Nat.reduceEqDiff,reduceCtorEq]); exact rfl) ?_ ?_ ?_) | rfl | assumption | (simp only [znl,jO,nls_mapB,nls_cls,nl_pd];(first|done|fail)) | (simp; done) | (simp; omega)))); done)
        | trace_state
    | flush =>
      rw [hcc] at hg hok hcl
      simp only [encCl] at hg
      have hS : Spec Tryd.prog 32 [encDr u] (drV (stepC u .flush)) := flush_spec u (hu.fit (by omega)) ⟨hu.l1, hu.l2⟩
      rw [drop_getD' cs k hlt, hcc, runC] at hr
      obtain ⟨x, hx⟩ : ∃ x, x = stepC u .flush := ⟨_, rfl⟩
      rw [← hx] at hr hok hS
      obtain ⟨y, e⟩ := x
      dsimp only at hr hok
      simp only [drV] at hS
      repeat' (first|(with_reducible first|refine yrl (by constructor) ?_|refine jk (fun M hM=>?_)|(refine hM _ ?_;clear hM M)|refine xb3 (by decide) ?_|refine yqa (by assumption) ?_ ?_|refine yqb (by assumption) ?_ ?_)|((with_reducible refine je ?_)<;>(first|rfl|assumption|(simp only [znl,jO,nls_mapB,nls_cls,nl_pd];(first|done|fail))))|(with_reducible refine jf (by (simp only [↓reduceIte,zlk,Nat.reduceEqDiff,reduceCtorEq]);exact rfl) ?_)|((with_reducible first|refine jg (fun hc=>?_) (fun hc=>?_)|refine jh (fun hc=>?_) (fun hc=>?_))<;>(try simp (disch:=omega) only [zhb] at hc)<;>(try (exfalso;omega))<;>(try subst hc))|(with_reducible refine ji (by omega) ?_)|(simp (config := { maxSteps := 400000 }) only [↓jt,↓reduceIte,zvs,reduceCtorEq,Nat.reduceEqDiff,Nat.reduceAdd,Nat.reduceLeDiff,Nat.reduceMul,Int.reduceBNe,Int.reduceBEq,Int.reduceEq,Int.reduceNe,Int.reduceLT,Int.reduceLE,Int.reduceGT,Int.reduceGE,Int.reduceNeg,Int.reduceToNat,Nat.reduceLT,Nat.reduceSub,tab,hg,Tryd.results33,List.toList_toArray])|(simp (disch:=omega) only [ziw]))
      all_goals first
        | (exfalso; omega)
        | (rw [if_neg (by omega)] at hr; refine xl1 (y, k + 1) ?_ ⟨by show k + 1 ≤ cs.length; omega, hok, hr⟩ (by show cs.length - (k + 1) < cs.length - k; omega); (refine yrn [(0, 0), (1, 1)] false ?_ ?_<;>(repeat' (first|(with_reducible first|exact ya1|exact ya2|exact ya3|refine jx rfl (by first|rfl|assumption|(simp only [znl,jO,nls_mapB,nls_cls,nl_pd];(first|done|fail)))|exact ya5|exact ya7|exact jy|exact jz|refine jA ?_|refine ya9 ?_ ?_ ?_|refine jC rfl (by first|rfl|assumption|(simp only [znl,jO,nls_mapB,nls_cls,nl_pd];(first|done|fail)))|refine MR.agg (MRL.cons ?_ ?_)|refine MR.fn ?_|refine MRL.cons ?_ ?_|exact MRL.nil|refine jE ?_ ?_|exact jF|exact jG|refine yb1 ?_ ?_|refine MB.row ?_|refine jI ?_ ?_|exact ya8|refine jJ rfl (by first|rfl|assumption|(simp only [znl,jO,nls_mapB,nls_cls,nl_pd];(first|done|fail)))|refine yb2 ?_|rfl)|(simp only [znl,jO,nls_mapB,nls_cls,nl_pd];(first|done|fail))|(simp only [↓reduceIte,zlk,Nat.reduceEqDiff,reduceCtorEq])|(with_reducible first|refine jJ ?_ ?_|refine ya5 ?_|refine ju ?_|refine jv ?_|refine jw ?_|refine jx ?_ (by first|rfl|assumption|(simp only [znl,jO,nls_mapB,nls_cls,nl_pd];(first|done|fail)))|refine jC ?_ (by first|rfl|assumption|(simp only [znl,jO,nls_mapB,nls_cls,nl_pd];(first|done|fail))))))); all_goals (first | rfl | trace_state); done)
        | (rw [if_pos (by omega)] at hr; rw [hr]; ((try simp only [drV,encDr,encWrs,List.map_nil]); simp only [zrds]; (repeat' (first | exact rd_nil | exact Rd.refl _ _ (by first|rfl|assumption|(simp only [znl,jO,nls_mapB,nls_cls,nl_pd];(first|done|fail))) | (refine And.intro ?_ ?_) | (refine rd_own (by (simp only [↓reduceIte,zlk,Nat.reduceEqDiff,reduceCtorEq]); exact rfl) ?_ ?_ ?_) | rfl | assumption | (simp only [znl,jO,nls_mapB,nls_cls,nl_pd];(first|done|fail)) | (simp; done) | (simp; omega)))); done)
        | trace_state
  obtain rfl : k = cs.length := by omega
  rw [List.drop_length, runC] at hr
  repeat' (first|(with_reducible first|refine yrl (by constructor) ?_|refine jk (fun M hM=>?_)|(refine hM _ ?_;clear hM M)|refine xb3 (by decide) ?_|refine yqa (by assumption) ?_ ?_|refine yqb (by assumption) ?_ ?_)|((with_reducible refine je ?_)<;>(first|rfl|assumption|(simp only [znl,jO,nls_mapB,nls_cls,nl_pd];(first|done|fail))))|(with_reducible refine jf (by (simp only [↓reduceIte,zlk,Nat.reduceEqDiff,reduceCtorEq]);exact rfl) ?_)|((with_reducible first|refine jg (fun hc=>?_) (fun hc=>?_)|refine jh (fun hc=>?_) (fun hc=>?_))<;>(try simp (disch:=omega) only [zhb] at hc)<;>(try (exfalso;omega))<;>(try subst hc))|(with_reducible refine ji (by omega) ?_)|(simp (config := { maxSteps := 400000 }) only [↓jt,↓reduceIte,zvs,reduceCtorEq,Nat.reduceEqDiff,Nat.reduceAdd,Nat.reduceLeDiff,Nat.reduceMul,Int.reduceBNe,Int.reduceBEq,Int.reduceEq,Int.reduceNe,Int.reduceLT,Int.reduceLE,Int.reduceGT,Int.reduceGE,Int.reduceNeg,Int.reduceToNat,Nat.reduceLT,Nat.reduceSub,tab,Tryd.results33,List.toList_toArray])|(simp (disch:=omega) only [ziw]))
  all_goals first
    | (exfalso; omega)
    | (rw [hr]; ((try simp only [drV,encDr,encWrs,List.map_nil]); simp only [zrds]; (repeat' (first | exact rd_nil | exact Rd.refl _ _ (by first|rfl|assumption|(simp only [znl,jO,nls_mapB,nls_cls,nl_pd];(first|done|fail))) | (refine And.intro ?_ ?_) | (refine rd_own (by (simp only [↓reduceIte,zlk,Nat.reduceEqDiff,reduceCtorEq]); exact rfl) ?_ ?_ ?_) | rfl | assumption | (simp only [znl,jO,nls_mapB,nls_cls,nl_pd];(first|done|fail)) | (simp; done) | (simp; omega)))); done)
    | trace_state
end Go.Proofs.YtcilmfhncjfdbaaDoor.V
end
section
/-
  WAL: the calls of a commit; homeward.
-/
set_option linter.unusedVariables false
set_option linter.unusedSimpArgs false
namespace Go.Proofs.YtcilmfhncjfdbaaDoor.V
open Go
set_option maxRecDepth 100000
set_option maxHeartbeats 4000000
theorem nl_fn (f : FuncId) (c : List VV) : nl (.fn f c) = nls c := by simp only [nl]
-- nlx: jO, nls_mapB, nls_cls, nl_pd, nl_fn
theorem mrl_app {n0 : Nat} {σ : List (Nat × Nat)} {H : Heap} {fz : Bool} : ∀ {us vs : List VV}, MRL n0 σ H fz us vs → ∀ {us' vs' : List VV}, MRL n0 σ H fz us' vs' → MRL n0 σ H fz (us ++ us') (vs ++ vs')
  | _, _, .nil, _, _, h => h
  | _, _, .cons h h', _, _, h2 => .cons h (mrl_app h' h2)
theorem mr_put {σ : List (Nat × Nat)} {H : Heap} {A : List VV} {f : FuncId} {a b : Nat} {u v : VV} (hA : nls A = true) (ha : H a = some (.row .cell u)) (hb : H b = some (.row .cell v)) (hu : nl u = true) (hv : nl v = true) (h1 : a ∉ σ.map (·.2)) (h2 : b ∉ σ.map (·.2)) :
    MR 0 σ H true (.agg (A ++ [.fn f [.ptr a [], .ptr b []]])) (.agg (A ++ [.fn f [.pd .cell u, .pd .cell v]])) :=
  .agg (mrl_app (MRL.data A hA) (.cons (.fn (.cons (.place rfl ha hu h1) (.cons (.place rfl hb hv h2) .nil))) .nil))
def hmP (l : List Wr) (k : Nat) : List Cl := (List.range k).map fun i : Nat => Cl.put (33 + (l.getD i default).b) (l.getD i default).d
def ptP (l : List Wr) (k : Nat) : List Cl := (List.range k).map fun i : Nat => Cl.put (1 + (i : Int)) (l.getD i default).d
theorem hmP_len (l : List Wr) (k : Nat) : (hmP l k).length = k := by simp [hmP]
theorem ptP_len (l : List Wr) (k : Nat) : (ptP l k).length = k := by simp [ptP]
theorem hmP_succ (l : List Wr) (k : Nat) : (hmP l (k + 1)).map encCl = (hmP l k).map encCl ++ [.fn 50 [.pd .cell (.int .i64 (33 + (l.getD k default).b)), .pd .cell (.str (l.getD k default).d)]] := by
  simp only [hmP,List.range_succ,List.map_append,List.map_cons,List.map_nil,encCl]
theorem ptP_succ (l : List Wr) (k : Nat) : (ptP l (k + 1)).map encCl = (ptP l k).map encCl ++ [.fn 50 [.pd .cell (.int .i64 (1 + (k : Int))), .pd .cell (.str (l.getD k default).d)]] := by
  simp only [ptP,List.range_succ,List.map_append,List.map_cons,List.map_nil,encCl]
def homeC (l : List Wr) : List Cl := hmP l l.length ++ [.flush]
theorem phomeward_spec (l : List Wr) (hl : l.length < 2 ^ 30) (hb : ∀ w ∈ l, 0 ≤ w.b ∧ w.b < 2 ^ 40) : Spec Tryd.prog 34 [encWrs l] (.dat .cell ((homeC l).map encCl)) := by
  refine spec_ok Tryd.func34 rfl rfl (by kernel_rfl) (k := 1) rfl (by decide) ?_
  repeat' (first|(with_reducible first|refine yrl (by constructor) ?_|refine jk (fun M hM=>?_)|(refine hM _ ?_;clear hM M)|refine xb3 (by decide) ?_|refine yqa (by assumption) ?_ ?_|refine yqb (by assumption) ?_ ?_)|((with_reducible refine je ?_)<;>(first|rfl|assumption|(simp only [znl,jO,nls_mapB,nls_cls,nl_pd,nl_fn];(first|done|fail))))|(with_reducible refine jf (by (simp only [↓reduceIte,zlk,Nat.reduceEqDiff,reduceCtorEq]);exact rfl) ?_)|((with_reducible first|refine jg (fun hc=>?_) (fun hc=>?_)|refine jh (fun hc=>?_) (fun hc=>?_))<;>(try simp (disch:=omega) only [zhb] at hc)<;>(try (exfalso;omega))<;>(try subst hc))|(with_reducible refine ji (by omega) ?_)|(simp (config := { maxSteps := 400000 }) only [↓jt,↓reduceIte,zvs,reduceCtorEq,Nat.reduceEqDiff,Nat.reduceAdd,Nat.reduceLeDiff,Nat.reduceMul,Int.reduceBNe,Int.reduceBEq,Int.reduceEq,Int.reduceNe,Int.reduceLT,Int.reduceLE,Int.reduceGT,Int.reduceGE,Int.reduceNeg,Int.reduceToNat,Nat.reduceLT,Nat.reduceSub,tab,Tryd.results34,List.toList_toArray])|(simp (disch:=omega) only [ziw]))
  refine ok_loop (fun k : Nat => ⟨slots [(3, .sl (some (0, [], 0)) k), (6, encWrs l), (7, .int .i64 l.length), (8, .int .i64 k)], rows [(0, .row (.arr k .cell) (.agg ((hmP l k).map encCl)))], 1⟩) (fun k => k ≤ l.length) (fun k => l.length - k) 0 ?_ (Nat.zero_le _) (fun k hk => ?_)
  · (refine yrn [] false ?_ ?_<;>(repeat' (first|(with_reducible first|exact ya1|exact ya2|exact ya3|refine jx rfl (by first|rfl|assumption|(simp only [znl,jO,nls_mapB,nls_cls,nl_pd,nl_fn];(first|done|fail)))|exact ya5|exact ya7|exact jy|exact jz|refine jA ?_|refine ya9 ?_ ?_ ?_|refine jC rfl (by first|rfl|assumption|(simp only [znl,jO,nls_mapB,nls_cls,nl_pd,nl_fn];(first|done|fail)))|refine MR.agg (MRL.cons ?_ ?_)|refine MR.fn ?_|refine MRL.cons ?_ ?_|exact MRL.nil|refine jE ?_ ?_|exact jF|exact jG|refine yb1 ?_ ?_|refine MB.row ?_|refine jI ?_ ?_|exact ya8|refine jJ rfl (by first|rfl|assumption|(simp only [znl,jO,nls_mapB,nls_cls,nl_pd,nl_fn];(first|done|fail)))|refine yb2 ?_|rfl)|(simp only [znl,jO,nls_mapB,nls_cls,nl_pd,nl_fn];(first|done|fail))|(simp only [↓reduceIte,zlk,Nat.reduceEqDiff,reduceCtorEq])|(with_reducible first|refine jJ ?_ ?_|refine ya5 ?_|refine ju ?_|refine jv ?_|refine jw ?_|refine jx ?_ (by first|rfl|assumption|(simp only [znl,jO,nls_mapB,nls_cls,nl_pd,nl_fn];(first|done|fail)))|refine jC ?_ (by first|rfl|assumption|(simp only [znl,jO,nls_mapB,nls_cls,nl_pd,nl_fn];(first|done|fail)))))))
    all_goals (first | rfl | trace_state)
  have hhl := hmP_len l k
  have hnc := nls_cls (hmP l k)
  by_cases hlt : k < l.length
  · obtain ⟨b1, b2⟩ := hb _ (getD_mem' hlt)
    repeat' (first|(with_reducible first|refine yrl (by constructor) ?_|refine jk (fun M hM=>?_)|(refine hM _ ?_;clear hM M)|refine xb3 (by decide) ?_|refine yqa (by assumption) ?_ ?_|refine yqb (by assumption) ?_ ?_)|((with_reducible refine je ?_)<;>(first|rfl|assumption|(simp only [znl,jO,nls_mapB,nls_cls,nl_pd,nl_fn];(first|done|fail))))|(with_reducible refine jf (by (simp only [↓reduceIte,zlk,Nat.reduceEqDiff,reduceCtorEq]);exact rfl) ?_)|((with_reducible first|refine jg (fun hc=>?_) (fun hc=>?_)|refine jh (fun hc=>?_) (fun hc=>?_))<;>(try simp (disch:=omega) only [zhb] at hc)<;>(try (exfalso;omega))<;>(try subst hc))|(with_reducible refine ji (by omega) ?_)|(simp (config := { maxSteps := 400000 }) only [↓jt,↓reduceIte,zvs,reduceCtorEq,Nat.reduceEqDiff,Nat.reduceAdd,Nat.reduceLeDiff,Nat.reduceMul,Int.reduceBNe,Int.reduceBEq,Int.reduceEq,Int.reduceNe,Int.reduceLT,Int.reduceLE,Int.reduceGT,Int.reduceGE,Int.reduceNeg,Int.reduceToNat,Nat.reduceLT,Nat.reduceSub,tab,hhl,encWr,Tryd.results34,List.toList_toArray])|(simp (disch:=omega) only [ziw]))
    all_goals (try (exfalso; omega))
    refine ja (ok_body Tryd.func30 rfl rfl (by kernel_rfl) (k := 2) (by rfl) (by decide) ?_)
    repeat' (first|(with_reducible first|refine yrl (by constructor) ?_|refine jk (fun M hM=>?_)|(refine hM _ ?_;clear hM M)|refine xb3 (by decide) ?_|refine yqa (by assumption) ?_ ?_|refine yqb (by assumption) ?_ ?_)|((with_reducible refine je ?_)<;>(first|rfl|assumption|(simp only [znl,jO,nls_mapB,nls_cls,nl_pd,nl_fn];(first|done|fail))))|(with_reducible refine jf (by (simp only [↓reduceIte,zlk,Nat.reduceEqDiff,reduceCtorEq]);exact rfl) ?_)|((with_reducible first|refine jg (fun hc=>?_) (fun hc=>?_)|refine jh (fun hc=>?_) (fun hc=>?_))<;>(try simp (disch:=omega) only [zhb] at hc)<;>(try (exfalso;omega))<;>(try subst hc))|(with_reducible refine ji (by omega) ?_)|(simp (config := { maxSteps := 400000 }) only [↓jt,↓reduceIte,zvs,reduceCtorEq,Nat.reduceEqDiff,Nat.reduceAdd,Nat.reduceLeDiff,Nat.reduceMul,Int.reduceBNe,Int.reduceBEq,Int.reduceEq,Int.reduceNe,Int.reduceLT,Int.reduceLE,Int.reduceGT,Int.reduceGE,Int.reduceNeg,Int.reduceToNat,Nat.reduceLT,Nat.reduceSub,tab,hhl,Tryd.results30,Tryd.results34,List.toList_toArray])|(simp (disch:=omega) only [ziw]))
    have hs := hmP_succ l k
    refine xl1 (k + 1) ?_ (by show k + 1 ≤ l.length; omega) (by show l.length - (k + 1) < l.length - k; omega)
    refine yrn [(0, 5)] true ?_ ?_
    · (repeat' (first|(with_reducible first|exact ya1|exact ya2|exact ya3|refine jx rfl (by first|rfl|assumption|(simp only [znl,jO,nls_mapB,nls_cls,nl_pd,nl_fn];(first|done|fail)))|exact ya5|exact ya7|exact jy|exact jz|refine jA ?_|refine ya9 ?_ ?_ ?_|refine jC rfl (by first|rfl|assumption|(simp only [znl,jO,nls_mapB,nls_cls,nl_pd,nl_fn];(first|done|fail)))|refine MR.agg (MRL.cons ?_ ?_)|refine MR.fn ?_|refine MRL.cons ?_ ?_|exact MRL.nil|refine jE ?_ ?_|exact jF|exact jG|refine yb1 ?_ ?_|refine MB.row ?_|refine jI ?_ ?_|exact ya8|refine jJ rfl (by first|rfl|assumption|(simp only [znl,jO,nls_mapB,nls_cls,nl_pd,nl_fn];(first|done|fail)))|refine yb2 ?_|rfl)|(simp only [znl,jO,nls_mapB,nls_cls,nl_pd,nl_fn];(first|done|fail))|(simp only [↓reduceIte,zlk,Nat.reduceEqDiff,reduceCtorEq])|(with_reducible first|refine jJ ?_ ?_|refine ya5 ?_|refine ju ?_|refine jv ?_|refine jw ?_|refine jx ?_ (by first|rfl|assumption|(simp only [znl,jO,nls_mapB,nls_cls,nl_pd,nl_fn];(first|done|fail)))|refine jC ?_ (by first|rfl|assumption|(simp only [znl,jO,nls_mapB,nls_cls,nl_pd,nl_fn];(first|done|fail))))))
      all_goals (first | rfl | trace_state)
    · refine yb1 (jI ?_ ?_) jG
      · rfl
      · rw [hs]
        exact mr_put hnc (by simp only [↓reduceIte,zlk,Nat.reduceEqDiff,reduceCtorEq]) (by simp only [↓reduceIte,zlk,Nat.reduceEqDiff,reduceCtorEq]) rfl rfl (by decide) (by decide)
  obtain rfl : k = l.length := by omega
  have hh : (homeC l).map encCl = (hmP l l.length).map encCl ++ [.fn 32 []] := by simp only [homeC,List.map_append,List.map_cons,List.map_nil,encCl]
  rw [hh]
  repeat' (first|(with_reducible first|refine yrl (by constructor) ?_|refine jk (fun M hM=>?_)|(refine hM _ ?_;clear hM M)|refine xb3 (by decide) ?_|refine yqa (by assumption) ?_ ?_|refine yqb (by assumption) ?_ ?_)|((with_reducible refine je ?_)<;>(first|rfl|assumption|(simp only [znl,jO,nls_mapB,nls_cls,nl_pd,nl_fn];(first|done|fail))))|(with_reducible refine jf (by (simp only [↓reduceIte,zlk,Nat.reduceEqDiff,reduceCtorEq]);exact rfl) ?_)|((with_reducible first|refine jg (fun hc=>?_) (fun hc=>?_)|refine jh (fun hc=>?_) (fun hc=>?_))<;>(try simp (disch:=omega) only [zhb] at hc)<;>(try (exfalso;omega))<;>(try subst hc))|(with_reducible refine ji (by omega) ?_)|(simp (config := { maxSteps := 400000 }) only [↓jt,↓reduceIte,zvs,reduceCtorEq,Nat.reduceEqDiff,Nat.reduceAdd,Nat.reduceLeDiff,Nat.reduceMul,Int.reduceBNe,Int.reduceBEq,Int.reduceEq,Int.reduceNe,Int.reduceLT,Int.reduceLE,Int.reduceGT,Int.reduceGE,Int.reduceNeg,Int.reduceToNat,Nat.reduceLT,Nat.reduceSub,tab,hhl,Tryd.results34,List.toList_toArray])|(simp (disch:=omega) only [ziw]))
  all_goals first
    | (exfalso; omega)
    | (refine rdt_of ?_ rfl; (refine rd_own (by (simp only [↓reduceIte,zlk,Nat.reduceEqDiff,reduceCtorEq]); exact rfl) ?_ ?_ ?_) <;> (first | rfl | assumption | (simp only [znl,jO,nls_mapB,nls_cls,nl_pd,nl_fn];(first|done|fail)) | (simp; done) | (simp; omega) | skip); all_goals (first | (rw [List.length_append, List.length_map, hhl]; rfl) | trace_state); done)
    | trace_state
end Go.Proofs.YtcilmfhncjfdbaaDoor.V
end
section
/-
  WAL: a commit, by the document.
-/
set_option linter.unusedVariables false
set_option linter.unusedSimpArgs false
namespace Go.Proofs.YtcilmfhncjfdbaaDoor.V
open Go
set_option maxRecDepth 100000
set_option linter.defProp false in
def znHF := And.intro @jO <| And.intro @nls_mapB <| And.intro @nls_cls <| And.intro @nl_pd <| And.intro @nl_fn <| True.intro
set_option maxHeartbeats 4000000
def callsC (l : List Wr) : List Cl := ptP l l.length ++ ([.put 0 (headF l), .flush] ++ homeC l)
def commitD (d : Dr) (l : List Wr) : Dr × Int :=
  if badD d ≠ 0 then (d, badD d) else if mayD ((d.bl.length - 33 : Nat) : Int) l ≠ 0 then (d, mayD ((d.bl.length - 33 : Nat) : Int) l) else if l = [] then (d, 0) else runC d (callsC l)
theorem runC_ok : ∀ (cs : List Cl) {N : Nat} {d : Dr}, DOk N d → (∀ c ∈ cs, ClR c) → DOk (N + cs.length) (runC d cs).1
  | [], N, d, h, _ => h
  | c :: cs, N, d, h, hc => by
    have h1 := stepC_ok h c (hc c (by simp))
    rw [runC]
    split
    · exact h1.mono (by simp only [List.length_cons]; omega)
    · exact (runC_ok cs h1 fun x hx => hc x (by simp [hx])).mono (by simp only [List.length_cons]; omega)
structure WOk (l : List Wr) : Prop where
  len : l.length ≤ 1000
  b : ∀ w ∈ l, -2 ^ 61 ≤ w.b ∧ w.b < 2 ^ 61
  d : ∀ w ∈ l, w.d.length ≤ 1000
theorem hmP_R {l : List Wr} (h : WOk l) {k : Nat} (hk : k ≤ l.length) : ∀ c ∈ hmP l k, ClR c := by
  intro c hc
  obtain ⟨i, hi, rfl⟩ := List.mem_map.1 hc
  have hi := List.mem_range.1 hi
  have h1 := h.b _ (getD_mem' (by omega : i < l.length))
  have h2 := h.d _ (getD_mem' (by omega : i < l.length))
  exact ⟨by omega, by omega, h2⟩
theorem ptP_R {l : List Wr} (h : WOk l) {k : Nat} (hk : k ≤ l.length) : ∀ c ∈ ptP l k, ClR c := by
  intro c hc
  obtain ⟨i, hi, rfl⟩ := List.mem_map.1 hc
  have hi := List.mem_range.1 hi
  have h2 := h.d _ (getD_mem' (by omega : i < l.length))
  have := h.len
  exact ⟨by omega, by omega, h2⟩
theorem homeC_R {l : List Wr} (h : WOk l) : ∀ c ∈ homeC l, ClR c := by
  intro c hc
  rcases List.mem_append.1 hc with hc | hc
  · exact hmP_R h (Nat.le_refl _) c hc
  · simp only [List.mem_cons,List.not_mem_nil,or_false] at hc; rw [hc]; trivial
theorem homeC_len (l : List Wr) : (homeC l).length = l.length + 1 := by simp [homeC, hmP_len]
def wrC (l : List Wr) (own : Bool) (k : Nat) : List Cl := if own = true then hmP l k else ptP l k
theorem wrC_succ (l : List Wr) (own : Bool) (k : Nat) : wrC l own (k + 1) = wrC l own k ++ [.put (if own = true then 33 + (l.getD k default).b else 1 + (k : Int)) (l.getD k default).d] := by
  cases own <;> simp [wrC, hmP, ptP, List.range_succ]
theorem wrC_R {l : List Wr} (h : WOk l) (own : Bool) {k : Nat} (hk : k ≤ l.length) : ∀ c ∈ wrC l own k, ClR c := by
  cases own
  · exact ptP_R h hk
  · exact hmP_R h hk
theorem wrC_len (l : List Wr) (own : Bool) (k : Nat) : (wrC l own k).length = k := by cases own <;> simp [wrC, hmP_len, ptP_len]
theorem runC_one (d : Dr) (c : Cl) : runC d [c] = stepC d c := by
  rw [runC, runC]
  split
  · rfl
  · rename_i h
    have : (stepC d c).2 = 0 := Decidable.byContradiction h
    rw [← this]
theorem wrC_split (l : List Wr) (own : Bool) {k n : Nat} (h : k ≤ n) : ∃ r, wrC l own n = wrC l own k ++ r := by
  obtain ⟨j, rfl⟩ : ∃ j, n = k + j := ⟨n - k, by omega⟩
  clear h
  induction j with
  | zero => exact ⟨[], by simp⟩
  | succ j ih =>
    obtain ⟨r, hr⟩ := ih
    exact ⟨r ++ [_], by rw [show k + (j + 1) = (k + j) + 1 by omega, wrC_succ, hr, List.append_assoc]⟩
theorem rputs_stop {d y : Dr} {l : List Wr} {own : Bool} {k : Nat} {e : Int} (hlt : k < l.length) (h : runC d (wrC l own (k + 1)) = (y, e)) (he : ¬e = 0) : runC d (wrC l own l.length) = (y, e) := by
  obtain ⟨r, hr⟩ := wrC_split l own (show k + 1 ≤ l.length by omega)
  rw [hr, runC_append, h, if_pos (by exact he)]
theorem rputs_spec (d : Dr) {N : Nat} (hd : DOk N d) (l : List Wr) (hl : WOk l) (own : Bool) (hN : N + l.length < 2 ^ 36) : Spec Tryd.prog 37 [encDr d, encWrs l, .bool own] (drV (runC d (wrC l own l.length))) := by
  obtain ⟨h1, h2, h3⟩ := id hl
  obtain ⟨R, hR⟩ : ∃ R, R = runC d (wrC l own l.length) := ⟨_, rfl⟩
  rw [← hR]
  refine spec_ok Tryd.func37 rfl rfl (by kernel_rfl) (k := 3) rfl (by decide) ?_
  repeat' (first|(with_reducible first|refine yrl (by constructor) ?_|refine jk (fun M hM=>?_)|(refine hM _ ?_;clear hM M)|refine xb3 (by decide) ?_|refine yqa (by assumption) ?_ ?_|refine yqb (by assumption) ?_ ?_)|((with_reducible refine je ?_)<;>(first|rfl|assumption|(simp only [znl,znHF];(first|done|fail))))|(with_reducible refine jf (by (simp only [↓reduceIte,zlk,Nat.reduceEqDiff,reduceCtorEq]);exact rfl) ?_)|((with_reducible first|refine jg (fun hc=>?_) (fun hc=>?_)|refine jh (fun hc=>?_) (fun hc=>?_))<;>(try simp (disch:=omega) only [zhb] at hc)<;>(try (exfalso;omega))<;>(try subst hc))|(with_reducible refine ji (by omega) ?_)|(simp (config := { maxSteps := 400000 }) only [↓jt,↓reduceIte,zvs,reduceCtorEq,Nat.reduceEqDiff,Nat.reduceAdd,Nat.reduceLeDiff,Nat.reduceMul,Int.reduceBNe,Int.reduceBEq,Int.reduceEq,Int.reduceNe,Int.reduceLT,Int.reduceLE,Int.reduceGT,Int.reduceGE,Int.reduceNeg,Int.reduceToNat,Nat.reduceLT,Nat.reduceSub,tab,Tryd.results37,List.toList_toArray])|(simp (disch:=omega) only [ziw]))
  refine ok_loop (fun x : Dr × Nat => ⟨slots [(1, encWrs l), (2, .bool own), (3, .ptr 0 []), (6, .ptr 1 []), (7, .int .i64 0), (13, .int .i64 l.length), (14, .int .i64 x.2)], rows [(0, .row (.st [.cell, .cell, .cell]) (encDr x.1)), (1, .row (.st [.cell, .cell, .cell]) (.agg [.sl none 0, .sl none 0, .int .i64 0]))], 2⟩)
    (fun x => x.2 ≤ l.length ∧ (runC d (wrC l own x.2)) = (x.1, 0)) (fun x => l.length - x.2) (d, 0) ?_ ⟨Nat.zero_le _, by cases own <;> rfl⟩ (fun x hx => ?_)
  · (refine yrn [(0, 0), (1, 1)] false ?_ ?_<;>(repeat' (first|(with_reducible first|exact ya1|exact ya2|exact ya3|refine jx rfl (by first|rfl|assumption|(simp only [znl,znHF];(first|done|fail)))|exact ya5|exact ya7|exact jy|exact jz|refine jA ?_|refine ya9 ?_ ?_ ?_|refine jC rfl (by first|rfl|assumption|(simp only [znl,znHF];(first|done|fail)))|refine MR.agg (MRL.cons ?_ ?_)|refine MR.fn ?_|refine MRL.cons ?_ ?_|exact MRL.nil|refine jE ?_ ?_|exact jF|exact jG|refine yb1 ?_ ?_|refine MB.row ?_|refine jI ?_ ?_|exact ya8|refine jJ rfl (by first|rfl|assumption|(simp only [znl,znHF];(first|done|fail)))|refine yb2 ?_|rfl)|(simp only [znl,znHF];(first|done|fail))|(simp only [↓reduceIte,zlk,Nat.reduceEqDiff,reduceCtorEq])|(with_reducible first|refine jJ ?_ ?_|refine ya5 ?_|refine ju ?_|refine jv ?_|refine jw ?_|refine jx ?_ (by first|rfl|assumption|(simp only [znl,znHF];(first|done|fail)))|refine jC ?_ (by first|rfl|assumption|(simp only [znl,znHF];(first|done|fail)))))))
    all_goals (first | rfl | trace_state)
  obtain ⟨u, k⟩ := x
  obtain ⟨hk, hr⟩ := hx
  have hk : k ≤ l.length := hk
  have hr : runC d (wrC l own k) = (u, 0) := hr
  have hu : DOk (N + k) u := by
    have := runC_ok (wrC l own k) hd (wrC_R hl own hk)
    rw [hr, wrC_len] at this
    exact this
  by_cases hlt : k < l.length
  · obtain ⟨b1, b2⟩ := h2 _ (getD_mem' hlt)
    have hdd := h3 _ (getD_mem' hlt)
    have hnext := runC_append (wrC l own k) [.put (if own = true then 33 + (l.getD k default).b else 1 + (k : Int)) (l.getD k default).d] d
    rw [← wrC_succ, hr, if_neg (fun h => h rfl), runC_one] at hnext
    have hfull : l.length = (k + 1) + (l.length - (k + 1)) := by omega
    cases own with
    | true =>
      simp only [if_true] at hnext
      have hP : Spec Tryd.prog 38 [encDr u, .int .i64 (33 + (l.getD k default).b), .str (l.getD k default).d] (drV (stepC u (.put (33 + (l.getD k default).b) (l.getD k default).d))) := by
        have := rput_spec u (hu.fit (by omega)) ⟨hu.l1, hu.l2⟩ (33 + (l.getD k default).b) (by omega) (l.getD k default).d (by omega)
        exact this
      obtain ⟨x, hx⟩ : ∃ x, x = stepC u (.put (33 + (l.getD k default).b) (l.getD k default).d) := ⟨_, rfl⟩
      rw [← hx] at hP hnext
      obtain ⟨y, e⟩ := x
      simp only [drV] at hP
      repeat' (first|(with_reducible first|refine yrl (by constructor) ?_|refine jk (fun M hM=>?_)|(refine hM _ ?_;clear hM M)|refine xb3 (by decide) ?_|refine yqa (by assumption) ?_ ?_|refine yqb (by assumption) ?_ ?_)|((with_reducible refine je ?_)<;>(first|rfl|assumption|(simp only [znl,znHF];(first|done|fail))))|(with_reducible refine jf (by (simp only [↓reduceIte,zlk,Nat.reduceEqDiff,reduceCtorEq]);exact rfl) ?_)|((with_reducible first|refine jg (fun hc=>?_) (fun hc=>?_)|refine jh (fun hc=>?_) (fun hc=>?_))<;>(try simp (disch:=omega) only [zhb] at hc)<;>(try (exfalso;omega))<;>(try subst hc))|(with_reducible refine ji (by omega) ?_)|(simp (config := { maxSteps := 400000 }) only [↓jt,↓reduceIte,zvs,reduceCtorEq,Nat.reduceEqDiff,Nat.reduceAdd,Nat.reduceLeDiff,Nat.reduceMul,Int.reduceBNe,Int.reduceBEq,Int.reduceEq,Int.reduceNe,Int.reduceLT,Int.reduceLE,Int.reduceGT,Int.reduceGE,Int.reduceNeg,Int.reduceToNat,Nat.reduceLT,Nat.reduceSub,tab,encWr,Tryd.results37,List.toList_toArray])|(simp (disch:=omega) only [ziw]))
      refine ok_drawF 13 [0, 1, 2, 3, 4, 5, 6, 7, 8, 9, 10, 11] 12 11 706 (by kernel_rfl) (by decide +kernel) (by decide) (by decide) (by intro m hm; simp only [upd_ap,rows_cons,rows_nil]; (repeat (first | rfl | rw [if_neg (by omega)]))) (fun M hM => ?_); simp only [picks,List.getElem?_cons_succ,List.getElem?_cons_zero,List.drop_succ_cons,List.drop_zero]
      repeat' (first|(with_reducible first|refine yrl (by constructor) ?_|refine jk (fun M hM=>?_)|(refine hM _ ?_;clear hM M)|refine xb3 (by decide) ?_|refine yqa (by assumption) ?_ ?_|refine yqb (by assumption) ?_ ?_)|((with_reducible refine je ?_)<;>(first|rfl|assumption|(simp only [znl,znHF];(first|done|fail))))|(with_reducible refine jf (by (simp only [↓reduceIte,zlk,Nat.reduceEqDiff,reduceCtorEq]);exact rfl) ?_)|((with_reducible first|refine jg (fun hc=>?_) (fun hc=>?_)|refine jh (fun hc=>?_) (fun hc=>?_))<;>(try simp (disch:=omega) only [zhb] at hc)<;>(try (exfalso;omega))<;>(try subst hc))|(with_reducible refine ji (by omega) ?_)|(simp (config := { maxSteps := 400000 }) only [↓jt,↓reduceIte,zvs,reduceCtorEq,Nat.reduceEqDiff,Nat.reduceAdd,Nat.reduceLeDiff,Nat.reduceMul,Int.reduceBNe,Int.reduceBEq,Int.reduceEq,Int.reduceNe,Int.reduceLT,Int.reduceLE,Int.reduceGT,Int.reduceGE,Int.reduceNeg,Int.reduceToNat,Nat.reduceLT,Nat.reduceSub,tab,storeAt_go,isP_ptr,encWr,Tryd.results37,List.toList_toArray])|(simp (disch:=omega) only [ziw]))
      all_goals first
        | (exfalso; omega)
        | (refine xl1 (y, k + 1) ?_ ⟨by show k + 1 ≤ l.length; omega, by first | exact hnext | (rw [hnext]; congr 1; omega)⟩ (by show l.length - (k + 1) < l.length - k; omega); (refine yrn [(0, 0), (1, 1)] false ?_ ?_<;>(repeat' (first|(with_reducible first|exact ya1|exact ya2|exact ya3|refine jx rfl (by first|rfl|assumption|(simp only [znl,znHF];(first|done|fail)))|exact ya5|exact ya7|exact jy|exact jz|refine jA ?_|refine ya9 ?_ ?_ ?_|refine jC rfl (by first|rfl|assumption|(simp only [znl,znHF];(first|done|fail)))|refine MR.agg (MRL.cons ?_ ?_)|refine MR.fn ?_|refine MRL.cons ?_ ?_|exact MRL.nil|refine jE ?_ ?_|exact jF|exact jG|refine yb1 ?_ ?_|refine MB.row ?_|refine jI ?_ ?_|exact ya8|refine jJ rfl (by first|rfl|assumption|(simp only [znl,znHF];(first|done|fail)))|refine yb2 ?_|rfl)|(simp only [znl,znHF];(first|done|fail))|(simp only [↓reduceIte,zlk,Nat.reduceEqDiff,reduceCtorEq])|(with_reducible first|refine jJ ?_ ?_|refine ya5 ?_|refine ju ?_|refine jv ?_|refine jw ?_|refine jx ?_ (by first|rfl|assumption|(simp only [znl,znHF];(first|done|fail)))|refine jC ?_ (by first|rfl|assumption|(simp only [znl,znHF];(first|done|fail))))))); all_goals (first | rfl | trace_state); done)
        | (rw [hR, rputs_stop hlt hnext (by assumption)]; ((try simp only [drV,encDr,encWrs,List.map_nil]); simp only [zrds]; (repeat' (first | exact rd_nil | exact Rd.refl _ _ (by first|rfl|assumption|(simp only [znl,znHF];(first|done|fail))) | (refine And.intro ?_ ?_) | (refine rd_own (by (simp only [↓reduceIte,zlk,Nat.reduceEqDiff,reduceCtorEq]); exact rfl) ?_ ?_ ?_) | rfl | assumption | (simp only [znl,znHF];(first|done|fail)) | (simp; done) | (simp; omega)))); done)
        | trace_state
    | false =>
      simp only [Bool.false_eq_true,if_false] at hnext
      have hP : Spec Tryd.prog 38 [encDr u, .int .i64 ((k : Int) + 1), .str (l.getD k default).d] (drV (stepC u (.put (1 + (k : Int)) (l.getD k default).d))) := by
        have := rput_spec u (hu.fit (by omega)) ⟨hu.l1, hu.l2⟩ (1 + (k : Int)) (by omega) (l.getD k default).d (by omega)
        rw [show 1 + (k : Int) = (k : Int) + 1 from by omega] at this ⊢; exact this
      obtain ⟨x, hx⟩ : ∃ x, x = stepC u (.put (1 + (k : Int)) (l.getD k default).d) := ⟨_, rfl⟩
      rw [← hx] at hP hnext
      obtain ⟨y, e⟩ := x
      simp only [drV] at hP
      repeat' (first|(with_reducible first|refine yrl (by constructor) ?_|refine jk (fun M hM=>?_)|(refine hM _ ?_;clear hM M)|refine xb3 (by decide) ?_|refine yqa (by assumption) ?_ ?_|refine yqb (by assumption) ?_ ?_)|((with_reducible refine je ?_)<;>(first|rfl|assumption|(simp only [znl,znHF];(first|done|fail))))|(with_reducible refine jf (by (simp only [↓reduceIte,zlk,Nat.reduceEqDiff,reduceCtorEq]);exact rfl) ?_)|((with_reducible first|refine jg (fun hc=>?_) (fun hc=>?_)|refine jh (fun hc=>?_) (fun hc=>?_))<;>(try simp (disch:=omega) only [zhb] at hc)<;>(try (exfalso;omega))<;>(try subst hc))|(with_reducible refine ji (by omega) ?_)|(simp (config := { maxSteps := 400000 }) only [↓jt,↓reduceIte,zvs,reduceCtorEq,Nat.reduceEqDiff,Nat.reduceAdd,Nat.reduceLeDiff,Nat.reduceMul,Int.reduceBNe,Int.reduceBEq,Int.reduceEq,Int.reduceNe,Int.reduceLT,Int.reduceLE,Int.reduceGT,Int.reduceGE,Int.reduceNeg,Int.reduceToNat,Nat.reduceLT,Nat.reduceSub,tab,encWr,Tryd.results37,List.toList_toArray])|(simp (disch:=omega) only [ziw]))
      refine ok_drawF 13 [0, 1, 2, 3, 4, 5, 6, 7, 8, 9, 10, 11] 12 11 706 (by kernel_rfl) (by decide +kernel) (by decide) (by decide) (by intro m hm; simp only [upd_ap,rows_cons,rows_nil]; (repeat (first | rfl | rw [if_neg (by omega)]))) (fun M hM => ?_); simp only [picks,List.getElem?_cons_succ,List.getElem?_cons_zero,List.drop_succ_cons,List.drop_zero]
      repeat' (first|(with_reducible first|refine yrl (by constructor) ?_|refine jk (fun M hM=>?_)|(refine hM _ ?_;clear hM M)|refine xb3 (by decide) ?_|refine yqa (by assumption) ?_ ?_|refine yqb (by assumption) ?_ ?_)|((with_reducible refine je ?_)<;>(first|rfl|assumption|(simp only [znl,znHF];(first|done|fail))))|(with_reducible refine jf (by (simp only [↓reduceIte,zlk,Nat.reduceEqDiff,reduceCtorEq]);exact rfl) ?_)|((with_reducible first|refine jg (fun hc=>?_) (fun hc=>?_)|refine jh (fun hc=>?_) (fun hc=>?_))<;>(try simp (disch:=omega) only [zhb] at hc)<;>(try (exfalso;omega))<;>(try subst hc))|(with_reducible refine ji (by omega) ?_)|(simp (config := { maxSteps := 400000 }) only [↓jt,↓reduceIte,zvs,reduceCtorEq,Nat.reduceEqDiff,Nat.reduceAdd,Nat.reduceLeDiff,Nat.reduceMul,Int.reduceBNe,Int.reduceBEq,Int.reduceEq,Int.reduceNe,Int.reduceLT,Int.reduceLE,Int.reduceGT,Int.reduceGE,Int.reduceNeg,Int.reduceToNat,Nat.reduceLT,Nat.reduceSub,tab,storeAt_go,isP_ptr,encWr,Tryd.results37,List.toList_toArray])|(simp (disch:=omega) only [ziw]))
      all_goals first
        | (exfalso; omega)
        | (refine xl1 (y, k + 1) ?_ ⟨by show k + 1 ≤ l.length; omega, by first | exact hnext | (rw [hnext]; congr 1; omega)⟩ (by show l.length - (k + 1) < l.length - k; omega); (refine yrn [(0, 0), (1, 1)] false ?_ ?_<;>(repeat' (first|(with_reducible first|exact ya1|exact ya2|exact ya3|refine jx rfl (by first|rfl|assumption|(simp only [znl,znHF];(first|done|fail)))|exact ya5|exact ya7|exact jy|exact jz|refine jA ?_|refine ya9 ?_ ?_ ?_|refine jC rfl (by first|rfl|assumption|(simp only [znl,znHF];(first|done|fail)))|refine MR.agg (MRL.cons ?_ ?_)|refine MR.fn ?_|refine MRL.cons ?_ ?_|exact MRL.nil|refine jE ?_ ?_|exact jF|exact jG|refine yb1 ?_ ?_|refine MB.row ?_|refine jI ?_ ?_|exact ya8|refine jJ rfl (by first|rfl|assumption|(simp only [znl,znHF];(first|done|fail)))|refine yb2 ?_|rfl)|(simp only [znl,znHF];(first|done|fail))|(simp only [↓reduceIte,zlk,Nat.reduceEqDiff,reduceCtorEq])|(with_reducible first|refine jJ ?_ ?_|refine ya5 ?_|refine ju ?_|refine jv ?_|refine jw ?_|refine jx ?_ (by first|rfl|assumption|(simp only [znl,znHF];(first|done|fail)))|refine jC ?_ (by first|rfl|assumption|(simp only [znl,znHF];(first|done|fail))))))); all_goals (first | rfl | trace_state); done)
        | (rw [hR, rputs_stop hlt hnext (by assumption)]; ((try simp only [drV,encDr,encWrs,List.map_nil]); simp only [zrds]; (repeat' (first | exact rd_nil | exact Rd.refl _ _ (by first|rfl|assumption|(simp only [znl,znHF];(first|done|fail))) | (refine And.intro ?_ ?_) | (refine rd_own (by (simp only [↓reduceIte,zlk,Nat.reduceEqDiff,reduceCtorEq]); exact rfl) ?_ ?_ ?_) | rfl | assumption | (simp only [znl,znHF];(first|done|fail)) | (simp; done) | (simp; omega)))); done)
        | trace_state
  obtain rfl : k = l.length := by omega
  rw [hr] at hR
  repeat' (first|(with_reducible first|refine yrl (by constructor) ?_|refine jk (fun M hM=>?_)|(refine hM _ ?_;clear hM M)|refine xb3 (by decide) ?_|refine yqa (by assumption) ?_ ?_|refine yqb (by assumption) ?_ ?_)|((with_reducible refine je ?_)<;>(first|rfl|assumption|(simp only [znl,znHF];(first|done|fail))))|(with_reducible refine jf (by (simp only [↓reduceIte,zlk,Nat.reduceEqDiff,reduceCtorEq]);exact rfl) ?_)|((with_reducible first|refine jg (fun hc=>?_) (fun hc=>?_)|refine jh (fun hc=>?_) (fun hc=>?_))<;>(try simp (disch:=omega) only [zhb] at hc)<;>(try (exfalso;omega))<;>(try subst hc))|(with_reducible refine ji (by omega) ?_)|(simp (config := { maxSteps := 400000 }) only [↓jt,↓reduceIte,zvs,reduceCtorEq,Nat.reduceEqDiff,Nat.reduceAdd,Nat.reduceLeDiff,Nat.reduceMul,Int.reduceBNe,Int.reduceBEq,Int.reduceEq,Int.reduceNe,Int.reduceLT,Int.reduceLE,Int.reduceGT,Int.reduceGE,Int.reduceNeg,Int.reduceToNat,Nat.reduceLT,Nat.reduceSub,tab,Tryd.results37,List.toList_toArray])|(simp (disch:=omega) only [ziw]))
  all_goals first
    | (exfalso; omega)
    | (rw [hR]; ((try simp only [drV,encDr,encWrs,List.map_nil]); simp only [zrds]; (repeat' (first | exact rd_nil | exact Rd.refl _ _ (by first|rfl|assumption|(simp only [znl,znHF];(first|done|fail))) | (refine And.intro ?_ ?_) | (refine rd_own (by (simp only [↓reduceIte,zlk,Nat.reduceEqDiff,reduceCtorEq]); exact rfl) ?_ ?_ ?_) | rfl | assumption | (simp only [znl,znHF];(first|done|fail)) | (simp; done) | (simp; omega)))); done)
    | trace_state
end Go.Proofs.YtcilmfhncjfdbaaDoor.V
end
section
/-
  A MACHINE OF VALUES: a drawn region with one store into a block that was there; what the store does not wait for only moves values.
-/
set_option linter.unusedVariables false
set_option linter.unusedSectionVars false
set_option linter.unusedSimpArgs false
namespace Go.Proofs.YtcilmfhncjfdbaaDoor.V
open Go Go.RowKit
section
variable {P : Program} {ops : Array Oper} {k js : Nat} {perm : List Nat} {K : VS → Prop}
end
section
variable {P : Program} {n0 : Nat} {K : VX → VS → Prop}
end
end Go.Proofs.YtcilmfhncjfdbaaDoor.V
end
section
/-
  WAL: a commit, by the document.
-/
set_option linter.unusedVariables false
set_option linter.unusedSimpArgs false
namespace Go.Proofs.YtcilmfhncjfdbaaDoor.V
open Go
set_option maxRecDepth 100000
set_option linter.defProp false in
def znHG := And.intro @jO <| And.intro @nls_mapB <| And.intro @nls_cls <| And.intro @nl_pd <| And.intro @nl_fn <| True.intro
set_option maxHeartbeats 4000000
theorem rhome_spec (d : Dr) {N : Nat} (hd : DOk N d) (l : List Wr) (hl : WOk l) (hN : N + l.length < 2 ^ 35) : Spec Tryd.prog 40 [encDr d, encWrs l] (drV (runC d (homeC l))) := by
  have hlen := hl.len
  have hP : Spec Tryd.prog 37 [encDr d, encWrs l, .bool true] (drV (runC d (hmP l l.length))) := rputs_spec d hd l hl true (by omega)
  have hA := runC_append (hmP l l.length) [.flush] d
  have hu := runC_ok (hmP l l.length) hd (hmP_R hl (Nat.le_refl _))
  rw [hmP_len] at hu
  have hF := rflush_spec (runC d (hmP l l.length)).1 (hu.fit (by omega)) ⟨hu.l1, hu.l2⟩
  rw [runC_one] at hA
  have hA : runC d (homeC l) = _ := hA
  rw [hA]
  obtain ⟨x, hx⟩ : ∃ x, x = runC d (hmP l l.length) := ⟨_, rfl⟩
  rw [← hx] at hP hF ⊢
  obtain ⟨y, e⟩ := x
  have e3 : stepC y .flush = flushD y := rfl
  dsimp only at hF ⊢
  rw [e3]
  obtain ⟨z, hz⟩ : ∃ z, z = flushD y := ⟨_, rfl⟩
  rw [← hz] at hF ⊢
  obtain ⟨z1, z2⟩ := z
  simp only [drV] at hP hF
  by_cases he : e = 0
  · subst he
    rw [if_neg (fun h => h rfl)]
    simp only [drV]
    refine spec_ok Tryd.func40 rfl rfl (by kernel_rfl) (k := 2) rfl (by decide) ?_
    repeat' (first|(with_reducible first|refine yrl (by constructor) ?_|refine jk (fun M hM=>?_)|(refine hM _ ?_;clear hM M)|refine xb3 (by decide) ?_|refine yqa (by assumption) ?_ ?_|refine yqb (by assumption) ?_ ?_)|((with_reducible refine je ?_)<;>(first|rfl|assumption|(simp only [znl,znHG];(first|done|fail))))|(with_reducible refine jf (by (simp only [↓reduceIte,zlk,Nat.reduceEqDiff,reduceCtorEq]);exact rfl) ?_)|((with_reducible first|refine jg (fun hc=>?_) (fun hc=>?_)|refine jh (fun hc=>?_) (fun hc=>?_))<;>(try simp (disch:=omega) only [zhb] at hc)<;>(try (exfalso;omega))<;>(try subst hc))|(with_reducible refine ji (by omega) ?_)|(simp (config := { maxSteps := 400000 }) only [↓jt,↓reduceIte,zvs,reduceCtorEq,Nat.reduceEqDiff,Nat.reduceAdd,Nat.reduceLeDiff,Nat.reduceMul,Int.reduceBNe,Int.reduceBEq,Int.reduceEq,Int.reduceNe,Int.reduceLT,Int.reduceLE,Int.reduceGT,Int.reduceGE,Int.reduceNeg,Int.reduceToNat,Nat.reduceLT,Nat.reduceSub,tab,Tryd.results40,List.toList_toArray])|(simp (disch:=omega) only [ziw]))
    all_goals first
      | (exfalso; omega)
      | (((try simp only [encDr,encWrs,List.map_nil]); simp only [zrds]; (repeat' (first | exact rd_nil | exact Rd.refl _ _ (by first|rfl|assumption|(simp only [znl,znHG];(first|done|fail))) | (refine And.intro ?_ ?_) | (refine rd_own (by (simp only [↓reduceIte,zlk,Nat.reduceEqDiff,reduceCtorEq]); exact rfl) ?_ ?_ ?_) | rfl | assumption | (simp only [znl,znHG];(first|done|fail)) | (simp; done) | (simp; omega)))); done)
      | trace_state
  · rw [if_pos he]
    simp only [drV]
    refine spec_ok Tryd.func40 rfl rfl (by kernel_rfl) (k := 2) rfl (by decide) ?_
    repeat' (first|(with_reducible first|refine yrl (by constructor) ?_|refine jk (fun M hM=>?_)|(refine hM _ ?_;clear hM M)|refine xb3 (by decide) ?_|refine yqa (by assumption) ?_ ?_|refine yqb (by assumption) ?_ ?_)|((with_reducible refine je ?_)<;>(first|rfl|assumption|(simp only [znl,znHG];(first|done|fail))))|(with_reducible refine jf (by (simp only [↓reduceIte,zlk,Nat.reduceEqDiff,reduceCtorEq]);exact rfl) ?_)|((with_reducible first|refine jg (fun hc=>?_) (fun hc=>?_)|refine jh (fun hc=>?_) (fun hc=>?_))<;>(try simp (disch:=omega) only [zhb] at hc)<;>(try (exfalso;omega))<;>(try subst hc))|(with_reducible refine ji (by omega) ?_)|(simp (config := { maxSteps := 400000 }) only [↓jt,↓reduceIte,zvs,reduceCtorEq,Nat.reduceEqDiff,Nat.reduceAdd,Nat.reduceLeDiff,Nat.reduceMul,Int.reduceBNe,Int.reduceBEq,Int.reduceEq,Int.reduceNe,Int.reduceLT,Int.reduceLE,Int.reduceGT,Int.reduceGE,Int.reduceNeg,Int.reduceToNat,Nat.reduceLT,Nat.reduceSub,tab,Tryd.results40,List.toList_toArray])|(simp (disch:=omega) only [ziw]))
    all_goals first
      | (exfalso; omega)
      | (((try simp only [encDr,encWrs,List.map_nil]); simp only [zrds]; (repeat' (first | exact rd_nil | exact Rd.refl _ _ (by first|rfl|assumption|(simp only [znl,znHG];(first|done|fail))) | (refine And.intro ?_ ?_) | (refine rd_own (by (simp only [↓reduceIte,zlk,Nat.reduceEqDiff,reduceCtorEq]); exact rfl) ?_ ?_ ?_) | rfl | assumption | (simp only [znl,znHG];(first|done|fail)) | (simp; done) | (simp; omega)))); done)
      | trace_state
theorem may_ok : ∀ {l before : List Wr} {n : Int}, mayF n before l = 0 → ∀ w ∈ l, 0 ≤ w.b ∧ w.b < n ∧ w.d.length = 128
  | [], _, _, _, w, hw => by cases hw
  | x :: l, before, n, h, w, hw => by
    rw [mayF] at h
    split at h
    · cases h
    · rename_i h1
      split at h
      · cases h
      · rename_i h2
        split at h
        · cases h
        · have h1 := Decidable.not_not.1 h1
          rcases List.mem_cons.1 hw with rfl | hw
          · exact ⟨h1.1, h1.2, by omega⟩
          · exact may_ok h w hw
theorem mayD_hd {l : List Wr} {n : Int} (hn : n ≤ 223) (h : mayD n l = 0) : HdR l := by
  unfold mayD at h
  split at h
  · cases h
  · refine ⟨by omega, fun w hw => ?_⟩
    obtain ⟨h1, h2, h3⟩ := may_ok h w hw
    exact ⟨h1, by omega, h3⟩
theorem HdR.wok {l : List Wr} (h : HdR l) : WOk l := by
  obtain ⟨h1, h2⟩ := h
  exact ⟨by omega, fun w hw => by have := h2 w hw; omega, fun w hw => by have := h2 w hw; omega⟩
theorem badD_ok {d : Dr} (h : badD d = 0) : checkD d = 0 ∧ 33 < d.bl.length ∧ d.bl.length ≤ 256 := by
  unfold badD at h
  split at h
  · rename_i h1; exact absurd h h1
  · rename_i h1
    have h1 := Decidable.not_not.1 h1
    split at h
    · cases h
    · refine ⟨h1, by omega, ?_⟩
      unfold checkD at h1
      split at h1
      · cases h1
      · omega
end Go.Proofs.YtcilmfhncjfdbaaDoor.V
end
section
/-
  Drive, part 6: the power goes.
-/
set_option linter.unusedVariables false
set_option linter.unusedSimpArgs false
namespace Go.Proofs.YtcilmfhncjfdbaaDoor.V
open Go
set_option maxRecDepth 100000
-- nlx: jO, nls_ints
set_option maxHeartbeats 1000000
theorem checkW_ok : ∀ {n : Nat} {l : List Wr}, checkW n l = 0 → ∀ w ∈ l, (0 ≤ w.b ∧ w.b < (n : Int)) ∧ w.d.length = 128
  | n, [], _, w, hw => by cases hw
  | n, x :: l, h, w, hw => by
    rw [checkW] at h
    split at h
    · cases h
    · split at h
      · cases h
      · rename_i h1 h2
        rcases List.mem_cons.1 hw with rfl | hw
        · exact ⟨Decidable.byContradiction h1, by omega⟩
        · exact checkW_ok h w hw
theorem checkD_ok {d : Dr} (h : checkD d = 0) : (∀ s ∈ d.bl, s.length = 128) ∧ ∀ w ∈ d.pe, (0 ≤ w.b ∧ w.b < (d.bl.length : Int)) ∧ w.d.length = 128 := by
  unfold checkD at h
  split at h
  · cases h
  · split at h
    · cases h
    · rename_i h1 h2
      refine ⟨fun s hs => ?_, checkW_ok h⟩
      rw [Bool.not_eq_true, List.any_eq_false] at h2
      have := h2 s hs
      simpa using this
end Go.Proofs.YtcilmfhncjfdbaaDoor.V
end
section
/-
  WAL: what a journal tells; plainly, and by the document.
-/
set_option linter.unusedVariables false
set_option linter.unusedSimpArgs false
namespace Go.Proofs.YtcilmfhncjfdbaaDoor.V
open Go
set_option maxRecDepth 100000
set_option linter.defProp false in
def znHI := And.intro @jO <| And.intro @nls_mapB <| And.intro @nls_cls <| And.intro @nl_pd <| And.intro @nl_fn <| True.intro
set_option maxHeartbeats 4000000
def gotF (d : Dr) (i : Nat) : List UInt8 := getP d.pe i (d.bl.getD i [])
def cntF (h : List UInt8) : Nat := getLE ((h.drop 4).take 2)
def blkF (h : List UInt8) (i : Nat) : Nat := getLE ((h.drop (6 + 2 * i)).take 2)
def toldL (d : Dr) (h : List UInt8) (k : Nat) : List Wr := (List.range k).map fun i : Nat => ⟨(blkF h i : Int), gotF d (i + 1)⟩
def toldD (d : Dr) : List Wr :=
  let h := gotF d 0
  let n := cntF h
  if n < 1 ∨ 32 < n then [] else if mayD ((d.bl.length - 33 : Nat) : Int) (toldL d h n) ≠ 0 ∨ headF (toldL d h n) ≠ h then [] else toldL d h n
theorem toldL_len (d : Dr) (h : List UInt8) (k : Nat) : (toldL d h k).length = k := by simp [toldL]
theorem toldL_succ (d : Dr) (h : List UInt8) (k : Nat) : toldL d h (k + 1) = toldL d h k ++ [⟨(blkF h k : Int), gotF d (k + 1)⟩] := by simp [toldL, List.range_succ]
theorem getP_mem (pe : List Wr) (i : Int) (P : List UInt8 → Prop) (hp : ∀ w ∈ pe, P w.d) : ∀ s, P s → P (getP pe i s) := by
  induction pe with
  | nil => intro s h; exact h
  | cons w pe ih =>
    intro s h
    show P (getP pe i (if w.b = i then w.d else s))
    refine ih (fun x hx => hp x (by simp [hx])) _ ?_
    split
    · exact hp w (by simp)
    · exact h
theorem got_128 {d : Dr} (h : checkD d = 0) {i : Nat} (hi : i < d.bl.length) : (gotF d i).length = 128 := by
  obtain ⟨c1, c2⟩ := checkD_ok h
  exact getP_mem d.pe i (fun s => s.length = 128) (fun w hw => (c2 w hw).2) _ (c1 _ (getD_mem' (α := List UInt8) hi))
theorem getV_got {d : Dr} {i : Nat} (hi : i < d.bl.length) : getV d (i : Int) = .tup [.str (gotF d i), .int .i64 0] := by
  unfold getV gotF
  rw [if_pos ⟨by omega, by omega⟩, Int.toNat_natCast]
theorem headF_front {l : List Wr} (h : l.length ≤ 32) : (headF l).take 4 = [104, 105, 98, 106] := by
  simp [headF, firstF, padTo, frontF]
theorem getLE_lt2 (s : List UInt8) (h : s.length ≤ 2) : getLE s < 65536 := by
  have h1 := getLE_lt s
  have h2 : 256 ^ s.length ≤ 256 ^ 2 := Nat.pow_le_pow_right (by decide) h
  omega
theorem ok_stop {P : Program} {n0 : Nat} {S : VS} {K : VX → VS → Prop} {l : Array Oper} {d : Bool} (i : Nat) (h : Ok P n0 (.region i l d) S K) : Ok P n0 (.region i l d) S K := h
def toldB (d : Dr) : List Wr := if badD d = 0 then toldD d else []
theorem toldL_fit {N : Nat} {d : Dr} (hd : DOk N d) (h : List UInt8) {k : Nat} (hk : k ≤ 32) : LFit (toldL d h k) := by
  refine ⟨by rw [toldL_len]; omega, fun w hw => ?_, fun w hw => ?_⟩
  · obtain ⟨i, _, rfl⟩ := List.mem_map.1 hw
    have := getLE_lt2 ((h.drop (6 + 2 * i)).take 2) (by rw [List.length_take]; omega)
    show -2 ^ 63 ≤ ((blkF h i : Nat) : Int) ∧ ((blkF h i : Nat) : Int) < 2 ^ 63
    unfold blkF
    omega
  · obtain ⟨i, _, rfl⟩ := List.mem_map.1 hw
    have : (gotF d (i + 1)).length ≤ 1000 := getP_mem d.pe _ (fun s => s.length ≤ 1000) hd.peS _ (by
      by_cases hi : i + 1 < d.bl.length
      · exact hd.blS _ (getD_mem' (α := List UInt8) hi)
      · rw [List.getD_eq_getElem?_getD, List.getElem?_eq_none (by omega)]; simp)
    show (gotF d (i + 1)).length ≤ _
    omega
theorem rtold_spec (d : Dr) {N : Nat} (hd : DOk N d) (hN : N < 2 ^ 30) : Spec Tryd.prog 47 [encDr d] (encWrs (toldB d)) := by
  have hdf := hd.fit (show N < 2 ^ 36 by omega)
  have hB := rbad_spec d hdf
  unfold toldB
  by_cases hb : badD d = 0
  case neg =>
    rw [if_neg hb]
    refine spec_ok Tryd.func47 rfl rfl (by kernel_rfl) (k := 1) rfl (by decide) ?_
    repeat' (first|(with_reducible first|refine yrl (by constructor) ?_|refine jk (fun M hM=>?_)|(refine hM _ ?_;clear hM M)|refine xb3 (by decide) ?_|refine yqa (by assumption) ?_ ?_|refine yqb (by assumption) ?_ ?_)|((with_reducible refine je ?_)<;>(first|rfl|assumption|(simp only [znl,znHI];(first|done|fail))))|(with_reducible refine jf (by (simp only [↓reduceIte,zlk,Nat.reduceEqDiff,reduceCtorEq]);exact rfl) ?_)|((with_reducible first|refine jg (fun hc=>?_) (fun hc=>?_)|refine jh (fun hc=>?_) (fun hc=>?_))<;>(try simp (disch:=omega) only [zhb] at hc)<;>(try (exfalso;omega))<;>(try subst hc))|(with_reducible refine ji (by omega) ?_)|(simp (config := { maxSteps := 400000 }) only [↓jt,↓reduceIte,zvs,reduceCtorEq,Nat.reduceEqDiff,Nat.reduceAdd,Nat.reduceLeDiff,Nat.reduceMul,Int.reduceBNe,Int.reduceBEq,Int.reduceEq,Int.reduceNe,Int.reduceLT,Int.reduceLE,Int.reduceGT,Int.reduceGE,Int.reduceNeg,Int.reduceToNat,Nat.reduceLT,Nat.reduceSub,tab,Tryd.results47,List.toList_toArray])|(simp (disch:=omega) only [ziw]))
    all_goals first
      | (exfalso; omega)
      | (refine rdt_of ?_ rfl; (refine rd_own (by (simp only [↓reduceIte,zlk,Nat.reduceEqDiff,reduceCtorEq]); exact rfl) ?_ ?_ ?_) <;> (first | rfl | assumption | (simp only [znl,znHI];(first|done|fail)) | (simp; done) | (simp; omega) | skip); done)
      | trace_state
  rw [hb] at hB
  rw [if_pos hb]
  obtain ⟨c1, c2, c3⟩ := badD_ok hb
  have hG0 : Spec Tryd.prog 41 [encDr d, .int .i64 0] (.tup [.str (gotF d 0), .int .i64 0]) := by
    have := rget_spec d hdf 0 (by omega)
    have e := getV_got (d := d) (i := 0) (by omega)
    rw [show ((0 : Nat) : Int) = 0 from rfl] at e
    rwa [e] at this
  have hg128 := got_128 c1 (show 0 < d.bl.length by omega)
  obtain ⟨h, hh⟩ : ∃ h, h = gotF d 0 := ⟨_, rfl⟩
  rw [← hh] at hG0 hg128
  have hNm := rnum_get_spec ((h.drop 4).take 2) (by rw [List.length_take]; omega)
  have hc0 : getLE ((h.drop 4).take 2) = cntF h := rfl
  rw [hc0] at hNm
  have hcl : cntF h < 65536 := getLE_lt2 _ (by rw [List.length_take]; omega)
  obtain ⟨n, hn⟩ : ∃ n, n = cntF h := ⟨_, rfl⟩
  rw [← hn] at hNm hcl
  obtain ⟨R, hR⟩ : ∃ R, R = toldD d := ⟨_, rfl⟩
  rw [← hR]
  unfold toldD at hR
  rw [← hh] at hR
  dsimp only at hR
  rw [← hn] at hR
  have hRn : ¬(1 ≤ n ∧ n ≤ 32) → R = [] := fun h => by rw [hR, if_pos (by omega)]
  have hR4 : 1 ≤ n ∧ n ≤ 32 → h.take 4 ≠ [104, 105, 98, 106] → R = [] := fun h1 h2 => by
    rw [hR, if_neg (by omega), if_pos]
    refine .inr fun e => h2 ?_
    rw [← e]
    exact headF_front (by rw [toldL_len]; exact h1.2)
  have hRx : ¬List.take 4 (List.drop 0 h) = [104, 105, 98, 106] → R = [] := fun h2 => by
    by_cases h1 : 1 ≤ n ∧ n ≤ 32
    · exact hR4 h1 (by rw [List.drop_zero] at h2; exact h2)
    · exact hRn h1
  refine spec_ok Tryd.func47 rfl rfl (by kernel_rfl) (k := 1) rfl (by decide) ?_
  repeat' (first|(with_reducible first|refine yrl (by constructor) ?_|refine jk (fun M hM=>?_)|(refine hM _ ?_;clear hM M)|refine xb3 (by decide) ?_|refine yqa (by assumption) ?_ ?_|refine yqb (by assumption) ?_ ?_)|((with_reducible refine je ?_)<;>(first|rfl|assumption|(simp only [znl,znHI];(first|done|fail))))|(with_reducible refine jf (by (simp only [↓reduceIte,zlk,Nat.reduceEqDiff,reduceCtorEq]);exact rfl) ?_)|((with_reducible first|refine jg (fun hc=>?_) (fun hc=>?_)|refine jh (fun hc=>?_) (fun hc=>?_))<;>(try simp (disch:=omega) only [zhb] at hc)<;>(try (exfalso;omega))<;>(try subst hc))|(with_reducible refine ji (by omega) ?_)|(simp (config := { maxSteps := 400000 }) only [↓jt,↓reduceIte,zvs,reduceCtorEq,Nat.reduceEqDiff,Nat.reduceAdd,Nat.reduceLeDiff,Nat.reduceMul,Int.reduceBNe,Int.reduceBEq,Int.reduceEq,Int.reduceNe,Int.reduceLT,Int.reduceLE,Int.reduceGT,Int.reduceGE,Int.reduceNeg,Int.reduceToNat,Nat.reduceLT,Nat.reduceSub,tab,Tryd.results47,List.toList_toArray])|(simp (disch:=omega) only [ziw]))
  all_goals first
    | (exfalso; omega)
    | (rw [hRn (by omega)]; refine rdt_of ?_ rfl; (refine rd_own (by (simp only [↓reduceIte,zlk,Nat.reduceEqDiff,reduceCtorEq]); exact rfl) ?_ ?_ ?_) <;> (first | rfl | assumption | (simp only [znl,znHI];(first|done|fail)) | (simp; done) | (simp; omega) | skip); done)
    | (rw [hRx (by assumption)]; refine rdt_of ?_ rfl; (refine rd_own (by (simp only [↓reduceIte,zlk,Nat.reduceEqDiff,reduceCtorEq]); exact rfl) ?_ ?_ ?_) <;> (first | rfl | assumption | (simp only [znl,znHI];(first|done|fail)) | (simp; done) | (simp; omega) | skip); done)
    | skip
  have hn1 : 1 ≤ n := by omega
  have hn2 : n ≤ 32 := by omega
  rw [if_neg (by omega)] at hR
  refine ok_loop (fun k : Nat => ⟨slots [(1, .ptr 0 []), (3, .dat (.st [.cell, .cell]) []), (4, .str h), (6, .int .i64 n), (7, .sl (some (1, [], 0)) k), (8, .int .i64 k)], rows [(0, .row (.st [.cell, .cell, .cell]) (encDr d)), (1, .row (.arr k (.st [.cell, .cell])) (.agg ((toldL d h k).map encWr)))], 2⟩) (fun k => k ≤ n) (fun k => n - k) 0 ?_ (Nat.zero_le _) (fun k hk => ?_)
  · (refine yrn [(0, 0), (1, 2)] true ?_ ?_<;>(repeat' (first|(with_reducible first|exact ya1|exact ya2|exact ya3|refine jx rfl (by first|rfl|assumption|(simp only [znl,znHI];(first|done|fail)))|exact ya5|exact ya7|exact jy|exact jz|refine jA ?_|refine ya9 ?_ ?_ ?_|refine jC rfl (by first|rfl|assumption|(simp only [znl,znHI];(first|done|fail)))|refine MR.agg (MRL.cons ?_ ?_)|refine MR.fn ?_|refine MRL.cons ?_ ?_|exact MRL.nil|refine jE ?_ ?_|exact jF|exact jG|refine yb1 ?_ ?_|refine MB.row ?_|refine jI ?_ ?_|exact ya8|refine jJ rfl (by first|rfl|assumption|(simp only [znl,znHI];(first|done|fail)))|refine yb2 ?_|rfl)|(simp only [znl,znHI];(first|done|fail))|(simp only [↓reduceIte,zlk,Nat.reduceEqDiff,reduceCtorEq])|(with_reducible first|refine jJ ?_ ?_|refine ya5 ?_|refine ju ?_|refine jv ?_|refine jw ?_|refine jx ?_ (by first|rfl|assumption|(simp only [znl,znHI];(first|done|fail)))|refine jC ?_ (by first|rfl|assumption|(simp only [znl,znHI];(first|done|fail)))))))
    all_goals (first | rfl | trace_state)
  have htl := toldL_len d h k
  have hnw := jO (toldL d h k)
  by_cases hlt : k < n
  · have hG : Spec Tryd.prog 41 [encDr d, .int .i64 ((k : Int) + 1)] (.tup [.str (gotF d (k + 1)), .int .i64 0]) := by
      have := rget_spec d hdf ((k : Int) + 1) (by omega)
      have e := getV_got (d := d) (i := k + 1) (by omega)
      rw [show ((k + 1 : Nat) : Int) = (k : Int) + 1 from by omega] at e
      rwa [e] at this
    have t1 : (6 + 2 * (k : Int)).toNat = 6 + 2 * k := by omega
    have t2 : (8 + 2 * (k : Int)).toNat = 8 + 2 * k := by omega
    have t3 : 8 + 2 * k - (6 + 2 * k) = 2 := by omega
    have hN2 := rnum_get_spec ((h.drop (6 + 2 * k)).take 2) (by rw [List.length_take]; omega)
    have hb0 : getLE ((h.drop (6 + 2 * k)).take 2) = blkF h k := rfl
    rw [hb0] at hN2
    have hbl : blkF h k < 65536 := getLE_lt2 _ (by rw [List.length_take]; omega)
    have hsn : (toldL d h k).map encWr ++ [VV.agg [.int .i64 (blkF h k : Int), .str (gotF d (k + 1))]] = (toldL d h (k + 1)).map encWr := by rw [toldL_succ, List.map_append]; rfl
    repeat' (first|(with_reducible first|refine yrl (by constructor) ?_|refine jk (fun M hM=>?_)|(refine hM _ ?_;clear hM M)|refine xb3 (by decide) ?_|refine yqa (by assumption) ?_ ?_|refine yqb (by assumption) ?_ ?_)|((with_reducible refine je ?_)<;>(first|rfl|assumption|(simp only [znl,znHI];(first|done|fail))))|(with_reducible refine jf (by (simp only [↓reduceIte,zlk,Nat.reduceEqDiff,reduceCtorEq]);exact rfl) ?_)|((with_reducible first|refine jg (fun hc=>?_) (fun hc=>?_)|refine jh (fun hc=>?_) (fun hc=>?_))<;>(try simp (disch:=omega) only [zhb] at hc)<;>(try (exfalso;omega))<;>(try subst hc))|(with_reducible refine ji (by omega) ?_)|(simp (config := { maxSteps := 400000 }) only [↓jt,↓reduceIte,zvs,reduceCtorEq,Nat.reduceEqDiff,Nat.reduceAdd,Nat.reduceLeDiff,Nat.reduceMul,Int.reduceBNe,Int.reduceBEq,Int.reduceEq,Int.reduceNe,Int.reduceLT,Int.reduceLE,Int.reduceGT,Int.reduceGE,Int.reduceNeg,Int.reduceToNat,Nat.reduceLT,Nat.reduceSub,tab,t1,t2,t3,htl,hsn,Tryd.results47,List.toList_toArray])|(simp (disch:=omega) only [ziw]))
    all_goals first
      | (exfalso; omega)
      | skip
    refine xl1 (k + 1) ?_ (by show k + 1 ≤ n; omega) (by show n - (k + 1) < n - k; omega)
    (refine yrn [(0, 0), (1, 3)] false ?_ ?_<;>(repeat' (first|(with_reducible first|exact ya1|exact ya2|exact ya3|refine jx rfl (by first|rfl|assumption|(simp only [znl,znHI];(first|done|fail)))|exact ya5|exact ya7|exact jy|exact jz|refine jA ?_|refine ya9 ?_ ?_ ?_|refine jC rfl (by first|rfl|assumption|(simp only [znl,znHI];(first|done|fail)))|refine MR.agg (MRL.cons ?_ ?_)|refine MR.fn ?_|refine MRL.cons ?_ ?_|exact MRL.nil|refine jE ?_ ?_|exact jF|exact jG|refine yb1 ?_ ?_|refine MB.row ?_|refine jI ?_ ?_|exact ya8|refine jJ rfl (by first|rfl|assumption|(simp only [znl,znHI];(first|done|fail)))|refine yb2 ?_|rfl)|(simp only [znl,znHI];(first|done|fail))|(simp only [↓reduceIte,zlk,Nat.reduceEqDiff,reduceCtorEq])|(with_reducible first|refine jJ ?_ ?_|refine ya5 ?_|refine ju ?_|refine jv ?_|refine jw ?_|refine jx ?_ (by first|rfl|assumption|(simp only [znl,znHI];(first|done|fail)))|refine jC ?_ (by first|rfl|assumption|(simp only [znl,znHI];(first|done|fail)))))))
    all_goals (first | rfl | trace_state)
  obtain rfl : k = n := by omega
  obtain ⟨T, hT⟩ : ∃ T, T = toldL d h k := ⟨_, rfl⟩
  rw [← hT] at hR htl hnw ⊢
  have hTf : LFit T := by rw [hT]; exact toldL_fit hd h hn2
  have hM : Spec Tryd.prog 36 [encWrs T, .int .i64 ((d.bl.length : Int) - 33)] (.int .i64 (mayD ((d.bl.length - 33 : Nat) : Int) T)) := by
    have := rmay_spec T hTf ((d.bl.length - 33 : Nat) : Int) (by omega)
    rwa [show (((d.bl.length - 33 : Nat) : Int)) = (d.bl.length : Int) - 33 from by omega] at this ⊢
  repeat' ((fail_if_success (with_reducible refine ok_stop 14 ?_));first|(with_reducible first|refine yrl (by constructor) ?_|refine jk (fun M hM=>?_)|(refine hM _ ?_;clear hM M)|refine xb3 (by decide) ?_|refine yqa (by assumption) ?_ ?_|refine yqb (by assumption) ?_ ?_)|((with_reducible refine je ?_)<;>(first|rfl|assumption|(simp only [znl,znHI];(first|done|fail))))|(with_reducible refine jf (by (simp only [↓reduceIte,zlk,Nat.reduceEqDiff,reduceCtorEq]);exact rfl) ?_)|((with_reducible first|refine jg (fun hc=>?_) (fun hc=>?_)|refine jh (fun hc=>?_) (fun hc=>?_))<;>(try simp (disch:=omega) only [zhb] at hc)<;>(try (exfalso;omega))<;>(try subst hc))|(with_reducible refine ji (by omega) ?_)|(simp (config := { maxSteps := 400000 }) only [↓jt,↓reduceIte,zvs,reduceCtorEq,Nat.reduceEqDiff,Nat.reduceAdd,Nat.reduceLeDiff,Nat.reduceMul,Int.reduceBNe,Int.reduceBEq,Int.reduceEq,Int.reduceNe,Int.reduceLT,Int.reduceLE,Int.reduceGT,Int.reduceGE,Int.reduceNeg,Int.reduceToNat,Nat.reduceLT,Nat.reduceSub,tab,htl,Tryd.results47,List.toList_toArray])|(simp (disch:=omega) only [ziw]))
  all_goals (try (exfalso; omega))
  refine ok_ren (T := ⟨slots [(1, .ptr 0 []), (3, .dat (.st [.cell, .cell]) []), (4, .str h), (7, encWrs T)], rows [(0, .row (.st [.cell, .cell, .cell]) (encDr d))], 1⟩) ?_ ?_
  · (refine yrn [(0, 0)] true ?_ ?_<;>(repeat' (first|(with_reducible first|exact ya1|exact ya2|exact ya3|refine jx rfl (by first|rfl|assumption|(simp only [znl,znHI];(first|done|fail)))|exact ya5|exact ya7|exact jy|exact jz|refine jA ?_|refine ya9 ?_ ?_ ?_|refine jC rfl (by first|rfl|assumption|(simp only [znl,znHI];(first|done|fail)))|refine MR.agg (MRL.cons ?_ ?_)|refine MR.fn ?_|refine MRL.cons ?_ ?_|exact MRL.nil|refine jE ?_ ?_|exact jF|exact jG|refine yb1 ?_ ?_|refine MB.row ?_|refine jI ?_ ?_|exact ya8|refine jJ rfl (by first|rfl|assumption|(simp only [znl,znHI];(first|done|fail)))|refine yb2 ?_|rfl)|(simp only [znl,znHI];(first|done|fail))|(simp only [↓reduceIte,zlk,Nat.reduceEqDiff,reduceCtorEq])|(with_reducible first|refine jJ ?_ ?_|refine ya5 ?_|refine ju ?_|refine jv ?_|refine jw ?_|refine jx ?_ (by first|rfl|assumption|(simp only [znl,znHI];(first|done|fail)))|refine jC ?_ (by first|rfl|assumption|(simp only [znl,znHI];(first|done|fail)))))))
    all_goals (first | rfl | (rw [List.length_map, htl]; done) | trace_state)
  by_cases hm : mayD ((d.bl.length - 33 : Nat) : Int) T = 0
  · rw [hm] at hM hR
    have hH := rhead_spec T (mayD_hd (by omega) hm)
    repeat' (first|(with_reducible first|refine yrl (by constructor) ?_|refine jk (fun M hM=>?_)|(refine hM _ ?_;clear hM M)|refine xb3 (by decide) ?_|refine yqa (by assumption) ?_ ?_|refine yqb (by assumption) ?_ ?_)|((with_reducible refine je ?_)<;>(first|rfl|assumption|(simp only [znl,znHI];(first|done|fail))))|(with_reducible refine jf (by (simp only [↓reduceIte,zlk,Nat.reduceEqDiff,reduceCtorEq]);exact rfl) ?_)|((with_reducible first|refine jg (fun hc=>?_) (fun hc=>?_)|refine jh (fun hc=>?_) (fun hc=>?_))<;>(try simp (disch:=omega) only [zhb] at hc)<;>(try (exfalso;omega))<;>(try subst hc))|(with_reducible refine ji (by omega) ?_)|(simp (config := { maxSteps := 400000 }) only [↓jt,↓reduceIte,zvs,reduceCtorEq,Nat.reduceEqDiff,Nat.reduceAdd,Nat.reduceLeDiff,Nat.reduceMul,Int.reduceBNe,Int.reduceBEq,Int.reduceEq,Int.reduceNe,Int.reduceLT,Int.reduceLE,Int.reduceGT,Int.reduceGE,Int.reduceNeg,Int.reduceToNat,Nat.reduceLT,Nat.reduceSub,tab,encDr,Tryd.results47,List.toList_toArray])|(simp (disch:=omega) only [ziw]))
    all_goals first
      | (exfalso; omega)
      | (rw [hR, if_pos (.inr (by assumption))]; exact rdt_of (Rd.refl _ _ rfl) rfl)
      | (rw [hR, if_neg (by intro hq; rcases hq with hq | hq; exact hq rfl; first | exact hq rfl | exact hq (by assumption))]; exact rdt_of (Rd.refl _ _ hnw) rfl)
      | trace_state
  · rw [if_pos (.inl hm)] at hR
    repeat' (first|(with_reducible first|refine yrl (by constructor) ?_|refine jk (fun M hM=>?_)|(refine hM _ ?_;clear hM M)|refine xb3 (by decide) ?_|refine yqa (by assumption) ?_ ?_|refine yqb (by assumption) ?_ ?_)|((with_reducible refine je ?_)<;>(first|rfl|assumption|(simp only [znl,znHI];(first|done|fail))))|(with_reducible refine jf (by (simp only [↓reduceIte,zlk,Nat.reduceEqDiff,reduceCtorEq]);exact rfl) ?_)|((with_reducible first|refine jg (fun hc=>?_) (fun hc=>?_)|refine jh (fun hc=>?_) (fun hc=>?_))<;>(try simp (disch:=omega) only [zhb] at hc)<;>(try (exfalso;omega))<;>(try subst hc))|(with_reducible refine ji (by omega) ?_)|(simp (config := { maxSteps := 400000 }) only [↓jt,↓reduceIte,zvs,reduceCtorEq,Nat.reduceEqDiff,Nat.reduceAdd,Nat.reduceLeDiff,Nat.reduceMul,Int.reduceBNe,Int.reduceBEq,Int.reduceEq,Int.reduceNe,Int.reduceLT,Int.reduceLE,Int.reduceGT,Int.reduceGE,Int.reduceNeg,Int.reduceToNat,Nat.reduceLT,Nat.reduceSub,tab,encDr,Tryd.results47,List.toList_toArray])|(simp (disch:=omega) only [ziw]))
    all_goals first
      | (exfalso; omega)
      | (rw [hR]; exact rdt_of (Rd.refl _ _ rfl) rfl)
      | trace_state
end Go.Proofs.YtcilmfhncjfdbaaDoor.V
end
section
/-
  WAL: what a journal tells, by the program.
-/
set_option linter.unusedVariables false
set_option linter.unusedSimpArgs false
namespace Go.Proofs.YtcilmfhncjfdbaaDoor.V
open Go
set_option maxRecDepth 100000
-- nlx: jO, nls_mapB, nls_cls, nl_pd, nl_fn, nls_upT
set_option maxHeartbeats 4000000
def upT (d : Dr) (h : List UInt8) (n k : Nat) : List VV := (toldL d h k).map encWr ++ List.replicate (n - k) (.agg [.int .i64 0, .str []])
theorem upT_len (d : Dr) (h : List UInt8) {n k : Nat} (hk : k ≤ n) : (upT d h n k).length = n := by simp only [upT,List.length_append,List.length_map,toldL_len,List.length_replicate]; omega
theorem upT_get (d : Dr) (h : List UInt8) {n k : Nat} (hk : k < n) : (upT d h n k)[k]? = some (.agg [.int .i64 0, .str []]) := by
  unfold upT
  rw [List.getElem?_append_right (by simp [toldL_len]), List.length_map, toldL_len, Nat.sub_self, List.getElem?_replicate, if_pos (by omega)]
theorem upT_set (d : Dr) (h : List UInt8) {n k : Nat} (hk : k < n) : (upT d h n k).set k (.agg [.int .i64 (blkF h k : Int), .str (gotF d (k + 1))]) = upT d h n (k + 1) := by
  unfold upT
  have hl : ((toldL d h k).map encWr).length = k := by rw [List.length_map, toldL_len]
  rw [List.set_append_right _ _ (by omega), hl, Nat.sub_self, show n - k = (n - (k + 1)) + 1 by omega, List.replicate_succ, List.set_cons_zero, toldL_succ, List.map_append, List.append_assoc]
  rfl
theorem upT_all (d : Dr) (h : List UInt8) (n : Nat) : upT d h n n = (toldL d h n).map encWr := by simp [upT]
theorem nls_upT (d : Dr) (h : List UInt8) (n k : Nat) : nls (upT d h n k) = true := by
  unfold upT
  rw [nls_append, jO, nls_rep (by rfl)]; rfl
theorem ptold_spec (d : Dr) {N : Nat} (hd : DOk N d) (hN : N < 2 ^ 30) (hb : badD d = 0) : Spec Tryd.prog 46 [encDr d] (encWrs (toldD d)) := by
  have hdf := hd.fit (show N < 2 ^ 36 by omega)
  obtain ⟨c1, c2, c3⟩ := badD_ok hb
  have hG0 : Spec Tryd.prog 62 [encDr d, .int .i64 0] (.tup [.str (gotF d 0), .int .i64 0]) := by
    have := get_spec d hdf 0 (by omega)
    have e := getV_got (d := d) (i := 0) (by omega)
    rw [show ((0 : Nat) : Int) = 0 from rfl] at e
    rwa [e] at this
  have hg128 := got_128 c1 (show 0 < d.bl.length by omega)
  obtain ⟨h, hh⟩ : ∃ h, h = gotF d 0 := ⟨_, rfl⟩
  rw [← hh] at hG0 hg128
  have hNm := num_get_spec ((h.drop 4).take 2) (by rw [List.length_take]; omega)
  have hc0 : getLE (((h.drop 4).take 2).take 8) = cntF h := by rw [List.take_of_length_le (by rw [List.length_take]; omega)]; rfl
  rw [hc0] at hNm
  have hcl : cntF h < 65536 := getLE_lt2 _ (by rw [List.length_take]; omega)
  obtain ⟨n, hn⟩ : ∃ n, n = cntF h := ⟨_, rfl⟩
  rw [← hn] at hNm hcl
  obtain ⟨R, hR⟩ : ∃ R, R = toldD d := ⟨_, rfl⟩
  rw [← hR]
  unfold toldD at hR
  rw [← hh] at hR
  dsimp only at hR
  rw [← hn] at hR
  have hRn : ¬(1 ≤ n ∧ n ≤ 32) → R = [] := fun h => by rw [hR, if_pos (by omega)]
  refine spec_ok Tryd.func46 rfl rfl (by kernel_rfl) (k := 1) rfl (by decide) ?_
  repeat' (first|(with_reducible first|refine yrl (by constructor) ?_|refine jk (fun M hM=>?_)|(refine hM _ ?_;clear hM M)|refine xb3 (by decide) ?_|refine yqa (by assumption) ?_ ?_|refine yqb (by assumption) ?_ ?_)|((with_reducible refine je ?_)<;>(first|rfl|assumption|(simp only [znl,jO,nls_mapB,nls_cls,nl_pd,nl_fn,nls_upT];(first|done|fail))))|(with_reducible refine jf (by (simp only [↓reduceIte,zlk,Nat.reduceEqDiff,reduceCtorEq]);exact rfl) ?_)|((with_reducible first|refine jg (fun hc=>?_) (fun hc=>?_)|refine jh (fun hc=>?_) (fun hc=>?_))<;>(try simp (disch:=omega) only [zhb] at hc)<;>(try (exfalso;omega))<;>(try subst hc))|(with_reducible refine ji (by omega) ?_)|(simp (config := { maxSteps := 400000 }) only [↓jt,↓reduceIte,zvs,reduceCtorEq,Nat.reduceEqDiff,Nat.reduceAdd,Nat.reduceLeDiff,Nat.reduceMul,Int.reduceBNe,Int.reduceBEq,Int.reduceEq,Int.reduceNe,Int.reduceLT,Int.reduceLE,Int.reduceGT,Int.reduceGE,Int.reduceNeg,Int.reduceToNat,Nat.reduceLT,Nat.reduceSub,tab,Tryd.results46,List.toList_toArray])|(simp (disch:=omega) only [ziw]))
  all_goals first
    | (exfalso; omega)
    | (rw [hRn (by omega)]; exact rdt_of rd_nil rfl)
    | skip
  have hn1 : 1 ≤ n := by omega
  have hn2 : n ≤ 32 := by omega
  rw [if_neg (by omega)] at hR
  refine ok_loop (fun k : Nat => ⟨slots [(1, .ptr 0 []), (3, .str h), (6, .sl (some (1, [], 0)) n), (31, .int .i64 n), (32, .int .i64 k)], rows [(0, .row (.st [.cell, .cell, .cell]) (encDr d)), (1, .row (.arr n (.st [.cell, .cell])) (.agg (upT d h n k)))], 2⟩) (fun k => k ≤ n) (fun k => n - k) 0 ?_ (Nat.zero_le _) (fun k hk => ?_)
  · (refine yrn [(0, 0), (1, 1)] false ?_ ?_<;>(repeat' (first|(with_reducible first|exact ya1|exact ya2|exact ya3|refine jx rfl (by first|rfl|assumption|(simp only [znl,jO,nls_mapB,nls_cls,nl_pd,nl_fn,nls_upT];(first|done|fail)))|exact ya5|exact ya7|exact jy|exact jz|refine jA ?_|refine ya9 ?_ ?_ ?_|refine jC rfl (by first|rfl|assumption|(simp only [znl,jO,nls_mapB,nls_cls,nl_pd,nl_fn,nls_upT];(first|done|fail)))|refine MR.agg (MRL.cons ?_ ?_)|refine MR.fn ?_|refine MRL.cons ?_ ?_|exact MRL.nil|refine jE ?_ ?_|exact jF|exact jG|refine yb1 ?_ ?_|refine MB.row ?_|refine jI ?_ ?_|exact ya8|refine jJ rfl (by first|rfl|assumption|(simp only [znl,jO,nls_mapB,nls_cls,nl_pd,nl_fn,nls_upT];(first|done|fail)))|refine yb2 ?_|rfl)|(simp only [znl,jO,nls_mapB,nls_cls,nl_pd,nl_fn,nls_upT];(first|done|fail))|(simp only [↓reduceIte,zlk,Nat.reduceEqDiff,reduceCtorEq])|(with_reducible first|refine jJ ?_ ?_|refine ya5 ?_|refine ju ?_|refine jv ?_|refine jw ?_|refine jx ?_ (by first|rfl|assumption|(simp only [znl,jO,nls_mapB,nls_cls,nl_pd,nl_fn,nls_upT];(first|done|fail)))|refine jC ?_ (by first|rfl|assumption|(simp only [znl,jO,nls_mapB,nls_cls,nl_pd,nl_fn,nls_upT];(first|done|fail)))))))
    all_goals (first | rfl | exact upT_zero _ _ _ | trace_state)
  have htl := upT_len d h hk
  by_cases hlt : k < n
  · have hG : Spec Tryd.prog 62 [encDr d, .int .i64 (1 + (k : Int))] (.tup [.str (gotF d (k + 1)), .int .i64 0]) := by
      have := get_spec d hdf (1 + (k : Int)) (by omega)
      have e := getV_got (d := d) (i := k + 1) (by omega)
      rw [show ((k + 1 : Nat) : Int) = 1 + (k : Int) from by omega] at e
      rwa [e] at this
    have t1 : (6 + 2 * (k : Int)).toNat = 6 + 2 * k := by omega
    have t2 : (8 + 2 * (k : Int)).toNat = 8 + 2 * k := by omega
    have t3 : 8 + 2 * k - (6 + 2 * k) = 2 := by omega
    have hN2 := num_get_spec ((h.drop (6 + 2 * k)).take 2) (by rw [List.length_take]; omega)
    have hb0 : getLE (((h.drop (6 + 2 * k)).take 2).take 8) = blkF h k := by rw [List.take_of_length_le (by rw [List.length_take]; omega)]; rfl
    rw [hb0] at hN2
    have hbl : blkF h k < 65536 := getLE_lt2 _ (by rw [List.length_take]; omega)
    have hgz := upT_get d h hlt
    have hsn := upT_set d h hlt
    repeat' (first|(with_reducible first|refine yrl (by constructor) ?_|refine jk (fun M hM=>?_)|(refine hM _ ?_;clear hM M)|refine xb3 (by decide) ?_|refine yqa (by assumption) ?_ ?_|refine yqb (by assumption) ?_ ?_)|((with_reducible refine je ?_)<;>(first|rfl|assumption|(simp only [znl,jO,nls_mapB,nls_cls,nl_pd,nl_fn,nls_upT];(first|done|fail))))|(with_reducible refine jf (by (simp only [↓reduceIte,zlk,Nat.reduceEqDiff,reduceCtorEq]);exact rfl) ?_)|((with_reducible first|refine jg (fun hc=>?_) (fun hc=>?_)|refine jh (fun hc=>?_) (fun hc=>?_))<;>(try simp (disch:=omega) only [zhb] at hc)<;>(try (exfalso;omega))<;>(try subst hc))|(with_reducible refine ji (by omega) ?_)|(simp (config := { maxSteps := 400000 }) only [↓jt,↓reduceIte,zvs,reduceCtorEq,Nat.reduceEqDiff,Nat.reduceAdd,Nat.reduceLeDiff,Nat.reduceMul,Int.reduceBNe,Int.reduceBEq,Int.reduceEq,Int.reduceNe,Int.reduceLT,Int.reduceLE,Int.reduceGT,Int.reduceGE,Int.reduceNeg,Int.reduceToNat,Nat.reduceLT,Nat.reduceSub,tab,t1,t2,t3,htl,hgz,hsn,Tryd.results46,List.toList_toArray])|(simp (disch:=omega) only [ziw]))
    all_goals first
      | (exfalso; omega)
      | skip
    refine xl1 (k + 1) ?_ (by show k + 1 ≤ n; omega) (by show n - (k + 1) < n - k; omega)
    (refine yrn [(0, 0), (1, 1)] false ?_ ?_<;>(repeat' (first|(with_reducible first|exact ya1|exact ya2|exact ya3|refine jx rfl (by first|rfl|assumption|(simp only [znl,jO,nls_mapB,nls_cls,nl_pd,nl_fn,nls_upT];(first|done|fail)))|exact ya5|exact ya7|exact jy|exact jz|refine jA ?_|refine ya9 ?_ ?_ ?_|refine jC rfl (by first|rfl|assumption|(simp only [znl,jO,nls_mapB,nls_cls,nl_pd,nl_fn,nls_upT];(first|done|fail)))|refine MR.agg (MRL.cons ?_ ?_)|refine MR.fn ?_|refine MRL.cons ?_ ?_|exact MRL.nil|refine jE ?_ ?_|exact jF|exact jG|refine yb1 ?_ ?_|refine MB.row ?_|refine jI ?_ ?_|exact ya8|refine jJ rfl (by first|rfl|assumption|(simp only [znl,jO,nls_mapB,nls_cls,nl_pd,nl_fn,nls_upT];(first|done|fail)))|refine yb2 ?_|rfl)|(simp only [znl,jO,nls_mapB,nls_cls,nl_pd,nl_fn,nls_upT];(first|done|fail))|(simp only [↓reduceIte,zlk,Nat.reduceEqDiff,reduceCtorEq])|(with_reducible first|refine jJ ?_ ?_|refine ya5 ?_|refine ju ?_|refine jv ?_|refine jw ?_|refine jx ?_ (by first|rfl|assumption|(simp only [znl,jO,nls_mapB,nls_cls,nl_pd,nl_fn,nls_upT];(first|done|fail)))|refine jC ?_ (by first|rfl|assumption|(simp only [znl,jO,nls_mapB,nls_cls,nl_pd,nl_fn,nls_upT];(first|done|fail)))))))
    all_goals (first | rfl | trace_state)
  obtain rfl : k = n := by omega
  rw [upT_all] at htl ⊢
  obtain ⟨T, hT⟩ : ∃ T, T = toldL d h k := ⟨_, rfl⟩
  have hnw := jO (toldL d h k)
  rw [← hT] at hR htl hnw ⊢
  have hTf : LFit T := by rw [hT]; exact toldL_fit hd h hn2
  have hM : Spec Tryd.prog 29 [.int .i64 ((d.bl.length : Int) - 33), encWrs T] (.int .i64 (mayD ((d.bl.length - 33 : Nat) : Int) T)) := by
    have := pallowed_spec T hTf (d.bl.length - 33) (by omega)
    rwa [show (((d.bl.length - 33 : Nat) : Int)) = (d.bl.length : Int) - 33 from by omega] at this ⊢
  repeat' ((fail_if_success (with_reducible refine ok_stop 14 ?_));first|(with_reducible first|refine yrl (by constructor) ?_|refine jk (fun M hM=>?_)|(refine hM _ ?_;clear hM M)|refine xb3 (by decide) ?_|refine yqa (by assumption) ?_ ?_|refine yqb (by assumption) ?_ ?_)|((with_reducible refine je ?_)<;>(first|rfl|assumption|(simp only [znl,jO,nls_mapB,nls_cls,nl_pd,nl_fn,nls_upT];(first|done|fail))))|(with_reducible refine jf (by (simp only [↓reduceIte,zlk,Nat.reduceEqDiff,reduceCtorEq]);exact rfl) ?_)|((with_reducible first|refine jg (fun hc=>?_) (fun hc=>?_)|refine jh (fun hc=>?_) (fun hc=>?_))<;>(try simp (disch:=omega) only [zhb] at hc)<;>(try (exfalso;omega))<;>(try subst hc))|(with_reducible refine ji (by omega) ?_)|(simp (config := { maxSteps := 400000 }) only [↓jt,↓reduceIte,zvs,reduceCtorEq,Nat.reduceEqDiff,Nat.reduceAdd,Nat.reduceLeDiff,Nat.reduceMul,Int.reduceBNe,Int.reduceBEq,Int.reduceEq,Int.reduceNe,Int.reduceLT,Int.reduceLE,Int.reduceGT,Int.reduceGE,Int.reduceNeg,Int.reduceToNat,Nat.reduceLT,Nat.reduceSub,tab,htl,Tryd.results46,List.toList_toArray])|(simp (disch:=omega) only [ziw]))
  all_goals (try (exfalso; omega))
  refine ok_ren (T := ⟨slots [(1, .ptr 0 []), (3, .str h), (6, encWrs T)], rows [(0, .row (.st [.cell, .cell, .cell]) (encDr d))], 1⟩) ?_ ?_
  · (refine yrn [(0, 0)] true ?_ ?_<;>(repeat' (first|(with_reducible first|exact ya1|exact ya2|exact ya3|refine jx rfl (by first|rfl|assumption|(simp only [znl,jO,nls_mapB,nls_cls,nl_pd,nl_fn,nls_upT];(first|done|fail)))|exact ya5|exact ya7|exact jy|exact jz|refine jA ?_|refine ya9 ?_ ?_ ?_|refine jC rfl (by first|rfl|assumption|(simp only [znl,jO,nls_mapB,nls_cls,nl_pd,nl_fn,nls_upT];(first|done|fail)))|refine MR.agg (MRL.cons ?_ ?_)|refine MR.fn ?_|refine MRL.cons ?_ ?_|exact MRL.nil|refine jE ?_ ?_|exact jF|exact jG|refine yb1 ?_ ?_|refine MB.row ?_|refine jI ?_ ?_|exact ya8|refine jJ rfl (by first|rfl|assumption|(simp only [znl,jO,nls_mapB,nls_cls,nl_pd,nl_fn,nls_upT];(first|done|fail)))|refine yb2 ?_|rfl)|(simp only [znl,jO,nls_mapB,nls_cls,nl_pd,nl_fn,nls_upT];(first|done|fail))|(simp only [↓reduceIte,zlk,Nat.reduceEqDiff,reduceCtorEq])|(with_reducible first|refine jJ ?_ ?_|refine ya5 ?_|refine ju ?_|refine jv ?_|refine jw ?_|refine jx ?_ (by first|rfl|assumption|(simp only [znl,jO,nls_mapB,nls_cls,nl_pd,nl_fn,nls_upT];(first|done|fail)))|refine jC ?_ (by first|rfl|assumption|(simp only [znl,jO,nls_mapB,nls_cls,nl_pd,nl_fn,nls_upT];(first|done|fail)))))))
    all_goals (first | rfl | (rw [htl]; done) | trace_state)
  by_cases hm : mayD ((d.bl.length - 33 : Nat) : Int) T = 0
  · rw [hm] at hM hR
    have hH := phead_spec T (mayD_hd (by omega) hm)
    repeat' (first|(with_reducible first|refine yrl (by constructor) ?_|refine jk (fun M hM=>?_)|(refine hM _ ?_;clear hM M)|refine xb3 (by decide) ?_|refine yqa (by assumption) ?_ ?_|refine yqb (by assumption) ?_ ?_)|((with_reducible refine je ?_)<;>(first|rfl|assumption|(simp only [znl,jO,nls_mapB,nls_cls,nl_pd,nl_fn,nls_upT];(first|done|fail))))|(with_reducible refine jf (by (simp only [↓reduceIte,zlk,Nat.reduceEqDiff,reduceCtorEq]);exact rfl) ?_)|((with_reducible first|refine jg (fun hc=>?_) (fun hc=>?_)|refine jh (fun hc=>?_) (fun hc=>?_))<;>(try simp (disch:=omega) only [zhb] at hc)<;>(try (exfalso;omega))<;>(try subst hc))|(with_reducible refine ji (by omega) ?_)|(simp (config := { maxSteps := 400000 }) only [↓jt,↓reduceIte,zvs,reduceCtorEq,Nat.reduceEqDiff,Nat.reduceAdd,Nat.reduceLeDiff,Nat.reduceMul,Int.reduceBNe,Int.reduceBEq,Int.reduceEq,Int.reduceNe,Int.reduceLT,Int.reduceLE,Int.reduceGT,Int.reduceGE,Int.reduceNeg,Int.reduceToNat,Nat.reduceLT,Nat.reduceSub,tab,encDr,Tryd.results46,List.toList_toArray])|(simp (disch:=omega) only [ziw]))
    all_goals first
      | (exfalso; omega)
      | (rw [hR, if_pos (.inr (by assumption))]; exact rdt_of rd_nil rfl)
      | (rw [hR, if_neg (by intro hq; rcases hq with hq | hq; exact hq rfl; first | exact hq rfl | exact hq (by assumption))]; exact rdt_of (Rd.refl _ _ hnw) rfl)
      | trace_state
  · rw [if_pos (.inl hm)] at hR
    repeat' (first|(with_reducible first|refine yrl (by constructor) ?_|refine jk (fun M hM=>?_)|(refine hM _ ?_;clear hM M)|refine xb3 (by decide) ?_|refine yqa (by assumption) ?_ ?_|refine yqb (by assumption) ?_ ?_)|((with_reducible refine je ?_)<;>(first|rfl|assumption|(simp only [znl,jO,nls_mapB,nls_cls,nl_pd,nl_fn,nls_upT];(first|done|fail))))|(with_reducible refine jf (by (simp only [↓reduceIte,zlk,Nat.reduceEqDiff,reduceCtorEq]);exact rfl) ?_)|((with_reducible first|refine jg (fun hc=>?_) (fun hc=>?_)|refine jh (fun hc=>?_) (fun hc=>?_))<;>(try simp (disch:=omega) only [zhb] at hc)<;>(try (exfalso;omega))<;>(try subst hc))|(with_reducible refine ji (by omega) ?_)|(simp (config := { maxSteps := 400000 }) only [↓jt,↓reduceIte,zvs,reduceCtorEq,Nat.reduceEqDiff,Nat.reduceAdd,Nat.reduceLeDiff,Nat.reduceMul,Int.reduceBNe,Int.reduceBEq,Int.reduceEq,Int.reduceNe,Int.reduceLT,Int.reduceLE,Int.reduceGT,Int.reduceGE,Int.reduceNeg,Int.reduceToNat,Nat.reduceLT,Nat.reduceSub,tab,encDr,Tryd.results46,List.toList_toArray])|(simp (disch:=omega) only [ziw]))
    all_goals first
      | (exfalso; omega)
      | (rw [hR]; exact rdt_of rd_nil rfl)
      | trace_state
def recD (d : Dr) : Dr × Int := if badD d ≠ 0 then (d, badD d) else if toldD d = [] then (d, 0) else runC d (homeC (toldD d))
theorem toldD_hd {d : Dr} (hb : badD d = 0) : HdR (toldD d) := by
  obtain ⟨c1, c2, c3⟩ := badD_ok hb
  unfold toldD
  dsimp only
  split
  · exact ⟨by simp, fun w hw => by cases hw⟩
  · split
    · exact ⟨by simp, fun w hw => by cases hw⟩
    · rename_i h
      exact mayD_hd (by omega) (Decidable.byContradiction fun h2 => h (.inl h2))
theorem rrecover_spec (d : Dr) {N : Nat} (hd : DOk N d) (hN : N < 2 ^ 30) : Spec Tryd.prog 23 [encDr d] (drV (recD d)) := by
  have hdf := hd.fit (show N < 2 ^ 36 by omega)
  have hB := rbad_spec d hdf
  have hT := rtold_spec d hd hN
  unfold toldB at hT
  unfold recD
  by_cases hb : badD d = 0
  case neg =>
    rw [if_pos hb]
    simp only [drV]
    refine spec_ok Tryd.func23 rfl rfl (by kernel_rfl) (k := 1) rfl (by decide) ?_
    repeat' (first|(with_reducible first|refine yrl (by constructor) ?_|refine jk (fun M hM=>?_)|(refine hM _ ?_;clear hM M)|refine xb3 (by decide) ?_|refine yqa (by assumption) ?_ ?_|refine yqb (by assumption) ?_ ?_)|((with_reducible refine je ?_)<;>(first|rfl|assumption|(simp only [znl,jO,nls_mapB,nls_cls,nl_pd,nl_fn,nls_upT];(first|done|fail))))|(with_reducible refine jf (by (simp only [↓reduceIte,zlk,Nat.reduceEqDiff,reduceCtorEq]);exact rfl) ?_)|((with_reducible first|refine jg (fun hc=>?_) (fun hc=>?_)|refine jh (fun hc=>?_) (fun hc=>?_))<;>(try simp (disch:=omega) only [zhb] at hc)<;>(try (exfalso;omega))<;>(try subst hc))|(with_reducible refine ji (by omega) ?_)|(simp (config := { maxSteps := 400000 }) only [↓jt,↓reduceIte,zvs,reduceCtorEq,Nat.reduceEqDiff,Nat.reduceAdd,Nat.reduceLeDiff,Nat.reduceMul,Int.reduceBNe,Int.reduceBEq,Int.reduceEq,Int.reduceNe,Int.reduceLT,Int.reduceLE,Int.reduceGT,Int.reduceGE,Int.reduceNeg,Int.reduceToNat,Nat.reduceLT,Nat.reduceSub,tab,Tryd.results23,List.toList_toArray])|(simp (disch:=omega) only [ziw]))
    all_goals first
      | (exfalso; omega)
      | (((try simp only [encDr,encWrs,List.map_nil]); simp only [zrds]; (repeat' (first | exact rd_nil | exact Rd.refl _ _ (by first|rfl|assumption|(simp only [znl,jO,nls_mapB,nls_cls,nl_pd,nl_fn,nls_upT];(first|done|fail))) | (refine And.intro ?_ ?_) | (refine rd_own (by (simp only [↓reduceIte,zlk,Nat.reduceEqDiff,reduceCtorEq]); exact rfl) ?_ ?_ ?_) | rfl | assumption | (simp only [znl,jO,nls_mapB,nls_cls,nl_pd,nl_fn,nls_upT];(first|done|fail)) | (simp; done) | (simp; omega)))); done)
      | trace_state
  rw [if_pos hb] at hT
  rw [hb] at hB ⊢
  rw [if_neg (fun h => h rfl)]
  have hH := toldD_hd hb
  obtain ⟨T, hTT⟩ : ∃ T, T = toldD d := ⟨_, rfl⟩
  rw [← hTT] at hT hH ⊢
  by_cases he : T = []
  · rw [if_pos he]
    subst he
    simp only [drV]
    refine spec_ok Tryd.func23 rfl rfl (by kernel_rfl) (k := 1) rfl (by decide) ?_
    repeat' (first|(with_reducible first|refine yrl (by constructor) ?_|refine jk (fun M hM=>?_)|(refine hM _ ?_;clear hM M)|refine xb3 (by decide) ?_|refine yqa (by assumption) ?_ ?_|refine yqb (by assumption) ?_ ?_)|((with_reducible refine je ?_)<;>(first|rfl|assumption|(simp only [znl,jO,nls_mapB,nls_cls,nl_pd,nl_fn,nls_upT];(first|done|fail))))|(with_reducible refine jf (by (simp only [↓reduceIte,zlk,Nat.reduceEqDiff,reduceCtorEq]);exact rfl) ?_)|((with_reducible first|refine jg (fun hc=>?_) (fun hc=>?_)|refine jh (fun hc=>?_) (fun hc=>?_))<;>(try simp (disch:=omega) only [zhb] at hc)<;>(try (exfalso;omega))<;>(try subst hc))|(with_reducible refine ji (by omega) ?_)|(simp (config := { maxSteps := 400000 }) only [↓jt,↓reduceIte,zvs,reduceCtorEq,Nat.reduceEqDiff,Nat.reduceAdd,Nat.reduceLeDiff,Nat.reduceMul,Int.reduceBNe,Int.reduceBEq,Int.reduceEq,Int.reduceNe,Int.reduceLT,Int.reduceLE,Int.reduceGT,Int.reduceGE,Int.reduceNeg,Int.reduceToNat,Nat.reduceLT,Nat.reduceSub,tab,Tryd.results23,List.toList_toArray])|(simp (disch:=omega) only [ziw]))
    all_goals first
      | (exfalso; omega)
      | (((try simp only [encDr,encWrs,List.map_nil]); simp only [zrds]; (repeat' (first | exact rd_nil | exact Rd.refl _ _ (by first|rfl|assumption|(simp only [znl,jO,nls_mapB,nls_cls,nl_pd,nl_fn,nls_upT];(first|done|fail))) | (refine And.intro ?_ ?_) | (refine rd_own (by (simp only [↓reduceIte,zlk,Nat.reduceEqDiff,reduceCtorEq]); exact rfl) ?_ ?_ ?_) | rfl | assumption | (simp only [znl,jO,nls_mapB,nls_cls,nl_pd,nl_fn,nls_upT];(first|done|fail)) | (simp; done) | (simp; omega)))); done)
      | trace_state
  rw [if_neg he]
  have hll : 0 < T.length := List.length_pos_iff.2 he
  have h32 := hH.len
  have hHm := rhome_spec d hd T hH.wok (by omega)
  obtain ⟨x, hx⟩ : ∃ x, x = runC d (homeC T) := ⟨_, rfl⟩
  rw [← hx] at hHm ⊢
  obtain ⟨y, e⟩ := x
  simp only [drV] at hHm ⊢
  refine spec_ok Tryd.func23 rfl rfl (by kernel_rfl) (k := 1) rfl (by decide) ?_
  repeat' (first|(with_reducible first|refine yrl (by constructor) ?_|refine jk (fun M hM=>?_)|(refine hM _ ?_;clear hM M)|refine xb3 (by decide) ?_|refine yqa (by assumption) ?_ ?_|refine yqb (by assumption) ?_ ?_)|((with_reducible refine je ?_)<;>(first|rfl|assumption|(simp only [znl,jO,nls_mapB,nls_cls,nl_pd,nl_fn,nls_upT];(first|done|fail))))|(with_reducible refine jf (by (simp only [↓reduceIte,zlk,Nat.reduceEqDiff,reduceCtorEq]);exact rfl) ?_)|((with_reducible first|refine jg (fun hc=>?_) (fun hc=>?_)|refine jh (fun hc=>?_) (fun hc=>?_))<;>(try simp (disch:=omega) only [zhb] at hc)<;>(try (exfalso;omega))<;>(try subst hc))|(with_reducible refine ji (by omega) ?_)|(simp (config := { maxSteps := 400000 }) only [↓jt,↓reduceIte,zvs,reduceCtorEq,Nat.reduceEqDiff,Nat.reduceAdd,Nat.reduceLeDiff,Nat.reduceMul,Int.reduceBNe,Int.reduceBEq,Int.reduceEq,Int.reduceNe,Int.reduceLT,Int.reduceLE,Int.reduceGT,Int.reduceGE,Int.reduceNeg,Int.reduceToNat,Nat.reduceLT,Nat.reduceSub,tab,Tryd.results23,List.toList_toArray])|(simp (disch:=omega) only [ziw]))
  all_goals first
    | (exfalso; omega)
    | (((try simp only [encDr,encWrs,List.map_nil]); simp only [zrds]; (repeat' (first | exact rd_nil | exact Rd.refl _ _ (by first|rfl|assumption|(simp only [znl,jO,nls_mapB,nls_cls,nl_pd,nl_fn,nls_upT];(first|done|fail))) | (refine And.intro ?_ ?_) | (refine rd_own (by (simp only [↓reduceIte,zlk,Nat.reduceEqDiff,reduceCtorEq]); exact rfl) ?_ ?_ ?_) | rfl | assumption | (simp only [znl,jO,nls_mapB,nls_cls,nl_pd,nl_fn,nls_upT];(first|done|fail)) | (simp; done) | (simp; omega)))); done)
    | trace_state
end Go.Proofs.YtcilmfhncjfdbaaDoor.V
end
section
/-
  WAL: Recover by the program; a volume, by both.
-/
set_option linter.unusedVariables false
set_option linter.unusedSimpArgs false
namespace Go.Proofs.YtcilmfhncjfdbaaDoor.V
open Go
set_option maxRecDepth 100000
set_option linter.defProp false in
def znHK := And.intro @jO <| And.intro @nls_mapB <| And.intro @nls_cls <| And.intro @nl_pd <| And.intro @nl_fn <| True.intro
set_option maxHeartbeats 4000000
theorem precover_spec (d : Dr) {N : Nat} (hd : DOk N d) (hN : N < 2 ^ 30) : Spec Tryd.prog 22 [encDr d] (drV (recD d)) := by
  have hdf := hd.fit (show N < 2 ^ 36 by omega)
  have hB := pbad_spec d hdf
  have hK := pcopied_spec d hdf
  unfold recD
  by_cases hb : badD d = 0
  case neg =>
    rw [if_pos hb]
    simp only [drV]
    refine spec_ok Tryd.func22 rfl rfl (by kernel_rfl) (k := 1) rfl (by decide) ?_
    repeat' (first|(with_reducible first|refine yrl (by constructor) ?_|refine jk (fun M hM=>?_)|(refine hM _ ?_;clear hM M)|refine xb3 (by decide) ?_|refine yqa (by assumption) ?_ ?_|refine yqb (by assumption) ?_ ?_)|((with_reducible refine je ?_)<;>(first|rfl|assumption|(simp only [znl,znHK];(first|done|fail))))|(with_reducible refine jf (by (simp only [↓reduceIte,zlk,Nat.reduceEqDiff,reduceCtorEq]);exact rfl) ?_)|((with_reducible first|refine jg (fun hc=>?_) (fun hc=>?_)|refine jh (fun hc=>?_) (fun hc=>?_))<;>(try simp (disch:=omega) only [zhb] at hc)<;>(try (exfalso;omega))<;>(try subst hc))|(with_reducible refine ji (by omega) ?_)|(simp (config := { maxSteps := 400000 }) only [↓jt,↓reduceIte,zvs,reduceCtorEq,Nat.reduceEqDiff,Nat.reduceAdd,Nat.reduceLeDiff,Nat.reduceMul,Int.reduceBNe,Int.reduceBEq,Int.reduceEq,Int.reduceNe,Int.reduceLT,Int.reduceLE,Int.reduceGT,Int.reduceGE,Int.reduceNeg,Int.reduceToNat,Nat.reduceLT,Nat.reduceSub,tab,Tryd.results22,List.toList_toArray])|(simp (disch:=omega) only [ziw]))
    all_goals first
      | (exfalso; omega)
      | (((try simp only [encDr,encWrs,List.map_nil]); simp only [zrds]; (repeat' (first | exact rd_nil | exact Rd.refl _ _ (by first|rfl|assumption|(simp only [znl,znHK];(first|done|fail))) | (refine And.intro ?_ ?_) | (refine rd_own (by (simp only [↓reduceIte,zlk,Nat.reduceEqDiff,reduceCtorEq]); exact rfl) ?_ ?_ ?_) | rfl | assumption | (simp only [znl,znHK];(first|done|fail)) | (simp; done) | (simp; omega)))); done)
      | trace_state
  have hT := ptold_spec d hd hN hb
  have hH := toldD_hd hb
  rw [hb] at hB ⊢
  rw [if_neg (fun h => h rfl)]
  obtain ⟨T, hTT⟩ : ∃ T, T = toldD d := ⟨_, rfl⟩
  rw [← hTT] at hT hH ⊢
  by_cases he : T = []
  · rw [if_pos he]
    subst he
    simp only [drV]
    refine spec_ok Tryd.func22 rfl rfl (by kernel_rfl) (k := 1) rfl (by decide) ?_
    repeat' (first|(with_reducible first|refine yrl (by constructor) ?_|refine jk (fun M hM=>?_)|(refine hM _ ?_;clear hM M)|refine xb3 (by decide) ?_|refine yqa (by assumption) ?_ ?_|refine yqb (by assumption) ?_ ?_)|((with_reducible refine je ?_)<;>(first|rfl|assumption|(simp only [znl,znHK];(first|done|fail))))|(with_reducible refine jf (by (simp only [↓reduceIte,zlk,Nat.reduceEqDiff,reduceCtorEq]);exact rfl) ?_)|((with_reducible first|refine jg (fun hc=>?_) (fun hc=>?_)|refine jh (fun hc=>?_) (fun hc=>?_))<;>(try simp (disch:=omega) only [zhb] at hc)<;>(try (exfalso;omega))<;>(try subst hc))|(with_reducible refine ji (by omega) ?_)|(simp (config := { maxSteps := 400000 }) only [↓jt,↓reduceIte,zvs,reduceCtorEq,Nat.reduceEqDiff,Nat.reduceAdd,Nat.reduceLeDiff,Nat.reduceMul,Int.reduceBNe,Int.reduceBEq,Int.reduceEq,Int.reduceNe,Int.reduceLT,Int.reduceLE,Int.reduceGT,Int.reduceGE,Int.reduceNeg,Int.reduceToNat,Nat.reduceLT,Nat.reduceSub,tab,Tryd.results22,List.toList_toArray])|(simp (disch:=omega) only [ziw]))
    all_goals first
      | (exfalso; omega)
      | (((try simp only [encDr,encWrs,List.map_nil]); simp only [zrds]; (repeat' (first | exact rd_nil | exact Rd.refl _ _ (by first|rfl|assumption|(simp only [znl,znHK];(first|done|fail))) | (refine And.intro ?_ ?_) | (refine rd_own (by (simp only [↓reduceIte,zlk,Nat.reduceEqDiff,reduceCtorEq]); exact rfl) ?_ ?_ ?_) | rfl | assumption | (simp only [znl,znHK];(first|done|fail)) | (simp; done) | (simp; omega)))); done)
      | trace_state
  rw [if_neg he]
  have hll : 0 < T.length := List.length_pos_iff.2 he
  have h32 := hH.len
  have hHo := phomeward_spec T (by omega) fun w hw => by have := hH.wr w hw; omega
  have hDn := pdone_spec d hd (homeC T) (by rw [homeC_len]; omega) (homeC_R hH.wok)
  obtain ⟨x, hx⟩ : ∃ x, x = runC d (homeC T) := ⟨_, rfl⟩
  rw [← hx] at hDn ⊢
  obtain ⟨y, e⟩ := x
  simp only [drV] at hDn ⊢
  refine spec_ok Tryd.func22 rfl rfl (by kernel_rfl) (k := 1) rfl (by decide) ?_
  repeat' (first|(with_reducible first|refine yrl (by constructor) ?_|refine jk (fun M hM=>?_)|(refine hM _ ?_;clear hM M)|refine xb3 (by decide) ?_|refine yqa (by assumption) ?_ ?_|refine yqb (by assumption) ?_ ?_)|((with_reducible refine je ?_)<;>(first|rfl|assumption|(simp only [znl,znHK];(first|done|fail))))|(with_reducible refine jf (by (simp only [↓reduceIte,zlk,Nat.reduceEqDiff,reduceCtorEq]);exact rfl) ?_)|((with_reducible first|refine jg (fun hc=>?_) (fun hc=>?_)|refine jh (fun hc=>?_) (fun hc=>?_))<;>(try simp (disch:=omega) only [zhb] at hc)<;>(try (exfalso;omega))<;>(try subst hc))|(with_reducible refine ji (by omega) ?_)|(simp (config := { maxSteps := 400000 }) only [↓jt,↓reduceIte,zvs,reduceCtorEq,Nat.reduceEqDiff,Nat.reduceAdd,Nat.reduceLeDiff,Nat.reduceMul,Int.reduceBNe,Int.reduceBEq,Int.reduceEq,Int.reduceNe,Int.reduceLT,Int.reduceLE,Int.reduceGT,Int.reduceGE,Int.reduceNeg,Int.reduceToNat,Nat.reduceLT,Nat.reduceSub,tab,Tryd.results22,List.toList_toArray])|(simp (disch:=omega) only [ziw]))
  all_goals (try (exfalso; omega))
  refine ok_drawC 6 (by kernel_rfl) (by decide +kernel) (by intro m hm; simp only [upd_ap,rows_cons,rows_nil]; (repeat (first | rfl | rw [if_neg (by omega)]))) (fun M hM => ?_); simp only [List.take_succ_cons,List.take_zero,List.drop_succ_cons,List.drop_zero]
  repeat' (first|(with_reducible first|refine yrl (by constructor) ?_|refine jk (fun M hM=>?_)|(refine hM _ ?_;clear hM M)|refine xb3 (by decide) ?_|refine yqa (by assumption) ?_ ?_|refine yqb (by assumption) ?_ ?_)|((with_reducible refine je ?_)<;>(first|rfl|assumption|(simp only [znl,znHK];(first|done|fail))))|(with_reducible refine jf (by (simp only [↓reduceIte,zlk,Nat.reduceEqDiff,reduceCtorEq]);exact rfl) ?_)|((with_reducible first|refine jg (fun hc=>?_) (fun hc=>?_)|refine jh (fun hc=>?_) (fun hc=>?_))<;>(try simp (disch:=omega) only [zhb] at hc)<;>(try (exfalso;omega))<;>(try subst hc))|(with_reducible refine ji (by omega) ?_)|(simp (config := { maxSteps := 400000 }) only [↓jt,↓reduceIte,zvs,reduceCtorEq,Nat.reduceEqDiff,Nat.reduceAdd,Nat.reduceLeDiff,Nat.reduceMul,Int.reduceBNe,Int.reduceBEq,Int.reduceEq,Int.reduceNe,Int.reduceLT,Int.reduceLE,Int.reduceGT,Int.reduceGE,Int.reduceNeg,Int.reduceToNat,Nat.reduceLT,Nat.reduceSub,tab,Tryd.results22,List.toList_toArray])|(simp (disch:=omega) only [ziw]))
  all_goals first
    | (exfalso; omega)
    | (((try simp only [encDr,encWrs,List.map_nil]); simp only [zrds]; (repeat' (first | exact rd_nil | exact Rd.refl _ _ (by first|rfl|assumption|(simp only [znl,znHK];(first|done|fail))) | (refine And.intro ?_ ?_) | (refine rd_own (by (simp only [↓reduceIte,zlk,Nat.reduceEqDiff,reduceCtorEq]); exact rfl) ?_ ?_ ?_) | rfl | assumption | (simp only [znl,znHK];(first|done|fail)) | (simp; done) | (simp; omega)))); done)
    | trace_state
def volV (d : Dr) : Frames := (List.range (d.bl.length - 33)).map fun i : Nat => gotF d (33 + i)
def volB (d : Dr) : Frames := if badD d = 0 then volV d else []
def volK (d : Dr) (k : Nat) : Frames := (List.range k).map fun i : Nat => gotF d (33 + i)
theorem volK_len (d : Dr) (k : Nat) : (volK d k).length = k := by simp [volK]
theorem volK_succ (d : Dr) (k : Nat) : (volK d k).map VV.str ++ [.str (gotF d (33 + k))] = (volK d (k + 1)).map VV.str := by simp [volK, List.range_succ]
theorem nls_frames (l : Frames) : nls (l.map .str) = true := nls_map _ (fun _ => rfl) l
theorem rhomeV_spec (d : Dr) {N : Nat} (hd : DOk N d) (hN : N < 2 ^ 30) : Spec Tryd.prog 18 [encDr d] (encStrs (volB d)) := by
  have hdf := hd.fit (show N < 2 ^ 36 by omega)
  have hB := rbad_spec d hdf
  unfold volB
  by_cases hb : badD d = 0
  case neg =>
    rw [if_neg hb]
    refine spec_ok Tryd.func18 rfl rfl (by kernel_rfl) (k := 1) rfl (by decide) ?_
    repeat' (first|(with_reducible first|refine yrl (by constructor) ?_|refine jk (fun M hM=>?_)|(refine hM _ ?_;clear hM M)|refine xb3 (by decide) ?_|refine yqa (by assumption) ?_ ?_|refine yqb (by assumption) ?_ ?_)|((with_reducible refine je ?_)<;>(first|rfl|assumption|(simp only [znl,znHK];(first|done|fail))))|(with_reducible refine jf (by (simp only [↓reduceIte,zlk,Nat.reduceEqDiff,reduceCtorEq]);exact rfl) ?_)|((with_reducible first|refine jg (fun hc=>?_) (fun hc=>?_)|refine jh (fun hc=>?_) (fun hc=>?_))<;>(try simp (disch:=omega) only [zhb] at hc)<;>(try (exfalso;omega))<;>(try subst hc))|(with_reducible refine ji (by omega) ?_)|(simp (config := { maxSteps := 400000 }) only [↓jt,↓reduceIte,zvs,reduceCtorEq,Nat.reduceEqDiff,Nat.reduceAdd,Nat.reduceLeDiff,Nat.reduceMul,Int.reduceBNe,Int.reduceBEq,Int.reduceEq,Int.reduceNe,Int.reduceLT,Int.reduceLE,Int.reduceGT,Int.reduceGE,Int.reduceNeg,Int.reduceToNat,Nat.reduceLT,Nat.reduceSub,tab,Tryd.results18,List.toList_toArray])|(simp (disch:=omega) only [ziw]))
    all_goals first
      | (exfalso; omega)
      | (refine rdt_of ?_ rfl; (refine rd_own (by (simp only [↓reduceIte,zlk,Nat.reduceEqDiff,reduceCtorEq]); exact rfl) ?_ ?_ ?_) <;> (first | rfl | assumption | (simp only [znl,znHK];(first|done|fail)) | (simp; done) | (simp; omega) | skip); done)
      | trace_state
  rw [hb] at hB
  rw [if_pos hb]
  obtain ⟨c1, c2, c3⟩ := badD_ok hb
  refine spec_ok Tryd.func18 rfl rfl (by kernel_rfl) (k := 1) rfl (by decide) ?_
  repeat' (first|(with_reducible first|refine yrl (by constructor) ?_|refine jk (fun M hM=>?_)|(refine hM _ ?_;clear hM M)|refine xb3 (by decide) ?_|refine yqa (by assumption) ?_ ?_|refine yqb (by assumption) ?_ ?_)|((with_reducible refine je ?_)<;>(first|rfl|assumption|(simp only [znl,znHK];(first|done|fail))))|(with_reducible refine jf (by (simp only [↓reduceIte,zlk,Nat.reduceEqDiff,reduceCtorEq]);exact rfl) ?_)|((with_reducible first|refine jg (fun hc=>?_) (fun hc=>?_)|refine jh (fun hc=>?_) (fun hc=>?_))<;>(try simp (disch:=omega) only [zhb] at hc)<;>(try (exfalso;omega))<;>(try subst hc))|(with_reducible refine ji (by omega) ?_)|(simp (config := { maxSteps := 400000 }) only [↓jt,↓reduceIte,zvs,reduceCtorEq,Nat.reduceEqDiff,Nat.reduceAdd,Nat.reduceLeDiff,Nat.reduceMul,Int.reduceBNe,Int.reduceBEq,Int.reduceEq,Int.reduceNe,Int.reduceLT,Int.reduceLE,Int.reduceGT,Int.reduceGE,Int.reduceNeg,Int.reduceToNat,Nat.reduceLT,Nat.reduceSub,tab,Tryd.results18,List.toList_toArray])|(simp (disch:=omega) only [ziw]))
  all_goals (try (exfalso; omega))
  refine ok_loop (fun k : Nat => ⟨slots [(1, .ptr 0 []), (3, .sl (some (1, [], 0)) k), (4, .int .i64 (33 + (k : Int)))], rows [(0, .row (.st [.cell, .cell, .cell]) (encDr d)), (1, .row (.arr k .cell) (.agg ((volK d k).map .str)))], 2⟩) (fun k => k ≤ d.bl.length - 33) (fun k => 1000 - k) 0 ?_ (Nat.zero_le _) (fun k hk => ?_)
  · (refine yrn [(0, 0), (1, 1)] false ?_ ?_<;>(repeat' (first|(with_reducible first|exact ya1|exact ya2|exact ya3|refine jx rfl (by first|rfl|assumption|(simp only [znl,znHK];(first|done|fail)))|exact ya5|exact ya7|exact jy|exact jz|refine jA ?_|refine ya9 ?_ ?_ ?_|refine jC rfl (by first|rfl|assumption|(simp only [znl,znHK];(first|done|fail)))|refine MR.agg (MRL.cons ?_ ?_)|refine MR.fn ?_|refine MRL.cons ?_ ?_|exact MRL.nil|refine jE ?_ ?_|exact jF|exact jG|refine yb1 ?_ ?_|refine MB.row ?_|refine jI ?_ ?_|exact ya8|refine jJ rfl (by first|rfl|assumption|(simp only [znl,znHK];(first|done|fail)))|refine yb2 ?_|rfl)|(simp only [znl,znHK];(first|done|fail))|(simp only [↓reduceIte,zlk,Nat.reduceEqDiff,reduceCtorEq])|(with_reducible first|refine jJ ?_ ?_|refine ya5 ?_|refine ju ?_|refine jv ?_|refine jw ?_|refine jx ?_ (by first|rfl|assumption|(simp only [znl,znHK];(first|done|fail)))|refine jC ?_ (by first|rfl|assumption|(simp only [znl,znHK];(first|done|fail)))))))
    all_goals (first | rfl | trace_state)
  have hkl := volK_len d k
  have hnf := nls_frames (volK d k)
  by_cases hlt : k < d.bl.length - 33
  · have hG : Spec Tryd.prog 41 [encDr d, .int .i64 (33 + (k : Int))] (.tup [.str (gotF d (33 + k)), .int .i64 0]) := by
      have := rget_spec d hdf (33 + (k : Int)) (by omega)
      have e := getV_got (d := d) (i := 33 + k) (by omega)
      rw [show ((33 + k : Nat) : Int) = 33 + (k : Int) from by omega] at e
      rwa [e] at this
    have hsn := volK_succ d k
    repeat' (first|(with_reducible first|refine yrl (by constructor) ?_|refine jk (fun M hM=>?_)|(refine hM _ ?_;clear hM M)|refine xb3 (by decide) ?_|refine yqa (by assumption) ?_ ?_|refine yqb (by assumption) ?_ ?_)|((with_reducible refine je ?_)<;>(first|rfl|assumption|(simp only [znl,znHK];(first|done|fail))))|(with_reducible refine jf (by (simp only [↓reduceIte,zlk,Nat.reduceEqDiff,reduceCtorEq]);exact rfl) ?_)|((with_reducible first|refine jg (fun hc=>?_) (fun hc=>?_)|refine jh (fun hc=>?_) (fun hc=>?_))<;>(try simp (disch:=omega) only [zhb] at hc)<;>(try (exfalso;omega))<;>(try subst hc))|(with_reducible refine ji (by omega) ?_)|(simp (config := { maxSteps := 400000 }) only [↓jt,↓reduceIte,zvs,reduceCtorEq,Nat.reduceEqDiff,Nat.reduceAdd,Nat.reduceLeDiff,Nat.reduceMul,Int.reduceBNe,Int.reduceBEq,Int.reduceEq,Int.reduceNe,Int.reduceLT,Int.reduceLE,Int.reduceGT,Int.reduceGE,Int.reduceNeg,Int.reduceToNat,Nat.reduceLT,Nat.reduceSub,tab,hkl,hsn,Tryd.results18,List.toList_toArray])|(simp (disch:=omega) only [ziw]))
    all_goals (try (exfalso; omega))
    refine xl1 (k + 1) ?_ (by show k + 1 ≤ d.bl.length - 33; omega) (by show 1000 - (k + 1) < 1000 - k; omega)
    (refine yrn [(0, 0), (1, 3)] false ?_ ?_<;>(repeat' (first|(with_reducible first|exact ya1|exact ya2|exact ya3|refine jx rfl (by first|rfl|assumption|(simp only [znl,znHK];(first|done|fail)))|exact ya5|exact ya7|exact jy|exact jz|refine jA ?_|refine ya9 ?_ ?_ ?_|refine jC rfl (by first|rfl|assumption|(simp only [znl,znHK];(first|done|fail)))|refine MR.agg (MRL.cons ?_ ?_)|refine MR.fn ?_|refine MRL.cons ?_ ?_|exact MRL.nil|refine jE ?_ ?_|exact jF|exact jG|refine yb1 ?_ ?_|refine MB.row ?_|refine jI ?_ ?_|exact ya8|refine jJ rfl (by first|rfl|assumption|(simp only [znl,znHK];(first|done|fail)))|refine yb2 ?_|rfl)|(simp only [znl,znHK];(first|done|fail))|(simp only [↓reduceIte,zlk,Nat.reduceEqDiff,reduceCtorEq])|(with_reducible first|refine jJ ?_ ?_|refine ya5 ?_|refine ju ?_|refine jv ?_|refine jw ?_|refine jx ?_ (by first|rfl|assumption|(simp only [znl,znHK];(first|done|fail)))|refine jC ?_ (by first|rfl|assumption|(simp only [znl,znHK];(first|done|fail)))))))
    all_goals (first | rfl | omega | trace_state)
  obtain rfl : k = d.bl.length - 33 := by omega
  have hvv : volV d = volK d (d.bl.length - 33) := rfl
  rw [hvv]
  repeat' (first|(with_reducible first|refine yrl (by constructor) ?_|refine jk (fun M hM=>?_)|(refine hM _ ?_;clear hM M)|refine xb3 (by decide) ?_|refine yqa (by assumption) ?_ ?_|refine yqb (by assumption) ?_ ?_)|((with_reducible refine je ?_)<;>(first|rfl|assumption|(simp only [znl,znHK];(first|done|fail))))|(with_reducible refine jf (by (simp only [↓reduceIte,zlk,Nat.reduceEqDiff,reduceCtorEq]);exact rfl) ?_)|((with_reducible first|refine jg (fun hc=>?_) (fun hc=>?_)|refine jh (fun hc=>?_) (fun hc=>?_))<;>(try simp (disch:=omega) only [zhb] at hc)<;>(try (exfalso;omega))<;>(try subst hc))|(with_reducible refine ji (by omega) ?_)|(simp (config := { maxSteps := 400000 }) only [↓jt,↓reduceIte,zvs,reduceCtorEq,Nat.reduceEqDiff,Nat.reduceAdd,Nat.reduceLeDiff,Nat.reduceMul,Int.reduceBNe,Int.reduceBEq,Int.reduceEq,Int.reduceNe,Int.reduceLT,Int.reduceLE,Int.reduceGT,Int.reduceGE,Int.reduceNeg,Int.reduceToNat,Nat.reduceLT,Nat.reduceSub,tab,hkl,Tryd.results18,List.toList_toArray])|(simp (disch:=omega) only [ziw]))
  all_goals first
    | (exfalso; omega)
    | (refine rdt_of ?_ rfl; (refine rd_own (by (simp only [↓reduceIte,zlk,Nat.reduceEqDiff,reduceCtorEq]); exact rfl) ?_ ?_ ?_) <;> (first | rfl | assumption | (simp only [znl,znHK];(first|done|fail)) | (simp; done) | (simp; omega) | skip); all_goals (first | (rw [List.length_map, hkl]; done) | trace_state); done)
    | trace_state
def volW (d : Dr) (k : Nat) : Frames := (flushB (d.pe.take k) d.bl).drop 33
theorem volW_len (d : Dr) (k : Nat) : (volW d k).length = d.bl.length - 33 := by rw [volW, List.length_drop, flushB_len]
theorem volW_zero (d : Dr) : volW d 0 = d.bl.drop 33 := rfl
theorem drop_set_hi {α : Type} (l : List α) {n i : Nat} (x : α) (h : n ≤ i) : (l.set i x).drop n = (l.drop n).set (i - n) x := by
  rw [List.set_drop, Nat.add_sub_cancel' h]
theorem volW_in {d : Dr} {k : Nat} (hk : k < d.pe.length) (h0 : 33 ≤ (d.pe.getD k default).b) (h1 : (d.pe.getD k default).b < d.bl.length) : volW d (k + 1) = (volW d k).set ((d.pe.getD k default).b.toNat - 33) (d.pe.getD k default).d := by
  unfold volW
  rw [← take_snocW d.pe hk, flushB_snoc, wrB, if_pos ⟨by omega, by rw [flushB_len]; omega⟩, drop_set_hi _ _ (by omega)]
theorem volW_out {d : Dr} {k : Nat} (hk : k < d.pe.length) (h0 : (d.pe.getD k default).b < 33) : volW d (k + 1) = volW d k := by
  unfold volW
  rw [← take_snocW d.pe hk, flushB_snoc, wrB]
  split
  · rw [List.drop_set_of_lt (by omega)]
  · rfl
theorem volW_all {d : Dr} : volW d d.pe.length = volV d := by
  unfold volW volV
  rw [List.take_length]
  refine List.ext_getElem (by rw [List.length_drop, flushB_len]; simp) fun i h1 h2 => ?_
  rw [List.length_drop, flushB_len] at h1
  simp only [List.getElem_drop,List.getElem_map,List.getElem_range]
  have e := flushB_get d.pe d.bl (33 + i) (by omega)
  rw [List.getD_eq_getElem?_getD, List.getElem?_eq_getElem (by rw [flushB_len]; omega)] at e
  exact e
theorem phomeV_spec (d : Dr) {N : Nat} (hd : DOk N d) (hN : N < 2 ^ 30) : Spec Tryd.prog 13 [encDr d] (encStrs (volB d)) := by
  have hdf := hd.fit (show N < 2 ^ 36 by omega)
  have hB := pbad_spec d hdf
  unfold volB
  by_cases hb : badD d = 0
  case neg =>
    rw [if_neg hb]
    refine spec_ok Tryd.func13 rfl rfl (by kernel_rfl) (k := 1) rfl (by decide) ?_
    repeat' (first|(with_reducible first|refine yrl (by constructor) ?_|refine jk (fun M hM=>?_)|(refine hM _ ?_;clear hM M)|refine xb3 (by decide) ?_|refine yqa (by assumption) ?_ ?_|refine yqb (by assumption) ?_ ?_)|((with_reducible refine je ?_)<;>(first|rfl|assumption|(simp only [znl,znHK];(first|done|fail))))|(with_reducible refine jf (by (simp only [↓reduceIte,zlk,Nat.reduceEqDiff,reduceCtorEq]);exact rfl) ?_)|((with_reducible first|refine jg (fun hc=>?_) (fun hc=>?_)|refine jh (fun hc=>?_) (fun hc=>?_))<;>(try simp (disch:=omega) only [zhb] at hc)<;>(try (exfalso;omega))<;>(try subst hc))|(with_reducible refine ji (by omega) ?_)|(simp (config := { maxSteps := 400000 }) only [↓jt,↓reduceIte,zvs,reduceCtorEq,Nat.reduceEqDiff,Nat.reduceAdd,Nat.reduceLeDiff,Nat.reduceMul,Int.reduceBNe,Int.reduceBEq,Int.reduceEq,Int.reduceNe,Int.reduceLT,Int.reduceLE,Int.reduceGT,Int.reduceGE,Int.reduceNeg,Int.reduceToNat,Nat.reduceLT,Nat.reduceSub,tab,Tryd.results13,List.toList_toArray])|(simp (disch:=omega) only [ziw]))
    all_goals first
      | (exfalso; omega)
      | (exact rdt_of rd_nil rfl)
      | trace_state
  rw [hb] at hB
  rw [if_pos hb]
  obtain ⟨c1, c2, c3⟩ := badD_ok hb
  obtain ⟨g1, g2⟩ := checkD_ok c1
  have hpe := hd.pe
  have et : List.take (d.bl.length - 33) (List.drop 33 (d.bl.map VV.str)) = (volW d 0).map .str := by
    rw [List.take_of_length_le (by rw [List.length_drop, List.length_map]; exact Nat.le_refl _), volW_zero, List.map_drop]
  refine spec_ok Tryd.func13 rfl rfl (by kernel_rfl) (k := 1) rfl (by decide) ?_
  repeat' (first|(with_reducible first|refine yrl (by constructor) ?_|refine jk (fun M hM=>?_)|(refine hM _ ?_;clear hM M)|refine xb3 (by decide) ?_|refine yqa (by assumption) ?_ ?_|refine yqb (by assumption) ?_ ?_)|((with_reducible refine je ?_)<;>(first|rfl|assumption|(simp only [znl,znHK];(first|done|fail))))|(with_reducible refine jf (by (simp only [↓reduceIte,zlk,Nat.reduceEqDiff,reduceCtorEq]);exact rfl) ?_)|((with_reducible first|refine jg (fun hc=>?_) (fun hc=>?_)|refine jh (fun hc=>?_) (fun hc=>?_))<;>(try simp (disch:=omega) only [zhb] at hc)<;>(try (exfalso;omega))<;>(try subst hc))|(with_reducible refine ji (by omega) ?_)|(simp (config := { maxSteps := 400000 }) only [↓jt,↓reduceIte,zvs,reduceCtorEq,Nat.reduceEqDiff,Nat.reduceAdd,Nat.reduceLeDiff,Nat.reduceMul,Int.reduceBNe,Int.reduceBEq,Int.reduceEq,Int.reduceNe,Int.reduceLT,Int.reduceLE,Int.reduceGT,Int.reduceGE,Int.reduceNeg,Int.reduceToNat,Nat.reduceLT,Nat.reduceSub,tab,encDr,et,Tryd.results13,List.toList_toArray])|(simp (disch:=omega) only [ziw]))
  all_goals (try (exfalso; omega))
  refine ok_loop (fun k : Nat => ⟨slots [(3, .sl (some (1, [], 0)) (d.bl.length - 33)), (14, encWrs d.pe), (15, .int .i64 d.pe.length), (16, .int .i64 k)], rows [(1, .row (.arr (d.bl.length - 33) .cell) (.agg ((volW d k).map .str)))], 2⟩) (fun k => k ≤ d.pe.length) (fun k => d.pe.length - k) 0 ?_ (Nat.zero_le _) (fun k hk => ?_)
  · (refine yrn [(1, 1)] false ?_ ?_<;>(repeat' (first|(with_reducible first|exact ya1|exact ya2|exact ya3|refine jx rfl (by first|rfl|assumption|(simp only [znl,znHK];(first|done|fail)))|exact ya5|exact ya7|exact jy|exact jz|refine jA ?_|refine ya9 ?_ ?_ ?_|refine jC rfl (by first|rfl|assumption|(simp only [znl,znHK];(first|done|fail)))|refine MR.agg (MRL.cons ?_ ?_)|refine MR.fn ?_|refine MRL.cons ?_ ?_|exact MRL.nil|refine jE ?_ ?_|exact jF|exact jG|refine yb1 ?_ ?_|refine MB.row ?_|refine jI ?_ ?_|exact ya8|refine jJ rfl (by first|rfl|assumption|(simp only [znl,znHK];(first|done|fail)))|refine yb2 ?_|rfl)|(simp only [znl,znHK];(first|done|fail))|(simp only [↓reduceIte,zlk,Nat.reduceEqDiff,reduceCtorEq])|(with_reducible first|refine jJ ?_ ?_|refine ya5 ?_|refine ju ?_|refine jv ?_|refine jw ?_|refine jx ?_ (by first|rfl|assumption|(simp only [znl,znHK];(first|done|fail)))|refine jC ?_ (by first|rfl|assumption|(simp only [znl,znHK];(first|done|fail)))))))
    all_goals (first | rfl | exact volW_len _ _ | exact (volW_len _ _).symm | trace_state)
  have hvl := volW_len d k
  have hnf := nls_frames (volW d k)
  by_cases hlt : k < d.pe.length
  · obtain ⟨⟨q1, q2⟩, q3⟩ := g2 _ (getD_mem' hlt)
    by_cases h33 : 33 ≤ (d.pe.getD k default).b
    · have hs : ((volW d k).map VV.str).set ((d.pe.getD k default).b - 33).toNat (.str (d.pe.getD k default).d) = (volW d (k + 1)).map .str := by
        rw [volW_in hlt h33 q2, List.map_set, show ((d.pe.getD k default).b - 33).toNat = (d.pe.getD k default).b.toNat - 33 from by omega]
      repeat' (first|(with_reducible first|refine yrl (by constructor) ?_|refine jk (fun M hM=>?_)|(refine hM _ ?_;clear hM M)|refine xb3 (by decide) ?_|refine yqa (by assumption) ?_ ?_|refine yqb (by assumption) ?_ ?_)|((with_reducible refine je ?_)<;>(first|rfl|assumption|(simp only [znl,znHK];(first|done|fail))))|(with_reducible refine jf (by (simp only [↓reduceIte,zlk,Nat.reduceEqDiff,reduceCtorEq]);exact rfl) ?_)|((with_reducible first|refine jg (fun hc=>?_) (fun hc=>?_)|refine jh (fun hc=>?_) (fun hc=>?_))<;>(try simp (disch:=omega) only [zhb] at hc)<;>(try (exfalso;omega))<;>(try subst hc))|(with_reducible refine ji (by omega) ?_)|(simp (config := { maxSteps := 400000 }) only [↓jt,↓reduceIte,zvs,reduceCtorEq,Nat.reduceEqDiff,Nat.reduceAdd,Nat.reduceLeDiff,Nat.reduceMul,Int.reduceBNe,Int.reduceBEq,Int.reduceEq,Int.reduceNe,Int.reduceLT,Int.reduceLE,Int.reduceGT,Int.reduceGE,Int.reduceNeg,Int.reduceToNat,Nat.reduceLT,Nat.reduceSub,tab,encWr,hs,Tryd.results13,List.toList_toArray])|(simp (disch:=omega) only [ziw]))
      all_goals (try (exfalso; omega))
      refine xl1 (k + 1) ?_ (by show k + 1 ≤ d.pe.length; omega) (by show d.pe.length - (k + 1) < d.pe.length - k; omega)
      (refine yrn [(1, 1)] false ?_ ?_<;>(repeat' (first|(with_reducible first|exact ya1|exact ya2|exact ya3|refine jx rfl (by first|rfl|assumption|(simp only [znl,znHK];(first|done|fail)))|exact ya5|exact ya7|exact jy|exact jz|refine jA ?_|refine ya9 ?_ ?_ ?_|refine jC rfl (by first|rfl|assumption|(simp only [znl,znHK];(first|done|fail)))|refine MR.agg (MRL.cons ?_ ?_)|refine MR.fn ?_|refine MRL.cons ?_ ?_|exact MRL.nil|refine jE ?_ ?_|exact jF|exact jG|refine yb1 ?_ ?_|refine MB.row ?_|refine jI ?_ ?_|exact ya8|refine jJ rfl (by first|rfl|assumption|(simp only [znl,znHK];(first|done|fail)))|refine yb2 ?_|rfl)|(simp only [znl,znHK];(first|done|fail))|(simp only [↓reduceIte,zlk,Nat.reduceEqDiff,reduceCtorEq])|(with_reducible first|refine jJ ?_ ?_|refine ya5 ?_|refine ju ?_|refine jv ?_|refine jw ?_|refine jx ?_ (by first|rfl|assumption|(simp only [znl,znHK];(first|done|fail)))|refine jC ?_ (by first|rfl|assumption|(simp only [znl,znHK];(first|done|fail)))))))
      all_goals (first | rfl | trace_state)
    · have hs := volW_out hlt (by omega)
      repeat' (first|(with_reducible first|refine yrl (by constructor) ?_|refine jk (fun M hM=>?_)|(refine hM _ ?_;clear hM M)|refine xb3 (by decide) ?_|refine yqa (by assumption) ?_ ?_|refine yqb (by assumption) ?_ ?_)|((with_reducible refine je ?_)<;>(first|rfl|assumption|(simp only [znl,znHK];(first|done|fail))))|(with_reducible refine jf (by (simp only [↓reduceIte,zlk,Nat.reduceEqDiff,reduceCtorEq]);exact rfl) ?_)|((with_reducible first|refine jg (fun hc=>?_) (fun hc=>?_)|refine jh (fun hc=>?_) (fun hc=>?_))<;>(try simp (disch:=omega) only [zhb] at hc)<;>(try (exfalso;omega))<;>(try subst hc))|(with_reducible refine ji (by omega) ?_)|(simp (config := { maxSteps := 400000 }) only [↓jt,↓reduceIte,zvs,reduceCtorEq,Nat.reduceEqDiff,Nat.reduceAdd,Nat.reduceLeDiff,Nat.reduceMul,Int.reduceBNe,Int.reduceBEq,Int.reduceEq,Int.reduceNe,Int.reduceLT,Int.reduceLE,Int.reduceGT,Int.reduceGE,Int.reduceNeg,Int.reduceToNat,Nat.reduceLT,Nat.reduceSub,tab,encWr,Tryd.results13,List.toList_toArray])|(simp (disch:=omega) only [ziw]))
      all_goals (try (exfalso; omega))
      refine xl1 (k + 1) ?_ (by show k + 1 ≤ d.pe.length; omega) (by show d.pe.length - (k + 1) < d.pe.length - k; omega)
      (refine yrn [(1, 1)] false ?_ ?_<;>(repeat' (first|(with_reducible first|exact ya1|exact ya2|exact ya3|refine jx rfl (by first|rfl|assumption|(simp only [znl,znHK];(first|done|fail)))|exact ya5|exact ya7|exact jy|exact jz|refine jA ?_|refine ya9 ?_ ?_ ?_|refine jC rfl (by first|rfl|assumption|(simp only [znl,znHK];(first|done|fail)))|refine MR.agg (MRL.cons ?_ ?_)|refine MR.fn ?_|refine MRL.cons ?_ ?_|exact MRL.nil|refine jE ?_ ?_|exact jF|exact jG|refine yb1 ?_ ?_|refine MB.row ?_|refine jI ?_ ?_|exact ya8|refine jJ rfl (by first|rfl|assumption|(simp only [znl,znHK];(first|done|fail)))|refine yb2 ?_|rfl)|(simp only [znl,znHK];(first|done|fail))|(simp only [↓reduceIte,zlk,Nat.reduceEqDiff,reduceCtorEq])|(with_reducible first|refine jJ ?_ ?_|refine ya5 ?_|refine ju ?_|refine jv ?_|refine jw ?_|refine jx ?_ (by first|rfl|assumption|(simp only [znl,znHK];(first|done|fail)))|refine jC ?_ (by first|rfl|assumption|(simp only [znl,znHK];(first|done|fail)))))))
      all_goals (first | rfl | (rw [hs]; done) | trace_state)
  obtain rfl : k = d.pe.length := by omega
  rw [volW_all] at hvl hnf ⊢
  repeat' (first|(with_reducible first|refine yrl (by constructor) ?_|refine jk (fun M hM=>?_)|(refine hM _ ?_;clear hM M)|refine xb3 (by decide) ?_|refine yqa (by assumption) ?_ ?_|refine yqb (by assumption) ?_ ?_)|((with_reducible refine je ?_)<;>(first|rfl|assumption|(simp only [znl,znHK];(first|done|fail))))|(with_reducible refine jf (by (simp only [↓reduceIte,zlk,Nat.reduceEqDiff,reduceCtorEq]);exact rfl) ?_)|((with_reducible first|refine jg (fun hc=>?_) (fun hc=>?_)|refine jh (fun hc=>?_) (fun hc=>?_))<;>(try simp (disch:=omega) only [zhb] at hc)<;>(try (exfalso;omega))<;>(try subst hc))|(with_reducible refine ji (by omega) ?_)|(simp (config := { maxSteps := 400000 }) only [↓jt,↓reduceIte,zvs,reduceCtorEq,Nat.reduceEqDiff,Nat.reduceAdd,Nat.reduceLeDiff,Nat.reduceMul,Int.reduceBNe,Int.reduceBEq,Int.reduceEq,Int.reduceNe,Int.reduceLT,Int.reduceLE,Int.reduceGT,Int.reduceGE,Int.reduceNeg,Int.reduceToNat,Nat.reduceLT,Nat.reduceSub,tab,Tryd.results13,List.toList_toArray])|(simp (disch:=omega) only [ziw]))
  all_goals first
    | (exfalso; omega)
    | (refine rdt_of ?_ rfl; (refine rd_own (by (simp only [↓reduceIte,zlk,Nat.reduceEqDiff,reduceCtorEq]); exact rfl) ?_ ?_ ?_) <;> (first | rfl | assumption | (simp only [znl,znHK];(first|done|fail)) | (simp; done) | (simp; omega) | skip); all_goals (first | (rw [List.length_map, hvl]; done) | trace_state); done)
    | trace_state
end Go.Proofs.YtcilmfhncjfdbaaDoor.V
end
