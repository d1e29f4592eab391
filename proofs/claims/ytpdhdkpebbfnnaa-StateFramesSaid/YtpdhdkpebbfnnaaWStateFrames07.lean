/-
  Parts of the proof of StateFrames: NR, M14, NS, P1, P2, P3, D4, D5, D6, Q1.
  Conditions: none.
-/
import Derived.Test.YtpdhdkpebbfnnaaWStateFrames06
import Derived.Test.YtpdhdkpebbfnnaaWStateFrames04
import Derived.Test.YtpdhdkpebbfnnaaWStateFrames05
set_option linter.unusedVariables false
set_option linter.unusedSimpArgs false
set_option linter.unusedSectionVars false
set_option linter.defProp false
section
namespace Go.Proofs.Ytpdhdkpebbfnnaa.V
open Go
set_option maxRecDepth 100000
def znNR := And.intro @jO <| And.intro @jP <| And.intro @jQ <| And.intro @jR <| And.intro @jS <| And.intro @jT <| And.intro @jU <| True.intro
set_option maxHeartbeats 4000000
def placeI (l : List Pip) (id : Int) : Int := match l.findIdx? (fun p => decide (p.id = id)) with
  | some i => i
  | none => -1
theorem placeI_hit {l : List Pip} {id : Int} {k : Nat} (h : k < l.length) (hn : ∀ j, j < k → (l.getD j default).id ≠ id) (hk : (l.getD k default).id = id) : placeI l id = k := by
  unfold placeI
  rw [show l.findIdx? (fun p => decide (p.id = id)) = some k from ?_]
  rw [List.findIdx?_eq_some_iff_getElem]
  refine ⟨h, ?_, fun j hj => ?_⟩
  · rw [List.getD_eq_getElem?_getD, List.getElem?_eq_getElem h] at hk
    simpa using hk
  · have := hn j hj
    rw [List.getD_eq_getElem?_getD, List.getElem?_eq_getElem (by omega)] at this
    simpa using this
theorem placeI_miss {l : List Pip} {id : Int} (hn : ∀ j, j < l.length → (l.getD j default).id ≠ id) : placeI l id = -1 := by
  unfold placeI
  rw [show l.findIdx? (fun p => decide (p.id = id)) = none from ?_]
  rw [List.findIdx?_eq_none_iff]
  intro x hx
  obtain ⟨j, hj, rfl⟩ := List.mem_iff_getElem.1 hx
  have := hn j hj
  rw [List.getD_eq_getElem?_getD, List.getElem?_eq_getElem hj] at this
  simpa using this
theorem placeI_pipe {l : List Pip} {id : Int} (h : (pipeO l id).isSome = true) : 0 ≤ placeI l id := by
  unfold placeI
  cases hf : l.findIdx? (fun p => decide (p.id = id)) with
  | some i => exact Int.natCast_nonneg i
  | none =>
    rw [List.findIdx?_eq_none_iff] at hf
    unfold pipeO at h
    rw [List.find?_isSome] at h
    obtain ⟨x, hx, h2⟩ := h
    rw [hf x hx] at h2
    cases h2
theorem place_spec (m : Mach) (hm : MFit 20000 m) (id : Int) (hp : i64R id) : Spec Try.prog 108 [encM m, .int .i64 id] (.int .i64 (placeI m.pipes id)) := by
  obtain ⟨R, hR⟩ : ∃ R, R = placeI m.pipes id := ⟨_, rfl⟩
  rw [← hR]
  have hl := hm.pipes
  have hpR := hm.pipesR
  obtain ⟨hp1, hp2⟩ := hp
  refine spec_ok Try.func108 rfl rfl (by kernel_rfl) (k := 2) rfl (by decide) ?_
  repeat' (first|(with_reducible first|refine yrl (by constructor) ?_|refine jk (fun M hM=>?_)|(refine hM _ ?_;clear hM M)|refine xb3 (by decide) ?_|refine yqa (by assumption) ?_ ?_|refine yqb (by assumption) ?_ ?_)|((with_reducible refine je ?_)<;>(first|rfl|assumption|(simp only [znl,znNR];(first|done|fail))))|(with_reducible refine jf (by (simp only [↓reduceIte,zlk,Nat.reduceEqDiff,reduceCtorEq]);exact rfl) ?_)|((with_reducible first|refine jg (fun hc=>?_) (fun hc=>?_)|refine jh (fun hc=>?_) (fun hc=>?_))<;>(try simp (disch:=omega) only [zhb] at hc)<;>(try (exfalso;omega))<;>(try subst hc))|(with_reducible refine ji (by omega) ?_)|(simp (config := { maxSteps := 400000 }) only [↓jt,↓reduceIte,zvs,reduceCtorEq,Nat.reduceEqDiff,Nat.reduceAdd,Nat.reduceLeDiff,Nat.reduceMul,Int.reduceBNe,Int.reduceBEq,Int.reduceEq,Int.reduceNe,Int.reduceLT,Int.reduceLE,Int.reduceGT,Int.reduceGE,Int.reduceNeg,Int.reduceToNat,Nat.reduceLT,Nat.reduceSub,tab,Try.results108,jTA])|(simp (disch:=omega) only [ziw]))
  refine ja (ok_body Try.func134 rfl rfl (by kernel_rfl) (k := 2) (by rfl) (by decide) ?_)
  repeat' (first|(with_reducible first|refine yrl (by constructor) ?_|refine jk (fun M hM=>?_)|(refine hM _ ?_;clear hM M)|refine xb3 (by decide) ?_|refine yqa (by assumption) ?_ ?_|refine yqb (by assumption) ?_ ?_)|((with_reducible refine je ?_)<;>(first|rfl|assumption|(simp only [znl,znNR];(first|done|fail))))|(with_reducible refine jf (by (simp only [↓reduceIte,zlk,Nat.reduceEqDiff,reduceCtorEq]);exact rfl) ?_)|((with_reducible first|refine jg (fun hc=>?_) (fun hc=>?_)|refine jh (fun hc=>?_) (fun hc=>?_))<;>(try simp (disch:=omega) only [zhb] at hc)<;>(try (exfalso;omega))<;>(try subst hc))|(with_reducible refine ji (by omega) ?_)|(simp (config := { maxSteps := 400000 }) only [↓jt,↓reduceIte,zvs,reduceCtorEq,Nat.reduceEqDiff,Nat.reduceAdd,Nat.reduceLeDiff,Nat.reduceMul,Int.reduceBNe,Int.reduceBEq,Int.reduceEq,Int.reduceNe,Int.reduceLT,Int.reduceLE,Int.reduceGT,Int.reduceGE,Int.reduceNeg,Int.reduceToNat,Nat.reduceLT,Nat.reduceSub,tab,Try.results134, List.toList_toArray])|(simp (disch:=omega) only [ziw]))
  refine ok_loop (fun k : Nat => ⟨slots [(0, encPis m.pipes), (1, .fn 135 [.ptr 1 []]), (6, encPis m.pipes), (7, .int .i64 m.pipes.length), (8, .int .i64 k)], rows [(0, .row machSh (encM m)), (1, .row .cell (.int .i64 id))], 2⟩) (fun k => k ≤ m.pipes.length ∧ ∀ j, j < k → (m.pipes.getD j default).id ≠ id) (fun k => m.pipes.length - k) 0 ?_ ⟨Nat.zero_le _, fun j hj => by omega⟩ (fun k hk => ?_)
  · (refine yrn [] false ?_ ?_<;>(repeat' (first|(with_reducible first|exact ya1|exact ya2|exact ya3|refine jx rfl (by first|rfl|assumption|(simp only [znl,znNR];(first|done|fail)))|exact ya5|exact ya7|exact jy|exact jz|refine jA ?_|refine ya9 ?_ ?_ ?_|refine jC rfl (by first|rfl|assumption|(simp only [znl,znNR];(first|done|fail)))|refine MR.agg (MRL.cons ?_ ?_)|refine MR.fn ?_|refine MRL.cons ?_ ?_|exact MRL.nil|refine jE ?_ ?_|exact jF|exact jG|refine yb1 ?_ ?_|refine MB.row ?_|refine jI ?_ ?_|exact ya8|refine jJ rfl (by first|rfl|assumption|(simp only [znl,znNR];(first|done|fail)))|refine yb2 ?_|rfl)|(simp only [znl,znNR];(first|done|fail))|(simp only [↓reduceIte,zlk,Nat.reduceEqDiff,reduceCtorEq])|(with_reducible first|refine jJ ?_ ?_|refine ya5 ?_|refine ju ?_|refine jv ?_|refine jw ?_|refine jx ?_ (by first|rfl|assumption|(simp only [znl,znNR];(first|done|fail)))|refine jC ?_ (by first|rfl|assumption|(simp only [znl,znNR];(first|done|fail)))))))
    all_goals (first | rfl)
  obtain ⟨hk, hn⟩ := hk
  by_cases hlt : k < m.pipes.length
  · obtain ⟨⟨p1, p2⟩, p3⟩ := hpR _ (getD_mem' hlt)
    by_cases hq : (m.pipes.getD k default).id = id
    · have eR : R = k := by rw [hR, placeI_hit hlt hn hq]
      clear hR
      repeat' (first|(with_reducible first|refine yrl (by constructor) ?_|refine jk (fun M hM=>?_)|(refine hM _ ?_;clear hM M)|refine xb3 (by decide) ?_|refine yqa (by assumption) ?_ ?_|refine yqb (by assumption) ?_ ?_)|((with_reducible refine je ?_)<;>(first|rfl|assumption|(simp only [znl,znNR];(first|done|fail))))|(with_reducible refine jf (by (simp only [↓reduceIte,zlk,Nat.reduceEqDiff,reduceCtorEq]);exact rfl) ?_)|((with_reducible first|refine jg (fun hc=>?_) (fun hc=>?_)|refine jh (fun hc=>?_) (fun hc=>?_))<;>(try simp (disch:=omega) only [zhb] at hc)<;>(try (exfalso;omega))<;>(try subst hc))|(with_reducible refine ji (by omega) ?_)|(simp (config := { maxSteps := 400000 }) only [↓jt,↓reduceIte,zvs,reduceCtorEq,Nat.reduceEqDiff,Nat.reduceAdd,Nat.reduceLeDiff,Nat.reduceMul,Int.reduceBNe,Int.reduceBEq,Int.reduceEq,Int.reduceNe,Int.reduceLT,Int.reduceLE,Int.reduceGT,Int.reduceGE,Int.reduceNeg,Int.reduceToNat,Nat.reduceLT,Nat.reduceSub,tab,encPi,Try.results134, List.toList_toArray])|(simp (disch:=omega) only [ziw]))
      refine ja (ok_body Try.func135 rfl rfl (by kernel_rfl) (k := 2) (by rfl) (by decide) ?_)
      repeat' (first|(with_reducible first|refine yrl (by constructor) ?_|refine jk (fun M hM=>?_)|(refine hM _ ?_;clear hM M)|refine xb3 (by decide) ?_|refine yqa (by assumption) ?_ ?_|refine yqb (by assumption) ?_ ?_)|((with_reducible refine je ?_)<;>(first|rfl|assumption|(simp only [znl,znNR];(first|done|fail))))|(with_reducible refine jf (by (simp only [↓reduceIte,zlk,Nat.reduceEqDiff,reduceCtorEq]);exact rfl) ?_)|((with_reducible first|refine jg (fun hc=>?_) (fun hc=>?_)|refine jh (fun hc=>?_) (fun hc=>?_))<;>(try simp (disch:=omega) only [zhb] at hc)<;>(try (exfalso;omega))<;>(try subst hc))|(with_reducible refine ji (by omega) ?_)|(simp (config := { maxSteps := 400000 }) only [↓jt,↓reduceIte,zvs,reduceCtorEq,Nat.reduceEqDiff,Nat.reduceAdd,Nat.reduceLeDiff,Nat.reduceMul,Int.reduceBNe,Int.reduceBEq,Int.reduceEq,Int.reduceNe,Int.reduceLT,Int.reduceLE,Int.reduceGT,Int.reduceGE,Int.reduceNeg,Int.reduceToNat,Nat.reduceLT,Nat.reduceSub,tab,encPi,Try.results135,Try.results134, Try.results108, List.toList_toArray])|(simp (disch:=omega) only [ziw]))
      all_goals first
        | (exfalso; omega)
        | (rw [eR]; simp only [zrds]; done)
    · have hst : ∀ j, j < k + 1 → (m.pipes.getD j default).id ≠ id := fun j hj => by
        by_cases e : j = k
        · rw [e]; exact hq
        · exact hn j (by omega)
      repeat' (first|(with_reducible first|refine yrl (by constructor) ?_|refine jk (fun M hM=>?_)|(refine hM _ ?_;clear hM M)|refine xb3 (by decide) ?_|refine yqa (by assumption) ?_ ?_|refine yqb (by assumption) ?_ ?_)|((with_reducible refine je ?_)<;>(first|rfl|assumption|(simp only [znl,znNR];(first|done|fail))))|(with_reducible refine jf (by (simp only [↓reduceIte,zlk,Nat.reduceEqDiff,reduceCtorEq]);exact rfl) ?_)|((with_reducible first|refine jg (fun hc=>?_) (fun hc=>?_)|refine jh (fun hc=>?_) (fun hc=>?_))<;>(try simp (disch:=omega) only [zhb] at hc)<;>(try (exfalso;omega))<;>(try subst hc))|(with_reducible refine ji (by omega) ?_)|(simp (config := { maxSteps := 400000 }) only [↓jt,↓reduceIte,zvs,reduceCtorEq,Nat.reduceEqDiff,Nat.reduceAdd,Nat.reduceLeDiff,Nat.reduceMul,Int.reduceBNe,Int.reduceBEq,Int.reduceEq,Int.reduceNe,Int.reduceLT,Int.reduceLE,Int.reduceGT,Int.reduceGE,Int.reduceNeg,Int.reduceToNat,Nat.reduceLT,Nat.reduceSub,tab,encPi,Try.results134, List.toList_toArray])|(simp (disch:=omega) only [ziw]))
      refine ja (ok_body Try.func135 rfl rfl (by kernel_rfl) (k := 2) (by rfl) (by decide) ?_)
      repeat' (first|(with_reducible first|refine yrl (by constructor) ?_|refine jk (fun M hM=>?_)|(refine hM _ ?_;clear hM M)|refine xb3 (by decide) ?_|refine yqa (by assumption) ?_ ?_|refine yqb (by assumption) ?_ ?_)|((with_reducible refine je ?_)<;>(first|rfl|assumption|(simp only [znl,znNR];(first|done|fail))))|(with_reducible refine jf (by (simp only [↓reduceIte,zlk,Nat.reduceEqDiff,reduceCtorEq]);exact rfl) ?_)|((with_reducible first|refine jg (fun hc=>?_) (fun hc=>?_)|refine jh (fun hc=>?_) (fun hc=>?_))<;>(try simp (disch:=omega) only [zhb] at hc)<;>(try (exfalso;omega))<;>(try subst hc))|(with_reducible refine ji (by omega) ?_)|(simp (config := { maxSteps := 400000 }) only [↓jt,↓reduceIte,zvs,reduceCtorEq,Nat.reduceEqDiff,Nat.reduceAdd,Nat.reduceLeDiff,Nat.reduceMul,Int.reduceBNe,Int.reduceBEq,Int.reduceEq,Int.reduceNe,Int.reduceLT,Int.reduceLE,Int.reduceGT,Int.reduceGE,Int.reduceNeg,Int.reduceToNat,Nat.reduceLT,Nat.reduceSub,tab,encPi,Try.results135,Try.results134, Try.results108, List.toList_toArray])|(simp (disch:=omega) only [ziw]))
      all_goals first
        | (exfalso; omega)
        | (exfalso; exact hq rfl)
        | (refine xl1 (k + 1) ?_ ⟨by omega, hst⟩ (by show m.pipes.length - (k + 1) < m.pipes.length - k; omega); (refine yrn [] false ?_ ?_<;>(repeat' (first|(with_reducible first|exact ya1|exact ya2|exact ya3|refine jx rfl (by first|rfl|assumption|(simp only [znl,znNR];(first|done|fail)))|exact ya5|exact ya7|exact jy|exact jz|refine jA ?_|refine ya9 ?_ ?_ ?_|refine jC rfl (by first|rfl|assumption|(simp only [znl,znNR];(first|done|fail)))|refine MR.agg (MRL.cons ?_ ?_)|refine MR.fn ?_|refine MRL.cons ?_ ?_|exact MRL.nil|refine jE ?_ ?_|exact jF|exact jG|refine yb1 ?_ ?_|refine MB.row ?_|refine jI ?_ ?_|exact ya8|refine jJ rfl (by first|rfl|assumption|(simp only [znl,znNR];(first|done|fail)))|refine yb2 ?_|rfl)|(simp only [znl,znNR];(first|done|fail))|(simp only [↓reduceIte,zlk,Nat.reduceEqDiff,reduceCtorEq])|(with_reducible first|refine jJ ?_ ?_|refine ya5 ?_|refine ju ?_|refine jv ?_|refine jw ?_|refine jx ?_ (by first|rfl|assumption|(simp only [znl,znNR];(first|done|fail)))|refine jC ?_ (by first|rfl|assumption|(simp only [znl,znNR];(first|done|fail))))))); done)
  · obtain rfl : k = m.pipes.length := by omega
    have eR : R = -1 := by rw [hR, placeI_miss hn]
    clear hR
    repeat' (first|(with_reducible first|refine yrl (by constructor) ?_|refine jk (fun M hM=>?_)|(refine hM _ ?_;clear hM M)|refine xb3 (by decide) ?_|refine yqa (by assumption) ?_ ?_|refine yqb (by assumption) ?_ ?_)|((with_reducible refine je ?_)<;>(first|rfl|assumption|(simp only [znl,znNR];(first|done|fail))))|(with_reducible refine jf (by (simp only [↓reduceIte,zlk,Nat.reduceEqDiff,reduceCtorEq]);exact rfl) ?_)|((with_reducible first|refine jg (fun hc=>?_) (fun hc=>?_)|refine jh (fun hc=>?_) (fun hc=>?_))<;>(try simp (disch:=omega) only [zhb] at hc)<;>(try (exfalso;omega))<;>(try subst hc))|(with_reducible refine ji (by omega) ?_)|(simp (config := { maxSteps := 400000 }) only [↓jt,↓reduceIte,zvs,reduceCtorEq,Nat.reduceEqDiff,Nat.reduceAdd,Nat.reduceLeDiff,Nat.reduceMul,Int.reduceBNe,Int.reduceBEq,Int.reduceEq,Int.reduceNe,Int.reduceLT,Int.reduceLE,Int.reduceGT,Int.reduceGE,Int.reduceNeg,Int.reduceToNat,Nat.reduceLT,Nat.reduceSub,tab,Try.results134, Try.results108, List.toList_toArray])|(simp (disch:=omega) only [ziw]))
    all_goals first
      | (exfalso; omega)
      | (rw [eR]; simp only [zrds]; done)
theorem file_ok (m : Mach) (hm : MFit 20000 m) (f : Fdd) (hf : fdR f) (h : fdB m.pipes f = true) (h0 : ¬(f.kind = 0)) : Spec Try.prog 111 [encM m, encFd f] (.bool true) := by
  have hP := place_spec m hm f.n hf.2.1
  obtain ⟨⟨f1, f2⟩, ⟨f3, f4⟩, f5, f6⟩ := hf
  have hk : ((f.kind = 1 ∨ f.kind = 2) ∧ f.n = 0 ∧ f.pos = 0) ∨ (f.kind = 3 ∧ 1 ≤ f.n ∧ f.n ≤ 64 ∧ 0 ≤ f.pos ∧ f.pos ≤ 8960) ∨ ((f.kind = 4 ∨ f.kind = 5) ∧ f.pos = 0 ∧ 0 ≤ placeI m.pipes f.n) := by
    unfold fdB at h
    split at h
    · have := of_decide_eq_true h; omega
    · split at h
      · have := of_decide_eq_true h; omega
      · split at h
        · rw [Bool.and_eq_true] at h
          have h1 := of_decide_eq_true h.1
          have h2 := placeI_pipe h.2
          omega
        · cases h
  generalize placeI m.pipes f.n = pl at hP hk
  refine spec_ok Try.func111 rfl rfl (by kernel_rfl) (k := 2) rfl (by decide) ?_
  repeat' (first|(with_reducible first|refine yrl (by constructor) ?_|refine jk (fun M hM=>?_)|(refine hM _ ?_;clear hM M)|refine xb3 (by decide) ?_|refine yqa (by assumption) ?_ ?_|refine yqb (by assumption) ?_ ?_)|((with_reducible refine je ?_)<;>(first|rfl|assumption|(simp only [znl,znNR];(first|done|fail))))|(with_reducible refine jf (by (simp only [↓reduceIte,zlk,Nat.reduceEqDiff,reduceCtorEq]);exact rfl) ?_)|((with_reducible first|refine jg (fun hc=>?_) (fun hc=>?_)|refine jh (fun hc=>?_) (fun hc=>?_))<;>(try simp (disch:=omega) only [zhb] at hc)<;>(try (exfalso;omega))<;>(try subst hc))|(with_reducible refine ji (by omega) ?_)|(simp (config := { maxSteps := 400000 }) only [↓jt,↓reduceIte,zvs,reduceCtorEq,Nat.reduceEqDiff,Nat.reduceAdd,Nat.reduceLeDiff,Nat.reduceMul,Int.reduceBNe,Int.reduceBEq,Int.reduceEq,Int.reduceNe,Int.reduceLT,Int.reduceLE,Int.reduceGT,Int.reduceGE,Int.reduceNeg,Int.reduceToNat,Nat.reduceLT,Nat.reduceSub,tab,encFd,Try.results111,jTA])|(simp (disch:=omega) only [ziw]))
  all_goals first
    | (exfalso; omega)
    | (simp only [zrds]; done)
    | (simp only [zrds]; rw [Bool.eq_iff_iff]; simp only [beq_iff_eq,decide_eq_true_eq,true_iff,iff_true]; omega)
theorem parent_ok (m : Mach) (hm : MFit 20000 m) (p : Pr) (hp : PrR p) (h : livesB m.pr p.par = true ∨ (p.par = 0 ∧ livesP p = true)) : Spec Try.prog 110 [encM m, encPr p] (.bool true) := by
  have hl := hm.pr
  have hpR := hm.prR
  obtain ⟨hS1, hS2, hS3⟩ := pr3 hp
  have hL := slives_spec p hp
  simp only [encPr] at hL
  by_cases h1 : p.par = 0 ∧ livesP p = true
  · rw [h1.2] at hL
    have h1 := h1.1
    refine spec_ok Try.func110 rfl rfl (by kernel_rfl) (k := 2) rfl (by decide) ?_
    repeat' (first|(with_reducible first|refine yrl (by constructor) ?_|refine jk (fun M hM=>?_)|(refine hM _ ?_;clear hM M)|refine xb3 (by decide) ?_|refine yqa (by assumption) ?_ ?_|refine yqb (by assumption) ?_ ?_)|((with_reducible refine je ?_)<;>(first|rfl|assumption|(simp only [znl,znNR];(first|done|fail))))|(with_reducible refine jf (by (simp only [↓reduceIte,zlk,Nat.reduceEqDiff,reduceCtorEq]);exact rfl) ?_)|((with_reducible first|refine jg (fun hc=>?_) (fun hc=>?_)|refine jh (fun hc=>?_) (fun hc=>?_))<;>(try simp (disch:=omega) only [zhb] at hc)<;>(try (exfalso;omega))<;>(try subst hc))|(with_reducible refine ji (by omega) ?_)|(simp (config := { maxSteps := 400000 }) only [↓jt,↓reduceIte,zvs,reduceCtorEq,Nat.reduceEqDiff,Nat.reduceAdd,Nat.reduceLeDiff,Nat.reduceMul,Int.reduceBNe,Int.reduceBEq,Int.reduceEq,Int.reduceNe,Int.reduceLT,Int.reduceLE,Int.reduceGT,Int.reduceGE,Int.reduceNeg,Int.reduceToNat,Nat.reduceLT,Nat.reduceSub,tab,hS1,hS2,hS3,encPr,Try.results110,jTA])|(simp (disch:=omega) only [ziw]))
    all_goals first
      | (exfalso; omega)
      | (simp only [zrds]; done)
  · have h2 : livesB m.pr p.par = true := by
      rcases h with h | h
      · exact h
      · exact absurd h h1
    obtain ⟨b, hb⟩ : ∃ b, livesP p = b := ⟨_, rfl⟩
    rw [hb] at hL h1
    have h1 : b = true → p.par ≠ 0 := fun e h => h1 ⟨h, e⟩
    have hex : ∃ k, k < m.pr.length ∧ livesQ p.par (m.pr.getD k default) = true := by
      unfold livesB at h2
      rw [List.any_eq_true] at h2
      obtain ⟨x, hx, h3⟩ := h2
      obtain ⟨j, hj, rfl⟩ := List.mem_iff_getElem.1 hx
      refine ⟨j, hj, ?_⟩
      rw [List.getD_eq_getElem?_getD, List.getElem?_eq_getElem hj]
      exact h3
    cases b
    all_goals
      first | have h1 := h1 rfl | skip
      refine spec_ok Try.func110 rfl rfl (by kernel_rfl) (k := 2) rfl (by decide) ?_
      repeat' (first|(with_reducible first|refine yrl (by constructor) ?_|refine jk (fun M hM=>?_)|(refine hM _ ?_;clear hM M)|refine xb3 (by decide) ?_|refine yqa (by assumption) ?_ ?_|refine yqb (by assumption) ?_ ?_)|((with_reducible refine je ?_)<;>(first|rfl|assumption|(simp only [znl,znNR];(first|done|fail))))|(with_reducible refine jf (by (simp only [↓reduceIte,zlk,Nat.reduceEqDiff,reduceCtorEq]);exact rfl) ?_)|((with_reducible first|refine jg (fun hc=>?_) (fun hc=>?_)|refine jh (fun hc=>?_) (fun hc=>?_))<;>(try simp (disch:=omega) only [zhb] at hc)<;>(try (exfalso;omega))<;>(try subst hc))|(with_reducible refine ji (by omega) ?_)|(simp (config := { maxSteps := 400000 }) only [↓jt,↓reduceIte,zvs,reduceCtorEq,Nat.reduceEqDiff,Nat.reduceAdd,Nat.reduceLeDiff,Nat.reduceMul,Int.reduceBNe,Int.reduceBEq,Int.reduceEq,Int.reduceNe,Int.reduceLT,Int.reduceLE,Int.reduceGT,Int.reduceGE,Int.reduceNeg,Int.reduceToNat,Nat.reduceLT,Nat.reduceSub,tab,hS1,hS2,hS3,encPr,Try.results110,jTA])|(simp (disch:=omega) only [ziw]))
      all_goals (try (exfalso; omega))
      all_goals
        refine ja (ok_body Try.func47 rfl rfl (by kernel_rfl) (k := 2) (by rfl) (by decide) ?_)
        repeat' (first|(with_reducible first|refine yrl (by constructor) ?_|refine jk (fun M hM=>?_)|(refine hM _ ?_;clear hM M)|refine xb3 (by decide) ?_|refine yqa (by assumption) ?_ ?_|refine yqb (by assumption) ?_ ?_)|((with_reducible refine je ?_)<;>(first|rfl|assumption|(simp only [znl,znNR];(first|done|fail))))|(with_reducible refine jf (by (simp only [↓reduceIte,zlk,Nat.reduceEqDiff,reduceCtorEq]);exact rfl) ?_)|((with_reducible first|refine jg (fun hc=>?_) (fun hc=>?_)|refine jh (fun hc=>?_) (fun hc=>?_))<;>(try simp (disch:=omega) only [zhb] at hc)<;>(try (exfalso;omega))<;>(try subst hc))|(with_reducible refine ji (by omega) ?_)|(simp (config := { maxSteps := 400000 }) only [↓jt,↓reduceIte,zvs,reduceCtorEq,Nat.reduceEqDiff,Nat.reduceAdd,Nat.reduceLeDiff,Nat.reduceMul,Int.reduceBNe,Int.reduceBEq,Int.reduceEq,Int.reduceNe,Int.reduceLT,Int.reduceLE,Int.reduceGT,Int.reduceGE,Int.reduceNeg,Int.reduceToNat,Nat.reduceLT,Nat.reduceSub,tab,Try.results47, List.toList_toArray])|(simp (disch:=omega) only [ziw]))
        refine ja (ok_body Try.func53 rfl rfl (by kernel_rfl) (k := 2) (by rfl) (by decide) ?_)
        repeat' (first|(with_reducible first|refine yrl (by constructor) ?_|refine jk (fun M hM=>?_)|(refine hM _ ?_;clear hM M)|refine xb3 (by decide) ?_|refine yqa (by assumption) ?_ ?_|refine yqb (by assumption) ?_ ?_)|((with_reducible refine je ?_)<;>(first|rfl|assumption|(simp only [znl,znNR];(first|done|fail))))|(with_reducible refine jf (by (simp only [↓reduceIte,zlk,Nat.reduceEqDiff,reduceCtorEq]);exact rfl) ?_)|((with_reducible first|refine jg (fun hc=>?_) (fun hc=>?_)|refine jh (fun hc=>?_) (fun hc=>?_))<;>(try simp (disch:=omega) only [zhb] at hc)<;>(try (exfalso;omega))<;>(try subst hc))|(with_reducible refine ji (by omega) ?_)|(simp (config := { maxSteps := 400000 }) only [↓jt,↓reduceIte,zvs,reduceCtorEq,Nat.reduceEqDiff,Nat.reduceAdd,Nat.reduceLeDiff,Nat.reduceMul,Int.reduceBNe,Int.reduceBEq,Int.reduceEq,Int.reduceNe,Int.reduceLT,Int.reduceLE,Int.reduceGT,Int.reduceGE,Int.reduceNeg,Int.reduceToNat,Nat.reduceLT,Nat.reduceSub,tab,Try.results53, List.toList_toArray])|(simp (disch:=omega) only [ziw]))
        refine ok_loop (fun k : Nat => ⟨slots [(0, encPrs m.pr), (1, .fn 137 [.ptr 1 []]), (6, encPrs m.pr), (7, .int .i64 m.pr.length), (8, .int .i64 k)], rows [(0, .row machSh (encM m)), (1, .row prSh (encPrA p))], 2⟩) (fun k => k ≤ m.pr.length ∧ ∀ j, j < k → livesQ p.par (m.pr.getD j default) = false) (fun k => m.pr.length - k) 0 ?_ ⟨Nat.zero_le _, fun j hj => by omega⟩ (fun k hk => ?_)
        · (refine yrn [] false ?_ ?_<;>(repeat' (first|(with_reducible first|exact ya1|exact ya2|exact ya3|refine jx rfl (by first|rfl|assumption|(simp only [znl,znNR];(first|done|fail)))|exact ya5|exact ya7|exact jy|exact jz|refine jA ?_|refine ya9 ?_ ?_ ?_|refine jC rfl (by first|rfl|assumption|(simp only [znl,znNR];(first|done|fail)))|refine MR.agg (MRL.cons ?_ ?_)|refine MR.fn ?_|refine MRL.cons ?_ ?_|exact MRL.nil|refine jE ?_ ?_|exact jF|exact jG|refine yb1 ?_ ?_|refine MB.row ?_|refine jI ?_ ?_|exact ya8|refine jJ rfl (by first|rfl|assumption|(simp only [znl,znNR];(first|done|fail)))|refine yb2 ?_|rfl)|(simp only [znl,znNR];(first|done|fail))|(simp only [↓reduceIte,zlk,Nat.reduceEqDiff,reduceCtorEq])|(with_reducible first|refine jJ ?_ ?_|refine ya5 ?_|refine ju ?_|refine jv ?_|refine jw ?_|refine jx ?_ (by first|rfl|assumption|(simp only [znl,znNR];(first|done|fail)))|refine jC ?_ (by first|rfl|assumption|(simp only [znl,znNR];(first|done|fail)))))))
          all_goals (first | rfl)
        obtain ⟨hk, hn⟩ := hk
        obtain ⟨k0, hk0, hk1⟩ := hex
        have hlt : k < m.pr.length := by
          refine Decidable.byContradiction fun hc => ?_
          have := hn k0 (by omega)
          rw [hk1] at this; cases this
        have hb := hpR _ (getD_mem' hlt)
        obtain ⟨hT1, hT2, hT3⟩ := pr3 hb
        have hLq := slives_spec _ hb
        simp only [encPr] at hLq
        have hQd : livesQ p.par (m.pr.getD k default) = (decide ((m.pr.getD k default).pid = p.par) && livesP (m.pr.getD k default)) := rfl
        obtain ⟨c, hcc⟩ : ∃ c, livesP (m.pr.getD k default) = c := ⟨_, rfl⟩
        rw [hcc] at hLq hQd
        have hst : livesQ p.par (m.pr.getD k default) = false → ∀ j, j < k + 1 → livesQ p.par (m.pr.getD j default) = false := fun h j hj => by
          by_cases e : j = k
          · rw [e]; exact h
          · exact hn j (by omega)
        rw [hQd] at hst
        cases c
        all_goals
          repeat' (first|(with_reducible first|refine yrl (by constructor) ?_|refine jk (fun M hM=>?_)|(refine hM _ ?_;clear hM M)|refine xb3 (by decide) ?_|refine yqa (by assumption) ?_ ?_|refine yqb (by assumption) ?_ ?_)|((with_reducible refine je ?_)<;>(first|rfl|assumption|(simp only [znl,znNR];(first|done|fail))))|(with_reducible refine jf (by (simp only [↓reduceIte,zlk,Nat.reduceEqDiff,reduceCtorEq]);exact rfl) ?_)|((with_reducible first|refine jg (fun hc=>?_) (fun hc=>?_)|refine jh (fun hc=>?_) (fun hc=>?_))<;>(try simp (disch:=omega) only [zhb] at hc)<;>(try (exfalso;omega))<;>(try subst hc))|(with_reducible refine ji (by omega) ?_)|(simp (config := { maxSteps := 400000 }) only [↓jt,↓reduceIte,zvs,reduceCtorEq,Nat.reduceEqDiff,Nat.reduceAdd,Nat.reduceLeDiff,Nat.reduceMul,Int.reduceBNe,Int.reduceBEq,Int.reduceEq,Int.reduceNe,Int.reduceLT,Int.reduceLE,Int.reduceGT,Int.reduceGE,Int.reduceNeg,Int.reduceToNat,Nat.reduceLT,Nat.reduceSub,tab,hT1,hT2,hT3,encPr,Try.results53, List.toList_toArray])|(simp (disch:=omega) only [ziw]))
          refine ja (ok_body Try.func137 rfl rfl (by kernel_rfl) (k := 2) (by rfl) (by decide) ?_)
          repeat' (first|(with_reducible first|refine yrl (by constructor) ?_|refine jk (fun M hM=>?_)|(refine hM _ ?_;clear hM M)|refine xb3 (by decide) ?_|refine yqa (by assumption) ?_ ?_|refine yqb (by assumption) ?_ ?_)|((with_reducible refine je ?_)<;>(first|rfl|assumption|(simp only [znl,znNR];(first|done|fail))))|(with_reducible refine jf (by (simp only [↓reduceIte,zlk,Nat.reduceEqDiff,reduceCtorEq]);exact rfl) ?_)|((with_reducible first|refine jg (fun hc=>?_) (fun hc=>?_)|refine jh (fun hc=>?_) (fun hc=>?_))<;>(try simp (disch:=omega) only [zhb] at hc)<;>(try (exfalso;omega))<;>(try subst hc))|(with_reducible refine ji (by omega) ?_)|(simp (config := { maxSteps := 400000 }) only [↓jt,↓reduceIte,zvs,reduceCtorEq,Nat.reduceEqDiff,Nat.reduceAdd,Nat.reduceLeDiff,Nat.reduceMul,Int.reduceBNe,Int.reduceBEq,Int.reduceEq,Int.reduceNe,Int.reduceLT,Int.reduceLE,Int.reduceGT,Int.reduceGE,Int.reduceNeg,Int.reduceToNat,Nat.reduceLT,Nat.reduceSub,tab,hT1,hT2,hT3,encPr,Try.results137,Try.results53, Try.results47, Try.results110, List.toList_toArray])|(simp (disch:=omega) only [ziw]))
          all_goals first
            | (exfalso; omega)
            | (simp only [zrds]; done)
            | (simp only [zrds]; first | exact decide_eq_true (by omega) | exact (decide_eq_true (by omega)).symm)
            | (refine xl1 (k + 1) ?_ ⟨by omega, hst (by first | rfl | (rw [Bool.and_false]) | (rw [decide_eq_false (by omega)]; rfl))⟩ (by show m.pr.length - (k + 1) < m.pr.length - k; omega); (refine yrn [] false ?_ ?_<;>(repeat' (first|(with_reducible first|exact ya1|exact ya2|exact ya3|refine jx rfl (by first|rfl|assumption|(simp only [znl,znNR];(first|done|fail)))|exact ya5|exact ya7|exact jy|exact jz|refine jA ?_|refine ya9 ?_ ?_ ?_|refine jC rfl (by first|rfl|assumption|(simp only [znl,znNR];(first|done|fail)))|refine MR.agg (MRL.cons ?_ ?_)|refine MR.fn ?_|refine MRL.cons ?_ ?_|exact MRL.nil|refine jE ?_ ?_|exact jF|exact jG|refine yb1 ?_ ?_|refine MB.row ?_|refine jI ?_ ?_|exact ya8|refine jJ rfl (by first|rfl|assumption|(simp only [znl,znNR];(first|done|fail)))|refine yb2 ?_|rfl)|(simp only [znl,znNR];(first|done|fail))|(simp only [↓reduceIte,zlk,Nat.reduceEqDiff,reduceCtorEq])|(with_reducible first|refine jJ ?_ ?_|refine ya5 ?_|refine ju ?_|refine jv ?_|refine jw ?_|refine jx ?_ (by first|rfl|assumption|(simp only [znl,znNR];(first|done|fail)))|refine jC ?_ (by first|rfl|assumption|(simp only [znl,znNR];(first|done|fail))))))); done)
end Go.Proofs.Ytpdhdkpebbfnnaa.V
end
section
namespace Go.Proofs.Ytpdhdkpebbfnnaa.V
open Go
set_option maxRecDepth 100000
set_option maxHeartbeats 1000000
def setM (L : List Int) : List (VV × VV) := L.foldl (fun es f => mput es (.int .i64 f) (.bool true)) []
theorem mget_mput : ∀ (es : List (VV × VV)) (f g : Int), mget (mput es (.int .i64 f) (.bool true)) (.int .i64 g) = if g = f then some (.bool true) else mget es (.int .i64 g)
  | [], f, g => by
    simp only [mput,mget,keq,beq_iff_eq]
  | (k, v) :: es, f, g => by
    simp only [mput]
    by_cases h : keq (.int .i64 f) k = true
    · rw [if_pos h]
      simp only [mget]
      cases k <;> simp [keq] at h
      subst h
      simp only [keq,beq_iff_eq]
      split <;> rfl
    · rw [if_neg h]
      simp only [mget,mget_mput es f g]
      by_cases h2 : keq (.int .i64 g) k = true
      · rw [if_pos h2, if_pos h2]
        by_cases e : g = f
        · subst e; exact absurd h2 h
        · rw [if_neg e]
      · rw [if_neg h2, if_neg h2]
theorem setM_snoc (L : List Int) (f : Int) : mput (setM L) (.int .i64 f) (.bool true) = setM (L ++ [f]) := by
  simp [setM, List.foldl_append]
theorem mget_setM (f : Int) : ∀ (L : List Int) (es : List (VV × VV)), mget (L.foldl (fun es f => mput es (.int .i64 f) (.bool true)) es) (.int .i64 f) = if f ∈ L then some (.bool true) else mget es (.int .i64 f)
  | [], es => by simp
  | g :: L, es => by
    simp only [List.foldl_cons,mget_setM f L,mget_mput,List.mem_cons]
    by_cases h : f ∈ L
    · simp [h]
    · simp [h]
theorem look_setM (L : List Int) (f : Int) : (mget (setM L) (.int .i64 f)).getD (.bool false) = .bool (decide (f ∈ L)) := by
  rw [setM, mget_setM]
  by_cases h : f ∈ L <;> simp [h, mget]
theorem mput_keys : ∀ (es : List (VV × VV)) (f : Int), (es.all fun q => keyV (.int .i64) q.1) = true → ((mput es (.int .i64 f) (.bool true)).all fun q => keyV (.int .i64) q.1) = true
  | [], f, _ => by simp [mput, keyV]
  | (k, v) :: es, f, h => by
    simp only [List.all_cons,Bool.and_eq_true] at h
    simp only [mput]
    split
    · simp only [List.all_cons,Bool.and_eq_true]; exact h
    · simp only [List.all_cons,Bool.and_eq_true]; exact ⟨h.1, mput_keys es f h.2⟩
theorem keys_setM (L : List Int) : ((setM L).all fun q => keyV (.int .i64) q.1) = true := by
  have key : ∀ (L : List Int) (es : List (VV × VV)), (es.all fun q => keyV (.int .i64) q.1) = true → ((L.foldl (fun es f => mput es (.int .i64 f) (.bool true)) es).all fun q => keyV (.int .i64) q.1) = true := by
    intro L
    induction L with
    | nil => intro es h; exact h
    | cons g L ih => intro es h; exact ih _ (mput_keys es g h)
  exact key L [] rfl
theorem jV (L : List Int) : ((setM L).all fun q => nl q.1 && nl q.2) = true := by
  have hp : ∀ (es : List (VV × VV)) (f : Int), (es.all fun q => nl q.1 && nl q.2) = true → ((mput es (.int .i64 f) (.bool true)).all fun q => nl q.1 && nl q.2) = true := by
    intro es f
    induction es with
    | nil => intro _; simp [mput, nl]
    | cons x es ih =>
      obtain ⟨k, v⟩ := x
      intro h
      simp only [List.all_cons,Bool.and_eq_true] at h
      simp only [mput]
      split
      · simp only [List.all_cons,Bool.and_eq_true]; exact ⟨⟨h.1.1, by simp [nl]⟩, h.2⟩
      · simp only [List.all_cons,Bool.and_eq_true]; exact ⟨h.1, ih h.2⟩
  have key : ∀ (L : List Int) (es : List (VV × VV)), (es.all fun q => nl q.1 && nl q.2) = true → ((L.foldl (fun es f => mput es (.int .i64 f) (.bool true)) es).all fun q => nl q.1 && nl q.2) = true := by
    intro L
    induction L with
    | nil => intro es h; exact h
    | cons g L ih => intro es h; exact ih _ (hp es g h)
  exact key L [] rfl
def own (s : List Pte) (k : Nat) : List Int := ((s.take k).filter (·.is)).map (·.fr)
theorem own_succ (s : List Pte) (k : Nat) (h : k < s.length) : own s (k + 1) = own s k ++ if (s.getD k default).is = true then [(s.getD k default).fr] else [] := by
  have e : s.take (k + 1) = s.take k ++ [s.getD k default] := by
    rw [List.take_add_one, List.getElem?_eq_getElem h, List.getD_eq_getElem?_getD, List.getElem?_eq_getElem h]; rfl
  unfold own
  rw [e, List.filter_append, List.map_append]
  congr 1
  by_cases h2 : (s.getD k default).is = true
  · rw [if_pos h2, List.filter_cons_of_pos h2]; rfl
  · rw [if_neg h2, List.filter_cons_of_neg h2]; rfl
end Go.Proofs.Ytpdhdkpebbfnnaa.V
end
section
namespace Go.Proofs.Ytpdhdkpebbfnnaa.V
open Go
set_option maxRecDepth 100000
def znNS := And.intro @jO <| And.intro @jP <| And.intro @jQ <| And.intro @jR <| And.intro @jS <| And.intro @jT <| And.intro @jU <| And.intro @jV <| True.intro
set_option maxHeartbeats 8000000
theorem usersS_pos {f : Int} {s : List Pte} {j : Nat} (hj : j < s.length) (h1 : (s.getD j default).is = true) (h2 : (s.getD j default).fr = f) : 1 ≤ usersS f s :=
  List.countP_pos_iff.2 ⟨_, getD_mem' hj, by rw [h1, decide_eq_true h2]; rfl⟩
theorem usersS_app (f : Int) (a b : List Pte) : usersS f (a ++ b) = usersS f a + usersS f b := List.countP_append
theorem usersS_two {f : Int} {s : List Pte} {i j : Nat} (hij : i < j) (hj : j < s.length) (h1 : (s.getD i default).is = true) (h2 : (s.getD i default).fr = f) (h3 : (s.getD j default).is = true) (h4 : (s.getD j default).fr = f) : 2 ≤ usersS f s := by
  have e := usersS_app f (s.take j) (s.drop j)
  rw [List.take_append_drop] at e
  have ea : (s.take j).getD i default = s.getD i default := by
    rw [List.getD_eq_getElem?_getD, List.getElem?_take, if_pos hij, ← List.getD_eq_getElem?_getD]
  have eb : (s.drop j).getD 0 default = s.getD j default := by
    rw [List.getD_eq_getElem?_getD, List.getElem?_drop, Nat.add_zero, ← List.getD_eq_getElem?_getD]
  have a1 := usersS_pos (s := s.take j) (j := i) (f := f) (by rw [List.length_take]; omega) (by rw [ea]; exact h1) (by rw [ea]; exact h2)
  have a2 := usersS_pos (s := s.drop j) (j := 0) (f := f) (by rw [List.length_drop]; omega) (by rw [eb]; exact h3) (by rw [eb]; exact h4)
  omega
theorem usersN_app (f : Int) (a b : List Pr) : usersN (a ++ b) f = usersN a f + usersN b f := by simp [usersN]
theorem usersN_ge (f : Int) {l : List Pr} {p : Pr} (h : p ∈ l) : usersS f p.sp ≤ usersN l f := by
  obtain ⟨a, b, rfl⟩ := List.append_of_mem h
  rw [usersN_app]
  have : usersN (p :: b) f = usersS f p.sp + usersN b f := by simp [usersN]
  omega
theorem usersN_two (f : Int) {l : List Pr} {i k : Nat} (hik : i < k) (hk : k < l.length) : usersS f (l.getD i default).sp + usersS f (l.getD k default).sp ≤ usersN l f := by
  have e := usersN_app f (l.take k) (l.drop k)
  rw [List.take_append_drop] at e
  have ea : (l.take k).getD i default = l.getD i default := by
    rw [List.getD_eq_getElem?_getD, List.getElem?_take, if_pos hik, ← List.getD_eq_getElem?_getD]
  have eb : (l.drop k).getD 0 default = l.getD k default := by
    rw [List.getD_eq_getElem?_getD, List.getElem?_drop, Nat.add_zero, ← List.getD_eq_getElem?_getD]
  have a1 := usersN_ge f (getD_mem' (l := l.take k) (i := i) (by rw [List.length_take]; omega))
  have a2 := usersN_ge f (getD_mem' (l := l.drop k) (i := 0) (by rw [List.length_drop]; omega))
  rw [ea] at a1
  rw [eb] at a2
  omega
theorem mem_own' {s : List Pte} {f : Int} : ∀ {k : Nat}, k ≤ s.length → f ∈ own s k → ∃ j, j < k ∧ (s.getD j default).is = true ∧ (s.getD j default).fr = f := by
  intro k
  induction k with
  | zero => intro _ h; simp [own] at h
  | succ k ih =>
    intro hk h
    rw [own_succ s k (by omega), List.mem_append] at h
    rcases h with h | h
    · obtain ⟨j, h1, h2⟩ := ih (by omega) h
      exact ⟨j, by omega, h2⟩
    · split at h
      · rename_i hi
        rw [List.mem_singleton] at h
        exact ⟨k, by omega, hi, h.symm⟩
      · cases h
def metF (m : Mach) (k j : Nat) : List Int := ((m.pr.take k).flatMap fun p => own p.sp 16) ++ own (m.pr.getD k default).sp j
theorem metF_zero (m : Mach) : metF m 0 0 = [] := by simp [metF, own]
theorem metF_next {m : Mach} {k : Nat} (h : k < m.pr.length) : metF m (k + 1) 0 = metF m k 16 := by
  unfold metF
  rw [take_snoc m.pr k h, List.flatMap_append]
  simp [own]
theorem metF_in {m : Mach} {k j : Nat} (h : k < m.pr.length) (hj : j < (m.pr.getD k default).sp.length) (hi : ((m.pr.getD k default).sp.getD j default).is = true) : metF m k (j + 1) = metF m k j ++ [((m.pr.getD k default).sp.getD j default).fr] := by
  unfold metF
  rw [own_succ _ _ hj, if_pos hi, List.append_assoc]
theorem metF_out {m : Mach} {k j : Nat} (h : k < m.pr.length) (hj : j < (m.pr.getD k default).sp.length) (hi : ((m.pr.getD k default).sp.getD j default).is = false) : metF m k (j + 1) = metF m k j := by
  unfold metF
  rw [own_succ _ _ hj, if_neg (by rw [hi]; simp), List.append_nil]
theorem metF_new {m : Mach} {k j : Nat} (hR : ∀ p ∈ m.pr, PrR p) (h : k < m.pr.length) (hj : j < 16) (hi : ((m.pr.getD k default).sp.getD j default).is = true) (hu : usersN m.pr ((m.pr.getD k default).sp.getD j default).fr = 1) : ((m.pr.getD k default).sp.getD j default).fr ∉ metF m k j := by
  intro hm
  have hl := (hR _ (getD_mem' h)).sp
  have a1 := usersS_pos (s := (m.pr.getD k default).sp) (j := j) (by omega) hi rfl
  unfold metF at hm
  rcases List.mem_append.1 hm with hm | hm
  · obtain ⟨p, hp, h2⟩ := List.mem_flatMap.1 hm
    obtain ⟨i, hi2, e⟩ := List.mem_iff_getElem.1 hp
    have hik : i < k := by rw [List.length_take] at hi2; omega
    have e2 : p = m.pr.getD i default := by
      rw [← e, List.getElem_take, List.getD_eq_getElem?_getD, List.getElem?_eq_getElem (by omega)]; rfl
    have hl2 := (hR _ (getD_mem' (show i < m.pr.length by omega))).sp
    rw [e2] at h2
    obtain ⟨q, q1, q2, q3⟩ := mem_own' (by omega) h2
    have a2 := usersS_pos (s := (m.pr.getD i default).sp) (j := q) (by omega) q2 q3
    have a3 := usersN_two ((m.pr.getD k default).sp.getD j default).fr hik h
    omega
  · obtain ⟨q, q1, q2, q3⟩ := mem_own' (by omega) hm
    have a2 := usersS_two (f := ((m.pr.getD k default).sp.getD j default).fr) q1 (by omega) q2 q3 hi rfl
    have a3 := usersN_ge ((m.pr.getD k default).sp.getD j default).fr (getD_mem' h)
    omega
def lastQ (l : List Pr) : Nat → Int
  | 0 => 0
  | k + 1 => (l.getD k default).pid
theorem fit_fd (a b c : Int) : Fit (EQ.st [EQ.int .i64, EQ.int .i64, EQ.int .i64]) (.agg [.int .i64 a, .int .i64 b, .int .i64 c]) := by simp [Fit, FitL]
theorem veq_fd (a b c a' b' c' : Int) : veq (.agg [.int .i64 a, .int .i64 b, .int .i64 c]) (.agg [.int .i64 a', .int .i64 b', .int .i64 c']) = decide (a = a' ∧ b = b' ∧ c = c') := by
  simp only [veq,veqs,Bool.and_true]
  rw [Bool.eq_iff_iff]; simp
theorem procs_ok (m : Mach) (hm : MFit 20000 m) (h8 : m.pr.length ≤ 8) (hs : procsB m = true) : Spec Try.prog 75 [encM m] (.int .i64 0) := by
  have hpR := hm.prR
  have hfrl := hm.fr
  have hq : ∀ i, i < m.pr.length → procQ m i = true := fun i hi => (List.all_eq_true.1 hs) i (List.mem_range.2 hi)
  refine spec_ok Try.func75 rfl rfl (by kernel_rfl) (k := 1) rfl (by decide) ?_
  repeat' (first|(with_reducible first|refine yrl (by constructor) ?_|refine jk (fun M hM=>?_)|(refine hM _ ?_;clear hM M)|refine xb3 (by decide) ?_|refine yqa (by assumption) ?_ ?_|refine yqb (by assumption) ?_ ?_)|((with_reducible refine je ?_)<;>(first|rfl|assumption|(simp only [znl,znNS];(first|done|fail))))|(with_reducible refine jf (by (simp only [↓reduceIte,zlk,Nat.reduceEqDiff,reduceCtorEq]);exact rfl) ?_)|((with_reducible first|refine jg (fun hc=>?_) (fun hc=>?_)|refine jh (fun hc=>?_) (fun hc=>?_))<;>(try simp (disch:=omega) only [zhb] at hc)<;>(try (exfalso;omega))<;>(try subst hc))|(with_reducible refine ji (by omega) ?_)|(simp (config := { maxSteps := 400000 }) only [↓jt,↓reduceIte,zvs,reduceCtorEq,Nat.reduceEqDiff,Nat.reduceAdd,Nat.reduceLeDiff,Nat.reduceMul,Int.reduceBNe,Int.reduceBEq,Int.reduceEq,Int.reduceNe,Int.reduceLT,Int.reduceLE,Int.reduceGT,Int.reduceGE,Int.reduceNeg,Int.reduceToNat,Nat.reduceLT,Nat.reduceSub,tab,Try.results75,jTA])|(simp (disch:=omega) only [ziw]))
  all_goals (try (exfalso; omega))
  refine ok_loop (fun k : Nat => ⟨slots [(1, .ptr 0 []), (3, .map 1), (4, .int .i64 (lastQ m.pr k)), (17, encPrs m.pr), (18, .int .i64 m.pr.length), (19, .int .i64 k)], rows [(0, .row machSh (encM m)), (1, .map (setM (metF m k 0)))], 2⟩) (fun k => k ≤ m.pr.length) (fun k => m.pr.length - k) 0 ?_ (Nat.zero_le _) (fun k hk => ?_)
  · (refine yrn [(0, 0), (1, 1)] false ?_ ?_<;>(repeat' (first|(with_reducible first|exact ya1|exact ya2|exact ya3|refine jx rfl (by first|rfl|assumption|(simp only [znl,znNS];(first|done|fail)))|exact ya5|exact ya7|exact jy|exact jz|refine jA ?_|refine ya9 ?_ ?_ ?_|refine jC rfl (by first|rfl|assumption|(simp only [znl,znNS];(first|done|fail)))|refine MR.agg (MRL.cons ?_ ?_)|refine MR.fn ?_|refine MRL.cons ?_ ?_|exact MRL.nil|refine jE ?_ ?_|exact jF|exact jG|refine yb1 ?_ ?_|refine MB.row ?_|refine jI ?_ ?_|exact ya8|refine jJ rfl (by first|rfl|assumption|(simp only [znl,znNS];(first|done|fail)))|refine yb2 ?_|rfl)|(simp only [znl,znNS];(first|done|fail))|(simp only [↓reduceIte,zlk,Nat.reduceEqDiff,reduceCtorEq])|(with_reducible first|refine jJ ?_ ?_|refine ya5 ?_|refine ju ?_|refine jv ?_|refine jw ?_|refine jx ?_ (by first|rfl|assumption|(simp only [znl,znNS];(first|done|fail)))|refine jC ?_ (by first|rfl|assumption|(simp only [znl,znNS];(first|done|fail)))))))
    all_goals (first | rfl | (rw [metF_zero]; rfl))
  by_cases hlt : k < m.pr.length
  · have hb := hpR _ (getD_mem' hlt)
    obtain ⟨hS1, hS2, hS3⟩ := pr3 hb
    have hQ := procQ_pos (hq k hlt)
    have hlast : lastQ m.pr k < (m.pr.getD k default).pid := by
      cases k with
      | zero => show (0 : Int) < _; omega
      | succ k => exact procQ_inc (hq (k + 1) hlt)
    have hB := hQ.2
    unfold procB at hB
    simp only [Bool.and_eq_true] at hB
    obtain ⟨⟨hH, hPg⟩, hFd⟩ := hB
    have hH := (procH_iff m _).1 hH
    have hFl := fields_ok m _ hb hH
    have hPar := parent_ok m hm _ hb (by
      unfold headP at hH
      rcases hH.2.2.2.2.1 with h | h
      · exact .inl h
      · refine .inr ⟨h.2, ?_⟩
        have h1 := h.1
        unfold livesP
        rcases hH.2.2.1 with h3 | h3 | h3
        · rw [decide_eq_true h3]; rfl
        · rw [decide_eq_true h3, Bool.or_true]
        · exact absurd h3 h1)
    simp only [encPr] at hFl hPar
    have hpl := hH.2.1
    have hst3 := hH.2.2.1
    clear hH
    have hsl := hb.sp
    have hfl := hb.fds
    have hsR := hb.spR
    have hfR := hb.fdsR
    have hpg : ∀ j, j < 16 → pteB m (m.pr.getD k default) ((m.pr.getD k default).sp.getD j default) = true := fun j hj => (List.all_eq_true.1 hPg) _ (getD_mem' (by omega))
    have hfg : ∀ j, j < 8 → fdsB m (m.pr.getD k default) ((m.pr.getD k default).fds.getD j default) = true := fun j hj => (List.all_eq_true.1 hFd) _ (getD_mem' (by omega))
    repeat' (first|(with_reducible first|refine yrl (by constructor) ?_|refine jk (fun M hM=>?_)|(refine hM _ ?_;clear hM M)|refine xb3 (by decide) ?_|refine yqa (by assumption) ?_ ?_|refine yqb (by assumption) ?_ ?_)|((with_reducible refine je ?_)<;>(first|rfl|assumption|(simp only [znl,znNS];(first|done|fail))))|(with_reducible refine jf (by (simp only [↓reduceIte,zlk,Nat.reduceEqDiff,reduceCtorEq]);exact rfl) ?_)|((with_reducible first|refine jg (fun hc=>?_) (fun hc=>?_)|refine jh (fun hc=>?_) (fun hc=>?_))<;>(try simp (disch:=omega) only [zhb] at hc)<;>(try (exfalso;omega))<;>(try subst hc))|(with_reducible refine ji (by omega) ?_)|(simp (config := { maxSteps := 400000 }) only [↓jt,↓reduceIte,zvs,reduceCtorEq,Nat.reduceEqDiff,Nat.reduceAdd,Nat.reduceLeDiff,Nat.reduceMul,Int.reduceBNe,Int.reduceBEq,Int.reduceEq,Int.reduceNe,Int.reduceLT,Int.reduceLE,Int.reduceGT,Int.reduceGE,Int.reduceNeg,Int.reduceToNat,Nat.reduceLT,Nat.reduceSub,tab,hS1,hS2,hS3,encPr,Try.results75,jTA])|(simp (disch:=omega) only [ziw]))
    all_goals (try (exfalso; omega))
    refine ok_loop (fun j : Nat => ⟨slots [(1, .ptr 0 []), (3, .map 1), (4, .int .i64 (m.pr.getD k default).pid), (6, .ptr 2 []), (17, encPrs m.pr), (18, .int .i64 m.pr.length), (19, .int .i64 k), (48, .agg ((m.pr.getD k default).sp.map encPte)), (49, .int .i64 j)], rows [(0, .row machSh (encM m)), (1, .map (setM (metF m k j))), (2, .row prSh (encPrA (m.pr.getD k default)))], 3⟩) (fun j => j ≤ 16) (fun j => 16 - j) 0 ?_ (Nat.zero_le _) (fun j hj => ?_)
    · (refine yrn [(0, 0), (1, 1), (2, 2)] false ?_ ?_<;>(repeat' (first|(with_reducible first|exact ya1|exact ya2|exact ya3|refine jx rfl (by first|rfl|assumption|(simp only [znl,znNS];(first|done|fail)))|exact ya5|exact ya7|exact jy|exact jz|refine jA ?_|refine ya9 ?_ ?_ ?_|refine jC rfl (by first|rfl|assumption|(simp only [znl,znNS];(first|done|fail)))|refine MR.agg (MRL.cons ?_ ?_)|refine MR.fn ?_|refine MRL.cons ?_ ?_|exact MRL.nil|refine jE ?_ ?_|exact jF|exact jG|refine yb1 ?_ ?_|refine MB.row ?_|refine jI ?_ ?_|exact ya8|refine jJ rfl (by first|rfl|assumption|(simp only [znl,znNS];(first|done|fail)))|refine yb2 ?_|rfl)|(simp only [znl,znNS];(first|done|fail))|(simp only [↓reduceIte,zlk,Nat.reduceEqDiff,reduceCtorEq])|(with_reducible first|refine jJ ?_ ?_|refine ya5 ?_|refine ju ?_|refine jv ?_|refine jw ?_|refine jx ?_ (by first|rfl|assumption|(simp only [znl,znNS];(first|done|fail)))|refine jC ?_ (by first|rfl|assumption|(simp only [znl,znNS];(first|done|fail)))))))
      all_goals (first | rfl)
    by_cases hjlt : j < 16
    · have hpb := hsR _ (getD_mem' (show j < (m.pr.getD k default).sp.length by omega))
      have hp0 := hpg j hjlt
      cases hi : ((m.pr.getD k default).sp.getD j default).is with
      | true =>
        have hp1 := (pteB_is hi).1 hp0
        have hnew := metF_new hpR hlt hjlt hi hp1.2.2.2
        have hin := metF_in hlt (by omega) hi
        have hlook : (mget (setM (metF m k j)) (.int .i64 ((m.pr.getD k default).sp.getD j default).fr)).getD (.bool false) = .bool false := by rw [look_setM, decide_eq_false hnew]
        repeat' (first|(with_reducible first|refine yrl (by constructor) ?_|refine jk (fun M hM=>?_)|(refine hM _ ?_;clear hM M)|refine xb3 (by decide) ?_|refine yqa (by assumption) ?_ ?_|refine yqb (by assumption) ?_ ?_)|((with_reducible refine je ?_)<;>(first|rfl|assumption|(simp only [znl,znNS];(first|done|fail))))|(with_reducible refine jf (by (simp only [↓reduceIte,zlk,Nat.reduceEqDiff,reduceCtorEq]);exact rfl) ?_)|((with_reducible first|refine jg (fun hc=>?_) (fun hc=>?_)|refine jh (fun hc=>?_) (fun hc=>?_))<;>(try simp (disch:=omega) only [zhb] at hc)<;>(try (exfalso;omega))<;>(try subst hc))|(with_reducible refine ji (by omega) ?_)|(simp (config := { maxSteps := 400000 }) only [↓jt,↓reduceIte,zvs,reduceCtorEq,Nat.reduceEqDiff,Nat.reduceAdd,Nat.reduceLeDiff,Nat.reduceMul,Int.reduceBNe,Int.reduceBEq,Int.reduceEq,Int.reduceNe,Int.reduceLT,Int.reduceLE,Int.reduceGT,Int.reduceGE,Int.reduceNeg,Int.reduceToNat,Nat.reduceLT,Nat.reduceSub,tab,hS1,hS2,hS3,encPr,encPte,hi,hlook,keys_setM,setM_snoc,Try.results75,jTA])|(simp (disch:=omega) only [ziw]))
        all_goals first
          | (exfalso; omega)
          | (refine xl1 (j + 1) ?_ (by show j + 1 ≤ 16; omega) (by show 16 - (j + 1) < 16 - j; omega); (refine yrn [(0, 0), (1, 1), (2, 2)] false ?_ ?_<;>(repeat' (first|(with_reducible first|exact ya1|exact ya2|exact ya3|refine jx rfl (by first|rfl|assumption|(simp only [znl,znNS];(first|done|fail)))|exact ya5|exact ya7|exact jy|exact jz|refine jA ?_|refine ya9 ?_ ?_ ?_|refine jC rfl (by first|rfl|assumption|(simp only [znl,znNS];(first|done|fail)))|refine MR.agg (MRL.cons ?_ ?_)|refine MR.fn ?_|refine MRL.cons ?_ ?_|exact MRL.nil|refine jE ?_ ?_|exact jF|exact jG|refine yb1 ?_ ?_|refine MB.row ?_|refine jI ?_ ?_|exact ya8|refine jJ rfl (by first|rfl|assumption|(simp only [znl,znNS];(first|done|fail)))|refine yb2 ?_|rfl)|(simp only [znl,znNS];(first|done|fail))|(simp only [↓reduceIte,zlk,Nat.reduceEqDiff,reduceCtorEq])|(with_reducible first|refine jJ ?_ ?_|refine ya5 ?_|refine ju ?_|refine jv ?_|refine jw ?_|refine jx ?_ (by first|rfl|assumption|(simp only [znl,znNS];(first|done|fail)))|refine jC ?_ (by first|rfl|assumption|(simp only [znl,znNS];(first|done|fail))))))); all_goals (rw [hin]))
      | false =>
        have hp1 := (pteB_no hi).1 hp0
        have hw := hp1.1
        have hout := metF_out hlt (by omega) hi
        have hfa : ∀ b : Bool, (false && b) = false := fun _ => rfl
        have hz : (((m.pr.getD k default).sp.getD j default).fr == 0) = true := by rw [hp1.2]; rfl
        repeat' (first|(with_reducible first|refine yrl (by constructor) ?_|refine jk (fun M hM=>?_)|(refine hM _ ?_;clear hM M)|refine xb3 (by decide) ?_|refine yqa (by assumption) ?_ ?_|refine yqb (by assumption) ?_ ?_)|((with_reducible refine je ?_)<;>(first|rfl|assumption|(simp only [znl,znNS];(first|done|fail))))|(with_reducible refine jf (by (simp only [↓reduceIte,zlk,Nat.reduceEqDiff,reduceCtorEq]);exact rfl) ?_)|((with_reducible first|refine jg (fun hc=>?_) (fun hc=>?_)|refine jh (fun hc=>?_) (fun hc=>?_))<;>(try simp (disch:=omega) only [zhb] at hc)<;>(try (exfalso;omega))<;>(try subst hc))|(with_reducible refine ji (by omega) ?_)|(simp (config := { maxSteps := 400000 }) only [↓jt,↓reduceIte,zvs,reduceCtorEq,Nat.reduceEqDiff,Nat.reduceAdd,Nat.reduceLeDiff,Nat.reduceMul,Int.reduceBNe,Int.reduceBEq,Int.reduceEq,Int.reduceNe,Int.reduceLT,Int.reduceLE,Int.reduceGT,Int.reduceGE,Int.reduceNeg,Int.reduceToNat,Nat.reduceLT,Nat.reduceSub,tab,hS1,hS2,hS3,encPr,encPte,hi,hw,hz,fit_pt,veq_pt,Try.results75,jTA])|(simp (disch:=omega) only [ziw]))
        all_goals first
          | (exfalso; omega)
          | (refine xl1 (j + 1) ?_ (by show j + 1 ≤ 16; omega) (by show 16 - (j + 1) < 16 - j; omega); (refine yrn [(0, 0), (1, 1), (2, 2)] false ?_ ?_<;>(repeat' (first|(with_reducible first|exact ya1|exact ya2|exact ya3|refine jx rfl (by first|rfl|assumption|(simp only [znl,znNS];(first|done|fail)))|exact ya5|exact ya7|exact jy|exact jz|refine jA ?_|refine ya9 ?_ ?_ ?_|refine jC rfl (by first|rfl|assumption|(simp only [znl,znNS];(first|done|fail)))|refine MR.agg (MRL.cons ?_ ?_)|refine MR.fn ?_|refine MRL.cons ?_ ?_|exact MRL.nil|refine jE ?_ ?_|exact jF|exact jG|refine yb1 ?_ ?_|refine MB.row ?_|refine jI ?_ ?_|exact ya8|refine jJ rfl (by first|rfl|assumption|(simp only [znl,znNS];(first|done|fail)))|refine yb2 ?_|rfl)|(simp only [znl,znNS];(first|done|fail))|(simp only [↓reduceIte,zlk,Nat.reduceEqDiff,reduceCtorEq])|(with_reducible first|refine jJ ?_ ?_|refine ya5 ?_|refine ju ?_|refine jv ?_|refine jw ?_|refine jx ?_ (by first|rfl|assumption|(simp only [znl,znNS];(first|done|fail)))|refine jC ?_ (by first|rfl|assumption|(simp only [znl,znNS];(first|done|fail))))))); all_goals (rw [hout]))
    · obtain rfl : j = 16 := by omega
      repeat' (first|(with_reducible first|refine yrl (by constructor) ?_|refine jk (fun M hM=>?_)|(refine hM _ ?_;clear hM M)|refine xb3 (by decide) ?_|refine yqa (by assumption) ?_ ?_|refine yqb (by assumption) ?_ ?_)|((with_reducible refine je ?_)<;>(first|rfl|assumption|(simp only [znl,znNS];(first|done|fail))))|(with_reducible refine jf (by (simp only [↓reduceIte,zlk,Nat.reduceEqDiff,reduceCtorEq]);exact rfl) ?_)|((with_reducible first|refine jg (fun hc=>?_) (fun hc=>?_)|refine jh (fun hc=>?_) (fun hc=>?_))<;>(try simp (disch:=omega) only [zhb] at hc)<;>(try (exfalso;omega))<;>(try subst hc))|(with_reducible refine ji (by omega) ?_)|(simp (config := { maxSteps := 400000 }) only [↓jt,↓reduceIte,zvs,reduceCtorEq,Nat.reduceEqDiff,Nat.reduceAdd,Nat.reduceLeDiff,Nat.reduceMul,Int.reduceBNe,Int.reduceBEq,Int.reduceEq,Int.reduceNe,Int.reduceLT,Int.reduceLE,Int.reduceGT,Int.reduceGE,Int.reduceNeg,Int.reduceToNat,Nat.reduceLT,Nat.reduceSub,tab,hS1,hS2,hS3,Try.results75,jTA])|(simp (disch:=omega) only [ziw]))
      refine ok_loop (fun j : Nat => ⟨slots [(1, .ptr 0 []), (3, .map 1), (4, .int .i64 (m.pr.getD k default).pid), (6, .ptr 2 []), (17, encPrs m.pr), (18, .int .i64 m.pr.length), (19, .int .i64 k), (85, .agg ((m.pr.getD k default).fds.map encFd)), (86, .int .i64 j)], rows [(0, .row machSh (encM m)), (1, .map (setM (metF m k 16))), (2, .row prSh (encPrA (m.pr.getD k default)))], 3⟩) (fun j => j ≤ 8) (fun j => 8 - j) 0 ?_ (Nat.zero_le _) (fun j hj => ?_)
      · (refine yrn [(0, 0), (1, 1), (2, 2)] false ?_ ?_<;>(repeat' (first|(with_reducible first|exact ya1|exact ya2|exact ya3|refine jx rfl (by first|rfl|assumption|(simp only [znl,znNS];(first|done|fail)))|exact ya5|exact ya7|exact jy|exact jz|refine jA ?_|refine ya9 ?_ ?_ ?_|refine jC rfl (by first|rfl|assumption|(simp only [znl,znNS];(first|done|fail)))|refine MR.agg (MRL.cons ?_ ?_)|refine MR.fn ?_|refine MRL.cons ?_ ?_|exact MRL.nil|refine jE ?_ ?_|exact jF|exact jG|refine yb1 ?_ ?_|refine MB.row ?_|refine jI ?_ ?_|exact ya8|refine jJ rfl (by first|rfl|assumption|(simp only [znl,znNS];(first|done|fail)))|refine yb2 ?_|rfl)|(simp only [znl,znNS];(first|done|fail))|(simp only [↓reduceIte,zlk,Nat.reduceEqDiff,reduceCtorEq])|(with_reducible first|refine jJ ?_ ?_|refine ya5 ?_|refine ju ?_|refine jv ?_|refine jw ?_|refine jx ?_ (by first|rfl|assumption|(simp only [znl,znNS];(first|done|fail)))|refine jC ?_ (by first|rfl|assumption|(simp only [znl,znNS];(first|done|fail)))))))
        all_goals (first | rfl)
      by_cases hjlt : j < 8
      · have hfb := hfR _ (getD_mem' (show j < (m.pr.getD k default).fds.length by omega))
        have hf0 := hfg j hjlt
        unfold fdsB at hf0
        rw [Bool.and_eq_true] at hf0
        have hf1 : (m.pr.getD k default).st = 3 → ((m.pr.getD k default).fds.getD j default).kind = 0 := fun h => by
          have := hf0.2
          rw [decide_eq_true h] at this
          simpa using this
        have hf2 : ((m.pr.getD k default).fds.getD j default).kind = 0 → ((m.pr.getD k default).fds.getD j default).n = 0 ∧ ((m.pr.getD k default).fds.getD j default).pos = 0 := fun h => by
          have := hf0.1
          unfold fdB at this
          rw [if_pos (.inl h)] at this
          exact of_decide_eq_true this
        by_cases hk0 : ((m.pr.getD k default).fds.getD j default).kind = 0
        · have hf3 := hf2 hk0
          repeat' (first|(with_reducible first|refine yrl (by constructor) ?_|refine jk (fun M hM=>?_)|(refine hM _ ?_;clear hM M)|refine xb3 (by decide) ?_|refine yqa (by assumption) ?_ ?_|refine yqb (by assumption) ?_ ?_)|((with_reducible refine je ?_)<;>(first|rfl|assumption|(simp only [znl,znNS];(first|done|fail))))|(with_reducible refine jf (by (simp only [↓reduceIte,zlk,Nat.reduceEqDiff,reduceCtorEq]);exact rfl) ?_)|((with_reducible first|refine jg (fun hc=>?_) (fun hc=>?_)|refine jh (fun hc=>?_) (fun hc=>?_))<;>(try simp (disch:=omega) only [zhb] at hc)<;>(try (exfalso;omega))<;>(try subst hc))|(with_reducible refine ji (by omega) ?_)|(simp (config := { maxSteps := 400000 }) only [↓jt,↓reduceIte,zvs,reduceCtorEq,Nat.reduceEqDiff,Nat.reduceAdd,Nat.reduceLeDiff,Nat.reduceMul,Int.reduceBNe,Int.reduceBEq,Int.reduceEq,Int.reduceNe,Int.reduceLT,Int.reduceLE,Int.reduceGT,Int.reduceGE,Int.reduceNeg,Int.reduceToNat,Nat.reduceLT,Nat.reduceSub,tab,hS1,hS2,hS3,encPr,encFd,fit_fd,veq_fd,Try.results75,jTA])|(simp (disch:=omega) only [ziw]))
          all_goals first
            | (exfalso; omega)
            | (refine xl1 (j + 1) ?_ (by show j + 1 ≤ 8; omega) (by show 8 - (j + 1) < 8 - j; omega); (refine yrn [(0, 0), (1, 1), (2, 2)] false ?_ ?_<;>(repeat' (first|(with_reducible first|exact ya1|exact ya2|exact ya3|refine jx rfl (by first|rfl|assumption|(simp only [znl,znNS];(first|done|fail)))|exact ya5|exact ya7|exact jy|exact jz|refine jA ?_|refine ya9 ?_ ?_ ?_|refine jC rfl (by first|rfl|assumption|(simp only [znl,znNS];(first|done|fail)))|refine MR.agg (MRL.cons ?_ ?_)|refine MR.fn ?_|refine MRL.cons ?_ ?_|exact MRL.nil|refine jE ?_ ?_|exact jF|exact jG|refine yb1 ?_ ?_|refine MB.row ?_|refine jI ?_ ?_|exact ya8|refine jJ rfl (by first|rfl|assumption|(simp only [znl,znNS];(first|done|fail)))|refine yb2 ?_|rfl)|(simp only [znl,znNS];(first|done|fail))|(simp only [↓reduceIte,zlk,Nat.reduceEqDiff,reduceCtorEq])|(with_reducible first|refine jJ ?_ ?_|refine ya5 ?_|refine ju ?_|refine jv ?_|refine jw ?_|refine jx ?_ (by first|rfl|assumption|(simp only [znl,znNS];(first|done|fail)))|refine jC ?_ (by first|rfl|assumption|(simp only [znl,znNS];(first|done|fail))))))); done)
        · have hF := file_ok m hm _ hfb hf0.1 hk0
          simp only [encFd] at hF
          obtain ⟨⟨g1, g2⟩, ⟨g3, g4⟩, g5, g6⟩ := hfb
          repeat' (first|(with_reducible first|refine yrl (by constructor) ?_|refine jk (fun M hM=>?_)|(refine hM _ ?_;clear hM M)|refine xb3 (by decide) ?_|refine yqa (by assumption) ?_ ?_|refine yqb (by assumption) ?_ ?_)|((with_reducible refine je ?_)<;>(first|rfl|assumption|(simp only [znl,znNS];(first|done|fail))))|(with_reducible refine jf (by (simp only [↓reduceIte,zlk,Nat.reduceEqDiff,reduceCtorEq]);exact rfl) ?_)|((with_reducible first|refine jg (fun hc=>?_) (fun hc=>?_)|refine jh (fun hc=>?_) (fun hc=>?_))<;>(try simp (disch:=omega) only [zhb] at hc)<;>(try (exfalso;omega))<;>(try subst hc))|(with_reducible refine ji (by omega) ?_)|(simp (config := { maxSteps := 400000 }) only [↓jt,↓reduceIte,zvs,reduceCtorEq,Nat.reduceEqDiff,Nat.reduceAdd,Nat.reduceLeDiff,Nat.reduceMul,Int.reduceBNe,Int.reduceBEq,Int.reduceEq,Int.reduceNe,Int.reduceLT,Int.reduceLE,Int.reduceGT,Int.reduceGE,Int.reduceNeg,Int.reduceToNat,Nat.reduceLT,Nat.reduceSub,tab,hS1,hS2,hS3,encPr,encFd,fit_fd,veq_fd,Try.results75,jTA])|(simp (disch:=omega) only [ziw]))
          all_goals first
            | (exfalso; omega)
            | (refine xl1 (j + 1) ?_ (by show j + 1 ≤ 8; omega) (by show 8 - (j + 1) < 8 - j; omega); (refine yrn [(0, 0), (1, 1), (2, 2)] false ?_ ?_<;>(repeat' (first|(with_reducible first|exact ya1|exact ya2|exact ya3|refine jx rfl (by first|rfl|assumption|(simp only [znl,znNS];(first|done|fail)))|exact ya5|exact ya7|exact jy|exact jz|refine jA ?_|refine ya9 ?_ ?_ ?_|refine jC rfl (by first|rfl|assumption|(simp only [znl,znNS];(first|done|fail)))|refine MR.agg (MRL.cons ?_ ?_)|refine MR.fn ?_|refine MRL.cons ?_ ?_|exact MRL.nil|refine jE ?_ ?_|exact jF|exact jG|refine yb1 ?_ ?_|refine MB.row ?_|refine jI ?_ ?_|exact ya8|refine jJ rfl (by first|rfl|assumption|(simp only [znl,znNS];(first|done|fail)))|refine yb2 ?_|rfl)|(simp only [znl,znNS];(first|done|fail))|(simp only [↓reduceIte,zlk,Nat.reduceEqDiff,reduceCtorEq])|(with_reducible first|refine jJ ?_ ?_|refine ya5 ?_|refine ju ?_|refine jv ?_|refine jw ?_|refine jx ?_ (by first|rfl|assumption|(simp only [znl,znNS];(first|done|fail)))|refine jC ?_ (by first|rfl|assumption|(simp only [znl,znNS];(first|done|fail))))))); done)
      · obtain rfl : j = 8 := by omega
        have hnx := metF_next hlt
        repeat' (first|(with_reducible first|refine yrl (by constructor) ?_|refine jk (fun M hM=>?_)|(refine hM _ ?_;clear hM M)|refine xb3 (by decide) ?_|refine yqa (by assumption) ?_ ?_|refine yqb (by assumption) ?_ ?_)|((with_reducible refine je ?_)<;>(first|rfl|assumption|(simp only [znl,znNS];(first|done|fail))))|(with_reducible refine jf (by (simp only [↓reduceIte,zlk,Nat.reduceEqDiff,reduceCtorEq]);exact rfl) ?_)|((with_reducible first|refine jg (fun hc=>?_) (fun hc=>?_)|refine jh (fun hc=>?_) (fun hc=>?_))<;>(try simp (disch:=omega) only [zhb] at hc)<;>(try (exfalso;omega))<;>(try subst hc))|(with_reducible refine ji (by omega) ?_)|(simp (config := { maxSteps := 400000 }) only [↓jt,↓reduceIte,zvs,reduceCtorEq,Nat.reduceEqDiff,Nat.reduceAdd,Nat.reduceLeDiff,Nat.reduceMul,Int.reduceBNe,Int.reduceBEq,Int.reduceEq,Int.reduceNe,Int.reduceLT,Int.reduceLE,Int.reduceGT,Int.reduceGE,Int.reduceNeg,Int.reduceToNat,Nat.reduceLT,Nat.reduceSub,tab,hS1,hS2,hS3,Try.results75,jTA])|(simp (disch:=omega) only [ziw]))
        refine xl1 (k + 1) ?_ (by show k + 1 ≤ m.pr.length; omega) (by show m.pr.length - (k + 1) < m.pr.length - k; omega)
        (refine yrn [(0, 0), (1, 1)] false ?_ ?_<;>(repeat' (first|(with_reducible first|exact ya1|exact ya2|exact ya3|refine jx rfl (by first|rfl|assumption|(simp only [znl,znNS];(first|done|fail)))|exact ya5|exact ya7|exact jy|exact jz|refine jA ?_|refine ya9 ?_ ?_ ?_|refine jC rfl (by first|rfl|assumption|(simp only [znl,znNS];(first|done|fail)))|refine MR.agg (MRL.cons ?_ ?_)|refine MR.fn ?_|refine MRL.cons ?_ ?_|exact MRL.nil|refine jE ?_ ?_|exact jF|exact jG|refine yb1 ?_ ?_|refine MB.row ?_|refine jI ?_ ?_|exact ya8|refine jJ rfl (by first|rfl|assumption|(simp only [znl,znNS];(first|done|fail)))|refine yb2 ?_|rfl)|(simp only [znl,znNS];(first|done|fail))|(simp only [↓reduceIte,zlk,Nat.reduceEqDiff,reduceCtorEq])|(with_reducible first|refine jJ ?_ ?_|refine ya5 ?_|refine ju ?_|refine jv ?_|refine jw ?_|refine jx ?_ (by first|rfl|assumption|(simp only [znl,znNS];(first|done|fail)))|refine jC ?_ (by first|rfl|assumption|(simp only [znl,znNS];(first|done|fail)))))))
        all_goals (first | rfl | (rw [hnx]; done))
  · obtain rfl : k = m.pr.length := by omega
    repeat' (first|(with_reducible first|refine yrl (by constructor) ?_|refine jk (fun M hM=>?_)|(refine hM _ ?_;clear hM M)|refine xb3 (by decide) ?_|refine yqa (by assumption) ?_ ?_|refine yqb (by assumption) ?_ ?_)|((with_reducible refine je ?_)<;>(first|rfl|assumption|(simp only [znl,znNS];(first|done|fail))))|(with_reducible refine jf (by (simp only [↓reduceIte,zlk,Nat.reduceEqDiff,reduceCtorEq]);exact rfl) ?_)|((with_reducible first|refine jg (fun hc=>?_) (fun hc=>?_)|refine jh (fun hc=>?_) (fun hc=>?_))<;>(try simp (disch:=omega) only [zhb] at hc)<;>(try (exfalso;omega))<;>(try subst hc))|(with_reducible refine ji (by omega) ?_)|(simp (config := { maxSteps := 400000 }) only [↓jt,↓reduceIte,zvs,reduceCtorEq,Nat.reduceEqDiff,Nat.reduceAdd,Nat.reduceLeDiff,Nat.reduceMul,Int.reduceBNe,Int.reduceBEq,Int.reduceEq,Int.reduceNe,Int.reduceLT,Int.reduceLE,Int.reduceGT,Int.reduceGE,Int.reduceNeg,Int.reduceToNat,Nat.reduceLT,Nat.reduceSub,tab,Try.results75,jTA])|(simp (disch:=omega) only [ziw]))
    all_goals first
      | (exfalso; omega)
      | (simp only [zrds]; done)
end Go.Proofs.Ytpdhdkpebbfnnaa.V
end
section
namespace Go.Proofs.Ytpdhdkpebbfnnaa.V
open Go
set_option maxRecDepth 100000
def znP1 := And.intro @jO <| And.intro @jP <| And.intro @jQ <| And.intro @jR <| And.intro @jS <| And.intro @jT <| And.intro @jU <| True.intro
set_option maxHeartbeats 4000000
theorem numbers_ex (m : Mach) (hm : MFit 20000 m) : Spec Try.prog 73 [encM m] (.int .i64 (if numB m = true then 2 else 0)) := by
  cases h : numB m with
  | false => rw [if_neg (by simp)]; exact numbers_ok m h
  | true =>
    rw [if_pos rfl]
    unfold numB at h
    have h := of_decide_eq_true h
    refine spec_ok Try.func73 rfl rfl (by kernel_rfl) (k := 1) rfl (by decide) ?_
    repeat' (first|(with_reducible first|refine yrl (by constructor) ?_|refine jk (fun M hM=>?_)|(refine hM _ ?_;clear hM M)|refine xb3 (by decide) ?_|refine yqa (by assumption) ?_ ?_|refine yqb (by assumption) ?_ ?_)|((with_reducible refine je ?_)<;>(first|rfl|assumption|(simp only [znl,znP1];(first|done|fail))))|(with_reducible refine jf (by (simp only [↓reduceIte,zlk,Nat.reduceEqDiff,reduceCtorEq]);exact rfl) ?_)|((with_reducible first|refine jg (fun hc=>?_) (fun hc=>?_)|refine jh (fun hc=>?_) (fun hc=>?_))<;>(try simp (disch:=omega) only [zhb] at hc)<;>(try (exfalso;omega))<;>(try subst hc))|(with_reducible refine ji (by omega) ?_)|(simp (config := { maxSteps := 400000 }) only [↓jt,↓reduceIte,zvs,reduceCtorEq,Nat.reduceEqDiff,Nat.reduceAdd,Nat.reduceLeDiff,Nat.reduceMul,Int.reduceBNe,Int.reduceBEq,Int.reduceEq,Int.reduceNe,Int.reduceLT,Int.reduceLE,Int.reduceGT,Int.reduceGE,Int.reduceNeg,Int.reduceToNat,Nat.reduceLT,Nat.reduceSub,tab,Try.results73,jTA])|(simp (disch:=omega) only [ziw]))
    all_goals first
      | (exfalso; omega)
      | (simp only [zrds]; done)
theorem frames_many (m : Mach) (hm : MFit 20000 m) (h : m.fr.length < 1 ∨ 64 < m.fr.length) : Spec Try.prog 74 [encM m] (.int .i64 6) := by
  have hl := hm.fr
  refine spec_ok Try.func74 rfl rfl (by kernel_rfl) (k := 1) rfl (by decide) ?_
  repeat' (first|(with_reducible first|refine yrl (by constructor) ?_|refine jk (fun M hM=>?_)|(refine hM _ ?_;clear hM M)|refine xb3 (by decide) ?_|refine yqa (by assumption) ?_ ?_|refine yqb (by assumption) ?_ ?_)|((with_reducible refine je ?_)<;>(first|rfl|assumption|(simp only [znl,znP1];(first|done|fail))))|(with_reducible refine jf (by (simp only [↓reduceIte,zlk,Nat.reduceEqDiff,reduceCtorEq]);exact rfl) ?_)|((with_reducible first|refine jg (fun hc=>?_) (fun hc=>?_)|refine jh (fun hc=>?_) (fun hc=>?_))<;>(try simp (disch:=omega) only [zhb] at hc)<;>(try (exfalso;omega))<;>(try subst hc))|(with_reducible refine ji (by omega) ?_)|(simp (config := { maxSteps := 400000 }) only [↓jt,↓reduceIte,zvs,reduceCtorEq,Nat.reduceEqDiff,Nat.reduceAdd,Nat.reduceLeDiff,Nat.reduceMul,Int.reduceBNe,Int.reduceBEq,Int.reduceEq,Int.reduceNe,Int.reduceLT,Int.reduceLE,Int.reduceGT,Int.reduceGE,Int.reduceNeg,Int.reduceToNat,Nat.reduceLT,Nat.reduceSub,tab,Try.results74,jTA])|(simp (disch:=omega) only [ziw]))
  all_goals first
    | (exfalso; omega)
    | (simp only [zrds]; done)
theorem frames_bad (m : Mach) (hm : MFit 20000 m) (h : 1 ≤ m.fr.length ∧ m.fr.length ≤ 64) (k0 : Nat) (hk0 : k0 < m.fr.length) (hk1 : (m.fr.getD k0 []).length ≠ 128) : Spec Try.prog 74 [encM m] (.int .i64 3) := by
  have hs := hm.frS
  refine spec_ok Try.func74 rfl rfl (by kernel_rfl) (k := 1) rfl (by decide) ?_
  repeat' (first|(with_reducible first|refine yrl (by constructor) ?_|refine jk (fun M hM=>?_)|(refine hM _ ?_;clear hM M)|refine xb3 (by decide) ?_|refine yqa (by assumption) ?_ ?_|refine yqb (by assumption) ?_ ?_)|((with_reducible refine je ?_)<;>(first|rfl|assumption|(simp only [znl,znP1];(first|done|fail))))|(with_reducible refine jf (by (simp only [↓reduceIte,zlk,Nat.reduceEqDiff,reduceCtorEq]);exact rfl) ?_)|((with_reducible first|refine jg (fun hc=>?_) (fun hc=>?_)|refine jh (fun hc=>?_) (fun hc=>?_))<;>(try simp (disch:=omega) only [zhb] at hc)<;>(try (exfalso;omega))<;>(try subst hc))|(with_reducible refine ji (by omega) ?_)|(simp (config := { maxSteps := 400000 }) only [↓jt,↓reduceIte,zvs,reduceCtorEq,Nat.reduceEqDiff,Nat.reduceAdd,Nat.reduceLeDiff,Nat.reduceMul,Int.reduceBNe,Int.reduceBEq,Int.reduceEq,Int.reduceNe,Int.reduceLT,Int.reduceLE,Int.reduceGT,Int.reduceGE,Int.reduceNeg,Int.reduceToNat,Nat.reduceLT,Nat.reduceSub,tab,Try.results74,jTA])|(simp (disch:=omega) only [ziw]))
  all_goals (try (exfalso; omega))
  refine ok_loop (fun k : Nat => ⟨slots [(1, .ptr 0 []), (16, encStrs m.fr), (17, .int .i64 m.fr.length), (18, .int .i64 k)], rows [(0, .row machSh (encM m))], 1⟩) (fun k => k ≤ k0) (fun k => m.fr.length - k) 0 ?_ (Nat.zero_le _) (fun k hk => ?_)
  · (refine yrn [(0, 0)] false ?_ ?_<;>(repeat' (first|(with_reducible first|exact ya1|exact ya2|exact ya3|refine jx rfl (by first|rfl|assumption|(simp only [znl,znP1];(first|done|fail)))|exact ya5|exact ya7|exact jy|exact jz|refine jA ?_|refine ya9 ?_ ?_ ?_|refine jC rfl (by first|rfl|assumption|(simp only [znl,znP1];(first|done|fail)))|refine MR.agg (MRL.cons ?_ ?_)|refine MR.fn ?_|refine MRL.cons ?_ ?_|exact MRL.nil|refine jE ?_ ?_|exact jF|exact jG|refine yb1 ?_ ?_|refine MB.row ?_|refine jI ?_ ?_|exact ya8|refine jJ rfl (by first|rfl|assumption|(simp only [znl,znP1];(first|done|fail)))|refine yb2 ?_|rfl)|(simp only [znl,znP1];(first|done|fail))|(simp only [↓reduceIte,zlk,Nat.reduceEqDiff,reduceCtorEq])|(with_reducible first|refine jJ ?_ ?_|refine ya5 ?_|refine ju ?_|refine jv ?_|refine jw ?_|refine jx ?_ (by first|rfl|assumption|(simp only [znl,znP1];(first|done|fail)))|refine jC ?_ (by first|rfl|assumption|(simp only [znl,znP1];(first|done|fail)))))))
    all_goals (first | rfl)
  have hlt : k < m.fr.length := by omega
  have hsk := hs _ (getD_mem' hlt)
  rw [default_str] at hsk
  repeat' (first|(with_reducible first|refine yrl (by constructor) ?_|refine jk (fun M hM=>?_)|(refine hM _ ?_;clear hM M)|refine xb3 (by decide) ?_|refine yqa (by assumption) ?_ ?_|refine yqb (by assumption) ?_ ?_)|((with_reducible refine je ?_)<;>(first|rfl|assumption|(simp only [znl,znP1];(first|done|fail))))|(with_reducible refine jf (by (simp only [↓reduceIte,zlk,Nat.reduceEqDiff,reduceCtorEq]);exact rfl) ?_)|((with_reducible first|refine jg (fun hc=>?_) (fun hc=>?_)|refine jh (fun hc=>?_) (fun hc=>?_))<;>(try simp (disch:=omega) only [zhb] at hc)<;>(try (exfalso;omega))<;>(try subst hc))|(with_reducible refine ji (by omega) ?_)|(simp (config := { maxSteps := 400000 }) only [↓jt,↓reduceIte,zvs,reduceCtorEq,Nat.reduceEqDiff,Nat.reduceAdd,Nat.reduceLeDiff,Nat.reduceMul,Int.reduceBNe,Int.reduceBEq,Int.reduceEq,Int.reduceNe,Int.reduceLT,Int.reduceLE,Int.reduceGT,Int.reduceGE,Int.reduceNeg,Int.reduceToNat,Nat.reduceLT,Nat.reduceSub,tab,Try.results74,jTA])|(simp (disch:=omega) only [ziw]))
  all_goals first
    | (exfalso; omega)
    | (simp only [zrds]; done)
    | (refine xl1 (k + 1) ?_ (by by_cases e : k = k0; (subst e; exfalso; omega); show k + 1 ≤ k0; omega) (by show m.fr.length - (k + 1) < m.fr.length - k; omega); (refine yrn [(0, 0)] false ?_ ?_<;>(repeat' (first|(with_reducible first|exact ya1|exact ya2|exact ya3|refine jx rfl (by first|rfl|assumption|(simp only [znl,znP1];(first|done|fail)))|exact ya5|exact ya7|exact jy|exact jz|refine jA ?_|refine ya9 ?_ ?_ ?_|refine jC rfl (by first|rfl|assumption|(simp only [znl,znP1];(first|done|fail)))|refine MR.agg (MRL.cons ?_ ?_)|refine MR.fn ?_|refine MRL.cons ?_ ?_|exact MRL.nil|refine jE ?_ ?_|exact jF|exact jG|refine yb1 ?_ ?_|refine MB.row ?_|refine jI ?_ ?_|exact ya8|refine jJ rfl (by first|rfl|assumption|(simp only [znl,znP1];(first|done|fail)))|refine yb2 ?_|rfl)|(simp only [znl,znP1];(first|done|fail))|(simp only [↓reduceIte,zlk,Nat.reduceEqDiff,reduceCtorEq])|(with_reducible first|refine jJ ?_ ?_|refine ya5 ?_|refine ju ?_|refine jv ?_|refine jw ?_|refine jx ?_ (by first|rfl|assumption|(simp only [znl,znP1];(first|done|fail)))|refine jC ?_ (by first|rfl|assumption|(simp only [znl,znP1];(first|done|fail))))))); done)
theorem texts_ex (m : Mach) (hm : MFit 20000 m) : Spec Try.prog 77 [encM m] (.int .i64 (if 65536 < m.inp.length ∨ 128 < m.init.length then 6 else 0)) := by
  have h1 := hm.inp
  have h2 := hm.init
  by_cases h : 65536 < m.inp.length ∨ 128 < m.init.length
  · rw [if_pos h]
    refine spec_ok Try.func77 rfl rfl (by kernel_rfl) (k := 1) rfl (by decide) ?_
    repeat' (first|(with_reducible first|refine yrl (by constructor) ?_|refine jk (fun M hM=>?_)|(refine hM _ ?_;clear hM M)|refine xb3 (by decide) ?_|refine yqa (by assumption) ?_ ?_|refine yqb (by assumption) ?_ ?_)|((with_reducible refine je ?_)<;>(first|rfl|assumption|(simp only [znl,znP1];(first|done|fail))))|(with_reducible refine jf (by (simp only [↓reduceIte,zlk,Nat.reduceEqDiff,reduceCtorEq]);exact rfl) ?_)|((with_reducible first|refine jg (fun hc=>?_) (fun hc=>?_)|refine jh (fun hc=>?_) (fun hc=>?_))<;>(try simp (disch:=omega) only [zhb] at hc)<;>(try (exfalso;omega))<;>(try subst hc))|(with_reducible refine ji (by omega) ?_)|(simp (config := { maxSteps := 400000 }) only [↓jt,↓reduceIte,zvs,reduceCtorEq,Nat.reduceEqDiff,Nat.reduceAdd,Nat.reduceLeDiff,Nat.reduceMul,Int.reduceBNe,Int.reduceBEq,Int.reduceEq,Int.reduceNe,Int.reduceLT,Int.reduceLE,Int.reduceGT,Int.reduceGE,Int.reduceNeg,Int.reduceToNat,Nat.reduceLT,Nat.reduceSub,tab,Try.results77,jTA])|(simp (disch:=omega) only [ziw]))
    all_goals first
      | (exfalso; omega)
      | (simp only [zrds]; done)
  · rw [if_neg h]
    exact texts_ok m ⟨by omega, by omega⟩
theorem spipes_many (m : Mach) (hm : MFit 20000 m) (h : 64 < m.pipes.length) : Spec Try.prog 76 [encM m] (.int .i64 6) := by
  have hl := hm.pipes
  refine spec_ok Try.func76 rfl rfl (by kernel_rfl) (k := 1) rfl (by decide) ?_
  repeat' (first|(with_reducible first|refine yrl (by constructor) ?_|refine jk (fun M hM=>?_)|(refine hM _ ?_;clear hM M)|refine xb3 (by decide) ?_|refine yqa (by assumption) ?_ ?_|refine yqb (by assumption) ?_ ?_)|((with_reducible refine je ?_)<;>(first|rfl|assumption|(simp only [znl,znP1];(first|done|fail))))|(with_reducible refine jf (by (simp only [↓reduceIte,zlk,Nat.reduceEqDiff,reduceCtorEq]);exact rfl) ?_)|((with_reducible first|refine jg (fun hc=>?_) (fun hc=>?_)|refine jh (fun hc=>?_) (fun hc=>?_))<;>(try simp (disch:=omega) only [zhb] at hc)<;>(try (exfalso;omega))<;>(try subst hc))|(with_reducible refine ji (by omega) ?_)|(simp (config := { maxSteps := 400000 }) only [↓jt,↓reduceIte,zvs,reduceCtorEq,Nat.reduceEqDiff,Nat.reduceAdd,Nat.reduceLeDiff,Nat.reduceMul,Int.reduceBNe,Int.reduceBEq,Int.reduceEq,Int.reduceNe,Int.reduceLT,Int.reduceLE,Int.reduceGT,Int.reduceGE,Int.reduceNeg,Int.reduceToNat,Nat.reduceLT,Nat.reduceSub,tab,Try.results76,jTA])|(simp (disch:=omega) only [ziw]))
  all_goals first
    | (exfalso; omega)
    | (simp only [zrds]; done)
theorem pipeB_of {m : Mach} {k : Nat} (h1 : lastP m.pipes k < (m.pipes.getD k default).id) (h0 : 0 < k → 1 ≤ (m.pipes.getD (k - 1) default).id) (h2 : (m.pipes.getD k default).id < m.newp) (h3 : (m.pipes.getD k default).d.length ≤ 64) : pipeB m k = true := by
  unfold pipeB longB
  simp only [Bool.not_eq_true',Bool.or_eq_false_iff,decide_eq_false_iff_not,Bool.and_eq_false_iff]
  cases k with
  | zero =>
    have h1 : (0 : Int) < (m.pipes.getD 0 default).id := h1
    omega
  | succ k =>
    have h1 : (m.pipes.getD k default).id < (m.pipes.getD (k + 1) default).id := h1
    have h0 := h0 (by omega)
    rw [Nat.add_sub_cancel] at h0 ⊢
    omega
theorem spipes_bad (m : Mach) (hm : MFit 20000 m) (h : m.pipes.length ≤ 64) (hs : pipesB m = false) : Spec Try.prog 76 [encM m] (.int .i64 3) := by
  have hpiR := hm.pipesR
  have hnot : ¬∀ i, i < m.pipes.length → pipeB m i = true := fun hq => by
    rw [show pipesB m = true from List.all_eq_true.2 fun i hi => hq i (List.mem_range.1 hi)] at hs
    cases hs
  refine spec_ok Try.func76 rfl rfl (by kernel_rfl) (k := 1) rfl (by decide) ?_
  repeat' (first|(with_reducible first|refine yrl (by constructor) ?_|refine jk (fun M hM=>?_)|(refine hM _ ?_;clear hM M)|refine xb3 (by decide) ?_|refine yqa (by assumption) ?_ ?_|refine yqb (by assumption) ?_ ?_)|((with_reducible refine je ?_)<;>(first|rfl|assumption|(simp only [znl,znP1];(first|done|fail))))|(with_reducible refine jf (by (simp only [↓reduceIte,zlk,Nat.reduceEqDiff,reduceCtorEq]);exact rfl) ?_)|((with_reducible first|refine jg (fun hc=>?_) (fun hc=>?_)|refine jh (fun hc=>?_) (fun hc=>?_))<;>(try simp (disch:=omega) only [zhb] at hc)<;>(try (exfalso;omega))<;>(try subst hc))|(with_reducible refine ji (by omega) ?_)|(simp (config := { maxSteps := 400000 }) only [↓jt,↓reduceIte,zvs,reduceCtorEq,Nat.reduceEqDiff,Nat.reduceAdd,Nat.reduceLeDiff,Nat.reduceMul,Int.reduceBNe,Int.reduceBEq,Int.reduceEq,Int.reduceNe,Int.reduceLT,Int.reduceLE,Int.reduceGT,Int.reduceGE,Int.reduceNeg,Int.reduceToNat,Nat.reduceLT,Nat.reduceSub,tab,Try.results76,jTA])|(simp (disch:=omega) only [ziw]))
  all_goals (try (exfalso; omega))
  refine ok_loop (fun k : Nat => ⟨slots [(1, .ptr 0 []), (3, .int .i64 (lastP m.pipes k)), (11, encPis m.pipes), (12, .int .i64 m.pipes.length), (13, .int .i64 k)], rows [(0, .row machSh (encM m))], 1⟩) (fun k => k ≤ m.pipes.length ∧ ∀ j, j < k → pipeB m j = true) (fun k => m.pipes.length - k) 0 ?_ ⟨Nat.zero_le _, fun j hj => by omega⟩ (fun k hk => ?_)
  · (refine yrn [(0, 0)] false ?_ ?_<;>(repeat' (first|(with_reducible first|exact ya1|exact ya2|exact ya3|refine jx rfl (by first|rfl|assumption|(simp only [znl,znP1];(first|done|fail)))|exact ya5|exact ya7|exact jy|exact jz|refine jA ?_|refine ya9 ?_ ?_ ?_|refine jC rfl (by first|rfl|assumption|(simp only [znl,znP1];(first|done|fail)))|refine MR.agg (MRL.cons ?_ ?_)|refine MR.fn ?_|refine MRL.cons ?_ ?_|exact MRL.nil|refine jE ?_ ?_|exact jF|exact jG|refine yb1 ?_ ?_|refine MB.row ?_|refine jI ?_ ?_|exact ya8|refine jJ rfl (by first|rfl|assumption|(simp only [znl,znP1];(first|done|fail)))|refine yb2 ?_|rfl)|(simp only [znl,znP1];(first|done|fail))|(simp only [↓reduceIte,zlk,Nat.reduceEqDiff,reduceCtorEq])|(with_reducible first|refine jJ ?_ ?_|refine ya5 ?_|refine ju ?_|refine jv ?_|refine jw ?_|refine jx ?_ (by first|rfl|assumption|(simp only [znl,znP1];(first|done|fail)))|refine jC ?_ (by first|rfl|assumption|(simp only [znl,znP1];(first|done|fail)))))))
    all_goals (first | rfl)
  obtain ⟨hk, hn⟩ := hk
  by_cases hlt : k < m.pipes.length
  · obtain ⟨⟨p1, p2⟩, p3⟩ := hpiR _ (getD_mem' hlt)
    have hnn : lastP m.pipes (k + 1) = (m.pipes.getD k default).id := rfl
    have hst : lastP m.pipes k < (m.pipes.getD k default).id → (m.pipes.getD k default).id < m.newp → (m.pipes.getD k default).d.length ≤ 64 → ∀ j, j < k + 1 → pipeB m j = true := fun a b c j hj => by
      by_cases e : j = k
      · rw [e]
        exact pipeB_of a (fun h0 => (pipeB_facts (hn (k - 1) (by omega))).1) b c
      · exact hn j (by omega)
    have hl0 : i64R (lastP m.pipes k) := by
      cases k with
      | zero => exact ⟨by show (-9223372036854775808 : Int) ≤ 0; omega, by show (0 : Int) ≤ 9223372036854775807; omega⟩
      | succ k => exact (hpiR _ (getD_mem' (show k < m.pipes.length by omega))).1
    obtain ⟨q1, q2⟩ := hl0
    generalize lastP m.pipes k = lp at hst q1 q2 ⊢
    repeat' (first|(with_reducible first|refine yrl (by constructor) ?_|refine jk (fun M hM=>?_)|(refine hM _ ?_;clear hM M)|refine xb3 (by decide) ?_|refine yqa (by assumption) ?_ ?_|refine yqb (by assumption) ?_ ?_)|((with_reducible refine je ?_)<;>(first|rfl|assumption|(simp only [znl,znP1];(first|done|fail))))|(with_reducible refine jf (by (simp only [↓reduceIte,zlk,Nat.reduceEqDiff,reduceCtorEq]);exact rfl) ?_)|((with_reducible first|refine jg (fun hc=>?_) (fun hc=>?_)|refine jh (fun hc=>?_) (fun hc=>?_))<;>(try simp (disch:=omega) only [zhb] at hc)<;>(try (exfalso;omega))<;>(try subst hc))|(with_reducible refine ji (by omega) ?_)|(simp (config := { maxSteps := 400000 }) only [↓jt,↓reduceIte,zvs,reduceCtorEq,Nat.reduceEqDiff,Nat.reduceAdd,Nat.reduceLeDiff,Nat.reduceMul,Int.reduceBNe,Int.reduceBEq,Int.reduceEq,Int.reduceNe,Int.reduceLT,Int.reduceLE,Int.reduceGT,Int.reduceGE,Int.reduceNeg,Int.reduceToNat,Nat.reduceLT,Nat.reduceSub,tab,encPi,Try.results76,jTA])|(simp (disch:=omega) only [ziw]))
    all_goals first
      | (exfalso; omega)
      | (simp only [zrds]; done)
      | (refine xl1 (k + 1) ?_ ⟨by show k + 1 ≤ m.pipes.length; omega, hst (by omega) (by omega) (by omega)⟩ (by show m.pipes.length - (k + 1) < m.pipes.length - k; omega); (refine yrn [(0, 0)] false ?_ ?_<;>(repeat' (first|(with_reducible first|exact ya1|exact ya2|exact ya3|refine jx rfl (by first|rfl|assumption|(simp only [znl,znP1];(first|done|fail)))|exact ya5|exact ya7|exact jy|exact jz|refine jA ?_|refine ya9 ?_ ?_ ?_|refine jC rfl (by first|rfl|assumption|(simp only [znl,znP1];(first|done|fail)))|refine MR.agg (MRL.cons ?_ ?_)|refine MR.fn ?_|refine MRL.cons ?_ ?_|exact MRL.nil|refine jE ?_ ?_|exact jF|exact jG|refine yb1 ?_ ?_|refine MB.row ?_|refine jI ?_ ?_|exact ya8|refine jJ rfl (by first|rfl|assumption|(simp only [znl,znP1];(first|done|fail)))|refine yb2 ?_|rfl)|(simp only [znl,znP1];(first|done|fail))|(simp only [↓reduceIte,zlk,Nat.reduceEqDiff,reduceCtorEq])|(with_reducible first|refine jJ ?_ ?_|refine ya5 ?_|refine ju ?_|refine jv ?_|refine jw ?_|refine jx ?_ (by first|rfl|assumption|(simp only [znl,znP1];(first|done|fail)))|refine jC ?_ (by first|rfl|assumption|(simp only [znl,znP1];(first|done|fail))))))); all_goals (first | rfl | omega))
  · obtain rfl : k = m.pipes.length := by omega
    exact absurd hn hnot
end Go.Proofs.Ytpdhdkpebbfnnaa.V
end
section
namespace Go.Proofs.Ytpdhdkpebbfnnaa.V
open Go
set_option maxRecDepth 100000
def znP2 := And.intro @jO <| And.intro @jP <| And.intro @jQ <| And.intro @jR <| And.intro @jS <| And.intro @jT <| And.intro @jU <| True.intro
set_option maxHeartbeats 4000000
def fieldQ (st r0 why n code : Int) : Prop := (st = 1 ∨ st = 2 ∨ st = 3) ∧ r0 = 0 ∧ (st = 2 → 1 ≤ why ∧ why ≤ 5) ∧ (st ≠ 2 → why = 0 ∧ n = 0) ∧ (st = 3 ∨ code = 0)
theorem fields_ex (p : Pr) (hp : PrR p) : ∃ b, (b = true ↔ fieldQ p.st (p.rs.getD 0 default) p.why p.n p.code) ∧ Spec Try.prog 109 [encPr p] (.bool b) := by
  obtain ⟨R, hR⟩ : ∃ R : Bool, (R = true ↔ fieldQ p.st (p.rs.getD 0 default) p.why p.n p.code) := by
    by_cases h : fieldQ p.st (p.rs.getD 0 default) p.why p.n p.code
    · exact ⟨true, iff_of_true rfl h⟩
    · exact ⟨false, iff_of_false (by simp) h⟩
  refine ⟨R, hR, ?_⟩
  obtain ⟨hS1, hS2, hS3⟩ := pr3 hp
  have hL := slives_spec p hp
  have hrl := hp.rs
  unfold fieldQ at hR
  have hlv : livesP p = true ↔ (p.st = 1 ∨ p.st = 2) := by simp [livesP]
  simp only [encPr] at hL
  obtain ⟨b, hb⟩ : ∃ b, livesP p = b := ⟨_, rfl⟩
  rw [hb] at hL hlv
  cases b
  all_goals
    simp only [true_iff,Bool.false_eq_true,false_iff] at hlv
    refine spec_ok Try.func109 rfl rfl (by kernel_rfl) (k := 1) rfl (by decide) ?_
    repeat' (first|(with_reducible first|refine yrl (by constructor) ?_|refine jk (fun M hM=>?_)|(refine hM _ ?_;clear hM M)|refine xb3 (by decide) ?_|refine yqa (by assumption) ?_ ?_|refine yqb (by assumption) ?_ ?_)|((with_reducible refine je ?_)<;>(first|rfl|assumption|(simp only [znl,znP2];(first|done|fail))))|(with_reducible refine jf (by (simp only [↓reduceIte,zlk,Nat.reduceEqDiff,reduceCtorEq]);exact rfl) ?_)|((with_reducible first|refine jg (fun hc=>?_) (fun hc=>?_)|refine jh (fun hc=>?_) (fun hc=>?_))<;>(try simp (disch:=omega) only [zhb] at hc)<;>(try (exfalso;omega))<;>(try subst hc))|(with_reducible refine ji (by omega) ?_)|(simp (config := { maxSteps := 400000 }) only [↓jt,↓reduceIte,zvs,reduceCtorEq,Nat.reduceEqDiff,Nat.reduceAdd,Nat.reduceLeDiff,Nat.reduceMul,Int.reduceBNe,Int.reduceBEq,Int.reduceEq,Int.reduceNe,Int.reduceLT,Int.reduceLE,Int.reduceGT,Int.reduceGE,Int.reduceNeg,Int.reduceToNat,Nat.reduceLT,Nat.reduceSub,tab,hS1,hS2,hS3,encPr,Try.results109,jTA])|(simp (disch:=omega) only [ziw]))
    all_goals first
      | (exfalso; omega)
      | (simp only [zrds]; rw [Bool.eq_iff_iff, hR]; simp only [beq_iff_eq,true_iff,iff_true,false_iff,iff_false,Bool.false_eq_true,decide_eq_true_eq,Bool.or_eq_true]; omega)
      | (simp only [zrds]; symm; rw [Bool.eq_iff_iff, hR]; simp only [beq_iff_eq,true_iff,iff_true,false_iff,iff_false,Bool.false_eq_true,decide_eq_true_eq,Bool.or_eq_true]; omega)
def fileQ (l : List Pip) (f : Fdd) : Prop := ((f.kind = 1 ∨ f.kind = 2) ∧ f.n = 0 ∧ f.pos = 0) ∨ (f.kind = 3 ∧ 1 ≤ f.n ∧ f.n ≤ 64 ∧ 0 ≤ f.pos ∧ f.pos ≤ 8960) ∨ ((f.kind = 4 ∨ f.kind = 5) ∧ f.pos = 0 ∧ 0 ≤ placeI l f.n)
theorem file_ex (m : Mach) (hm : MFit 20000 m) (f : Fdd) (hf : fdR f) : ∃ b, (b = true ↔ fileQ m.pipes f) ∧ Spec Try.prog 111 [encM m, encFd f] (.bool b) := by
  obtain ⟨R, hR⟩ : ∃ R : Bool, (R = true ↔ fileQ m.pipes f) := by
    by_cases h : fileQ m.pipes f
    · exact ⟨true, iff_of_true rfl h⟩
    · exact ⟨false, iff_of_false (by simp) h⟩
  refine ⟨R, hR, ?_⟩
  have hP := place_spec m hm f.n hf.2.1
  obtain ⟨⟨f1, f2⟩, ⟨f3, f4⟩, f5, f6⟩ := hf
  unfold fileQ at hR
  generalize placeI m.pipes f.n = pl at hP hR
  refine spec_ok Try.func111 rfl rfl (by kernel_rfl) (k := 2) rfl (by decide) ?_
  repeat' (first|(with_reducible first|refine yrl (by constructor) ?_|refine jk (fun M hM=>?_)|(refine hM _ ?_;clear hM M)|refine xb3 (by decide) ?_|refine yqa (by assumption) ?_ ?_|refine yqb (by assumption) ?_ ?_)|((with_reducible refine je ?_)<;>(first|rfl|assumption|(simp only [znl,znP2];(first|done|fail))))|(with_reducible refine jf (by (simp only [↓reduceIte,zlk,Nat.reduceEqDiff,reduceCtorEq]);exact rfl) ?_)|((with_reducible first|refine jg (fun hc=>?_) (fun hc=>?_)|refine jh (fun hc=>?_) (fun hc=>?_))<;>(try simp (disch:=omega) only [zhb] at hc)<;>(try (exfalso;omega))<;>(try subst hc))|(with_reducible refine ji (by omega) ?_)|(simp (config := { maxSteps := 400000 }) only [↓jt,↓reduceIte,zvs,reduceCtorEq,Nat.reduceEqDiff,Nat.reduceAdd,Nat.reduceLeDiff,Nat.reduceMul,Int.reduceBNe,Int.reduceBEq,Int.reduceEq,Int.reduceNe,Int.reduceLT,Int.reduceLE,Int.reduceGT,Int.reduceGE,Int.reduceNeg,Int.reduceToNat,Nat.reduceLT,Nat.reduceSub,tab,encFd,Try.results111,jTA])|(simp (disch:=omega) only [ziw]))
  all_goals first
    | (exfalso; omega)
    | (simp only [zrds]; rw [Bool.eq_iff_iff, hR]; simp only [beq_iff_eq,true_iff,iff_true,false_iff,iff_false,Bool.false_eq_true,decide_eq_true_eq,Bool.or_eq_true]; omega)
    | (simp only [zrds]; symm; rw [Bool.eq_iff_iff, hR]; simp only [beq_iff_eq,true_iff,iff_true,false_iff,iff_false,Bool.false_eq_true,decide_eq_true_eq,Bool.or_eq_true]; omega)
theorem parent_no (m : Mach) (hm : MFit 20000 m) (p : Pr) (hp : PrR p) (h : ¬(livesB m.pr p.par = true ∨ (p.par = 0 ∧ livesP p = true))) : Spec Try.prog 110 [encM m, encPr p] (.bool false) := by
  have hl := hm.pr
  have hpR := hm.prR
  obtain ⟨hS1, hS2, hS3⟩ := pr3 hp
  have hL := slives_spec p hp
  simp only [encPr] at hL
  have h1 : ¬(p.par = 0 ∧ livesP p = true) := fun x => h (.inr x)
  have h2 : ∀ k, k < m.pr.length → livesQ p.par (m.pr.getD k default) = false := fun k hk => by
    cases hc : livesQ p.par (m.pr.getD k default) with
    | false => rfl
    | true =>
      refine absurd (.inl ?_) h
      unfold livesB
      rw [List.any_eq_true]
      exact ⟨_, getD_mem' hk, hc⟩
  obtain ⟨b, hb⟩ : ∃ b, livesP p = b := ⟨_, rfl⟩
  rw [hb] at hL h1
  have h1 : b = true → p.par ≠ 0 := fun e h => h1 ⟨h, e⟩
  cases b
  all_goals
    first | have h1 := h1 rfl | skip
    refine spec_ok Try.func110 rfl rfl (by kernel_rfl) (k := 2) rfl (by decide) ?_
    repeat' (first|(with_reducible first|refine yrl (by constructor) ?_|refine jk (fun M hM=>?_)|(refine hM _ ?_;clear hM M)|refine xb3 (by decide) ?_|refine yqa (by assumption) ?_ ?_|refine yqb (by assumption) ?_ ?_)|((with_reducible refine je ?_)<;>(first|rfl|assumption|(simp only [znl,znP2];(first|done|fail))))|(with_reducible refine jf (by (simp only [↓reduceIte,zlk,Nat.reduceEqDiff,reduceCtorEq]);exact rfl) ?_)|((with_reducible first|refine jg (fun hc=>?_) (fun hc=>?_)|refine jh (fun hc=>?_) (fun hc=>?_))<;>(try simp (disch:=omega) only [zhb] at hc)<;>(try (exfalso;omega))<;>(try subst hc))|(with_reducible refine ji (by omega) ?_)|(simp (config := { maxSteps := 400000 }) only [↓jt,↓reduceIte,zvs,reduceCtorEq,Nat.reduceEqDiff,Nat.reduceAdd,Nat.reduceLeDiff,Nat.reduceMul,Int.reduceBNe,Int.reduceBEq,Int.reduceEq,Int.reduceNe,Int.reduceLT,Int.reduceLE,Int.reduceGT,Int.reduceGE,Int.reduceNeg,Int.reduceToNat,Nat.reduceLT,Nat.reduceSub,tab,hS1,hS2,hS3,encPr,Try.results110,jTA])|(simp (disch:=omega) only [ziw]))
    all_goals (try (exfalso; omega))
    all_goals
      refine ja (ok_body Try.func47 rfl rfl (by kernel_rfl) (k := 2) (by rfl) (by decide) ?_)
      repeat' (first|(with_reducible first|refine yrl (by constructor) ?_|refine jk (fun M hM=>?_)|(refine hM _ ?_;clear hM M)|refine xb3 (by decide) ?_|refine yqa (by assumption) ?_ ?_|refine yqb (by assumption) ?_ ?_)|((with_reducible refine je ?_)<;>(first|rfl|assumption|(simp only [znl,znP2];(first|done|fail))))|(with_reducible refine jf (by (simp only [↓reduceIte,zlk,Nat.reduceEqDiff,reduceCtorEq]);exact rfl) ?_)|((with_reducible first|refine jg (fun hc=>?_) (fun hc=>?_)|refine jh (fun hc=>?_) (fun hc=>?_))<;>(try simp (disch:=omega) only [zhb] at hc)<;>(try (exfalso;omega))<;>(try subst hc))|(with_reducible refine ji (by omega) ?_)|(simp (config := { maxSteps := 400000 }) only [↓jt,↓reduceIte,zvs,reduceCtorEq,Nat.reduceEqDiff,Nat.reduceAdd,Nat.reduceLeDiff,Nat.reduceMul,Int.reduceBNe,Int.reduceBEq,Int.reduceEq,Int.reduceNe,Int.reduceLT,Int.reduceLE,Int.reduceGT,Int.reduceGE,Int.reduceNeg,Int.reduceToNat,Nat.reduceLT,Nat.reduceSub,tab,Try.results47, List.toList_toArray])|(simp (disch:=omega) only [ziw]))
      refine ja (ok_body Try.func53 rfl rfl (by kernel_rfl) (k := 2) (by rfl) (by decide) ?_)
      repeat' (first|(with_reducible first|refine yrl (by constructor) ?_|refine jk (fun M hM=>?_)|(refine hM _ ?_;clear hM M)|refine xb3 (by decide) ?_|refine yqa (by assumption) ?_ ?_|refine yqb (by assumption) ?_ ?_)|((with_reducible refine je ?_)<;>(first|rfl|assumption|(simp only [znl,znP2];(first|done|fail))))|(with_reducible refine jf (by (simp only [↓reduceIte,zlk,Nat.reduceEqDiff,reduceCtorEq]);exact rfl) ?_)|((with_reducible first|refine jg (fun hc=>?_) (fun hc=>?_)|refine jh (fun hc=>?_) (fun hc=>?_))<;>(try simp (disch:=omega) only [zhb] at hc)<;>(try (exfalso;omega))<;>(try subst hc))|(with_reducible refine ji (by omega) ?_)|(simp (config := { maxSteps := 400000 }) only [↓jt,↓reduceIte,zvs,reduceCtorEq,Nat.reduceEqDiff,Nat.reduceAdd,Nat.reduceLeDiff,Nat.reduceMul,Int.reduceBNe,Int.reduceBEq,Int.reduceEq,Int.reduceNe,Int.reduceLT,Int.reduceLE,Int.reduceGT,Int.reduceGE,Int.reduceNeg,Int.reduceToNat,Nat.reduceLT,Nat.reduceSub,tab,Try.results53, List.toList_toArray])|(simp (disch:=omega) only [ziw]))
      refine ok_loop (fun k : Nat => ⟨slots [(0, encPrs m.pr), (1, .fn 137 [.ptr 1 []]), (6, encPrs m.pr), (7, .int .i64 m.pr.length), (8, .int .i64 k)], rows [(0, .row machSh (encM m)), (1, .row prSh (encPrA p))], 2⟩) (fun k => k ≤ m.pr.length) (fun k => m.pr.length - k) 0 ?_ (Nat.zero_le _) (fun k hk => ?_)
      · (refine yrn [] false ?_ ?_<;>(repeat' (first|(with_reducible first|exact ya1|exact ya2|exact ya3|refine jx rfl (by first|rfl|assumption|(simp only [znl,znP2];(first|done|fail)))|exact ya5|exact ya7|exact jy|exact jz|refine jA ?_|refine ya9 ?_ ?_ ?_|refine jC rfl (by first|rfl|assumption|(simp only [znl,znP2];(first|done|fail)))|refine MR.agg (MRL.cons ?_ ?_)|refine MR.fn ?_|refine MRL.cons ?_ ?_|exact MRL.nil|refine jE ?_ ?_|exact jF|exact jG|refine yb1 ?_ ?_|refine MB.row ?_|refine jI ?_ ?_|exact ya8|refine jJ rfl (by first|rfl|assumption|(simp only [znl,znP2];(first|done|fail)))|refine yb2 ?_|rfl)|(simp only [znl,znP2];(first|done|fail))|(simp only [↓reduceIte,zlk,Nat.reduceEqDiff,reduceCtorEq])|(with_reducible first|refine jJ ?_ ?_|refine ya5 ?_|refine ju ?_|refine jv ?_|refine jw ?_|refine jx ?_ (by first|rfl|assumption|(simp only [znl,znP2];(first|done|fail)))|refine jC ?_ (by first|rfl|assumption|(simp only [znl,znP2];(first|done|fail)))))))
        all_goals (first | rfl)
      by_cases hlt : k < m.pr.length
      · have hb := hpR _ (getD_mem' hlt)
        obtain ⟨hT1, hT2, hT3⟩ := pr3 hb
        have hLq := slives_spec _ hb
        simp only [encPr] at hLq
        have hQd : livesQ p.par (m.pr.getD k default) = (decide ((m.pr.getD k default).pid = p.par) && livesP (m.pr.getD k default)) := rfl
        obtain ⟨c, hcc⟩ : ∃ c, livesP (m.pr.getD k default) = c := ⟨_, rfl⟩
        rw [hcc] at hLq hQd
        rw [h2 k hlt] at hQd
        have hqn : c = true → (m.pr.getD k default).pid ≠ p.par := fun e hq => by
          rw [e, decide_eq_true hq] at hQd
          cases hQd
        clear hQd
        cases c
        all_goals
          first | have hqn := hqn rfl | skip
          repeat' (first|(with_reducible first|refine yrl (by constructor) ?_|refine jk (fun M hM=>?_)|(refine hM _ ?_;clear hM M)|refine xb3 (by decide) ?_|refine yqa (by assumption) ?_ ?_|refine yqb (by assumption) ?_ ?_)|((with_reducible refine je ?_)<;>(first|rfl|assumption|(simp only [znl,znP2];(first|done|fail))))|(with_reducible refine jf (by (simp only [↓reduceIte,zlk,Nat.reduceEqDiff,reduceCtorEq]);exact rfl) ?_)|((with_reducible first|refine jg (fun hc=>?_) (fun hc=>?_)|refine jh (fun hc=>?_) (fun hc=>?_))<;>(try simp (disch:=omega) only [zhb] at hc)<;>(try (exfalso;omega))<;>(try subst hc))|(with_reducible refine ji (by omega) ?_)|(simp (config := { maxSteps := 400000 }) only [↓jt,↓reduceIte,zvs,reduceCtorEq,Nat.reduceEqDiff,Nat.reduceAdd,Nat.reduceLeDiff,Nat.reduceMul,Int.reduceBNe,Int.reduceBEq,Int.reduceEq,Int.reduceNe,Int.reduceLT,Int.reduceLE,Int.reduceGT,Int.reduceGE,Int.reduceNeg,Int.reduceToNat,Nat.reduceLT,Nat.reduceSub,tab,hT1,hT2,hT3,encPr,Try.results53, List.toList_toArray])|(simp (disch:=omega) only [ziw]))
          refine ja (ok_body Try.func137 rfl rfl (by kernel_rfl) (k := 2) (by rfl) (by decide) ?_)
          repeat' (first|(with_reducible first|refine yrl (by constructor) ?_|refine jk (fun M hM=>?_)|(refine hM _ ?_;clear hM M)|refine xb3 (by decide) ?_|refine yqa (by assumption) ?_ ?_|refine yqb (by assumption) ?_ ?_)|((with_reducible refine je ?_)<;>(first|rfl|assumption|(simp only [znl,znP2];(first|done|fail))))|(with_reducible refine jf (by (simp only [↓reduceIte,zlk,Nat.reduceEqDiff,reduceCtorEq]);exact rfl) ?_)|((with_reducible first|refine jg (fun hc=>?_) (fun hc=>?_)|refine jh (fun hc=>?_) (fun hc=>?_))<;>(try simp (disch:=omega) only [zhb] at hc)<;>(try (exfalso;omega))<;>(try subst hc))|(with_reducible refine ji (by omega) ?_)|(simp (config := { maxSteps := 400000 }) only [↓jt,↓reduceIte,zvs,reduceCtorEq,Nat.reduceEqDiff,Nat.reduceAdd,Nat.reduceLeDiff,Nat.reduceMul,Int.reduceBNe,Int.reduceBEq,Int.reduceEq,Int.reduceNe,Int.reduceLT,Int.reduceLE,Int.reduceGT,Int.reduceGE,Int.reduceNeg,Int.reduceToNat,Nat.reduceLT,Nat.reduceSub,tab,hT1,hT2,hT3,encPr,Try.results137,Try.results53, Try.results47, Try.results110, List.toList_toArray])|(simp (disch:=omega) only [ziw]))
          all_goals first
            | (exfalso; omega)
            | (refine xl1 (k + 1) ?_ (by show k + 1 ≤ m.pr.length; omega) (by show m.pr.length - (k + 1) < m.pr.length - k; omega); (refine yrn [] false ?_ ?_<;>(repeat' (first|(with_reducible first|exact ya1|exact ya2|exact ya3|refine jx rfl (by first|rfl|assumption|(simp only [znl,znP2];(first|done|fail)))|exact ya5|exact ya7|exact jy|exact jz|refine jA ?_|refine ya9 ?_ ?_ ?_|refine jC rfl (by first|rfl|assumption|(simp only [znl,znP2];(first|done|fail)))|refine MR.agg (MRL.cons ?_ ?_)|refine MR.fn ?_|refine MRL.cons ?_ ?_|exact MRL.nil|refine jE ?_ ?_|exact jF|exact jG|refine yb1 ?_ ?_|refine MB.row ?_|refine jI ?_ ?_|exact ya8|refine jJ rfl (by first|rfl|assumption|(simp only [znl,znP2];(first|done|fail)))|refine yb2 ?_|rfl)|(simp only [znl,znP2];(first|done|fail))|(simp only [↓reduceIte,zlk,Nat.reduceEqDiff,reduceCtorEq])|(with_reducible first|refine jJ ?_ ?_|refine ya5 ?_|refine ju ?_|refine jv ?_|refine jw ?_|refine jx ?_ (by first|rfl|assumption|(simp only [znl,znP2];(first|done|fail)))|refine jC ?_ (by first|rfl|assumption|(simp only [znl,znP2];(first|done|fail))))))); done)
      · obtain rfl : k = m.pr.length := by omega
        repeat' (first|(with_reducible first|refine yrl (by constructor) ?_|refine jk (fun M hM=>?_)|(refine hM _ ?_;clear hM M)|refine xb3 (by decide) ?_|refine yqa (by assumption) ?_ ?_|refine yqb (by assumption) ?_ ?_)|((with_reducible refine je ?_)<;>(first|rfl|assumption|(simp only [znl,znP2];(first|done|fail))))|(with_reducible refine jf (by (simp only [↓reduceIte,zlk,Nat.reduceEqDiff,reduceCtorEq]);exact rfl) ?_)|((with_reducible first|refine jg (fun hc=>?_) (fun hc=>?_)|refine jh (fun hc=>?_) (fun hc=>?_))<;>(try simp (disch:=omega) only [zhb] at hc)<;>(try (exfalso;omega))<;>(try subst hc))|(with_reducible refine ji (by omega) ?_)|(simp (config := { maxSteps := 400000 }) only [↓jt,↓reduceIte,zvs,reduceCtorEq,Nat.reduceEqDiff,Nat.reduceAdd,Nat.reduceLeDiff,Nat.reduceMul,Int.reduceBNe,Int.reduceBEq,Int.reduceEq,Int.reduceNe,Int.reduceLT,Int.reduceLE,Int.reduceGT,Int.reduceGE,Int.reduceNeg,Int.reduceToNat,Nat.reduceLT,Nat.reduceSub,tab,Try.results53, Try.results47, Try.results110, List.toList_toArray])|(simp (disch:=omega) only [ziw]))
        all_goals first
          | (exfalso; omega)
          | (simp only [zrds]; done)
          | (simp only [zrds]; first | exact decide_eq_false (by omega) | exact (decide_eq_false (by omega)).symm)
end Go.Proofs.Ytpdhdkpebbfnnaa.V
end
section
namespace Go.Proofs.Ytpdhdkpebbfnnaa.V
open Go
set_option maxRecDepth 100000
set_option maxHeartbeats 8000000
def pageS (m : Mach) (k j : Nat) : Prop :=
  if ((m.pr.getD k default).sp.getD j default).is = true then (m.pr.getD k default).st ≠ 3 ∧ 0 ≤ ((m.pr.getD k default).sp.getD j default).fr ∧ ((m.pr.getD k default).sp.getD j default).fr < m.fr.length ∧ ((m.pr.getD k default).sp.getD j default).fr ∉ metF m k j
  else ((m.pr.getD k default).sp.getD j default).wr = false ∧ ((m.pr.getD k default).sp.getD j default).fr = 0
def fdS (m : Mach) (k j : Nat) : Prop :=
  (((m.pr.getD k default).fds.getD j default).kind = 0 ∧ ((m.pr.getD k default).fds.getD j default).n = 0 ∧ ((m.pr.getD k default).fds.getD j default).pos = 0) ∨ ((m.pr.getD k default).st ≠ 3 ∧ fileQ m.pipes ((m.pr.getD k default).fds.getD j default))
def parS (m : Mach) (p : Pr) : Prop := livesB m.pr p.par = true ∨ (p.par = 0 ∧ livesP p = true)
structure okS (m : Mach) (k : Nat) : Prop where
  inc : lastQ m.pr k < (m.pr.getD k default).pid
  next : (m.pr.getD k default).pid < m.next
  fl : fieldQ (m.pr.getD k default).st ((m.pr.getD k default).rs.getD 0 default) (m.pr.getD k default).why (m.pr.getD k default).n (m.pr.getD k default).code
  par : parS m (m.pr.getD k default)
  pg : ∀ j, j < 16 → pageS m k j
  fd : ∀ j, j < 8 → fdS m k j
theorem metF_count {m : Mach} {k j : Nat} (hR : ∀ p ∈ m.pr, PrR p) (h : k < m.pr.length) (hj : j ≤ 16) (hp : ∀ i, i < j → pageS m k i) (h0 : ∀ f, (metF m k 0).count f ≤ 1) : ∀ f, (metF m k j).count f ≤ 1 := by
  induction j with
  | zero => exact h0
  | succ j ih =>
    intro f
    have ih := ih (by omega) (fun i hi => hp i (by omega)) f
    have hl := (hR _ (getD_mem' h)).sp
    have hpj := hp j (by omega)
    unfold pageS at hpj
    cases hi : ((m.pr.getD k default).sp.getD j default).is with
    | true =>
      rw [if_pos hi] at hpj
      rw [metF_in h (by omega) hi, List.count_append, List.count_singleton]
      split
      · rename_i e
        have e : ((m.pr.getD k default).sp.getD j default).fr = f := by simpa using e
        rw [← e, List.count_eq_zero.2 hpj.2.2.2]
        omega
      · omega
    | false => rw [metF_out h (by omega) hi]; exact ih
theorem metF_all {m : Mach} (hR : ∀ p ∈ m.pr, PrR p) (hq : ∀ k, k < m.pr.length → ∀ j, j < 16 → pageS m k j) : ∀ k, k ≤ m.pr.length → ∀ f, (metF m k 0).count f ≤ 1 := by
  intro k
  induction k with
  | zero => intro _ f; rw [metF_zero]; simp
  | succ k ih =>
    intro hk f
    rw [metF_next (by omega)]
    exact metF_count hR (by omega) (by omega) (fun i hi => hq k (by omega) i hi) (ih (by omega)) f
theorem usersS_own (f : Int) (s : List Pte) : ∀ k, k ≤ s.length → usersS f (s.take k) = (own s k).count f := by
  intro k
  induction k with
  | zero => intro _; simp [usersS, own]
  | succ k ih =>
    intro hk
    rw [take_snoc s k (by omega), usersS_snoc, ih (by omega), own_succ s k (by omega), List.count_append]
    congr 1
    cases hi : (s.getD k default).is with
    | true =>
      rw [if_pos rfl, List.count_singleton]
      by_cases e : (s.getD k default).fr = f
      · rw [if_pos ⟨rfl, e⟩, if_pos (by simpa using e)]
      · rw [if_neg (fun h => e h.2), if_neg (by simpa using e)]
    | false => rw [if_neg (by simp), if_neg (by simp)]; rfl
theorem usersN_metF {m : Mach} (hR : ∀ p ∈ m.pr, PrR p) (f : Int) : ∀ k, k ≤ m.pr.length → usersN (m.pr.take k) f = (metF m k 0).count f := by
  intro k
  induction k with
  | zero => intro _; rw [metF_zero]; simp [usersN]
  | succ k ih =>
    intro hk
    have hl := (hR _ (getD_mem' (show k < m.pr.length by omega))).sp
    have e := usersS_own f (m.pr.getD k default).sp 16 (by omega)
    rw [List.take_of_length_le (by omega)] at e
    rw [take_snoc m.pr k (by omega), usersN_snoc, ih (by omega), e, metF_next (by omega)]
    show _ = (List.flatMap _ _ ++ own _ 16).count f
    rw [List.count_append]
    congr 1
    unfold metF
    rw [show own (m.pr.getD k default).sp 0 = [] from rfl, List.append_nil]
theorem placeI_some {l : List Pip} {id : Int} (h : 0 ≤ placeI l id) : (pipeO l id).isSome = true := by
  unfold placeI at h
  cases hf : l.findIdx? (fun p => decide (p.id = id)) with
  | none => rw [hf] at h; exact absurd h (by decide)
  | some i =>
    obtain ⟨hi, h1, _⟩ := List.findIdx?_eq_some_iff_getElem.1 hf
    unfold pipeO
    rw [List.find?_isSome]
    exact ⟨_, List.getElem_mem hi, h1⟩
theorem fdS_ok {m : Mach} {k j : Nat} (h : fdS m k j) : fdsB m (m.pr.getD k default) ((m.pr.getD k default).fds.getD j default) = true := by
  unfold fdS fileQ at h
  unfold fdsB fdB
  generalize (m.pr.getD k default).fds.getD j default = f at h ⊢
  generalize (m.pr.getD k default).st = st at h ⊢
  rcases h with ⟨h1, h2, h3⟩ | ⟨hs, h⟩
  · rw [if_pos (.inl h1), decide_eq_true ⟨h2, h3⟩, decide_eq_false (show ¬(f.kind ≠ 0) by omega), Bool.and_false]; rfl
  · rw [decide_eq_false hs, Bool.false_and, Bool.not_false, Bool.and_true]
    rcases h with ⟨h1, h2⟩ | ⟨h1, h2⟩ | ⟨h1, h2, h3⟩
    · rw [if_pos (by omega), decide_eq_true h2]
    · rw [if_neg (by omega), if_pos h1, decide_eq_true h2]
    · rw [if_neg (by omega), if_neg (by omega), if_pos h1, decide_eq_true h2, placeI_some h3]; rfl
theorem lastQ_pos {m : Mach} (hq : ∀ k, k < m.pr.length → okS m k) : ∀ k, k ≤ m.pr.length → 0 ≤ lastQ m.pr k := by
  intro k
  induction k with
  | zero => intro _; exact Int.le_refl 0
  | succ k ih =>
    intro hk
    have h1 := ih (by omega)
    have h2 := (hq k (by omega)).inc
    show (0 : Int) ≤ (m.pr.getD k default).pid
    omega
theorem getElem_getD {α : Type} [Inhabited α] {l : List α} {j : Nat} (h : j < l.length) : l[j] = l.getD j default := by
  rw [List.getD_eq_getElem?_getD, List.getElem?_eq_getElem h]; rfl
theorem procs_all {m : Mach} (hR : ∀ p ∈ m.pr, PrR p) (hq : ∀ k, k < m.pr.length → okS m k) : procsB m = true := by
  have hcnt := metF_all hR (fun k hk => (hq k hk).pg) m.pr.length (Nat.le_refl _)
  refine List.all_eq_true.2 fun k hk => ?_
  have hk := List.mem_range.1 hk
  have h := hq k hk
  have hb := hR _ (getD_mem' hk)
  have hsl := hb.sp
  have hfl := hb.fds
  have h0 := lastQ_pos hq k (by omega)
  have h1 := h.inc
  rw [Bool.and_eq_true]
  refine ⟨?_, ?_⟩
  · cases k with
    | zero => rfl
    | succ k =>
      have h1 : (m.pr.getD k default).pid < (m.pr.getD (k + 1) default).pid := h1
      rw [Nat.add_sub_cancel, decide_eq_false (show ¬((m.pr.getD (k + 1) default).pid ≤ (m.pr.getD k default).pid) by omega), Bool.and_false]
      rfl
  · unfold procB
    rw [Bool.and_eq_true, Bool.and_eq_true]
    refine ⟨⟨(procH_iff m _).2 ?_, ?_⟩, ?_⟩
    · have h2 := h.fl
      have h3 := h.par
      have h4 := h.next
      unfold fieldQ at h2
      unfold parS at h3
      have h3 : livesB m.pr (m.pr.getD k default).par = true ∨ ((m.pr.getD k default).st ≠ 3 ∧ (m.pr.getD k default).par = 0) := by
        rcases h3 with h3 | ⟨h3, h5⟩
        · exact .inl h3
        · refine .inr ⟨fun h6 => ?_, h3⟩
          unfold livesP at h5
          rw [h6] at h5
          cases h5
      unfold headP
      generalize (livesB m.pr (m.pr.getD k default).par = true) = lb at h3 ⊢
      exact ⟨by omega, h4, h2.1, h2.2.1, h3, by omega, by omega, by omega, by omega, h2.2.2.2.2⟩
    · refine List.all_eq_true.2 fun x hx => ?_
      obtain ⟨j, hj, rfl⟩ := List.mem_iff_getElem.1 hx
      rw [getElem_getD hj]
      have hp := h.pg j (by omega)
      unfold pageS at hp
      cases hi : ((m.pr.getD k default).sp.getD j default).is with
      | true =>
        rw [if_pos hi] at hp
        refine (pteB_is hi).2 ⟨hp.1, hp.2.1, hp.2.2.1, ?_⟩
        have a1 := usersS_pos (s := (m.pr.getD k default).sp) hj hi rfl
        have a2 := usersN_ge ((m.pr.getD k default).sp.getD j default).fr (getD_mem' hk)
        have a3 := usersN_metF hR ((m.pr.getD k default).sp.getD j default).fr m.pr.length (Nat.le_refl _)
        rw [List.take_length] at a3
        have a4 := hcnt ((m.pr.getD k default).sp.getD j default).fr
        omega
      | false =>
        rw [if_neg (by rw [hi]; simp)] at hp
        exact (pteB_no hi).2 hp
    · refine List.all_eq_true.2 fun x hx => ?_
      obtain ⟨j, hj, rfl⟩ := List.mem_iff_getElem.1 hx
      rw [getElem_getD hj]
      exact fdS_ok (h.fd j (by omega))
end Go.Proofs.Ytpdhdkpebbfnnaa.V
end
section
namespace Go.Proofs.Ytpdhdkpebbfnnaa.V
open Go
set_option maxRecDepth 100000
set_option maxHeartbeats 1000000
end Go.Proofs.Ytpdhdkpebbfnnaa.V
end
section
namespace Go.Proofs.Ytpdhdkpebbfnnaa.V
open Go
set_option maxRecDepth 100000
set_option maxHeartbeats 1000000
end Go.Proofs.Ytpdhdkpebbfnnaa.V
end
section
namespace Go.Proofs.Ytpdhdkpebbfnnaa.V
open Go
set_option maxRecDepth 100000
set_option maxHeartbeats 1000000
end Go.Proofs.Ytpdhdkpebbfnnaa.V
end
section
namespace Go.Proofs.Ytpdhdkpebbfnnaa.V
open Go
set_option maxRecDepth 100000
set_option maxHeartbeats 4000000
def freeK (l : List Pr) (k : Nat) : List Nat := (List.range k).filter fun i => decide (usersN l (i : Nat) = 0)
theorem freeK_succ (l : List Pr) (k : Nat) : freeK l (k + 1) = freeK l k ++ if usersN l (k : Nat) = 0 then [k] else [] := by
  unfold freeK
  rw [List.range_succ, List.filter_append]
  congr 1
  by_cases h : usersN l (k : Nat) = 0
  · rw [if_pos h, List.filter_cons_of_pos (by simpa using h)]; rfl
  · rw [if_neg h, List.filter_cons_of_neg (by simpa using h)]; rfl
theorem freeK_le (l : List Pr) (k : Nat) : (freeK l k).length ≤ k := by
  have := List.length_filter_le (fun i : Nat => decide (usersN l (i : Nat) = 0)) (List.range k)
  rw [List.length_range] at this
  exact this
abbrev encNats (l : List Nat) : List VV := l.map fun i => VV.int .i64 ((i : Nat) : Int)
theorem nls_nats (l : List Nat) : nls (encNats l) = true := nls_map _ (fun _ => rfl) l
abbrev freeV (m : Mach) : VV := .dat .cell (encNats (freeK m.pr m.fr.length))
theorem rfree_spec (m : Mach) (hm : MFit 20000 m) : Spec Try.prog 99 [encM m] (freeV m) := by
  have hl := hm.fr
  refine spec_ok Try.func99 rfl rfl (by kernel_rfl) (k := 1) rfl (by decide) ?_
  repeat' (first|(with_reducible first|refine yrl (by constructor) ?_|refine jk (fun M hM=>?_)|(refine hM _ ?_;clear hM M)|refine xb3 (by decide) ?_|refine yqa (by assumption) ?_ ?_|refine yqb (by assumption) ?_ ?_)|((with_reducible refine je ?_)<;>(first|rfl|assumption|(simp only [znl,jO,jP,jQ,jR,jS,jT,jU,jV,nls_nats];(first|done|fail))))|(with_reducible refine jf (by (simp only [↓reduceIte,zlk,Nat.reduceEqDiff,reduceCtorEq]);exact rfl) ?_)|((with_reducible first|refine jg (fun hc=>?_) (fun hc=>?_)|refine jh (fun hc=>?_) (fun hc=>?_))<;>(try simp (disch:=omega) only [zhb] at hc)<;>(try (exfalso;omega))<;>(try subst hc))|(with_reducible refine ji (by omega) ?_)|(simp (config := { maxSteps := 400000 }) only [↓jt,↓reduceIte,zvs,reduceCtorEq,Nat.reduceEqDiff,Nat.reduceAdd,Nat.reduceLeDiff,Nat.reduceMul,Int.reduceBNe,Int.reduceBEq,Int.reduceEq,Int.reduceNe,Int.reduceLT,Int.reduceLE,Int.reduceGT,Int.reduceGE,Int.reduceNeg,Int.reduceToNat,Nat.reduceLT,Nat.reduceSub,tab,Try.results99,jTA])|(simp (disch:=omega) only [ziw]))
  refine ok_loop (fun k : Nat => ⟨slots [(1, .ptr 0 []), (2, .sl none 0), (3, .sl (some (1, [], 0)) (freeK m.pr k).length), (7, encStrs m.fr), (8, .int .i64 m.fr.length), (9, .int .i64 k)], rows [(0, .row machSh (encM m)), (1, .row (.arr (freeK m.pr k).length .cell) (.agg (encNats (freeK m.pr k))))], 2⟩) (fun k => k ≤ m.fr.length) (fun k => m.fr.length - k) 0 ?_ (Nat.zero_le _) (fun k hk => ?_)
  · (refine yrn [(0, 0), (1, 1)] false ?_ ?_<;>(repeat' (first|(with_reducible first|exact ya1|exact ya2|exact ya3|refine jx rfl (by first|rfl|assumption|(simp only [znl,jO,jP,jQ,jR,jS,jT,jU,jV,nls_nats];(first|done|fail)))|exact ya5|exact ya7|exact jy|exact jz|refine jA ?_|refine ya9 ?_ ?_ ?_|refine jC rfl (by first|rfl|assumption|(simp only [znl,jO,jP,jQ,jR,jS,jT,jU,jV,nls_nats];(first|done|fail)))|refine MR.agg (MRL.cons ?_ ?_)|refine MR.fn ?_|refine MRL.cons ?_ ?_|exact MRL.nil|refine jE ?_ ?_|exact jF|exact jG|refine yb1 ?_ ?_|refine MB.row ?_|refine jI ?_ ?_|exact ya8|refine jJ rfl (by first|rfl|assumption|(simp only [znl,jO,jP,jQ,jR,jS,jT,jU,jV,nls_nats];(first|done|fail)))|refine yb2 ?_|rfl)|(simp only [znl,jO,jP,jQ,jR,jS,jT,jU,jV,nls_nats];(first|done|fail))|(simp only [↓reduceIte,zlk,Nat.reduceEqDiff,reduceCtorEq])|(with_reducible first|refine jJ ?_ ?_|refine ya5 ?_|refine ju ?_|refine jv ?_|refine jw ?_|refine jx ?_ (by first|rfl|assumption|(simp only [znl,jO,jP,jQ,jR,jS,jT,jU,jV,nls_nats];(first|done|fail)))|refine jC ?_ (by first|rfl|assumption|(simp only [znl,jO,jP,jQ,jR,jS,jT,jU,jV,nls_nats];(first|done|fail)))))))
    all_goals (first | rfl)
  by_cases hlt : k < m.fr.length
  · have hU := users_spec m hm (k : Nat) ⟨by omega, by omega⟩
    have e := freeK_succ m.pr k
    have hfl := freeK_le m.pr k
    have hle := usersN_le (k : Nat) m.pr fun p hp => (hm.prR p hp).sp
    have hpl := hm.pr
    generalize hu : usersN m.pr (k : Nat) = u at hU e hle
    by_cases h0 : u = 0
    · subst h0
      rw [if_pos rfl] at e
      have z0 : ((0 : Nat) : Int) = 0 := rfl
      rw [z0] at hU
      repeat' (first|(with_reducible first|refine yrl (by constructor) ?_|refine jk (fun M hM=>?_)|(refine hM _ ?_;clear hM M)|refine xb3 (by decide) ?_|refine yqa (by assumption) ?_ ?_|refine yqb (by assumption) ?_ ?_)|((with_reducible refine je ?_)<;>(first|rfl|assumption|(simp only [znl,jO,jP,jQ,jR,jS,jT,jU,jV,nls_nats];(first|done|fail))))|(with_reducible refine jf (by (simp only [↓reduceIte,zlk,Nat.reduceEqDiff,reduceCtorEq]);exact rfl) ?_)|((with_reducible first|refine jg (fun hc=>?_) (fun hc=>?_)|refine jh (fun hc=>?_) (fun hc=>?_))<;>(try simp (disch:=omega) only [zhb] at hc)<;>(try (exfalso;omega))<;>(try subst hc))|(with_reducible refine ji (by omega) ?_)|(simp (config := { maxSteps := 400000 }) only [↓jt,↓reduceIte,zvs,reduceCtorEq,Nat.reduceEqDiff,Nat.reduceAdd,Nat.reduceLeDiff,Nat.reduceMul,Int.reduceBNe,Int.reduceBEq,Int.reduceEq,Int.reduceNe,Int.reduceLT,Int.reduceLE,Int.reduceGT,Int.reduceGE,Int.reduceNeg,Int.reduceToNat,Nat.reduceLT,Nat.reduceSub,tab,encNats,Try.results99,jTA])|(simp (disch:=omega) only [ziw]))
      all_goals first
        | (exfalso; omega)
        | (refine xl1 (k + 1) ?_ (by show k + 1 ≤ m.fr.length; omega) (by show m.fr.length - (k + 1) < m.fr.length - k; omega); (refine yrn [(0, 0), (1, 3)] false ?_ ?_<;>(repeat' (first|(with_reducible first|exact ya1|exact ya2|exact ya3|refine jx rfl (by first|rfl|assumption|(simp only [znl,jO,jP,jQ,jR,jS,jT,jU,jV,nls_nats];(first|done|fail)))|exact ya5|exact ya7|exact jy|exact jz|refine jA ?_|refine ya9 ?_ ?_ ?_|refine jC rfl (by first|rfl|assumption|(simp only [znl,jO,jP,jQ,jR,jS,jT,jU,jV,nls_nats];(first|done|fail)))|refine MR.agg (MRL.cons ?_ ?_)|refine MR.fn ?_|refine MRL.cons ?_ ?_|exact MRL.nil|refine jE ?_ ?_|exact jF|exact jG|refine yb1 ?_ ?_|refine MB.row ?_|refine jI ?_ ?_|exact ya8|refine jJ rfl (by first|rfl|assumption|(simp only [znl,jO,jP,jQ,jR,jS,jT,jU,jV,nls_nats];(first|done|fail)))|refine yb2 ?_|rfl)|(simp only [znl,jO,jP,jQ,jR,jS,jT,jU,jV,nls_nats];(first|done|fail))|(simp only [↓reduceIte,zlk,Nat.reduceEqDiff,reduceCtorEq])|(with_reducible first|refine jJ ?_ ?_|refine ya5 ?_|refine ju ?_|refine jv ?_|refine jw ?_|refine jx ?_ (by first|rfl|assumption|(simp only [znl,jO,jP,jQ,jR,jS,jT,jU,jV,nls_nats];(first|done|fail)))|refine jC ?_ (by first|rfl|assumption|(simp only [znl,jO,jP,jQ,jR,jS,jT,jU,jV,nls_nats];(first|done|fail))))))); all_goals (first | rfl | (rw [e]; simp; done)))
    · rw [if_neg h0, List.append_nil] at e
      repeat' (first|(with_reducible first|refine yrl (by constructor) ?_|refine jk (fun M hM=>?_)|(refine hM _ ?_;clear hM M)|refine xb3 (by decide) ?_|refine yqa (by assumption) ?_ ?_|refine yqb (by assumption) ?_ ?_)|((with_reducible refine je ?_)<;>(first|rfl|assumption|(simp only [znl,jO,jP,jQ,jR,jS,jT,jU,jV,nls_nats];(first|done|fail))))|(with_reducible refine jf (by (simp only [↓reduceIte,zlk,Nat.reduceEqDiff,reduceCtorEq]);exact rfl) ?_)|((with_reducible first|refine jg (fun hc=>?_) (fun hc=>?_)|refine jh (fun hc=>?_) (fun hc=>?_))<;>(try simp (disch:=omega) only [zhb] at hc)<;>(try (exfalso;omega))<;>(try subst hc))|(with_reducible refine ji (by omega) ?_)|(simp (config := { maxSteps := 400000 }) only [↓jt,↓reduceIte,zvs,reduceCtorEq,Nat.reduceEqDiff,Nat.reduceAdd,Nat.reduceLeDiff,Nat.reduceMul,Int.reduceBNe,Int.reduceBEq,Int.reduceEq,Int.reduceNe,Int.reduceLT,Int.reduceLE,Int.reduceGT,Int.reduceGE,Int.reduceNeg,Int.reduceToNat,Nat.reduceLT,Nat.reduceSub,tab,encNats,Try.results99,jTA])|(simp (disch:=omega) only [ziw]))
      all_goals first
        | (exfalso; omega)
        | (refine xl1 (k + 1) ?_ (by show k + 1 ≤ m.fr.length; omega) (by show m.fr.length - (k + 1) < m.fr.length - k; omega); (refine yrn [(0, 0), (1, 1)] false ?_ ?_<;>(repeat' (first|(with_reducible first|exact ya1|exact ya2|exact ya3|refine jx rfl (by first|rfl|assumption|(simp only [znl,jO,jP,jQ,jR,jS,jT,jU,jV,nls_nats];(first|done|fail)))|exact ya5|exact ya7|exact jy|exact jz|refine jA ?_|refine ya9 ?_ ?_ ?_|refine jC rfl (by first|rfl|assumption|(simp only [znl,jO,jP,jQ,jR,jS,jT,jU,jV,nls_nats];(first|done|fail)))|refine MR.agg (MRL.cons ?_ ?_)|refine MR.fn ?_|refine MRL.cons ?_ ?_|exact MRL.nil|refine jE ?_ ?_|exact jF|exact jG|refine yb1 ?_ ?_|refine MB.row ?_|refine jI ?_ ?_|exact ya8|refine jJ rfl (by first|rfl|assumption|(simp only [znl,jO,jP,jQ,jR,jS,jT,jU,jV,nls_nats];(first|done|fail)))|refine yb2 ?_|rfl)|(simp only [znl,jO,jP,jQ,jR,jS,jT,jU,jV,nls_nats];(first|done|fail))|(simp only [↓reduceIte,zlk,Nat.reduceEqDiff,reduceCtorEq])|(with_reducible first|refine jJ ?_ ?_|refine ya5 ?_|refine ju ?_|refine jv ?_|refine jw ?_|refine jx ?_ (by first|rfl|assumption|(simp only [znl,jO,jP,jQ,jR,jS,jT,jU,jV,nls_nats];(first|done|fail)))|refine jC ?_ (by first|rfl|assumption|(simp only [znl,jO,jP,jQ,jR,jS,jT,jU,jV,nls_nats];(first|done|fail))))))); all_goals (first | rfl | (rw [e]; done)))
  · obtain rfl : k = m.fr.length := by omega
    repeat' (first|(with_reducible first|refine yrl (by constructor) ?_|refine jk (fun M hM=>?_)|(refine hM _ ?_;clear hM M)|refine xb3 (by decide) ?_|refine yqa (by assumption) ?_ ?_|refine yqb (by assumption) ?_ ?_)|((with_reducible refine je ?_)<;>(first|rfl|assumption|(simp only [znl,jO,jP,jQ,jR,jS,jT,jU,jV,nls_nats];(first|done|fail))))|(with_reducible refine jf (by (simp only [↓reduceIte,zlk,Nat.reduceEqDiff,reduceCtorEq]);exact rfl) ?_)|((with_reducible first|refine jg (fun hc=>?_) (fun hc=>?_)|refine jh (fun hc=>?_) (fun hc=>?_))<;>(try simp (disch:=omega) only [zhb] at hc)<;>(try (exfalso;omega))<;>(try subst hc))|(with_reducible refine ji (by omega) ?_)|(simp (config := { maxSteps := 400000 }) only [↓jt,↓reduceIte,zvs,reduceCtorEq,Nat.reduceEqDiff,Nat.reduceAdd,Nat.reduceLeDiff,Nat.reduceMul,Int.reduceBNe,Int.reduceBEq,Int.reduceEq,Int.reduceNe,Int.reduceLT,Int.reduceLE,Int.reduceGT,Int.reduceGE,Int.reduceNeg,Int.reduceToNat,Nat.reduceLT,Nat.reduceSub,tab,Try.results99,jTA])|(simp (disch:=omega) only [ziw]))
    all_goals first
      | (refine rdt_of ?_ (by rfl); (refine rd_own (by (simp only [↓reduceIte,zlk,Nat.reduceEqDiff,reduceCtorEq]); exact rfl) ?_ ?_ ?_) <;> (first | rfl | assumption | (simp only [znl,jO,jP,jQ,jR,jS,jT,jU,jV,nls_nats];(first|done|fail)) | (simp; done) | (simp; omega) | skip); done)
theorem usersN_met {m : Mach} (hR : ∀ p ∈ m.pr, PrR p) (f : Int) : f ∈ metF m m.pr.length 0 ↔ ¬usersN m.pr f = 0 := by
  have := usersN_metF hR f m.pr.length (Nat.le_refl _)
  rw [List.take_length] at this
  rw [this, List.count_eq_zero]
  simp
theorem sfree_spec (m : Mach) (hm : MFit 20000 m) : Spec Try.prog 20 [encM m] (freeV m) := by
  have hl := hm.fr
  have hpl := hm.pr
  have hpR := hm.prR
  refine spec_ok Try.func20 rfl rfl (by kernel_rfl) (k := 1) rfl (by decide) ?_
  repeat' (first|(with_reducible first|refine yrl (by constructor) ?_|refine jk (fun M hM=>?_)|(refine hM _ ?_;clear hM M)|refine xb3 (by decide) ?_|refine yqa (by assumption) ?_ ?_|refine yqb (by assumption) ?_ ?_)|((with_reducible refine je ?_)<;>(first|rfl|assumption|(simp only [znl,jO,jP,jQ,jR,jS,jT,jU,jV,nls_nats];(first|done|fail))))|(with_reducible refine jf (by (simp only [↓reduceIte,zlk,Nat.reduceEqDiff,reduceCtorEq]);exact rfl) ?_)|((with_reducible first|refine jg (fun hc=>?_) (fun hc=>?_)|refine jh (fun hc=>?_) (fun hc=>?_))<;>(try simp (disch:=omega) only [zhb] at hc)<;>(try (exfalso;omega))<;>(try subst hc))|(with_reducible refine ji (by omega) ?_)|(simp (config := { maxSteps := 400000 }) only [↓jt,↓reduceIte,zvs,reduceCtorEq,Nat.reduceEqDiff,Nat.reduceAdd,Nat.reduceLeDiff,Nat.reduceMul,Int.reduceBNe,Int.reduceBEq,Int.reduceEq,Int.reduceNe,Int.reduceLT,Int.reduceLE,Int.reduceGT,Int.reduceGE,Int.reduceNeg,Int.reduceToNat,Nat.reduceLT,Nat.reduceSub,tab,Try.results20,jTA])|(simp (disch:=omega) only [ziw]))
  refine ok_loop (fun k : Nat => ⟨slots [(1, .ptr 0 []), (2, .sl none 0), (3, .map 1), (12, encPrs m.pr), (13, .int .i64 m.pr.length), (14, .int .i64 k)], rows [(0, .row machSh (encM m)), (1, .map (setM (metF m k 0)))], 2⟩) (fun k => k ≤ m.pr.length) (fun k => m.pr.length - k) 0 ?_ (Nat.zero_le _) (fun k hk => ?_)
  · (refine yrn [(0, 0), (1, 1)] false ?_ ?_<;>(repeat' (first|(with_reducible first|exact ya1|exact ya2|exact ya3|refine jx rfl (by first|rfl|assumption|(simp only [znl,jO,jP,jQ,jR,jS,jT,jU,jV,nls_nats];(first|done|fail)))|exact ya5|exact ya7|exact jy|exact jz|refine jA ?_|refine ya9 ?_ ?_ ?_|refine jC rfl (by first|rfl|assumption|(simp only [znl,jO,jP,jQ,jR,jS,jT,jU,jV,nls_nats];(first|done|fail)))|refine MR.agg (MRL.cons ?_ ?_)|refine MR.fn ?_|refine MRL.cons ?_ ?_|exact MRL.nil|refine jE ?_ ?_|exact jF|exact jG|refine yb1 ?_ ?_|refine MB.row ?_|refine jI ?_ ?_|exact ya8|refine jJ rfl (by first|rfl|assumption|(simp only [znl,jO,jP,jQ,jR,jS,jT,jU,jV,nls_nats];(first|done|fail)))|refine yb2 ?_|rfl)|(simp only [znl,jO,jP,jQ,jR,jS,jT,jU,jV,nls_nats];(first|done|fail))|(simp only [↓reduceIte,zlk,Nat.reduceEqDiff,reduceCtorEq])|(with_reducible first|refine jJ ?_ ?_|refine ya5 ?_|refine ju ?_|refine jv ?_|refine jw ?_|refine jx ?_ (by first|rfl|assumption|(simp only [znl,jO,jP,jQ,jR,jS,jT,jU,jV,nls_nats];(first|done|fail)))|refine jC ?_ (by first|rfl|assumption|(simp only [znl,jO,jP,jQ,jR,jS,jT,jU,jV,nls_nats];(first|done|fail)))))))
    all_goals (first | rfl | (rw [metF_zero]; rfl))
  by_cases hlt : k < m.pr.length
  · have hb := hpR _ (getD_mem' hlt)
    obtain ⟨hS1, hS2, hS3⟩ := pr3 hb
    have hsl := hb.sp
    have hsR := hb.spR
    repeat' (first|(with_reducible first|refine yrl (by constructor) ?_|refine jk (fun M hM=>?_)|(refine hM _ ?_;clear hM M)|refine xb3 (by decide) ?_|refine yqa (by assumption) ?_ ?_|refine yqb (by assumption) ?_ ?_)|((with_reducible refine je ?_)<;>(first|rfl|assumption|(simp only [znl,jO,jP,jQ,jR,jS,jT,jU,jV,nls_nats];(first|done|fail))))|(with_reducible refine jf (by (simp only [↓reduceIte,zlk,Nat.reduceEqDiff,reduceCtorEq]);exact rfl) ?_)|((with_reducible first|refine jg (fun hc=>?_) (fun hc=>?_)|refine jh (fun hc=>?_) (fun hc=>?_))<;>(try simp (disch:=omega) only [zhb] at hc)<;>(try (exfalso;omega))<;>(try subst hc))|(with_reducible refine ji (by omega) ?_)|(simp (config := { maxSteps := 400000 }) only [↓jt,↓reduceIte,zvs,reduceCtorEq,Nat.reduceEqDiff,Nat.reduceAdd,Nat.reduceLeDiff,Nat.reduceMul,Int.reduceBNe,Int.reduceBEq,Int.reduceEq,Int.reduceNe,Int.reduceLT,Int.reduceLE,Int.reduceGT,Int.reduceGE,Int.reduceNeg,Int.reduceToNat,Nat.reduceLT,Nat.reduceSub,tab,hS1,hS2,hS3,encPr,Try.results20,jTA])|(simp (disch:=omega) only [ziw]))
    refine ok_loop (fun j : Nat => ⟨slots [(1, .ptr 0 []), (2, .sl none 0), (3, .map 1), (12, encPrs m.pr), (13, .int .i64 m.pr.length), (14, .int .i64 k), (19, .agg ((m.pr.getD k default).sp.map encPte)), (20, .int .i64 j)], rows [(0, .row machSh (encM m)), (1, .map (setM (metF m k j)))], 2⟩) (fun j => j ≤ 16) (fun j => 16 - j) 0 ?_ (Nat.zero_le _) (fun j hj => ?_)
    · (refine yrn [(0, 0), (1, 1)] false ?_ ?_<;>(repeat' (first|(with_reducible first|exact ya1|exact ya2|exact ya3|refine jx rfl (by first|rfl|assumption|(simp only [znl,jO,jP,jQ,jR,jS,jT,jU,jV,nls_nats];(first|done|fail)))|exact ya5|exact ya7|exact jy|exact jz|refine jA ?_|refine ya9 ?_ ?_ ?_|refine jC rfl (by first|rfl|assumption|(simp only [znl,jO,jP,jQ,jR,jS,jT,jU,jV,nls_nats];(first|done|fail)))|refine MR.agg (MRL.cons ?_ ?_)|refine MR.fn ?_|refine MRL.cons ?_ ?_|exact MRL.nil|refine jE ?_ ?_|exact jF|exact jG|refine yb1 ?_ ?_|refine MB.row ?_|refine jI ?_ ?_|exact ya8|refine jJ rfl (by first|rfl|assumption|(simp only [znl,jO,jP,jQ,jR,jS,jT,jU,jV,nls_nats];(first|done|fail)))|refine yb2 ?_|rfl)|(simp only [znl,jO,jP,jQ,jR,jS,jT,jU,jV,nls_nats];(first|done|fail))|(simp only [↓reduceIte,zlk,Nat.reduceEqDiff,reduceCtorEq])|(with_reducible first|refine jJ ?_ ?_|refine ya5 ?_|refine ju ?_|refine jv ?_|refine jw ?_|refine jx ?_ (by first|rfl|assumption|(simp only [znl,jO,jP,jQ,jR,jS,jT,jU,jV,nls_nats];(first|done|fail)))|refine jC ?_ (by first|rfl|assumption|(simp only [znl,jO,jP,jQ,jR,jS,jT,jU,jV,nls_nats];(first|done|fail)))))))
      all_goals (first | rfl)
    by_cases hjlt : j < 16
    · have hpb := hsR _ (getD_mem' (show j < (m.pr.getD k default).sp.length by omega))
      cases hi : ((m.pr.getD k default).sp.getD j default).is with
      | true =>
        have e := metF_in hlt (show j < (m.pr.getD k default).sp.length by omega) hi
        repeat' (first|(with_reducible first|refine yrl (by constructor) ?_|refine jk (fun M hM=>?_)|(refine hM _ ?_;clear hM M)|refine xb3 (by decide) ?_|refine yqa (by assumption) ?_ ?_|refine yqb (by assumption) ?_ ?_)|((with_reducible refine je ?_)<;>(first|rfl|assumption|(simp only [znl,jO,jP,jQ,jR,jS,jT,jU,jV,nls_nats];(first|done|fail))))|(with_reducible refine jf (by (simp only [↓reduceIte,zlk,Nat.reduceEqDiff,reduceCtorEq]);exact rfl) ?_)|((with_reducible first|refine jg (fun hc=>?_) (fun hc=>?_)|refine jh (fun hc=>?_) (fun hc=>?_))<;>(try simp (disch:=omega) only [zhb] at hc)<;>(try (exfalso;omega))<;>(try subst hc))|(with_reducible refine ji (by omega) ?_)|(simp (config := { maxSteps := 400000 }) only [↓jt,↓reduceIte,zvs,reduceCtorEq,Nat.reduceEqDiff,Nat.reduceAdd,Nat.reduceLeDiff,Nat.reduceMul,Int.reduceBNe,Int.reduceBEq,Int.reduceEq,Int.reduceNe,Int.reduceLT,Int.reduceLE,Int.reduceGT,Int.reduceGE,Int.reduceNeg,Int.reduceToNat,Nat.reduceLT,Nat.reduceSub,tab,hS1,hS2,hS3,encPte,hi,keys_setM,setM_snoc,Try.results20,jTA])|(simp (disch:=omega) only [ziw]))
        all_goals first
          | (exfalso; omega)
          | (refine xl1 (j + 1) ?_ (by show j + 1 ≤ 16; omega) (by show 16 - (j + 1) < 16 - j; omega); (refine yrn [(0, 0), (1, 1)] false ?_ ?_<;>(repeat' (first|(with_reducible first|exact ya1|exact ya2|exact ya3|refine jx rfl (by first|rfl|assumption|(simp only [znl,jO,jP,jQ,jR,jS,jT,jU,jV,nls_nats];(first|done|fail)))|exact ya5|exact ya7|exact jy|exact jz|refine jA ?_|refine ya9 ?_ ?_ ?_|refine jC rfl (by first|rfl|assumption|(simp only [znl,jO,jP,jQ,jR,jS,jT,jU,jV,nls_nats];(first|done|fail)))|refine MR.agg (MRL.cons ?_ ?_)|refine MR.fn ?_|refine MRL.cons ?_ ?_|exact MRL.nil|refine jE ?_ ?_|exact jF|exact jG|refine yb1 ?_ ?_|refine MB.row ?_|refine jI ?_ ?_|exact ya8|refine jJ rfl (by first|rfl|assumption|(simp only [znl,jO,jP,jQ,jR,jS,jT,jU,jV,nls_nats];(first|done|fail)))|refine yb2 ?_|rfl)|(simp only [znl,jO,jP,jQ,jR,jS,jT,jU,jV,nls_nats];(first|done|fail))|(simp only [↓reduceIte,zlk,Nat.reduceEqDiff,reduceCtorEq])|(with_reducible first|refine jJ ?_ ?_|refine ya5 ?_|refine ju ?_|refine jv ?_|refine jw ?_|refine jx ?_ (by first|rfl|assumption|(simp only [znl,jO,jP,jQ,jR,jS,jT,jU,jV,nls_nats];(first|done|fail)))|refine jC ?_ (by first|rfl|assumption|(simp only [znl,jO,jP,jQ,jR,jS,jT,jU,jV,nls_nats];(first|done|fail))))))); all_goals (first | rfl | (rw [e]; done)))
      | false =>
        have e := metF_out hlt (show j < (m.pr.getD k default).sp.length by omega) hi
        repeat' (first|(with_reducible first|refine yrl (by constructor) ?_|refine jk (fun M hM=>?_)|(refine hM _ ?_;clear hM M)|refine xb3 (by decide) ?_|refine yqa (by assumption) ?_ ?_|refine yqb (by assumption) ?_ ?_)|((with_reducible refine je ?_)<;>(first|rfl|assumption|(simp only [znl,jO,jP,jQ,jR,jS,jT,jU,jV,nls_nats];(first|done|fail))))|(with_reducible refine jf (by (simp only [↓reduceIte,zlk,Nat.reduceEqDiff,reduceCtorEq]);exact rfl) ?_)|((with_reducible first|refine jg (fun hc=>?_) (fun hc=>?_)|refine jh (fun hc=>?_) (fun hc=>?_))<;>(try simp (disch:=omega) only [zhb] at hc)<;>(try (exfalso;omega))<;>(try subst hc))|(with_reducible refine ji (by omega) ?_)|(simp (config := { maxSteps := 400000 }) only [↓jt,↓reduceIte,zvs,reduceCtorEq,Nat.reduceEqDiff,Nat.reduceAdd,Nat.reduceLeDiff,Nat.reduceMul,Int.reduceBNe,Int.reduceBEq,Int.reduceEq,Int.reduceNe,Int.reduceLT,Int.reduceLE,Int.reduceGT,Int.reduceGE,Int.reduceNeg,Int.reduceToNat,Nat.reduceLT,Nat.reduceSub,tab,hS1,hS2,hS3,encPte,hi,keys_setM,setM_snoc,Try.results20,jTA])|(simp (disch:=omega) only [ziw]))
        all_goals first
          | (exfalso; omega)
          | (refine xl1 (j + 1) ?_ (by show j + 1 ≤ 16; omega) (by show 16 - (j + 1) < 16 - j; omega); (refine yrn [(0, 0), (1, 1)] false ?_ ?_<;>(repeat' (first|(with_reducible first|exact ya1|exact ya2|exact ya3|refine jx rfl (by first|rfl|assumption|(simp only [znl,jO,jP,jQ,jR,jS,jT,jU,jV,nls_nats];(first|done|fail)))|exact ya5|exact ya7|exact jy|exact jz|refine jA ?_|refine ya9 ?_ ?_ ?_|refine jC rfl (by first|rfl|assumption|(simp only [znl,jO,jP,jQ,jR,jS,jT,jU,jV,nls_nats];(first|done|fail)))|refine MR.agg (MRL.cons ?_ ?_)|refine MR.fn ?_|refine MRL.cons ?_ ?_|exact MRL.nil|refine jE ?_ ?_|exact jF|exact jG|refine yb1 ?_ ?_|refine MB.row ?_|refine jI ?_ ?_|exact ya8|refine jJ rfl (by first|rfl|assumption|(simp only [znl,jO,jP,jQ,jR,jS,jT,jU,jV,nls_nats];(first|done|fail)))|refine yb2 ?_|rfl)|(simp only [znl,jO,jP,jQ,jR,jS,jT,jU,jV,nls_nats];(first|done|fail))|(simp only [↓reduceIte,zlk,Nat.reduceEqDiff,reduceCtorEq])|(with_reducible first|refine jJ ?_ ?_|refine ya5 ?_|refine ju ?_|refine jv ?_|refine jw ?_|refine jx ?_ (by first|rfl|assumption|(simp only [znl,jO,jP,jQ,jR,jS,jT,jU,jV,nls_nats];(first|done|fail)))|refine jC ?_ (by first|rfl|assumption|(simp only [znl,jO,jP,jQ,jR,jS,jT,jU,jV,nls_nats];(first|done|fail))))))); all_goals (first | rfl | (rw [e]; done)))
    · obtain rfl : j = 16 := by omega
      have e := metF_next hlt
      repeat' (first|(with_reducible first|refine yrl (by constructor) ?_|refine jk (fun M hM=>?_)|(refine hM _ ?_;clear hM M)|refine xb3 (by decide) ?_|refine yqa (by assumption) ?_ ?_|refine yqb (by assumption) ?_ ?_)|((with_reducible refine je ?_)<;>(first|rfl|assumption|(simp only [znl,jO,jP,jQ,jR,jS,jT,jU,jV,nls_nats];(first|done|fail))))|(with_reducible refine jf (by (simp only [↓reduceIte,zlk,Nat.reduceEqDiff,reduceCtorEq]);exact rfl) ?_)|((with_reducible first|refine jg (fun hc=>?_) (fun hc=>?_)|refine jh (fun hc=>?_) (fun hc=>?_))<;>(try simp (disch:=omega) only [zhb] at hc)<;>(try (exfalso;omega))<;>(try subst hc))|(with_reducible refine ji (by omega) ?_)|(simp (config := { maxSteps := 400000 }) only [↓jt,↓reduceIte,zvs,reduceCtorEq,Nat.reduceEqDiff,Nat.reduceAdd,Nat.reduceLeDiff,Nat.reduceMul,Int.reduceBNe,Int.reduceBEq,Int.reduceEq,Int.reduceNe,Int.reduceLT,Int.reduceLE,Int.reduceGT,Int.reduceGE,Int.reduceNeg,Int.reduceToNat,Nat.reduceLT,Nat.reduceSub,tab,hS1,hS2,hS3,Try.results20,jTA])|(simp (disch:=omega) only [ziw]))
      all_goals first
        | (exfalso; omega)
        | (refine xl1 (k + 1) ?_ (by show k + 1 ≤ m.pr.length; omega) (by show m.pr.length - (k + 1) < m.pr.length - k; omega); (refine yrn [(0, 0), (1, 1)] false ?_ ?_<;>(repeat' (first|(with_reducible first|exact ya1|exact ya2|exact ya3|refine jx rfl (by first|rfl|assumption|(simp only [znl,jO,jP,jQ,jR,jS,jT,jU,jV,nls_nats];(first|done|fail)))|exact ya5|exact ya7|exact jy|exact jz|refine jA ?_|refine ya9 ?_ ?_ ?_|refine jC rfl (by first|rfl|assumption|(simp only [znl,jO,jP,jQ,jR,jS,jT,jU,jV,nls_nats];(first|done|fail)))|refine MR.agg (MRL.cons ?_ ?_)|refine MR.fn ?_|refine MRL.cons ?_ ?_|exact MRL.nil|refine jE ?_ ?_|exact jF|exact jG|refine yb1 ?_ ?_|refine MB.row ?_|refine jI ?_ ?_|exact ya8|refine jJ rfl (by first|rfl|assumption|(simp only [znl,jO,jP,jQ,jR,jS,jT,jU,jV,nls_nats];(first|done|fail)))|refine yb2 ?_|rfl)|(simp only [znl,jO,jP,jQ,jR,jS,jT,jU,jV,nls_nats];(first|done|fail))|(simp only [↓reduceIte,zlk,Nat.reduceEqDiff,reduceCtorEq])|(with_reducible first|refine jJ ?_ ?_|refine ya5 ?_|refine ju ?_|refine jv ?_|refine jw ?_|refine jx ?_ (by first|rfl|assumption|(simp only [znl,jO,jP,jQ,jR,jS,jT,jU,jV,nls_nats];(first|done|fail)))|refine jC ?_ (by first|rfl|assumption|(simp only [znl,jO,jP,jQ,jR,jS,jT,jU,jV,nls_nats];(first|done|fail))))))); all_goals (first | rfl | (rw [e]; done)))
  obtain rfl : k = m.pr.length := by omega
  have hmet := fun f => usersN_met hpR (m := m) f
  generalize metF m m.pr.length 0 = L at hmet
  repeat' (first|(with_reducible first|refine yrl (by constructor) ?_|refine jk (fun M hM=>?_)|(refine hM _ ?_;clear hM M)|refine xb3 (by decide) ?_|refine yqa (by assumption) ?_ ?_|refine yqb (by assumption) ?_ ?_)|((with_reducible refine je ?_)<;>(first|rfl|assumption|(simp only [znl,jO,jP,jQ,jR,jS,jT,jU,jV,nls_nats];(first|done|fail))))|(with_reducible refine jf (by (simp only [↓reduceIte,zlk,Nat.reduceEqDiff,reduceCtorEq]);exact rfl) ?_)|((with_reducible first|refine jg (fun hc=>?_) (fun hc=>?_)|refine jh (fun hc=>?_) (fun hc=>?_))<;>(try simp (disch:=omega) only [zhb] at hc)<;>(try (exfalso;omega))<;>(try subst hc))|(with_reducible refine ji (by omega) ?_)|(simp (config := { maxSteps := 400000 }) only [↓jt,↓reduceIte,zvs,reduceCtorEq,Nat.reduceEqDiff,Nat.reduceAdd,Nat.reduceLeDiff,Nat.reduceMul,Int.reduceBNe,Int.reduceBEq,Int.reduceEq,Int.reduceNe,Int.reduceLT,Int.reduceLE,Int.reduceGT,Int.reduceGE,Int.reduceNeg,Int.reduceToNat,Nat.reduceLT,Nat.reduceSub,tab,Try.results20,jTA])|(simp (disch:=omega) only [ziw]))
  refine ok_loop (fun k : Nat => ⟨slots [(1, .ptr 0 []), (2, .sl none 0), (3, .map 1), (8, .sl (some (2, [], 0)) (freeK m.pr k).length), (31, encStrs m.fr), (32, .int .i64 m.fr.length), (33, .int .i64 k)], rows [(0, .row machSh (encM m)), (1, .map (setM L)), (2, .row (.arr (freeK m.pr k).length .cell) (.agg (encNats (freeK m.pr k))))], 3⟩) (fun k => k ≤ m.fr.length) (fun k => m.fr.length - k) 0 ?_ (Nat.zero_le _) (fun k hk => ?_)
  · (refine yrn [(0, 0), (1, 1)] false ?_ ?_<;>(repeat' (first|(with_reducible first|exact ya1|exact ya2|exact ya3|refine jx rfl (by first|rfl|assumption|(simp only [znl,jO,jP,jQ,jR,jS,jT,jU,jV,nls_nats];(first|done|fail)))|exact ya5|exact ya7|exact jy|exact jz|refine jA ?_|refine ya9 ?_ ?_ ?_|refine jC rfl (by first|rfl|assumption|(simp only [znl,jO,jP,jQ,jR,jS,jT,jU,jV,nls_nats];(first|done|fail)))|refine MR.agg (MRL.cons ?_ ?_)|refine MR.fn ?_|refine MRL.cons ?_ ?_|exact MRL.nil|refine jE ?_ ?_|exact jF|exact jG|refine yb1 ?_ ?_|refine MB.row ?_|refine jI ?_ ?_|exact ya8|refine jJ rfl (by first|rfl|assumption|(simp only [znl,jO,jP,jQ,jR,jS,jT,jU,jV,nls_nats];(first|done|fail)))|refine yb2 ?_|rfl)|(simp only [znl,jO,jP,jQ,jR,jS,jT,jU,jV,nls_nats];(first|done|fail))|(simp only [↓reduceIte,zlk,Nat.reduceEqDiff,reduceCtorEq])|(with_reducible first|refine jJ ?_ ?_|refine ya5 ?_|refine ju ?_|refine jv ?_|refine jw ?_|refine jx ?_ (by first|rfl|assumption|(simp only [znl,jO,jP,jQ,jR,jS,jT,jU,jV,nls_nats];(first|done|fail)))|refine jC ?_ (by first|rfl|assumption|(simp only [znl,jO,jP,jQ,jR,jS,jT,jU,jV,nls_nats];(first|done|fail)))))))
    all_goals (first | rfl)
  by_cases hlt : k < m.fr.length
  · have e := freeK_succ m.pr k
    have hfl := freeK_le m.pr k
    have hk2 := hmet (k : Nat)
    by_cases h0 : usersN m.pr (k : Nat) = 0
    · rw [if_pos h0] at e
      have hno : ((k : Nat) : Int) ∉ L := fun h => hk2.1 h h0
      have hd : decide (((k : Nat) : Int) ∈ L) = false := decide_eq_false hno
      repeat' (first|(with_reducible first|refine yrl (by constructor) ?_|refine jk (fun M hM=>?_)|(refine hM _ ?_;clear hM M)|refine xb3 (by decide) ?_|refine yqa (by assumption) ?_ ?_|refine yqb (by assumption) ?_ ?_)|((with_reducible refine je ?_)<;>(first|rfl|assumption|(simp only [znl,jO,jP,jQ,jR,jS,jT,jU,jV,nls_nats];(first|done|fail))))|(with_reducible refine jf (by (simp only [↓reduceIte,zlk,Nat.reduceEqDiff,reduceCtorEq]);exact rfl) ?_)|((with_reducible first|refine jg (fun hc=>?_) (fun hc=>?_)|refine jh (fun hc=>?_) (fun hc=>?_))<;>(try simp (disch:=omega) only [zhb] at hc)<;>(try (exfalso;omega))<;>(try subst hc))|(with_reducible refine ji (by omega) ?_)|(simp (config := { maxSteps := 400000 }) only [↓jt,↓reduceIte,zvs,reduceCtorEq,Nat.reduceEqDiff,Nat.reduceAdd,Nat.reduceLeDiff,Nat.reduceMul,Int.reduceBNe,Int.reduceBEq,Int.reduceEq,Int.reduceNe,Int.reduceLT,Int.reduceLE,Int.reduceGT,Int.reduceGE,Int.reduceNeg,Int.reduceToNat,Nat.reduceLT,Nat.reduceSub,tab,encNats,look_setM,keys_setM,hd,Try.results20,jTA])|(simp (disch:=omega) only [ziw]))
      all_goals first
        | (exfalso; omega)
        | (refine xl1 (k + 1) ?_ (by show k + 1 ≤ m.fr.length; omega) (by show m.fr.length - (k + 1) < m.fr.length - k; omega); (refine yrn [(0, 0), (1, 1), (2, 4)] false ?_ ?_<;>(repeat' (first|(with_reducible first|exact ya1|exact ya2|exact ya3|refine jx rfl (by first|rfl|assumption|(simp only [znl,jO,jP,jQ,jR,jS,jT,jU,jV,nls_nats];(first|done|fail)))|exact ya5|exact ya7|exact jy|exact jz|refine jA ?_|refine ya9 ?_ ?_ ?_|refine jC rfl (by first|rfl|assumption|(simp only [znl,jO,jP,jQ,jR,jS,jT,jU,jV,nls_nats];(first|done|fail)))|refine MR.agg (MRL.cons ?_ ?_)|refine MR.fn ?_|refine MRL.cons ?_ ?_|exact MRL.nil|refine jE ?_ ?_|exact jF|exact jG|refine yb1 ?_ ?_|refine MB.row ?_|refine jI ?_ ?_|exact ya8|refine jJ rfl (by first|rfl|assumption|(simp only [znl,jO,jP,jQ,jR,jS,jT,jU,jV,nls_nats];(first|done|fail)))|refine yb2 ?_|rfl)|(simp only [znl,jO,jP,jQ,jR,jS,jT,jU,jV,nls_nats];(first|done|fail))|(simp only [↓reduceIte,zlk,Nat.reduceEqDiff,reduceCtorEq])|(with_reducible first|refine jJ ?_ ?_|refine ya5 ?_|refine ju ?_|refine jv ?_|refine jw ?_|refine jx ?_ (by first|rfl|assumption|(simp only [znl,jO,jP,jQ,jR,jS,jT,jU,jV,nls_nats];(first|done|fail)))|refine jC ?_ (by first|rfl|assumption|(simp only [znl,jO,jP,jQ,jR,jS,jT,jU,jV,nls_nats];(first|done|fail))))))); all_goals (first | rfl | (rw [e]; simp; done)))
    · rw [if_neg h0, List.append_nil] at e
      have hd : decide (((k : Nat) : Int) ∈ L) = true := decide_eq_true (hk2.2 h0)
      repeat' (first|(with_reducible first|refine yrl (by constructor) ?_|refine jk (fun M hM=>?_)|(refine hM _ ?_;clear hM M)|refine xb3 (by decide) ?_|refine yqa (by assumption) ?_ ?_|refine yqb (by assumption) ?_ ?_)|((with_reducible refine je ?_)<;>(first|rfl|assumption|(simp only [znl,jO,jP,jQ,jR,jS,jT,jU,jV,nls_nats];(first|done|fail))))|(with_reducible refine jf (by (simp only [↓reduceIte,zlk,Nat.reduceEqDiff,reduceCtorEq]);exact rfl) ?_)|((with_reducible first|refine jg (fun hc=>?_) (fun hc=>?_)|refine jh (fun hc=>?_) (fun hc=>?_))<;>(try simp (disch:=omega) only [zhb] at hc)<;>(try (exfalso;omega))<;>(try subst hc))|(with_reducible refine ji (by omega) ?_)|(simp (config := { maxSteps := 400000 }) only [↓jt,↓reduceIte,zvs,reduceCtorEq,Nat.reduceEqDiff,Nat.reduceAdd,Nat.reduceLeDiff,Nat.reduceMul,Int.reduceBNe,Int.reduceBEq,Int.reduceEq,Int.reduceNe,Int.reduceLT,Int.reduceLE,Int.reduceGT,Int.reduceGE,Int.reduceNeg,Int.reduceToNat,Nat.reduceLT,Nat.reduceSub,tab,encNats,look_setM,keys_setM,hd,Try.results20,jTA])|(simp (disch:=omega) only [ziw]))
      all_goals first
        | (exfalso; omega)
        | (refine xl1 (k + 1) ?_ (by show k + 1 ≤ m.fr.length; omega) (by show m.fr.length - (k + 1) < m.fr.length - k; omega); (refine yrn [(0, 0), (1, 1), (2, 2)] false ?_ ?_<;>(repeat' (first|(with_reducible first|exact ya1|exact ya2|exact ya3|refine jx rfl (by first|rfl|assumption|(simp only [znl,jO,jP,jQ,jR,jS,jT,jU,jV,nls_nats];(first|done|fail)))|exact ya5|exact ya7|exact jy|exact jz|refine jA ?_|refine ya9 ?_ ?_ ?_|refine jC rfl (by first|rfl|assumption|(simp only [znl,jO,jP,jQ,jR,jS,jT,jU,jV,nls_nats];(first|done|fail)))|refine MR.agg (MRL.cons ?_ ?_)|refine MR.fn ?_|refine MRL.cons ?_ ?_|exact MRL.nil|refine jE ?_ ?_|exact jF|exact jG|refine yb1 ?_ ?_|refine MB.row ?_|refine jI ?_ ?_|exact ya8|refine jJ rfl (by first|rfl|assumption|(simp only [znl,jO,jP,jQ,jR,jS,jT,jU,jV,nls_nats];(first|done|fail)))|refine yb2 ?_|rfl)|(simp only [znl,jO,jP,jQ,jR,jS,jT,jU,jV,nls_nats];(first|done|fail))|(simp only [↓reduceIte,zlk,Nat.reduceEqDiff,reduceCtorEq])|(with_reducible first|refine jJ ?_ ?_|refine ya5 ?_|refine ju ?_|refine jv ?_|refine jw ?_|refine jx ?_ (by first|rfl|assumption|(simp only [znl,jO,jP,jQ,jR,jS,jT,jU,jV,nls_nats];(first|done|fail)))|refine jC ?_ (by first|rfl|assumption|(simp only [znl,jO,jP,jQ,jR,jS,jT,jU,jV,nls_nats];(first|done|fail))))))); all_goals (first | rfl | (rw [e]; done)))
  · obtain rfl : k = m.fr.length := by omega
    repeat' (first|(with_reducible first|refine yrl (by constructor) ?_|refine jk (fun M hM=>?_)|(refine hM _ ?_;clear hM M)|refine xb3 (by decide) ?_|refine yqa (by assumption) ?_ ?_|refine yqb (by assumption) ?_ ?_)|((with_reducible refine je ?_)<;>(first|rfl|assumption|(simp only [znl,jO,jP,jQ,jR,jS,jT,jU,jV,nls_nats];(first|done|fail))))|(with_reducible refine jf (by (simp only [↓reduceIte,zlk,Nat.reduceEqDiff,reduceCtorEq]);exact rfl) ?_)|((with_reducible first|refine jg (fun hc=>?_) (fun hc=>?_)|refine jh (fun hc=>?_) (fun hc=>?_))<;>(try simp (disch:=omega) only [zhb] at hc)<;>(try (exfalso;omega))<;>(try subst hc))|(with_reducible refine ji (by omega) ?_)|(simp (config := { maxSteps := 400000 }) only [↓jt,↓reduceIte,zvs,reduceCtorEq,Nat.reduceEqDiff,Nat.reduceAdd,Nat.reduceLeDiff,Nat.reduceMul,Int.reduceBNe,Int.reduceBEq,Int.reduceEq,Int.reduceNe,Int.reduceLT,Int.reduceLE,Int.reduceGT,Int.reduceGE,Int.reduceNeg,Int.reduceToNat,Nat.reduceLT,Nat.reduceSub,tab,Try.results20,jTA])|(simp (disch:=omega) only [ziw]))
    all_goals first
      | (refine rdt_of ?_ (by rfl); (refine rd_own (by (simp only [↓reduceIte,zlk,Nat.reduceEqDiff,reduceCtorEq]); exact rfl) ?_ ?_ ?_) <;> (first | rfl | assumption | (simp only [znl,jO,jP,jQ,jR,jS,jT,jU,jV,nls_nats];(first|done|fail)) | (simp; done) | (simp; omega) | skip); done)
end Go.Proofs.Ytpdhdkpebbfnnaa.V
end
