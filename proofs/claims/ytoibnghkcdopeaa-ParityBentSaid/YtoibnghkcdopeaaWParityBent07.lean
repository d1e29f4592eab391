/-
  Parts of the proof of ParityBent: A9, B1, B2, B4, B5.
  Conditions: none.
-/
import Derived.Test.YtoibnghkcdopeaaWParityBent06
import Derived.Test.YtoibnghkcdopeaaWParityBent03
set_option linter.unusedVariables false
set_option linter.unusedSimpArgs false
set_option linter.unusedSectionVars false
set_option linter.defProp false
section
namespace Go.Proofs.Ytoibnghkcdopeaa.V
open Go Go.RowKit Go.Proofs.Ytoibnghkcdopeaa Go.Proofs.Ytoibnghkcdopeaa.Gf
set_option maxRecDepth 100000
set_option maxHeartbeats 4000000
def padXr (acc : List Prt) : List VV := acc.map (fun p => .int .u8 p.i) ++ List.replicate (3 - acc.length) (.int .u8 0)
def padFr (acc : List Prt) : List VV := acc.map (fun p => .str p.d) ++ List.replicate (3 - acc.length) (.str [])
def metPr (acc : List Prt) : List VV := (List.range 6).map fun i : Nat => .bool (hasI acc i)
noncomputable def padX : List Prt → List VV := Classical.choose (⟨padXr, rfl⟩ : ∃ f : List Prt → List VV, f = padXr)
noncomputable def padF : List Prt → List VV := Classical.choose (⟨padFr, rfl⟩ : ∃ f : List Prt → List VV, f = padFr)
noncomputable def metP : List Prt → List VV := Classical.choose (⟨metPr, rfl⟩ : ∃ f : List Prt → List VV, f = metPr)
theorem padX_eq : padX = padXr := Classical.choose_spec (⟨padXr, rfl⟩ : ∃ f : List Prt → List VV, f = padXr)
theorem padF_eq : padF = padFr := Classical.choose_spec (⟨padFr, rfl⟩ : ∃ f : List Prt → List VV, f = padFr)
theorem metP_eq : metP = metPr := Classical.choose_spec (⟨metPr, rfl⟩ : ∃ f : List Prt → List VV, f = metPr)
theorem nls_padX (acc : List Prt) : nls (padX acc) = true := by
  rw [padX_eq, nls_iff]
  intro v hv
  rcases List.mem_append.1 hv with h | h
  · obtain ⟨p, _, rfl⟩ := List.mem_map.1 h; rfl
  · rw [(List.mem_replicate.1 h).2]; rfl
theorem nls_padF (acc : List Prt) : nls (padF acc) = true := by
  rw [padF_eq, nls_iff]
  intro v hv
  rcases List.mem_append.1 hv with h | h
  · obtain ⟨p, _, rfl⟩ := List.mem_map.1 h; rfl
  · rw [(List.mem_replicate.1 h).2]; rfl
theorem nls_metP (acc : List Prt) : nls (metP acc) = true := by
  rw [metP_eq, nls_iff]
  intro v hv
  obtain ⟨p, _, rfl⟩ := List.mem_map.1 hv; rfl
theorem pad_len {α : Type} (f : Prt → α) (z : α) (acc : List Prt) (h : acc.length ≤ 3) : (acc.map f ++ List.replicate (3 - acc.length) z).length = 3 := by simp; omega
theorem pad_set {α : Type} (f : Prt → α) (z : α) (acc : List Prt) (q : Prt) (h : acc.length < 3) : (acc.map f ++ List.replicate (3 - acc.length) z).set acc.length (f q) = (acc ++ [q]).map f ++ List.replicate (3 - (acc ++ [q]).length) z := by
  rw [List.set_append_right _ _ (by simp), List.length_map, Nat.sub_self, show 3 - acc.length = (3 - (acc.length + 1)) + 1 by omega, List.replicate_succ, List.set_cons_zero, List.map_append]
  simp
theorem pad_get {α : Type} (f : Prt → α) (z : α) (acc : List Prt) (h : acc.length < 3) : (acc.map f ++ List.replicate (3 - acc.length) z)[acc.length]? = some z := by
  rw [List.getElem?_append_right (by simp), List.length_map, Nat.sub_self, List.getElem?_replicate, if_pos (by omega)]
theorem metP_get (acc : List Prt) (i : Int) (h : 1 ≤ i ∧ i ≤ 5) : (metP acc)[i.toNat]? = some (.bool (hasI acc i)) := by
  rw [metP_eq]
  unfold metPr
  rw [List.getElem?_map, List.getElem?_range (by omega)]
  simp only [Option.map_some]
  rw [Int.toNat_of_nonneg (by omega)]
theorem metP_set (acc : List Prt) (q : Prt) (h : 1 ≤ q.i ∧ q.i ≤ 5) : (metP acc).set q.i.toNat (.bool true) = metP (acc ++ [q]) := by
  rw [metP_eq]
  unfold metPr
  apply List.ext_getElem (by simp)
  intro k h1 h2
  rw [List.getElem_set]
  simp only [List.getElem_map,List.getElem_range]
  have e : hasI (acc ++ [q]) (k : Int) = (hasI acc k || (q.i == (k : Int))) := by unfold hasI; rw [List.any_append, List.any_cons, List.any_nil, Bool.or_false]
  rw [e]
  split
  · rename_i hk
    rw [beq_iff_eq.2 (by omega : q.i = (k : Int)), Bool.or_true]
  · rename_i hk
    rw [beq_false_of_ne (by omega : q.i ≠ (k : Int)), Bool.or_false]
theorem dstOk74 {l : List Oper} {ds} (h : listOk 74 l = true) : ∀ o ∈ l, ∀ t, o.dst = some t → t < (⟨74, ds⟩ : NN) := fun o ho t ht => by
  have := List.all_eq_true.1 h o ho
  simp only [Bool.and_eq_true] at this
  have := this.1; rw [ht] at this; simpa using this
noncomputable def joinFr (size : Int) (acc : List Prt) : VS := ⟨slots [(1, .int .i64 size), (4, .str []), (5, .int .i64 0), (6, .ptr 0 []), (7, .ptr 1 []), (8, .ptr 2 []), (9, .int .i64 acc.length)], rows [(0, .row (.arr 3 .cell) (.agg (padX acc))), (1, .row (.arr 3 .cell) (.agg (padF acc))), (2, .row (.arr 6 .cell) (.agg (metP acc)))], 3⟩
def joinW (R : List Prt × Int) (n s : Nat) : List UInt8 × Int := match R with
  | ([p, q, r], 0) => (joinP p q r n s, 0)
  | (_, e) => ([], e)
theorem joinW_err {rs : List Prt} {e : Int} {n s : Nat} (h : e ≠ 0) : joinW (rs, e) n s = ([], e) := by
  unfold joinW
  split
  · rename_i h'; injection h' with _ h'; exact absurd h' h
  · rename_i h'; injection h' with _ h'; rw [h']
theorem sjoin_spec (l : List Prt) (hl : l.length < 2 ^ 36) (hd : ∀ p ∈ l, p.d.length ≤ 2 ^ 47) (size : Int) (hs : i64P size) : Spec Try.prog 16 [encPrts l, .int .i64 size] (joinRV (joinR l size)) := by
  obtain ⟨s1, s2⟩ := hs
  by_cases hsz : size < 0 ∨ 65536 < size
  · have e : joinR l size = ([], 2) := by unfold joinR; rw [if_pos hsz]
    rw [e]
    refine spec_ok Try.func16 rfl rfl (by kernel_rfl) (k := 2) rfl (by decide) ?_
    repeat' (first|(with_reducible first|refine yrl (by constructor) ?_|refine jk (fun M hM=>?_)|(refine hM _ ?_;clear hM M)|refine xb3 (by decide) ?_|refine yqa (by assumption) ?_ ?_|refine yqb (by assumption) ?_ ?_)|((with_reducible refine je ?_)<;>(first|rfl|assumption|(simp only [znl,nls_u,nls_prt,nl_prt,nls_padX,nls_padF,nls_metP];(first|done|fail))))|(with_reducible refine jf (by (simp only [↓reduceIte,zlk,Nat.reduceEqDiff,reduceCtorEq]);exact rfl) ?_)|((with_reducible first|refine jg (fun hc=>?_) (fun hc=>?_)|refine jh (fun hc=>?_) (fun hc=>?_))<;>(try simp (disch:=omega) only [zhb] at hc)<;>(try (exfalso;omega))<;>(try subst hc))|(with_reducible refine ji (by omega) ?_)|(simp (config := { maxSteps := 400000 }) only [↓jt,↓reduceIte,zvs,reduceCtorEq,Nat.reduceEqDiff,Nat.reduceAdd,Nat.reduceLeDiff,Nat.reduceMul,Int.reduceBNe,Int.reduceBEq,Int.reduceEq,Int.reduceNe,Int.reduceLT,Int.reduceLE,Int.reduceGT,Int.reduceGE,Int.reduceNeg,Int.reduceToNat,Nat.reduceLT,Nat.reduceSub,tab,Try.results16,jTA])|(simp (disch:=omega) only [ziw]))
    all_goals first
      | (exfalso; omega)
      | (((try simp only [joinRV,List.map_nil]); simp only [zrds]; (repeat' (first | exact rd_nil | exact Rd.refl _ _ (by first|rfl|assumption|(simp only [znl,nls_u,nls_prt,nl_prt,nls_padX,nls_padF,nls_metP];(first|done|fail))) | (refine And.intro ?_ ?_) | (refine rd_own (by (simp only [↓reduceIte,zlk,Nat.reduceEqDiff,reduceCtorEq]); exact rfl) ?_ ?_ ?_) | rfl | assumption | (simp only [znl,nls_u,nls_prt,nl_prt,nls_padX,nls_padF,nls_metP];(first|done|fail)) | (simp; done) | (simp; omega)))); done)
  obtain ⟨s, rfl⟩ := Int.eq_ofNat_of_zero_le (by omega : 0 ≤ size)
  have hR := srows_spec s (by unfold i64P; omega)
  rw [rowsI_nat] at hR
  obtain ⟨n, hn⟩ : ∃ n, n = rowsN s := ⟨_, rfl⟩
  have hnb : s ≤ 3 * n ∧ 3 * n ≤ 65540 := by rw [hn]; unfold rowsN; omega
  rw [← hn] at hR
  have ej : joinR l s = joinW (pick3 n [] l) n s := by unfold joinR; rw [if_neg hsz, rowsI_nat, Int.toNat_natCast, ← hn]; rfl
  obtain ⟨R, hRR⟩ : ∃ R, R = pick3 n [] l := ⟨_, rfl⟩
  rw [← hRR] at ej
  rw [ej]
  clear ej
  intro U w xs ha
  have hSR := sr_enter (fn := Try.f16) (args := [encPrts l, .int .i64 s]) (k := 2) rfl (by decide) (hr_bare U w) ha
  refine callsIn_wide.1 (callsIn_of_wp_marks (n := 5) Try.func16 rfl trivial (wpIn_wide.2 ?_) rfl)
  have hFQ := finQ_marks (P := Try.prog) (fn := Try.f16) (r := joinRV (joinW R n s)) (U := U) (n := 5) (w := w)
  obtain ⟨Q, hQ⟩ : ∃ Q, Q = bodyPostM Fence.wide 5 Try.prog Try.f16 (fun e w' => ∃ x, e = .returned x ∧ Below w.heap.size w w' ∧ VR (.bare fun b => U b ∨ w.heap.size ≤ b) w' (joinRV (joinW R n s)) x) := ⟨_, rfl⟩
  rw [← hQ] at hFQ ⊢
  have h0 : ∀ m, 0 ≤ m → (Names.bare U) m = none := fun _ _ => rfl
  revert hSR
  suffices hC : Cont Try.prog ⟨74, []⟩ w.heap.size (.bare U) w Q _ ⟨argsF 0 [encPrts l, .int .i64 s] (fun _ => .any), fun _ => none, 0⟩ from fun hSR => hC _ _ _ hSR
  refine cont_seqR hFQ h0 (by kernel_rfl) ?_
  repeat' (first|(with_reducible first|refine yrl (by constructor) ?_|refine jk (fun M hM=>?_)|(refine hM _ ?_;clear hM M)|refine xb3 (by decide) ?_|refine yqa (by assumption) ?_ ?_|refine yqb (by assumption) ?_ ?_)|((with_reducible refine je ?_)<;>(first|rfl|assumption|(simp only [znl,nls_u,nls_prt,nl_prt,nls_padX,nls_padF,nls_metP];(first|done|fail))))|(with_reducible refine jf (by (simp only [↓reduceIte,zlk,Nat.reduceEqDiff,reduceCtorEq]);exact rfl) ?_)|((with_reducible first|refine jg (fun hc=>?_) (fun hc=>?_)|refine jh (fun hc=>?_) (fun hc=>?_))<;>(try simp (disch:=omega) only [zhb] at hc)<;>(try (exfalso;omega))<;>(try subst hc))|(with_reducible refine ji (by omega) ?_)|(simp (config := { maxSteps := 400000 }) only [↓jt,↓reduceIte,zvs,reduceCtorEq,Nat.reduceEqDiff,Nat.reduceAdd,Nat.reduceLeDiff,Nat.reduceMul,Int.reduceBNe,Int.reduceBEq,Int.reduceEq,Int.reduceNe,Int.reduceLT,Int.reduceLE,Int.reduceGT,Int.reduceGE,Int.reduceNeg,Int.reduceToNat,Nat.reduceLT,Nat.reduceSub,tab])|(simp (disch:=omega) only [ziw]))
  refine cont_seqR hFQ h0 (by kernel_rfl) ?_
  repeat' (first|(with_reducible first|refine yrl (by constructor) ?_|refine jk (fun M hM=>?_)|(refine hM _ ?_;clear hM M)|refine xb3 (by decide) ?_|refine yqa (by assumption) ?_ ?_|refine yqb (by assumption) ?_ ?_)|((with_reducible refine je ?_)<;>(first|rfl|assumption|(simp only [znl,nls_u,nls_prt,nl_prt,nls_padX,nls_padF,nls_metP];(first|done|fail))))|(with_reducible refine jf (by (simp only [↓reduceIte,zlk,Nat.reduceEqDiff,reduceCtorEq]);exact rfl) ?_)|((with_reducible first|refine jg (fun hc=>?_) (fun hc=>?_)|refine jh (fun hc=>?_) (fun hc=>?_))<;>(try simp (disch:=omega) only [zhb] at hc)<;>(try (exfalso;omega))<;>(try subst hc))|(with_reducible refine ji (by omega) ?_)|(simp (config := { maxSteps := 400000 }) only [↓jt,↓reduceIte,zvs,reduceCtorEq,Nat.reduceEqDiff,Nat.reduceAdd,Nat.reduceLeDiff,Nat.reduceMul,Int.reduceBNe,Int.reduceBEq,Int.reduceEq,Int.reduceNe,Int.reduceLT,Int.reduceLE,Int.reduceGT,Int.reduceGE,Int.reduceNeg,Int.reduceToNat,Nat.reduceLT,Nat.reduceSub,tab])|(simp (disch:=omega) only [ziw]))
  all_goals (try (exfalso; omega))
  refine cont_seqR hFQ h0 (by kernel_rfl) ?_
  repeat' (first|(with_reducible first|refine yrl (by constructor) ?_|refine jk (fun M hM=>?_)|(refine hM _ ?_;clear hM M)|refine xb3 (by decide) ?_|refine yqa (by assumption) ?_ ?_|refine yqb (by assumption) ?_ ?_)|((with_reducible refine je ?_)<;>(first|rfl|assumption|(simp only [znl,nls_u,nls_prt,nl_prt,nls_padX,nls_padF,nls_metP];(first|done|fail))))|(with_reducible refine jf (by (simp only [↓reduceIte,zlk,Nat.reduceEqDiff,reduceCtorEq]);exact rfl) ?_)|((with_reducible first|refine jg (fun hc=>?_) (fun hc=>?_)|refine jh (fun hc=>?_) (fun hc=>?_))<;>(try simp (disch:=omega) only [zhb] at hc)<;>(try (exfalso;omega))<;>(try subst hc))|(with_reducible refine ji (by omega) ?_)|(simp (config := { maxSteps := 400000 }) only [↓jt,↓reduceIte,zvs,reduceCtorEq,Nat.reduceEqDiff,Nat.reduceAdd,Nat.reduceLeDiff,Nat.reduceMul,Int.reduceBNe,Int.reduceBEq,Int.reduceEq,Int.reduceNe,Int.reduceLT,Int.reduceLE,Int.reduceGT,Int.reduceGE,Int.reduceNeg,Int.reduceToNat,Nat.reduceLT,Nat.reduceSub,tab])|(simp (disch:=omega) only [ziw]))
  refine cont_seqR hFQ h0 (by kernel_rfl) ?_
  repeat' (first|(with_reducible first|refine yrl (by constructor) ?_|refine jk (fun M hM=>?_)|(refine hM _ ?_;clear hM M)|refine xb3 (by decide) ?_|refine yqa (by assumption) ?_ ?_|refine yqb (by assumption) ?_ ?_)|((with_reducible refine je ?_)<;>(first|rfl|assumption|(simp only [znl,nls_u,nls_prt,nl_prt,nls_padX,nls_padF,nls_metP];(first|done|fail))))|(with_reducible refine jf (by (simp only [↓reduceIte,zlk,Nat.reduceEqDiff,reduceCtorEq]);exact rfl) ?_)|((with_reducible first|refine jg (fun hc=>?_) (fun hc=>?_)|refine jh (fun hc=>?_) (fun hc=>?_))<;>(try simp (disch:=omega) only [zhb] at hc)<;>(try (exfalso;omega))<;>(try subst hc))|(with_reducible refine ji (by omega) ?_)|(simp (config := { maxSteps := 400000 }) only [↓jt,↓reduceIte,zvs,reduceCtorEq,Nat.reduceEqDiff,Nat.reduceAdd,Nat.reduceLeDiff,Nat.reduceMul,Int.reduceBNe,Int.reduceBEq,Int.reduceEq,Int.reduceNe,Int.reduceLT,Int.reduceLE,Int.reduceGT,Int.reduceGE,Int.reduceNeg,Int.reduceToNat,Nat.reduceLT,Nat.reduceSub,tab])|(simp (disch:=omega) only [ziw]))
  refine cont_seqR hFQ h0 (by kernel_rfl) ?_
  repeat' (first|(with_reducible first|refine yrl (by constructor) ?_|refine jk (fun M hM=>?_)|(refine hM _ ?_;clear hM M)|refine xb3 (by decide) ?_|refine yqa (by assumption) ?_ ?_|refine yqb (by assumption) ?_ ?_)|((with_reducible refine je ?_)<;>(first|rfl|assumption|(simp only [znl,nls_u,nls_prt,nl_prt,nls_padX,nls_padF,nls_metP];(first|done|fail))))|(with_reducible refine jf (by (simp only [↓reduceIte,zlk,Nat.reduceEqDiff,reduceCtorEq]);exact rfl) ?_)|((with_reducible first|refine jg (fun hc=>?_) (fun hc=>?_)|refine jh (fun hc=>?_) (fun hc=>?_))<;>(try simp (disch:=omega) only [zhb] at hc)<;>(try (exfalso;omega))<;>(try subst hc))|(with_reducible refine ji (by omega) ?_)|(simp (config := { maxSteps := 400000 }) only [↓jt,↓reduceIte,zvs,reduceCtorEq,Nat.reduceEqDiff,Nat.reduceAdd,Nat.reduceLeDiff,Nat.reduceMul,Int.reduceBNe,Int.reduceBEq,Int.reduceEq,Int.reduceNe,Int.reduceLT,Int.reduceLE,Int.reduceGT,Int.reduceGE,Int.reduceNeg,Int.reduceToNat,Nat.reduceLT,Nat.reduceSub,tab])|(simp (disch:=omega) only [ziw]))
  refine cont_seqR hFQ h0 (by kernel_rfl) ?_
  repeat' (first|(with_reducible first|refine yrl (by constructor) ?_|refine jk (fun M hM=>?_)|(refine hM _ ?_;clear hM M)|refine xb3 (by decide) ?_|refine yqa (by assumption) ?_ ?_|refine yqb (by assumption) ?_ ?_)|((with_reducible refine je ?_)<;>(first|rfl|assumption|(simp only [znl,nls_u,nls_prt,nl_prt,nls_padX,nls_padF,nls_metP];(first|done|fail))))|(with_reducible refine jf (by (simp only [↓reduceIte,zlk,Nat.reduceEqDiff,reduceCtorEq]);exact rfl) ?_)|((with_reducible first|refine jg (fun hc=>?_) (fun hc=>?_)|refine jh (fun hc=>?_) (fun hc=>?_))<;>(try simp (disch:=omega) only [zhb] at hc)<;>(try (exfalso;omega))<;>(try subst hc))|(with_reducible refine ji (by omega) ?_)|(simp (config := { maxSteps := 400000 }) only [↓jt,↓reduceIte,zvs,reduceCtorEq,Nat.reduceEqDiff,Nat.reduceAdd,Nat.reduceLeDiff,Nat.reduceMul,Int.reduceBNe,Int.reduceBEq,Int.reduceEq,Int.reduceNe,Int.reduceLT,Int.reduceLE,Int.reduceGT,Int.reduceGE,Int.reduceNeg,Int.reduceToNat,Nat.reduceLT,Nat.reduceSub,tab])|(simp (disch:=omega) only [ziw]))
  refine cont_cut (joinFr s) (fun acc => acc.length ≤ 3 ∧ GoodP n acc ∧ R = (acc, if acc.length < 3 then 4 else 0)) hFQ h0 (by kernel_rfl) ?_ ?_
  · repeat' (first|(with_reducible first|refine yrl (by constructor) ?_|refine jk (fun M hM=>?_)|(refine hM _ ?_;clear hM M)|refine xb3 (by decide) ?_|refine yqa (by assumption) ?_ ?_|refine yqb (by assumption) ?_ ?_)|((with_reducible refine je ?_)<;>(first|rfl|assumption|(simp only [znl,nls_u,nls_prt,nl_prt,nls_padX,nls_padF,nls_metP];(first|done|fail))))|(with_reducible refine jf (by (simp only [↓reduceIte,zlk,Nat.reduceEqDiff,reduceCtorEq]);exact rfl) ?_)|((with_reducible first|refine jg (fun hc=>?_) (fun hc=>?_)|refine jh (fun hc=>?_) (fun hc=>?_))<;>(try simp (disch:=omega) only [zhb] at hc)<;>(try (exfalso;omega))<;>(try subst hc))|(with_reducible refine ji (by omega) ?_)|(simp (config := { maxSteps := 400000 }) only [↓jt,↓reduceIte,zvs,reduceCtorEq,Nat.reduceEqDiff,Nat.reduceAdd,Nat.reduceLeDiff,Nat.reduceMul,Int.reduceBNe,Int.reduceBEq,Int.reduceEq,Int.reduceNe,Int.reduceLT,Int.reduceLE,Int.reduceGT,Int.reduceGE,Int.reduceNeg,Int.reduceToNat,Nat.reduceLT,Nat.reduceSub,tab])|(simp (disch:=omega) only [ziw]))
    refine ok_loop (fun x : Nat × List Prt => ⟨slots [(1, .int .i64 s), (4, .str []), (5, .int .i64 0), (6, .ptr 0 []), (7, .ptr 1 []), (8, .ptr 2 []), (9, .int .i64 x.2.length), (21, encPrts l), (22, .int .i64 l.length), (23, .int .i64 x.1)], rows [(0, .row (.arr 3 .cell) (.agg (padX x.2))), (1, .row (.arr 3 .cell) (.agg (padF x.2))), (2, .row (.arr 6 .cell) (.agg (metP x.2)))], 3⟩)
      (fun x => x.1 ≤ l.length ∧ x.2.length ≤ 3 ∧ GoodP n x.2 ∧ pick3 n x.2 (l.drop x.1) = R) (fun x => l.length - x.1) (0, []) ?_ ⟨Nat.zero_le _, by decide, GoodP.nil _, hRR.symm⟩ (fun x hx => ?_)
    · (refine yrn [(0, 0), (1, 1), (2, 2)] false ?_ ?_<;>(repeat' (first|(with_reducible first|exact ya1|exact ya2|exact ya3|refine jx rfl (by first|rfl|assumption|(simp only [znl,nls_u,nls_prt,nl_prt,nls_padX,nls_padF,nls_metP];(first|done|fail)))|exact ya5|exact ya7|exact jy|exact jz|refine jA ?_|refine ya9 ?_ ?_ ?_|refine jC rfl (by first|rfl|assumption|(simp only [znl,nls_u,nls_prt,nl_prt,nls_padX,nls_padF,nls_metP];(first|done|fail)))|refine MR.agg (MRL.cons ?_ ?_)|refine MR.fn ?_|refine MRL.cons ?_ ?_|exact MRL.nil|refine jE ?_ ?_|exact jF|exact jG|refine yb1 ?_ ?_|refine MB.row ?_|refine jI ?_ ?_|exact ya8|refine jJ rfl (by first|rfl|assumption|(simp only [znl,nls_u,nls_prt,nl_prt,nls_padX,nls_padF,nls_metP];(first|done|fail)))|refine yb2 ?_|rfl)|(simp only [znl,nls_u,nls_prt,nl_prt,nls_padX,nls_padF,nls_metP];(first|done|fail))|(simp only [↓reduceIte,zlk,Nat.reduceEqDiff,reduceCtorEq])|(with_reducible first|refine jJ ?_ ?_|refine ya5 ?_|refine ju ?_|refine jv ?_|refine jw ?_|refine jx ?_ (by first|rfl|assumption|(simp only [znl,nls_u,nls_prt,nl_prt,nls_padX,nls_padF,nls_metP];(first|done|fail)))|refine jC ?_ (by first|rfl|assumption|(simp only [znl,nls_u,nls_prt,nl_prt,nls_padX,nls_padF,nls_metP];(first|done|fail)))))))
      all_goals (first | rfl | (rw [padX_eq]; rfl) | (rw [padF_eq]; rfl) | (rw [metP_eq]; rfl))
    obtain ⟨k, acc⟩ := x
    obtain ⟨hk, ha, hgd, hp⟩ := hx
    dsimp only at hk ha hgd hp ⊢
    have lX : (padX acc).length = 3 := by rw [padX_eq]; exact pad_len _ _ acc ha
    have lF : (padF acc).length = 3 := by rw [padF_eq]; exact pad_len _ _ acc ha
    by_cases hlt : k < l.length
    · have hg := getP hlt
      have hdl := hd _ (memP hlt)
      rw [pick3_at _ _ _ _ hlt] at hp
      have sX : acc.length < 3 → (padX acc).set acc.length (.int .u8 (l.getD k default).i) = padX (acc ++ [l.getD k default]) := fun h => by rw [padX_eq]; exact pad_set (fun p : Prt => VV.int .u8 p.i) (.int .u8 0) acc (l.getD k default) h
      have sF : acc.length < 3 → (padF acc).set acc.length (.str (l.getD k default).d) = padF (acc ++ [l.getD k default]) := fun h => by rw [padF_eq]; exact pad_set (fun p : Prt => VV.str p.d) (.str []) acc (l.getD k default) h
      have mg := fun h => metP_get acc (l.getD k default).i h
      have ms := fun h => metP_set acc (l.getD k default) h
      generalize l.getD k default = q at hg hp hdl sX sF mg ms
      have hsl : (acc ++ [q]).length = acc.length + 1 := by simp
      by_cases h3 : acc.length = 3
      · rw [if_pos h3] at hp
        repeat' (first|(with_reducible first|refine yrl (by constructor) ?_|refine jk (fun M hM=>?_)|(refine hM _ ?_;clear hM M)|refine xb3 (by decide) ?_|refine yqa (by assumption) ?_ ?_|refine yqb (by assumption) ?_ ?_)|((with_reducible refine je ?_)<;>(first|rfl|assumption|(simp only [znl,nls_u,nls_prt,nl_prt,nls_padX,nls_padF,nls_metP];(first|done|fail))))|(with_reducible refine jf (by (simp only [↓reduceIte,zlk,Nat.reduceEqDiff,reduceCtorEq]);exact rfl) ?_)|((with_reducible first|refine jg (fun hc=>?_) (fun hc=>?_)|refine jh (fun hc=>?_) (fun hc=>?_))<;>(try simp (disch:=omega) only [zhb] at hc)<;>(try (exfalso;omega))<;>(try subst hc))|(with_reducible refine ji (by omega) ?_)|(simp (config := { maxSteps := 400000 }) only [↓jt,↓reduceIte,zvs,reduceCtorEq,Nat.reduceEqDiff,Nat.reduceAdd,Nat.reduceLeDiff,Nat.reduceMul,Int.reduceBNe,Int.reduceBEq,Int.reduceEq,Int.reduceNe,Int.reduceLT,Int.reduceLE,Int.reduceGT,Int.reduceGE,Int.reduceNeg,Int.reduceToNat,Nat.reduceLT,Nat.reduceSub,tab,hg,Try.results16,jTA])|(simp (disch:=omega) only [ziw]))
        all_goals first
          | (exfalso; omega)
          | (refine xc1 acc ?_ ⟨ha, hgd, by rw [← hp, if_neg (by omega)]⟩; (refine yrn [(0, 0), (1, 1), (2, 2)] false ?_ ?_<;>(repeat' (first|(with_reducible first|exact ya1|exact ya2|exact ya3|refine jx rfl (by first|rfl|assumption|(simp only [znl,nls_u,nls_prt,nl_prt,nls_padX,nls_padF,nls_metP];(first|done|fail)))|exact ya5|exact ya7|exact jy|exact jz|refine jA ?_|refine ya9 ?_ ?_ ?_|refine jC rfl (by first|rfl|assumption|(simp only [znl,nls_u,nls_prt,nl_prt,nls_padX,nls_padF,nls_metP];(first|done|fail)))|refine MR.agg (MRL.cons ?_ ?_)|refine MR.fn ?_|refine MRL.cons ?_ ?_|exact MRL.nil|refine jE ?_ ?_|exact jF|exact jG|refine yb1 ?_ ?_|refine MB.row ?_|refine jI ?_ ?_|exact ya8|refine jJ rfl (by first|rfl|assumption|(simp only [znl,nls_u,nls_prt,nl_prt,nls_padX,nls_padF,nls_metP];(first|done|fail)))|refine yb2 ?_|rfl)|(simp only [znl,nls_u,nls_prt,nl_prt,nls_padX,nls_padF,nls_metP];(first|done|fail))|(simp only [↓reduceIte,zlk,Nat.reduceEqDiff,reduceCtorEq])|(with_reducible first|refine jJ ?_ ?_|refine ya5 ?_|refine ju ?_|refine jv ?_|refine jw ?_|refine jx ?_ (by first|rfl|assumption|(simp only [znl,nls_u,nls_prt,nl_prt,nls_padX,nls_padF,nls_metP];(first|done|fail)))|refine jC ?_ (by first|rfl|assumption|(simp only [znl,nls_u,nls_prt,nl_prt,nls_padX,nls_padF,nls_metP];(first|done|fail))))))); all_goals (first | rfl); done)
      rw [if_neg h3] at hp
      by_cases h15 : q.i < 1 ∨ 5 < q.i
      · rw [if_pos h15] at hp
        rw [← hp, joinW_err (by decide)]
        repeat' (first|(with_reducible first|refine yrl (by constructor) ?_|refine jk (fun M hM=>?_)|(refine hM _ ?_;clear hM M)|refine xb3 (by decide) ?_|refine yqa (by assumption) ?_ ?_|refine yqb (by assumption) ?_ ?_)|((with_reducible refine je ?_)<;>(first|rfl|assumption|(simp only [znl,nls_u,nls_prt,nl_prt,nls_padX,nls_padF,nls_metP];(first|done|fail))))|(with_reducible refine jf (by (simp only [↓reduceIte,zlk,Nat.reduceEqDiff,reduceCtorEq]);exact rfl) ?_)|((with_reducible first|refine jg (fun hc=>?_) (fun hc=>?_)|refine jh (fun hc=>?_) (fun hc=>?_))<;>(try simp (disch:=omega) only [zhb] at hc)<;>(try (exfalso;omega))<;>(try subst hc))|(with_reducible refine ji (by omega) ?_)|(simp (config := { maxSteps := 400000 }) only [↓jt,↓reduceIte,zvs,reduceCtorEq,Nat.reduceEqDiff,Nat.reduceAdd,Nat.reduceLeDiff,Nat.reduceMul,Int.reduceBNe,Int.reduceBEq,Int.reduceEq,Int.reduceNe,Int.reduceLT,Int.reduceLE,Int.reduceGT,Int.reduceGE,Int.reduceNeg,Int.reduceToNat,Nat.reduceLT,Nat.reduceSub,tab,hg,Try.results16,jTA])|(simp (disch:=omega) only [ziw]))
        all_goals first
          | (exfalso; omega)
          | (((try simp only [joinRV,List.map_nil]); simp only [zrds]; (repeat' (first | exact rd_nil | exact Rd.refl _ _ (by first|rfl|assumption|(simp only [znl,nls_u,nls_prt,nl_prt,nls_padX,nls_padF,nls_metP];(first|done|fail))) | (refine And.intro ?_ ?_) | (refine rd_own (by (simp only [↓reduceIte,zlk,Nat.reduceEqDiff,reduceCtorEq]); exact rfl) ?_ ?_ ?_) | rfl | assumption | (simp only [znl,nls_u,nls_prt,nl_prt,nls_padX,nls_padF,nls_metP];(first|done|fail)) | (simp; done) | (simp; omega)))); done)
      rw [if_neg h15] at hp
      have mg := mg (by omega)
      have ms := ms (by omega)
      cases hh : hasI acc q.i with
      | true =>
        rw [hh, if_pos rfl] at hp
        rw [hh] at mg
        repeat' (first|(with_reducible first|refine yrl (by constructor) ?_|refine jk (fun M hM=>?_)|(refine hM _ ?_;clear hM M)|refine xb3 (by decide) ?_|refine yqa (by assumption) ?_ ?_|refine yqb (by assumption) ?_ ?_)|((with_reducible refine je ?_)<;>(first|rfl|assumption|(simp only [znl,nls_u,nls_prt,nl_prt,nls_padX,nls_padF,nls_metP];(first|done|fail))))|(with_reducible refine jf (by (simp only [↓reduceIte,zlk,Nat.reduceEqDiff,reduceCtorEq]);exact rfl) ?_)|((with_reducible first|refine jg (fun hc=>?_) (fun hc=>?_)|refine jh (fun hc=>?_) (fun hc=>?_))<;>(try simp (disch:=omega) only [zhb] at hc)<;>(try (exfalso;omega))<;>(try subst hc))|(with_reducible refine ji (by omega) ?_)|(simp (config := { maxSteps := 400000 }) only [↓jt,↓reduceIte,zvs,reduceCtorEq,Nat.reduceEqDiff,Nat.reduceAdd,Nat.reduceLeDiff,Nat.reduceMul,Int.reduceBNe,Int.reduceBEq,Int.reduceEq,Int.reduceNe,Int.reduceLT,Int.reduceLE,Int.reduceGT,Int.reduceGE,Int.reduceNeg,Int.reduceToNat,Nat.reduceLT,Nat.reduceSub,tab,hg,mg,Try.results16,jTA])|(simp (disch:=omega) only [ziw]))
        all_goals first
          | (exfalso; omega)
          | (refine xl1 (k + 1, acc) ?_ ⟨by show k + 1 ≤ l.length; omega, ha, hgd, hp⟩ (by show l.length - (k + 1) < l.length - k; omega); (refine yrn [(0, 0), (1, 1), (2, 2)] false ?_ ?_<;>(repeat' (first|(with_reducible first|exact ya1|exact ya2|exact ya3|refine jx rfl (by first|rfl|assumption|(simp only [znl,nls_u,nls_prt,nl_prt,nls_padX,nls_padF,nls_metP];(first|done|fail)))|exact ya5|exact ya7|exact jy|exact jz|refine jA ?_|refine ya9 ?_ ?_ ?_|refine jC rfl (by first|rfl|assumption|(simp only [znl,nls_u,nls_prt,nl_prt,nls_padX,nls_padF,nls_metP];(first|done|fail)))|refine MR.agg (MRL.cons ?_ ?_)|refine MR.fn ?_|refine MRL.cons ?_ ?_|exact MRL.nil|refine jE ?_ ?_|exact jF|exact jG|refine yb1 ?_ ?_|refine MB.row ?_|refine jI ?_ ?_|exact ya8|refine jJ rfl (by first|rfl|assumption|(simp only [znl,nls_u,nls_prt,nl_prt,nls_padX,nls_padF,nls_metP];(first|done|fail)))|refine yb2 ?_|rfl)|(simp only [znl,nls_u,nls_prt,nl_prt,nls_padX,nls_padF,nls_metP];(first|done|fail))|(simp only [↓reduceIte,zlk,Nat.reduceEqDiff,reduceCtorEq])|(with_reducible first|refine jJ ?_ ?_|refine ya5 ?_|refine ju ?_|refine jv ?_|refine jw ?_|refine jx ?_ (by first|rfl|assumption|(simp only [znl,nls_u,nls_prt,nl_prt,nls_padX,nls_padF,nls_metP];(first|done|fail)))|refine jC ?_ (by first|rfl|assumption|(simp only [znl,nls_u,nls_prt,nl_prt,nls_padX,nls_padF,nls_metP];(first|done|fail))))))); all_goals (first | rfl); done)
      | false =>
        rw [hh, if_neg (by decide)] at hp
        rw [hh] at mg
        by_cases hdn : (q.d.length : Int) = n
        · rw [if_neg (by simpa using hdn)] at hp
          have hgd2 := hgd.snoc q (by omega) hdn hh
          repeat' (first|(with_reducible first|refine yrl (by constructor) ?_|refine jk (fun M hM=>?_)|(refine hM _ ?_;clear hM M)|refine xb3 (by decide) ?_|refine yqa (by assumption) ?_ ?_|refine yqb (by assumption) ?_ ?_)|((with_reducible refine je ?_)<;>(first|rfl|assumption|(simp only [znl,nls_u,nls_prt,nl_prt,nls_padX,nls_padF,nls_metP];(first|done|fail))))|(with_reducible refine jf (by (simp only [↓reduceIte,zlk,Nat.reduceEqDiff,reduceCtorEq]);exact rfl) ?_)|((with_reducible first|refine jg (fun hc=>?_) (fun hc=>?_)|refine jh (fun hc=>?_) (fun hc=>?_))<;>(try simp (disch:=omega) only [zhb] at hc)<;>(try (exfalso;omega))<;>(try subst hc))|(with_reducible refine ji (by omega) ?_)|(simp (config := { maxSteps := 400000 }) only [↓jt,↓reduceIte,zvs,reduceCtorEq,Nat.reduceEqDiff,Nat.reduceAdd,Nat.reduceLeDiff,Nat.reduceMul,Int.reduceBNe,Int.reduceBEq,Int.reduceEq,Int.reduceNe,Int.reduceLT,Int.reduceLE,Int.reduceGT,Int.reduceGE,Int.reduceNeg,Int.reduceToNat,Nat.reduceLT,Nat.reduceSub,tab,hg,mg,Try.results16,jTA])|(simp (disch:=omega) only [ziw]))
          all_goals (try (exfalso; omega))
          refine ok_drawC 5 (by kernel_rfl) (by decide +kernel) (by intro m hm; simp only [upd_ap,rows_cons,rows_nil]; (repeat (first | rfl | rw [if_neg (by omega)]))) (fun M hM => ?_); simp only [List.take_succ_cons,List.take_zero,List.drop_succ_cons,List.drop_zero]
          repeat' (first|(with_reducible first|refine yrl (by constructor) ?_|refine jk (fun M hM=>?_)|(refine hM _ ?_;clear hM M)|refine xb3 (by decide) ?_|refine yqa (by assumption) ?_ ?_|refine yqb (by assumption) ?_ ?_)|((with_reducible refine je ?_)<;>(first|rfl|assumption|(simp only [znl,nls_u,nls_prt,nl_prt,nls_padX,nls_padF,nls_metP];(first|done|fail))))|(with_reducible refine jf (by (simp only [↓reduceIte,zlk,Nat.reduceEqDiff,reduceCtorEq]);exact rfl) ?_)|((with_reducible first|refine jg (fun hc=>?_) (fun hc=>?_)|refine jh (fun hc=>?_) (fun hc=>?_))<;>(try simp (disch:=omega) only [zhb] at hc)<;>(try (exfalso;omega))<;>(try subst hc))|(with_reducible refine ji (by omega) ?_)|(simp (config := { maxSteps := 400000 }) only [↓jt,↓reduceIte,zvs,reduceCtorEq,Nat.reduceEqDiff,Nat.reduceAdd,Nat.reduceLeDiff,Nat.reduceMul,Int.reduceBNe,Int.reduceBEq,Int.reduceEq,Int.reduceNe,Int.reduceLT,Int.reduceLE,Int.reduceGT,Int.reduceGE,Int.reduceNeg,Int.reduceToNat,Nat.reduceLT,Nat.reduceSub,tab,hg,mg,Try.results16,jTA])|(simp (disch:=omega) only [ziw]))
          all_goals (try (exfalso; omega))
          have gX : (padX acc)[acc.length]? = some (.int .u8 0) := by rw [padX_eq]; exact pad_get _ _ acc (by omega)
          have gF : (padF acc)[acc.length]? = some (.str []) := by rw [padF_eq]; exact pad_get _ _ acc (by omega)
          have sX := sX (by omega)
          have sF := sF (by omega)
          refine ok_drawG 9 [0, 1, 2, 3, 4, 5, 6, 7] 8 0 (by kernel_rfl) (by decide +kernel) (by decide) (by decide) (by intro m hm; simp only [upd_ap,rows_cons,rows_nil]; (repeat (first | rfl | rw [if_neg (by omega)]))) (fun M hM => ?_); simp only [picks,List.getElem?_cons_succ,List.getElem?_cons_zero,List.drop_succ_cons,List.drop_zero]
          repeat' (first|(with_reducible first|refine yrl (by constructor) ?_|refine jk (fun M hM=>?_)|(refine hM _ ?_;clear hM M)|refine xb3 (by decide) ?_|refine yqa (by assumption) ?_ ?_|refine yqb (by assumption) ?_ ?_)|((with_reducible refine je ?_)<;>(first|rfl|assumption|(simp only [znl,nls_u,nls_prt,nl_prt,nls_padX,nls_padF,nls_metP];(first|done|fail))))|(with_reducible refine jf (by (simp only [↓reduceIte,zlk,Nat.reduceEqDiff,reduceCtorEq]);exact rfl) ?_)|((with_reducible first|refine jg (fun hc=>?_) (fun hc=>?_)|refine jh (fun hc=>?_) (fun hc=>?_))<;>(try simp (disch:=omega) only [zhb] at hc)<;>(try (exfalso;omega))<;>(try subst hc))|(with_reducible refine ji (by omega) ?_)|(simp (config := { maxSteps := 400000 }) only [↓jt,↓reduceIte,zvs,reduceCtorEq,Nat.reduceEqDiff,Nat.reduceAdd,Nat.reduceLeDiff,Nat.reduceMul,Int.reduceBNe,Int.reduceBEq,Int.reduceEq,Int.reduceNe,Int.reduceLT,Int.reduceLE,Int.reduceGT,Int.reduceGE,Int.reduceNeg,Int.reduceToNat,Nat.reduceLT,Nat.reduceSub,tab,hg,gX,gF,sX,sF,mg,ms,storeAt_go,isP_ptr,Int.toNat_natCast,Try.results16,jTA])|(simp (disch:=omega) only [ziw]))
          all_goals first
            | (exfalso; omega)
            | (refine xl1 (k + 1, acc ++ [q]) ?_ ⟨by show k + 1 ≤ l.length; omega, by show (acc ++ [q]).length ≤ 3; rw [hsl]; omega, hgd2, hp⟩ (by show l.length - (k + 1) < l.length - k; omega); (refine yrn [(0, 0), (1, 1), (2, 2)] false ?_ ?_<;>(repeat' (first|(with_reducible first|exact ya1|exact ya2|exact ya3|refine jx rfl (by first|rfl|assumption|(simp only [znl,nls_u,nls_prt,nl_prt,nls_padX,nls_padF,nls_metP];(first|done|fail)))|exact ya5|exact ya7|exact jy|exact jz|refine jA ?_|refine ya9 ?_ ?_ ?_|refine jC rfl (by first|rfl|assumption|(simp only [znl,nls_u,nls_prt,nl_prt,nls_padX,nls_padF,nls_metP];(first|done|fail)))|refine MR.agg (MRL.cons ?_ ?_)|refine MR.fn ?_|refine MRL.cons ?_ ?_|exact MRL.nil|refine jE ?_ ?_|exact jF|exact jG|refine yb1 ?_ ?_|refine MB.row ?_|refine jI ?_ ?_|exact ya8|refine jJ rfl (by first|rfl|assumption|(simp only [znl,nls_u,nls_prt,nl_prt,nls_padX,nls_padF,nls_metP];(first|done|fail)))|refine yb2 ?_|rfl)|(simp only [znl,nls_u,nls_prt,nl_prt,nls_padX,nls_padF,nls_metP];(first|done|fail))|(simp only [↓reduceIte,zlk,Nat.reduceEqDiff,reduceCtorEq])|(with_reducible first|refine jJ ?_ ?_|refine ya5 ?_|refine ju ?_|refine jv ?_|refine jw ?_|refine jx ?_ (by first|rfl|assumption|(simp only [znl,nls_u,nls_prt,nl_prt,nls_padX,nls_padF,nls_metP];(first|done|fail)))|refine jC ?_ (by first|rfl|assumption|(simp only [znl,nls_u,nls_prt,nl_prt,nls_padX,nls_padF,nls_metP];(first|done|fail))))))); all_goals (first | rfl | exact ms | exact sX (by omega) | exact sF (by omega) | (rw [hsl]; rfl)); done)
        · rw [if_pos hdn] at hp
          rw [← hp, joinW_err (by decide)]
          repeat' (first|(with_reducible first|refine yrl (by constructor) ?_|refine jk (fun M hM=>?_)|(refine hM _ ?_;clear hM M)|refine xb3 (by decide) ?_|refine yqa (by assumption) ?_ ?_|refine yqb (by assumption) ?_ ?_)|((with_reducible refine je ?_)<;>(first|rfl|assumption|(simp only [znl,nls_u,nls_prt,nl_prt,nls_padX,nls_padF,nls_metP];(first|done|fail))))|(with_reducible refine jf (by (simp only [↓reduceIte,zlk,Nat.reduceEqDiff,reduceCtorEq]);exact rfl) ?_)|((with_reducible first|refine jg (fun hc=>?_) (fun hc=>?_)|refine jh (fun hc=>?_) (fun hc=>?_))<;>(try simp (disch:=omega) only [zhb] at hc)<;>(try (exfalso;omega))<;>(try subst hc))|(with_reducible refine ji (by omega) ?_)|(simp (config := { maxSteps := 400000 }) only [↓jt,↓reduceIte,zvs,reduceCtorEq,Nat.reduceEqDiff,Nat.reduceAdd,Nat.reduceLeDiff,Nat.reduceMul,Int.reduceBNe,Int.reduceBEq,Int.reduceEq,Int.reduceNe,Int.reduceLT,Int.reduceLE,Int.reduceGT,Int.reduceGE,Int.reduceNeg,Int.reduceToNat,Nat.reduceLT,Nat.reduceSub,tab,hg,mg,Try.results16,jTA])|(simp (disch:=omega) only [ziw]))
          all_goals (try (exfalso; omega))
          refine ok_drawC 5 (by kernel_rfl) (by decide +kernel) (by intro m hm; simp only [upd_ap,rows_cons,rows_nil]; (repeat (first | rfl | rw [if_neg (by omega)]))) (fun M hM => ?_); simp only [List.take_succ_cons,List.take_zero,List.drop_succ_cons,List.drop_zero]
          repeat' (first|(with_reducible first|refine yrl (by constructor) ?_|refine jk (fun M hM=>?_)|(refine hM _ ?_;clear hM M)|refine xb3 (by decide) ?_|refine yqa (by assumption) ?_ ?_|refine yqb (by assumption) ?_ ?_)|((with_reducible refine je ?_)<;>(first|rfl|assumption|(simp only [znl,nls_u,nls_prt,nl_prt,nls_padX,nls_padF,nls_metP];(first|done|fail))))|(with_reducible refine jf (by (simp only [↓reduceIte,zlk,Nat.reduceEqDiff,reduceCtorEq]);exact rfl) ?_)|((with_reducible first|refine jg (fun hc=>?_) (fun hc=>?_)|refine jh (fun hc=>?_) (fun hc=>?_))<;>(try simp (disch:=omega) only [zhb] at hc)<;>(try (exfalso;omega))<;>(try subst hc))|(with_reducible refine ji (by omega) ?_)|(simp (config := { maxSteps := 400000 }) only [↓jt,↓reduceIte,zvs,reduceCtorEq,Nat.reduceEqDiff,Nat.reduceAdd,Nat.reduceLeDiff,Nat.reduceMul,Int.reduceBNe,Int.reduceBEq,Int.reduceEq,Int.reduceNe,Int.reduceLT,Int.reduceLE,Int.reduceGT,Int.reduceGE,Int.reduceNeg,Int.reduceToNat,Nat.reduceLT,Nat.reduceSub,tab,hg,mg,Try.results16,jTA])|(simp (disch:=omega) only [ziw]))
          all_goals first
            | (exfalso; omega)
            | (((try simp only [joinRV,List.map_nil]); simp only [zrds]; (repeat' (first | exact rd_nil | exact Rd.refl _ _ (by first|rfl|assumption|(simp only [znl,nls_u,nls_prt,nl_prt,nls_padX,nls_padF,nls_metP];(first|done|fail))) | (refine And.intro ?_ ?_) | (refine rd_own (by (simp only [↓reduceIte,zlk,Nat.reduceEqDiff,reduceCtorEq]); exact rfl) ?_ ?_ ?_) | rfl | assumption | (simp only [znl,nls_u,nls_prt,nl_prt,nls_padX,nls_padF,nls_metP];(first|done|fail)) | (simp; done) | (simp; omega)))); done)
    · obtain rfl : k = l.length := by omega
      rw [List.drop_length, pick3] at hp
      repeat' (first|(with_reducible first|refine yrl (by constructor) ?_|refine jk (fun M hM=>?_)|(refine hM _ ?_;clear hM M)|refine xb3 (by decide) ?_|refine yqa (by assumption) ?_ ?_|refine yqb (by assumption) ?_ ?_)|((with_reducible refine je ?_)<;>(first|rfl|assumption|(simp only [znl,nls_u,nls_prt,nl_prt,nls_padX,nls_padF,nls_metP];(first|done|fail))))|(with_reducible refine jf (by (simp only [↓reduceIte,zlk,Nat.reduceEqDiff,reduceCtorEq]);exact rfl) ?_)|((with_reducible first|refine jg (fun hc=>?_) (fun hc=>?_)|refine jh (fun hc=>?_) (fun hc=>?_))<;>(try simp (disch:=omega) only [zhb] at hc)<;>(try (exfalso;omega))<;>(try subst hc))|(with_reducible refine ji (by omega) ?_)|(simp (config := { maxSteps := 400000 }) only [↓jt,↓reduceIte,zvs,reduceCtorEq,Nat.reduceEqDiff,Nat.reduceAdd,Nat.reduceLeDiff,Nat.reduceMul,Int.reduceBNe,Int.reduceBEq,Int.reduceEq,Int.reduceNe,Int.reduceLT,Int.reduceLE,Int.reduceGT,Int.reduceGE,Int.reduceNeg,Int.reduceToNat,Nat.reduceLT,Nat.reduceSub,tab,Try.results16,jTA])|(simp (disch:=omega) only [ziw]))
      all_goals first
        | (exfalso; omega)
        | (refine xc1 acc ?_ ⟨ha, hgd, hp.symm⟩; (refine yrn [(0, 0), (1, 1), (2, 2)] false ?_ ?_<;>(repeat' (first|(with_reducible first|exact ya1|exact ya2|exact ya3|refine jx rfl (by first|rfl|assumption|(simp only [znl,nls_u,nls_prt,nl_prt,nls_padX,nls_padF,nls_metP];(first|done|fail)))|exact ya5|exact ya7|exact jy|exact jz|refine jA ?_|refine ya9 ?_ ?_ ?_|refine jC rfl (by first|rfl|assumption|(simp only [znl,nls_u,nls_prt,nl_prt,nls_padX,nls_padF,nls_metP];(first|done|fail)))|refine MR.agg (MRL.cons ?_ ?_)|refine MR.fn ?_|refine MRL.cons ?_ ?_|exact MRL.nil|refine jE ?_ ?_|exact jF|exact jG|refine yb1 ?_ ?_|refine MB.row ?_|refine jI ?_ ?_|exact ya8|refine jJ rfl (by first|rfl|assumption|(simp only [znl,nls_u,nls_prt,nl_prt,nls_padX,nls_padF,nls_metP];(first|done|fail)))|refine yb2 ?_|rfl)|(simp only [znl,nls_u,nls_prt,nl_prt,nls_padX,nls_padF,nls_metP];(first|done|fail))|(simp only [↓reduceIte,zlk,Nat.reduceEqDiff,reduceCtorEq])|(with_reducible first|refine jJ ?_ ?_|refine ya5 ?_|refine ju ?_|refine jv ?_|refine jw ?_|refine jx ?_ (by first|rfl|assumption|(simp only [znl,nls_u,nls_prt,nl_prt,nls_padX,nls_padF,nls_metP];(first|done|fail)))|refine jC ?_ (by first|rfl|assumption|(simp only [znl,nls_u,nls_prt,nl_prt,nls_padX,nls_padF,nls_metP];(first|done|fail))))))); all_goals (first | rfl); done)
  · rintro acc ⟨ha, hgd, hRa⟩
    clear hRR hd
    refine cont_seqR hFQ h0 (by kernel_rfl) ?_
    unfold joinFr
    by_cases h3 : acc.length < 3
    · rw [if_pos h3] at hRa
      rw [hRa, joinW_err (by decide)]
      repeat' (first|(with_reducible first|refine yrl (by constructor) ?_|refine jk (fun M hM=>?_)|(refine hM _ ?_;clear hM M)|refine xb3 (by decide) ?_|refine yqa (by assumption) ?_ ?_|refine yqb (by assumption) ?_ ?_)|((with_reducible refine je ?_)<;>(first|rfl|assumption|(simp only [znl,nls_u,nls_prt,nl_prt,nls_padX,nls_padF,nls_metP];(first|done|fail))))|(with_reducible refine jf (by (simp only [↓reduceIte,zlk,Nat.reduceEqDiff,reduceCtorEq]);exact rfl) ?_)|((with_reducible first|refine jg (fun hc=>?_) (fun hc=>?_)|refine jh (fun hc=>?_) (fun hc=>?_))<;>(try simp (disch:=omega) only [zhb] at hc)<;>(try (exfalso;omega))<;>(try subst hc))|(with_reducible refine ji (by omega) ?_)|(simp (config := { maxSteps := 400000 }) only [↓jt,↓reduceIte,zvs,reduceCtorEq,Nat.reduceEqDiff,Nat.reduceAdd,Nat.reduceLeDiff,Nat.reduceMul,Int.reduceBNe,Int.reduceBEq,Int.reduceEq,Int.reduceNe,Int.reduceLT,Int.reduceLE,Int.reduceGT,Int.reduceGE,Int.reduceNeg,Int.reduceToNat,Nat.reduceLT,Nat.reduceSub,tab,Try.results16,jTA])|(simp (disch:=omega) only [ziw]))
      all_goals first
        | (exfalso; omega)
        | (((try simp only [joinRV,List.map_nil]); simp only [zrds]; (repeat' (first | exact rd_nil | exact Rd.refl _ _ (by first|rfl|assumption|(simp only [znl,nls_u,nls_prt,nl_prt,nls_padX,nls_padF,nls_metP];(first|done|fail))) | (refine And.intro ?_ ?_) | (refine rd_own (by (simp only [↓reduceIte,zlk,Nat.reduceEqDiff,reduceCtorEq]); exact rfl) ?_ ?_ ?_) | rfl | assumption | (simp only [znl,nls_u,nls_prt,nl_prt,nls_padX,nls_padF,nls_metP];(first|done|fail)) | (simp; done) | (simp; omega)))); done)
    rw [if_neg h3] at hRa
    repeat' (first|(with_reducible first|refine yrl (by constructor) ?_|refine jk (fun M hM=>?_)|(refine hM _ ?_;clear hM M)|refine xb3 (by decide) ?_|refine yqa (by assumption) ?_ ?_|refine yqb (by assumption) ?_ ?_)|((with_reducible refine je ?_)<;>(first|rfl|assumption|(simp only [znl,nls_u,nls_prt,nl_prt,nls_padX,nls_padF,nls_metP];(first|done|fail))))|(with_reducible refine jf (by (simp only [↓reduceIte,zlk,Nat.reduceEqDiff,reduceCtorEq]);exact rfl) ?_)|((with_reducible first|refine jg (fun hc=>?_) (fun hc=>?_)|refine jh (fun hc=>?_) (fun hc=>?_))<;>(try simp (disch:=omega) only [zhb] at hc)<;>(try (exfalso;omega))<;>(try subst hc))|(with_reducible refine ji (by omega) ?_)|(simp (config := { maxSteps := 400000 }) only [↓jt,↓reduceIte,zvs,reduceCtorEq,Nat.reduceEqDiff,Nat.reduceAdd,Nat.reduceLeDiff,Nat.reduceMul,Int.reduceBNe,Int.reduceBEq,Int.reduceEq,Int.reduceNe,Int.reduceLT,Int.reduceLE,Int.reduceGT,Int.reduceGE,Int.reduceNeg,Int.reduceToNat,Nat.reduceLT,Nat.reduceSub,tab,Try.results16,jTA])|(simp (disch:=omega) only [ziw]))
    all_goals (try (exfalso; omega))
    have hacc : acc.length = 3 := by omega
    match acc, hacc, hgd, hRa with
    | [], h, _, _ => cases h
    | [_], h, _, _ => cases h
    | [_, _], h, _, _ => cases h
    | _ :: _ :: _ :: _ :: _, h, _, _ => simp at h
    | [p, q, r], _, hgd, hRa =>
      have hW : joinW R n s = (joinP p q r n s, 0) := by rw [hRa]; rfl
      obtain ⟨p1, pd⟩ := p
      obtain ⟨q1, qd⟩ := q
      obtain ⟨r1, rd⟩ := r
      have lp := hgd.ln ⟨p1, pd⟩ (by simp)
      have lq := hgd.ln ⟨q1, qd⟩ (by simp)
      have lr := hgd.ln ⟨r1, rd⟩ (by simp)
      have bp := i_u8 (hgd.rg ⟨p1, pd⟩ (by simp))
      have bq := i_u8 (hgd.rg ⟨q1, qd⟩ (by simp))
      have br := i_u8 (hgd.rg ⟨r1, rd⟩ (by simp))
      have hnd := hgd.nd
      dsimp only at lp lq lr bp bq br
      simp only [joinP] at hW
      obtain ⟨x, hx⟩ : ∃ x, x = u8 p1 := ⟨_, rfl⟩
      obtain ⟨y, hy⟩ : ∃ y, y = u8 q1 := ⟨_, rfl⟩
      obtain ⟨z, hz⟩ : ∃ z, z = u8 r1 := ⟨_, rfl⟩
      rw [← hx] at bp hW
      rw [← hy] at bq hW
      rw [← hz] at br hW
      clear hx hy hz
      subst bp bq br
      have hne : x ≠ y ∧ x ≠ z ∧ y ≠ z := by
        simp only [List.map_cons,List.map_nil,List.nodup_cons,List.mem_cons,List.not_mem_nil,or_false,not_or] at hnd
        exact ⟨fun h => hnd.1.1 (by rw [h]), fun h => hnd.1.2 (by rw [h]), fun h => hnd.2.1 (by rw [h])⟩
      have lpn : pd.length = n := by omega
      have lqn : qd.length = n := by omega
      have lrn : rd.length = n := by omega
      refine cont_ren h0 (T := ⟨slots [(1, .int .i64 s), (6, .ptr 0 []), (7, .ptr 1 [])], rows [(0, .row (.arr 3 .cell) (.agg [.int .u8 (B8 x), .int .u8 (B8 y), .int .u8 (B8 z)])), (1, .row (.arr 3 .cell) (.agg [.str pd, .str qd, .str rd]))], 2⟩) ?_ ?_
      · rw [padX_eq, padF_eq]
        (refine yrn [(0, 0), (1, 1)] false ?_ ?_<;>(repeat' (first|(with_reducible first|exact ya1|exact ya2|exact ya3|refine jx rfl (by first|rfl|assumption|(simp only [znl,nls_u,nls_prt,nl_prt,nls_padX,nls_padF,nls_metP];(first|done|fail)))|exact ya5|exact ya7|exact jy|exact jz|refine jA ?_|refine ya9 ?_ ?_ ?_|refine jC rfl (by first|rfl|assumption|(simp only [znl,nls_u,nls_prt,nl_prt,nls_padX,nls_padF,nls_metP];(first|done|fail)))|refine MR.agg (MRL.cons ?_ ?_)|refine MR.fn ?_|refine MRL.cons ?_ ?_|exact MRL.nil|refine jE ?_ ?_|exact jF|exact jG|refine yb1 ?_ ?_|refine MB.row ?_|refine jI ?_ ?_|exact ya8|refine jJ rfl (by first|rfl|assumption|(simp only [znl,nls_u,nls_prt,nl_prt,nls_padX,nls_padF,nls_metP];(first|done|fail)))|refine yb2 ?_|rfl)|(simp only [znl,nls_u,nls_prt,nl_prt,nls_padX,nls_padF,nls_metP];(first|done|fail))|(simp only [↓reduceIte,zlk,Nat.reduceEqDiff,reduceCtorEq])|(with_reducible first|refine jJ ?_ ?_|refine ya5 ?_|refine ju ?_|refine jv ?_|refine jw ?_|refine jx ?_ (by first|rfl|assumption|(simp only [znl,nls_u,nls_prt,nl_prt,nls_padX,nls_padF,nls_metP];(first|done|fail)))|refine jC ?_ (by first|rfl|assumption|(simp only [znl,nls_u,nls_prt,nl_prt,nls_padX,nls_padF,nls_metP];(first|done|fail)))))))
        all_goals (first | rfl)
      clear hgd hRa lp lq lr hnd
      intro a w1 ρ hS
      have hsz : a.tmps.size = 74 := hS.size
      have h1 := (hS.tm 1).int
      have h6 := hS.tm 6
      have h7 := hS.tm 7
      have had : a.defers = [] := hS.defers
      refine wp_seq (wp_region_list (wl_val rfl run_allocBuilder ?_))
      obtain ⟨b, hb⟩ : ∃ b, b = w1.heap.size := ⟨_, rfl⟩
      obtain ⟨w2, hw2⟩ : ∃ w2, w2 = w1.alloc (.cells #[.pointer none, .slice none 0 0] 57) := ⟨_, rfl⟩
      rw [← hb, ← hw2]
      have hg2 : w1.grownBy w2 none := by rw [hw2]; exact World.grownBy_alloc _ _ _
      have hS2 := hS.gr (w' := w2) (row := none) (fun m es h => by
        simp only [rows_cons,rows_nil] at h
        repeat' split at h
        all_goals cases h) (Nat.le_refl _) hg2 (fun r e => by cases e)
      have hb2 : w2.heap[b]? = some (.cells #[.pointer none, .slice none 0 0] 57 (0, 0)) := by rw [hw2, hb]; exact World.alloc_heap_new _ _
      have hsz2 : w2.heap.size = b + 1 := by rw [hw2, hb]; simp
      have hB2 : Below b w1 w2 := by rw [hw2, hb]; exact (Below.refl _ _).alloc (Nat.le_refl _) _
      have hbd2 := isBuilder_new (e := 5) hb2
      obtain ⟨a1, ha1⟩ : ∃ a1, a1 = a.put (some 12) (.pointer (some ⟨b, 0, none⟩)) := ⟨_, rfl⟩
      rw [← ha1]
      have z1 : a1.tmps.size = 74 := by rw [ha1, put_len, hsz]
      have t12 : a1.tmps.getD 12 undef = .pointer (some ⟨b, 0, none⟩) := by rw [ha1]; exact put_same (by omega)
      have t6 : a1.tmps.getD 6 undef = a.tmps.getD 6 undef := by rw [ha1]; exact put_other (by decide)
      have t7 : a1.tmps.getD 7 undef = a.tmps.getD 7 undef := by rw [ha1]; exact put_other (by decide)
      have t1 : a1.tmps.getD 1 undef = .int .i64 s := by rw [ha1, put_other (by decide), h1]
      have d1 : a1.defers = [] := by rw [ha1]; exact had
      show Code.wp _ _ _ _ _
      refine wp_seq (wp_seq (wp_region_list ?_))
      obtain ⟨v6, r6, e6⟩ := load_raw (P := Try.prog) (a := a1) (w := w2) (d := some 64) (typ := 40) (pos := "parity.go:88") (aft := #[]) (gd := none) hS2.heap (t := 6) (by rw [t6]; exact hS2.tm 6) (m := 0) rfl (ty := 40) (by simp only [tab])
      have e6 := agg3 e6 (c1 := .int .u8 (B8 x)) (c2 := .int .u8 (B8 y)) (c3 := .int .u8 (B8 z)) (fun cs h => by simpa only [C1] using h) (fun cs h => by simpa only [C1] using h) (fun cs h => by simpa only [C1] using h)
      subst e6
      refine wl_val rfl r6 ?_
      obtain ⟨a2, ha2⟩ : ∃ a2, a2 = a1.put (some 64) (.agg #[.int .u8 (B8 x), .int .u8 (B8 y), .int .u8 (B8 z)]) := ⟨_, rfl⟩
      rw [← ha2]
      have z2 : a2.tmps.size = 74 := by rw [ha2, put_len, z1]
      obtain ⟨v7, r7, e7⟩ := load_raw (P := Try.prog) (a := a2) (w := w2) (d := some 65) (typ := 46) (pos := "parity.go:88") (aft := #[]) (gd := none) hS2.heap (t := 7) (by rw [ha2, put_other (by decide), t7]; exact hS2.tm 7) (m := 1) rfl (ty := 46) (by simp only [tab])
      have e7 := agg3 e7 (c1 := .string ⟨pd.toArray⟩) (c2 := .string ⟨qd.toArray⟩) (c3 := .string ⟨rd.toArray⟩) (fun cs h => by simpa only [C1] using h) (fun cs h => by simpa only [C1] using h) (fun cs h => by simpa only [C1] using h)
      subst e7
      refine wl_val rfl r7 ?_
      obtain ⟨a3, ha3⟩ : ∃ a3, a3 = a2.put (some 65) (.agg #[.string ⟨pd.toArray⟩, .string ⟨qd.toArray⟩, .string ⟨rd.toArray⟩]) := ⟨_, rfl⟩
      rw [← ha3]
      have z3 : a3.tmps.size = 74 := by rw [ha3, put_len, z2]
      have u65 : a3.tmps.getD 65 undef = .agg #[.string ⟨pd.toArray⟩, .string ⟨qd.toArray⟩, .string ⟨rd.toArray⟩] := by rw [ha3]; exact put_same (by omega)
      have u64 : a3.tmps.getD 64 undef = .agg #[.int .u8 (B8 x), .int .u8 (B8 y), .int .u8 (B8 z)] := by rw [ha3, put_other (by decide), ha2]; exact put_same (by omega)
      refine wl_call rfl (run_call (enters_of Try.func19 (by kernel_rfl) rfl)) ?_
      have ea : (#[Operand.tmp 64, .tmp 65, .const (.int .i64 1), .const (.int .i64 3)] : Array Operand).map a3.eval = #[.agg #[.int .u8 (B8 x), .int .u8 (B8 y), .int .u8 (B8 z)], .agg #[.string ⟨pd.toArray⟩, .string ⟨qd.toArray⟩, .string ⟨rd.toArray⟩], .int .i64 1, .int .i64 3] := by
        have e1 : a3.eval (.tmp 64) = _ := u64
        have e2 : a3.eval (.tmp 65) = _ := u65
        have e3 : a3.eval (.const (.int .i64 1)) = .int .i64 1 := rfl
        have e4 : a3.eval (.const (.int .i64 3)) = .int .i64 3 := rfl
        simp [e1, e2, e3, e4]
      rw [ea]
      refine (lines_call _ _ _ _ _ _ 1 3 w2).mono ?_
      rintro e w3 ⟨rfl, hw3⟩
      refine ⟨_, rfl, ?_⟩
      have hB3 : Below w2.heap.size w2 w3 := by
        rw [hw3]
        exact (((((Below.refl _ w2).alloc (Nat.le_refl _) _).alloc (by simp) _).alloc (by simp; omega) _).alloc (by simp; omega) _)
      have hbx3 := boxes_new w2 (.int .u8 (B8 x)) (.int .u8 (B8 y)) (.int .u8 (B8 z)) (.string ⟨pd.toArray⟩) (.string ⟨qd.toArray⟩) (.string ⟨rd.toArray⟩) 3
      rw [← hw3, hsz2] at hbx3
      rw [hsz2]
      have hbd3 := isBuilder_gr hbd2 (Gr.of_below hB3)
      have hBb3 : Below b w1 w3 := hB2.trans (hB3.mono (by omega))
      clear hw3
      obtain ⟨a4, ha4⟩ : ∃ a4, a4 = a3.put (some 66) (.func (.func 32) #[] #[ptrV (b + 1 + 2, 0), ptrV (b + 1 + 3, 0), ptrV (b + 1, 0), ptrV (b + 1 + 1, 0)]) := ⟨_, rfl⟩
      rw [← ha4]
      have z4 : a4.tmps.size = 74 := by rw [ha4, put_len, z3]
      have t66 : a4.eval (.tmp 66) = .func (.func 32) #[] #[ptrV (b + 1 + 2, 0), ptrV (b + 1 + 3, 0), ptrV (b + 1, 0), ptrV (b + 1 + 1, 0)] := by rw [ha4]; exact put_same (by omega)
      have t12 : a4.tmps.getD 12 undef = .pointer (some ⟨b, 0, none⟩) := by rw [ha4, put_other (by decide), ha3, put_other (by decide), ha2, put_other (by decide), t12]
      have t1 : a4.tmps.getD 1 undef = .int .i64 s := by rw [ha4, put_other (by decide), ha3, put_other (by decide), ha2, put_other (by decide), t1]
      have d4 : a4.defers = [] := by rw [ha4, ha3, ha2]; exact d1
      have hlt3 : b < w3.heap.size := by have := hB3.size; omega
      show Code.wp _ _ _ _ _
      refine wp_block ((wpIn_wide (n := 5)).1 ?_)
      refine wpIn_rangeFunc_ownG (w0 := w3) rfl (by omega) t66 trivial (enters_of Try.func32 (by kernel_rfl) rfl) (lines_stops (b + 1 + 2, 0) (b + 1 + 3, 0) (b + 1, 0) (b + 1 + 1, 0) 3 x y z pd qd rd n 4 hne (by omega) lpn lqn lrn (by decide) w3 hbx3.held)
        (fun {A B C} h k x => k (h x)) (fun W k o o' _ hl ho _ h => h.gr (Gr.of (grownBy_putObj' W k o') fun r e => by cases e; exact ⟨o, hl, ho⟩)) (Below.refl _ _) (fun _ => rfl)
        (fun pre W => Lib.IsBuilderF 57 5 b b (Lib.byteCells (catL pre)) W ∧ Boxes (b + 1) (.int .u8 (B8 x)) (.int .u8 (B8 y)) (.int .u8 (B8 z)) (.string ⟨pd.toArray⟩) (.string ⟨qd.toArray⟩) (.string ⟨rd.toArray⟩) 3 W ∧ Below b w1 W) (fun _ _ _ => False) ?_ (fun _ _ _ _ _ h => h.elim) ⟨hbd3, hbx3, hBb3⟩
        (fun u => (((⟨a4.tmps, []⟩ : Act).put (some 67) (.int .i64 u.1.i)).put (some 68) (.string ⟨u.1.d.toArray⟩)).put (some 14) (.string ⟨u.1.d.toArray⟩)) ?_ ?_ ?_ (fun _ _ _ _ _ _ h => h.elim)
      · rintro pre W W' row ⟨i1, i2, i3⟩ hg hr
        have g : Gr W W' := Gr.of hg fun r e => (hr r e).2
        refine ⟨isBuilder_gr i1 g, i2.gr g, i3.trans ⟨hg.os, hg.tape, hg.output, hg.size, fun k hk => hg.block k (by have := i3.size; omega) fun e => ?_⟩⟩
        have := (hr k e.symm).1
        omega
      · intro r u W K hK
        refine wpIn_region_lit (in_assign (wpListIn_nil ?_))
        refine cast ?_ hK
        congr 1
        simp [Act.put, Act.eval, encLP, Array.getD_eq_getD_getElem?, Array.getElem?_setIfInBounds, z4]
      · rintro r pre u W ⟨i1, i2, i3⟩ hlen
        obtain ⟨c0, hc0⟩ : ∃ c0, c0 = (((⟨a4.tmps, []⟩ : Act).put (some 67) (.int .i64 u.1.i)).put (some 68) (.string ⟨u.1.d.toArray⟩)).put (some 14) (.string ⟨u.1.d.toArray⟩) := ⟨_, rfl⟩
        rw [← hc0]
        have y14 : c0.tmps.getD 14 undef = .string ⟨u.1.d.toArray⟩ := by rw [hc0]; exact put_same (by simp [Act.put, z4])
        have y12 : c0.tmps.getD 12 undef = .pointer (some ⟨b, 0, none⟩) := by rw [hc0, put_other (by decide), put_other (by decide), put_other (by decide)]; exact t12
        have zc : c0.tmps.size = 74 := by rw [hc0]; simp [Act.put, z4]
        refine wpIn_block (wpIn_region_lit (in_val (v := .string ⟨u.1.d.toArray⟩) (w' := W) rfl rfl (by have : c0.eval (.tmp 14) = _ := y14; simp [execOp, this]) ?_))
        obtain ⟨c1, hc1⟩ : ∃ c1, c1 = c0.put (some 69) (.string ⟨u.1.d.toArray⟩) := ⟨_, rfl⟩
        rw [← hc1]
        refine in_call rfl rfl (run_call (enters_of Try.func25 (by kernel_rfl) rfl)) ?_
        have ec : (#[Operand.tmp 12, .tmp 69] : Array Operand).map c1.eval = #[.pointer (some ⟨b, 0, none⟩), .string ⟨u.1.d.toArray⟩] := by
          have e1 : c1.eval (.tmp 12) = .pointer (some ⟨b, 0, none⟩) := by show c1.tmps.getD 12 undef = _; rw [hc1, put_other (by decide)]; exact y12
          have e2 : c1.eval (.tmp 69) = .string ⟨u.1.d.toArray⟩ := by show c1.tmps.getD 69 undef = _; rw [hc1]; exact put_same (by omega)
          simp [e1, e2]
        rw [ec]
        have hcl := catL_len pre
        have hul := u.2.1
        have hWs : b ≤ W.heap.size := by have := i3.size; omega
        refine (writeString_k b b _ ⟨u.1.d.toArray⟩ W i1 (by rw [Lib.byteCells_length]; show _ + u.1.d.toArray.size ≤ _; rw [List.size_toArray]; omega) hWs).mono ?_
        rintro e W' ⟨rfl, k0, k1, k2⟩
        refine ⟨_, rfl, wpListIn_nil ?_⟩
        have hbc : Lib.byteCells (catL pre) ++ Lib.strCells ⟨u.1.d.toArray⟩ = Lib.byteCells (catL (pre ++ [u])) := by rw [catL_snoc]; simp [Lib.byteCells, Lib.strCells]
        rw [hbc] at k0
        have hbx := i2.others (by omega) k2
        refine ⟨⟨k1.size, fun k o h1 h2 h3 => k2 k o h2 (fun e => ?_) (fun c fz e => by subst e; cases h3)⟩, fun _ => hbx.held, .inr k0, hbx, i3.trans k1⟩
        injection e with e
        omega
      · rintro D ys W hD hys ⟨i1, i2, i3⟩ hK
        have hcat : catL ys = (lineP x y z pd qd rd n 1 ++ lineP x y z pd qd rd n 2) ++ lineP x y z pd qd rd n 3 := by
          have e : catL ys = ((ys.map (·.1)).map (·.d)).flatten := by simp [catL]
          rw [e, hys]
          simp [linesL, List.range_succ, u8n]
        obtain ⟨C, hC⟩ : ∃ C, C = catL ys := ⟨_, rfl⟩
        rw [← hC] at hcat i1
        have hCl : C.length = 3 * n := by rw [hcat]; simp only [List.length_append,lineP_len]; omega
        rw [← hcat] at hW
        show Code.wp _ _ _ _ _
        obtain ⟨a5, ha5⟩ : ∃ a5 : Act, a5 = { a4 with defers := { target := .collected D, args := #[] } :: a4.defers } := ⟨_, rfl⟩
        rw [← ha5]
        have z5 : a5.tmps.size = 74 := by rw [ha5]; exact z4
        have d5 : a5.defers = [{ target := .collected D, args := #[] }] := by rw [ha5, d4]
        refine wp_seq (wp_region_list (wl_call rfl (run_call (enters_of Try.func26 (by kernel_rfl) rfl)) ?_))
        have ed : (#[Operand.tmp 12] : Array Operand).map a5.eval = #[.pointer (some ⟨b, 0, none⟩)] := by
          have e1 : a5.eval (.tmp 12) = .pointer (some ⟨b, 0, none⟩) := by show a5.tmps.getD 12 undef = _; rw [ha5]; exact t12
          simp [e1]
        rw [ed]
        refine (Try.Builder_String_any_k b b C W i1 (by have := i3.size; omega)).mono ?_
        rintro e W2 ⟨rfl, _, k1, k2⟩
        refine ⟨_, rfl, ?_⟩
        have hD2 : W2.heap[D]? = some (.deferred (some [])) := k2 D _ hK (fun e => by injection e with e; omega) (fun c fz e => by cases e)
        obtain ⟨a6, ha6⟩ : ∃ a6, a6 = a5.put (some 71) (.string ⟨C.toArray⟩) := ⟨_, rfl⟩
        rw [← ha6]
        have z6 : a6.tmps.size = 74 := by rw [ha6, put_len, z5]
        have v71 : a6.tmps.getD 71 undef = .string ⟨C.toArray⟩ := by rw [ha6]; exact put_same (by omega)
        have v1 : a6.tmps.getD 1 undef = .int .i64 s := by rw [ha6, put_other (by decide), ha5]; exact t1
        have d6 : a6.defers = [{ target := .collected D, args := #[] }] := by rw [ha6]; exact d5
        have hSf : SR ⟨74, [{ target := .collected D, args := #[] }]⟩ W2.heap.size (.bare fun _ => False) W2 ⟨slots [(1, .int .i64 s), (71, .str C)], fun _ => none, 0⟩ a6 W2 (.bare fun _ => False) := by
          refine ⟨fun t => ?_, d6, z6, hr_bare _ _, Below.refl _ _, Ext.refl _ _⟩
          show VR _ _ (slots [(1, .int .i64 s), (71, .str C)] t) _
          rw [slots_cons, slots_cons]
          split
          · rename_i e; subst e; rw [v1]; exact VR_int
          · split
            · rename_i e; subst e; rw [v71]; exact VR_str
            · simp [slots, VR, VR1]
        obtain ⟨M, hMe⟩ : ∃ M : VS → Prop, M = fun S' => S'.tm 4 = .str (C.take s) ∧ S'.tm 5 = .int .i64 0 := ⟨_, rfl⟩
        refine vlist_sound (K := M) _ _ a6 W2 _ (dstOk74 (by kernel_rfl)) ?_ hSf (fun S' a7 w7 ρ7 hk hs7 => ?_)
        · rw [← vl_def]
          have hM : ∀ S' : VS, (S'.tm 4 = .str (C.take s) ∧ S'.tm 5 = .int .i64 0) → M S' := by rw [hMe]; exact fun _ h => h
          clear hMe
          repeat' (first|(with_reducible first|refine yrl (by constructor) ?_|refine jk (fun M hM=>?_)|(refine hM _ ?_;clear hM M)|refine xb3 (by decide) ?_|refine yqa (by assumption) ?_ ?_|refine yqb (by assumption) ?_ ?_)|((with_reducible refine je ?_)<;>(first|rfl|assumption|(simp only [znl,nls_u,nls_prt,nl_prt,nls_padX,nls_padF,nls_metP];(first|done|fail))))|(with_reducible refine jf (by (simp only [↓reduceIte,zlk,Nat.reduceEqDiff,reduceCtorEq]);exact rfl) ?_)|((with_reducible first|refine jg (fun hc=>?_) (fun hc=>?_)|refine jh (fun hc=>?_) (fun hc=>?_))<;>(try simp (disch:=omega) only [zhb] at hc)<;>(try (exfalso;omega))<;>(try subst hc))|(with_reducible refine ji (by omega) ?_)|(simp (config := { maxSteps := 400000 }) only [↓jt,↓reduceIte,zvs,reduceCtorEq,Nat.reduceEqDiff,Nat.reduceAdd,Nat.reduceLeDiff,Nat.reduceMul,Int.reduceBNe,Int.reduceBEq,Int.reduceEq,Int.reduceNe,Int.reduceLT,Int.reduceLE,Int.reduceGT,Int.reduceGE,Int.reduceNeg,Int.reduceToNat,Nat.reduceLT,Nat.reduceSub,tab,hCl,Int.toNat_natCast])|(simp (disch:=omega) only [ziw]))
        · rw [hMe] at hk
          obtain ⟨k4, k5⟩ := hk
          have r4 := (VR.str (k4 ▸ hs7.tm 4 : VR _ _ (.str (C.take s)) _))
          have r5 := (VR.int (k5 ▸ hs7.tm 5 : VR _ _ (.int .i64 0) _))
          have hDl : D < W2.heap.size := (Array.getElem?_eq_some_iff.1 hD2).1
          have hK' : w7.heap[D]? = some (.deferred (some [])) := by rw [hs7.below.block D hDl]; exact hD2
          have g : Gr w7 (w7.putObj D (.deferred none)) := Gr.of (grownBy_putObj' w7 D _) fun r e => by cases e; exact ⟨_, hK', rfl⟩
          have d7 : a7.defers = [{ target := .collected D, args := #[] }] := hs7.defers
          refine wp_ret ?_
          show Q .ret a7 w7
          rw [hQ]
          show LeavesInM Fence.wide 5 Try.prog Try.f16 a7.tmps _ a7.defers .returning w7
          rw [d7]
          refine ⟨by simp, .inl ⟨D, _, rfl, run_takeDeferred hK', ?_⟩⟩
          refine ⟨_, results_tmp2 rfl _ _ _, _, rfl, ?_, ?_⟩
          · have q1 : w.heap.size ≤ b := by rw [hb]; exact hS.below.size
            have q2 : w.heap.size ≤ W2.heap.size := by have := k1.size; have := i3.size; omega
            have q3 := hB3.size
            refine (((hS.below.trans (i3.mono q1)).trans (k1.mono q1)).trans (hs7.below.mono q2)).trans ⟨rfl, rfl, rfl, by simp, fun k hk => World.putObj_heap_other (fun e => ?_)⟩
            omega
          · rw [hW, r4, r5]
            simp [joinRV, VR, VRs, VR1, C1]
end Go.Proofs.Ytoibnghkcdopeaa.V
end
section
namespace Go.Proofs.Ytoibnghkcdopeaa.V
open Go Go.Proofs.Ytoibnghkcdopeaa Go.Proofs.Ytoibnghkcdopeaa.Gf
set_option maxRecDepth 100000
def znB1 := And.intro @nls_u <| And.intro @nls_prt <| And.intro @nl_prt <| True.intro
set_option maxHeartbeats 4000000
theorem reach47 : reachBytes ≤ 2 ^ 47 := by decide
theorem one_row {d : List UInt8} (h : rowsN d.length = 1) (p : UInt8) (v : UInt8) (e : nth (partOf d p) 0 = v) : partOf d p = [v] := by
  refine Gf.ext_nth (by rw [partOf_len, h]; rfl) fun i hi => ?_
  rw [partOf_len, h] at hi
  obtain rfl : i = 0 := by omega
  rw [e]; rfl
theorem fixed7_spec : Spec Try.prog 9 [] (.bool true) := by
  have h1 := cut_spec [97, 98, 99] (by decide)
  have h2 := cut_spec [] (by decide)
  obtain ⟨r1, r2, r3⟩ := part_row [97, 98, 99] 0 (by decide)
  have e1 := one_row (d := [97, 98, 99]) (by decide) 1 97 (r1.trans (by decide))
  have e3 := one_row (d := [97, 98, 99]) (by decide) 3 99 (r3.trans (by decide))
  have e5 : (partOf [97, 98, 99] 5).length = 1 := by rw [partOf_len]; decide
  simp only [cutS] at h1 h2
  rw [e1, e3] at h1
  generalize partOf [97, 98, 99] 2 = p2 at h1
  generalize partOf [97, 98, 99] 4 = p4 at h1
  generalize partOf [97, 98, 99] 5 = p5 at h1 e5
  generalize partOf [] 1 = q1 at h2
  generalize partOf [] 2 = q2 at h2
  generalize partOf [] 3 = q3 at h2
  generalize partOf [] 4 = q4 at h2
  generalize partOf [] 5 = q5 at h2
  clear r1 r2 r3 e1 e3
  simp only [encPrts,List.map_cons,List.map_nil,encPrt] at h1 h2
  have hv1 : veq (.agg [.int .i64 1, .str [97]]) (.agg [.int .i64 1, .str [97]]) = true := by simp [veq, veqs]
  have hv3 : veq (.agg [.int .i64 3, .str [99]]) (.agg [.int .i64 3, .str [99]]) = true := by simp [veq, veqs]
  have hf : ∀ (a : Int) (s : List UInt8), Fit (.st [.int .i64, .str]) (.agg [.int .i64 a, .str s]) := fun a s => by simp [Fit, FitL]
  refine spec_ok Try.func9 rfl rfl (by kernel_rfl) (k := 0) rfl (by decide) ?_
  repeat' (first|(with_reducible first|refine yrl (by constructor) ?_|refine jk (fun M hM=>?_)|(refine hM _ ?_;clear hM M)|refine xb3 (by decide) ?_|refine yqa (by assumption) ?_ ?_|refine yqb (by assumption) ?_ ?_)|((with_reducible refine je ?_)<;>(first|rfl|assumption|(simp only [znl,znB1];(first|done|fail))))|(with_reducible refine jf (by (simp only [↓reduceIte,zlk,Nat.reduceEqDiff,reduceCtorEq]);exact rfl) ?_)|((with_reducible first|refine jg (fun hc=>?_) (fun hc=>?_)|refine jh (fun hc=>?_) (fun hc=>?_))<;>(try simp (disch:=omega) only [zhb] at hc)<;>(try (exfalso;omega))<;>(try subst hc))|(with_reducible refine ji (by omega) ?_)|(simp (config := { maxSteps := 400000 }) only [↓jt,↓reduceIte,zvs,reduceCtorEq,Nat.reduceEqDiff,Nat.reduceAdd,Nat.reduceLeDiff,Nat.reduceMul,Int.reduceBNe,Int.reduceBEq,Int.reduceEq,Int.reduceNe,Int.reduceLT,Int.reduceLE,Int.reduceGT,Int.reduceGE,Int.reduceNeg,Int.reduceToNat,Nat.reduceLT,Nat.reduceSub,tab,hv1,hv3,hf,e5,Try.results9,jTA])|(simp (disch:=omega) only [ziw]))
  all_goals first
    | (exfalso; omega)
    | (simp only [zrds]; done)
    | (simp only [show (((5 : Nat) : Int) == 5) = true from rfl]; simp only [zrds]; done)
end Go.Proofs.Ytoibnghkcdopeaa.V
end
section
namespace Go.Proofs.Ytoibnghkcdopeaa.V
open Go Go.Proofs.Ytoibnghkcdopeaa Go.Proofs.Ytoibnghkcdopeaa.Gf
set_option maxRecDepth 100000
set_option maxHeartbeats 4000000
theorem cut_get (d : List UInt8) (p : Nat) (h : p < 5) : ((cutS d).map encPrt)[p]? = some (.agg [.int .i64 (p + 1), .str (partOf d (u8n (p + 1)))]) :=
  match p, h with
  | 0, _ => rfl
  | 1, _ => rfl
  | 2, _ => rfl
  | 3, _ => rfl
  | 4, _ => rfl
end Go.Proofs.Ytoibnghkcdopeaa.V
end
section
namespace Go.Proofs.Ytoibnghkcdopeaa.V
open Go Go.Proofs.Ytoibnghkcdopeaa Go.Proofs.Ytoibnghkcdopeaa.Gf
set_option maxRecDepth 100000
set_option maxHeartbeats 4000000
theorem getD_of {α : Type} [Inhabited α] {f : α → VV} {l : List α} {i : Nat} {v : VV} (h : (l.map f)[i]? = some v) : f (l.getD i default) = v := by
  rw [List.getElem?_map] at h
  rw [List.getD_eq_getElem?_getD]
  cases e : l[i]? with
  | none => rw [e] at h; simp at h
  | some x => rw [e] at h; simpa using h
theorem pick3_three {n : Int} {p q r : Prt} (g : GoodP n [p, q, r]) (l : List Prt) : pick3 n [] ([p, q, r] ++ l) = ([p, q, r], 0) := by
  obtain ⟨g1, g2, g3⟩ := g
  have a1 := g2 p (by simp)
  have a2 := g2 q (by simp)
  have a3 := g2 r (by simp)
  have b1 := g3 p (by simp)
  have b2 := g3 q (by simp)
  have b3 := g3 r (by simp)
  simp only [List.map_cons,List.map_nil,List.nodup_cons,List.mem_cons,List.not_mem_nil,or_false,not_or] at g1
  obtain ⟨⟨c1, c2⟩, c3, _⟩ := g1
  have e1 : hasI [] p.i = false := rfl
  have e2 : hasI [p] q.i = false := by simp only [hasI,List.any_cons,List.any_nil,Bool.or_false,beq_eq_false_iff_ne,ne_eq]; exact c1
  have e3 : hasI [p, q] r.i = false := by
    simp only [hasI,List.any_cons,List.any_nil,Bool.or_false,Bool.or_eq_false_iff,beq_eq_false_iff_ne,ne_eq]
    exact ⟨c2, c3⟩
  have h1 : ¬(p.i < 1 ∨ 5 < p.i) := by omega
  have h2 : ¬(q.i < 1 ∨ 5 < q.i) := by omega
  have h3 : ¬(r.i < 1 ∨ 5 < r.i) := by omega
  have z0 : ([] : List Prt).length ≠ 3 := by decide
  have z1 : ([p] : List Prt).length ≠ 3 := by simp
  have z2 : ([p, q] : List Prt).length ≠ 3 := by simp
  simp only [List.cons_append,List.nil_append]
  rw [pick3, if_neg z0, if_neg h1, e1, if_neg (by decide), if_neg (by simpa using b1)]
  rw [List.nil_append, pick3, if_neg z1, if_neg h2, e2, if_neg (by decide), if_neg (by simpa using b2)]
  rw [List.cons_append, List.nil_append, pick3, if_neg z2, if_neg h3, e3, if_neg (by decide), if_neg (by simpa using b3)]
  rw [List.cons_append, List.cons_append, List.nil_append]
  cases l with
  | nil => rw [pick3]; rfl
  | cons x l => rw [pick3]; rfl
theorem joinR_three {p q r : Prt} {size : Nat} (hs : size ≤ 65536) (g : GoodP (rowsN size) [p, q, r]) (l : List Prt) : joinR ([p, q, r] ++ l) size = (joinP p q r (rowsN size) size, 0) := by
  have h := pick3_three (n := rowsI size) (by rw [rowsI_nat]; exact g) l
  unfold joinR
  rw [if_neg (by omega), h]
  simp only [Int.toNat_natCast]
def prtOf (d : List UInt8) (j : Nat) : Prt := ⟨(j : Int) + 1, partOf d (u8n (j + 1))⟩
theorem u8_prt (d : List UInt8) (j : Nat) : u8 (prtOf d j).i = u8n (j + 1) := by
  unfold u8 prtOf u8n
  congr 1
theorem u8n_ne {a b : Nat} (ha : a < 256) (hb : b < 256) (h : a ≠ b) : u8n a ≠ u8n b := fun e => h (by
  have e1 := B8_u8n a ha
  have e2 := B8_u8n b hb
  rw [e] at e1
  omega)
theorem good_prts (d : List UInt8) {a b c : Nat} (ha : a < 5) (hb : b < 5) (hc : c < 5) (h1 : a ≠ b) (h2 : a ≠ c) (h3 : b ≠ c) : GoodP (rowsN d.length) [prtOf d a, prtOf d b, prtOf d c] := by
  refine ⟨?_, fun p hp => ?_, fun p hp => ?_⟩
  · simp only [List.map_cons,List.map_nil,prtOf,List.nodup_cons,List.mem_cons,List.not_mem_nil,or_false,not_or]
    refine ⟨⟨by omega, by omega⟩, by omega, not_false, List.nodup_nil⟩
  · simp only [List.mem_cons,List.not_mem_nil,or_false] at hp
    rcases hp with rfl | rfl | rfl <;> (simp only [prtOf]; omega)
  · simp only [List.mem_cons,List.not_mem_nil,or_false] at hp
    rcases hp with rfl | rfl | rfl <;> (simp only [prtOf,partOf_len])
theorem join_text (d : List UInt8) {a b c : Nat} (ha : a < 5) (hb : b < 5) (hc : c < 5) (h1 : a ≠ b) (h2 : a ≠ c) (h3 : b ≠ c) : joinP (prtOf d a) (prtOf d b) (prtOf d c) (rowsN d.length) d.length = d := by
  have g1 := u8n_ne (a := a + 1) (b := b + 1) (by omega) (by omega) (by omega)
  have g2 := u8n_ne (a := a + 1) (b := c + 1) (by omega) (by omega) (by omega)
  have g3 := u8n_ne (a := b + 1) (b := c + 1) (by omega) (by omega) (by omega)
  unfold joinP
  rw [u8_prt, u8_prt, u8_prt]
  simp only [prtOf]
  rw [line_parts d g1 g2 g3, line_parts d g1 g2 g3, line_parts d g1 g2 g3, parts_text]
theorem join_bent (d : List UInt8) {a b c : Nat} (ha : a < 5) (hb : b < 5) (hc : c < 5) (h1 : a ≠ b) (h2 : a ≠ c) (h3 : b ≠ c) {x : List UInt8} (hx : x.length = rowsN d.length) (hn : 3 * rowsN d.length = d.length) (hne : x ≠ partOf d (u8n (b + 1))) : joinP (prtOf d a) ⟨(b : Int) + 1, x⟩ (prtOf d c) (rowsN d.length) d.length ≠ d := by
  intro e
  have g1 := u8n_ne (a := a + 1) (b := b + 1) (by omega) (by omega) (by omega)
  have g2 := u8n_ne (a := a + 1) (b := c + 1) (by omega) (by omega) (by omega)
  have g3 := u8n_ne (a := b + 1) (b := c + 1) (by omega) (by omega) (by omega)
  have eb : u8 ((b : Int) + 1) = u8n (b + 1) := u8_prt d b
  unfold joinP at e
  rw [u8_prt, u8_prt, eb] at e
  simp only [prtOf] at e
  generalize u8n (a + 1) = X at *
  generalize u8n (b + 1) = Y at *
  generalize u8n (c + 1) = Z at *
  have hp := parts_text d
  rw [List.take_of_length_le (by simp only [List.length_append,lineP_len]; omega)] at e
  rw [List.take_of_length_le (by simp only [List.length_append,partOf_len]; omega)] at hp
  have e' := e.trans hp.symm
  obtain ⟨e12, e3⟩ := List.append_inj e' (by simp only [List.length_append,lineP_len,partOf_len])
  obtain ⟨e1, e2⟩ := List.append_inj e12 (by rw [lineP_len, partOf_len])
  refine hne (Gf.ext_nth (by rw [hx, partOf_len]) fun i hi => ?_)
  rw [hx] at hi
  have q1 := congrArg (fun l => nth l i) e1
  have q2 := congrArg (fun l => nth l i) e2
  have q3 := congrArg (fun l => nth l i) e3
  try dsimp only at q1 q2 q3
  rw [lineP_nth _ _ _ _ _ _ _ _ _ hi] at q1 q2 q3
  obtain ⟨r1, r2, r3⟩ := lag3_at d12 d13 d23 (nth (third d 0) i) (nth (third d 1) i) (nth (third d 2) i)
  have hY := (lag3_at g1 g2 g3 (nth (partOf d X) i) (nth x i) (nth (partOf d Z) i)).2.1
  rw [← hY, ← lag3_again g1 g2 g3 d12 d13 d23, q1, q2, q3, partOf_nth d 1 i hi, partOf_nth d 2 i hi, partOf_nth d 3 i hi, r1, r2, r3]
  exact (partOf_nth d _ i hi).symm
theorem bent_ne {l : List UInt8} {i : Nat} (hi : i < l.length) {v : UInt8} (hv : v ≠ 0) : l.set i (nth l i ^^^ v) ≠ l := by
  intro e
  have h1 := congrArg (fun l => nth l i) e
  try dsimp only at h1
  rw [nth_lt (by simpa using hi), List.getElem_set_self] at h1
  refine hv ?_
  have : nth l i ^^^ (nth l i ^^^ v) = nth l i ^^^ nth l i := by rw [h1]
  rwa [← UInt8.xor_assoc, UInt8.xor_self, UInt8.zero_xor] at this
theorem sjoin_bent (d : List UInt8) (hd : d.length ≤ 3000) {a b c : Nat} (ha : a < 5) (hb : b < 5) (hc : c < 5) (h1 : a ≠ b) (h2 : a ≠ c) (h3 : b ≠ c) {x : List UInt8} (hx : x.length = rowsN d.length) (hn : 3 * rowsN d.length = d.length) (hne : x ≠ partOf d (u8n (b + 1))) :
    ∃ s, s ≠ d ∧ Spec Try.prog 16 [encPrts [prtOf d a, ⟨(b : Int) + 1, x⟩, prtOf d c], .int .i64 d.length] (.tup [.str s, .int .i64 0]) := by
  have hr : rowsN d.length ≤ 3000 := by unfold rowsN; omega
  have h := sjoin_spec [prtOf d a, ⟨(b : Int) + 1, x⟩, prtOf d c] (by simp) (fun p hp => by
    simp only [List.mem_cons,List.not_mem_nil,or_false] at hp
    rcases hp with rfl | rfl | rfl
    · simp only [prtOf,partOf_len]; omega
    · simp only [hx]; omega
    · simp only [prtOf,partOf_len]; omega) d.length (by unfold i64P; omega)
  have g := good_prts d ha hb hc h1 h2 h3
  have g' : GoodP (rowsN d.length) [prtOf d a, ⟨(b : Int) + 1, x⟩, prtOf d c] := by
    refine ⟨g.nd, fun p hp => ?_, fun p hp => ?_⟩
    · simp only [List.mem_cons,List.not_mem_nil,or_false] at hp
      rcases hp with rfl | rfl | rfl
      · exact g.rg _ (by simp)
      · exact g.rg (prtOf d b) (by simp)
      · exact g.rg _ (by simp)
    · simp only [List.mem_cons,List.not_mem_nil,or_false] at hp
      rcases hp with rfl | rfl | rfl
      · exact g.ln _ (by simp)
      · simp only [hx]
      · exact g.ln _ (by simp)
  have e := joinR_three (size := d.length) (by omega) g' []
  rw [List.append_nil] at e
  rw [e] at h
  exact ⟨_, join_bent d ha hb hc h1 h2 h3 hx hn hne, h⟩
theorem sjoin_text (d : List UInt8) (hd : d.length ≤ 3000) {a b c : Nat} (ha : a < 5) (hb : b < 5) (hc : c < 5) (h1 : a ≠ b) (h2 : a ≠ c) (h3 : b ≠ c) (l : List Prt) (hl : l.length < 2 ^ 30) (hld' : ∀ p ∈ l, p.d.length ≤ 2 ^ 47) :
    Spec Try.prog 16 [encPrts ([prtOf d a, prtOf d b, prtOf d c] ++ l), .int .i64 d.length] (.tup [.str d, .int .i64 0]) := by
  have hr : rowsN d.length ≤ 3000 := by unfold rowsN; omega
  have h := sjoin_spec ([prtOf d a, prtOf d b, prtOf d c] ++ l) (by simp only [List.length_append,List.length_cons,List.length_nil]; omega) (fun p hp => by
    rcases List.mem_append.1 hp with hp | hp
    · simp only [List.mem_cons,List.not_mem_nil,or_false] at hp
      rcases hp with rfl | rfl | rfl <;> (simp only [prtOf,partOf_len]; omega)
    · exact hld' p hp) d.length (by unfold i64P; omega)
  rw [joinR_three (by omega) (good_prts d ha hb hc h1 h2 h3), join_text d ha hb hc h1 h2 h3] at h
  exact h
end Go.Proofs.Ytoibnghkcdopeaa.V
end
section
namespace Go.Proofs.Ytoibnghkcdopeaa.V
open Go Go.Proofs.Ytoibnghkcdopeaa Go.Proofs.Ytoibnghkcdopeaa.Gf
set_option maxRecDepth 100000
def znB5 := And.intro @nls_u <| And.intro @nls_prt <| And.intro @nl_prt <| True.intro
set_option maxHeartbeats 4000000
theorem cut_getP (d : List UInt8) (p : Nat) (h : p < 5) : ((cutS d).map encPrt)[p]? = some (.agg [.int .i64 (p + 1), .str (partOf d (u8n (p + 1)))]) := cut_get d p h
theorem bent_law (x0 x1 : List UInt8) (x2 : Int) (g0 : good .str x0) (g1 : good (.arr 2 .u8) x1) (g2 : good (.int .u16) x2) (l0 : Ty.lite .str x0) (l1 : Ty.lite (.arr 2 .u8) x1) (l2 : Ty.lite (.int .u16) x2) :
    Spec Try.prog 8 [toV .str x0, toV (.arr 2 .u8) x1, toV (.int .u16) x2] (.bool true) := by
  have hd47 : x0.length ≤ 2 ^ 47 := Nat.le_trans (show x0.length ≤ reachBytes from l0) reach47
  have h2 : x1.length = 2 := g1.1
  obtain ⟨p0, p1, rfl⟩ : ∃ p q, x1 = [p, q] := by
    match x1, h2 with
    | [p, q], _ => exact ⟨p, q, rfl⟩
  have hx2 : 0 ≤ x2 ∧ x2 ≤ 65535 := bounds_u16 g2
  show Spec Try.prog 8 [.str x0, .agg [.int .u8 (B8 p0), .int .u8 (B8 p1)], .int .u16 x2] (.bool true)
  clear g0 g1 g2 l0 l1 l2 h2
  generalize x0 = d at *
  have hF := fixed7_spec
  have hp0 := B8_lo p0
  have hp1 := B8_lo p1
  have hp0' := B8_hi p0
  have hp1' := B8_hi p1
  have hPs : Has (.arr 2 .cell) (.agg [.int .u8 (B8 p0), .int .u8 (B8 p1)]) := by simp [Has, VV.leaf]
  refine spec_ok Try.func8 rfl rfl (by kernel_rfl) (k := 3) rfl (by decide) ?_
  by_cases hg : d.length ≤ 3000 ∧ d.length ≠ 0 ∧ d.length % 3 = 0
  · obtain ⟨hl, hl0, hl3⟩ := hg
    obtain ⟨k, hk⟩ : ∃ k, k = p0.toNat % 5 := ⟨_, rfl⟩
    have hk5 : k < 5 := by omega
    have tk : (B8 p0).tmod 5 = (k : Int) := by rw [Int.tmod_eq_emod_of_nonneg hp0, hk]; unfold B8; omega
    have ek : B8 p0 % 5 = (k : Int) := by rw [hk]; unfold B8; omega
    have hA := cut_spec d (by omega)
    have hgA := cut_getP d
    have hm : 3 * rowsN d.length = d.length := by unfold rowsN; omega
    have lA : ∀ p, (partOf d p).length = rowsN d.length := fun p => partOf_len d p
    have l5A : (cutS d).length = 5 := rfl
    obtain ⟨m, hmm⟩ : ∃ m, m = rowsN d.length := ⟨_, rfl⟩
    obtain ⟨j, hj⟩ : ∃ j, j = x2.toNat % m := ⟨_, rfl⟩
    have hm0 : 0 < m := by omega
    have hjm : j < m := by rw [hj]; exact Nat.mod_lt _ hm0
    have ej : x2 % (m : Int) = (j : Int) := by
      rw [hj]; push_cast
      rw [Int.toNat_of_nonneg hx2.1]
    have tj : x2.tmod (m : Int) = (j : Int) := by rw [Int.tmod_eq_emod_of_nonneg hx2.1, ej]
    obtain ⟨v, hv⟩ : ∃ v : UInt8, v = UInt8.ofNat (1 + p1.toNat % 255) := ⟨_, rfl⟩
    have bv : B8 v = 1 + B8 p1 % 255 := by
      rw [hv, B8_of _ (by omega)]; unfold B8; omega
    have bv' : 1 + (B8 p1).tmod 255 = B8 v := by rw [Int.tmod_eq_emod_of_nonneg hp1, bv]
    have hv0 : v ≠ 0 := fun e => by
      have : B8 v = 0 := by rw [e]; rfl
      omega
    obtain ⟨u, hu⟩ : ∃ u, u = u8n (k + 1) := ⟨_, rfl⟩
    obtain ⟨pk, hpk⟩ : ∃ l, l = partOf d u := ⟨_, rfl⟩
    have lpk : pk.length = m := by rw [hpk, hmm]; exact lA _
    obtain ⟨x, hx⟩ : ∃ x, x = pk.set j (nth pk j ^^^ v) := ⟨_, rfl⟩
    have hxl : x.length = m := by rw [hx, List.length_set]; exact lpk
    have hxe : (pk.map encU).set j (.int .u8 (B8 (nth pk j ^^^ v))) = x.map encU := by
      rw [hx, List.map_set]; rfl
    have hxne : x ≠ partOf d (u8n (k + 1)) := by rw [← hu, ← hpk, hx]; exact bent_ne (by omega) hv0
    have hbx := bytesOf_u x
    have pos : ∀ a : Nat, 0 < a → a < 5 → ∃ b : Nat, b < 5 ∧ ((k : Int) + a).tmod 5 = (b : Int) ∧ ((k : Int) + a) % 5 = (b : Int) ∧ b = (k + a) % 5 := fun a h1 h2 =>
      ⟨(k + a) % 5, Nat.mod_lt _ (by decide), by rw [Int.tmod_eq_emod_of_nonneg (by omega)]; omega, by omega, rfl⟩
    obtain ⟨k1, hk1, t1, m1, e1⟩ := pos 1 (by decide) (by decide)
    obtain ⟨k2, hk2, t2, m2, e2⟩ := pos 2 (by decide) (by decide)
    obtain ⟨k3, hk3, t3, m3, e3⟩ := pos 3 (by decide) (by decide)
    obtain ⟨k4, hk4, t4, m4, e4⟩ := pos 4 (by decide) (by decide)
    obtain ⟨s, hsd, J1⟩ := sjoin_bent d hl hk1 hk5 hk2 (by omega) (by omega) (by omega) (x := x) (by rw [hxl, hmm]) hm hxne
    have J2 := sjoin_text d hl hk3 hk1 hk4 (by omega) (by omega) (by omega) [] (by simp) (fun p hp => by cases hp)
    have gk := hgA k hk5
    have g1 := hgA k1 hk1
    have g2 := hgA k2 hk2
    have g3 := hgA k3 hk3
    have g4 := hgA k4 hk4
    rw [← hu, ← hpk] at gk
    simp only [encPrts,List.map_append,List.append_nil,List.map_cons,List.map_nil,encPrt,prtOf] at J1 J2
    have l1 := lA (u8n (k1 + 1))
    have l2 := lA (u8n (k2 + 1))
    have l3 := lA (u8n (k3 + 1))
    have l4 := lA (u8n (k4 + 1))
    rw [← hmm] at l1 l2 l3 l4 hm
    generalize partOf d (u8n (k1 + 1)) = P1 at *
    generalize partOf d (u8n (k2 + 1)) = P2 at *
    generalize partOf d (u8n (k3 + 1)) = P3 at *
    generalize partOf d (u8n (k4 + 1)) = P4 at *
    generalize cutS d = A at hA hgA l5A gk g1 g2 g3 g4
    have hf : ∀ (a : Int) (s : List UInt8), Has prtSh (.agg [.int .i64 a, .str s]) := fun a s => by simp [Has, HasL, VV.leaf]
    clear hgA lA pos hpk hxne hv hj hk e1 e2 e3 e4 hu hx
    have dk := getD_of gk
    have d1 := getD_of g1
    have d2 := getD_of g2
    have d3 := getD_of g3
    have d4 := getD_of g4
    have c1 : ((1 : Nat) : Int) = 1 := rfl
    have c2 : ((2 : Nat) : Int) = 2 := rfl
    have c3 : ((3 : Nat) : Int) = 3 := rfl
    have c4 : ((4 : Nat) : Int) = 4 := rfl
    rw [c1] at m1
    rw [c2] at m2
    rw [c3] at m3
    rw [c4] at m4
    repeat' (first|(with_reducible first|refine yrl (by constructor) ?_|refine jk (fun M hM=>?_)|(refine hM _ ?_;clear hM M)|refine xb3 (by decide) ?_|refine yqa (by assumption) ?_ ?_|refine yqb (by assumption) ?_ ?_)|((with_reducible refine je ?_)<;>(first|rfl|assumption|(simp only [znl,znB5];(first|done|fail))))|(with_reducible refine jf (by (simp only [↓reduceIte,zlk,Nat.reduceEqDiff,reduceCtorEq]);exact rfl) ?_)|((with_reducible first|refine jg (fun hc=>?_) (fun hc=>?_)|refine jh (fun hc=>?_) (fun hc=>?_))<;>(try simp (disch:=omega) only [zhb] at hc)<;>(try (exfalso;omega))<;>(try subst hc))|(with_reducible refine ji (by omega) ?_)|(simp (config := { maxSteps := 400000 }) only [↓jt,↓reduceIte,zvs,reduceCtorEq,Nat.reduceEqDiff,Nat.reduceAdd,Nat.reduceLeDiff,Nat.reduceMul,Int.reduceBNe,Int.reduceBEq,Int.reduceEq,Int.reduceNe,Int.reduceLT,Int.reduceLE,Int.reduceGT,Int.reduceGE,Int.reduceNeg,Int.reduceToNat,Nat.reduceLT,Nat.reduceSub,tab,hPs,ek,ej,dk,d1,d2,d3,d4,m1,m2,m3,m4,lpk,l5A,Try.results8,jTA])|(simp (disch:=omega) only [ziw]))
    all_goals (try (exfalso; omega))
    have hBj : encB (pk.getD j 0) = .int .u8 (B8 (nth pk j)) := rfl
    have hxB : (pk.map encB).set j (.int .u8 (B8 (nth pk j ^^^ v))) = x.map encB := hxe
    have htx : List.take m (x.map encB) = x.map encB := List.take_of_length_le (by rw [List.length_map]; omega)
    refine ok_drawC 12 (by kernel_rfl) (by decide +kernel) (by intro m hm; simp only [upd_ap,rows_cons,rows_nil]; (repeat (first | rfl | rw [if_neg (by omega)]))) (fun M hM => ?_); simp only [List.take_succ_cons,List.take_zero,List.drop_succ_cons,List.drop_zero]
    repeat' (first|(with_reducible first|refine yrl (by constructor) ?_|refine jk (fun M hM=>?_)|(refine hM _ ?_;clear hM M)|refine xb3 (by decide) ?_|refine yqa (by assumption) ?_ ?_|refine yqb (by assumption) ?_ ?_)|((with_reducible refine je ?_)<;>(first|rfl|assumption|(simp only [znl,znB5];(first|done|fail))))|(with_reducible refine jf (by (simp only [↓reduceIte,zlk,Nat.reduceEqDiff,reduceCtorEq]);exact rfl) ?_)|((with_reducible first|refine jg (fun hc=>?_) (fun hc=>?_)|refine jh (fun hc=>?_) (fun hc=>?_))<;>(try simp (disch:=omega) only [zhb] at hc)<;>(try (exfalso;omega))<;>(try subst hc))|(with_reducible refine ji (by omega) ?_)|(simp (config := { maxSteps := 400000 }) only [↓jt,↓reduceIte,zvs,reduceCtorEq,Nat.reduceEqDiff,Nat.reduceAdd,Nat.reduceLeDiff,Nat.reduceMul,Int.reduceBNe,Int.reduceBEq,Int.reduceEq,Int.reduceNe,Int.reduceLT,Int.reduceLE,Int.reduceGT,Int.reduceGE,Int.reduceNeg,Int.reduceToNat,Nat.reduceLT,Nat.reduceSub,tab,hPs,hBj,hxB,htx,← bv,ek,ej,dk,d1,d2,d3,d4,m1,m2,m3,m4,lpk,l5A,nthB,bits_xor8,Int.toNat_natCast,Try.results8,jTA])|(simp (disch:=omega) only [ziw]))
    all_goals (try (exfalso; omega))
    refine ok_drawC 21 (by kernel_rfl) (by decide +kernel) (by intro m hm; simp only [upd_ap,rows_cons,rows_nil]; (repeat (first | rfl | rw [if_neg (by omega)]))) (fun M hM => ?_); simp only [List.take_succ_cons,List.take_zero,List.drop_succ_cons,List.drop_zero]
    repeat' (first|(with_reducible first|refine yrl (by constructor) ?_|refine jk (fun M hM=>?_)|(refine hM _ ?_;clear hM M)|refine xb3 (by decide) ?_|refine yqa (by assumption) ?_ ?_|refine yqb (by assumption) ?_ ?_)|((with_reducible refine je ?_)<;>(first|rfl|assumption|(simp only [znl,znB5];(first|done|fail))))|(with_reducible refine jf (by (simp only [↓reduceIte,zlk,Nat.reduceEqDiff,reduceCtorEq]);exact rfl) ?_)|((with_reducible first|refine jg (fun hc=>?_) (fun hc=>?_)|refine jh (fun hc=>?_) (fun hc=>?_))<;>(try simp (disch:=omega) only [zhb] at hc)<;>(try (exfalso;omega))<;>(try subst hc))|(with_reducible refine ji (by omega) ?_)|(simp (config := { maxSteps := 400000 }) only [↓jt,↓reduceIte,zvs,reduceCtorEq,Nat.reduceEqDiff,Nat.reduceAdd,Nat.reduceLeDiff,Nat.reduceMul,Int.reduceBNe,Int.reduceBEq,Int.reduceEq,Int.reduceNe,Int.reduceLT,Int.reduceLE,Int.reduceGT,Int.reduceGE,Int.reduceNeg,Int.reduceToNat,Nat.reduceLT,Nat.reduceSub,tab,ek,ej,dk,d1,d2,d3,d4,m1,m2,m3,m4,hf,l5A,Int.toNat_natCast,Try.results8,jTA])|(simp (disch:=omega) only [ziw]))
    all_goals (try (exfalso; omega))
    have w1 : IntKind.i64.wrap ((k : Int) + 1) = (k : Int) + 1 := by simp (disch := omega) only [IntWalk.i64_in]
    have w2 : IntKind.i64.wrap ((k : Int) + 2) = (k : Int) + 2 := by simp (disch := omega) only [IntWalk.i64_in]
    have w3 : IntKind.i64.wrap ((k : Int) + 3) = (k : Int) + 3 := by simp (disch := omega) only [IntWalk.i64_in]
    have w4 : IntKind.i64.wrap ((k : Int) + 4) = (k : Int) + 4 := by simp (disch := omega) only [IntWalk.i64_in]
    refine jb (hcall_read (J1) rfl (by repeat (first | exact rdl_nil | refine rdl_cons ?_ ?_ | exact Rd.refl _ _ (by first|rfl|assumption|(simp only [znl,znB5];(first|done|fail))) | (refine rd_own (by (simp only [↓reduceIte,zlk,Nat.reduceEqDiff,reduceCtorEq,setParts,rep_one,rep_two,rep_three,List.set_cons_zero,List.set_cons_succ,List.map_cons,List.map_nil]); exact rfl) (by first | rfl | (simp; done) | (simp; omega)) rfl (by first|rfl|assumption|(simp only [znl,znB5];(first|done|fail)))) | (refine rd_pre (by (simp only [↓reduceIte,zlk,Nat.reduceEqDiff,reduceCtorEq,setParts,rep_one,rep_two,rep_three,List.set_cons_zero,List.set_cons_succ,List.map_cons,List.map_nil]); exact rfl) (by first | (simp; done) | (simp; omega)) (by first | rfl | (simp; done)) (by first|rfl|assumption|(simp only [znl,znB5];(first|done|fail)))) | exact rd_nil | refine (rd_a _ _ _).mpr ?_)) rfl) ?_
    repeat' (first|(with_reducible first|refine yrl (by constructor) ?_|refine jk (fun M hM=>?_)|(refine hM _ ?_;clear hM M)|refine xb3 (by decide) ?_|refine yqa (by assumption) ?_ ?_|refine yqb (by assumption) ?_ ?_)|((with_reducible refine je ?_)<;>(first|rfl|assumption|(simp only [znl,znB5];(first|done|fail))))|(with_reducible refine jf (by (simp only [↓reduceIte,zlk,Nat.reduceEqDiff,reduceCtorEq]);exact rfl) ?_)|((with_reducible first|refine jg (fun hc=>?_) (fun hc=>?_)|refine jh (fun hc=>?_) (fun hc=>?_))<;>(try simp (disch:=omega) only [zhb] at hc)<;>(try (exfalso;omega))<;>(try subst hc))|(with_reducible refine ji (by omega) ?_)|(simp (config := { maxSteps := 400000 }) only [↓jt,↓reduceIte,zvs,reduceCtorEq,Nat.reduceEqDiff,Nat.reduceAdd,Nat.reduceLeDiff,Nat.reduceMul,Int.reduceBNe,Int.reduceBEq,Int.reduceEq,Int.reduceNe,Int.reduceLT,Int.reduceLE,Int.reduceGT,Int.reduceGE,Int.reduceNeg,Int.reduceToNat,Nat.reduceLT,Nat.reduceSub,tab,ek,ej,dk,d1,d2,d3,d4,m1,m2,m3,m4,hf,l5A,Int.toNat_natCast,Try.results8,jTA])|(simp (disch:=omega) only [ziw]))
    all_goals (try (exfalso; omega))
    refine ok_drawC 26 (by kernel_rfl) (by decide +kernel) (by intro m hm; simp only [upd_ap,rows_cons,rows_nil]; (repeat (first | rfl | rw [if_neg (by omega)]))) (fun M hM => ?_); simp only [List.take_succ_cons,List.take_zero,List.drop_succ_cons,List.drop_zero]
    repeat' (first|(with_reducible first|refine yrl (by constructor) ?_|refine jk (fun M hM=>?_)|(refine hM _ ?_;clear hM M)|refine xb3 (by decide) ?_|refine yqa (by assumption) ?_ ?_|refine yqb (by assumption) ?_ ?_)|((with_reducible refine je ?_)<;>(first|rfl|assumption|(simp only [znl,znB5];(first|done|fail))))|(with_reducible refine jf (by (simp only [↓reduceIte,zlk,Nat.reduceEqDiff,reduceCtorEq]);exact rfl) ?_)|((with_reducible first|refine jg (fun hc=>?_) (fun hc=>?_)|refine jh (fun hc=>?_) (fun hc=>?_))<;>(try simp (disch:=omega) only [zhb] at hc)<;>(try (exfalso;omega))<;>(try subst hc))|(with_reducible refine ji (by omega) ?_)|(simp (config := { maxSteps := 400000 }) only [↓jt,↓reduceIte,zvs,reduceCtorEq,Nat.reduceEqDiff,Nat.reduceAdd,Nat.reduceLeDiff,Nat.reduceMul,Int.reduceBNe,Int.reduceBEq,Int.reduceEq,Int.reduceNe,Int.reduceLT,Int.reduceLE,Int.reduceGT,Int.reduceGE,Int.reduceNeg,Int.reduceToNat,Nat.reduceLT,Nat.reduceSub,tab,ek,ej,dk,d1,d2,d3,d4,m1,m2,m3,m4,hf,l5A,Int.toNat_natCast,Try.results8,jTA])|(simp (disch:=omega) only [ziw]))
    all_goals (try (exfalso; omega))
    refine jb (hcall_read (J2) rfl (by repeat (first | exact rdl_nil | refine rdl_cons ?_ ?_ | exact Rd.refl _ _ (by first|rfl|assumption|(simp only [znl,znB5];(first|done|fail))) | (refine rd_own (by (simp only [↓reduceIte,zlk,Nat.reduceEqDiff,reduceCtorEq,setParts,rep_one,rep_two,rep_three,List.set_cons_zero,List.set_cons_succ,List.map_cons,List.map_nil]); exact rfl) (by first | rfl | (simp; done) | (simp; omega)) rfl (by first|rfl|assumption|(simp only [znl,znB5];(first|done|fail)))) | (refine rd_pre (by (simp only [↓reduceIte,zlk,Nat.reduceEqDiff,reduceCtorEq,setParts,rep_one,rep_two,rep_three,List.set_cons_zero,List.set_cons_succ,List.map_cons,List.map_nil]); exact rfl) (by first | (simp; done) | (simp; omega)) (by first | rfl | (simp; done)) (by first|rfl|assumption|(simp only [znl,znB5];(first|done|fail)))) | exact rd_nil | refine (rd_a _ _ _).mpr ?_)) rfl) ?_
    repeat' (first|(with_reducible first|refine yrl (by constructor) ?_|refine jk (fun M hM=>?_)|(refine hM _ ?_;clear hM M)|refine xb3 (by decide) ?_|refine yqa (by assumption) ?_ ?_|refine yqb (by assumption) ?_ ?_)|((with_reducible refine je ?_)<;>(first|rfl|assumption|(simp only [znl,znB5];(first|done|fail))))|(with_reducible refine jf (by (simp only [↓reduceIte,zlk,Nat.reduceEqDiff,reduceCtorEq]);exact rfl) ?_)|((with_reducible first|refine jg (fun hc=>?_) (fun hc=>?_)|refine jh (fun hc=>?_) (fun hc=>?_))<;>(try simp (disch:=omega) only [zhb] at hc)<;>(try (exfalso;omega))<;>(try subst hc))|(with_reducible refine ji (by omega) ?_)|(simp (config := { maxSteps := 400000 }) only [↓jt,↓reduceIte,zvs,reduceCtorEq,Nat.reduceEqDiff,Nat.reduceAdd,Nat.reduceLeDiff,Nat.reduceMul,Int.reduceBNe,Int.reduceBEq,Int.reduceEq,Int.reduceNe,Int.reduceLT,Int.reduceLE,Int.reduceGT,Int.reduceGE,Int.reduceNeg,Int.reduceToNat,Nat.reduceLT,Nat.reduceSub,tab,ek,ej,dk,d1,d2,d3,d4,m1,m2,m3,m4,hf,l5A,Int.toNat_natCast,Try.results8,jTA])|(simp (disch:=omega) only [ziw]))
    all_goals first
      | (exfalso; omega)
      | (simp only [zrds]; done)
      | exact absurd rfl hsd
      | exact absurd (by assumption) hsd
  · repeat' (first|(with_reducible first|refine yrl (by constructor) ?_|refine jk (fun M hM=>?_)|(refine hM _ ?_;clear hM M)|refine xb3 (by decide) ?_|refine yqa (by assumption) ?_ ?_|refine yqb (by assumption) ?_ ?_)|((with_reducible refine je ?_)<;>(first|rfl|assumption|(simp only [znl,znB5];(first|done|fail))))|(with_reducible refine jf (by (simp only [↓reduceIte,zlk,Nat.reduceEqDiff,reduceCtorEq]);exact rfl) ?_)|((with_reducible first|refine jg (fun hc=>?_) (fun hc=>?_)|refine jh (fun hc=>?_) (fun hc=>?_))<;>(try simp (disch:=omega) only [zhb] at hc)<;>(try (exfalso;omega))<;>(try subst hc))|(with_reducible refine ji (by omega) ?_)|(simp (config := { maxSteps := 400000 }) only [↓jt,↓reduceIte,zvs,reduceCtorEq,Nat.reduceEqDiff,Nat.reduceAdd,Nat.reduceLeDiff,Nat.reduceMul,Int.reduceBNe,Int.reduceBEq,Int.reduceEq,Int.reduceNe,Int.reduceLT,Int.reduceLE,Int.reduceGT,Int.reduceGE,Int.reduceNeg,Int.reduceToNat,Nat.reduceLT,Nat.reduceSub,tab,hPs,Try.results8,jTA])|(simp (disch:=omega) only [ziw]))
    all_goals first
      | (exfalso; omega)
      | (simp only [zrds]; done)
end Go.Proofs.Ytoibnghkcdopeaa.V
end
