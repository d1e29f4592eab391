/-
  Parts of the proof of ParityThree: A9, B1, B2, B4, Vkeep, B6.
  Conditions: none.
-/
import Derived.Test.YtoibnghkcdopeaaWParityThree06
import Derived.Test.YtoibnghkcdopeaaWParityThree03
import Derived.Test.YtoibnghkcdopeaaWParityThree04
set_option linter.unusedVariables false
set_option linter.unusedSimpArgs false
set_option linter.unusedSectionVars false
set_option linter.defProp false
section
namespace Go.Proofs.Ytoibnghkcdopeaa.V
open Go Go.RowKit Go.Proofs.Ytoibnghkcdopeaa Go.Proofs.Ytoibnghkcdopeaa.Gf
set_option maxRecDepth 100000
set_option maxHeartbeats 4000000
def padXr (acc : List Prt) : List VV := acc.map (fun p => .int .u8 p.i) ++ List.replicate (3 - acc.length) (.int .u8 0)
def padFr (acc : List Prt) : List VV := acc.map (fun p => .str p.d) ++ List.replicate (3 - acc.length) (.str [])
def metPr (acc : List Prt) : List VV := (List.range 6).map fun i : Nat => .bool (hasI acc i)
noncomputable def padX : List Prt → List VV := Classical.choose (⟨padXr, rfl⟩ : ∃ f : List Prt → List VV, f = padXr)
noncomputable def padF : List Prt → List VV := Classical.choose (⟨padFr, rfl⟩ : ∃ f : List Prt → List VV, f = padFr)
noncomputable def metP : List Prt → List VV := Classical.choose (⟨metPr, rfl⟩ : ∃ f : List Prt → List VV, f = metPr)
theorem padX_eq : padX = padXr := Classical.choose_spec (⟨padXr, rfl⟩ : ∃ f : List Prt → List VV, f = padXr)
theorem padF_eq : padF = padFr := Classical.choose_spec (⟨padFr, rfl⟩ : ∃ f : List Prt → List VV, f = padFr)
theorem metP_eq : metP = metPr := Classical.choose_spec (⟨metPr, rfl⟩ : ∃ f : List Prt → List VV, f = metPr)
theorem nls_padX (acc : List Prt) : nls (padX acc) = true := by
  rw [padX_eq, nls_iff]
  intro v hv
  rcases List.mem_append.1 hv with h | h
  · obtain ⟨p, _, rfl⟩ := List.mem_map.1 h; rfl
  · rw [(List.mem_replicate.1 h).2]; rfl
theorem nls_padF (acc : List Prt) : nls (padF acc) = true := by
  rw [padF_eq, nls_iff]
  intro v hv
  rcases List.mem_append.1 hv with h | h
  · obtain ⟨p, _, rfl⟩ := List.mem_map.1 h; rfl
  · rw [(List.mem_replicate.1 h).2]; rfl
theorem nls_metP (acc : List Prt) : nls (metP acc) = true := by
  rw [metP_eq, nls_iff]
  intro v hv
  obtain ⟨p, _, rfl⟩ := List.mem_map.1 hv; rfl
theorem pad_len {α : Type} (f : Prt → α) (z : α) (acc : List Prt) (h : acc.length ≤ 3) : (acc.map f ++ List.replicate (3 - acc.length) z).length = 3 := by simp; omega
theorem pad_set {α : Type} (f : Prt → α) (z : α) (acc : List Prt) (q : Prt) (h : acc.length < 3) : (acc.map f ++ List.replicate (3 - acc.length) z).set acc.length (f q) = (acc ++ [q]).map f ++ List.replicate (3 - (acc ++ [q]).length) z := by
  rw [List.set_append_right _ _ (by simp), List.length_map, Nat.sub_self, show 3 - acc.length = (3 - (acc.length + 1)) + 1 by omega, List.replicate_succ, List.set_cons_zero, List.map_append]
  simp
theorem pad_get {α : Type} (f : Prt → α) (z : α) (acc : List Prt) (h : acc.length < 3) : (acc.map f ++ List.replicate (3 - acc.length) z)[acc.length]? = some z := by
  rw [List.getElem?_append_right (by simp), List.length_map, Nat.sub_self, List.getElem?_replicate, if_pos (by omega)]
theorem metP_get (acc : List Prt) (i : Int) (h : 1 ≤ i ∧ i ≤ 5) : (metP acc)[i.toNat]? = some (.bool (hasI acc i)) := by
  rw [metP_eq]
  unfold metPr
  rw [List.getElem?_map, List.getElem?_range (by omega)]
  simp only [Option.map_some]
  rw [Int.toNat_of_nonneg (by omega)]
theorem metP_set (acc : List Prt) (q : Prt) (h : 1 ≤ q.i ∧ q.i ≤ 5) : (metP acc).set q.i.toNat (.bool true) = metP (acc ++ [q]) := by
  rw [metP_eq]
  unfold metPr
  apply List.ext_getElem (by simp)
  intro k h1 h2
  rw [List.getElem_set]
  simp only [List.getElem_map,List.getElem_range]
  have e : hasI (acc ++ [q]) (k : Int) = (hasI acc k || (q.i == (k : Int))) := by unfold hasI; rw [List.any_append, List.any_cons, List.any_nil, Bool.or_false]
  rw [e]
  split
  · rename_i hk
    rw [beq_iff_eq.2 (by omega : q.i = (k : Int)), Bool.or_true]
  · rename_i hk
    rw [beq_false_of_ne (by omega : q.i ≠ (k : Int)), Bool.or_false]
theorem dstOk74 {l : List Oper} {ds} (h : listOk 74 l = true) : ∀ o ∈ l, ∀ t, o.dst = some t → t < (⟨74, ds⟩ : NN) := fun o ho t ht => by
  have := List.all_eq_true.1 h o ho
  simp only [Bool.and_eq_true] at this
  have := this.1; rw [ht] at this; simpa using this
noncomputable def joinFr (size : Int) (acc : List Prt) : VS := ⟨slots [(1, .int .i64 size), (4, .str []), (5, .int .i64 0), (6, .ptr 0 []), (7, .ptr 1 []), (8, .ptr 2 []), (9, .int .i64 acc.length)], rows [(0, .row (.arr 3 .cell) (.agg (padX acc))), (1, .row (.arr 3 .cell) (.agg (padF acc))), (2, .row (.arr 6 .cell) (.agg (metP acc)))], 3⟩
def joinW (R : List Prt × Int) (n s : Nat) : List UInt8 × Int := match R with
  | ([p, q, r], 0) => (joinP p q r n s, 0)
  | (_, e) => ([], e)
theorem joinW_err {rs : List Prt} {e : Int} {n s : Nat} (h : e ≠ 0) : joinW (rs, e) n s = ([], e) := by
  unfold joinW
  split
  · rename_i h'; injection h' with _ h'; exact absurd h' h
  · rename_i h'; injection h' with _ h'; rw [h']
theorem sjoin_spec (l : List Prt) (hl : l.length < 2 ^ 36) (hd : ∀ p ∈ l, p.d.length ≤ 2 ^ 47) (size : Int) (hs : i64P size) : Spec Try.prog 16 [encPrts l, .int .i64 size] (joinRV (joinR l size)) := by
  obtain ⟨s1, s2⟩ := hs
  by_cases hsz : size < 0 ∨ 65536 < size
  · have e : joinR l size = ([], 2) := by unfold joinR; rw [if_pos hsz]
    rw [e]
    refine spec_ok Try.func16 rfl rfl (by kernel_rfl) (k := 2) rfl (by decide) ?_
    repeat' (first|(with_reducible first|refine yrl (by constructor) ?_|refine jk (fun M hM=>?_)|(refine hM _ ?_;clear hM M)|refine xb3 (by decide) ?_|refine yqa (by assumption) ?_ ?_|refine yqb (by assumption) ?_ ?_)|((with_reducible refine je ?_)<;>(first|rfl|assumption|(simp only [znl,nls_u,nls_prt,nl_prt,nls_padX,nls_padF,nls_metP];(first|done|fail))))|(with_reducible refine jf (by (simp only [↓reduceIte,zlk,Nat.reduceEqDiff,reduceCtorEq]);exact rfl) ?_)|((with_reducible first|refine jg (fun hc=>?_) (fun hc=>?_)|refine jh (fun hc=>?_) (fun hc=>?_))<;>(try simp (disch:=omega) only [zhb] at hc)<;>(try (exfalso;omega))<;>(try subst hc))|(with_reducible refine ji (by omega) ?_)|(simp (config := { maxSteps := 400000 }) only [↓jt,↓reduceIte,zvs,reduceCtorEq,Nat.reduceEqDiff,Nat.reduceAdd,Nat.reduceLeDiff,Nat.reduceMul,Int.reduceBNe,Int.reduceBEq,Int.reduceEq,Int.reduceNe,Int.reduceLT,Int.reduceLE,Int.reduceGT,Int.reduceGE,Int.reduceNeg,Int.reduceToNat,Nat.reduceLT,Nat.reduceSub,tab,Try.results16,jTA])|(simp (disch:=omega) only [ziw]))
    all_goals first
      | (exfalso; omega)
      | (((try simp only [joinRV,List.map_nil]); simp only [zrds]; (repeat' (first | exact rd_nil | exact Rd.refl _ _ (by first|rfl|assumption|(simp only [znl,nls_u,nls_prt,nl_prt,nls_padX,nls_padF,nls_metP];(first|done|fail))) | (refine And.intro ?_ ?_) | (refine rd_own (by (simp only [↓reduceIte,zlk,Nat.reduceEqDiff,reduceCtorEq]); exact rfl) ?_ ?_ ?_) | rfl | assumption | (simp only [znl,nls_u,nls_prt,nl_prt,nls_padX,nls_padF,nls_metP];(first|done|fail)) | (simp; done) | (simp; omega)))); done)
  obtain ⟨s, rfl⟩ := Int.eq_ofNat_of_zero_le (by omega : 0 ≤ size)
  have hR := srows_spec s (by unfold i64P; omega)
  rw [rowsI_nat] at hR
  obtain ⟨n, hn⟩ : ∃ n, n = rowsN s := ⟨_, rfl⟩
  have hnb : s ≤ 3 * n ∧ 3 * n ≤ 65540 := by rw [hn]; unfold rowsN; omega
  rw [← hn] at hR
  have ej : joinR l s = joinW (pick3 n [] l) n s := by unfold joinR; rw [if_neg hsz, rowsI_nat, Int.toNat_natCast, ← hn]; rfl
  obtain ⟨R, hRR⟩ : ∃ R, R = pick3 n [] l := ⟨_, rfl⟩
  rw [← hRR] at ej
  rw [ej]
  clear ej
  intro U w xs ha
  have hSR := sr_enter (fn := Try.f16) (args := [encPrts l, .int .i64 s]) (k := 2) rfl (by decide) (hr_bare U w) ha
  refine callsIn_wide.1 (callsIn_of_wp_marks (n := 5) Try.func16 rfl trivial (wpIn_wide.2 ?_) rfl)
  have hFQ := finQ_marks (P := Try.prog) (fn := Try.f16) (r := joinRV (joinW R n s)) (U := U) (n := 5) (w := w)
  obtain ⟨Q, hQ⟩ : ∃ Q, Q = bodyPostM Fence.wide 5 Try.prog Try.f16 (fun e w' => ∃ x, e = .returned x ∧ Below w.heap.size w w' ∧ VR (.bare fun b => U b ∨ w.heap.size ≤ b) w' (joinRV (joinW R n s)) x) := ⟨_, rfl⟩
  rw [← hQ] at hFQ ⊢
  have h0 : ∀ m, 0 ≤ m → (Names.bare U) m = none := fun _ _ => rfl
  revert hSR
  suffices hC : Cont Try.prog ⟨74, []⟩ w.heap.size (.bare U) w Q _ ⟨argsF 0 [encPrts l, .int .i64 s] (fun _ => .any), fun _ => none, 0⟩ from fun hSR => hC _ _ _ hSR
  refine cont_seqR hFQ h0 (by kernel_rfl) ?_
  repeat' (first|(with_reducible first|refine yrl (by constructor) ?_|refine jk (fun M hM=>?_)|(refine hM _ ?_;clear hM M)|refine xb3 (by decide) ?_|refine yqa (by assumption) ?_ ?_|refine yqb (by assumption) ?_ ?_)|((with_reducible refine je ?_)<;>(first|rfl|assumption|(simp only [znl,nls_u,nls_prt,nl_prt,nls_padX,nls_padF,nls_metP];(first|done|fail))))|(with_reducible refine jf (by (simp only [↓reduceIte,zlk,Nat.reduceEqDiff,reduceCtorEq]);exact rfl) ?_)|((with_reducible first|refine jg (fun hc=>?_) (fun hc=>?_)|refine jh (fun hc=>?_) (fun hc=>?_))<;>(try simp (disch:=omega) only [zhb] at hc)<;>(try (exfalso;omega))<;>(try subst hc))|(with_reducible refine ji (by omega) ?_)|(simp (config := { maxSteps := 400000 }) only [↓jt,↓reduceIte,zvs,reduceCtorEq,Nat.reduceEqDiff,Nat.reduceAdd,Nat.reduceLeDiff,Nat.reduceMul,Int.reduceBNe,Int.reduceBEq,Int.reduceEq,Int.reduceNe,Int.reduceLT,Int.reduceLE,Int.reduceGT,Int.reduceGE,Int.reduceNeg,Int.reduceToNat,Nat.reduceLT,Nat.reduceSub,tab])|(simp (disch:=omega) only [ziw]))
  refine cont_seqR hFQ h0 (by kernel_rfl) ?_
  repeat' (first|(with_reducible first|refine yrl (by constructor) ?_|refine jk (fun M hM=>?_)|(refine hM _ ?_;clear hM M)|refine xb3 (by decide) ?_|refine yqa (by assumption) ?_ ?_|refine yqb (by assumption) ?_ ?_)|((with_reducible refine je ?_)<;>(first|rfl|assumption|(simp only [znl,nls_u,nls_prt,nl_prt,nls_padX,nls_padF,nls_metP];(first|done|fail))))|(with_reducible refine jf (by (simp only [↓reduceIte,zlk,Nat.reduceEqDiff,reduceCtorEq]);exact rfl) ?_)|((with_reducible first|refine jg (fun hc=>?_) (fun hc=>?_)|refine jh (fun hc=>?_) (fun hc=>?_))<;>(try simp (disch:=omega) only [zhb] at hc)<;>(try (exfalso;omega))<;>(try subst hc))|(with_reducible refine ji (by omega) ?_)|(simp (config := { maxSteps := 400000 }) only [↓jt,↓reduceIte,zvs,reduceCtorEq,Nat.reduceEqDiff,Nat.reduceAdd,Nat.reduceLeDiff,Nat.reduceMul,Int.reduceBNe,Int.reduceBEq,Int.reduceEq,Int.reduceNe,Int.reduceLT,Int.reduceLE,Int.reduceGT,Int.reduceGE,Int.reduceNeg,Int.reduceToNat,Nat.reduceLT,Nat.reduceSub,tab])|(simp (disch:=omega) only [ziw]))
  all_goals (try (exfalso; omega))
  refine cont_seqR hFQ h0 (by kernel_rfl) ?_
  repeat' (first|(with_reducible first|refine yrl (by constructor) ?_|refine jk (fun M hM=>?_)|(refine hM _ ?_;clear hM M)|refine xb3 (by decide) ?_|refine yqa (by assumption) ?_ ?_|refine yqb (by assumption) ?_ ?_)|((with_reducible refine je ?_)<;>(first|rfl|assumption|(simp only [znl,nls_u,nls_prt,nl_prt,nls_padX,nls_padF,nls_metP];(first|done|fail))))|(with_reducible refine jf (by (simp only [↓reduceIte,zlk,Nat.reduceEqDiff,reduceCtorEq]);exact rfl) ?_)|((with_reducible first|refine jg (fun hc=>?_) (fun hc=>?_)|refine jh (fun hc=>?_) (fun hc=>?_))<;>(try simp (disch:=omega) only [zhb] at hc)<;>(try (exfalso;omega))<;>(try subst hc))|(with_reducible refine ji (by omega) ?_)|(simp (config := { maxSteps := 400000 }) only [↓jt,↓reduceIte,zvs,reduceCtorEq,Nat.reduceEqDiff,Nat.reduceAdd,Nat.reduceLeDiff,Nat.reduceMul,Int.reduceBNe,Int.reduceBEq,Int.reduceEq,Int.reduceNe,Int.reduceLT,Int.reduceLE,Int.reduceGT,Int.reduceGE,Int.reduceNeg,Int.reduceToNat,Nat.reduceLT,Nat.reduceSub,tab])|(simp (disch:=omega) only [ziw]))
  refine cont_seqR hFQ h0 (by kernel_rfl) ?_
  repeat' (first|(with_reducible first|refine yrl (by constructor) ?_|refine jk (fun M hM=>?_)|(refine hM _ ?_;clear hM M)|refine xb3 (by decide) ?_|refine yqa (by assumption) ?_ ?_|refine yqb (by assumption) ?_ ?_)|((with_reducible refine je ?_)<;>(first|rfl|assumption|(simp only [znl,nls_u,nls_prt,nl_prt,nls_padX,nls_padF,nls_metP];(first|done|fail))))|(with_reducible refine jf (by (simp only [↓reduceIte,zlk,Nat.reduceEqDiff,reduceCtorEq]);exact rfl) ?_)|((with_reducible first|refine jg (fun hc=>?_) (fun hc=>?_)|refine jh (fun hc=>?_) (fun hc=>?_))<;>(try simp (disch:=omega) only [zhb] at hc)<;>(try (exfalso;omega))<;>(try subst hc))|(with_reducible refine ji (by omega) ?_)|(simp (config := { maxSteps := 400000 }) only [↓jt,↓reduceIte,zvs,reduceCtorEq,Nat.reduceEqDiff,Nat.reduceAdd,Nat.reduceLeDiff,Nat.reduceMul,Int.reduceBNe,Int.reduceBEq,Int.reduceEq,Int.reduceNe,Int.reduceLT,Int.reduceLE,Int.reduceGT,Int.reduceGE,Int.reduceNeg,Int.reduceToNat,Nat.reduceLT,Nat.reduceSub,tab])|(simp (disch:=omega) only [ziw]))
  refine cont_seqR hFQ h0 (by kernel_rfl) ?_
  repeat' (first|(with_reducible first|refine yrl (by constructor) ?_|refine jk (fun M hM=>?_)|(refine hM _ ?_;clear hM M)|refine xb3 (by decide) ?_|refine yqa (by assumption) ?_ ?_|refine yqb (by assumption) ?_ ?_)|((with_reducible refine je ?_)<;>(first|rfl|assumption|(simp only [znl,nls_u,nls_prt,nl_prt,nls_padX,nls_padF,nls_metP];(first|done|fail))))|(with_reducible refine jf (by (simp only [↓reduceIte,zlk,Nat.reduceEqDiff,reduceCtorEq]);exact rfl) ?_)|((with_reducible first|refine jg (fun hc=>?_) (fun hc=>?_)|refine jh (fun hc=>?_) (fun hc=>?_))<;>(try simp (disch:=omega) only [zhb] at hc)<;>(try (exfalso;omega))<;>(try subst hc))|(with_reducible refine ji (by omega) ?_)|(simp (config := { maxSteps := 400000 }) only [↓jt,↓reduceIte,zvs,reduceCtorEq,Nat.reduceEqDiff,Nat.reduceAdd,Nat.reduceLeDiff,Nat.reduceMul,Int.reduceBNe,Int.reduceBEq,Int.reduceEq,Int.reduceNe,Int.reduceLT,Int.reduceLE,Int.reduceGT,Int.reduceGE,Int.reduceNeg,Int.reduceToNat,Nat.reduceLT,Nat.reduceSub,tab])|(simp (disch:=omega) only [ziw]))
  refine cont_seqR hFQ h0 (by kernel_rfl) ?_
  repeat' (first|(with_reducible first|refine yrl (by constructor) ?_|refine jk (fun M hM=>?_)|(refine hM _ ?_;clear hM M)|refine xb3 (by decide) ?_|refine yqa (by assumption) ?_ ?_|refine yqb (by assumption) ?_ ?_)|((with_reducible refine je ?_)<;>(first|rfl|assumption|(simp only [znl,nls_u,nls_prt,nl_prt,nls_padX,nls_padF,nls_metP];(first|done|fail))))|(with_reducible refine jf (by (simp only [↓reduceIte,zlk,Nat.reduceEqDiff,reduceCtorEq]);exact rfl) ?_)|((with_reducible first|refine jg (fun hc=>?_) (fun hc=>?_)|refine jh (fun hc=>?_) (fun hc=>?_))<;>(try simp (disch:=omega) only [zhb] at hc)<;>(try (exfalso;omega))<;>(try subst hc))|(with_reducible refine ji (by omega) ?_)|(simp (config := { maxSteps := 400000 }) only [↓jt,↓reduceIte,zvs,reduceCtorEq,Nat.reduceEqDiff,Nat.reduceAdd,Nat.reduceLeDiff,Nat.reduceMul,Int.reduceBNe,Int.reduceBEq,Int.reduceEq,Int.reduceNe,Int.reduceLT,Int.reduceLE,Int.reduceGT,Int.reduceGE,Int.reduceNeg,Int.reduceToNat,Nat.reduceLT,Nat.reduceSub,tab])|(simp (disch:=omega) only [ziw]))
  refine cont_cut (joinFr s) (fun acc => acc.length ≤ 3 ∧ GoodP n acc ∧ R = (acc, if acc.length < 3 then 4 else 0)) hFQ h0 (by kernel_rfl) ?_ ?_
  · repeat' (first|(with_reducible first|refine yrl (by constructor) ?_|refine jk (fun M hM=>?_)|(refine hM _ ?_;clear hM M)|refine xb3 (by decide) ?_|refine yqa (by assumption) ?_ ?_|refine yqb (by assumption) ?_ ?_)|((with_reducible refine je ?_)<;>(first|rfl|assumption|(simp only [znl,nls_u,nls_prt,nl_prt,nls_padX,nls_padF,nls_metP];(first|done|fail))))|(with_reducible refine jf (by (simp only [↓reduceIte,zlk,Nat.reduceEqDiff,reduceCtorEq]);exact rfl) ?_)|((with_reducible first|refine jg (fun hc=>?_) (fun hc=>?_)|refine jh (fun hc=>?_) (fun hc=>?_))<;>(try simp (disch:=omega) only [zhb] at hc)<;>(try (exfalso;omega))<;>(try subst hc))|(with_reducible refine ji (by omega) ?_)|(simp (config := { maxSteps := 400000 }) only [↓jt,↓reduceIte,zvs,reduceCtorEq,Nat.reduceEqDiff,Nat.reduceAdd,Nat.reduceLeDiff,Nat.reduceMul,Int.reduceBNe,Int.reduceBEq,Int.reduceEq,Int.reduceNe,Int.reduceLT,Int.reduceLE,Int.reduceGT,Int.reduceGE,Int.reduceNeg,Int.reduceToNat,Nat.reduceLT,Nat.reduceSub,tab])|(simp (disch:=omega) only [ziw]))
    refine ok_loop (fun x : Nat × List Prt => ⟨slots [(1, .int .i64 s), (4, .str []), (5, .int .i64 0), (6, .ptr 0 []), (7, .ptr 1 []), (8, .ptr 2 []), (9, .int .i64 x.2.length), (21, encPrts l), (22, .int .i64 l.length), (23, .int .i64 x.1)], rows [(0, .row (.arr 3 .cell) (.agg (padX x.2))), (1, .row (.arr 3 .cell) (.agg (padF x.2))), (2, .row (.arr 6 .cell) (.agg (metP x.2)))], 3⟩)
      (fun x => x.1 ≤ l.length ∧ x.2.length ≤ 3 ∧ GoodP n x.2 ∧ pick3 n x.2 (l.drop x.1) = R) (fun x => l.length - x.1) (0, []) ?_ ⟨Nat.zero_le _, by decide, GoodP.nil _, hRR.symm⟩ (fun x hx => ?_)
    · (refine yrn [(0, 0), (1, 1), (2, 2)] false ?_ ?_<;>(repeat' (first|(with_reducible first|exact ya1|exact ya2|exact ya3|refine jx rfl (by first|rfl|assumption|(simp only [znl,nls_u,nls_prt,nl_prt,nls_padX,nls_padF,nls_metP];(first|done|fail)))|exact ya5|exact ya7|exact jy|exact jz|refine jA ?_|refine ya9 ?_ ?_ ?_|refine jC rfl (by first|rfl|assumption|(simp only [znl,nls_u,nls_prt,nl_prt,nls_padX,nls_padF,nls_metP];(first|done|fail)))|refine MR.agg (MRL.cons ?_ ?_)|refine MR.fn ?_|refine MRL.cons ?_ ?_|exact MRL.nil|refine jE ?_ ?_|exact jF|exact jG|refine yb1 ?_ ?_|refine MB.row ?_|refine jI ?_ ?_|exact ya8|refine jJ rfl (by first|rfl|assumption|(simp only [znl,nls_u,nls_prt,nl_prt,nls_padX,nls_padF,nls_metP];(first|done|fail)))|refine yb2 ?_|rfl)|(simp only [znl,nls_u,nls_prt,nl_prt,nls_padX,nls_padF,nls_metP];(first|done|fail))|(simp only [↓reduceIte,zlk,Nat.reduceEqDiff,reduceCtorEq])|(with_reducible first|refine jJ ?_ ?_|refine ya5 ?_|refine ju ?_|refine jv ?_|refine jw ?_|refine jx ?_ (by first|rfl|assumption|(simp only [znl,nls_u,nls_prt,nl_prt,nls_padX,nls_padF,nls_metP];(first|done|fail)))|refine jC ?_ (by first|rfl|assumption|(simp only [znl,nls_u,nls_prt,nl_prt,nls_padX,nls_padF,nls_metP];(first|done|fail)))))))
      all_goals (first | rfl | (rw [padX_eq]; rfl) | (rw [padF_eq]; rfl) | (rw [metP_eq]; rfl))
    obtain ⟨k, acc⟩ := x
    obtain ⟨hk, ha, hgd, hp⟩ := hx
    dsimp only at hk ha hgd hp ⊢
    have lX : (padX acc).length = 3 := by rw [padX_eq]; exact pad_len _ _ acc ha
    have lF : (padF acc).length = 3 := by rw [padF_eq]; exact pad_len _ _ acc ha
    by_cases hlt : k < l.length
    · have hg := getP hlt
      have hdl := hd _ (memP hlt)
      rw [pick3_at _ _ _ _ hlt] at hp
      have sX : acc.length < 3 → (padX acc).set acc.length (.int .u8 (l.getD k default).i) = padX (acc ++ [l.getD k default]) := fun h => by rw [padX_eq]; exact pad_set (fun p : Prt => VV.int .u8 p.i) (.int .u8 0) acc (l.getD k default) h
      have sF : acc.length < 3 → (padF acc).set acc.length (.str (l.getD k default).d) = padF (acc ++ [l.getD k default]) := fun h => by rw [padF_eq]; exact pad_set (fun p : Prt => VV.str p.d) (.str []) acc (l.getD k default) h
      have mg := fun h => metP_get acc (l.getD k default).i h
      have ms := fun h => metP_set acc (l.getD k default) h
      generalize l.getD k default = q at hg hp hdl sX sF mg ms
      have hsl : (acc ++ [q]).length = acc.length + 1 := by simp
      by_cases h3 : acc.length = 3
      · rw [if_pos h3] at hp
        repeat' (first|(with_reducible first|refine yrl (by constructor) ?_|refine jk (fun M hM=>?_)|(refine hM _ ?_;clear hM M)|refine xb3 (by decide) ?_|refine yqa (by assumption) ?_ ?_|refine yqb (by assumption) ?_ ?_)|((with_reducible refine je ?_)<;>(first|rfl|assumption|(simp only [znl,nls_u,nls_prt,nl_prt,nls_padX,nls_padF,nls_metP];(first|done|fail))))|(with_reducible refine jf (by (simp only [↓reduceIte,zlk,Nat.reduceEqDiff,reduceCtorEq]);exact rfl) ?_)|((with_reducible first|refine jg (fun hc=>?_) (fun hc=>?_)|refine jh (fun hc=>?_) (fun hc=>?_))<;>(try simp (disch:=omega) only [zhb] at hc)<;>(try (exfalso;omega))<;>(try subst hc))|(with_reducible refine ji (by omega) ?_)|(simp (config := { maxSteps := 400000 }) only [↓jt,↓reduceIte,zvs,reduceCtorEq,Nat.reduceEqDiff,Nat.reduceAdd,Nat.reduceLeDiff,Nat.reduceMul,Int.reduceBNe,Int.reduceBEq,Int.reduceEq,Int.reduceNe,Int.reduceLT,Int.reduceLE,Int.reduceGT,Int.reduceGE,Int.reduceNeg,Int.reduceToNat,Nat.reduceLT,Nat.reduceSub,tab,hg,Try.results16,jTA])|(simp (disch:=omega) only [ziw]))
        all_goals first
          | (exfalso; omega)
          | (refine xc1 acc ?_ ⟨ha, hgd, by rw [← hp, if_neg (by omega)]⟩; (refine yrn [(0, 0), (1, 1), (2, 2)] false ?_ ?_<;>(repeat' (first|(with_reducible first|exact ya1|exact ya2|exact ya3|refine jx rfl (by first|rfl|assumption|(simp only [znl,nls_u,nls_prt,nl_prt,nls_padX,nls_padF,nls_metP];(first|done|fail)))|exact ya5|exact ya7|exact jy|exact jz|refine jA ?_|refine ya9 ?_ ?_ ?_|refine jC rfl (by first|rfl|assumption|(simp only [znl,nls_u,nls_prt,nl_prt,nls_padX,nls_padF,nls_metP];(first|done|fail)))|refine MR.agg (MRL.cons ?_ ?_)|refine MR.fn ?_|refine MRL.cons ?_ ?_|exact MRL.nil|refine jE ?_ ?_|exact jF|exact jG|refine yb1 ?_ ?_|refine MB.row ?_|refine jI ?_ ?_|exact ya8|refine jJ rfl (by first|rfl|assumption|(simp only [znl,nls_u,nls_prt,nl_prt,nls_padX,nls_padF,nls_metP];(first|done|fail)))|refine yb2 ?_|rfl)|(simp only [znl,nls_u,nls_prt,nl_prt,nls_padX,nls_padF,nls_metP];(first|done|fail))|(simp only [↓reduceIte,zlk,Nat.reduceEqDiff,reduceCtorEq])|(with_reducible first|refine jJ ?_ ?_|refine ya5 ?_|refine ju ?_|refine jv ?_|refine jw ?_|refine jx ?_ (by first|rfl|assumption|(simp only [znl,nls_u,nls_prt,nl_prt,nls_padX,nls_padF,nls_metP];(first|done|fail)))|refine jC ?_ (by first|rfl|assumption|(simp only [znl,nls_u,nls_prt,nl_prt,nls_padX,nls_padF,nls_metP];(first|done|fail))))))); all_goals (first | rfl); done)
      rw [if_neg h3] at hp
      by_cases h15 : q.i < 1 ∨ 5 < q.i
      · rw [if_pos h15] at hp
        rw [← hp, joinW_err (by decide)]
        repeat' (first|(with_reducible first|refine yrl (by constructor) ?_|refine jk (fun M hM=>?_)|(refine hM _ ?_;clear hM M)|refine xb3 (by decide) ?_|refine yqa (by assumption) ?_ ?_|refine yqb (by assumption) ?_ ?_)|((with_reducible refine je ?_)<;>(first|rfl|assumption|(simp only [znl,nls_u,nls_prt,nl_prt,nls_padX,nls_padF,nls_metP];(first|done|fail))))|(with_reducible refine jf (by (simp only [↓reduceIte,zlk,Nat.reduceEqDiff,reduceCtorEq]);exact rfl) ?_)|((with_reducible first|refine jg (fun hc=>?_) (fun hc=>?_)|refine jh (fun hc=>?_) (fun hc=>?_))<;>(try simp (disch:=omega) only [zhb] at hc)<;>(try (exfalso;omega))<;>(try subst hc))|(with_reducible refine ji (by omega) ?_)|(simp (config := { maxSteps := 400000 }) only [↓jt,↓reduceIte,zvs,reduceCtorEq,Nat.reduceEqDiff,Nat.reduceAdd,Nat.reduceLeDiff,Nat.reduceMul,Int.reduceBNe,Int.reduceBEq,Int.reduceEq,Int.reduceNe,Int.reduceLT,Int.reduceLE,Int.reduceGT,Int.reduceGE,Int.reduceNeg,Int.reduceToNat,Nat.reduceLT,Nat.reduceSub,tab,hg,Try.results16,jTA])|(simp (disch:=omega) only [ziw]))
        all_goals first
          | (exfalso; omega)
          | (((try simp only [joinRV,List.map_nil]); simp only [zrds]; (repeat' (first | exact rd_nil | exact Rd.refl _ _ (by first|rfl|assumption|(simp only [znl,nls_u,nls_prt,nl_prt,nls_padX,nls_padF,nls_metP];(first|done|fail))) | (refine And.intro ?_ ?_) | (refine rd_own (by (simp only [↓reduceIte,zlk,Nat.reduceEqDiff,reduceCtorEq]); exact rfl) ?_ ?_ ?_) | rfl | assumption | (simp only [znl,nls_u,nls_prt,nl_prt,nls_padX,nls_padF,nls_metP];(first|done|fail)) | (simp; done) | (simp; omega)))); done)
      rw [if_neg h15] at hp
      have mg := mg (by omega)
      have ms := ms (by omega)
      cases hh : hasI acc q.i with
      | true =>
        rw [hh, if_pos rfl] at hp
        rw [hh] at mg
        repeat' (first|(with_reducible first|refine yrl (by constructor) ?_|refine jk (fun M hM=>?_)|(refine hM _ ?_;clear hM M)|refine xb3 (by decide) ?_|refine yqa (by assumption) ?_ ?_|refine yqb (by assumption) ?_ ?_)|((with_reducible refine je ?_)<;>(first|rfl|assumption|(simp only [znl,nls_u,nls_prt,nl_prt,nls_padX,nls_padF,nls_metP];(first|done|fail))))|(with_reducible refine jf (by (simp only [↓reduceIte,zlk,Nat.reduceEqDiff,reduceCtorEq]);exact rfl) ?_)|((with_reducible first|refine jg (fun hc=>?_) (fun hc=>?_)|refine jh (fun hc=>?_) (fun hc=>?_))<;>(try simp (disch:=omega) only [zhb] at hc)<;>(try (exfalso;omega))<;>(try subst hc))|(with_reducible refine ji (by omega) ?_)|(simp (config := { maxSteps := 400000 }) only [↓jt,↓reduceIte,zvs,reduceCtorEq,Nat.reduceEqDiff,Nat.reduceAdd,Nat.reduceLeDiff,Nat.reduceMul,Int.reduceBNe,Int.reduceBEq,Int.reduceEq,Int.reduceNe,Int.reduceLT,Int.reduceLE,Int.reduceGT,Int.reduceGE,Int.reduceNeg,Int.reduceToNat,Nat.reduceLT,Nat.reduceSub,tab,hg,mg,Try.results16,jTA])|(simp (disch:=omega) only [ziw]))
        all_goals first
          | (exfalso; omega)
          | (refine xl1 (k + 1, acc) ?_ ⟨by show k + 1 ≤ l.length; omega, ha, hgd, hp⟩ (by show l.length - (k + 1) < l.length - k; omega); (refine yrn [(0, 0), (1, 1), (2, 2)] false ?_ ?_<;>(repeat' (first|(with_reducible first|exact ya1|exact ya2|exact ya3|refine jx rfl (by first|rfl|assumption|(simp only [znl,nls_u,nls_prt,nl_prt,nls_padX,nls_padF,nls_metP];(first|done|fail)))|exact ya5|exact ya7|exact jy|exact jz|refine jA ?_|refine ya9 ?_ ?_ ?_|refine jC rfl (by first|rfl|assumption|(simp only [znl,nls_u,nls_prt,nl_prt,nls_padX,nls_padF,nls_metP];(first|done|fail)))|refine MR.agg (MRL.cons ?_ ?_)|refine MR.fn ?_|refine MRL.cons ?_ ?_|exact MRL.nil|refine jE ?_ ?_|exact jF|exact jG|refine yb1 ?_ ?_|refine MB.row ?_|refine jI ?_ ?_|exact ya8|refine jJ rfl (by first|rfl|assumption|(simp only [znl,nls_u,nls_prt,nl_prt,nls_padX,nls_padF,nls_metP];(first|done|fail)))|refine yb2 ?_|rfl)|(simp only [znl,nls_u,nls_prt,nl_prt,nls_padX,nls_padF,nls_metP];(first|done|fail))|(simp only [↓reduceIte,zlk,Nat.reduceEqDiff,reduceCtorEq])|(with_reducible first|refine jJ ?_ ?_|refine ya5 ?_|refine ju ?_|refine jv ?_|refine jw ?_|refine jx ?_ (by first|rfl|assumption|(simp only [znl,nls_u,nls_prt,nl_prt,nls_padX,nls_padF,nls_metP];(first|done|fail)))|refine jC ?_ (by first|rfl|assumption|(simp only [znl,nls_u,nls_prt,nl_prt,nls_padX,nls_padF,nls_metP];(first|done|fail))))))); all_goals (first | rfl); done)
      | false =>
        rw [hh, if_neg (by decide)] at hp
        rw [hh] at mg
        by_cases hdn : (q.d.length : Int) = n
        · rw [if_neg (by simpa using hdn)] at hp
          have hgd2 := hgd.snoc q (by omega) hdn hh
          repeat' (first|(with_reducible first|refine yrl (by constructor) ?_|refine jk (fun M hM=>?_)|(refine hM _ ?_;clear hM M)|refine xb3 (by decide) ?_|refine yqa (by assumption) ?_ ?_|refine yqb (by assumption) ?_ ?_)|((with_reducible refine je ?_)<;>(first|rfl|assumption|(simp only [znl,nls_u,nls_prt,nl_prt,nls_padX,nls_padF,nls_metP];(first|done|fail))))|(with_reducible refine jf (by (simp only [↓reduceIte,zlk,Nat.reduceEqDiff,reduceCtorEq]);exact rfl) ?_)|((with_reducible first|refine jg (fun hc=>?_) (fun hc=>?_)|refine jh (fun hc=>?_) (fun hc=>?_))<;>(try simp (disch:=omega) only [zhb] at hc)<;>(try (exfalso;omega))<;>(try subst hc))|(with_reducible refine ji (by omega) ?_)|(simp (config := { maxSteps := 400000 }) only [↓jt,↓reduceIte,zvs,reduceCtorEq,Nat.reduceEqDiff,Nat.reduceAdd,Nat.reduceLeDiff,Nat.reduceMul,Int.reduceBNe,Int.reduceBEq,Int.reduceEq,Int.reduceNe,Int.reduceLT,Int.reduceLE,Int.reduceGT,Int.reduceGE,Int.reduceNeg,Int.reduceToNat,Nat.reduceLT,Nat.reduceSub,tab,hg,mg,Try.results16,jTA])|(simp (disch:=omega) only [ziw]))
          all_goals (try (exfalso; omega))
          refine ok_drawC 5 (by kernel_rfl) (by decide +kernel) (by intro m hm; simp only [upd_ap,rows_cons,rows_nil]; (repeat (first | rfl | rw [if_neg (by omega)]))) (fun M hM => ?_); simp only [List.take_succ_cons,List.take_zero,List.drop_succ_cons,List.drop_zero]
          repeat' (first|(with_reducible first|refine yrl (by constructor) ?_|refine jk (fun M hM=>?_)|(refine hM _ ?_;clear hM M)|refine xb3 (by decide) ?_|refine yqa (by assumption) ?_ ?_|refine yqb (by assumption) ?_ ?_)|((with_reducible refine je ?_)<;>(first|rfl|assumption|(simp only [znl,nls_u,nls_prt,nl_prt,nls_padX,nls_padF,nls_metP];(first|done|fail))))|(with_reducible refine jf (by (simp only [↓reduceIte,zlk,Nat.reduceEqDiff,reduceCtorEq]);exact rfl) ?_)|((with_reducible first|refine jg (fun hc=>?_) (fun hc=>?_)|refine jh (fun hc=>?_) (fun hc=>?_))<;>(try simp (disch:=omega) only [zhb] at hc)<;>(try (exfalso;omega))<;>(try subst hc))|(with_reducible refine ji (by omega) ?_)|(simp (config := { maxSteps := 400000 }) only [↓jt,↓reduceIte,zvs,reduceCtorEq,Nat.reduceEqDiff,Nat.reduceAdd,Nat.reduceLeDiff,Nat.reduceMul,Int.reduceBNe,Int.reduceBEq,Int.reduceEq,Int.reduceNe,Int.reduceLT,Int.reduceLE,Int.reduceGT,Int.reduceGE,Int.reduceNeg,Int.reduceToNat,Nat.reduceLT,Nat.reduceSub,tab,hg,mg,Try.results16,jTA])|(simp (disch:=omega) only [ziw]))
          all_goals (try (exfalso; omega))
          have gX : (padX acc)[acc.length]? = some (.int .u8 0) := by rw [padX_eq]; exact pad_get _ _ acc (by omega)
          have gF : (padF acc)[acc.length]? = some (.str []) := by rw [padF_eq]; exact pad_get _ _ acc (by omega)
          have sX := sX (by omega)
          have sF := sF (by omega)
          refine ok_drawG 9 [0, 1, 2, 3, 4, 5, 6, 7] 8 0 (by kernel_rfl) (by decide +kernel) (by decide) (by decide) (by intro m hm; simp only [upd_ap,rows_cons,rows_nil]; (repeat (first | rfl | rw [if_neg (by omega)]))) (fun M hM => ?_); simp only [picks,List.getElem?_cons_succ,List.getElem?_cons_zero,List.drop_succ_cons,List.drop_zero]
          repeat' (first|(with_reducible first|refine yrl (by constructor) ?_|refine jk (fun M hM=>?_)|(refine hM _ ?_;clear hM M)|refine xb3 (by decide) ?_|refine yqa (by assumption) ?_ ?_|refine yqb (by assumption) ?_ ?_)|((with_reducible refine je ?_)<;>(first|rfl|assumption|(simp only [znl,nls_u,nls_prt,nl_prt,nls_padX,nls_padF,nls_metP];(first|done|fail))))|(with_reducible refine jf (by (simp only [↓reduceIte,zlk,Nat.reduceEqDiff,reduceCtorEq]);exact rfl) ?_)|((with_reducible first|refine jg (fun hc=>?_) (fun hc=>?_)|refine jh (fun hc=>?_) (fun hc=>?_))<;>(try simp (disch:=omega) only [zhb] at hc)<;>(try (exfalso;omega))<;>(try subst hc))|(with_reducible refine ji (by omega) ?_)|(simp (config := { maxSteps := 400000 }) only [↓jt,↓reduceIte,zvs,reduceCtorEq,Nat.reduceEqDiff,Nat.reduceAdd,Nat.reduceLeDiff,Nat.reduceMul,Int.reduceBNe,Int.reduceBEq,Int.reduceEq,Int.reduceNe,Int.reduceLT,Int.reduceLE,Int.reduceGT,Int.reduceGE,Int.reduceNeg,Int.reduceToNat,Nat.reduceLT,Nat.reduceSub,tab,hg,gX,gF,sX,sF,mg,ms,storeAt_go,isP_ptr,Int.toNat_natCast,Try.results16,jTA])|(simp (disch:=omega) only [ziw]))
          all_goals first
            | (exfalso; omega)
            | (refine xl1 (k + 1, acc ++ [q]) ?_ ⟨by show k + 1 ≤ l.length; omega, by show (acc ++ [q]).length ≤ 3; rw [hsl]; omega, hgd2, hp⟩ (by show l.length - (k + 1) < l.length - k; omega); (refine yrn [(0, 0), (1, 1), (2, 2)] false ?_ ?_<;>(repeat' (first|(with_reducible first|exact ya1|exact ya2|exact ya3|refine jx rfl (by first|rfl|assumption|(simp only [znl,nls_u,nls_prt,nl_prt,nls_padX,nls_padF,nls_metP];(first|done|fail)))|exact ya5|exact ya7|exact jy|exact jz|refine jA ?_|refine ya9 ?_ ?_ ?_|refine jC rfl (by first|rfl|assumption|(simp only [znl,nls_u,nls_prt,nl_prt,nls_padX,nls_padF,nls_metP];(first|done|fail)))|refine MR.agg (MRL.cons ?_ ?_)|refine MR.fn ?_|refine MRL.cons ?_ ?_|exact MRL.nil|refine jE ?_ ?_|exact jF|exact jG|refine yb1 ?_ ?_|refine MB.row ?_|refine jI ?_ ?_|exact ya8|refine jJ rfl (by first|rfl|assumption|(simp only [znl,nls_u,nls_prt,nl_prt,nls_padX,nls_padF,nls_metP];(first|done|fail)))|refine yb2 ?_|rfl)|(simp only [znl,nls_u,nls_prt,nl_prt,nls_padX,nls_padF,nls_metP];(first|done|fail))|(simp only [↓reduceIte,zlk,Nat.reduceEqDiff,reduceCtorEq])|(with_reducible first|refine jJ ?_ ?_|refine ya5 ?_|refine ju ?_|refine jv ?_|refine jw ?_|refine jx ?_ (by first|rfl|assumption|(simp only [znl,nls_u,nls_prt,nl_prt,nls_padX,nls_padF,nls_metP];(first|done|fail)))|refine jC ?_ (by first|rfl|assumption|(simp only [znl,nls_u,nls_prt,nl_prt,nls_padX,nls_padF,nls_metP];(first|done|fail))))))); all_goals (first | rfl | exact ms | exact sX (by omega) | exact sF (by omega) | (rw [hsl]; rfl)); done)
        · rw [if_pos hdn] at hp
          rw [← hp, joinW_err (by decide)]
          repeat' (first|(with_reducible first|refine yrl (by constructor) ?_|refine jk (fun M hM=>?_)|(refine hM _ ?_;clear hM M)|refine xb3 (by decide) ?_|refine yqa (by assumption) ?_ ?_|refine yqb (by assumption) ?_ ?_)|((with_reducible refine je ?_)<;>(first|rfl|assumption|(simp only [znl,nls_u,nls_prt,nl_prt,nls_padX,nls_padF,nls_metP];(first|done|fail))))|(with_reducible refine jf (by (simp only [↓reduceIte,zlk,Nat.reduceEqDiff,reduceCtorEq]);exact rfl) ?_)|((with_reducible first|refine jg (fun hc=>?_) (fun hc=>?_)|refine jh (fun hc=>?_) (fun hc=>?_))<;>(try simp (disch:=omega) only [zhb] at hc)<;>(try (exfalso;omega))<;>(try subst hc))|(with_reducible refine ji (by omega) ?_)|(simp (config := { maxSteps := 400000 }) only [↓jt,↓reduceIte,zvs,reduceCtorEq,Nat.reduceEqDiff,Nat.reduceAdd,Nat.reduceLeDiff,Nat.reduceMul,Int.reduceBNe,Int.reduceBEq,Int.reduceEq,Int.reduceNe,Int.reduceLT,Int.reduceLE,Int.reduceGT,Int.reduceGE,Int.reduceNeg,Int.reduceToNat,Nat.reduceLT,Nat.reduceSub,tab,hg,mg,Try.results16,jTA])|(simp (disch:=omega) only [ziw]))
          all_goals (try (exfalso; omega))
          refine ok_drawC 5 (by kernel_rfl) (by decide +kernel) (by intro m hm; simp only [upd_ap,rows_cons,rows_nil]; (repeat (first | rfl | rw [if_neg (by omega)]))) (fun M hM => ?_); simp only [List.take_succ_cons,List.take_zero,List.drop_succ_cons,List.drop_zero]
          repeat' (first|(with_reducible first|refine yrl (by constructor) ?_|refine jk (fun M hM=>?_)|(refine hM _ ?_;clear hM M)|refine xb3 (by decide) ?_|refine yqa (by assumption) ?_ ?_|refine yqb (by assumption) ?_ ?_)|((with_reducible refine je ?_)<;>(first|rfl|assumption|(simp only [znl,nls_u,nls_prt,nl_prt,nls_padX,nls_padF,nls_metP];(first|done|fail))))|(with_reducible refine jf (by (simp only [↓reduceIte,zlk,Nat.reduceEqDiff,reduceCtorEq]);exact rfl) ?_)|((with_reducible first|refine jg (fun hc=>?_) (fun hc=>?_)|refine jh (fun hc=>?_) (fun hc=>?_))<;>(try simp (disch:=omega) only [zhb] at hc)<;>(try (exfalso;omega))<;>(try subst hc))|(with_reducible refine ji (by omega) ?_)|(simp (config := { maxSteps := 400000 }) only [↓jt,↓reduceIte,zvs,reduceCtorEq,Nat.reduceEqDiff,Nat.reduceAdd,Nat.reduceLeDiff,Nat.reduceMul,Int.reduceBNe,Int.reduceBEq,Int.reduceEq,Int.reduceNe,Int.reduceLT,Int.reduceLE,Int.reduceGT,Int.reduceGE,Int.reduceNeg,Int.reduceToNat,Nat.reduceLT,Nat.reduceSub,tab,hg,mg,Try.results16,jTA])|(simp (disch:=omega) only [ziw]))
          all_goals first
            | (exfalso; omega)
            | (((try simp only [joinRV,List.map_nil]); simp only [zrds]; (repeat' (first | exact rd_nil | exact Rd.refl _ _ (by first|rfl|assumption|(simp only [znl,nls_u,nls_prt,nl_prt,nls_padX,nls_padF,nls_metP];(first|done|fail))) | (refine And.intro ?_ ?_) | (refine rd_own (by (simp only [↓reduceIte,zlk,Nat.reduceEqDiff,reduceCtorEq]); exact rfl) ?_ ?_ ?_) | rfl | assumption | (simp only [znl,nls_u,nls_prt,nl_prt,nls_padX,nls_padF,nls_metP];(first|done|fail)) | (simp; done) | (simp; omega)))); done)
    · obtain rfl : k = l.length := by omega
      rw [List.drop_length, pick3] at hp
      repeat' (first|(with_reducible first|refine yrl (by constructor) ?_|refine jk (fun M hM=>?_)|(refine hM _ ?_;clear hM M)|refine xb3 (by decide) ?_|refine yqa (by assumption) ?_ ?_|refine yqb (by assumption) ?_ ?_)|((with_reducible refine je ?_)<;>(first|rfl|assumption|(simp only [znl,nls_u,nls_prt,nl_prt,nls_padX,nls_padF,nls_metP];(first|done|fail))))|(with_reducible refine jf (by (simp only [↓reduceIte,zlk,Nat.reduceEqDiff,reduceCtorEq]);exact rfl) ?_)|((with_reducible first|refine jg (fun hc=>?_) (fun hc=>?_)|refine jh (fun hc=>?_) (fun hc=>?_))<;>(try simp (disch:=omega) only [zhb] at hc)<;>(try (exfalso;omega))<;>(try subst hc))|(with_reducible refine ji (by omega) ?_)|(simp (config := { maxSteps := 400000 }) only [↓jt,↓reduceIte,zvs,reduceCtorEq,Nat.reduceEqDiff,Nat.reduceAdd,Nat.reduceLeDiff,Nat.reduceMul,Int.reduceBNe,Int.reduceBEq,Int.reduceEq,Int.reduceNe,Int.reduceLT,Int.reduceLE,Int.reduceGT,Int.reduceGE,Int.reduceNeg,Int.reduceToNat,Nat.reduceLT,Nat.reduceSub,tab,Try.results16,jTA])|(simp (disch:=omega) only [ziw]))
      all_goals first
        | (exfalso; omega)
        | (refine xc1 acc ?_ ⟨ha, hgd, hp.symm⟩; (refine yrn [(0, 0), (1, 1), (2, 2)] false ?_ ?_<;>(repeat' (first|(with_reducible first|exact ya1|exact ya2|exact ya3|refine jx rfl (by first|rfl|assumption|(simp only [znl,nls_u,nls_prt,nl_prt,nls_padX,nls_padF,nls_metP];(first|done|fail)))|exact ya5|exact ya7|exact jy|exact jz|refine jA ?_|refine ya9 ?_ ?_ ?_|refine jC rfl (by first|rfl|assumption|(simp only [znl,nls_u,nls_prt,nl_prt,nls_padX,nls_padF,nls_metP];(first|done|fail)))|refine MR.agg (MRL.cons ?_ ?_)|refine MR.fn ?_|refine MRL.cons ?_ ?_|exact MRL.nil|refine jE ?_ ?_|exact jF|exact jG|refine yb1 ?_ ?_|refine MB.row ?_|refine jI ?_ ?_|exact ya8|refine jJ rfl (by first|rfl|assumption|(simp only [znl,nls_u,nls_prt,nl_prt,nls_padX,nls_padF,nls_metP];(first|done|fail)))|refine yb2 ?_|rfl)|(simp only [znl,nls_u,nls_prt,nl_prt,nls_padX,nls_padF,nls_metP];(first|done|fail))|(simp only [↓reduceIte,zlk,Nat.reduceEqDiff,reduceCtorEq])|(with_reducible first|refine jJ ?_ ?_|refine ya5 ?_|refine ju ?_|refine jv ?_|refine jw ?_|refine jx ?_ (by first|rfl|assumption|(simp only [znl,nls_u,nls_prt,nl_prt,nls_padX,nls_padF,nls_metP];(first|done|fail)))|refine jC ?_ (by first|rfl|assumption|(simp only [znl,nls_u,nls_prt,nl_prt,nls_padX,nls_padF,nls_metP];(first|done|fail))))))); all_goals (first | rfl); done)
  · rintro acc ⟨ha, hgd, hRa⟩
    clear hRR hd
    refine cont_seqR hFQ h0 (by kernel_rfl) ?_
    unfold joinFr
    by_cases h3 : acc.length < 3
    · rw [if_pos h3] at hRa
      rw [hRa, joinW_err (by decide)]
      repeat' (first|(with_reducible first|refine yrl (by constructor) ?_|refine jk (fun M hM=>?_)|(refine hM _ ?_;clear hM M)|refine xb3 (by decide) ?_|refine yqa (by assumption) ?_ ?_|refine yqb (by assumption) ?_ ?_)|((with_reducible refine je ?_)<;>(first|rfl|assumption|(simp only [znl,nls_u,nls_prt,nl_prt,nls_padX,nls_padF,nls_metP];(first|done|fail))))|(with_reducible refine jf (by (simp only [↓reduceIte,zlk,Nat.reduceEqDiff,reduceCtorEq]);exact rfl) ?_)|((with_reducible first|refine jg (fun hc=>?_) (fun hc=>?_)|refine jh (fun hc=>?_) (fun hc=>?_))<;>(try simp (disch:=omega) only [zhb] at hc)<;>(try (exfalso;omega))<;>(try subst hc))|(with_reducible refine ji (by omega) ?_)|(simp (config := { maxSteps := 400000 }) only [↓jt,↓reduceIte,zvs,reduceCtorEq,Nat.reduceEqDiff,Nat.reduceAdd,Nat.reduceLeDiff,Nat.reduceMul,Int.reduceBNe,Int.reduceBEq,Int.reduceEq,Int.reduceNe,Int.reduceLT,Int.reduceLE,Int.reduceGT,Int.reduceGE,Int.reduceNeg,Int.reduceToNat,Nat.reduceLT,Nat.reduceSub,tab,Try.results16,jTA])|(simp (disch:=omega) only [ziw]))
      all_goals first
        | (exfalso; omega)
        | (((try simp only [joinRV,List.map_nil]); simp only [zrds]; (repeat' (first | exact rd_nil | exact Rd.refl _ _ (by first|rfl|assumption|(simp only [znl,nls_u,nls_prt,nl_prt,nls_padX,nls_padF,nls_metP];(first|done|fail))) | (refine And.intro ?_ ?_) | (refine rd_own (by (simp only [↓reduceIte,zlk,Nat.reduceEqDiff,reduceCtorEq]); exact rfl) ?_ ?_ ?_) | rfl | assumption | (simp only [znl,nls_u,nls_prt,nl_prt,nls_padX,nls_padF,nls_metP];(first|done|fail)) | (simp; done) | (simp; omega)))); done)
    rw [if_neg h3] at hRa
    repeat' (first|(with_reducible first|refine yrl (by constructor) ?_|refine jk (fun M hM=>?_)|(refine hM _ ?_;clear hM M)|refine xb3 (by decide) ?_|refine yqa (by assumption) ?_ ?_|refine yqb (by assumption) ?_ ?_)|((with_reducible refine je ?_)<;>(first|rfl|assumption|(simp only [znl,nls_u,nls_prt,nl_prt,nls_padX,nls_padF,nls_metP];(first|done|fail))))|(with_reducible refine jf (by (simp only [↓reduceIte,zlk,Nat.reduceEqDiff,reduceCtorEq]);exact rfl) ?_)|((with_reducible first|refine jg (fun hc=>?_) (fun hc=>?_)|refine jh (fun hc=>?_) (fun hc=>?_))<;>(try simp (disch:=omega) only [zhb] at hc)<;>(try (exfalso;omega))<;>(try subst hc))|(with_reducible refine ji (by omega) ?_)|(simp (config := { maxSteps := 400000 }) only [↓jt,↓reduceIte,zvs,reduceCtorEq,Nat.reduceEqDiff,Nat.reduceAdd,Nat.reduceLeDiff,Nat.reduceMul,Int.reduceBNe,Int.reduceBEq,Int.reduceEq,Int.reduceNe,Int.reduceLT,Int.reduceLE,Int.reduceGT,Int.reduceGE,Int.reduceNeg,Int.reduceToNat,Nat.reduceLT,Nat.reduceSub,tab,Try.results16,jTA])|(simp (disch:=omega) only [ziw]))
    all_goals (try (exfalso; omega))
    have hacc : acc.length = 3 := by omega
    match acc, hacc, hgd, hRa with
    | [], h, _, _ => cases h
    | [_], h, _, _ => cases h
    | [_, _], h, _, _ => cases h
    | _ :: _ :: _ :: _ :: _, h, _, _ => simp at h
    | [p, q, r], _, hgd, hRa =>
      have hW : joinW R n s = (joinP p q r n s, 0) := by rw [hRa]; rfl
      obtain ⟨p1, pd⟩ := p
      obtain ⟨q1, qd⟩ := q
      obtain ⟨r1, rd⟩ := r
      have lp := hgd.ln ⟨p1, pd⟩ (by simp)
      have lq := hgd.ln ⟨q1, qd⟩ (by simp)
      have lr := hgd.ln ⟨r1, rd⟩ (by simp)
      have bp := i_u8 (hgd.rg ⟨p1, pd⟩ (by simp))
      have bq := i_u8 (hgd.rg ⟨q1, qd⟩ (by simp))
      have br := i_u8 (hgd.rg ⟨r1, rd⟩ (by simp))
      have hnd := hgd.nd
      dsimp only at lp lq lr bp bq br
      simp only [joinP] at hW
      obtain ⟨x, hx⟩ : ∃ x, x = u8 p1 := ⟨_, rfl⟩
      obtain ⟨y, hy⟩ : ∃ y, y = u8 q1 := ⟨_, rfl⟩
      obtain ⟨z, hz⟩ : ∃ z, z = u8 r1 := ⟨_, rfl⟩
      rw [← hx] at bp hW
      rw [← hy] at bq hW
      rw [← hz] at br hW
      clear hx hy hz
      subst bp bq br
      have hne : x ≠ y ∧ x ≠ z ∧ y ≠ z := by
        simp only [List.map_cons,List.map_nil,List.nodup_cons,List.mem_cons,List.not_mem_nil,or_false,not_or] at hnd
        exact ⟨fun h => hnd.1.1 (by rw [h]), fun h => hnd.1.2 (by rw [h]), fun h => hnd.2.1 (by rw [h])⟩
      have lpn : pd.length = n := by omega
      have lqn : qd.length = n := by omega
      have lrn : rd.length = n := by omega
      refine cont_ren h0 (T := ⟨slots [(1, .int .i64 s), (6, .ptr 0 []), (7, .ptr 1 [])], rows [(0, .row (.arr 3 .cell) (.agg [.int .u8 (B8 x), .int .u8 (B8 y), .int .u8 (B8 z)])), (1, .row (.arr 3 .cell) (.agg [.str pd, .str qd, .str rd]))], 2⟩) ?_ ?_
      · rw [padX_eq, padF_eq]
        (refine yrn [(0, 0), (1, 1)] false ?_ ?_<;>(repeat' (first|(with_reducible first|exact ya1|exact ya2|exact ya3|refine jx rfl (by first|rfl|assumption|(simp only [znl,nls_u,nls_prt,nl_prt,nls_padX,nls_padF,nls_metP];(first|done|fail)))|exact ya5|exact ya7|exact jy|exact jz|refine jA ?_|refine ya9 ?_ ?_ ?_|refine jC rfl (by first|rfl|assumption|(simp only [znl,nls_u,nls_prt,nl_prt,nls_padX,nls_padF,nls_metP];(first|done|fail)))|refine MR.agg (MRL.cons ?_ ?_)|refine MR.fn ?_|refine MRL.cons ?_ ?_|exact MRL.nil|refine jE ?_ ?_|exact jF|exact jG|refine yb1 ?_ ?_|refine MB.row ?_|refine jI ?_ ?_|exact ya8|refine jJ rfl (by first|rfl|assumption|(simp only [znl,nls_u,nls_prt,nl_prt,nls_padX,nls_padF,nls_metP];(first|done|fail)))|refine yb2 ?_|rfl)|(simp only [znl,nls_u,nls_prt,nl_prt,nls_padX,nls_padF,nls_metP];(first|done|fail))|(simp only [↓reduceIte,zlk,Nat.reduceEqDiff,reduceCtorEq])|(with_reducible first|refine jJ ?_ ?_|refine ya5 ?_|refine ju ?_|refine jv ?_|refine jw ?_|refine jx ?_ (by first|rfl|assumption|(simp only [znl,nls_u,nls_prt,nl_prt,nls_padX,nls_padF,nls_metP];(first|done|fail)))|refine jC ?_ (by first|rfl|assumption|(simp only [znl,nls_u,nls_prt,nl_prt,nls_padX,nls_padF,nls_metP];(first|done|fail)))))))
        all_goals (first | rfl)
      clear hgd hRa lp lq lr hnd
      intro a w1 ρ hS
      have hsz : a.tmps.size = 74 := hS.size
      have h1 := (hS.tm 1).int
      have h6 := hS.tm 6
      have h7 := hS.tm 7
      have had : a.defers = [] := hS.defers
      refine wp_seq (wp_region_list (wl_val rfl run_allocBuilder ?_))
      obtain ⟨b, hb⟩ : ∃ b, b = w1.heap.size := ⟨_, rfl⟩
      obtain ⟨w2, hw2⟩ : ∃ w2, w2 = w1.alloc (.cells #[.pointer none, .slice none 0 0] 57) := ⟨_, rfl⟩
      rw [← hb, ← hw2]
      have hg2 : w1.grownBy w2 none := by rw [hw2]; exact World.grownBy_alloc _ _ _
      have hS2 := hS.gr (w' := w2) (row := none) (fun m es h => by
        simp only [rows_cons,rows_nil] at h
        repeat' split at h
        all_goals cases h) (Nat.le_refl _) hg2 (fun r e => by cases e)
      have hb2 : w2.heap[b]? = some (.cells #[.pointer none, .slice none 0 0] 57 (0, 0)) := by rw [hw2, hb]; exact World.alloc_heap_new _ _
      have hsz2 : w2.heap.size = b + 1 := by rw [hw2, hb]; simp
      have hB2 : Below b w1 w2 := by rw [hw2, hb]; exact (Below.refl _ _).alloc (Nat.le_refl _) _
      have hbd2 := isBuilder_new (e := 5) hb2
      obtain ⟨a1, ha1⟩ : ∃ a1, a1 = a.put (some 12) (.pointer (some ⟨b, 0, none⟩)) := ⟨_, rfl⟩
      rw [← ha1]
      have z1 : a1.tmps.size = 74 := by rw [ha1, put_len, hsz]
      have t12 : a1.tmps.getD 12 undef = .pointer (some ⟨b, 0, none⟩) := by rw [ha1]; exact put_same (by omega)
      have t6 : a1.tmps.getD 6 undef = a.tmps.getD 6 undef := by rw [ha1]; exact put_other (by decide)
      have t7 : a1.tmps.getD 7 undef = a.tmps.getD 7 undef := by rw [ha1]; exact put_other (by decide)
      have t1 : a1.tmps.getD 1 undef = .int .i64 s := by rw [ha1, put_other (by decide), h1]
      have d1 : a1.defers = [] := by rw [ha1]; exact had
      show Code.wp _ _ _ _ _
      refine wp_seq (wp_seq (wp_region_list ?_))
      obtain ⟨v6, r6, e6⟩ := load_raw (P := Try.prog) (a := a1) (w := w2) (d := some 64) (typ := 40) (pos := "parity.go:88") (aft := #[]) (gd := none) hS2.heap (t := 6) (by rw [t6]; exact hS2.tm 6) (m := 0) rfl (ty := 40) (by simp only [tab])
      have e6 := agg3 e6 (c1 := .int .u8 (B8 x)) (c2 := .int .u8 (B8 y)) (c3 := .int .u8 (B8 z)) (fun cs h => by simpa only [C1] using h) (fun cs h => by simpa only [C1] using h) (fun cs h => by simpa only [C1] using h)
      subst e6
      refine wl_val rfl r6 ?_
      obtain ⟨a2, ha2⟩ : ∃ a2, a2 = a1.put (some 64) (.agg #[.int .u8 (B8 x), .int .u8 (B8 y), .int .u8 (B8 z)]) := ⟨_, rfl⟩
      rw [← ha2]
      have z2 : a2.tmps.size = 74 := by rw [ha2, put_len, z1]
      obtain ⟨v7, r7, e7⟩ := load_raw (P := Try.prog) (a := a2) (w := w2) (d := some 65) (typ := 46) (pos := "parity.go:88") (aft := #[]) (gd := none) hS2.heap (t := 7) (by rw [ha2, put_other (by decide), t7]; exact hS2.tm 7) (m := 1) rfl (ty := 46) (by simp only [tab])
      have e7 := agg3 e7 (c1 := .string ⟨pd.toArray⟩) (c2 := .string ⟨qd.toArray⟩) (c3 := .string ⟨rd.toArray⟩) (fun cs h => by simpa only [C1] using h) (fun cs h => by simpa only [C1] using h) (fun cs h => by simpa only [C1] using h)
      subst e7
      refine wl_val rfl r7 ?_
      obtain ⟨a3, ha3⟩ : ∃ a3, a3 = a2.put (some 65) (.agg #[.string ⟨pd.toArray⟩, .string ⟨qd.toArray⟩, .string ⟨rd.toArray⟩]) := ⟨_, rfl⟩
      rw [← ha3]
      have z3 : a3.tmps.size = 74 := by rw [ha3, put_len, z2]
      have u65 : a3.tmps.getD 65 undef = .agg #[.string ⟨pd.toArray⟩, .string ⟨qd.toArray⟩, .string ⟨rd.toArray⟩] := by rw [ha3]; exact put_same (by omega)
      have u64 : a3.tmps.getD 64 undef = .agg #[.int .u8 (B8 x), .int .u8 (B8 y), .int .u8 (B8 z)] := by rw [ha3, put_other (by decide), ha2]; exact put_same (by omega)
      refine wl_call rfl (run_call (enters_of Try.func19 (by kernel_rfl) rfl)) ?_
      have ea : (#[Operand.tmp 64, .tmp 65, .const (.int .i64 1), .const (.int .i64 3)] : Array Operand).map a3.eval = #[.agg #[.int .u8 (B8 x), .int .u8 (B8 y), .int .u8 (B8 z)], .agg #[.string ⟨pd.toArray⟩, .string ⟨qd.toArray⟩, .string ⟨rd.toArray⟩], .int .i64 1, .int .i64 3] := by
        have e1 : a3.eval (.tmp 64) = _ := u64
        have e2 : a3.eval (.tmp 65) = _ := u65
        have e3 : a3.eval (.const (.int .i64 1)) = .int .i64 1 := rfl
        have e4 : a3.eval (.const (.int .i64 3)) = .int .i64 3 := rfl
        simp [e1, e2, e3, e4]
      rw [ea]
      refine (lines_call _ _ _ _ _ _ 1 3 w2).mono ?_
      rintro e w3 ⟨rfl, hw3⟩
      refine ⟨_, rfl, ?_⟩
      have hB3 : Below w2.heap.size w2 w3 := by
        rw [hw3]
        exact (((((Below.refl _ w2).alloc (Nat.le_refl _) _).alloc (by simp) _).alloc (by simp; omega) _).alloc (by simp; omega) _)
      have hbx3 := boxes_new w2 (.int .u8 (B8 x)) (.int .u8 (B8 y)) (.int .u8 (B8 z)) (.string ⟨pd.toArray⟩) (.string ⟨qd.toArray⟩) (.string ⟨rd.toArray⟩) 3
      rw [← hw3, hsz2] at hbx3
      rw [hsz2]
      have hbd3 := isBuilder_gr hbd2 (Gr.of_below hB3)
      have hBb3 : Below b w1 w3 := hB2.trans (hB3.mono (by omega))
      clear hw3
      obtain ⟨a4, ha4⟩ : ∃ a4, a4 = a3.put (some 66) (.func (.func 32) #[] #[ptrV (b + 1 + 2, 0), ptrV (b + 1 + 3, 0), ptrV (b + 1, 0), ptrV (b + 1 + 1, 0)]) := ⟨_, rfl⟩
      rw [← ha4]
      have z4 : a4.tmps.size = 74 := by rw [ha4, put_len, z3]
      have t66 : a4.eval (.tmp 66) = .func (.func 32) #[] #[ptrV (b + 1 + 2, 0), ptrV (b + 1 + 3, 0), ptrV (b + 1, 0), ptrV (b + 1 + 1, 0)] := by rw [ha4]; exact put_same (by omega)
      have t12 : a4.tmps.getD 12 undef = .pointer (some ⟨b, 0, none⟩) := by rw [ha4, put_other (by decide), ha3, put_other (by decide), ha2, put_other (by decide), t12]
      have t1 : a4.tmps.getD 1 undef = .int .i64 s := by rw [ha4, put_other (by decide), ha3, put_other (by decide), ha2, put_other (by decide), t1]
      have d4 : a4.defers = [] := by rw [ha4, ha3, ha2]; exact d1
      have hlt3 : b < w3.heap.size := by have := hB3.size; omega
      show Code.wp _ _ _ _ _
      refine wp_block ((wpIn_wide (n := 5)).1 ?_)
      refine wpIn_rangeFunc_ownG (w0 := w3) rfl (by omega) t66 trivial (enters_of Try.func32 (by kernel_rfl) rfl) (lines_stops (b + 1 + 2, 0) (b + 1 + 3, 0) (b + 1, 0) (b + 1 + 1, 0) 3 x y z pd qd rd n 4 hne (by omega) lpn lqn lrn (by decide) w3 hbx3.held)
        (fun {A B C} h k x => k (h x)) (fun W k o o' _ hl ho _ h => h.gr (Gr.of (grownBy_putObj' W k o') fun r e => by cases e; exact ⟨o, hl, ho⟩)) (Below.refl _ _) (fun _ => rfl)
        (fun pre W => Lib.IsBuilderF 57 5 b b (Lib.byteCells (catL pre)) W ∧ Boxes (b + 1) (.int .u8 (B8 x)) (.int .u8 (B8 y)) (.int .u8 (B8 z)) (.string ⟨pd.toArray⟩) (.string ⟨qd.toArray⟩) (.string ⟨rd.toArray⟩) 3 W ∧ Below b w1 W) (fun _ _ _ => False) ?_ (fun _ _ _ _ _ h => h.elim) ⟨hbd3, hbx3, hBb3⟩
        (fun u => (((⟨a4.tmps, []⟩ : Act).put (some 67) (.int .i64 u.1.i)).put (some 68) (.string ⟨u.1.d.toArray⟩)).put (some 14) (.string ⟨u.1.d.toArray⟩)) ?_ ?_ ?_ (fun _ _ _ _ _ _ h => h.elim)
      · rintro pre W W' row ⟨i1, i2, i3⟩ hg hr
        have g : Gr W W' := Gr.of hg fun r e => (hr r e).2
        refine ⟨isBuilder_gr i1 g, i2.gr g, i3.trans ⟨hg.os, hg.tape, hg.output, hg.size, fun k hk => hg.block k (by have := i3.size; omega) fun e => ?_⟩⟩
        have := (hr k e.symm).1
        omega
      · intro r u W K hK
        refine wpIn_region_lit (in_assign (wpListIn_nil ?_))
        refine cast ?_ hK
        congr 1
        simp [Act.put, Act.eval, encLP, Array.getD_eq_getD_getElem?, Array.getElem?_setIfInBounds, z4]
      · rintro r pre u W ⟨i1, i2, i3⟩ hlen
        obtain ⟨c0, hc0⟩ : ∃ c0, c0 = (((⟨a4.tmps, []⟩ : Act).put (some 67) (.int .i64 u.1.i)).put (some 68) (.string ⟨u.1.d.toArray⟩)).put (some 14) (.string ⟨u.1.d.toArray⟩) := ⟨_, rfl⟩
        rw [← hc0]
        have y14 : c0.tmps.getD 14 undef = .string ⟨u.1.d.toArray⟩ := by rw [hc0]; exact put_same (by simp [Act.put, z4])
        have y12 : c0.tmps.getD 12 undef = .pointer (some ⟨b, 0, none⟩) := by rw [hc0, put_other (by decide), put_other (by decide), put_other (by decide)]; exact t12
        have zc : c0.tmps.size = 74 := by rw [hc0]; simp [Act.put, z4]
        refine wpIn_block (wpIn_region_lit (in_val (v := .string ⟨u.1.d.toArray⟩) (w' := W) rfl rfl (by have : c0.eval (.tmp 14) = _ := y14; simp [execOp, this]) ?_))
        obtain ⟨c1, hc1⟩ : ∃ c1, c1 = c0.put (some 69) (.string ⟨u.1.d.toArray⟩) := ⟨_, rfl⟩
        rw [← hc1]
        refine in_call rfl rfl (run_call (enters_of Try.func25 (by kernel_rfl) rfl)) ?_
        have ec : (#[Operand.tmp 12, .tmp 69] : Array Operand).map c1.eval = #[.pointer (some ⟨b, 0, none⟩), .string ⟨u.1.d.toArray⟩] := by
          have e1 : c1.eval (.tmp 12) = .pointer (some ⟨b, 0, none⟩) := by show c1.tmps.getD 12 undef = _; rw [hc1, put_other (by decide)]; exact y12
          have e2 : c1.eval (.tmp 69) = .string ⟨u.1.d.toArray⟩ := by show c1.tmps.getD 69 undef = _; rw [hc1]; exact put_same (by omega)
          simp [e1, e2]
        rw [ec]
        have hcl := catL_len pre
        have hul := u.2.1
        have hWs : b ≤ W.heap.size := by have := i3.size; omega
        refine (writeString_k b b _ ⟨u.1.d.toArray⟩ W i1 (by rw [Lib.byteCells_length]; show _ + u.1.d.toArray.size ≤ _; rw [List.size_toArray]; omega) hWs).mono ?_
        rintro e W' ⟨rfl, k0, k1, k2⟩
        refine ⟨_, rfl, wpListIn_nil ?_⟩
        have hbc : Lib.byteCells (catL pre) ++ Lib.strCells ⟨u.1.d.toArray⟩ = Lib.byteCells (catL (pre ++ [u])) := by rw [catL_snoc]; simp [Lib.byteCells, Lib.strCells]
        rw [hbc] at k0
        have hbx := i2.others (by omega) k2
        refine ⟨⟨k1.size, fun k o h1 h2 h3 => k2 k o h2 (fun e => ?_) (fun c fz e => by subst e; cases h3)⟩, fun _ => hbx.held, .inr k0, hbx, i3.trans k1⟩
        injection e with e
        omega
      · rintro D ys W hD hys ⟨i1, i2, i3⟩ hK
        have hcat : catL ys = (lineP x y z pd qd rd n 1 ++ lineP x y z pd qd rd n 2) ++ lineP x y z pd qd rd n 3 := by
          have e : catL ys = ((ys.map (·.1)).map (·.d)).flatten := by simp [catL]
          rw [e, hys]
          simp [linesL, List.range_succ, u8n]
        obtain ⟨C, hC⟩ : ∃ C, C = catL ys := ⟨_, rfl⟩
        rw [← hC] at hcat i1
        have hCl : C.length = 3 * n := by rw [hcat]; simp only [List.length_append,lineP_len]; omega
        rw [← hcat] at hW
        show Code.wp _ _ _ _ _
        obtain ⟨a5, ha5⟩ : ∃ a5 : Act, a5 = { a4 with defers := { target := .collected D, args := #[] } :: a4.defers } := ⟨_, rfl⟩
        rw [← ha5]
        have z5 : a5.tmps.size = 74 := by rw [ha5]; exact z4
        have d5 : a5.defers = [{ target := .collected D, args := #[] }] := by rw [ha5, d4]
        refine wp_seq (wp_region_list (wl_call rfl (run_call (enters_of Try.func26 (by kernel_rfl) rfl)) ?_))
        have ed : (#[Operand.tmp 12] : Array Operand).map a5.eval = #[.pointer (some ⟨b, 0, none⟩)] := by
          have e1 : a5.eval (.tmp 12) = .pointer (some ⟨b, 0, none⟩) := by show a5.tmps.getD 12 undef = _; rw [ha5]; exact t12
          simp [e1]
        rw [ed]
        refine (Try.Builder_String_any_k b b C W i1 (by have := i3.size; omega)).mono ?_
        rintro e W2 ⟨rfl, _, k1, k2⟩
        refine ⟨_, rfl, ?_⟩
        have hD2 : W2.heap[D]? = some (.deferred (some [])) := k2 D _ hK (fun e => by injection e with e; omega) (fun c fz e => by cases e)
        obtain ⟨a6, ha6⟩ : ∃ a6, a6 = a5.put (some 71) (.string ⟨C.toArray⟩) := ⟨_, rfl⟩
        rw [← ha6]
        have z6 : a6.tmps.size = 74 := by rw [ha6, put_len, z5]
        have v71 : a6.tmps.getD 71 undef = .string ⟨C.toArray⟩ := by rw [ha6]; exact put_same (by omega)
        have v1 : a6.tmps.getD 1 undef = .int .i64 s := by rw [ha6, put_other (by decide), ha5]; exact t1
        have d6 : a6.defers = [{ target := .collected D, args := #[] }] := by rw [ha6]; exact d5
        have hSf : SR ⟨74, [{ target := .collected D, args := #[] }]⟩ W2.heap.size (.bare fun _ => False) W2 ⟨slots [(1, .int .i64 s), (71, .str C)], fun _ => none, 0⟩ a6 W2 (.bare fun _ => False) := by
          refine ⟨fun t => ?_, d6, z6, hr_bare _ _, Below.refl _ _, Ext.refl _ _⟩
          show VR _ _ (slots [(1, .int .i64 s), (71, .str C)] t) _
          rw [slots_cons, slots_cons]
          split
          · rename_i e; subst e; rw [v1]; exact VR_int
          · split
            · rename_i e; subst e; rw [v71]; exact VR_str
            · simp [slots, VR, VR1]
        obtain ⟨M, hMe⟩ : ∃ M : VS → Prop, M = fun S' => S'.tm 4 = .str (C.take s) ∧ S'.tm 5 = .int .i64 0 := ⟨_, rfl⟩
        refine vlist_sound (K := M) _ _ a6 W2 _ (dstOk74 (by kernel_rfl)) ?_ hSf (fun S' a7 w7 ρ7 hk hs7 => ?_)
        · rw [← vl_def]
          have hM : ∀ S' : VS, (S'.tm 4 = .str (C.take s) ∧ S'.tm 5 = .int .i64 0) → M S' := by rw [hMe]; exact fun _ h => h
          clear hMe
          repeat' (first|(with_reducible first|refine yrl (by constructor) ?_|refine jk (fun M hM=>?_)|(refine hM _ ?_;clear hM M)|refine xb3 (by decide) ?_|refine yqa (by assumption) ?_ ?_|refine yqb (by assumption) ?_ ?_)|((with_reducible refine je ?_)<;>(first|rfl|assumption|(simp only [znl,nls_u,nls_prt,nl_prt,nls_padX,nls_padF,nls_metP];(first|done|fail))))|(with_reducible refine jf (by (simp only [↓reduceIte,zlk,Nat.reduceEqDiff,reduceCtorEq]);exact rfl) ?_)|((with_reducible first|refine jg (fun hc=>?_) (fun hc=>?_)|refine jh (fun hc=>?_) (fun hc=>?_))<;>(try simp (disch:=omega) only [zhb] at hc)<;>(try (exfalso;omega))<;>(try subst hc))|(with_reducible refine ji (by omega) ?_)|(simp (config := { maxSteps := 400000 }) only [↓jt,↓reduceIte,zvs,reduceCtorEq,Nat.reduceEqDiff,Nat.reduceAdd,Nat.reduceLeDiff,Nat.reduceMul,Int.reduceBNe,Int.reduceBEq,Int.reduceEq,Int.reduceNe,Int.reduceLT,Int.reduceLE,Int.reduceGT,Int.reduceGE,Int.reduceNeg,Int.reduceToNat,Nat.reduceLT,Nat.reduceSub,tab,hCl,Int.toNat_natCast])|(simp (disch:=omega) only [ziw]))
        · rw [hMe] at hk
          obtain ⟨k4, k5⟩ := hk
          have r4 := (VR.str (k4 ▸ hs7.tm 4 : VR _ _ (.str (C.take s)) _))
          have r5 := (VR.int (k5 ▸ hs7.tm 5 : VR _ _ (.int .i64 0) _))
          have hDl : D < W2.heap.size := (Array.getElem?_eq_some_iff.1 hD2).1
          have hK' : w7.heap[D]? = some (.deferred (some [])) := by rw [hs7.below.block D hDl]; exact hD2
          have g : Gr w7 (w7.putObj D (.deferred none)) := Gr.of (grownBy_putObj' w7 D _) fun r e => by cases e; exact ⟨_, hK', rfl⟩
          have d7 : a7.defers = [{ target := .collected D, args := #[] }] := hs7.defers
          refine wp_ret ?_
          show Q .ret a7 w7
          rw [hQ]
          show LeavesInM Fence.wide 5 Try.prog Try.f16 a7.tmps _ a7.defers .returning w7
          rw [d7]
          refine ⟨by simp, .inl ⟨D, _, rfl, run_takeDeferred hK', ?_⟩⟩
          refine ⟨_, results_tmp2 rfl _ _ _, _, rfl, ?_, ?_⟩
          · have q1 : w.heap.size ≤ b := by rw [hb]; exact hS.below.size
            have q2 : w.heap.size ≤ W2.heap.size := by have := k1.size; have := i3.size; omega
            have q3 := hB3.size
            refine (((hS.below.trans (i3.mono q1)).trans (k1.mono q1)).trans (hs7.below.mono q2)).trans ⟨rfl, rfl, rfl, by simp, fun k hk => World.putObj_heap_other (fun e => ?_)⟩
            omega
          · rw [hW, r4, r5]
            simp [joinRV, VR, VRs, VR1, C1]
end Go.Proofs.Ytoibnghkcdopeaa.V
end
section
namespace Go.Proofs.Ytoibnghkcdopeaa.V
open Go Go.Proofs.Ytoibnghkcdopeaa Go.Proofs.Ytoibnghkcdopeaa.Gf
set_option maxRecDepth 100000
def znB1 := And.intro @nls_u <| And.intro @nls_prt <| And.intro @nl_prt <| True.intro
set_option maxHeartbeats 4000000
theorem reach47 : reachBytes ≤ 2 ^ 47 := by decide
theorem one_row {d : List UInt8} (h : rowsN d.length = 1) (p : UInt8) (v : UInt8) (e : nth (partOf d p) 0 = v) : partOf d p = [v] := by
  refine Gf.ext_nth (by rw [partOf_len, h]; rfl) fun i hi => ?_
  rw [partOf_len, h] at hi
  obtain rfl : i = 0 := by omega
  rw [e]; rfl
theorem fixed7_spec : Spec Try.prog 9 [] (.bool true) := by
  have h1 := cut_spec [97, 98, 99] (by decide)
  have h2 := cut_spec [] (by decide)
  obtain ⟨r1, r2, r3⟩ := part_row [97, 98, 99] 0 (by decide)
  have e1 := one_row (d := [97, 98, 99]) (by decide) 1 97 (r1.trans (by decide))
  have e3 := one_row (d := [97, 98, 99]) (by decide) 3 99 (r3.trans (by decide))
  have e5 : (partOf [97, 98, 99] 5).length = 1 := by rw [partOf_len]; decide
  simp only [cutS] at h1 h2
  rw [e1, e3] at h1
  generalize partOf [97, 98, 99] 2 = p2 at h1
  generalize partOf [97, 98, 99] 4 = p4 at h1
  generalize partOf [97, 98, 99] 5 = p5 at h1 e5
  generalize partOf [] 1 = q1 at h2
  generalize partOf [] 2 = q2 at h2
  generalize partOf [] 3 = q3 at h2
  generalize partOf [] 4 = q4 at h2
  generalize partOf [] 5 = q5 at h2
  clear r1 r2 r3 e1 e3
  simp only [encPrts,List.map_cons,List.map_nil,encPrt] at h1 h2
  have hv1 : veq (.agg [.int .i64 1, .str [97]]) (.agg [.int .i64 1, .str [97]]) = true := by simp [veq, veqs]
  have hv3 : veq (.agg [.int .i64 3, .str [99]]) (.agg [.int .i64 3, .str [99]]) = true := by simp [veq, veqs]
  have hf : ∀ (a : Int) (s : List UInt8), Fit (.st [.int .i64, .str]) (.agg [.int .i64 a, .str s]) := fun a s => by simp [Fit, FitL]
  refine spec_ok Try.func9 rfl rfl (by kernel_rfl) (k := 0) rfl (by decide) ?_
  repeat' (first|(with_reducible first|refine yrl (by constructor) ?_|refine jk (fun M hM=>?_)|(refine hM _ ?_;clear hM M)|refine xb3 (by decide) ?_|refine yqa (by assumption) ?_ ?_|refine yqb (by assumption) ?_ ?_)|((with_reducible refine je ?_)<;>(first|rfl|assumption|(simp only [znl,znB1];(first|done|fail))))|(with_reducible refine jf (by (simp only [↓reduceIte,zlk,Nat.reduceEqDiff,reduceCtorEq]);exact rfl) ?_)|((with_reducible first|refine jg (fun hc=>?_) (fun hc=>?_)|refine jh (fun hc=>?_) (fun hc=>?_))<;>(try simp (disch:=omega) only [zhb] at hc)<;>(try (exfalso;omega))<;>(try subst hc))|(with_reducible refine ji (by omega) ?_)|(simp (config := { maxSteps := 400000 }) only [↓jt,↓reduceIte,zvs,reduceCtorEq,Nat.reduceEqDiff,Nat.reduceAdd,Nat.reduceLeDiff,Nat.reduceMul,Int.reduceBNe,Int.reduceBEq,Int.reduceEq,Int.reduceNe,Int.reduceLT,Int.reduceLE,Int.reduceGT,Int.reduceGE,Int.reduceNeg,Int.reduceToNat,Nat.reduceLT,Nat.reduceSub,tab,hv1,hv3,hf,e5,Try.results9,jTA])|(simp (disch:=omega) only [ziw]))
  all_goals first
    | (exfalso; omega)
    | (simp only [zrds]; done)
    | (simp only [show (((5 : Nat) : Int) == 5) = true from rfl]; simp only [zrds]; done)
abbrev partT : Ty := .fcons (.int .i64) (.fcons .str .fnil)
def mkPrt (x : Int × List UInt8 × Unit) : Prt := ⟨x.1, x.2.1⟩
theorem toV_prts (x : List (Int × List UInt8 × Unit)) : toV (.sl partT) x = encPrts (x.map mkPrt) := by
  have e : toV (.sl partT) x = .dat prtSh (x.map (toV partT)) := rfl
  rw [e, encPrts, List.map_map]
  refine congrArg (VV.dat prtSh) ?_
  exact List.map_congr_left fun s _ => rfl
end Go.Proofs.Ytoibnghkcdopeaa.V
end
section
namespace Go.Proofs.Ytoibnghkcdopeaa.V
open Go Go.Proofs.Ytoibnghkcdopeaa Go.Proofs.Ytoibnghkcdopeaa.Gf
set_option maxRecDepth 100000
set_option maxHeartbeats 4000000
theorem rd_pre {H : Heap} {m k : Nat} {e : Sh} {els els' : List VV} {n : Nat} (h : H m = some (.row (.arr k e) (.agg els))) (hn : n ≤ els.length) (he : els.take n = els') (hl : nls els' = true) : Rd H (.sl (some (m, [], 0)) n) (.dat e els') := by
  subst he
  simp only [Rd]
  exact ⟨_, _, k, e, els, h, rfl, rfl, by omega, by simpa using hl, by simp⟩
end Go.Proofs.Ytoibnghkcdopeaa.V
end
section
namespace Go.Proofs.Ytoibnghkcdopeaa.V
open Go Go.Proofs.Ytoibnghkcdopeaa Go.Proofs.Ytoibnghkcdopeaa.Gf
set_option maxRecDepth 100000
set_option maxHeartbeats 4000000
theorem pick3_three {n : Int} {p q r : Prt} (g : GoodP n [p, q, r]) (l : List Prt) : pick3 n [] ([p, q, r] ++ l) = ([p, q, r], 0) := by
  obtain ⟨g1, g2, g3⟩ := g
  have a1 := g2 p (by simp)
  have a2 := g2 q (by simp)
  have a3 := g2 r (by simp)
  have b1 := g3 p (by simp)
  have b2 := g3 q (by simp)
  have b3 := g3 r (by simp)
  simp only [List.map_cons,List.map_nil,List.nodup_cons,List.mem_cons,List.not_mem_nil,or_false,not_or] at g1
  obtain ⟨⟨c1, c2⟩, c3, _⟩ := g1
  have e1 : hasI [] p.i = false := rfl
  have e2 : hasI [p] q.i = false := by simp only [hasI,List.any_cons,List.any_nil,Bool.or_false,beq_eq_false_iff_ne,ne_eq]; exact c1
  have e3 : hasI [p, q] r.i = false := by
    simp only [hasI,List.any_cons,List.any_nil,Bool.or_false,Bool.or_eq_false_iff,beq_eq_false_iff_ne,ne_eq]
    exact ⟨c2, c3⟩
  have h1 : ¬(p.i < 1 ∨ 5 < p.i) := by omega
  have h2 : ¬(q.i < 1 ∨ 5 < q.i) := by omega
  have h3 : ¬(r.i < 1 ∨ 5 < r.i) := by omega
  have z0 : ([] : List Prt).length ≠ 3 := by decide
  have z1 : ([p] : List Prt).length ≠ 3 := by simp
  have z2 : ([p, q] : List Prt).length ≠ 3 := by simp
  simp only [List.cons_append,List.nil_append]
  rw [pick3, if_neg z0, if_neg h1, e1, if_neg (by decide), if_neg (by simpa using b1)]
  rw [List.nil_append, pick3, if_neg z1, if_neg h2, e2, if_neg (by decide), if_neg (by simpa using b2)]
  rw [List.cons_append, List.nil_append, pick3, if_neg z2, if_neg h3, e3, if_neg (by decide), if_neg (by simpa using b3)]
  rw [List.cons_append, List.cons_append, List.nil_append]
  cases l with
  | nil => rw [pick3]; rfl
  | cons x l => rw [pick3]; rfl
theorem joinR_three {p q r : Prt} {size : Nat} (hs : size ≤ 65536) (g : GoodP (rowsN size) [p, q, r]) (l : List Prt) : joinR ([p, q, r] ++ l) size = (joinP p q r (rowsN size) size, 0) := by
  have h := pick3_three (n := rowsI size) (by rw [rowsI_nat]; exact g) l
  unfold joinR
  rw [if_neg (by omega), h]
  simp only [Int.toNat_natCast]
def prtOf (d : List UInt8) (j : Nat) : Prt := ⟨(j : Int) + 1, partOf d (u8n (j + 1))⟩
theorem u8_prt (d : List UInt8) (j : Nat) : u8 (prtOf d j).i = u8n (j + 1) := by
  unfold u8 prtOf u8n
  congr 1
theorem u8n_ne {a b : Nat} (ha : a < 256) (hb : b < 256) (h : a ≠ b) : u8n a ≠ u8n b := fun e => h (by
  have e1 := B8_u8n a ha
  have e2 := B8_u8n b hb
  rw [e] at e1
  omega)
theorem good_prts (d : List UInt8) {a b c : Nat} (ha : a < 5) (hb : b < 5) (hc : c < 5) (h1 : a ≠ b) (h2 : a ≠ c) (h3 : b ≠ c) : GoodP (rowsN d.length) [prtOf d a, prtOf d b, prtOf d c] := by
  refine ⟨?_, fun p hp => ?_, fun p hp => ?_⟩
  · simp only [List.map_cons,List.map_nil,prtOf,List.nodup_cons,List.mem_cons,List.not_mem_nil,or_false,not_or]
    refine ⟨⟨by omega, by omega⟩, by omega, not_false, List.nodup_nil⟩
  · simp only [List.mem_cons,List.not_mem_nil,or_false] at hp
    rcases hp with rfl | rfl | rfl <;> (simp only [prtOf]; omega)
  · simp only [List.mem_cons,List.not_mem_nil,or_false] at hp
    rcases hp with rfl | rfl | rfl <;> (simp only [prtOf,partOf_len])
theorem join_text (d : List UInt8) {a b c : Nat} (ha : a < 5) (hb : b < 5) (hc : c < 5) (h1 : a ≠ b) (h2 : a ≠ c) (h3 : b ≠ c) : joinP (prtOf d a) (prtOf d b) (prtOf d c) (rowsN d.length) d.length = d := by
  have g1 := u8n_ne (a := a + 1) (b := b + 1) (by omega) (by omega) (by omega)
  have g2 := u8n_ne (a := a + 1) (b := c + 1) (by omega) (by omega) (by omega)
  have g3 := u8n_ne (a := b + 1) (b := c + 1) (by omega) (by omega) (by omega)
  unfold joinP
  rw [u8_prt, u8_prt, u8_prt]
  simp only [prtOf]
  rw [line_parts d g1 g2 g3, line_parts d g1 g2 g3, line_parts d g1 g2 g3, parts_text]
theorem sjoin_text (d : List UInt8) (hd : d.length ≤ 3000) {a b c : Nat} (ha : a < 5) (hb : b < 5) (hc : c < 5) (h1 : a ≠ b) (h2 : a ≠ c) (h3 : b ≠ c) (l : List Prt) (hl : l.length < 2 ^ 30) (hld' : ∀ p ∈ l, p.d.length ≤ 2 ^ 47) :
    Spec Try.prog 16 [encPrts ([prtOf d a, prtOf d b, prtOf d c] ++ l), .int .i64 d.length] (.tup [.str d, .int .i64 0]) := by
  have hr : rowsN d.length ≤ 3000 := by unfold rowsN; omega
  have h := sjoin_spec ([prtOf d a, prtOf d b, prtOf d c] ++ l) (by simp only [List.length_append,List.length_cons,List.length_nil]; omega) (fun p hp => by
    rcases List.mem_append.1 hp with hp | hp
    · simp only [List.mem_cons,List.not_mem_nil,or_false] at hp
      rcases hp with rfl | rfl | rfl <;> (simp only [prtOf,partOf_len]; omega)
    · exact hld' p hp) d.length (by unfold i64P; omega)
  rw [joinR_three (by omega) (good_prts d ha hb hc h1 h2 h3), join_text d ha hb hc h1 h2 h3] at h
  exact h
end Go.Proofs.Ytoibnghkcdopeaa.V
end
section
namespace Go.Proofs.Ytoibnghkcdopeaa.V
open Go Go.RowKit

def allSl (tm : Nat → VV) (v : VV) : List Nat → Prop
  | [] => True
  | j :: l => tm j = v ∧ allSl tm v l
def putSl (v : VV) : List Nat → (Nat → VV) → (Nat → VV)
  | [], tm => tm
  | j :: l, tm => putSl v l (upd tm j v)
def vKeep (P : Program) (t : Nat) (x : Operand) (ts : Array TypeId) (d : Nat) (sl : List Nat) (S : VS) (K : VS → Prop) : Prop := onV (S.tm t) fun v => match v with
  | .sl (some (m, [], 0)) len => bnd (S.hp m) fun b => match b with
    | .row (.arr _ s') (.agg els) => bnd (ts[0]?) fun t0 => bnd (ts[1]?) fun tx => bnd (EL P t0) fun et => bnd (SH P et) fun se => bnd (ZE P et) fun _ => bnd (P.underlying tx) fun u =>
      srcOf S.hp se u (ev S.tm x) fun news _ => cnd (s' = se ∧ len = els.length ∧ 0 < len ∧ allSl S.tm (.sl (some (m, [], 0)) len) sl ∧ (len + news.length) * BY P et ≤ 140737488355328 ∧ len + news.length ≤ 1000000000000)
        (∀ fits : Bool, vif fits (K ⟨upd (putSl (.sl (some (S.nx, [], 0)) len) sl S.tm) d (.sl (some (S.nx, [], 0)) (len + news.length)), upd (upd S.hp m none) S.nx (some (.row (.arr (len + news.length) se) (.agg (els ++ news)))), S.nx + 1⟩)
         (K ⟨upd S.tm d (.sl (some (S.nx, [], 0)) (len + news.length)), upd S.hp S.nx (some (.row (.arr (len + news.length) se) (.agg (els ++ news)))), S.nx + 1⟩))
    | _ => False
  | _ => False
section
variable {P : Program} {N : NN} {B : Nat} {ρ0 ρ : Names} {w0 w : World} {a : Act} {S : VS}
theorem TM.putSl {tm : Nat → VV} {v : VV} : ∀ (sl : List Nat) (tm : Nat → VV), TM ρ w tm a → (∀ j ∈ sl, VR ρ w v (a.tmps.getD j undef)) → TM ρ w (V.putSl v sl tm) a
  | [], tm, h, _ => h
  | j :: l, tm, h, hv => TM.putSl (tm := tm) l _ (h.upd (hv j (by simp))) fun k hk => hv k (by simp [hk])
theorem allSl_mem {tm : Nat → VV} {v : VV} : ∀ {sl : List Nat}, allSl tm v sl → ∀ j ∈ sl, tm j = v
  | j :: l, h, k, hk => by
    rcases List.mem_cons.1 hk with rfl | hk
    · exact h.1
    · exact allSl_mem h.2 k hk
theorem keep_sound {o : Oper} {t d : Nat} {x : Operand} {ts : Array TypeId} {sl : List Nat} {K : VS → Prop} {Nx : Act → World → Prop} {Q : Exit → Act → World → Prop} (hd : d < N) (hts : ts.size = 2) (ho : o.op = .call { callee := .builtin .append, args := #[.tmp t, x], argTypes := ts }) (hod : o.dst = some d)
    (h : vKeep P t x ts d sl S K) (hS : SR N B ρ0 w0 S a w ρ) (next : ∀ S' a' w' ρ', K S' → SR N B ρ0 w0 S' a' w' ρ' → Nx a' w') : o.wp P a w Nx Q := by
  have hT := hS.tm
  have hh := hS.heap
  unfold vKeep onV at h
  dsimp only at h
  have hs : VR ρ w (S.tm t) (a.eval (.tmp t)) := ev_sound hT (.tmp t)
  split at h
  · rename_i m len e
    rw [e] at hs
    replace h := bnd_iff.1 h
    obtain ⟨blk, hbk, h⟩ := h
    split at h
    · rename_i kk s' els
      replace h := bnd_iff.1 h
      obtain ⟨t0, ht0, h⟩ := h
      replace h := bnd_iff.1 h
      obtain ⟨tx, ht1, h⟩ := h
      replace h := bnd_iff.1 h
      obtain ⟨et, het, h⟩ := h
      replace h := bnd_iff.1 h
      obtain ⟨se, hse, h⟩ := h
      replace h := bnd_iff.1 h
      obtain ⟨z, hz, h⟩ := h
      replace h := bnd_iff.1 h
      obtain ⟨u, hu, h⟩ := h
      have hts' : ts = #[t0, tx] := by
        obtain ⟨l⟩ := ts
        match l, hts with
        | [p, q], _ => simp at ht0 ht1; rw [ht0, ht1]
      subst hts'
      obtain ⟨news, m2, ncs, h, hsn, hcn, hsrc, hnl, _⟩ := src_sound hh hT hu _ h
      obtain ⟨s2, zv, inf, hs', hi, hzv, hH, hsz, hV⟩ := ZE_spec hz
      rw [hse] at hs'
      injection hs' with hs'
      subst hs'
      have hul := EL_spec het
      obtain ⟨inf', d0, hi', hud, hisz, hrow⟩ := shOf_spec hse
      rw [hi] at hi'
      injection hi' with hi'
      subst hi'
      have hbyv : BY P et = inf.bytes := by simp [BY, hi]
      rw [hbyv] at h
      rw [← hisz] at hsrc
      obtain ⟨⟨rfl, rfl, hpos, hall, hb1, hb2⟩, hAB⟩ := h
      have hA := (hAB true).1 rfl
      have hB := (hAB false).2 rfl
      have run : ∀ (v : Value) (w' : World), (Builtin.append_ #[t0, tx] o.type #[a.eval (.tmp t), a.eval x]).run P w = .ok v w' → (execOp a.eval o).run P w = .ok (.value v) w' := by
        intro v w' hr
        simp [execOp, ho, resolve, invoke, builtin, hr]
      rcases hs.sl with ⟨h0, A, hp⟩ | ⟨l, cap, e', j', hl, hp, hcap, hate, hroom⟩
      · omega
      · have hrowAt := hh.row m _ _ l hbk hl
        obtain ⟨cs, q1, q2, q3⟩ := hrowAt.cells
        have hhas := hrowAt.has
        simp only [Has] at hhas
        simp only [C1] at q1
        have hlen := HasA.len _ _ hhas.2 q1
        have hoff0 : l.sh.off ([] ++ [0]) = 0 := by rw [hrowAt.sh]; simp [Sh.off]
        have he' : e' = s' := by
          rw [hrowAt.sh] at hate
          simp [Sh.at] at hate
          exact hate.2.symm
        subst he'
        rw [hoff0] at hroom hp
        rw [Nat.zero_add] at hroom
        rw [Nat.add_zero] at hp
        by_cases hfit : els.length + news.length ≤ cap
        · -- there is room
          have hneed : els.length * e'.size + ncs.length ≤ l.room := by
            have : (els.length + news.length) * e'.size ≤ cap * e'.size := Nat.mul_le_mul_right _ hfit
            rw [Nat.add_mul] at this
            omega
          have hth : w.there l.block (l.base + els.length * e'.size) ncs.length := there_part hrowAt.room (by omega)
          have hr := run_append_room_src (P := P) w t0 tx o.type et inf hul hi l.block l.base els.length cap (a.eval x) news.length ncs hsrc hfit (fun j hj => by rw [hisz]; exact (hth j hj).1) (fun j hj => by rw [hisz]; exact (hth j hj).2)
          rw [← hp, hisz] at hr
          have hot : ∀ b, b ≠ l.block → (w.setCells l.block (l.base + els.length * e'.size) ncs).heap[b]? = w.heap[b]? := fun b hb' => setCells_other l.block hb' ncs _ w
          have hsz2 := setCells_size l.block ncs (l.base + els.length * e'.size) w
          have hE : Ext ρ w (ρ.give S.nx ⟨l.block, l.base, l.room, .arr (els.length + news.length) e'⟩) (w.setCells l.block (l.base + els.length * e'.size) ncs) :=
            ext_new (hh.fresh S.nx (Nat.le_refl _)) ⟨l.block, l.base, l.room, .arr (els.length + news.length) e'⟩ (by omega) (fun b _ hb' => hot b hb') (.inr ⟨m, l, hl, rfl⟩)
          have hrow' : RowAt (ρ.give S.nx ⟨l.block, l.base, l.room, .arr (els.length + news.length) e'⟩) (w.setCells l.block (l.base + els.length * e'.size) ncs) ⟨l.block, l.base, l.room, .arr (els.length + news.length) e'⟩ (.arr (els.length + news.length) e') (.agg (els ++ news)) := by
            refine ⟨rfl, ?_, ⟨cs ++ ncs, ?_, ?_, ?_⟩, World.there_setCells hrowAt.room _ _ _⟩
            · simp only [Has]
              exact ⟨by simp, fun v hv => (List.mem_append.1 hv).elim (hhas.2 v) (hsn v)⟩
            · simp only [C1]
              exact CR.join _ _ _ _ (CR.ext hE _ _ q1) (CR.ext hE _ _ hcn)
            · simp only [List.length_append]; omega
            · rw [range_append]
              exact ⟨World.rangeAt_setCells_apart q3 _ _ _ (.inr (.inl (by omega))), by rw [hlen]; exact World.rangeAt_setCells_same w _ _ _ hth⟩
          obtain ⟨g1, g2⟩ := hh.again trivial hl (by rw [hbk]; simp) (l := ⟨l.block, l.base, l.room, .arr (els.length + news.length) e'⟩) rfl hsz2 hot hrow'
          have hBl := setCells_below (hh.lt m l hl).1 ncs (l.base + els.length * e'.size) _ (Below.refl B w)
          unfold Oper.wp
          rw [run _ _ hr]
          show Nx (a.put o.dst _) _
          rw [hod]
          have hz := put_size a (some d) (.slice (some ⟨l.block, l.base, none⟩) (els.length + news.length) cap)
          refine next _ _ _ _ hA ⟨TM.put (d := some d) (TM.putSl (tm := S.tm) sl S.tm (hT.ext g2) fun j hj => ?_) (fun t ht => by injection ht with ht; subst ht; rw [hS.size]; exact hd) ?_, by rw [hz.2]; exact hS.defers, by rw [hz.1]; exact hS.size, g1, hS.below.trans hBl, hS.ext.trans g2⟩
          · have hj1 := hT j
            rw [allSl_mem hall j hj] at hj1
            rcases hj1.sl with ⟨h0, _⟩ | ⟨l2, cap2, e2, j2, hl2, hp2, hcap2, hate2, hroom2⟩
            · omega
            · rw [hl] at hl2
              injection hl2 with hl2
              subst hl2
              rw [hp2]
              simp only [VR,VR1,C1]
              have he2 : e2 = e' := by
                rw [hrowAt.sh] at hate2
                simp [Sh.at] at hate2
                exact hate2.2.symm
              subst he2
              rw [hoff0] at hroom2 ⊢
              exact .inr ⟨_, cap2, e2, els.length + news.length, by rw [give_ap, if_pos rfl], by simp [Sh.off], hcap2, rfl, by simp [Sh.off]; omega⟩
          · simp only [VR,VR1,C1]
            exact .inr ⟨_, cap, e', els.length + news.length, by rw [give_ap, if_pos rfl], by simp [Sh.off], hfit, rfl, by simp [Sh.off]; exact hroom⟩
        · -- a new row
          have hold : (Builtin.firstCells inf.size els.length (.slice (some ⟨l.block, l.base, none⟩) els.length cap)).run P w.drew = .ok cs.toArray w.drew :=
            run_firstCells_some w.drew inf.size els.length ⟨l.block, l.base, none⟩ els.length cap cs (by rw [hisz]; exact hlen) (fun j v hj => by rw [Addr.add_mid]; simpa using q3 j v hj)
          have hr := run_append_grow_src (P := P) w t0 tx o.type et inf zv hul hi hzv _ els.length cap cs hold (a.eval x) news.length ncs hsrc (by omega) (by omega) (growslice_fits (by omega) hb1)
          rw [← hp] at hr
          have hg := grown_good (K := fun v H n' => v = .sl (some (S.nx, [], 0)) (els.length + news.length) ∧ H = upd S.hp S.nx (some (.row (.arr (els.length + news.length) e') (.agg (els ++ news)))) ∧ n' = S.nx + 1) (et := et) (zc := zv.cells) hh trivial q1 hhas.2 hcn hsn hsz (grownCap_ge w (els.length + news.length) cap et) ⟨rfl, rfl, rfl⟩
          unfold Oper.wp
          rw [run _ _ hr]
          show Nx (a.put o.dst _) _
          rw [hod]
          obtain ⟨v, H', n', ρ', ⟨rfl, rfl, rfl⟩, hv, hh', he, hbl⟩ := hg
          have hz := put_size a (some d) (.slice (some ⟨w.heap.size, 0, none⟩) (els.length + news.length) (grownCap w (els.length + news.length) cap et))
          exact next _ _ _ _ hB ⟨TM.put (d := some d) (hT.ext he) (fun t ht => by injection ht with ht; subst ht; rw [hS.size]; exact hd) hv, by rw [hz.2]; exact hS.defers, by rw [hz.1]; exact hS.size, hh', hS.below.trans hbl, hS.ext.trans he⟩
    · exact h.elim
  · exact h.elim
theorem vlist_soundR {ops : Array Oper} {Q : Exit → Act → World → Prop} {K : VS → Prop} (rest : List Oper) : ∀ (l : List Oper) (S : VS) (a : Act) (w : World) (ρ : Names), (∀ o ∈ l, ∀ t, o.dst = some t → t < N) → vlist P ops.toList l S K → SR N B ρ0 w0 S a w ρ →
    (∀ S' a' w' ρ', K S' → SR N B ρ0 w0 S' a' w' ρ' → wpList P ops Q rest a' w') → wpList P ops Q (l ++ rest) a w
  | [], S, a, w, ρ, _, h, hS, next => next S a w ρ h hS
  | o :: l, S, a, w, ρ, hd, h, hS, next => by
    show wpList P ops Q (o :: (l ++ rest)) a w
    refine wpList_step fun Kx hKx => ?_
    exact vstep_sound (hd o (by simp)) h hS fun S' a' w' ρ' hk hS' => hKx _ _ (vlist_soundR rest l S' a' w' ρ' (fun o ho => hd o (by simp [ho])) hk hS' next)
end
section
variable {P : Program} {n0 : Nat} {S : VS} {K : VX → VS → Prop}
theorem ok_keep {id : Nat} {l : List Oper} (i t d : Nat) (sl : List Nat) {x : Operand} {ts : Array TypeId} {ty : TypeId} {ps : String} {af : Array Edge} (hts : ts.size = 2)
    (ho : l[i]? = some ⟨some d, .call { callee := .builtin .append, args := #[.tmp t, x], argTypes := ts }, ty, ps, af, none⟩)
    (h : ∀ M : VS → Prop, (∀ S, K .normal S → M S) → vl P l (l.take i) S fun S1 => vKeep P t x ts d sl S1 fun S2 => vl P l (l.drop (i + 1)) S2 M) : Ok P n0 (.region id l.toArray false) S K := fun N B ρ0 w0 Q a w ρ h0 hok hS next => by
  simp only [codeOk,List.all_eq_true] at hok
  have hok' : ∀ o ∈ l, ∀ t, o.dst = some t → t < N := fun o ho t ht => by have := hok o ho; rw [ht] at this; simpa using this
  have hi : i < l.length := (List.getElem?_eq_some_iff.1 ho).1
  have hsp : l = l.take i ++ (⟨some d, .call { callee := .builtin .append, args := #[.tmp t, x], argTypes := ts }, ty, ps, af, none⟩ :: l.drop (i + 1)) := by
    have := List.drop_eq_getElem_cons hi
    rw [(List.getElem?_eq_some_iff.1 ho).2] at this
    rw [← this, List.take_append_drop]
  have hmem : ∀ o, o ∈ l.take i → o ∈ l := fun o h => List.mem_of_mem_take h
  have hmem2 : ∀ o, o ∈ l.drop (i + 1) → o ∈ l := fun o h => List.mem_of_mem_drop h
  have hdm := hok' _ (by rw [hsp]; simp : (⟨some d, .call { callee := .builtin .append, args := #[.tmp t, x], argTypes := ts }, ty, ps, af, none⟩ : Oper) ∈ l) d rfl
  have h := h _ fun _ h => h
  rw [vl_def] at h
  refine wp_region_list ?_
  show wpList P l.toArray Q l a w
  conv => arg 4; rw [hsp]
  refine vlist_soundR (K := fun S1 => vKeep P t x ts d sl S1 fun S2 => vl P l (l.drop (i + 1)) S2 (K .normal)) _ _ S a w ρ (fun o ho t ht => hok' o (hmem o ho) t ht) h hS fun S1 a1 w1 ρ1 hk hs1 => ?_
  refine wpList_step fun Kx hKx => ?_
  rw [if_pos (by simp [Region.wanted])]
  refine keep_sound hdm hts rfl rfl hk hs1 fun S2 a2 w2 ρ2 hk2 hs2 => hKx _ _ ?_
  rw [vl_def] at hk2
  exact vlist_sound (K := K .normal) _ S2 a2 w2 ρ2 (fun o ho t ht => hok' o (hmem2 o ho) t ht) hk2 hs2 fun S' a' w' ρ' hk hS' => next .normal S' a' w' ρ' hk hS'
end
def zkeep := And.intro @vKeep.eq_1 <| And.intro @putSl.eq_1 <| And.intro @putSl.eq_2 <| And.intro @allSl.eq_1 <| And.intro @allSl.eq_2 True.intro
end Go.Proofs.Ytoibnghkcdopeaa.V
end
section
namespace Go.Proofs.Ytoibnghkcdopeaa.V
open Go Go.Proofs.Ytoibnghkcdopeaa Go.Proofs.Ytoibnghkcdopeaa.Gf
set_option maxRecDepth 100000
def znB6 := And.intro @nls_u <| And.intro @nls_prt <| And.intro @nl_prt <| True.intro
set_option maxHeartbeats 4000000
theorem cut_prt (d : List UInt8) {p : Prt} (h : p ∈ cutS d) : ∃ j, j < 5 ∧ p = prtOf d j := by
  simp only [cutS,List.mem_cons,List.not_mem_nil,or_false] at h
  rcases h with rfl | rfl | rfl | rfl | rfl
  · exact ⟨0, by decide, rfl⟩
  · exact ⟨1, by decide, rfl⟩
  · exact ⟨2, by decide, rfl⟩
  · exact ⟨3, by decide, rfl⟩
  · exact ⟨4, by decide, rfl⟩
theorem cut_three (d : List UInt8) {T L : List Prt} (hp : (T ++ L).Perm (cutS d)) (hT : T.length = 3) : ∃ a b c, a < 5 ∧ b < 5 ∧ c < 5 ∧ a ≠ b ∧ a ≠ c ∧ b ≠ c ∧ T = [prtOf d a, prtOf d b, prtOf d c] := by
  have hn : ((T ++ L).map (·.i)).Nodup := ((hp.map (·.i)).nodup_iff).2 (by simp [cutS])
  obtain ⟨p, q, r, rfl⟩ : ∃ p q r, T = [p, q, r] := by
    match T, hT with
    | [p, q, r], _ => exact ⟨p, q, r, rfl⟩
  · obtain ⟨a, ha, rfl⟩ := cut_prt d (hp.mem_iff.1 (by simp) : p ∈ cutS d)
    obtain ⟨b, hb, rfl⟩ := cut_prt d (hp.mem_iff.1 (by simp) : q ∈ cutS d)
    obtain ⟨c, hc, rfl⟩ := cut_prt d (hp.mem_iff.1 (by simp) : r ∈ cutS d)
    simp only [List.cons_append,List.nil_append,List.map_cons,List.nodup_cons,List.mem_cons,not_or] at hn
    obtain ⟨⟨h1, h2, _⟩, ⟨h3, _⟩, _⟩ := hn
    exact ⟨a, b, c, ha, hb, hc, fun e => h1 (by rw [e]), fun e => h2 (by rw [e]), fun e => h3 (by rw [e]), rfl⟩
theorem pick3_two {n : Int} {p q : Prt} (h1 : ¬(p.i < 1 ∨ 5 < p.i)) (h2 : ¬(q.i < 1 ∨ 5 < q.i)) (hne : p.i ≠ q.i) (l1 : (p.d.length : Int) = n) (l2 : (q.d.length : Int) = n) : pick3 n [] [p, q] = ([p, q], 4) := by
  have e1 : hasI [] p.i = false := rfl
  have e2 : hasI [p] q.i = false := by simp only [hasI,List.any_cons,List.any_nil,Bool.or_false,beq_eq_false_iff_ne,ne_eq]; exact hne
  have z0 : ([] : List Prt).length ≠ 3 := by decide
  have z1 : ([p] : List Prt).length ≠ 3 := by simp
  rw [pick3, if_neg z0, if_neg h1, e1, if_neg (by decide), if_neg (by simpa using l1)]
  rw [List.nil_append, pick3, if_neg z1, if_neg h2, e2, if_neg (by decide), if_neg (by simpa using l2)]
  rfl
theorem sjoin_two (d : List UInt8) (hd : d.length ≤ 3000) {a b : Nat} (ha : a < 5) (hb : b < 5) (h1 : a ≠ b) : Spec Try.prog 16 [encPrts [prtOf d a, prtOf d b], .int .i64 d.length] (.tup [.str [], .int .i64 4]) := by
  have hr : rowsN d.length ≤ 3000 := by unfold rowsN; omega
  have h := sjoin_spec [prtOf d a, prtOf d b] (by simp) (fun p hp => by
    simp only [List.mem_cons,List.not_mem_nil,or_false] at hp
    rcases hp with rfl | rfl <;> (simp only [prtOf,partOf_len]; omega)) d.length (by unfold i64P; omega)
  have e := pick3_two (n := rowsI d.length) (p := prtOf d a) (q := prtOf d b) (by simp only [prtOf]; omega) (by simp only [prtOf]; omega) (by simp only [prtOf]; omega) (by simp only [prtOf,partOf_len,rowsI_nat]) (by simp only [prtOf,partOf_len,rowsI_nat])
  have ej : joinR [prtOf d a, prtOf d b] d.length = ([], 4) := by
    unfold joinR
    rw [if_neg (by omega), e]
  rw [ej] at h
  exact h
theorem ok_stop {P : Program} {n0 : Nat} {S : VS} {K : VX → VS → Prop} {l : Array Oper} {d : Bool} (i : Nat) (h : Ok P n0 (.region i l d) S K) : Ok P n0 (.region i l d) S K := h
theorem getL {l : List Prt} {k : Nat} (h : k < l.length) : (l.map encPrt)[k]? = some (.agg [.int .i64 (l.getD k default).i, .str (l.getD k default).d]) := getP h
theorem perm_step {T L Z : List Prt} {k : Nat} (h : k < L.length) (hp : (T ++ L).Perm Z) : ((T ++ [L.getD k default]) ++ (L.take k ++ L.drop (k + 1))).Perm Z := by
  refine List.Perm.trans ?_ hp
  have e : L.drop k = L.getD k default :: L.drop (k + 1) := by rw [List.getD_eq_getElem?_getD, List.getElem?_eq_getElem h]; exact List.drop_eq_getElem_cons h
  have e2 : L = L.take k ++ (L.getD k default :: L.drop (k + 1)) := by rw [← e, List.take_append_drop]
  conv => rhs; rw [e2]
  rw [List.append_assoc]
  refine List.Perm.append_left T ?_
  show (L.getD k default :: (L.take k ++ L.drop (k + 1))).Perm _
  exact (List.perm_middle).symm
theorem three7_law (x0 x1 : List UInt8) (x2 : List (Int × List UInt8 × Unit)) (g0 : good .str x0) (g1 : good (.arr 3 .u8) x1) (g2 : good (.sl partT) x2) (l0 : Ty.lite .str x0) (l1 : Ty.lite (.arr 3 .u8) x1) (l2 : Ty.lite (.sl partT) x2) :
    Spec Try.prog 7 [toV .str x0, toV (.arr 3 .u8) x1, toV (.sl partT) x2] (.bool true) := by
  have hd47 : x0.length ≤ 2 ^ 47 := Nat.le_trans (show x0.length ≤ reachBytes from l0) reach47
  have h3 : x1.length = 3 := g1.1
  have hl47 : (x2.map mkPrt).length ≤ 2 ^ 47 := by rw [List.length_map]; exact Nat.le_trans (show x2.length ≤ reachBytes from l2.1) reach47
  have hb47 : ∀ p ∈ x2.map mkPrt, p.d.length ≤ 2 ^ 47 := fun p hp => by
    obtain ⟨y, hy, rfl⟩ := List.mem_map.1 hp
    exact Nat.le_trans (show y.2.1.length ≤ reachBytes from (l2.2 y hy).2.1) reach47
  have e1 : toV (.arr 3 .u8) x1 = .agg (x1.map encU) := by simp only [toV]; rfl
  rw [toV_prts, e1]
  simp only [toV]
  generalize x2.map mkPrt = bh at *
  clear g0 g1 g2 l0 l1 l2 e1
  generalize x0 = d at *
  generalize x1 = pk at *
  have hF := fixed7_spec
  have hPs : Has (.arr 3 .cell) (.agg (pk.map encU)) := by
    simp only [Has,List.length_map]
    refine ⟨h3, fun v hv => ?_⟩
    obtain ⟨b, _, rfl⟩ := List.mem_map.1 hv
    simp [encU, Has, VV.leaf]
  have hf : ∀ (a : Int) (s : List UInt8), Has prtSh (.agg [.int .i64 a, .str s]) := fun a s => by simp [Has, HasL, VV.leaf]
  refine spec_ok Try.func7 rfl rfl (by kernel_rfl) (k := 3) rfl (by decide) ?_
  by_cases hg : d.length ≤ 3000 ∧ bh.length ≤ 10
  · obtain ⟨hl, hb⟩ := hg
    have hA := cut_spec d (by omega)
    have l5A : (cutS d).length = 5 := rfl
    obtain ⟨Z, hZ⟩ : ∃ Z, Z = cutS d := ⟨_, rfl⟩
    rw [← hZ] at hA l5A
    repeat' (first|(with_reducible first|refine yrl (by constructor) ?_|refine jk (fun M hM=>?_)|(refine hM _ ?_;clear hM M)|refine xb3 (by decide) ?_|refine yqa (by assumption) ?_ ?_|refine yqb (by assumption) ?_ ?_)|((with_reducible refine je ?_)<;>(first|rfl|assumption|(simp only [znl,znB6];(first|done|fail))))|(with_reducible refine jf (by (simp only [↓reduceIte,zlk,Nat.reduceEqDiff,reduceCtorEq]);exact rfl) ?_)|((with_reducible first|refine jg (fun hc=>?_) (fun hc=>?_)|refine jh (fun hc=>?_) (fun hc=>?_))<;>(try simp (disch:=omega) only [zhb] at hc)<;>(try (exfalso;omega))<;>(try subst hc))|(with_reducible refine ji (by omega) ?_)|(simp (config := { maxSteps := 400000 }) only [↓jt,↓reduceIte,zvs,reduceCtorEq,Nat.reduceEqDiff,Nat.reduceAdd,Nat.reduceLeDiff,Nat.reduceMul,Int.reduceBNe,Int.reduceBEq,Int.reduceEq,Int.reduceNe,Int.reduceLT,Int.reduceLE,Int.reduceGT,Int.reduceGE,Int.reduceNeg,Int.reduceToNat,Nat.reduceLT,Nat.reduceSub,tab,hPs,l5A,Try.results7,jTA])|(simp (disch:=omega) only [ziw]))
    all_goals (try (exfalso; omega))
    all_goals (
      refine ok_loop (fun x : Nat × List Prt × List Prt => ⟨slots [(0, .str d), (2, encPrts bh), (4, .ptr 0 []), (7, encPrts x.2.2), (8, .sl (some (1, [], 0)) x.2.1.length), (29, .int .i64 x.1)], rows [(0, .row (.arr 3 .cell) (.agg (pk.map encU))), (1, .row (.arr x.2.1.length prtSh) (.agg (x.2.1.map encPrt)))], 2⟩)
        (fun x => x.1 ≤ 3 ∧ x.2.1.length = x.1 ∧ x.2.2.length = 5 - x.1 ∧ (x.2.1 ++ x.2.2).Perm Z) (fun x => 3 - x.1) (0, [], Z) ?_ ⟨Nat.zero_le _, rfl, l5A, List.Perm.refl _⟩ (fun x hx => ?_)
      · (refine yrn [(0, 0)] false ?_ ?_<;>(repeat' (first|(with_reducible first|exact ya1|exact ya2|exact ya3|refine jx rfl (by first|rfl|assumption|(simp only [znl,znB6];(first|done|fail)))|exact ya5|exact ya7|exact jy|exact jz|refine jA ?_|refine ya9 ?_ ?_ ?_|refine jC rfl (by first|rfl|assumption|(simp only [znl,znB6];(first|done|fail)))|refine MR.agg (MRL.cons ?_ ?_)|refine MR.fn ?_|refine MRL.cons ?_ ?_|exact MRL.nil|refine jE ?_ ?_|exact jF|exact jG|refine yb1 ?_ ?_|refine MB.row ?_|refine jI ?_ ?_|exact ya8|refine jJ rfl (by first|rfl|assumption|(simp only [znl,znB6];(first|done|fail)))|refine yb2 ?_|rfl)|(simp only [znl,znB6];(first|done|fail))|(simp only [↓reduceIte,zlk,Nat.reduceEqDiff,reduceCtorEq])|(with_reducible first|refine jJ ?_ ?_|refine ya5 ?_|refine ju ?_|refine jv ?_|refine jw ?_|refine jx ?_ (by first|rfl|assumption|(simp only [znl,znB6];(first|done|fail)))|refine jC ?_ (by first|rfl|assumption|(simp only [znl,znB6];(first|done|fail)))))))
        all_goals (first | rfl)
      obtain ⟨i, T, L⟩ := x
      obtain ⟨hi, hT, hL, hperm⟩ := hx
      dsimp only at hi hT hL hperm ⊢
      by_cases hlt : i < 3
      · have gp := map_getD encU pk i (by omega)
        generalize hq : pk.getD i default = q at gp
        have q0 := B8_lo q
        have q1 := B8_hi q
        have eU : encU q = .int .u8 (B8 q) := rfl
        rw [eU] at gp
        obtain ⟨k, hk⟩ : ∃ k, k = q.toNat % L.length := ⟨_, rfl⟩
        have hkl : k < L.length := by rw [hk]; exact Nat.mod_lt _ (by omega)
        have tk : (B8 q).tmod (L.length : Int) = (k : Int) := by rw [Int.tmod_eq_emod_of_nonneg q0, hk]; unfold B8; push_cast; rfl
        have ek : B8 q % (L.length : Int) = (k : Int) := by rw [← Int.tmod_eq_emod_of_nonneg q0, tk]
        have gk := getL hkl
        have hst := perm_step hkl hperm
        have hse : T.map encPrt ++ [encPrt (L.getD k default)] = (T ++ [L.getD k default]).map encPrt := by rw [List.map_append]; rfl
        have hsl : (T ++ [L.getD k default]).length = T.length + 1 := by simp
        have hLl : (L.take k ++ L.drop (k + 1)).length = L.length - 1 := by simp; omega
        have htd : (L.map encPrt).take k ++ (L.map encPrt).drop (k + 1) = (L.take k ++ L.drop (k + 1)).map encPrt := by rw [List.map_append, List.map_take, List.map_drop]
        have hHr := hasPrt (L.getD k default)
        generalize hLL : L.take k ++ L.drop (k + 1) = L' at hst hLl htd
        repeat' (first|(with_reducible first|refine yrl (by constructor) ?_|refine jk (fun M hM=>?_)|(refine hM _ ?_;clear hM M)|refine xb3 (by decide) ?_|refine yqa (by assumption) ?_ ?_|refine yqb (by assumption) ?_ ?_)|((with_reducible refine je ?_)<;>(first|rfl|assumption|(simp only [znl,znB6];(first|done|fail))))|(with_reducible refine jf (by (simp only [↓reduceIte,zlk,Nat.reduceEqDiff,reduceCtorEq]);exact rfl) ?_)|((with_reducible first|refine jg (fun hc=>?_) (fun hc=>?_)|refine jh (fun hc=>?_) (fun hc=>?_))<;>(try simp (disch:=omega) only [zhb] at hc)<;>(try (exfalso;omega))<;>(try subst hc))|(with_reducible refine ji (by omega) ?_)|(simp (config := { maxSteps := 400000 }) only [↓jt,↓reduceIte,zvs,reduceCtorEq,Nat.reduceEqDiff,Nat.reduceAdd,Nat.reduceLeDiff,Nat.reduceMul,Int.reduceBNe,Int.reduceBEq,Int.reduceEq,Int.reduceNe,Int.reduceLT,Int.reduceLE,Int.reduceGT,Int.reduceGE,Int.reduceNeg,Int.reduceToNat,Nat.reduceLT,Nat.reduceSub,tab,gp,tk,ek,hHr,Int.toNat_natCast,Try.results7,jTA])|(simp (disch:=omega) only [ziw]))
        all_goals (try (exfalso; omega))
        have hk1 : ((k : Int) + 1).toNat = k + 1 := by omega
        have hdt : List.take (L.length - (k + 1)) (List.drop (k + 1) (L.map encPrt)) = List.drop (k + 1) (L.map encPrt) := List.take_of_length_le (by simp)
        refine ok_drawC 9 (by kernel_rfl) (by decide +kernel) (by intro m hm; simp only [upd_ap,rows_cons,rows_nil]; (repeat (first | rfl | rw [if_neg (by omega)]))) (fun M hM => ?_); simp only [List.take_succ_cons,List.take_zero,List.drop_succ_cons,List.drop_zero]
        repeat' (first|(with_reducible first|refine yrl (by constructor) ?_|refine jk (fun M hM=>?_)|(refine hM _ ?_;clear hM M)|refine xb3 (by decide) ?_|refine yqa (by assumption) ?_ ?_|refine yqb (by assumption) ?_ ?_)|((with_reducible refine je ?_)<;>(first|rfl|assumption|(simp only [znl,znB6];(first|done|fail))))|(with_reducible refine jf (by (simp only [↓reduceIte,zlk,Nat.reduceEqDiff,reduceCtorEq]);exact rfl) ?_)|((with_reducible first|refine jg (fun hc=>?_) (fun hc=>?_)|refine jh (fun hc=>?_) (fun hc=>?_))<;>(try simp (disch:=omega) only [zhb] at hc)<;>(try (exfalso;omega))<;>(try subst hc))|(with_reducible refine ji (by omega) ?_)|(simp (config := { maxSteps := 400000 }) only [↓jt,↓reduceIte,zvs,reduceCtorEq,Nat.reduceEqDiff,Nat.reduceAdd,Nat.reduceLeDiff,Nat.reduceMul,Int.reduceBNe,Int.reduceBEq,Int.reduceEq,Int.reduceNe,Int.reduceLT,Int.reduceLE,Int.reduceGT,Int.reduceGE,Int.reduceNeg,Int.reduceToNat,Nat.reduceLT,Nat.reduceSub,tab,hk1,hdt,htd,hLl,Try.results7,jTA])|(simp (disch:=omega) only [ziw]))
        all_goals first
          | (exfalso; omega)
          | (refine xl1 (i + 1, T ++ [L.getD k default], L') ?_ ⟨by show i + 1 ≤ 3; omega, by show (T ++ [L.getD k default]).length = i + 1; omega, by show L'.length = 5 - (i + 1); omega, hst⟩ (by show 3 - (i + 1) < 3 - i; omega); (refine yrn [(0, 0), (1, 3)] true ?_ ?_<;>(repeat' (first|(with_reducible first|exact ya1|exact ya2|exact ya3|refine jx rfl (by first|rfl|assumption|(simp only [znl,znB6];(first|done|fail)))|exact ya5|exact ya7|exact jy|exact jz|refine jA ?_|refine ya9 ?_ ?_ ?_|refine jC rfl (by first|rfl|assumption|(simp only [znl,znB6];(first|done|fail)))|refine MR.agg (MRL.cons ?_ ?_)|refine MR.fn ?_|refine MRL.cons ?_ ?_|exact MRL.nil|refine jE ?_ ?_|exact jF|exact jG|refine yb1 ?_ ?_|refine MB.row ?_|refine jI ?_ ?_|exact ya8|refine jJ rfl (by first|rfl|assumption|(simp only [znl,znB6];(first|done|fail)))|refine yb2 ?_|rfl)|(simp only [znl,znB6];(first|done|fail))|(simp only [↓reduceIte,zlk,Nat.reduceEqDiff,reduceCtorEq])|(with_reducible first|refine jJ ?_ ?_|refine ya5 ?_|refine ju ?_|refine jv ?_|refine jw ?_|refine jx ?_ (by first|rfl|assumption|(simp only [znl,znB6];(first|done|fail)))|refine jC ?_ (by first|rfl|assumption|(simp only [znl,znB6];(first|done|fail))))))); all_goals (first | rfl | exact hse | exact hsl.symm | (simp only [hk1,hdt,htd]; done) | (simp only [hk1,List.length_append,List.length_take,List.length_drop,List.length_map]; done) | (simp only [hk1,hdt,htd,List.length_map]; omega) | (simp; omega)))
      · obtain rfl : i = 3 := by omega
        obtain ⟨a, b, c, ha, hb', hc, n1, n2, n3, rfl⟩ := cut_three d (hZ ▸ hperm) hT
        have J1 := sjoin_text d hl ha hb' hc n1 n2 n3 bh (by omega) hb47
        have J2 := sjoin_two d hl ha hb' n1
        simp only [encPrts,List.map_append,List.map_cons,List.map_nil,List.cons_append,List.nil_append] at J1 J2
        have hHp := hasPrt
        repeat' ((fail_if_success (with_reducible refine ok_stop 14 ?_));first|(with_reducible first|refine yrl (by constructor) ?_|refine jk (fun M hM=>?_)|(refine hM _ ?_;clear hM M)|refine xb3 (by decide) ?_|refine yqa (by assumption) ?_ ?_|refine yqb (by assumption) ?_ ?_)|((with_reducible refine je ?_)<;>(first|rfl|assumption|(simp only [znl,znB6];(first|done|fail))))|(with_reducible refine jf (by (simp only [↓reduceIte,zlk,Nat.reduceEqDiff,reduceCtorEq]);exact rfl) ?_)|((with_reducible first|refine jg (fun hc=>?_) (fun hc=>?_)|refine jh (fun hc=>?_) (fun hc=>?_))<;>(try simp (disch:=omega) only [zhb] at hc)<;>(try (exfalso;omega))<;>(try subst hc))|(with_reducible refine ji (by omega) ?_)|(simp (config := { maxSteps := 400000 }) only [↓jt,↓reduceIte,zvs,reduceCtorEq,Nat.reduceEqDiff,Nat.reduceAdd,Nat.reduceLeDiff,Nat.reduceMul,Int.reduceBNe,Int.reduceBEq,Int.reduceEq,Int.reduceNe,Int.reduceLT,Int.reduceLE,Int.reduceGT,Int.reduceGE,Int.reduceNeg,Int.reduceToNat,Nat.reduceLT,Nat.reduceSub,tab,Try.results7,jTA])|(simp (disch:=omega) only [ziw]))
        all_goals (try (exfalso; omega))
        refine ok_keep 2 58 60 [8, 58] rfl rfl (fun M hM => ?_)
        repeat' (first|(with_reducible first|refine yrl (by constructor) ?_|refine jk (fun M hM=>?_)|(refine hM _ ?_;clear hM M)|refine xb3 (by decide) ?_|refine yqa (by assumption) ?_ ?_|refine yqb (by assumption) ?_ ?_)|((with_reducible refine je ?_)<;>(first|rfl|assumption|(simp only [znl,znB6];(first|done|fail))))|(with_reducible refine jf (by (simp only [↓reduceIte,zlk,Nat.reduceEqDiff,reduceCtorEq]);exact rfl) ?_)|((with_reducible first|refine jg (fun hc=>?_) (fun hc=>?_)|refine jh (fun hc=>?_) (fun hc=>?_))<;>(try simp (disch:=omega) only [zhb] at hc)<;>(try (exfalso;omega))<;>(try subst hc))|(with_reducible refine ji (by omega) ?_)|(simp (config := { maxSteps := 400000 }) only [↓jt,↓reduceIte,zvs,reduceCtorEq,Nat.reduceEqDiff,Nat.reduceAdd,Nat.reduceLeDiff,Nat.reduceMul,Int.reduceBNe,Int.reduceBEq,Int.reduceEq,Int.reduceNe,Int.reduceLT,Int.reduceLE,Int.reduceGT,Int.reduceGE,Int.reduceNeg,Int.reduceToNat,Nat.reduceLT,Nat.reduceSub,tab,↓zkeep,Try.results7,jTA])|(simp (disch:=omega) only [ziw]))
        all_goals (try (exfalso; omega))
        intro fits
        repeat' (first|(with_reducible first|refine yrl (by constructor) ?_|refine jk (fun M hM=>?_)|(refine hM _ ?_;clear hM M)|refine xb3 (by decide) ?_|refine yqa (by assumption) ?_ ?_|refine yqb (by assumption) ?_ ?_)|((with_reducible refine je ?_)<;>(first|rfl|assumption|(simp only [znl,znB6];(first|done|fail))))|(with_reducible refine jf (by (simp only [↓reduceIte,zlk,Nat.reduceEqDiff,reduceCtorEq]);exact rfl) ?_)|((with_reducible first|refine jg (fun hc=>?_) (fun hc=>?_)|refine jh (fun hc=>?_) (fun hc=>?_))<;>(try simp (disch:=omega) only [zhb] at hc)<;>(try (exfalso;omega))<;>(try subst hc))|(with_reducible refine ji (by omega) ?_)|(simp (config := { maxSteps := 400000 }) only [↓jt,↓reduceIte,zvs,reduceCtorEq,Nat.reduceEqDiff,Nat.reduceAdd,Nat.reduceLeDiff,Nat.reduceMul,Int.reduceBNe,Int.reduceBEq,Int.reduceEq,Int.reduceNe,Int.reduceLT,Int.reduceLE,Int.reduceGT,Int.reduceGE,Int.reduceNeg,Int.reduceToNat,Nat.reduceLT,Nat.reduceSub,tab,zkeep,Try.results7,jTA])|(simp (disch:=omega) only [ziw]))
        all_goals (try (exfalso; omega))
        all_goals (
          refine ja (call_plain (J1) (by repeat (first | exact rdl_nil | refine rdl_cons ?_ ?_ | exact Rd.refl _ _ (by first|rfl|assumption|(simp only [znl,znB6];(first|done|fail))) | (refine rd_own (by (simp only [↓reduceIte,zlk,Nat.reduceEqDiff,reduceCtorEq,setParts,rep_one,rep_two,rep_three,List.set_cons_zero,List.set_cons_succ,List.map_cons,List.map_nil]); exact rfl) (by first | rfl | (simp; done) | (simp; omega)) rfl (by first|rfl|assumption|(simp only [znl,znB6];(first|done|fail)))) | (refine rd_pre (by (simp only [↓reduceIte,zlk,Nat.reduceEqDiff,reduceCtorEq,setParts,rep_one,rep_two,rep_three,List.set_cons_zero,List.set_cons_succ,List.map_cons,List.map_nil]); exact rfl) (by first | (simp; done) | (simp; omega)) (by first | rfl | (simp; done)) (by first|rfl|assumption|(simp only [znl,znB6];(first|done|fail)))) | exact rd_nil | refine (rd_a _ _ _).mpr ?_)) rfl rfl ?_)
          repeat' (first|(with_reducible first|refine yrl (by constructor) ?_|refine jk (fun M hM=>?_)|(refine hM _ ?_;clear hM M)|refine xb3 (by decide) ?_|refine yqa (by assumption) ?_ ?_|refine yqb (by assumption) ?_ ?_)|((with_reducible refine je ?_)<;>(first|rfl|assumption|(simp only [znl,znB6];(first|done|fail))))|(with_reducible refine jf (by (simp only [↓reduceIte,zlk,Nat.reduceEqDiff,reduceCtorEq]);exact rfl) ?_)|((with_reducible first|refine jg (fun hc=>?_) (fun hc=>?_)|refine jh (fun hc=>?_) (fun hc=>?_))<;>(try simp (disch:=omega) only [zhb] at hc)<;>(try (exfalso;omega))<;>(try subst hc))|(with_reducible refine ji (by omega) ?_)|(simp (config := { maxSteps := 400000 }) only [↓jt,↓reduceIte,zvs,reduceCtorEq,Nat.reduceEqDiff,Nat.reduceAdd,Nat.reduceLeDiff,Nat.reduceMul,Int.reduceBNe,Int.reduceBEq,Int.reduceEq,Int.reduceNe,Int.reduceLT,Int.reduceLE,Int.reduceGT,Int.reduceGE,Int.reduceNeg,Int.reduceToNat,Nat.reduceLT,Nat.reduceSub,tab,Try.results7,jTA])|(simp (disch:=omega) only [ziw]))
          all_goals (try (exfalso; omega))
          refine ja (call_plain (J2) (by repeat (first | exact rdl_nil | refine rdl_cons ?_ ?_ | exact Rd.refl _ _ (by first|rfl|assumption|(simp only [znl,znB6];(first|done|fail))) | (refine rd_own (by (simp only [↓reduceIte,zlk,Nat.reduceEqDiff,reduceCtorEq,setParts,rep_one,rep_two,rep_three,List.set_cons_zero,List.set_cons_succ,List.map_cons,List.map_nil]); exact rfl) (by first | rfl | (simp; done) | (simp; omega)) rfl (by first|rfl|assumption|(simp only [znl,znB6];(first|done|fail)))) | (refine rd_pre (by (simp only [↓reduceIte,zlk,Nat.reduceEqDiff,reduceCtorEq,setParts,rep_one,rep_two,rep_three,List.set_cons_zero,List.set_cons_succ,List.map_cons,List.map_nil]); exact rfl) (by first | (simp; done) | (simp; omega)) (by first | rfl | (simp; done)) (by first|rfl|assumption|(simp only [znl,znB6];(first|done|fail)))) | exact rd_nil | refine (rd_a _ _ _).mpr ?_)) rfl rfl ?_)
          repeat' (first|(with_reducible first|refine yrl (by constructor) ?_|refine jk (fun M hM=>?_)|(refine hM _ ?_;clear hM M)|refine xb3 (by decide) ?_|refine yqa (by assumption) ?_ ?_|refine yqb (by assumption) ?_ ?_)|((with_reducible refine je ?_)<;>(first|rfl|assumption|(simp only [znl,znB6];(first|done|fail))))|(with_reducible refine jf (by (simp only [↓reduceIte,zlk,Nat.reduceEqDiff,reduceCtorEq]);exact rfl) ?_)|((with_reducible first|refine jg (fun hc=>?_) (fun hc=>?_)|refine jh (fun hc=>?_) (fun hc=>?_))<;>(try simp (disch:=omega) only [zhb] at hc)<;>(try (exfalso;omega))<;>(try subst hc))|(with_reducible refine ji (by omega) ?_)|(simp (config := { maxSteps := 400000 }) only [↓jt,↓reduceIte,zvs,reduceCtorEq,Nat.reduceEqDiff,Nat.reduceAdd,Nat.reduceLeDiff,Nat.reduceMul,Int.reduceBNe,Int.reduceBEq,Int.reduceEq,Int.reduceNe,Int.reduceLT,Int.reduceLE,Int.reduceGT,Int.reduceGE,Int.reduceNeg,Int.reduceToNat,Nat.reduceLT,Nat.reduceSub,tab,Try.results7,jTA])|(simp (disch:=omega) only [ziw]))
          all_goals first
            | (exfalso; omega)
            | (simp only [zrds]; done)
           ))
  · repeat' (first|(with_reducible first|refine yrl (by constructor) ?_|refine jk (fun M hM=>?_)|(refine hM _ ?_;clear hM M)|refine xb3 (by decide) ?_|refine yqa (by assumption) ?_ ?_|refine yqb (by assumption) ?_ ?_)|((with_reducible refine je ?_)<;>(first|rfl|assumption|(simp only [znl,znB6];(first|done|fail))))|(with_reducible refine jf (by (simp only [↓reduceIte,zlk,Nat.reduceEqDiff,reduceCtorEq]);exact rfl) ?_)|((with_reducible first|refine jg (fun hc=>?_) (fun hc=>?_)|refine jh (fun hc=>?_) (fun hc=>?_))<;>(try simp (disch:=omega) only [zhb] at hc)<;>(try (exfalso;omega))<;>(try subst hc))|(with_reducible refine ji (by omega) ?_)|(simp (config := { maxSteps := 400000 }) only [↓jt,↓reduceIte,zvs,reduceCtorEq,Nat.reduceEqDiff,Nat.reduceAdd,Nat.reduceLeDiff,Nat.reduceMul,Int.reduceBNe,Int.reduceBEq,Int.reduceEq,Int.reduceNe,Int.reduceLT,Int.reduceLE,Int.reduceGT,Int.reduceGE,Int.reduceNeg,Int.reduceToNat,Nat.reduceLT,Nat.reduceSub,tab,hPs,Try.results7,jTA])|(simp (disch:=omega) only [ziw]))
    all_goals first
      | (exfalso; omega)
      | (simp only [zrds]; done)
end Go.Proofs.Ytoibnghkcdopeaa.V
end
