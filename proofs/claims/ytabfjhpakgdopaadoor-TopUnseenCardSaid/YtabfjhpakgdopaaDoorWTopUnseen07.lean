/-
  Parts of the proof of TopUnseen: E5, M8, M9, E6, E7, E8, M10, M11.
  Conditions: none.
-/
import Derived.Test.YtabfjhpakgdopaaDoorWTopUnseen06
import Derived.Test.YtabfjhpakgdopaaDoorWTopUnseen05
import Derived.Test.YtabfjhpakgdopaaDoorWTopUnseen03
section
/-
  ONE INSTRUCTION.
-/
set_option linter.unusedVariables false
set_option linter.unusedSimpArgs false
namespace Go.Proofs.YtabfjhpakgdopaaDoor.V
open Go
set_option maxRecDepth 100000
-- nlx: jO, nls_regs, nls_wr0
set_option maxHeartbeats 8000000
theorem nls_regs (l : List Int) : nls (l.map (VV.int .u32)) = true := nls_map _ (fun _ => rfl) l
theorem getD_memE {α : Type} [Inhabited α] {l : List α} {i : Nat} (h : i < l.length) : l.getD i default ∈ l := by
  rw [List.getD_eq_getElem?_getD, List.getElem?_eq_getElem h]; exact List.getElem_mem h
theorem nls_wr0 : nls ([] : List VV) = true := rfl
structure CpuS where
  rs : List Int
  pc : Int
abbrev cpuSh : Sh := .st [.arr 16 .cell, .cell]
def encCpu (c : CpuS) : VV := .agg [.agg (c.rs.map (.int .u32)), .int .u32 c.pc]
structure CpuR (c : CpuS) : Prop where
  len : c.rs.length = 16
  rs : ∀ x ∈ c.rs, rW x
  pc : rW c.pc
theorem hasRegs (l : List Int) (h : l.length = 16) : Has (.arr 16 .cell) (.agg (l.map (.int .u32))) := has_arrMap h (fun x => by simp [Has, VV.leaf])
structure StepR where
  c : CpuS
  fr : Frames
  k : Int
  n : Int
def stepV (r : StepR) : VV := .tup [encCpu r.c, encStrs r.fr, .agg [.int .i64 r.k, .int .u32 r.n]]
def stepX (c : CpuS) (s : List Pte) (fr : Frames) (x : Ins) : StepR :=
  let r0 := c.rs.set 0 0
  let pc := IntKind.u32.wrap (c.pc + 4)
  let a := r0.getD x.a.toNat default
  let b := r0.getD x.b.toNat default
  let im := IntKind.u32.wrap x.imm
  if x.op ≤ 13 then ⟨⟨(r0.set x.a.toNat (reckF x.op b (r0.getD x.c.toNat default))).set 0 0, pc⟩, fr, 0, 0⟩
  else if x.op ≤ 18 then ⟨⟨(r0.set x.a.toNat (reckF (numL.getD (x.op - 14).toNat default) b im)).set 0 0, pc⟩, fr, 0, 0⟩
  else if x.op = 19 then ⟨⟨(r0.set x.a.toNat (IntKind.u32.wrap (im * 2 ^ min 16 IntKind.u32.bits))).set 0 0, pc⟩, fr, 0, 0⟩
  else if x.op ≤ 22 then (if (loadC x.op s fr (IntKind.u32.wrap (b + im))).2 = false then ⟨c, fr, 2, IntKind.u32.wrap (b + im)⟩ else ⟨⟨(r0.set x.a.toNat (loadC x.op s fr (IntKind.u32.wrap (b + im))).1).set 0 0, pc⟩, fr, 0, 0⟩)
  else if x.op ≤ 24 then (match storeC x.op s fr (IntKind.u32.wrap (b + im)) a with | none => ⟨c, fr, 2, IntKind.u32.wrap (b + im)⟩ | some g => ⟨⟨r0.set 0 0, pc⟩, g, 0, 0⟩)
  else if x.op ≤ 28 then ⟨⟨r0.set 0 0, if takenB x.op a b = true then IntKind.u32.wrap (pc + IntKind.u32.wrap (4 * im)) else pc⟩, fr, 0, 0⟩
  else if x.op = 29 then ⟨⟨(r0.set x.a.toNat pc).set 0 0, IntKind.u32.wrap (pc + IntKind.u32.wrap (4 * im))⟩, fr, 0, 0⟩
  else if x.op = 30 then ⟨⟨(r0.set x.a.toNat pc).set 0 0, IntKind.u32.wrap (b + im)⟩, fr, 0, 0⟩
  else ⟨⟨r0.set 0 0, pc⟩, fr, 1, im⟩
def stepF (c : CpuS) (s : List Pte) (fr : Frames) : StepR := match loadP fr s c.pc 4 with
  | none => ⟨c, fr, 2, c.pc⟩
  | some w => match decO (w : Int) with
    | none => ⟨c, fr, 3, (w : Int)⟩
    | some x => stepX c s fr x
theorem set_R {l : List Int} (h : ∀ x ∈ l, rW x) (i : Nat) {v : Int} (hv : rW v) : ∀ x ∈ l.set i v, rW x := fun x hx => by
  rcases List.mem_or_eq_of_mem_set hx with hx | rfl
  · exact h x hx
  · exact hv
theorem step_spec (c : CpuS) (hc : CpuR c) (s : List Pte) (hs : s.length = 16) (fr : Frames) (hf : fits fr) : Spec Tryd.prog 12 [encCpu c, encSpace s, encStrs fr] (stepV (stepF c s fr)) := by
  obtain ⟨hl, hR, hpc⟩ := hc
  obtain ⟨hpc1, hpc2⟩ := hpc
  have hS := hasSpace s hs
  have hns := jO s
  have hG := hasRegs c.rs hl
  have hCl := clone_spec fr hf
  have hL := PLoad_spec fr hf s hs c.pc ⟨hpc1, by omega⟩ 4
  unfold stepF
  cases hlp : loadP fr s c.pc 4 with
  | none =>
    rw [hlp] at hL
    simp only [u32V] at hL
    dsimp only
    refine spec_ok Tryd.func12 rfl rfl (by kernel_rfl) (k := 3) rfl (by decide) ?_
    repeat' (first|(with_reducible first|refine yrl (by constructor) ?_|refine jk (fun M hM=>?_)|(refine hM _ ?_;clear hM M)|refine xb3 (by decide) ?_|refine yqa (by assumption) ?_ ?_|refine yqb (by assumption) ?_ ?_)|((with_reducible refine je ?_)<;>(first|rfl|assumption|(simp only [znl,jO,nls_regs,nls_wr0];(first|done|fail))))|(with_reducible refine jf (by (simp only [↓reduceIte,zlk,Nat.reduceEqDiff,reduceCtorEq]);exact rfl) ?_)|((with_reducible first|refine jg (fun hc=>?_) (fun hc=>?_)|refine jh (fun hc=>?_) (fun hc=>?_))<;>(try simp (disch:=omega) only [zhb] at hc)<;>(try (exfalso;omega))<;>(try subst hc))|(with_reducible refine ji (by omega) ?_)|(simp (config := { maxSteps := 400000 }) only [↓jt,↓reduceIte,zvs,reduceCtorEq,Nat.reduceEqDiff,Nat.reduceAdd,Nat.reduceLeDiff,Nat.reduceMul,Int.reduceBNe,Int.reduceBEq,Int.reduceEq,Int.reduceNe,Int.reduceLT,Int.reduceLE,Int.reduceGT,Int.reduceGE,Int.reduceNeg,Int.reduceToNat,Nat.reduceLT,Nat.reduceSub,tab,hS,hG,encCpu,Tryd.results12,List.toList_toArray])|(simp (disch:=omega) only [ziw]))
    all_goals (try (exfalso; omega))
    refine ok_drawS 8 [0, 1, 2, 3, 4, 6] [(5, 6, 2), (7, 6, 3)] [2, 3] [_, _] (by kernel_rfl) (by decide +kernel) (by decide) (by decide) (by decide) (olds_cons (by decide) (by (simp only [↓reduceIte,zlk,Nat.reduceEqDiff,reduceCtorEq]); exact rfl) (olds_cons (by decide) (by (simp only [↓reduceIte,zlk,Nat.reduceEqDiff,reduceCtorEq]); exact rfl) olds_nil)) (by intro m hm; simp only [upd_ap,rows_cons,rows_nil]; (repeat (first | rfl | rw [if_neg (by omega)]))) (fun M hM => ?_); simp only [picks,storesAt_nil,storesAt_cons,hides_nil,hides_cons,shows_nil,shows_cons,List.getElem?_cons_succ,List.getElem?_cons_zero,List.drop_succ_cons,List.drop_zero]
    repeat' (first|(with_reducible first|refine yrl (by constructor) ?_|refine jk (fun M hM=>?_)|(refine hM _ ?_;clear hM M)|refine xb3 (by decide) ?_|refine yqa (by assumption) ?_ ?_|refine yqb (by assumption) ?_ ?_)|((with_reducible refine je ?_)<;>(first|rfl|assumption|(simp only [znl,jO,nls_regs,nls_wr0];(first|done|fail))))|(with_reducible refine jf (by (simp only [↓reduceIte,zlk,Nat.reduceEqDiff,reduceCtorEq]);exact rfl) ?_)|((with_reducible first|refine jg (fun hc=>?_) (fun hc=>?_)|refine jh (fun hc=>?_) (fun hc=>?_))<;>(try simp (disch:=omega) only [zhb] at hc)<;>(try (exfalso;omega))<;>(try subst hc))|(with_reducible refine ji (by omega) ?_)|(simp (config := { maxSteps := 400000 }) only [↓jt,↓reduceIte,zvs,reduceCtorEq,Nat.reduceEqDiff,Nat.reduceAdd,Nat.reduceLeDiff,Nat.reduceMul,Int.reduceBNe,Int.reduceBEq,Int.reduceEq,Int.reduceNe,Int.reduceLT,Int.reduceLE,Int.reduceGT,Int.reduceGE,Int.reduceNeg,Int.reduceToNat,Nat.reduceLT,Nat.reduceSub,tab,storeAt_go,isP_ptr,hS,hG,encCpu,Tryd.results12,List.toList_toArray])|(simp (disch:=omega) only [ziw]))
    all_goals first
      | (exfalso; omega)
      | (((try simp only [stepV,encCpu,List.map_nil]); simp only [zrds]; (repeat' (first | exact rd_nil | exact Rd.refl _ _ (by first|rfl|assumption|(simp only [znl,jO,nls_regs,nls_wr0];(first|done|fail))) | (refine And.intro ?_ ?_) | (refine rd_own (by (simp only [↓reduceIte,zlk,Nat.reduceEqDiff,reduceCtorEq]); exact rfl) ?_ ?_ ?_) | rfl | assumption | (simp only [znl,jO,nls_regs,nls_wr0];(first|done|fail)) | (simp; done) | (simp; omega)))); all_goals (exact RdL.refl _ _ (nls_regs _)))
      | trace_state
  | some w =>
    have hw := loadP_lt hlp
    rw [hlp] at hL
    simp only [u32V] at hL
    dsimp only
    have hD := pdec_spec (w : Int) ⟨by omega, by omega⟩
    cases hd : decO (w : Int) with
    | none =>
      rw [hd] at hD
      simp only [decV] at hD
      dsimp only
      refine spec_ok Tryd.func12 rfl rfl (by kernel_rfl) (k := 3) rfl (by decide) ?_
      repeat' (first|(with_reducible first|refine yrl (by constructor) ?_|refine jk (fun M hM=>?_)|(refine hM _ ?_;clear hM M)|refine xb3 (by decide) ?_|refine yqa (by assumption) ?_ ?_|refine yqb (by assumption) ?_ ?_)|((with_reducible refine je ?_)<;>(first|rfl|assumption|(simp only [znl,jO,nls_regs,nls_wr0];(first|done|fail))))|(with_reducible refine jf (by (simp only [↓reduceIte,zlk,Nat.reduceEqDiff,reduceCtorEq]);exact rfl) ?_)|((with_reducible first|refine jg (fun hc=>?_) (fun hc=>?_)|refine jh (fun hc=>?_) (fun hc=>?_))<;>(try simp (disch:=omega) only [zhb] at hc)<;>(try (exfalso;omega))<;>(try subst hc))|(with_reducible refine ji (by omega) ?_)|(simp (config := { maxSteps := 400000 }) only [↓jt,↓reduceIte,zvs,reduceCtorEq,Nat.reduceEqDiff,Nat.reduceAdd,Nat.reduceLeDiff,Nat.reduceMul,Int.reduceBNe,Int.reduceBEq,Int.reduceEq,Int.reduceNe,Int.reduceLT,Int.reduceLE,Int.reduceGT,Int.reduceGE,Int.reduceNeg,Int.reduceToNat,Nat.reduceLT,Nat.reduceSub,tab,hS,hG,encCpu,Tryd.results12,List.toList_toArray])|(simp (disch:=omega) only [ziw]))
      all_goals first
        | (exfalso; omega)
        | (((try simp only [stepV,encCpu,List.map_nil]); simp only [zrds]; (repeat' (first | exact rd_nil | exact Rd.refl _ _ (by first|rfl|assumption|(simp only [znl,jO,nls_regs,nls_wr0];(first|done|fail))) | (refine And.intro ?_ ?_) | (refine rd_own (by (simp only [↓reduceIte,zlk,Nat.reduceEqDiff,reduceCtorEq]); exact rfl) ?_ ?_ ?_) | rfl | assumption | (simp only [znl,jO,nls_regs,nls_wr0];(first|done|fail)) | (simp; done) | (simp; omega)))); all_goals (exact RdL.refl _ _ (nls_regs _)))
        | trace_state
    | some x =>
      obtain ⟨o1, o2, a1, a2, b1, b2, c1, c2, hxR⟩ := decO_ok hd
      rw [hd] at hD
      simp only [decV,encIns] at hD
      dsimp only
      unfold stepX
      obtain ⟨r0, hr0⟩ : ∃ r, r = c.rs.set 0 0 := ⟨_, rfl⟩
      have hset0 : (c.rs.map (VV.int .u32)).set 0 (.int .u32 0) = r0.map (.int .u32) := by rw [hr0, List.map_set]
      have hl0 : r0.length = 16 := by rw [hr0, List.length_set]; exact hl
      have hR0 : ∀ x ∈ r0, rW x := by rw [hr0]; exact set_R hR 0 ⟨by decide, by decide⟩
      rw [← hr0]
      clear hr0
      have hG0 := hasRegs r0 hl0
      obtain ⟨pc, hpcw⟩ : ∃ p, p = IntKind.u32.wrap (c.pc + 4) := ⟨_, rfl⟩
      have hpcR : rW pc := by rw [hpcw]; exact wr_u32 _
      rw [← hpcw]
      obtain ⟨im, him⟩ : ∃ p, p = IntKind.u32.wrap x.imm := ⟨_, rfl⟩
      have himR : rW im := by rw [him]; exact wr_u32 _
      rw [← him]
      have hbR : rW (r0.getD x.b.toNat default) := hR0 _ (getD_memE (by omega))
      have haR : rW (r0.getD x.a.toNat default) := hR0 _ (getD_memE (by omega))
      have hcR : rW (r0.getD x.c.toNat default) := hR0 _ (getD_memE (by omega))
      dsimp only
      have fin : ∀ v : Int, ∃ r1 r2 : List Int, r1 = r0.set x.a.toNat v ∧ r2 = r1.set 0 0 ∧ (r0.map (VV.int .u32)).set x.a.toNat (.int .u32 v) = r1.map (.int .u32) ∧ (r1.map (VV.int .u32)).set 0 (.int .u32 0) = r2.map (.int .u32) ∧ r1.length = 16 ∧ r2.length = 16 := fun v => ⟨_, _, rfl, rfl, (List.map_set ..).symm, (List.map_set ..).symm, by rw [List.length_set]; exact hl0, by rw [List.length_set, List.length_set]; exact hl0⟩
      obtain ⟨r3, hr3⟩ : ∃ r, r = r0.set 0 0 := ⟨_, rfl⟩
      have hset3 : (r0.map (VV.int .u32)).set 0 (.int .u32 0) = r3.map (.int .u32) := by rw [hr3, List.map_set]
      have hl3 : r3.length = 16 := by rw [hr3, List.length_set]; exact hl0
      by_cases h13 : x.op ≤ 13
      · rw [if_pos h13]
        obtain ⟨g, g1, g2, g3⟩ := reck_spec x.op _ _ hxR.op hbR hcR
        obtain ⟨r1, r2, e1, e2, hset1, hset2, hl1, hl2⟩ := fin (reckF x.op (r0.getD x.b.toNat default) (r0.getD x.c.toNat default))
        rw [← e1, ← e2]
        have hG1 := hasRegs r1 hl1
        have hG2 := hasRegs r2 hl2
        generalize reckF x.op (r0.getD x.b.toNat default) (r0.getD x.c.toNat default) = v at g3 hset1
        refine spec_ok Tryd.func12 rfl rfl (by kernel_rfl) (k := 3) rfl (by decide) ?_
        repeat' (first|(with_reducible first|refine yrl (by constructor) ?_|refine jk (fun M hM=>?_)|(refine hM _ ?_;clear hM M)|refine xb3 (by decide) ?_|refine yqa (by assumption) ?_ ?_|refine yqb (by assumption) ?_ ?_)|((with_reducible refine je ?_)<;>(first|rfl|assumption|(simp only [znl,jO,nls_regs,nls_wr0];(first|done|fail))))|(with_reducible refine jf (by (simp only [↓reduceIte,zlk,Nat.reduceEqDiff,reduceCtorEq]);exact rfl) ?_)|((with_reducible first|refine jg (fun hc=>?_) (fun hc=>?_)|refine jh (fun hc=>?_) (fun hc=>?_))<;>(try simp (disch:=omega) only [zhb] at hc)<;>(try (exfalso;omega))<;>(try subst hc))|(with_reducible refine ji (by omega) ?_)|(simp (config := { maxSteps := 400000 }) only [↓jt,↓reduceIte,zvs,reduceCtorEq,Nat.reduceEqDiff,Nat.reduceAdd,Nat.reduceLeDiff,Nat.reduceMul,Int.reduceBNe,Int.reduceBEq,Int.reduceEq,Int.reduceNe,Int.reduceLT,Int.reduceLE,Int.reduceGT,Int.reduceGE,Int.reduceNeg,Int.reduceToNat,Nat.reduceLT,Nat.reduceSub,tab,tab0,hS,hG,hG0,hG1,hG2,hset0,hset1,hset2,hset3,hl,hl0,hl1,hl2,hl3,← hpcw,← him,encCpu,g2,Tryd.results12,List.toList_toArray])|(simp (disch:=omega) only [ziw]))
        all_goals (try (exfalso; omega))
        refine ok_drawC 16 (by kernel_rfl) (by decide +kernel) (by intro m hm; simp only [upd_ap,rows_cons,rows_nil]; (repeat (first | rfl | rw [if_neg (by omega)]))) (fun M hM => ?_); simp only [List.take_succ_cons,List.take_zero,List.drop_succ_cons,List.drop_zero]
        repeat' (first|(with_reducible first|refine yrl (by constructor) ?_|refine jk (fun M hM=>?_)|(refine hM _ ?_;clear hM M)|refine xb3 (by decide) ?_|refine yqa (by assumption) ?_ ?_|refine yqb (by assumption) ?_ ?_)|((with_reducible refine je ?_)<;>(first|rfl|assumption|(simp only [znl,jO,nls_regs,nls_wr0];(first|done|fail))))|(with_reducible refine jf (by (simp only [↓reduceIte,zlk,Nat.reduceEqDiff,reduceCtorEq]);exact rfl) ?_)|((with_reducible first|refine jg (fun hc=>?_) (fun hc=>?_)|refine jh (fun hc=>?_) (fun hc=>?_))<;>(try simp (disch:=omega) only [zhb] at hc)<;>(try (exfalso;omega))<;>(try subst hc))|(with_reducible refine ji (by omega) ?_)|(simp (config := { maxSteps := 400000 }) only [↓jt,↓reduceIte,zvs,reduceCtorEq,Nat.reduceEqDiff,Nat.reduceAdd,Nat.reduceLeDiff,Nat.reduceMul,Int.reduceBNe,Int.reduceBEq,Int.reduceEq,Int.reduceNe,Int.reduceLT,Int.reduceLE,Int.reduceGT,Int.reduceGE,Int.reduceNeg,Int.reduceToNat,Nat.reduceLT,Nat.reduceSub,tab,tab0,hS,hG,hG0,hG1,hG2,hset0,hset1,hset2,hset3,hl,hl0,hl1,hl2,hl3,← hpcw,← him,encCpu,g2,Tryd.results12,List.toList_toArray])|(simp (disch:=omega) only [ziw]))
        all_goals (try (exfalso; omega))
        refine ok_drawC 13 (by kernel_rfl) (by decide +kernel) (by intro m hm; simp only [upd_ap,rows_cons,rows_nil]; (repeat (first | rfl | rw [if_neg (by omega)]))) (fun M hM => ?_); simp only [List.take_succ_cons,List.take_zero,List.drop_succ_cons,List.drop_zero]
        repeat' (first|(with_reducible first|refine yrl (by constructor) ?_|refine jk (fun M hM=>?_)|(refine hM _ ?_;clear hM M)|refine xb3 (by decide) ?_|refine yqa (by assumption) ?_ ?_|refine yqb (by assumption) ?_ ?_)|((with_reducible refine je ?_)<;>(first|rfl|assumption|(simp only [znl,jO,nls_regs,nls_wr0];(first|done|fail))))|(with_reducible refine jf (by (simp only [↓reduceIte,zlk,Nat.reduceEqDiff,reduceCtorEq]);exact rfl) ?_)|((with_reducible first|refine jg (fun hc=>?_) (fun hc=>?_)|refine jh (fun hc=>?_) (fun hc=>?_))<;>(try simp (disch:=omega) only [zhb] at hc)<;>(try (exfalso;omega))<;>(try subst hc))|(with_reducible refine ji (by omega) ?_)|(simp (config := { maxSteps := 400000 }) only [↓jt,↓reduceIte,zvs,reduceCtorEq,Nat.reduceEqDiff,Nat.reduceAdd,Nat.reduceLeDiff,Nat.reduceMul,Int.reduceBNe,Int.reduceBEq,Int.reduceEq,Int.reduceNe,Int.reduceLT,Int.reduceLE,Int.reduceGT,Int.reduceGE,Int.reduceNeg,Int.reduceToNat,Nat.reduceLT,Nat.reduceSub,tab,tab0,hS,hG,hG0,hG1,hG2,hset0,hset1,hset2,hset3,hl,hl0,hl1,hl2,hl3,← hpcw,← him,encCpu,g2,Tryd.results12,List.toList_toArray])|(simp (disch:=omega) only [ziw]))
        all_goals (try (exfalso; omega))
        refine ok_drawS 6 [0, 1, 2, 4] [(3, 4, 2), (5, 4, 3)] [2, 3] [_, _] (by kernel_rfl) (by decide +kernel) (by decide) (by decide) (by decide) (olds_cons (by decide) (by (simp only [↓reduceIte,zlk,Nat.reduceEqDiff,reduceCtorEq]); exact rfl) (olds_cons (by decide) (by (simp only [↓reduceIte,zlk,Nat.reduceEqDiff,reduceCtorEq]); exact rfl) olds_nil)) (by intro m hm; simp only [upd_ap,rows_cons,rows_nil]; (repeat (first | rfl | rw [if_neg (by omega)]))) (fun M hM => ?_); simp only [picks,storesAt_nil,storesAt_cons,hides_nil,hides_cons,shows_nil,shows_cons,List.getElem?_cons_succ,List.getElem?_cons_zero,List.drop_succ_cons,List.drop_zero]
        repeat' (first|(with_reducible first|refine yrl (by constructor) ?_|refine jk (fun M hM=>?_)|(refine hM _ ?_;clear hM M)|refine xb3 (by decide) ?_|refine yqa (by assumption) ?_ ?_|refine yqb (by assumption) ?_ ?_)|((with_reducible refine je ?_)<;>(first|rfl|assumption|(simp only [znl,jO,nls_regs,nls_wr0];(first|done|fail))))|(with_reducible refine jf (by (simp only [↓reduceIte,zlk,Nat.reduceEqDiff,reduceCtorEq]);exact rfl) ?_)|((with_reducible first|refine jg (fun hc=>?_) (fun hc=>?_)|refine jh (fun hc=>?_) (fun hc=>?_))<;>(try simp (disch:=omega) only [zhb] at hc)<;>(try (exfalso;omega))<;>(try subst hc))|(with_reducible refine ji (by omega) ?_)|(simp (config := { maxSteps := 400000 }) only [↓jt,↓reduceIte,zvs,reduceCtorEq,Nat.reduceEqDiff,Nat.reduceAdd,Nat.reduceLeDiff,Nat.reduceMul,Int.reduceBNe,Int.reduceBEq,Int.reduceEq,Int.reduceNe,Int.reduceLT,Int.reduceLE,Int.reduceGT,Int.reduceGE,Int.reduceNeg,Int.reduceToNat,Nat.reduceLT,Nat.reduceSub,tab,tab0,hS,hG,hG0,hG1,hG2,hset0,hset1,hset2,hset3,hl,hl0,hl1,hl2,hl3,← hpcw,← him,encCpu,storeAt_go,isP_ptr,Tryd.results12,List.toList_toArray])|(simp (disch:=omega) only [ziw]))
        all_goals first
          | (exfalso; omega)
          | (((try simp only [stepV,encCpu,List.map_nil]); simp only [zrds]; (repeat' (first | exact rd_nil | exact Rd.refl _ _ (by first|rfl|assumption|(simp only [znl,jO,nls_regs,nls_wr0];(first|done|fail))) | (refine And.intro ?_ ?_) | (refine rd_own (by (simp only [↓reduceIte,zlk,Nat.reduceEqDiff,reduceCtorEq]); exact rfl) ?_ ?_ ?_) | rfl | assumption | (simp only [znl,jO,nls_regs,nls_wr0];(first|done|fail)) | (simp; done) | (simp; omega)))); all_goals (exact RdL.refl _ _ (nls_regs _)))
          | trace_state
      rw [if_neg h13]
      by_cases h18 : x.op ≤ 18
      · rw [if_pos h18]
        have hnl : numL.length = 5 := rfl
        have hnR : 0 ≤ numL.getD (x.op - 14).toNat default ∧ numL.getD (x.op - 14).toNat default ≤ 255 := by
          rcases (show x.op = 14 ∨ x.op = 15 ∨ x.op = 16 ∨ x.op = 17 ∨ x.op = 18 by omega) with h | h | h | h | h <;> (rw [h]; exact ⟨by decide, by decide⟩)
        obtain ⟨g, g1, g2, g3⟩ := reck_spec (numL.getD (x.op - 14).toNat default) _ _ hnR hbR himR
        obtain ⟨r1, r2, e1, e2, hset1, hset2, hl1, hl2⟩ := fin (reckF (numL.getD (x.op - 14).toNat default) (r0.getD x.b.toNat default) im)
        rw [← e1, ← e2]
        have hG1 := hasRegs r1 hl1
        have hG2 := hasRegs r2 hl2
        generalize reckF (numL.getD (x.op - 14).toNat default) (r0.getD x.b.toNat default) im = v at g3 hset1
        refine spec_ok Tryd.func12 rfl rfl (by kernel_rfl) (k := 3) rfl (by decide) ?_
        repeat' (first|(with_reducible first|refine yrl (by constructor) ?_|refine jk (fun M hM=>?_)|(refine hM _ ?_;clear hM M)|refine xb3 (by decide) ?_|refine yqa (by assumption) ?_ ?_|refine yqb (by assumption) ?_ ?_)|((with_reducible refine je ?_)<;>(first|rfl|assumption|(simp only [znl,jO,nls_regs,nls_wr0];(first|done|fail))))|(with_reducible refine jf (by (simp only [↓reduceIte,zlk,Nat.reduceEqDiff,reduceCtorEq]);exact rfl) ?_)|((with_reducible first|refine jg (fun hc=>?_) (fun hc=>?_)|refine jh (fun hc=>?_) (fun hc=>?_))<;>(try simp (disch:=omega) only [zhb] at hc)<;>(try (exfalso;omega))<;>(try subst hc))|(with_reducible refine ji (by omega) ?_)|(simp (config := { maxSteps := 400000 }) only [↓jt,↓reduceIte,zvs,reduceCtorEq,Nat.reduceEqDiff,Nat.reduceAdd,Nat.reduceLeDiff,Nat.reduceMul,Int.reduceBNe,Int.reduceBEq,Int.reduceEq,Int.reduceNe,Int.reduceLT,Int.reduceLE,Int.reduceGT,Int.reduceGE,Int.reduceNeg,Int.reduceToNat,Nat.reduceLT,Nat.reduceSub,tab,tab0,hS,hG,hG0,hG1,hG2,hset0,hset1,hset2,hset3,hl,hl0,hl1,hl2,hl3,← hpcw,← him,encCpu,g2,hnl,Tryd.results12,List.toList_toArray])|(simp (disch:=omega) only [ziw]))
        all_goals (try (exfalso; omega))
        refine ok_drawC 16 (by kernel_rfl) (by decide +kernel) (by intro m hm; simp only [upd_ap,rows_cons,rows_nil]; (repeat (first | rfl | rw [if_neg (by omega)]))) (fun M hM => ?_); simp only [List.take_succ_cons,List.take_zero,List.drop_succ_cons,List.drop_zero]
        repeat' (first|(with_reducible first|refine yrl (by constructor) ?_|refine jk (fun M hM=>?_)|(refine hM _ ?_;clear hM M)|refine xb3 (by decide) ?_|refine yqa (by assumption) ?_ ?_|refine yqb (by assumption) ?_ ?_)|((with_reducible refine je ?_)<;>(first|rfl|assumption|(simp only [znl,jO,nls_regs,nls_wr0];(first|done|fail))))|(with_reducible refine jf (by (simp only [↓reduceIte,zlk,Nat.reduceEqDiff,reduceCtorEq]);exact rfl) ?_)|((with_reducible first|refine jg (fun hc=>?_) (fun hc=>?_)|refine jh (fun hc=>?_) (fun hc=>?_))<;>(try simp (disch:=omega) only [zhb] at hc)<;>(try (exfalso;omega))<;>(try subst hc))|(with_reducible refine ji (by omega) ?_)|(simp (config := { maxSteps := 400000 }) only [↓jt,↓reduceIte,zvs,reduceCtorEq,Nat.reduceEqDiff,Nat.reduceAdd,Nat.reduceLeDiff,Nat.reduceMul,Int.reduceBNe,Int.reduceBEq,Int.reduceEq,Int.reduceNe,Int.reduceLT,Int.reduceLE,Int.reduceGT,Int.reduceGE,Int.reduceNeg,Int.reduceToNat,Nat.reduceLT,Nat.reduceSub,tab,tab0,hS,hG,hG0,hG1,hG2,hset0,hset1,hset2,hset3,hl,hl0,hl1,hl2,hl3,← hpcw,← him,encCpu,g2,hnl,Tryd.results12,List.toList_toArray])|(simp (disch:=omega) only [ziw]))
        all_goals (try (exfalso; omega))
        refine ok_drawC 12 (by kernel_rfl) (by decide +kernel) (by intro m hm; simp only [upd_ap,rows_cons,rows_nil]; (repeat (first | rfl | rw [if_neg (by omega)]))) (fun M hM => ?_); simp only [List.take_succ_cons,List.take_zero,List.drop_succ_cons,List.drop_zero]
        repeat' (first|(with_reducible first|refine yrl (by constructor) ?_|refine jk (fun M hM=>?_)|(refine hM _ ?_;clear hM M)|refine xb3 (by decide) ?_|refine yqa (by assumption) ?_ ?_|refine yqb (by assumption) ?_ ?_)|((with_reducible refine je ?_)<;>(first|rfl|assumption|(simp only [znl,jO,nls_regs,nls_wr0];(first|done|fail))))|(with_reducible refine jf (by (simp only [↓reduceIte,zlk,Nat.reduceEqDiff,reduceCtorEq]);exact rfl) ?_)|((with_reducible first|refine jg (fun hc=>?_) (fun hc=>?_)|refine jh (fun hc=>?_) (fun hc=>?_))<;>(try simp (disch:=omega) only [zhb] at hc)<;>(try (exfalso;omega))<;>(try subst hc))|(with_reducible refine ji (by omega) ?_)|(simp (config := { maxSteps := 400000 }) only [↓jt,↓reduceIte,zvs,reduceCtorEq,Nat.reduceEqDiff,Nat.reduceAdd,Nat.reduceLeDiff,Nat.reduceMul,Int.reduceBNe,Int.reduceBEq,Int.reduceEq,Int.reduceNe,Int.reduceLT,Int.reduceLE,Int.reduceGT,Int.reduceGE,Int.reduceNeg,Int.reduceToNat,Nat.reduceLT,Nat.reduceSub,tab,tab0,hS,hG,hG0,hG1,hG2,hset0,hset1,hset2,hset3,hl,hl0,hl1,hl2,hl3,← hpcw,← him,encCpu,g2,hnl,Tryd.results12,List.toList_toArray])|(simp (disch:=omega) only [ziw]))
        all_goals (try (exfalso; omega))
        refine ok_drawS 6 [0, 1, 2, 4] [(3, 4, 2), (5, 4, 3)] [2, 3] [_, _] (by kernel_rfl) (by decide +kernel) (by decide) (by decide) (by decide) (olds_cons (by decide) (by (simp only [↓reduceIte,zlk,Nat.reduceEqDiff,reduceCtorEq]); exact rfl) (olds_cons (by decide) (by (simp only [↓reduceIte,zlk,Nat.reduceEqDiff,reduceCtorEq]); exact rfl) olds_nil)) (by intro m hm; simp only [upd_ap,rows_cons,rows_nil]; (repeat (first | rfl | rw [if_neg (by omega)]))) (fun M hM => ?_); simp only [picks,storesAt_nil,storesAt_cons,hides_nil,hides_cons,shows_nil,shows_cons,List.getElem?_cons_succ,List.getElem?_cons_zero,List.drop_succ_cons,List.drop_zero]
        repeat' (first|(with_reducible first|refine yrl (by constructor) ?_|refine jk (fun M hM=>?_)|(refine hM _ ?_;clear hM M)|refine xb3 (by decide) ?_|refine yqa (by assumption) ?_ ?_|refine yqb (by assumption) ?_ ?_)|((with_reducible refine je ?_)<;>(first|rfl|assumption|(simp only [znl,jO,nls_regs,nls_wr0];(first|done|fail))))|(with_reducible refine jf (by (simp only [↓reduceIte,zlk,Nat.reduceEqDiff,reduceCtorEq]);exact rfl) ?_)|((with_reducible first|refine jg (fun hc=>?_) (fun hc=>?_)|refine jh (fun hc=>?_) (fun hc=>?_))<;>(try simp (disch:=omega) only [zhb] at hc)<;>(try (exfalso;omega))<;>(try subst hc))|(with_reducible refine ji (by omega) ?_)|(simp (config := { maxSteps := 400000 }) only [↓jt,↓reduceIte,zvs,reduceCtorEq,Nat.reduceEqDiff,Nat.reduceAdd,Nat.reduceLeDiff,Nat.reduceMul,Int.reduceBNe,Int.reduceBEq,Int.reduceEq,Int.reduceNe,Int.reduceLT,Int.reduceLE,Int.reduceGT,Int.reduceGE,Int.reduceNeg,Int.reduceToNat,Nat.reduceLT,Nat.reduceSub,tab,tab0,hS,hG,hG0,hG1,hG2,hset0,hset1,hset2,hset3,hl,hl0,hl1,hl2,hl3,← hpcw,← him,encCpu,storeAt_go,isP_ptr,Tryd.results12,List.toList_toArray])|(simp (disch:=omega) only [ziw]))
        all_goals first
          | (exfalso; omega)
          | (((try simp only [stepV,encCpu,List.map_nil]); simp only [zrds]; (repeat' (first | exact rd_nil | exact Rd.refl _ _ (by first|rfl|assumption|(simp only [znl,jO,nls_regs,nls_wr0];(first|done|fail))) | (refine And.intro ?_ ?_) | (refine rd_own (by (simp only [↓reduceIte,zlk,Nat.reduceEqDiff,reduceCtorEq]); exact rfl) ?_ ?_ ?_) | rfl | assumption | (simp only [znl,jO,nls_regs,nls_wr0];(first|done|fail)) | (simp; done) | (simp; omega)))); all_goals (exact RdL.refl _ _ (nls_regs _)))
          | trace_state
      rw [if_neg h18]
      by_cases h19 : x.op = 19
      · rw [if_pos h19]
        obtain ⟨r1, r2, e1, e2, hset1, hset2, hl1, hl2⟩ := fin (IntKind.u32.wrap (im * 2 ^ min 16 IntKind.u32.bits))
        rw [← e1, ← e2]
        have hG1 := hasRegs r1 hl1
        have hG2 := hasRegs r2 hl2
        refine spec_ok Tryd.func12 rfl rfl (by kernel_rfl) (k := 3) rfl (by decide) ?_
        repeat' (first|(with_reducible first|refine yrl (by constructor) ?_|refine jk (fun M hM=>?_)|(refine hM _ ?_;clear hM M)|refine xb3 (by decide) ?_|refine yqa (by assumption) ?_ ?_|refine yqb (by assumption) ?_ ?_)|((with_reducible refine je ?_)<;>(first|rfl|assumption|(simp only [znl,jO,nls_regs,nls_wr0];(first|done|fail))))|(with_reducible refine jf (by (simp only [↓reduceIte,zlk,Nat.reduceEqDiff,reduceCtorEq]);exact rfl) ?_)|((with_reducible first|refine jg (fun hc=>?_) (fun hc=>?_)|refine jh (fun hc=>?_) (fun hc=>?_))<;>(try simp (disch:=omega) only [zhb] at hc)<;>(try (exfalso;omega))<;>(try subst hc))|(with_reducible refine ji (by omega) ?_)|(simp (config := { maxSteps := 400000 }) only [↓jt,↓reduceIte,zvs,reduceCtorEq,Nat.reduceEqDiff,Nat.reduceAdd,Nat.reduceLeDiff,Nat.reduceMul,Int.reduceBNe,Int.reduceBEq,Int.reduceEq,Int.reduceNe,Int.reduceLT,Int.reduceLE,Int.reduceGT,Int.reduceGE,Int.reduceNeg,Int.reduceToNat,Nat.reduceLT,Nat.reduceSub,tab,tab0,hS,hG,hG0,hG1,hG2,hset0,hset1,hset2,hset3,hl,hl0,hl1,hl2,hl3,← hpcw,← him,encCpu,Tryd.results12,List.toList_toArray])|(simp (disch:=omega) only [ziw]))
        all_goals (try (exfalso; omega))
        refine ok_drawC 16 (by kernel_rfl) (by decide +kernel) (by intro m hm; simp only [upd_ap,rows_cons,rows_nil]; (repeat (first | rfl | rw [if_neg (by omega)]))) (fun M hM => ?_); simp only [List.take_succ_cons,List.take_zero,List.drop_succ_cons,List.drop_zero]
        repeat' (first|(with_reducible first|refine yrl (by constructor) ?_|refine jk (fun M hM=>?_)|(refine hM _ ?_;clear hM M)|refine xb3 (by decide) ?_|refine yqa (by assumption) ?_ ?_|refine yqb (by assumption) ?_ ?_)|((with_reducible refine je ?_)<;>(first|rfl|assumption|(simp only [znl,jO,nls_regs,nls_wr0];(first|done|fail))))|(with_reducible refine jf (by (simp only [↓reduceIte,zlk,Nat.reduceEqDiff,reduceCtorEq]);exact rfl) ?_)|((with_reducible first|refine jg (fun hc=>?_) (fun hc=>?_)|refine jh (fun hc=>?_) (fun hc=>?_))<;>(try simp (disch:=omega) only [zhb] at hc)<;>(try (exfalso;omega))<;>(try subst hc))|(with_reducible refine ji (by omega) ?_)|(simp (config := { maxSteps := 400000 }) only [↓jt,↓reduceIte,zvs,reduceCtorEq,Nat.reduceEqDiff,Nat.reduceAdd,Nat.reduceLeDiff,Nat.reduceMul,Int.reduceBNe,Int.reduceBEq,Int.reduceEq,Int.reduceNe,Int.reduceLT,Int.reduceLE,Int.reduceGT,Int.reduceGE,Int.reduceNeg,Int.reduceToNat,Nat.reduceLT,Nat.reduceSub,tab,tab0,hS,hG,hG0,hG1,hG2,hset0,hset1,hset2,hset3,hl,hl0,hl1,hl2,hl3,← hpcw,← him,encCpu,Tryd.results12,List.toList_toArray])|(simp (disch:=omega) only [ziw]))
        all_goals (try (exfalso; omega))
        refine ok_drawS 6 [0, 1, 2, 4] [(3, 4, 2), (5, 4, 3)] [2, 3] [_, _] (by kernel_rfl) (by decide +kernel) (by decide) (by decide) (by decide) (olds_cons (by decide) (by (simp only [↓reduceIte,zlk,Nat.reduceEqDiff,reduceCtorEq]); exact rfl) (olds_cons (by decide) (by (simp only [↓reduceIte,zlk,Nat.reduceEqDiff,reduceCtorEq]); exact rfl) olds_nil)) (by intro m hm; simp only [upd_ap,rows_cons,rows_nil]; (repeat (first | rfl | rw [if_neg (by omega)]))) (fun M hM => ?_); simp only [picks,storesAt_nil,storesAt_cons,hides_nil,hides_cons,shows_nil,shows_cons,List.getElem?_cons_succ,List.getElem?_cons_zero,List.drop_succ_cons,List.drop_zero]
        repeat' (first|(with_reducible first|refine yrl (by constructor) ?_|refine jk (fun M hM=>?_)|(refine hM _ ?_;clear hM M)|refine xb3 (by decide) ?_|refine yqa (by assumption) ?_ ?_|refine yqb (by assumption) ?_ ?_)|((with_reducible refine je ?_)<;>(first|rfl|assumption|(simp only [znl,jO,nls_regs,nls_wr0];(first|done|fail))))|(with_reducible refine jf (by (simp only [↓reduceIte,zlk,Nat.reduceEqDiff,reduceCtorEq]);exact rfl) ?_)|((with_reducible first|refine jg (fun hc=>?_) (fun hc=>?_)|refine jh (fun hc=>?_) (fun hc=>?_))<;>(try simp (disch:=omega) only [zhb] at hc)<;>(try (exfalso;omega))<;>(try subst hc))|(with_reducible refine ji (by omega) ?_)|(simp (config := { maxSteps := 400000 }) only [↓jt,↓reduceIte,zvs,reduceCtorEq,Nat.reduceEqDiff,Nat.reduceAdd,Nat.reduceLeDiff,Nat.reduceMul,Int.reduceBNe,Int.reduceBEq,Int.reduceEq,Int.reduceNe,Int.reduceLT,Int.reduceLE,Int.reduceGT,Int.reduceGE,Int.reduceNeg,Int.reduceToNat,Nat.reduceLT,Nat.reduceSub,tab,tab0,hS,hG,hG0,hG1,hG2,hset0,hset1,hset2,hset3,hl,hl0,hl1,hl2,hl3,← hpcw,← him,encCpu,storeAt_go,isP_ptr,Tryd.results12,List.toList_toArray])|(simp (disch:=omega) only [ziw]))
        all_goals first
          | (exfalso; omega)
          | (((try simp only [stepV,encCpu,List.map_nil]); simp only [zrds]; (repeat' (first | exact rd_nil | exact Rd.refl _ _ (by first|rfl|assumption|(simp only [znl,jO,nls_regs,nls_wr0];(first|done|fail))) | (refine And.intro ?_ ?_) | (refine rd_own (by (simp only [↓reduceIte,zlk,Nat.reduceEqDiff,reduceCtorEq]); exact rfl) ?_ ?_ ?_) | rfl | assumption | (simp only [znl,jO,nls_regs,nls_wr0];(first|done|fail)) | (simp; done) | (simp; omega)))); all_goals (exact RdL.refl _ _ (nls_regs _)))
          | trace_state
      rw [if_neg h19]
      by_cases h22 : x.op ≤ 22
      · rw [if_pos h22]
        have hLd := pload_spec x.op hxR.op s hs fr hf (IntKind.u32.wrap (r0.getD x.b.toNat default + im)) (wr_u32 _)
        generalize (loadC x.op s fr (IntKind.u32.wrap (r0.getD x.b.toNat default + im))).1 = v at hLd ⊢
        cases hok : (loadC x.op s fr (IntKind.u32.wrap (r0.getD x.b.toNat default + im))).2
        · rw [hok] at hLd
          rw [if_pos rfl]
          have hset1 := hset3
          have hset2 := hset3
          have hl1 := hl3
          have hl2 := hl3
          have hG1 := hasRegs r3 hl3
          have hG2 := hasRegs r3 hl3
          refine spec_ok Tryd.func12 rfl rfl (by kernel_rfl) (k := 3) rfl (by decide) ?_
          repeat' (first|(with_reducible first|refine yrl (by constructor) ?_|refine jk (fun M hM=>?_)|(refine hM _ ?_;clear hM M)|refine xb3 (by decide) ?_|refine yqa (by assumption) ?_ ?_|refine yqb (by assumption) ?_ ?_)|((with_reducible refine je ?_)<;>(first|rfl|assumption|(simp only [znl,jO,nls_regs,nls_wr0];(first|done|fail))))|(with_reducible refine jf (by (simp only [↓reduceIte,zlk,Nat.reduceEqDiff,reduceCtorEq]);exact rfl) ?_)|((with_reducible first|refine jg (fun hc=>?_) (fun hc=>?_)|refine jh (fun hc=>?_) (fun hc=>?_))<;>(try simp (disch:=omega) only [zhb] at hc)<;>(try (exfalso;omega))<;>(try subst hc))|(with_reducible refine ji (by omega) ?_)|(simp (config := { maxSteps := 400000 }) only [↓jt,↓reduceIte,zvs,reduceCtorEq,Nat.reduceEqDiff,Nat.reduceAdd,Nat.reduceLeDiff,Nat.reduceMul,Int.reduceBNe,Int.reduceBEq,Int.reduceEq,Int.reduceNe,Int.reduceLT,Int.reduceLE,Int.reduceGT,Int.reduceGE,Int.reduceNeg,Int.reduceToNat,Nat.reduceLT,Nat.reduceSub,tab,tab0,hS,hG,hG0,hG1,hG2,hset0,hset1,hset2,hset3,hl,hl0,hl1,hl2,hl3,← hpcw,← him,encCpu,Tryd.results12,List.toList_toArray])|(simp (disch:=omega) only [ziw]))
          all_goals (try (exfalso; omega))
          refine ok_drawC 16 (by kernel_rfl) (by decide +kernel) (by intro m hm; simp only [upd_ap,rows_cons,rows_nil]; (repeat (first | rfl | rw [if_neg (by omega)]))) (fun M hM => ?_); simp only [List.take_succ_cons,List.take_zero,List.drop_succ_cons,List.drop_zero]
          repeat' (first|(with_reducible first|refine yrl (by constructor) ?_|refine jk (fun M hM=>?_)|(refine hM _ ?_;clear hM M)|refine xb3 (by decide) ?_|refine yqa (by assumption) ?_ ?_|refine yqb (by assumption) ?_ ?_)|((with_reducible refine je ?_)<;>(first|rfl|assumption|(simp only [znl,jO,nls_regs,nls_wr0];(first|done|fail))))|(with_reducible refine jf (by (simp only [↓reduceIte,zlk,Nat.reduceEqDiff,reduceCtorEq]);exact rfl) ?_)|((with_reducible first|refine jg (fun hc=>?_) (fun hc=>?_)|refine jh (fun hc=>?_) (fun hc=>?_))<;>(try simp (disch:=omega) only [zhb] at hc)<;>(try (exfalso;omega))<;>(try subst hc))|(with_reducible refine ji (by omega) ?_)|(simp (config := { maxSteps := 400000 }) only [↓jt,↓reduceIte,zvs,reduceCtorEq,Nat.reduceEqDiff,Nat.reduceAdd,Nat.reduceLeDiff,Nat.reduceMul,Int.reduceBNe,Int.reduceBEq,Int.reduceEq,Int.reduceNe,Int.reduceLT,Int.reduceLE,Int.reduceGT,Int.reduceGE,Int.reduceNeg,Int.reduceToNat,Nat.reduceLT,Nat.reduceSub,tab,tab0,hS,hG,hG0,hG1,hG2,hset0,hset1,hset2,hset3,hl,hl0,hl1,hl2,hl3,← hpcw,← him,encCpu,Tryd.results12,List.toList_toArray])|(simp (disch:=omega) only [ziw]))
          all_goals (try (exfalso; omega))
          all_goals first
            | (((try simp only [stepV,encCpu,List.map_nil]); simp only [zrds]; (repeat' (first | exact rd_nil | exact Rd.refl _ _ (by first|rfl|assumption|(simp only [znl,jO,nls_regs,nls_wr0];(first|done|fail))) | (refine And.intro ?_ ?_) | (refine rd_own (by (simp only [↓reduceIte,zlk,Nat.reduceEqDiff,reduceCtorEq]); exact rfl) ?_ ?_ ?_) | rfl | assumption | (simp only [znl,jO,nls_regs,nls_wr0];(first|done|fail)) | (simp; done) | (simp; omega)))); all_goals (exact RdL.refl _ _ (nls_regs _)))
            | trace_state
        · rw [hok] at hLd
          rw [if_neg (by decide)]
          obtain ⟨r1, r2, e1, e2, hset1, hset2, hl1, hl2⟩ := fin (v)
          rw [← e1, ← e2]
          have hG1 := hasRegs r1 hl1
          have hG2 := hasRegs r2 hl2
          refine spec_ok Tryd.func12 rfl rfl (by kernel_rfl) (k := 3) rfl (by decide) ?_
          repeat' (first|(with_reducible first|refine yrl (by constructor) ?_|refine jk (fun M hM=>?_)|(refine hM _ ?_;clear hM M)|refine xb3 (by decide) ?_|refine yqa (by assumption) ?_ ?_|refine yqb (by assumption) ?_ ?_)|((with_reducible refine je ?_)<;>(first|rfl|assumption|(simp only [znl,jO,nls_regs,nls_wr0];(first|done|fail))))|(with_reducible refine jf (by (simp only [↓reduceIte,zlk,Nat.reduceEqDiff,reduceCtorEq]);exact rfl) ?_)|((with_reducible first|refine jg (fun hc=>?_) (fun hc=>?_)|refine jh (fun hc=>?_) (fun hc=>?_))<;>(try simp (disch:=omega) only [zhb] at hc)<;>(try (exfalso;omega))<;>(try subst hc))|(with_reducible refine ji (by omega) ?_)|(simp (config := { maxSteps := 400000 }) only [↓jt,↓reduceIte,zvs,reduceCtorEq,Nat.reduceEqDiff,Nat.reduceAdd,Nat.reduceLeDiff,Nat.reduceMul,Int.reduceBNe,Int.reduceBEq,Int.reduceEq,Int.reduceNe,Int.reduceLT,Int.reduceLE,Int.reduceGT,Int.reduceGE,Int.reduceNeg,Int.reduceToNat,Nat.reduceLT,Nat.reduceSub,tab,tab0,hS,hG,hG0,hG1,hG2,hset0,hset1,hset2,hset3,hl,hl0,hl1,hl2,hl3,← hpcw,← him,encCpu,Tryd.results12,List.toList_toArray])|(simp (disch:=omega) only [ziw]))
          all_goals (try (exfalso; omega))
          refine ok_drawC 16 (by kernel_rfl) (by decide +kernel) (by intro m hm; simp only [upd_ap,rows_cons,rows_nil]; (repeat (first | rfl | rw [if_neg (by omega)]))) (fun M hM => ?_); simp only [List.take_succ_cons,List.take_zero,List.drop_succ_cons,List.drop_zero]
          repeat' (first|(with_reducible first|refine yrl (by constructor) ?_|refine jk (fun M hM=>?_)|(refine hM _ ?_;clear hM M)|refine xb3 (by decide) ?_|refine yqa (by assumption) ?_ ?_|refine yqb (by assumption) ?_ ?_)|((with_reducible refine je ?_)<;>(first|rfl|assumption|(simp only [znl,jO,nls_regs,nls_wr0];(first|done|fail))))|(with_reducible refine jf (by (simp only [↓reduceIte,zlk,Nat.reduceEqDiff,reduceCtorEq]);exact rfl) ?_)|((with_reducible first|refine jg (fun hc=>?_) (fun hc=>?_)|refine jh (fun hc=>?_) (fun hc=>?_))<;>(try simp (disch:=omega) only [zhb] at hc)<;>(try (exfalso;omega))<;>(try subst hc))|(with_reducible refine ji (by omega) ?_)|(simp (config := { maxSteps := 400000 }) only [↓jt,↓reduceIte,zvs,reduceCtorEq,Nat.reduceEqDiff,Nat.reduceAdd,Nat.reduceLeDiff,Nat.reduceMul,Int.reduceBNe,Int.reduceBEq,Int.reduceEq,Int.reduceNe,Int.reduceLT,Int.reduceLE,Int.reduceGT,Int.reduceGE,Int.reduceNeg,Int.reduceToNat,Nat.reduceLT,Nat.reduceSub,tab,tab0,hS,hG,hG0,hG1,hG2,hset0,hset1,hset2,hset3,hl,hl0,hl1,hl2,hl3,← hpcw,← him,encCpu,Tryd.results12,List.toList_toArray])|(simp (disch:=omega) only [ziw]))
          all_goals (try (exfalso; omega))
          refine ok_drawS 6 [0, 1, 2, 4] [(3, 4, 2), (5, 4, 3)] [2, 3] [_, _] (by kernel_rfl) (by decide +kernel) (by decide) (by decide) (by decide) (olds_cons (by decide) (by (simp only [↓reduceIte,zlk,Nat.reduceEqDiff,reduceCtorEq]); exact rfl) (olds_cons (by decide) (by (simp only [↓reduceIte,zlk,Nat.reduceEqDiff,reduceCtorEq]); exact rfl) olds_nil)) (by intro m hm; simp only [upd_ap,rows_cons,rows_nil]; (repeat (first | rfl | rw [if_neg (by omega)]))) (fun M hM => ?_); simp only [picks,storesAt_nil,storesAt_cons,hides_nil,hides_cons,shows_nil,shows_cons,List.getElem?_cons_succ,List.getElem?_cons_zero,List.drop_succ_cons,List.drop_zero]
          repeat' (first|(with_reducible first|refine yrl (by constructor) ?_|refine jk (fun M hM=>?_)|(refine hM _ ?_;clear hM M)|refine xb3 (by decide) ?_|refine yqa (by assumption) ?_ ?_|refine yqb (by assumption) ?_ ?_)|((with_reducible refine je ?_)<;>(first|rfl|assumption|(simp only [znl,jO,nls_regs,nls_wr0];(first|done|fail))))|(with_reducible refine jf (by (simp only [↓reduceIte,zlk,Nat.reduceEqDiff,reduceCtorEq]);exact rfl) ?_)|((with_reducible first|refine jg (fun hc=>?_) (fun hc=>?_)|refine jh (fun hc=>?_) (fun hc=>?_))<;>(try simp (disch:=omega) only [zhb] at hc)<;>(try (exfalso;omega))<;>(try subst hc))|(with_reducible refine ji (by omega) ?_)|(simp (config := { maxSteps := 400000 }) only [↓jt,↓reduceIte,zvs,reduceCtorEq,Nat.reduceEqDiff,Nat.reduceAdd,Nat.reduceLeDiff,Nat.reduceMul,Int.reduceBNe,Int.reduceBEq,Int.reduceEq,Int.reduceNe,Int.reduceLT,Int.reduceLE,Int.reduceGT,Int.reduceGE,Int.reduceNeg,Int.reduceToNat,Nat.reduceLT,Nat.reduceSub,tab,tab0,hS,hG,hG0,hG1,hG2,hset0,hset1,hset2,hset3,hl,hl0,hl1,hl2,hl3,← hpcw,← him,encCpu,storeAt_go,isP_ptr,Tryd.results12,List.toList_toArray])|(simp (disch:=omega) only [ziw]))
          all_goals first
            | (exfalso; omega)
            | (((try simp only [stepV,encCpu,List.map_nil]); simp only [zrds]; (repeat' (first | exact rd_nil | exact Rd.refl _ _ (by first|rfl|assumption|(simp only [znl,jO,nls_regs,nls_wr0];(first|done|fail))) | (refine And.intro ?_ ?_) | (refine rd_own (by (simp only [↓reduceIte,zlk,Nat.reduceEqDiff,reduceCtorEq]); exact rfl) ?_ ?_ ?_) | rfl | assumption | (simp only [znl,jO,nls_regs,nls_wr0];(first|done|fail)) | (simp; done) | (simp; omega)))); all_goals (exact RdL.refl _ _ (nls_regs _)))
            | trace_state
      rw [if_neg h22]
      by_cases h24 : x.op ≤ 24
      · rw [if_pos h24]
        have hSt := pstore_spec x.op hxR.op s hs fr hf (IntKind.u32.wrap (r0.getD x.b.toNat default + im)) _ (wr_u32 _) haR
        have hset1 := hset3
        have hset2 := hset3
        have hl1 := hl3
        have hl2 := hl3
        have hG1 := hasRegs r3 hl3
        have hG2 := hasRegs r3 hl3
        cases hsc : storeC x.op s fr (IntKind.u32.wrap (r0.getD x.b.toNat default + im)) (r0.getD x.a.toNat default) with
        | none =>
          rw [hsc] at hSt
          simp only [framesV] at hSt
          dsimp only
          refine spec_ok Tryd.func12 rfl rfl (by kernel_rfl) (k := 3) rfl (by decide) ?_
          repeat' (first|(with_reducible first|refine yrl (by constructor) ?_|refine jk (fun M hM=>?_)|(refine hM _ ?_;clear hM M)|refine xb3 (by decide) ?_|refine yqa (by assumption) ?_ ?_|refine yqb (by assumption) ?_ ?_)|((with_reducible refine je ?_)<;>(first|rfl|assumption|(simp only [znl,jO,nls_regs,nls_wr0];(first|done|fail))))|(with_reducible refine jf (by (simp only [↓reduceIte,zlk,Nat.reduceEqDiff,reduceCtorEq]);exact rfl) ?_)|((with_reducible first|refine jg (fun hc=>?_) (fun hc=>?_)|refine jh (fun hc=>?_) (fun hc=>?_))<;>(try simp (disch:=omega) only [zhb] at hc)<;>(try (exfalso;omega))<;>(try subst hc))|(with_reducible refine ji (by omega) ?_)|(simp (config := { maxSteps := 400000 }) only [↓jt,↓reduceIte,zvs,reduceCtorEq,Nat.reduceEqDiff,Nat.reduceAdd,Nat.reduceLeDiff,Nat.reduceMul,Int.reduceBNe,Int.reduceBEq,Int.reduceEq,Int.reduceNe,Int.reduceLT,Int.reduceLE,Int.reduceGT,Int.reduceGE,Int.reduceNeg,Int.reduceToNat,Nat.reduceLT,Nat.reduceSub,tab,tab0,hS,hG,hG0,hG1,hG2,hset0,hset1,hset2,hset3,hl,hl0,hl1,hl2,hl3,← hpcw,← him,encCpu,Tryd.results12,List.toList_toArray])|(simp (disch:=omega) only [ziw]))
          all_goals (try (exfalso; omega))
          refine ok_drawC 16 (by kernel_rfl) (by decide +kernel) (by intro m hm; simp only [upd_ap,rows_cons,rows_nil]; (repeat (first | rfl | rw [if_neg (by omega)]))) (fun M hM => ?_); simp only [List.take_succ_cons,List.take_zero,List.drop_succ_cons,List.drop_zero]
          repeat' (first|(with_reducible first|refine yrl (by constructor) ?_|refine jk (fun M hM=>?_)|(refine hM _ ?_;clear hM M)|refine xb3 (by decide) ?_|refine yqa (by assumption) ?_ ?_|refine yqb (by assumption) ?_ ?_)|((with_reducible refine je ?_)<;>(first|rfl|assumption|(simp only [znl,jO,nls_regs,nls_wr0];(first|done|fail))))|(with_reducible refine jf (by (simp only [↓reduceIte,zlk,Nat.reduceEqDiff,reduceCtorEq]);exact rfl) ?_)|((with_reducible first|refine jg (fun hc=>?_) (fun hc=>?_)|refine jh (fun hc=>?_) (fun hc=>?_))<;>(try simp (disch:=omega) only [zhb] at hc)<;>(try (exfalso;omega))<;>(try subst hc))|(with_reducible refine ji (by omega) ?_)|(simp (config := { maxSteps := 400000 }) only [↓jt,↓reduceIte,zvs,reduceCtorEq,Nat.reduceEqDiff,Nat.reduceAdd,Nat.reduceLeDiff,Nat.reduceMul,Int.reduceBNe,Int.reduceBEq,Int.reduceEq,Int.reduceNe,Int.reduceLT,Int.reduceLE,Int.reduceGT,Int.reduceGE,Int.reduceNeg,Int.reduceToNat,Nat.reduceLT,Nat.reduceSub,tab,tab0,hS,hG,hG0,hG1,hG2,hset0,hset1,hset2,hset3,hl,hl0,hl1,hl2,hl3,← hpcw,← him,encCpu,Tryd.results12,List.toList_toArray])|(simp (disch:=omega) only [ziw]))
          all_goals (try (exfalso; omega))
          all_goals first
            | (((try simp only [stepV,encCpu,List.map_nil]); simp only [zrds]; (repeat' (first | exact rd_nil | exact Rd.refl _ _ (by first|rfl|assumption|(simp only [znl,jO,nls_regs,nls_wr0];(first|done|fail))) | (refine And.intro ?_ ?_) | (refine rd_own (by (simp only [↓reduceIte,zlk,Nat.reduceEqDiff,reduceCtorEq]); exact rfl) ?_ ?_ ?_) | rfl | assumption | (simp only [znl,jO,nls_regs,nls_wr0];(first|done|fail)) | (simp; done) | (simp; omega)))); all_goals (exact RdL.refl _ _ (nls_regs _)))
            | trace_state
        | some g =>
          rw [hsc] at hSt
          simp only [framesV] at hSt
          dsimp only
          rw [← hr3]
          refine spec_ok Tryd.func12 rfl rfl (by kernel_rfl) (k := 3) rfl (by decide) ?_
          repeat' (first|(with_reducible first|refine yrl (by constructor) ?_|refine jk (fun M hM=>?_)|(refine hM _ ?_;clear hM M)|refine xb3 (by decide) ?_|refine yqa (by assumption) ?_ ?_|refine yqb (by assumption) ?_ ?_)|((with_reducible refine je ?_)<;>(first|rfl|assumption|(simp only [znl,jO,nls_regs,nls_wr0];(first|done|fail))))|(with_reducible refine jf (by (simp only [↓reduceIte,zlk,Nat.reduceEqDiff,reduceCtorEq]);exact rfl) ?_)|((with_reducible first|refine jg (fun hc=>?_) (fun hc=>?_)|refine jh (fun hc=>?_) (fun hc=>?_))<;>(try simp (disch:=omega) only [zhb] at hc)<;>(try (exfalso;omega))<;>(try subst hc))|(with_reducible refine ji (by omega) ?_)|(simp (config := { maxSteps := 400000 }) only [↓jt,↓reduceIte,zvs,reduceCtorEq,Nat.reduceEqDiff,Nat.reduceAdd,Nat.reduceLeDiff,Nat.reduceMul,Int.reduceBNe,Int.reduceBEq,Int.reduceEq,Int.reduceNe,Int.reduceLT,Int.reduceLE,Int.reduceGT,Int.reduceGE,Int.reduceNeg,Int.reduceToNat,Nat.reduceLT,Nat.reduceSub,tab,tab0,hS,hG,hG0,hG1,hG2,hset0,hset1,hset2,hset3,hl,hl0,hl1,hl2,hl3,← hpcw,← him,encCpu,Tryd.results12,List.toList_toArray])|(simp (disch:=omega) only [ziw]))
          all_goals (try (exfalso; omega))
          refine ok_drawC 16 (by kernel_rfl) (by decide +kernel) (by intro m hm; simp only [upd_ap,rows_cons,rows_nil]; (repeat (first | rfl | rw [if_neg (by omega)]))) (fun M hM => ?_); simp only [List.take_succ_cons,List.take_zero,List.drop_succ_cons,List.drop_zero]
          repeat' (first|(with_reducible first|refine yrl (by constructor) ?_|refine jk (fun M hM=>?_)|(refine hM _ ?_;clear hM M)|refine xb3 (by decide) ?_|refine yqa (by assumption) ?_ ?_|refine yqb (by assumption) ?_ ?_)|((with_reducible refine je ?_)<;>(first|rfl|assumption|(simp only [znl,jO,nls_regs,nls_wr0];(first|done|fail))))|(with_reducible refine jf (by (simp only [↓reduceIte,zlk,Nat.reduceEqDiff,reduceCtorEq]);exact rfl) ?_)|((with_reducible first|refine jg (fun hc=>?_) (fun hc=>?_)|refine jh (fun hc=>?_) (fun hc=>?_))<;>(try simp (disch:=omega) only [zhb] at hc)<;>(try (exfalso;omega))<;>(try subst hc))|(with_reducible refine ji (by omega) ?_)|(simp (config := { maxSteps := 400000 }) only [↓jt,↓reduceIte,zvs,reduceCtorEq,Nat.reduceEqDiff,Nat.reduceAdd,Nat.reduceLeDiff,Nat.reduceMul,Int.reduceBNe,Int.reduceBEq,Int.reduceEq,Int.reduceNe,Int.reduceLT,Int.reduceLE,Int.reduceGT,Int.reduceGE,Int.reduceNeg,Int.reduceToNat,Nat.reduceLT,Nat.reduceSub,tab,tab0,hS,hG,hG0,hG1,hG2,hset0,hset1,hset2,hset3,hl,hl0,hl1,hl2,hl3,← hpcw,← him,encCpu,Tryd.results12,List.toList_toArray])|(simp (disch:=omega) only [ziw]))
          all_goals (try (exfalso; omega))
          refine ok_drawS 6 [0, 1, 2, 4] [(3, 4, 2), (5, 4, 3)] [2, 3] [_, _] (by kernel_rfl) (by decide +kernel) (by decide) (by decide) (by decide) (olds_cons (by decide) (by (simp only [↓reduceIte,zlk,Nat.reduceEqDiff,reduceCtorEq]); exact rfl) (olds_cons (by decide) (by (simp only [↓reduceIte,zlk,Nat.reduceEqDiff,reduceCtorEq]); exact rfl) olds_nil)) (by intro m hm; simp only [upd_ap,rows_cons,rows_nil]; (repeat (first | rfl | rw [if_neg (by omega)]))) (fun M hM => ?_); simp only [picks,storesAt_nil,storesAt_cons,hides_nil,hides_cons,shows_nil,shows_cons,List.getElem?_cons_succ,List.getElem?_cons_zero,List.drop_succ_cons,List.drop_zero]
          repeat' (first|(with_reducible first|refine yrl (by constructor) ?_|refine jk (fun M hM=>?_)|(refine hM _ ?_;clear hM M)|refine xb3 (by decide) ?_|refine yqa (by assumption) ?_ ?_|refine yqb (by assumption) ?_ ?_)|((with_reducible refine je ?_)<;>(first|rfl|assumption|(simp only [znl,jO,nls_regs,nls_wr0];(first|done|fail))))|(with_reducible refine jf (by (simp only [↓reduceIte,zlk,Nat.reduceEqDiff,reduceCtorEq]);exact rfl) ?_)|((with_reducible first|refine jg (fun hc=>?_) (fun hc=>?_)|refine jh (fun hc=>?_) (fun hc=>?_))<;>(try simp (disch:=omega) only [zhb] at hc)<;>(try (exfalso;omega))<;>(try subst hc))|(with_reducible refine ji (by omega) ?_)|(simp (config := { maxSteps := 400000 }) only [↓jt,↓reduceIte,zvs,reduceCtorEq,Nat.reduceEqDiff,Nat.reduceAdd,Nat.reduceLeDiff,Nat.reduceMul,Int.reduceBNe,Int.reduceBEq,Int.reduceEq,Int.reduceNe,Int.reduceLT,Int.reduceLE,Int.reduceGT,Int.reduceGE,Int.reduceNeg,Int.reduceToNat,Nat.reduceLT,Nat.reduceSub,tab,tab0,hS,hG,hG0,hG1,hG2,hset0,hset1,hset2,hset3,hl,hl0,hl1,hl2,hl3,← hpcw,← him,encCpu,storeAt_go,isP_ptr,Tryd.results12,List.toList_toArray])|(simp (disch:=omega) only [ziw]))
          all_goals first
            | (exfalso; omega)
            | (((try simp only [stepV,encCpu,List.map_nil]); simp only [zrds]; (repeat' (first | exact rd_nil | exact Rd.refl _ _ (by first|rfl|assumption|(simp only [znl,jO,nls_regs,nls_wr0];(first|done|fail))) | (refine And.intro ?_ ?_) | (refine rd_own (by (simp only [↓reduceIte,zlk,Nat.reduceEqDiff,reduceCtorEq]); exact rfl) ?_ ?_ ?_) | rfl | assumption | (simp only [znl,jO,nls_regs,nls_wr0];(first|done|fail)) | (simp; done) | (simp; omega)))); all_goals (exact RdL.refl _ _ (nls_regs _)))
            | trace_state
      rw [if_neg h24]
      by_cases h28 : x.op ≤ 28
      · rw [if_pos h28]
        have hTk := ptaken_spec x.op (r0.getD x.a.toNat default) (r0.getD x.b.toNat default)
        have hset1 := hset3
        have hset2 := hset3
        have hl1 := hl3
        have hl2 := hl3
        have hG1 := hasRegs r3 hl3
        have hG2 := hasRegs r3 hl3
        rw [← hr3]
        cases htk : takenB x.op (r0.getD x.a.toNat default) (r0.getD x.b.toNat default)
        · rw [htk] at hTk
          rw [if_neg (by decide)]
          refine spec_ok Tryd.func12 rfl rfl (by kernel_rfl) (k := 3) rfl (by decide) ?_
          repeat' (first|(with_reducible first|refine yrl (by constructor) ?_|refine jk (fun M hM=>?_)|(refine hM _ ?_;clear hM M)|refine xb3 (by decide) ?_|refine yqa (by assumption) ?_ ?_|refine yqb (by assumption) ?_ ?_)|((with_reducible refine je ?_)<;>(first|rfl|assumption|(simp only [znl,jO,nls_regs,nls_wr0];(first|done|fail))))|(with_reducible refine jf (by (simp only [↓reduceIte,zlk,Nat.reduceEqDiff,reduceCtorEq]);exact rfl) ?_)|((with_reducible first|refine jg (fun hc=>?_) (fun hc=>?_)|refine jh (fun hc=>?_) (fun hc=>?_))<;>(try simp (disch:=omega) only [zhb] at hc)<;>(try (exfalso;omega))<;>(try subst hc))|(with_reducible refine ji (by omega) ?_)|(simp (config := { maxSteps := 400000 }) only [↓jt,↓reduceIte,zvs,reduceCtorEq,Nat.reduceEqDiff,Nat.reduceAdd,Nat.reduceLeDiff,Nat.reduceMul,Int.reduceBNe,Int.reduceBEq,Int.reduceEq,Int.reduceNe,Int.reduceLT,Int.reduceLE,Int.reduceGT,Int.reduceGE,Int.reduceNeg,Int.reduceToNat,Nat.reduceLT,Nat.reduceSub,tab,tab0,hS,hG,hG0,hG1,hG2,hset0,hset1,hset2,hset3,hl,hl0,hl1,hl2,hl3,← hpcw,← him,encCpu,Tryd.results12,List.toList_toArray])|(simp (disch:=omega) only [ziw]))
          all_goals (try (exfalso; omega))
          refine ok_drawC 16 (by kernel_rfl) (by decide +kernel) (by intro m hm; simp only [upd_ap,rows_cons,rows_nil]; (repeat (first | rfl | rw [if_neg (by omega)]))) (fun M hM => ?_); simp only [List.take_succ_cons,List.take_zero,List.drop_succ_cons,List.drop_zero]
          repeat' (first|(with_reducible first|refine yrl (by constructor) ?_|refine jk (fun M hM=>?_)|(refine hM _ ?_;clear hM M)|refine xb3 (by decide) ?_|refine yqa (by assumption) ?_ ?_|refine yqb (by assumption) ?_ ?_)|((with_reducible refine je ?_)<;>(first|rfl|assumption|(simp only [znl,jO,nls_regs,nls_wr0];(first|done|fail))))|(with_reducible refine jf (by (simp only [↓reduceIte,zlk,Nat.reduceEqDiff,reduceCtorEq]);exact rfl) ?_)|((with_reducible first|refine jg (fun hc=>?_) (fun hc=>?_)|refine jh (fun hc=>?_) (fun hc=>?_))<;>(try simp (disch:=omega) only [zhb] at hc)<;>(try (exfalso;omega))<;>(try subst hc))|(with_reducible refine ji (by omega) ?_)|(simp (config := { maxSteps := 400000 }) only [↓jt,↓reduceIte,zvs,reduceCtorEq,Nat.reduceEqDiff,Nat.reduceAdd,Nat.reduceLeDiff,Nat.reduceMul,Int.reduceBNe,Int.reduceBEq,Int.reduceEq,Int.reduceNe,Int.reduceLT,Int.reduceLE,Int.reduceGT,Int.reduceGE,Int.reduceNeg,Int.reduceToNat,Nat.reduceLT,Nat.reduceSub,tab,tab0,hS,hG,hG0,hG1,hG2,hset0,hset1,hset2,hset3,hl,hl0,hl1,hl2,hl3,← hpcw,← him,encCpu,Tryd.results12,List.toList_toArray])|(simp (disch:=omega) only [ziw]))
          all_goals (try (exfalso; omega))
          refine ok_drawS 6 [0, 1, 2, 4] [(3, 4, 2), (5, 4, 3)] [2, 3] [_, _] (by kernel_rfl) (by decide +kernel) (by decide) (by decide) (by decide) (olds_cons (by decide) (by (simp only [↓reduceIte,zlk,Nat.reduceEqDiff,reduceCtorEq]); exact rfl) (olds_cons (by decide) (by (simp only [↓reduceIte,zlk,Nat.reduceEqDiff,reduceCtorEq]); exact rfl) olds_nil)) (by intro m hm; simp only [upd_ap,rows_cons,rows_nil]; (repeat (first | rfl | rw [if_neg (by omega)]))) (fun M hM => ?_); simp only [picks,storesAt_nil,storesAt_cons,hides_nil,hides_cons,shows_nil,shows_cons,List.getElem?_cons_succ,List.getElem?_cons_zero,List.drop_succ_cons,List.drop_zero]
          repeat' (first|(with_reducible first|refine yrl (by constructor) ?_|refine jk (fun M hM=>?_)|(refine hM _ ?_;clear hM M)|refine xb3 (by decide) ?_|refine yqa (by assumption) ?_ ?_|refine yqb (by assumption) ?_ ?_)|((with_reducible refine je ?_)<;>(first|rfl|assumption|(simp only [znl,jO,nls_regs,nls_wr0];(first|done|fail))))|(with_reducible refine jf (by (simp only [↓reduceIte,zlk,Nat.reduceEqDiff,reduceCtorEq]);exact rfl) ?_)|((with_reducible first|refine jg (fun hc=>?_) (fun hc=>?_)|refine jh (fun hc=>?_) (fun hc=>?_))<;>(try simp (disch:=omega) only [zhb] at hc)<;>(try (exfalso;omega))<;>(try subst hc))|(with_reducible refine ji (by omega) ?_)|(simp (config := { maxSteps := 400000 }) only [↓jt,↓reduceIte,zvs,reduceCtorEq,Nat.reduceEqDiff,Nat.reduceAdd,Nat.reduceLeDiff,Nat.reduceMul,Int.reduceBNe,Int.reduceBEq,Int.reduceEq,Int.reduceNe,Int.reduceLT,Int.reduceLE,Int.reduceGT,Int.reduceGE,Int.reduceNeg,Int.reduceToNat,Nat.reduceLT,Nat.reduceSub,tab,tab0,hS,hG,hG0,hG1,hG2,hset0,hset1,hset2,hset3,hl,hl0,hl1,hl2,hl3,← hpcw,← him,encCpu,storeAt_go,isP_ptr,Tryd.results12,List.toList_toArray])|(simp (disch:=omega) only [ziw]))
          all_goals first
            | (exfalso; omega)
            | (((try simp only [stepV,encCpu,List.map_nil]); simp only [zrds]; (repeat' (first | exact rd_nil | exact Rd.refl _ _ (by first|rfl|assumption|(simp only [znl,jO,nls_regs,nls_wr0];(first|done|fail))) | (refine And.intro ?_ ?_) | (refine rd_own (by (simp only [↓reduceIte,zlk,Nat.reduceEqDiff,reduceCtorEq]); exact rfl) ?_ ?_ ?_) | rfl | assumption | (simp only [znl,jO,nls_regs,nls_wr0];(first|done|fail)) | (simp; done) | (simp; omega)))); all_goals (exact RdL.refl _ _ (nls_regs _)))
            | trace_state
        · rw [htk] at hTk
          rw [if_pos rfl]
          refine spec_ok Tryd.func12 rfl rfl (by kernel_rfl) (k := 3) rfl (by decide) ?_
          repeat' (first|(with_reducible first|refine yrl (by constructor) ?_|refine jk (fun M hM=>?_)|(refine hM _ ?_;clear hM M)|refine xb3 (by decide) ?_|refine yqa (by assumption) ?_ ?_|refine yqb (by assumption) ?_ ?_)|((with_reducible refine je ?_)<;>(first|rfl|assumption|(simp only [znl,jO,nls_regs,nls_wr0];(first|done|fail))))|(with_reducible refine jf (by (simp only [↓reduceIte,zlk,Nat.reduceEqDiff,reduceCtorEq]);exact rfl) ?_)|((with_reducible first|refine jg (fun hc=>?_) (fun hc=>?_)|refine jh (fun hc=>?_) (fun hc=>?_))<;>(try simp (disch:=omega) only [zhb] at hc)<;>(try (exfalso;omega))<;>(try subst hc))|(with_reducible refine ji (by omega) ?_)|(simp (config := { maxSteps := 400000 }) only [↓jt,↓reduceIte,zvs,reduceCtorEq,Nat.reduceEqDiff,Nat.reduceAdd,Nat.reduceLeDiff,Nat.reduceMul,Int.reduceBNe,Int.reduceBEq,Int.reduceEq,Int.reduceNe,Int.reduceLT,Int.reduceLE,Int.reduceGT,Int.reduceGE,Int.reduceNeg,Int.reduceToNat,Nat.reduceLT,Nat.reduceSub,tab,tab0,hS,hG,hG0,hG1,hG2,hset0,hset1,hset2,hset3,hl,hl0,hl1,hl2,hl3,← hpcw,← him,encCpu,Tryd.results12,List.toList_toArray])|(simp (disch:=omega) only [ziw]))
          all_goals (try (exfalso; omega))
          refine ok_drawC 16 (by kernel_rfl) (by decide +kernel) (by intro m hm; simp only [upd_ap,rows_cons,rows_nil]; (repeat (first | rfl | rw [if_neg (by omega)]))) (fun M hM => ?_); simp only [List.take_succ_cons,List.take_zero,List.drop_succ_cons,List.drop_zero]
          repeat' (first|(with_reducible first|refine yrl (by constructor) ?_|refine jk (fun M hM=>?_)|(refine hM _ ?_;clear hM M)|refine xb3 (by decide) ?_|refine yqa (by assumption) ?_ ?_|refine yqb (by assumption) ?_ ?_)|((with_reducible refine je ?_)<;>(first|rfl|assumption|(simp only [znl,jO,nls_regs,nls_wr0];(first|done|fail))))|(with_reducible refine jf (by (simp only [↓reduceIte,zlk,Nat.reduceEqDiff,reduceCtorEq]);exact rfl) ?_)|((with_reducible first|refine jg (fun hc=>?_) (fun hc=>?_)|refine jh (fun hc=>?_) (fun hc=>?_))<;>(try simp (disch:=omega) only [zhb] at hc)<;>(try (exfalso;omega))<;>(try subst hc))|(with_reducible refine ji (by omega) ?_)|(simp (config := { maxSteps := 400000 }) only [↓jt,↓reduceIte,zvs,reduceCtorEq,Nat.reduceEqDiff,Nat.reduceAdd,Nat.reduceLeDiff,Nat.reduceMul,Int.reduceBNe,Int.reduceBEq,Int.reduceEq,Int.reduceNe,Int.reduceLT,Int.reduceLE,Int.reduceGT,Int.reduceGE,Int.reduceNeg,Int.reduceToNat,Nat.reduceLT,Nat.reduceSub,tab,tab0,hS,hG,hG0,hG1,hG2,hset0,hset1,hset2,hset3,hl,hl0,hl1,hl2,hl3,← hpcw,← him,encCpu,Tryd.results12,List.toList_toArray])|(simp (disch:=omega) only [ziw]))
          all_goals (try (exfalso; omega))
          refine ok_drawS 6 [0, 1, 2, 4] [(3, 4, 2), (5, 4, 3)] [2, 3] [_, _] (by kernel_rfl) (by decide +kernel) (by decide) (by decide) (by decide) (olds_cons (by decide) (by (simp only [↓reduceIte,zlk,Nat.reduceEqDiff,reduceCtorEq]); exact rfl) (olds_cons (by decide) (by (simp only [↓reduceIte,zlk,Nat.reduceEqDiff,reduceCtorEq]); exact rfl) olds_nil)) (by intro m hm; simp only [upd_ap,rows_cons,rows_nil]; (repeat (first | rfl | rw [if_neg (by omega)]))) (fun M hM => ?_); simp only [picks,storesAt_nil,storesAt_cons,hides_nil,hides_cons,shows_nil,shows_cons,List.getElem?_cons_succ,List.getElem?_cons_zero,List.drop_succ_cons,List.drop_zero]
          repeat' (first|(with_reducible first|refine yrl (by constructor) ?_|refine jk (fun M hM=>?_)|(refine hM _ ?_;clear hM M)|refine xb3 (by decide) ?_|refine yqa (by assumption) ?_ ?_|refine yqb (by assumption) ?_ ?_)|((with_reducible refine je ?_)<;>(first|rfl|assumption|(simp only [znl,jO,nls_regs,nls_wr0];(first|done|fail))))|(with_reducible refine jf (by (simp only [↓reduceIte,zlk,Nat.reduceEqDiff,reduceCtorEq]);exact rfl) ?_)|((with_reducible first|refine jg (fun hc=>?_) (fun hc=>?_)|refine jh (fun hc=>?_) (fun hc=>?_))<;>(try simp (disch:=omega) only [zhb] at hc)<;>(try (exfalso;omega))<;>(try subst hc))|(with_reducible refine ji (by omega) ?_)|(simp (config := { maxSteps := 400000 }) only [↓jt,↓reduceIte,zvs,reduceCtorEq,Nat.reduceEqDiff,Nat.reduceAdd,Nat.reduceLeDiff,Nat.reduceMul,Int.reduceBNe,Int.reduceBEq,Int.reduceEq,Int.reduceNe,Int.reduceLT,Int.reduceLE,Int.reduceGT,Int.reduceGE,Int.reduceNeg,Int.reduceToNat,Nat.reduceLT,Nat.reduceSub,tab,tab0,hS,hG,hG0,hG1,hG2,hset0,hset1,hset2,hset3,hl,hl0,hl1,hl2,hl3,← hpcw,← him,encCpu,storeAt_go,isP_ptr,Tryd.results12,List.toList_toArray])|(simp (disch:=omega) only [ziw]))
          all_goals first
            | (exfalso; omega)
            | (((try simp only [stepV,encCpu,List.map_nil]); simp only [zrds]; (repeat' (first | exact rd_nil | exact Rd.refl _ _ (by first|rfl|assumption|(simp only [znl,jO,nls_regs,nls_wr0];(first|done|fail))) | (refine And.intro ?_ ?_) | (refine rd_own (by (simp only [↓reduceIte,zlk,Nat.reduceEqDiff,reduceCtorEq]); exact rfl) ?_ ?_ ?_) | rfl | assumption | (simp only [znl,jO,nls_regs,nls_wr0];(first|done|fail)) | (simp; done) | (simp; omega)))); all_goals (exact RdL.refl _ _ (nls_regs _)))
            | trace_state
      rw [if_neg h28]
      by_cases h29 : x.op = 29
      · rw [if_pos h29]
        obtain ⟨r1, r2, e1, e2, hset1, hset2, hl1, hl2⟩ := fin (pc)
        rw [← e1, ← e2]
        have hG1 := hasRegs r1 hl1
        have hG2 := hasRegs r2 hl2
        refine spec_ok Tryd.func12 rfl rfl (by kernel_rfl) (k := 3) rfl (by decide) ?_
        repeat' (first|(with_reducible first|refine yrl (by constructor) ?_|refine jk (fun M hM=>?_)|(refine hM _ ?_;clear hM M)|refine xb3 (by decide) ?_|refine yqa (by assumption) ?_ ?_|refine yqb (by assumption) ?_ ?_)|((with_reducible refine je ?_)<;>(first|rfl|assumption|(simp only [znl,jO,nls_regs,nls_wr0];(first|done|fail))))|(with_reducible refine jf (by (simp only [↓reduceIte,zlk,Nat.reduceEqDiff,reduceCtorEq]);exact rfl) ?_)|((with_reducible first|refine jg (fun hc=>?_) (fun hc=>?_)|refine jh (fun hc=>?_) (fun hc=>?_))<;>(try simp (disch:=omega) only [zhb] at hc)<;>(try (exfalso;omega))<;>(try subst hc))|(with_reducible refine ji (by omega) ?_)|(simp (config := { maxSteps := 400000 }) only [↓jt,↓reduceIte,zvs,reduceCtorEq,Nat.reduceEqDiff,Nat.reduceAdd,Nat.reduceLeDiff,Nat.reduceMul,Int.reduceBNe,Int.reduceBEq,Int.reduceEq,Int.reduceNe,Int.reduceLT,Int.reduceLE,Int.reduceGT,Int.reduceGE,Int.reduceNeg,Int.reduceToNat,Nat.reduceLT,Nat.reduceSub,tab,tab0,hS,hG,hG0,hG1,hG2,hset0,hset1,hset2,hset3,hl,hl0,hl1,hl2,hl3,← hpcw,← him,encCpu,Tryd.results12,List.toList_toArray])|(simp (disch:=omega) only [ziw]))
        all_goals (try (exfalso; omega))
        refine ok_drawC 16 (by kernel_rfl) (by decide +kernel) (by intro m hm; simp only [upd_ap,rows_cons,rows_nil]; (repeat (first | rfl | rw [if_neg (by omega)]))) (fun M hM => ?_); simp only [List.take_succ_cons,List.take_zero,List.drop_succ_cons,List.drop_zero]
        repeat' (first|(with_reducible first|refine yrl (by constructor) ?_|refine jk (fun M hM=>?_)|(refine hM _ ?_;clear hM M)|refine xb3 (by decide) ?_|refine yqa (by assumption) ?_ ?_|refine yqb (by assumption) ?_ ?_)|((with_reducible refine je ?_)<;>(first|rfl|assumption|(simp only [znl,jO,nls_regs,nls_wr0];(first|done|fail))))|(with_reducible refine jf (by (simp only [↓reduceIte,zlk,Nat.reduceEqDiff,reduceCtorEq]);exact rfl) ?_)|((with_reducible first|refine jg (fun hc=>?_) (fun hc=>?_)|refine jh (fun hc=>?_) (fun hc=>?_))<;>(try simp (disch:=omega) only [zhb] at hc)<;>(try (exfalso;omega))<;>(try subst hc))|(with_reducible refine ji (by omega) ?_)|(simp (config := { maxSteps := 400000 }) only [↓jt,↓reduceIte,zvs,reduceCtorEq,Nat.reduceEqDiff,Nat.reduceAdd,Nat.reduceLeDiff,Nat.reduceMul,Int.reduceBNe,Int.reduceBEq,Int.reduceEq,Int.reduceNe,Int.reduceLT,Int.reduceLE,Int.reduceGT,Int.reduceGE,Int.reduceNeg,Int.reduceToNat,Nat.reduceLT,Nat.reduceSub,tab,tab0,hS,hG,hG0,hG1,hG2,hset0,hset1,hset2,hset3,hl,hl0,hl1,hl2,hl3,← hpcw,← him,encCpu,Tryd.results12,List.toList_toArray])|(simp (disch:=omega) only [ziw]))
        all_goals (try (exfalso; omega))
        refine ok_drawS 6 [0, 1, 2, 4] [(3, 4, 2), (5, 4, 3)] [2, 3] [_, _] (by kernel_rfl) (by decide +kernel) (by decide) (by decide) (by decide) (olds_cons (by decide) (by (simp only [↓reduceIte,zlk,Nat.reduceEqDiff,reduceCtorEq]); exact rfl) (olds_cons (by decide) (by (simp only [↓reduceIte,zlk,Nat.reduceEqDiff,reduceCtorEq]); exact rfl) olds_nil)) (by intro m hm; simp only [upd_ap,rows_cons,rows_nil]; (repeat (first | rfl | rw [if_neg (by omega)]))) (fun M hM => ?_); simp only [picks,storesAt_nil,storesAt_cons,hides_nil,hides_cons,shows_nil,shows_cons,List.getElem?_cons_succ,List.getElem?_cons_zero,List.drop_succ_cons,List.drop_zero]
        repeat' (first|(with_reducible first|refine yrl (by constructor) ?_|refine jk (fun M hM=>?_)|(refine hM _ ?_;clear hM M)|refine xb3 (by decide) ?_|refine yqa (by assumption) ?_ ?_|refine yqb (by assumption) ?_ ?_)|((with_reducible refine je ?_)<;>(first|rfl|assumption|(simp only [znl,jO,nls_regs,nls_wr0];(first|done|fail))))|(with_reducible refine jf (by (simp only [↓reduceIte,zlk,Nat.reduceEqDiff,reduceCtorEq]);exact rfl) ?_)|((with_reducible first|refine jg (fun hc=>?_) (fun hc=>?_)|refine jh (fun hc=>?_) (fun hc=>?_))<;>(try simp (disch:=omega) only [zhb] at hc)<;>(try (exfalso;omega))<;>(try subst hc))|(with_reducible refine ji (by omega) ?_)|(simp (config := { maxSteps := 400000 }) only [↓jt,↓reduceIte,zvs,reduceCtorEq,Nat.reduceEqDiff,Nat.reduceAdd,Nat.reduceLeDiff,Nat.reduceMul,Int.reduceBNe,Int.reduceBEq,Int.reduceEq,Int.reduceNe,Int.reduceLT,Int.reduceLE,Int.reduceGT,Int.reduceGE,Int.reduceNeg,Int.reduceToNat,Nat.reduceLT,Nat.reduceSub,tab,tab0,hS,hG,hG0,hG1,hG2,hset0,hset1,hset2,hset3,hl,hl0,hl1,hl2,hl3,← hpcw,← him,encCpu,storeAt_go,isP_ptr,Tryd.results12,List.toList_toArray])|(simp (disch:=omega) only [ziw]))
        all_goals first
          | (exfalso; omega)
          | (((try simp only [stepV,encCpu,List.map_nil]); simp only [zrds]; (repeat' (first | exact rd_nil | exact Rd.refl _ _ (by first|rfl|assumption|(simp only [znl,jO,nls_regs,nls_wr0];(first|done|fail))) | (refine And.intro ?_ ?_) | (refine rd_own (by (simp only [↓reduceIte,zlk,Nat.reduceEqDiff,reduceCtorEq]); exact rfl) ?_ ?_ ?_) | rfl | assumption | (simp only [znl,jO,nls_regs,nls_wr0];(first|done|fail)) | (simp; done) | (simp; omega)))); all_goals (exact RdL.refl _ _ (nls_regs _)))
          | trace_state
      rw [if_neg h29]
      by_cases h30 : x.op = 30
      · rw [if_pos h30]
        obtain ⟨r1, r2, e1, e2, hset1, hset2, hl1, hl2⟩ := fin (pc)
        rw [← e1, ← e2]
        have hG1 := hasRegs r1 hl1
        have hG2 := hasRegs r2 hl2
        refine spec_ok Tryd.func12 rfl rfl (by kernel_rfl) (k := 3) rfl (by decide) ?_
        repeat' (first|(with_reducible first|refine yrl (by constructor) ?_|refine jk (fun M hM=>?_)|(refine hM _ ?_;clear hM M)|refine xb3 (by decide) ?_|refine yqa (by assumption) ?_ ?_|refine yqb (by assumption) ?_ ?_)|((with_reducible refine je ?_)<;>(first|rfl|assumption|(simp only [znl,jO,nls_regs,nls_wr0];(first|done|fail))))|(with_reducible refine jf (by (simp only [↓reduceIte,zlk,Nat.reduceEqDiff,reduceCtorEq]);exact rfl) ?_)|((with_reducible first|refine jg (fun hc=>?_) (fun hc=>?_)|refine jh (fun hc=>?_) (fun hc=>?_))<;>(try simp (disch:=omega) only [zhb] at hc)<;>(try (exfalso;omega))<;>(try subst hc))|(with_reducible refine ji (by omega) ?_)|(simp (config := { maxSteps := 400000 }) only [↓jt,↓reduceIte,zvs,reduceCtorEq,Nat.reduceEqDiff,Nat.reduceAdd,Nat.reduceLeDiff,Nat.reduceMul,Int.reduceBNe,Int.reduceBEq,Int.reduceEq,Int.reduceNe,Int.reduceLT,Int.reduceLE,Int.reduceGT,Int.reduceGE,Int.reduceNeg,Int.reduceToNat,Nat.reduceLT,Nat.reduceSub,tab,tab0,hS,hG,hG0,hG1,hG2,hset0,hset1,hset2,hset3,hl,hl0,hl1,hl2,hl3,← hpcw,← him,encCpu,Tryd.results12,List.toList_toArray])|(simp (disch:=omega) only [ziw]))
        all_goals (try (exfalso; omega))
        refine ok_drawC 16 (by kernel_rfl) (by decide +kernel) (by intro m hm; simp only [upd_ap,rows_cons,rows_nil]; (repeat (first | rfl | rw [if_neg (by omega)]))) (fun M hM => ?_); simp only [List.take_succ_cons,List.take_zero,List.drop_succ_cons,List.drop_zero]
        repeat' (first|(with_reducible first|refine yrl (by constructor) ?_|refine jk (fun M hM=>?_)|(refine hM _ ?_;clear hM M)|refine xb3 (by decide) ?_|refine yqa (by assumption) ?_ ?_|refine yqb (by assumption) ?_ ?_)|((with_reducible refine je ?_)<;>(first|rfl|assumption|(simp only [znl,jO,nls_regs,nls_wr0];(first|done|fail))))|(with_reducible refine jf (by (simp only [↓reduceIte,zlk,Nat.reduceEqDiff,reduceCtorEq]);exact rfl) ?_)|((with_reducible first|refine jg (fun hc=>?_) (fun hc=>?_)|refine jh (fun hc=>?_) (fun hc=>?_))<;>(try simp (disch:=omega) only [zhb] at hc)<;>(try (exfalso;omega))<;>(try subst hc))|(with_reducible refine ji (by omega) ?_)|(simp (config := { maxSteps := 400000 }) only [↓jt,↓reduceIte,zvs,reduceCtorEq,Nat.reduceEqDiff,Nat.reduceAdd,Nat.reduceLeDiff,Nat.reduceMul,Int.reduceBNe,Int.reduceBEq,Int.reduceEq,Int.reduceNe,Int.reduceLT,Int.reduceLE,Int.reduceGT,Int.reduceGE,Int.reduceNeg,Int.reduceToNat,Nat.reduceLT,Nat.reduceSub,tab,tab0,hS,hG,hG0,hG1,hG2,hset0,hset1,hset2,hset3,hl,hl0,hl1,hl2,hl3,← hpcw,← him,encCpu,Tryd.results12,List.toList_toArray])|(simp (disch:=omega) only [ziw]))
        all_goals (try (exfalso; omega))
        refine ok_drawS 6 [0, 1, 2, 4] [(3, 4, 2), (5, 4, 3)] [2, 3] [_, _] (by kernel_rfl) (by decide +kernel) (by decide) (by decide) (by decide) (olds_cons (by decide) (by (simp only [↓reduceIte,zlk,Nat.reduceEqDiff,reduceCtorEq]); exact rfl) (olds_cons (by decide) (by (simp only [↓reduceIte,zlk,Nat.reduceEqDiff,reduceCtorEq]); exact rfl) olds_nil)) (by intro m hm; simp only [upd_ap,rows_cons,rows_nil]; (repeat (first | rfl | rw [if_neg (by omega)]))) (fun M hM => ?_); simp only [picks,storesAt_nil,storesAt_cons,hides_nil,hides_cons,shows_nil,shows_cons,List.getElem?_cons_succ,List.getElem?_cons_zero,List.drop_succ_cons,List.drop_zero]
        repeat' (first|(with_reducible first|refine yrl (by constructor) ?_|refine jk (fun M hM=>?_)|(refine hM _ ?_;clear hM M)|refine xb3 (by decide) ?_|refine yqa (by assumption) ?_ ?_|refine yqb (by assumption) ?_ ?_)|((with_reducible refine je ?_)<;>(first|rfl|assumption|(simp only [znl,jO,nls_regs,nls_wr0];(first|done|fail))))|(with_reducible refine jf (by (simp only [↓reduceIte,zlk,Nat.reduceEqDiff,reduceCtorEq]);exact rfl) ?_)|((with_reducible first|refine jg (fun hc=>?_) (fun hc=>?_)|refine jh (fun hc=>?_) (fun hc=>?_))<;>(try simp (disch:=omega) only [zhb] at hc)<;>(try (exfalso;omega))<;>(try subst hc))|(with_reducible refine ji (by omega) ?_)|(simp (config := { maxSteps := 400000 }) only [↓jt,↓reduceIte,zvs,reduceCtorEq,Nat.reduceEqDiff,Nat.reduceAdd,Nat.reduceLeDiff,Nat.reduceMul,Int.reduceBNe,Int.reduceBEq,Int.reduceEq,Int.reduceNe,Int.reduceLT,Int.reduceLE,Int.reduceGT,Int.reduceGE,Int.reduceNeg,Int.reduceToNat,Nat.reduceLT,Nat.reduceSub,tab,tab0,hS,hG,hG0,hG1,hG2,hset0,hset1,hset2,hset3,hl,hl0,hl1,hl2,hl3,← hpcw,← him,encCpu,storeAt_go,isP_ptr,Tryd.results12,List.toList_toArray])|(simp (disch:=omega) only [ziw]))
        all_goals first
          | (exfalso; omega)
          | (((try simp only [stepV,encCpu,List.map_nil]); simp only [zrds]; (repeat' (first | exact rd_nil | exact Rd.refl _ _ (by first|rfl|assumption|(simp only [znl,jO,nls_regs,nls_wr0];(first|done|fail))) | (refine And.intro ?_ ?_) | (refine rd_own (by (simp only [↓reduceIte,zlk,Nat.reduceEqDiff,reduceCtorEq]); exact rfl) ?_ ?_ ?_) | rfl | assumption | (simp only [znl,jO,nls_regs,nls_wr0];(first|done|fail)) | (simp; done) | (simp; omega)))); all_goals (exact RdL.refl _ _ (nls_regs _)))
          | trace_state
      rw [if_neg h30]
      have hset1 := hset3
      have hset2 := hset3
      have hl1 := hl3
      have hl2 := hl3
      have hG1 := hasRegs r3 hl3
      have hG2 := hasRegs r3 hl3
      rw [← hr3]
      refine spec_ok Tryd.func12 rfl rfl (by kernel_rfl) (k := 3) rfl (by decide) ?_
      repeat' (first|(with_reducible first|refine yrl (by constructor) ?_|refine jk (fun M hM=>?_)|(refine hM _ ?_;clear hM M)|refine xb3 (by decide) ?_|refine yqa (by assumption) ?_ ?_|refine yqb (by assumption) ?_ ?_)|((with_reducible refine je ?_)<;>(first|rfl|assumption|(simp only [znl,jO,nls_regs,nls_wr0];(first|done|fail))))|(with_reducible refine jf (by (simp only [↓reduceIte,zlk,Nat.reduceEqDiff,reduceCtorEq]);exact rfl) ?_)|((with_reducible first|refine jg (fun hc=>?_) (fun hc=>?_)|refine jh (fun hc=>?_) (fun hc=>?_))<;>(try simp (disch:=omega) only [zhb] at hc)<;>(try (exfalso;omega))<;>(try subst hc))|(with_reducible refine ji (by omega) ?_)|(simp (config := { maxSteps := 400000 }) only [↓jt,↓reduceIte,zvs,reduceCtorEq,Nat.reduceEqDiff,Nat.reduceAdd,Nat.reduceLeDiff,Nat.reduceMul,Int.reduceBNe,Int.reduceBEq,Int.reduceEq,Int.reduceNe,Int.reduceLT,Int.reduceLE,Int.reduceGT,Int.reduceGE,Int.reduceNeg,Int.reduceToNat,Nat.reduceLT,Nat.reduceSub,tab,tab0,hS,hG,hG0,hG1,hG2,hset0,hset1,hset2,hset3,hl,hl0,hl1,hl2,hl3,← hpcw,← him,encCpu,Tryd.results12,List.toList_toArray])|(simp (disch:=omega) only [ziw]))
      all_goals (try (exfalso; omega))
      refine ok_drawC 16 (by kernel_rfl) (by decide +kernel) (by intro m hm; simp only [upd_ap,rows_cons,rows_nil]; (repeat (first | rfl | rw [if_neg (by omega)]))) (fun M hM => ?_); simp only [List.take_succ_cons,List.take_zero,List.drop_succ_cons,List.drop_zero]
      repeat' (first|(with_reducible first|refine yrl (by constructor) ?_|refine jk (fun M hM=>?_)|(refine hM _ ?_;clear hM M)|refine xb3 (by decide) ?_|refine yqa (by assumption) ?_ ?_|refine yqb (by assumption) ?_ ?_)|((with_reducible refine je ?_)<;>(first|rfl|assumption|(simp only [znl,jO,nls_regs,nls_wr0];(first|done|fail))))|(with_reducible refine jf (by (simp only [↓reduceIte,zlk,Nat.reduceEqDiff,reduceCtorEq]);exact rfl) ?_)|((with_reducible first|refine jg (fun hc=>?_) (fun hc=>?_)|refine jh (fun hc=>?_) (fun hc=>?_))<;>(try simp (disch:=omega) only [zhb] at hc)<;>(try (exfalso;omega))<;>(try subst hc))|(with_reducible refine ji (by omega) ?_)|(simp (config := { maxSteps := 400000 }) only [↓jt,↓reduceIte,zvs,reduceCtorEq,Nat.reduceEqDiff,Nat.reduceAdd,Nat.reduceLeDiff,Nat.reduceMul,Int.reduceBNe,Int.reduceBEq,Int.reduceEq,Int.reduceNe,Int.reduceLT,Int.reduceLE,Int.reduceGT,Int.reduceGE,Int.reduceNeg,Int.reduceToNat,Nat.reduceLT,Nat.reduceSub,tab,tab0,hS,hG,hG0,hG1,hG2,hset0,hset1,hset2,hset3,hl,hl0,hl1,hl2,hl3,← hpcw,← him,encCpu,Tryd.results12,List.toList_toArray])|(simp (disch:=omega) only [ziw]))
      all_goals (try (exfalso; omega))
      refine ok_drawS 6 [0, 1, 2, 4] [(3, 4, 2), (5, 4, 3)] [2, 3] [_, _] (by kernel_rfl) (by decide +kernel) (by decide) (by decide) (by decide) (olds_cons (by decide) (by (simp only [↓reduceIte,zlk,Nat.reduceEqDiff,reduceCtorEq]); exact rfl) (olds_cons (by decide) (by (simp only [↓reduceIte,zlk,Nat.reduceEqDiff,reduceCtorEq]); exact rfl) olds_nil)) (by intro m hm; simp only [upd_ap,rows_cons,rows_nil]; (repeat (first | rfl | rw [if_neg (by omega)]))) (fun M hM => ?_); simp only [picks,storesAt_nil,storesAt_cons,hides_nil,hides_cons,shows_nil,shows_cons,List.getElem?_cons_succ,List.getElem?_cons_zero,List.drop_succ_cons,List.drop_zero]
      repeat' (first|(with_reducible first|refine yrl (by constructor) ?_|refine jk (fun M hM=>?_)|(refine hM _ ?_;clear hM M)|refine xb3 (by decide) ?_|refine yqa (by assumption) ?_ ?_|refine yqb (by assumption) ?_ ?_)|((with_reducible refine je ?_)<;>(first|rfl|assumption|(simp only [znl,jO,nls_regs,nls_wr0];(first|done|fail))))|(with_reducible refine jf (by (simp only [↓reduceIte,zlk,Nat.reduceEqDiff,reduceCtorEq]);exact rfl) ?_)|((with_reducible first|refine jg (fun hc=>?_) (fun hc=>?_)|refine jh (fun hc=>?_) (fun hc=>?_))<;>(try simp (disch:=omega) only [zhb] at hc)<;>(try (exfalso;omega))<;>(try subst hc))|(with_reducible refine ji (by omega) ?_)|(simp (config := { maxSteps := 400000 }) only [↓jt,↓reduceIte,zvs,reduceCtorEq,Nat.reduceEqDiff,Nat.reduceAdd,Nat.reduceLeDiff,Nat.reduceMul,Int.reduceBNe,Int.reduceBEq,Int.reduceEq,Int.reduceNe,Int.reduceLT,Int.reduceLE,Int.reduceGT,Int.reduceGE,Int.reduceNeg,Int.reduceToNat,Nat.reduceLT,Nat.reduceSub,tab,tab0,hS,hG,hG0,hG1,hG2,hset0,hset1,hset2,hset3,hl,hl0,hl1,hl2,hl3,← hpcw,← him,encCpu,storeAt_go,isP_ptr,Tryd.results12,List.toList_toArray])|(simp (disch:=omega) only [ziw]))
      all_goals first
        | (exfalso; omega)
        | (((try simp only [stepV,encCpu,List.map_nil]); simp only [zrds]; (repeat' (first | exact rd_nil | exact Rd.refl _ _ (by first|rfl|assumption|(simp only [znl,jO,nls_regs,nls_wr0];(first|done|fail))) | (refine And.intro ?_ ?_) | (refine rd_own (by (simp only [↓reduceIte,zlk,Nat.reduceEqDiff,reduceCtorEq]); exact rfl) ?_ ?_ ?_) | rfl | assumption | (simp only [znl,jO,nls_regs,nls_wr0];(first|done|fail)) | (simp; done) | (simp; omega)))); all_goals (exact RdL.refl _ _ (nls_regs _)))
        | trace_state
end Go.Proofs.YtabfjhpakgdopaaDoor.V
end
section
/-
  MMU, part 8: bytes copied piece by piece.
-/
set_option linter.unusedVariables false
set_option linter.unusedSimpArgs false
namespace Go.Proofs.YtabfjhpakgdopaaDoor.V
open Go
set_option maxRecDepth 100000
-- nlx: jO
set_option maxHeartbeats 1000000
end Go.Proofs.YtabfjhpakgdopaaDoor.V
end
section
/-
  MMU, part 9: bytes laid piece by piece.
-/
set_option linter.unusedVariables false
set_option linter.unusedSimpArgs false
namespace Go.Proofs.YtabfjhpakgdopaaDoor.V
open Go
set_option maxRecDepth 100000
-- nlx: jO
set_option maxHeartbeats 1000000
def layP (s : List Pte) : Nat → Int → List UInt8 → Frames → Option Frames
  | _, _, [], g => some g
  | 0, _, _ :: _, _ => none
  | t + 1, a, x :: d, g => match findO s a 1 true with
    | some (f, i) => if thereF g f = true then layP s t (a + (min (d.length + 1) (128 - i.toNat) : Nat)) ((x :: d).drop (min (d.length + 1) (128 - i.toNat))) (g.set f.toNat (putF (g.getD f.toNat []) i.toNat ((x :: d).take (min (d.length + 1) (128 - i.toNat))))) else none
    | none => none
theorem layP_cons (s : List Pte) (t : Nat) (a : Int) (d : List UInt8) (hd : d ≠ []) (g : Frames) : layP s (t + 1) a d g = match findO s a 1 true with
    | some (f, i) => if thereF g f = true then layP s t (a + (min d.length (128 - i.toNat) : Nat)) (d.drop (min d.length (128 - i.toNat))) (g.set f.toNat (putF (g.getD f.toNat []) i.toNat (d.take (min d.length (128 - i.toNat))))) else none
    | none => none := by
  cases d with
  | nil => exact absurd rfl hd
  | cons x d => rfl
theorem putF_len (p : List UInt8) (k : Nat) (s : List UInt8) (h : k + s.length ≤ p.length) : (putF p k s).length = p.length := by
  unfold putF; simp; omega
theorem thereF_same {fr g : Frames} (h : g.map List.length = fr.map List.length) (f : Int) : thereF g f = thereF fr f := by
  have h1 : g.length = fr.length := by simpa using congrArg List.length h
  have h2 : (g.getD f.toNat []).length = (fr.getD f.toNat []).length := by
    have h3 := congrArg (fun l => l[f.toNat]?) h
    simp only [List.getElem?_map] at h3
    rw [List.getD_eq_getElem?_getD, List.getD_eq_getElem?_getD]
    cases h4 : g[f.toNat]? <;> cases h5 : fr[f.toNat]? <;> simp_all
  unfold thereF
  rw [h1, h2]
theorem set_same {fr : Frames} {i : Nat} {r : List UInt8} (h : r.length = (fr.getD i []).length) : (fr.set i r).map List.length = fr.map List.length := by
  apply List.ext_getElem (by simp)
  intro j h1 h2
  simp only [List.getElem_map,List.getElem_set]
  split
  · rename_i e; subst e; simp at h2; rw [h]; simp [h2]
  · rfl
theorem PLay_spec (fr : Frames) (hf : fits fr) (s : List Pte) (hs : s.length = 16) (a : Int) (ha : 0 ≤ a ∧ a < 2 ^ 32) (d : List UInt8) (hd : d.length < 2 ^ 36) :
    Spec Tryd.prog 33 [encStrs fr, encSpace s, .int .u32 a, .str d] (framesV (if 2048 < d.length ∨ 2048 < a + d.length then none else layP s 2049 a d fr)) := by
  have hS := hasSpace s hs
  obtain ⟨hf1, hf2⟩ := id hf
  by_cases hc0 : 2048 < d.length ∨ 2048 < a + d.length
  · rw [if_pos hc0]
    refine spec_ok Tryd.func33 rfl rfl (by kernel_rfl) (k := 4) rfl (by decide) ?_
    repeat' (first|(with_reducible first|refine yrl (by constructor) ?_|refine jk (fun M hM=>?_)|(refine hM _ ?_;clear hM M)|refine xb3 (by decide) ?_|refine yqa (by assumption) ?_ ?_|refine yqb (by assumption) ?_ ?_)|((with_reducible refine je ?_)<;>(first|rfl|assumption|(simp only [znl,jO];(first|done|fail))))|(with_reducible refine jf (by (simp only [↓reduceIte,zlk,Nat.reduceEqDiff,reduceCtorEq]);exact rfl) ?_)|((with_reducible first|refine jg (fun hc=>?_) (fun hc=>?_)|refine jh (fun hc=>?_) (fun hc=>?_))<;>(try simp (disch:=omega) only [zhb] at hc)<;>(try (exfalso;omega))<;>(try subst hc))|(with_reducible refine ji (by omega) ?_)|(simp (config := { maxSteps := 400000 }) only [↓jt,↓reduceIte,zvs,reduceCtorEq,Nat.reduceEqDiff,Nat.reduceAdd,Nat.reduceLeDiff,Nat.reduceMul,Int.reduceBNe,Int.reduceBEq,Int.reduceEq,Int.reduceNe,Int.reduceLT,Int.reduceLE,Int.reduceGT,Int.reduceGE,Int.reduceNeg,Int.reduceToNat,Nat.reduceLT,Nat.reduceSub,tab,hS,Tryd.results33,List.toList_toArray])|(simp (disch:=omega) only [ziw]))
    refine ja (clone_call fr hf (fun h => ?_) ?_)
    · subst h
      repeat' (first|(with_reducible first|refine yrl (by constructor) ?_|refine jk (fun M hM=>?_)|(refine hM _ ?_;clear hM M)|refine xb3 (by decide) ?_|refine yqa (by assumption) ?_ ?_|refine yqb (by assumption) ?_ ?_)|((with_reducible refine je ?_)<;>(first|rfl|assumption|(simp only [znl,jO];(first|done|fail))))|(with_reducible refine jf (by (simp only [↓reduceIte,zlk,Nat.reduceEqDiff,reduceCtorEq]);exact rfl) ?_)|((with_reducible first|refine jg (fun hc=>?_) (fun hc=>?_)|refine jh (fun hc=>?_) (fun hc=>?_))<;>(try simp (disch:=omega) only [zhb] at hc)<;>(try (exfalso;omega))<;>(try subst hc))|(with_reducible refine ji (by omega) ?_)|(simp (config := { maxSteps := 400000 }) only [↓jt,↓reduceIte,zvs,reduceCtorEq,Nat.reduceEqDiff,Nat.reduceAdd,Nat.reduceLeDiff,Nat.reduceMul,Int.reduceBNe,Int.reduceBEq,Int.reduceEq,Int.reduceNe,Int.reduceLT,Int.reduceLE,Int.reduceGT,Int.reduceGE,Int.reduceNeg,Int.reduceToNat,Nat.reduceLT,Nat.reduceSub,tab,hS])|(simp (disch:=omega) only [ziw]))
      refine ja (ok_body Tryd.func67 rfl rfl (by kernel_rfl) (k := 6) (by rfl) (by decide) ?_)
      repeat' (first|(with_reducible first|refine yrl (by constructor) ?_|refine jk (fun M hM=>?_)|(refine hM _ ?_;clear hM M)|refine xb3 (by decide) ?_|refine yqa (by assumption) ?_ ?_|refine yqb (by assumption) ?_ ?_)|((with_reducible refine je ?_)<;>(first|rfl|assumption|(simp only [znl,jO];(first|done|fail))))|(with_reducible refine jf (by (simp only [↓reduceIte,zlk,Nat.reduceEqDiff,reduceCtorEq]);exact rfl) ?_)|((with_reducible first|refine jg (fun hc=>?_) (fun hc=>?_)|refine jh (fun hc=>?_) (fun hc=>?_))<;>(try simp (disch:=omega) only [zhb] at hc)<;>(try (exfalso;omega))<;>(try subst hc))|(with_reducible refine ji (by omega) ?_)|(simp (config := { maxSteps := 400000 }) only [↓jt,↓reduceIte,zvs,reduceCtorEq,Nat.reduceEqDiff,Nat.reduceAdd,Nat.reduceLeDiff,Nat.reduceMul,Int.reduceBNe,Int.reduceBEq,Int.reduceEq,Int.reduceNe,Int.reduceLT,Int.reduceLE,Int.reduceGT,Int.reduceGE,Int.reduceNeg,Int.reduceToNat,Nat.reduceLT,Nat.reduceSub,tab,hS,Tryd.results67,List.toList_toArray,Tryd.results33,List.toList_toArray])|(simp (disch:=omega) only [ziw]))
      all_goals simp only [framesV]
      all_goals simp only [zrds]
      all_goals exact rd_nil
    · repeat' (first|(with_reducible first|refine yrl (by constructor) ?_|refine jk (fun M hM=>?_)|(refine hM _ ?_;clear hM M)|refine xb3 (by decide) ?_|refine yqa (by assumption) ?_ ?_|refine yqb (by assumption) ?_ ?_)|((with_reducible refine je ?_)<;>(first|rfl|assumption|(simp only [znl,jO];(first|done|fail))))|(with_reducible refine jf (by (simp only [↓reduceIte,zlk,Nat.reduceEqDiff,reduceCtorEq]);exact rfl) ?_)|((with_reducible first|refine jg (fun hc=>?_) (fun hc=>?_)|refine jh (fun hc=>?_) (fun hc=>?_))<;>(try simp (disch:=omega) only [zhb] at hc)<;>(try (exfalso;omega))<;>(try subst hc))|(with_reducible refine ji (by omega) ?_)|(simp (config := { maxSteps := 400000 }) only [↓jt,↓reduceIte,zvs,reduceCtorEq,Nat.reduceEqDiff,Nat.reduceAdd,Nat.reduceLeDiff,Nat.reduceMul,Int.reduceBNe,Int.reduceBEq,Int.reduceEq,Int.reduceNe,Int.reduceLT,Int.reduceLE,Int.reduceGT,Int.reduceGE,Int.reduceNeg,Int.reduceToNat,Nat.reduceLT,Nat.reduceSub,tab,hS])|(simp (disch:=omega) only [ziw]))
      refine ja (ok_body Tryd.func67 rfl rfl (by kernel_rfl) (k := 6) (by rfl) (by decide) ?_)
      repeat' (first|(with_reducible first|refine yrl (by constructor) ?_|refine jk (fun M hM=>?_)|(refine hM _ ?_;clear hM M)|refine xb3 (by decide) ?_|refine yqa (by assumption) ?_ ?_|refine yqb (by assumption) ?_ ?_)|((with_reducible refine je ?_)<;>(first|rfl|assumption|(simp only [znl,jO];(first|done|fail))))|(with_reducible refine jf (by (simp only [↓reduceIte,zlk,Nat.reduceEqDiff,reduceCtorEq]);exact rfl) ?_)|((with_reducible first|refine jg (fun hc=>?_) (fun hc=>?_)|refine jh (fun hc=>?_) (fun hc=>?_))<;>(try simp (disch:=omega) only [zhb] at hc)<;>(try (exfalso;omega))<;>(try subst hc))|(with_reducible refine ji (by omega) ?_)|(simp (config := { maxSteps := 400000 }) only [↓jt,↓reduceIte,zvs,reduceCtorEq,Nat.reduceEqDiff,Nat.reduceAdd,Nat.reduceLeDiff,Nat.reduceMul,Int.reduceBNe,Int.reduceBEq,Int.reduceEq,Int.reduceNe,Int.reduceLT,Int.reduceLE,Int.reduceGT,Int.reduceGE,Int.reduceNeg,Int.reduceToNat,Nat.reduceLT,Nat.reduceSub,tab,hS,Tryd.results67,List.toList_toArray,Tryd.results33,List.toList_toArray])|(simp (disch:=omega) only [ziw]))
      all_goals simp only [framesV]
      all_goals simp only [zrds]
      all_goals exact rd_nil
  · rw [if_neg hc0]
    obtain ⟨R, hR⟩ : ∃ R, R = layP s 2049 a d fr := ⟨_, rfl⟩
    rw [← hR]
    refine spec_ok Tryd.func33 rfl rfl (by kernel_rfl) (k := 4) rfl (by decide) ?_
    repeat' (first|(with_reducible first|refine yrl (by constructor) ?_|refine jk (fun M hM=>?_)|(refine hM _ ?_;clear hM M)|refine xb3 (by decide) ?_|refine yqa (by assumption) ?_ ?_|refine yqb (by assumption) ?_ ?_)|((with_reducible refine je ?_)<;>(first|rfl|assumption|(simp only [znl,jO];(first|done|fail))))|(with_reducible refine jf (by (simp only [↓reduceIte,zlk,Nat.reduceEqDiff,reduceCtorEq]);exact rfl) ?_)|((with_reducible first|refine jg (fun hc=>?_) (fun hc=>?_)|refine jh (fun hc=>?_) (fun hc=>?_))<;>(try simp (disch:=omega) only [zhb] at hc)<;>(try (exfalso;omega))<;>(try subst hc))|(with_reducible refine ji (by omega) ?_)|(simp (config := { maxSteps := 400000 }) only [↓jt,↓reduceIte,zvs,reduceCtorEq,Nat.reduceEqDiff,Nat.reduceAdd,Nat.reduceLeDiff,Nat.reduceMul,Int.reduceBNe,Int.reduceBEq,Int.reduceEq,Int.reduceNe,Int.reduceLT,Int.reduceLE,Int.reduceGT,Int.reduceGE,Int.reduceNeg,Int.reduceToNat,Nat.reduceLT,Nat.reduceSub,tab,hS,Tryd.results33,List.toList_toArray])|(simp (disch:=omega) only [ziw]))
    refine ja (clone_call fr hf (fun h => ?_) ?_)
    · subst h
      repeat' (first|(with_reducible first|refine yrl (by constructor) ?_|refine jk (fun M hM=>?_)|(refine hM _ ?_;clear hM M)|refine xb3 (by decide) ?_|refine yqa (by assumption) ?_ ?_|refine yqb (by assumption) ?_ ?_)|((with_reducible refine je ?_)<;>(first|rfl|assumption|(simp only [znl,jO];(first|done|fail))))|(with_reducible refine jf (by (simp only [↓reduceIte,zlk,Nat.reduceEqDiff,reduceCtorEq]);exact rfl) ?_)|((with_reducible first|refine jg (fun hc=>?_) (fun hc=>?_)|refine jh (fun hc=>?_) (fun hc=>?_))<;>(try simp (disch:=omega) only [zhb] at hc)<;>(try (exfalso;omega))<;>(try subst hc))|(with_reducible refine ji (by omega) ?_)|(simp (config := { maxSteps := 400000 }) only [↓jt,↓reduceIte,zvs,reduceCtorEq,Nat.reduceEqDiff,Nat.reduceAdd,Nat.reduceLeDiff,Nat.reduceMul,Int.reduceBNe,Int.reduceBEq,Int.reduceEq,Int.reduceNe,Int.reduceLT,Int.reduceLE,Int.reduceGT,Int.reduceGE,Int.reduceNeg,Int.reduceToNat,Nat.reduceLT,Nat.reduceSub,tab,hS])|(simp (disch:=omega) only [ziw]))
      refine ja (ok_body Tryd.func67 rfl rfl (by kernel_rfl) (k := 6) (by rfl) (by decide) ?_)
      repeat' (first|(with_reducible first|refine yrl (by constructor) ?_|refine jk (fun M hM=>?_)|(refine hM _ ?_;clear hM M)|refine xb3 (by decide) ?_|refine yqa (by assumption) ?_ ?_|refine yqb (by assumption) ?_ ?_)|((with_reducible refine je ?_)<;>(first|rfl|assumption|(simp only [znl,jO];(first|done|fail))))|(with_reducible refine jf (by (simp only [↓reduceIte,zlk,Nat.reduceEqDiff,reduceCtorEq]);exact rfl) ?_)|((with_reducible first|refine jg (fun hc=>?_) (fun hc=>?_)|refine jh (fun hc=>?_) (fun hc=>?_))<;>(try simp (disch:=omega) only [zhb] at hc)<;>(try (exfalso;omega))<;>(try subst hc))|(with_reducible refine ji (by omega) ?_)|(simp (config := { maxSteps := 400000 }) only [↓jt,↓reduceIte,zvs,reduceCtorEq,Nat.reduceEqDiff,Nat.reduceAdd,Nat.reduceLeDiff,Nat.reduceMul,Int.reduceBNe,Int.reduceBEq,Int.reduceEq,Int.reduceNe,Int.reduceLT,Int.reduceLE,Int.reduceGT,Int.reduceGE,Int.reduceNeg,Int.reduceToNat,Nat.reduceLT,Nat.reduceSub,tab,hS])|(simp (disch:=omega) only [ziw]))
      refine ok_loop (fun x : Unit => ⟨slots [(0, encStrs []), (2, .int .u32 a), (3, .int .i64 d.length), (4, .bool true), (12, .bool false), (7, .ptr 3 [])], rows [(2, .row .cell (.sl none 0)), (3, .row (.arr 16 (.st [.cell, .cell, .cell])) (encSpace s))], 4⟩)
        (fun x => True) (fun x => 0) () ?_ trivial (fun x hx => ?_)
      · (refine yrn [(3, 3)] false ?_ ?_<;>(repeat' (first|(with_reducible first|exact ya1|exact ya2|exact ya3|refine jx rfl (by first|rfl|assumption|(simp only [znl,jO];(first|done|fail)))|exact ya5|exact ya7|exact jy|exact jz|refine jA ?_|refine ya9 ?_ ?_ ?_|refine jC rfl (by first|rfl|assumption|(simp only [znl,jO];(first|done|fail)))|refine MR.agg (MRL.cons ?_ ?_)|refine MR.fn ?_|refine MRL.cons ?_ ?_|exact MRL.nil|refine jE ?_ ?_|exact jF|exact jG|refine yb1 ?_ ?_|refine MB.row ?_|refine jI ?_ ?_|exact ya8|refine jJ rfl (by first|rfl|assumption|(simp only [znl,jO];(first|done|fail)))|refine yb2 ?_|rfl)|(simp only [znl,jO];(first|done|fail))|(simp only [↓reduceIte,zlk,Nat.reduceEqDiff,reduceCtorEq])|(with_reducible first|refine jJ ?_ ?_|refine ya5 ?_|refine ju ?_|refine jv ?_|refine jw ?_|refine jx ?_ (by first|rfl|assumption|(simp only [znl,jO];(first|done|fail)))|refine jC ?_ (by first|rfl|assumption|(simp only [znl,jO];(first|done|fail)))))))
      by_cases hlt : 0 < d.length
      · have hne : d ≠ [] := fun h => by subst h; simp at hlt
        rw [layP_cons _ _ _ _ hne] at hR
        repeat' (first|(with_reducible first|refine yrl (by constructor) ?_|refine jk (fun M hM=>?_)|(refine hM _ ?_;clear hM M)|refine xb3 (by decide) ?_|refine yqa (by assumption) ?_ ?_|refine yqb (by assumption) ?_ ?_)|((with_reducible refine je ?_)<;>(first|rfl|assumption|(simp only [znl,jO];(first|done|fail))))|(with_reducible refine jf (by (simp only [↓reduceIte,zlk,Nat.reduceEqDiff,reduceCtorEq]);exact rfl) ?_)|((with_reducible first|refine jg (fun hc=>?_) (fun hc=>?_)|refine jh (fun hc=>?_) (fun hc=>?_))<;>(try simp (disch:=omega) only [zhb] at hc)<;>(try (exfalso;omega))<;>(try subst hc))|(with_reducible refine ji (by omega) ?_)|(simp (config := { maxSteps := 400000 }) only [↓jt,↓reduceIte,zvs,reduceCtorEq,Nat.reduceEqDiff,Nat.reduceAdd,Nat.reduceLeDiff,Nat.reduceMul,Int.reduceBNe,Int.reduceBEq,Int.reduceEq,Int.reduceNe,Int.reduceLT,Int.reduceLE,Int.reduceGT,Int.reduceGE,Int.reduceNeg,Int.reduceToNat,Nat.reduceLT,Nat.reduceSub,tab,hS])|(simp (disch:=omega) only [ziw]))
        have h1 := find_spec s hs a (by omega) 1 true
        rcases hF : findO s a 1 true with _ | ⟨f, i⟩
        · rw [hF] at h1 hR
          simp only [findV] at h1
          refine ja (jc (h1) (by first|rfl|assumption|(simp only [znl,jO];(first|done|fail))) rfl ?_)
          repeat' (first|(with_reducible first|refine yrl (by constructor) ?_|refine jk (fun M hM=>?_)|(refine hM _ ?_;clear hM M)|refine xb3 (by decide) ?_|refine yqa (by assumption) ?_ ?_|refine yqb (by assumption) ?_ ?_)|((with_reducible refine je ?_)<;>(first|rfl|assumption|(simp only [znl,jO];(first|done|fail))))|(with_reducible refine jf (by (simp only [↓reduceIte,zlk,Nat.reduceEqDiff,reduceCtorEq]);exact rfl) ?_)|((with_reducible first|refine jg (fun hc=>?_) (fun hc=>?_)|refine jh (fun hc=>?_) (fun hc=>?_))<;>(try simp (disch:=omega) only [zhb] at hc)<;>(try (exfalso;omega))<;>(try subst hc))|(with_reducible refine ji (by omega) ?_)|(simp (config := { maxSteps := 400000 }) only [↓jt,↓reduceIte,zvs,reduceCtorEq,Nat.reduceEqDiff,Nat.reduceAdd,Nat.reduceLeDiff,Nat.reduceMul,Int.reduceBNe,Int.reduceBEq,Int.reduceEq,Int.reduceNe,Int.reduceLT,Int.reduceLE,Int.reduceGT,Int.reduceGE,Int.reduceNeg,Int.reduceToNat,Nat.reduceLT,Nat.reduceSub,tab,hS,Tryd.results67,List.toList_toArray,Tryd.results33,List.toList_toArray])|(simp (disch:=omega) only [ziw]))
          rw [hR]
          simp only [framesV]
          simp only [zrds]
          exact rd_nil
        · rw [hF] at h1 hR
          simp only [findV] at h1
          have h2 := there_spec [] hf f
          have h3 : thereF [] f = false := by
            rw [← Bool.not_eq_true, thereF_iff]; simp
          rw [h3] at h2
          dsimp only at hR
          rw [h3, if_neg (by simp)] at hR
          refine ja (jc (h1) (by first|rfl|assumption|(simp only [znl,jO];(first|done|fail))) rfl ?_)
          repeat' (first|(with_reducible first|refine yrl (by constructor) ?_|refine jk (fun M hM=>?_)|(refine hM _ ?_;clear hM M)|refine xb3 (by decide) ?_|refine yqa (by assumption) ?_ ?_|refine yqb (by assumption) ?_ ?_)|((with_reducible refine je ?_)<;>(first|rfl|assumption|(simp only [znl,jO];(first|done|fail))))|(with_reducible refine jf (by (simp only [↓reduceIte,zlk,Nat.reduceEqDiff,reduceCtorEq]);exact rfl) ?_)|((with_reducible first|refine jg (fun hc=>?_) (fun hc=>?_)|refine jh (fun hc=>?_) (fun hc=>?_))<;>(try simp (disch:=omega) only [zhb] at hc)<;>(try (exfalso;omega))<;>(try subst hc))|(with_reducible refine ji (by omega) ?_)|(simp (config := { maxSteps := 400000 }) only [↓jt,↓reduceIte,zvs,reduceCtorEq,Nat.reduceEqDiff,Nat.reduceAdd,Nat.reduceLeDiff,Nat.reduceMul,Int.reduceBNe,Int.reduceBEq,Int.reduceEq,Int.reduceNe,Int.reduceLT,Int.reduceLE,Int.reduceGT,Int.reduceGE,Int.reduceNeg,Int.reduceToNat,Nat.reduceLT,Nat.reduceSub,tab,hS,Tryd.results67,List.toList_toArray,Tryd.results33,List.toList_toArray])|(simp (disch:=omega) only [ziw]))
          rw [hR]
          simp only [framesV]
          simp only [zrds]
          exact rd_nil
      · have hne : d = [] := List.eq_nil_of_length_eq_zero (by omega)
        subst hne
        repeat' (first|(with_reducible first|refine yrl (by constructor) ?_|refine jk (fun M hM=>?_)|(refine hM _ ?_;clear hM M)|refine xb3 (by decide) ?_|refine yqa (by assumption) ?_ ?_|refine yqb (by assumption) ?_ ?_)|((with_reducible refine je ?_)<;>(first|rfl|assumption|(simp only [znl,jO];(first|done|fail))))|(with_reducible refine jf (by (simp only [↓reduceIte,zlk,Nat.reduceEqDiff,reduceCtorEq]);exact rfl) ?_)|((with_reducible first|refine jg (fun hc=>?_) (fun hc=>?_)|refine jh (fun hc=>?_) (fun hc=>?_))<;>(try simp (disch:=omega) only [zhb] at hc)<;>(try (exfalso;omega))<;>(try subst hc))|(with_reducible refine ji (by omega) ?_)|(simp (config := { maxSteps := 400000 }) only [↓jt,↓reduceIte,zvs,reduceCtorEq,Nat.reduceEqDiff,Nat.reduceAdd,Nat.reduceLeDiff,Nat.reduceMul,Int.reduceBNe,Int.reduceBEq,Int.reduceEq,Int.reduceNe,Int.reduceLT,Int.reduceLE,Int.reduceGT,Int.reduceGE,Int.reduceNeg,Int.reduceToNat,Nat.reduceLT,Nat.reduceSub,tab,hS,Tryd.results67,List.toList_toArray,Tryd.results33,List.toList_toArray])|(simp (disch:=omega) only [ziw]))
        rw [hR]
        simp only [framesV,layP]
        simp only [zrds]
        exact rd_nil
    · repeat' (first|(with_reducible first|refine yrl (by constructor) ?_|refine jk (fun M hM=>?_)|(refine hM _ ?_;clear hM M)|refine xb3 (by decide) ?_|refine yqa (by assumption) ?_ ?_|refine yqb (by assumption) ?_ ?_)|((with_reducible refine je ?_)<;>(first|rfl|assumption|(simp only [znl,jO];(first|done|fail))))|(with_reducible refine jf (by (simp only [↓reduceIte,zlk,Nat.reduceEqDiff,reduceCtorEq]);exact rfl) ?_)|((with_reducible first|refine jg (fun hc=>?_) (fun hc=>?_)|refine jh (fun hc=>?_) (fun hc=>?_))<;>(try simp (disch:=omega) only [zhb] at hc)<;>(try (exfalso;omega))<;>(try subst hc))|(with_reducible refine ji (by omega) ?_)|(simp (config := { maxSteps := 400000 }) only [↓jt,↓reduceIte,zvs,reduceCtorEq,Nat.reduceEqDiff,Nat.reduceAdd,Nat.reduceLeDiff,Nat.reduceMul,Int.reduceBNe,Int.reduceBEq,Int.reduceEq,Int.reduceNe,Int.reduceLT,Int.reduceLE,Int.reduceGT,Int.reduceGE,Int.reduceNeg,Int.reduceToNat,Nat.reduceLT,Nat.reduceSub,tab,hS])|(simp (disch:=omega) only [ziw]))
      refine ja (ok_body Tryd.func67 rfl rfl (by kernel_rfl) (k := 6) (by rfl) (by decide) ?_)
      repeat' (first|(with_reducible first|refine yrl (by constructor) ?_|refine jk (fun M hM=>?_)|(refine hM _ ?_;clear hM M)|refine xb3 (by decide) ?_|refine yqa (by assumption) ?_ ?_|refine yqb (by assumption) ?_ ?_)|((with_reducible refine je ?_)<;>(first|rfl|assumption|(simp only [znl,jO];(first|done|fail))))|(with_reducible refine jf (by (simp only [↓reduceIte,zlk,Nat.reduceEqDiff,reduceCtorEq]);exact rfl) ?_)|((with_reducible first|refine jg (fun hc=>?_) (fun hc=>?_)|refine jh (fun hc=>?_) (fun hc=>?_))<;>(try simp (disch:=omega) only [zhb] at hc)<;>(try (exfalso;omega))<;>(try subst hc))|(with_reducible refine ji (by omega) ?_)|(simp (config := { maxSteps := 400000 }) only [↓jt,↓reduceIte,zvs,reduceCtorEq,Nat.reduceEqDiff,Nat.reduceAdd,Nat.reduceLeDiff,Nat.reduceMul,Int.reduceBNe,Int.reduceBEq,Int.reduceEq,Int.reduceNe,Int.reduceLT,Int.reduceLE,Int.reduceGT,Int.reduceGE,Int.reduceNeg,Int.reduceToNat,Nat.reduceLT,Nat.reduceSub,tab,hS])|(simp (disch:=omega) only [ziw]))
      refine ok_loop (fun x : Int × List UInt8 × Frames => ⟨slots [(0, encStrs fr), (2, .int .u32 x.1), (3, .int .i64 x.2.1.length), (4, .bool true), (5, .fn 68 [.ptr 4 [], .ptr 1 []]), (7, .ptr 5 []), (12, .bool false)],
          rows [(0, .row (.arr 16 (.st [.cell, .cell, .cell])) (encSpace s)), (1, .row .cell (.str x.2.1)), (3, .row (.arr fr.length .cell) (.agg (x.2.2.map .str))), (4, .row .cell (.sl (some (3, [], 0)) fr.length)), (5, .row (.arr 16 (.st [.cell, .cell, .cell])) (encSpace s))], 6⟩)
        (fun x => 0 ≤ x.1 ∧ x.1 + x.2.1.length = a + d.length ∧ x.2.2.map List.length = fr.map List.length ∧ ∃ t, x.2.1.length < t ∧ R = layP s t x.1 x.2.1 x.2.2) (fun x => x.2.1.length) (a, d, fr) ?_ ⟨ha.1, rfl, rfl, 2049, by show d.length < 2049; omega, hR⟩ (fun x hx => ?_)
      · (refine yrn [(5, 5)] false ?_ ?_<;>(repeat' (first|(with_reducible first|exact ya1|exact ya2|exact ya3|refine jx rfl (by first|rfl|assumption|(simp only [znl,jO];(first|done|fail)))|exact ya5|exact ya7|exact jy|exact jz|refine jA ?_|refine ya9 ?_ ?_ ?_|refine jC rfl (by first|rfl|assumption|(simp only [znl,jO];(first|done|fail)))|refine MR.agg (MRL.cons ?_ ?_)|refine MR.fn ?_|refine MRL.cons ?_ ?_|exact MRL.nil|refine jE ?_ ?_|exact jF|exact jG|refine yb1 ?_ ?_|refine MB.row ?_|refine jI ?_ ?_|exact ya8|refine jJ rfl (by first|rfl|assumption|(simp only [znl,jO];(first|done|fail)))|refine yb2 ?_|rfl)|(simp only [znl,jO];(first|done|fail))|(simp only [↓reduceIte,zlk,Nat.reduceEqDiff,reduceCtorEq])|(with_reducible first|refine jJ ?_ ?_|refine ya5 ?_|refine ju ?_|refine jv ?_|refine jw ?_|refine jx ?_ (by first|rfl|assumption|(simp only [znl,jO];(first|done|fail)))|refine jC ?_ (by first|rfl|assumption|(simp only [znl,jO];(first|done|fail)))))))
      obtain ⟨a', d', g⟩ := x
      obtain ⟨hx1, hx2, hx3, t, ht, hx4⟩ := hx
      dsimp only at hx1 hx2 hx3 ht hx4 ⊢
      have hgl : g.length = fr.length := by simpa using congrArg List.length hx3
      by_cases hlt : 0 < d'.length
      · have hne : d' ≠ [] := fun h => by subst h; simp at hlt
        obtain ⟨t, rfl⟩ : ∃ t', t = t' + 1 := ⟨t - 1, by omega⟩
        rw [layP_cons _ _ _ _ hne] at hx4
        repeat' (first|(with_reducible first|refine yrl (by constructor) ?_|refine jk (fun M hM=>?_)|(refine hM _ ?_;clear hM M)|refine xb3 (by decide) ?_|refine yqa (by assumption) ?_ ?_|refine yqb (by assumption) ?_ ?_)|((with_reducible refine je ?_)<;>(first|rfl|assumption|(simp only [znl,jO];(first|done|fail))))|(with_reducible refine jf (by (simp only [↓reduceIte,zlk,Nat.reduceEqDiff,reduceCtorEq]);exact rfl) ?_)|((with_reducible first|refine jg (fun hc=>?_) (fun hc=>?_)|refine jh (fun hc=>?_) (fun hc=>?_))<;>(try simp (disch:=omega) only [zhb] at hc)<;>(try (exfalso;omega))<;>(try subst hc))|(with_reducible refine ji (by omega) ?_)|(simp (config := { maxSteps := 400000 }) only [↓jt,↓reduceIte,zvs,reduceCtorEq,Nat.reduceEqDiff,Nat.reduceAdd,Nat.reduceLeDiff,Nat.reduceMul,Int.reduceBNe,Int.reduceBEq,Int.reduceEq,Int.reduceNe,Int.reduceLT,Int.reduceLE,Int.reduceGT,Int.reduceGE,Int.reduceNeg,Int.reduceToNat,Nat.reduceLT,Nat.reduceSub,tab,hS])|(simp (disch:=omega) only [ziw]))
        have h1 := find_spec s hs a' (by omega) 1 true
        rcases hF : findO s a' 1 true with _ | ⟨f, i⟩
        · rw [hF] at h1 hx4
          simp only [findV] at h1
          refine ja (jc (h1) (by first|rfl|assumption|(simp only [znl,jO];(first|done|fail))) rfl ?_)
          repeat' (first|(with_reducible first|refine yrl (by constructor) ?_|refine jk (fun M hM=>?_)|(refine hM _ ?_;clear hM M)|refine xb3 (by decide) ?_|refine yqa (by assumption) ?_ ?_|refine yqb (by assumption) ?_ ?_)|((with_reducible refine je ?_)<;>(first|rfl|assumption|(simp only [znl,jO];(first|done|fail))))|(with_reducible refine jf (by (simp only [↓reduceIte,zlk,Nat.reduceEqDiff,reduceCtorEq]);exact rfl) ?_)|((with_reducible first|refine jg (fun hc=>?_) (fun hc=>?_)|refine jh (fun hc=>?_) (fun hc=>?_))<;>(try simp (disch:=omega) only [zhb] at hc)<;>(try (exfalso;omega))<;>(try subst hc))|(with_reducible refine ji (by omega) ?_)|(simp (config := { maxSteps := 400000 }) only [↓jt,↓reduceIte,zvs,reduceCtorEq,Nat.reduceEqDiff,Nat.reduceAdd,Nat.reduceLeDiff,Nat.reduceMul,Int.reduceBNe,Int.reduceBEq,Int.reduceEq,Int.reduceNe,Int.reduceLT,Int.reduceLE,Int.reduceGT,Int.reduceGE,Int.reduceNeg,Int.reduceToNat,Nat.reduceLT,Nat.reduceSub,tab,hS,Tryd.results67,List.toList_toArray,Tryd.results33,List.toList_toArray])|(simp (disch:=omega) only [ziw]))
          rw [hx4]
          simp only [framesV]
          simp only [zrds]
          exact rd_nil
        · rw [hF] at h1 hx4
          simp only [findV] at h1
          dsimp only at hx4
          obtain ⟨g0, g1, g2, g3, g4, g5, g6, g7, g8⟩ := findO_some hx1 hF
          have h2 := there_spec fr hf f
          rw [thereF_same hx3] at hx4
          by_cases ht : thereF fr f = true
          · have ht' := thereF_iff.1 ht
            rw [← thereF_same hx3] at ht
            have hg' := thereF_iff.1 ht
            rw [thereF_same hx3] at ht
            rw [ht] at h2
            rw [if_pos ht] at hx4
            obtain ⟨m, hm⟩ : ∃ m, m = min d'.length (128 - i.toNat) := ⟨_, rfl⟩
            rw [← hm] at hx4
            have e2 : min (d'.length : Int) (128 - i) = (m : Int) := by omega
            have htl : (d'.take m).length = m := by rw [List.length_take]; omega
            have hml : m ≤ d'.length := by omega
            have h3 := put_spec (g.getD f.toNat []) (d'.take m) i g7 (by rw [htl]; omega) (by omega)
            refine ja (jc (h1) (by first|rfl|assumption|(simp only [znl,jO];(first|done|fail))) rfl ?_)
            repeat' (first|(with_reducible first|refine yrl (by constructor) ?_|refine jk (fun M hM=>?_)|(refine hM _ ?_;clear hM M)|refine xb3 (by decide) ?_|refine yqa (by assumption) ?_ ?_|refine yqb (by assumption) ?_ ?_)|((with_reducible refine je ?_)<;>(first|rfl|assumption|(simp only [znl,jO];(first|done|fail))))|(with_reducible refine jf (by (simp only [↓reduceIte,zlk,Nat.reduceEqDiff,reduceCtorEq]);exact rfl) ?_)|((with_reducible first|refine jg (fun hc=>?_) (fun hc=>?_)|refine jh (fun hc=>?_) (fun hc=>?_))<;>(try simp (disch:=omega) only [zhb] at hc)<;>(try (exfalso;omega))<;>(try subst hc))|(with_reducible refine ji (by omega) ?_)|(simp (config := { maxSteps := 400000 }) only [↓jt,↓reduceIte,zvs,reduceCtorEq,Nat.reduceEqDiff,Nat.reduceAdd,Nat.reduceLeDiff,Nat.reduceMul,Int.reduceBNe,Int.reduceBEq,Int.reduceEq,Int.reduceNe,Int.reduceLT,Int.reduceLE,Int.reduceGT,Int.reduceGE,Int.reduceNeg,Int.reduceToNat,Nat.reduceLT,Nat.reduceSub,tab,hS,e2])|(simp (disch:=omega) only [ziw]))
            refine ja (ok_body Tryd.func68 rfl rfl (by kernel_rfl) (k := 5) (by rfl) (by decide) ?_)
            repeat' (first|(with_reducible first|refine yrl (by constructor) ?_|refine jk (fun M hM=>?_)|(refine hM _ ?_;clear hM M)|refine xb3 (by decide) ?_|refine yqa (by assumption) ?_ ?_|refine yqb (by assumption) ?_ ?_)|((with_reducible refine je ?_)<;>(first|rfl|assumption|(simp only [znl,jO];(first|done|fail))))|(with_reducible refine jf (by (simp only [↓reduceIte,zlk,Nat.reduceEqDiff,reduceCtorEq]);exact rfl) ?_)|((with_reducible first|refine jg (fun hc=>?_) (fun hc=>?_)|refine jh (fun hc=>?_) (fun hc=>?_))<;>(try simp (disch:=omega) only [zhb] at hc)<;>(try (exfalso;omega))<;>(try subst hc))|(with_reducible refine ji (by omega) ?_)|(simp (config := { maxSteps := 400000 }) only [↓jt,↓reduceIte,zvs,reduceCtorEq,Nat.reduceEqDiff,Nat.reduceAdd,Nat.reduceLeDiff,Nat.reduceMul,Int.reduceBNe,Int.reduceBEq,Int.reduceEq,Int.reduceNe,Int.reduceLT,Int.reduceLE,Int.reduceGT,Int.reduceGE,Int.reduceNeg,Int.reduceToNat,Nat.reduceLT,Nat.reduceSub,tab,hS])|(simp (disch:=omega) only [ziw]))
            refine ok_draw 12 (by kernel_rfl) (by decide +kernel) (by intro m hm; simp only [upd_ap,rows_cons,rows_nil]; (repeat (first | rfl | rw [if_neg (by omega)]))) (fun M hM => ?_); simp only [List.take_succ_cons,List.take_zero,List.drop_succ_cons,List.drop_zero]
            repeat' (first|(with_reducible first|refine yrl (by constructor) ?_|refine jk (fun M hM=>?_)|(refine hM _ ?_;clear hM M)|refine xb3 (by decide) ?_|refine yqa (by assumption) ?_ ?_|refine yqb (by assumption) ?_ ?_)|((with_reducible refine je ?_)<;>(first|rfl|assumption|(simp only [znl,jO];(first|done|fail))))|(with_reducible refine jf (by (simp only [↓reduceIte,zlk,Nat.reduceEqDiff,reduceCtorEq]);exact rfl) ?_)|((with_reducible first|refine jg (fun hc=>?_) (fun hc=>?_)|refine jh (fun hc=>?_) (fun hc=>?_))<;>(try simp (disch:=omega) only [zhb] at hc)<;>(try (exfalso;omega))<;>(try subst hc))|(with_reducible refine ji (by omega) ?_)|(simp (config := { maxSteps := 400000 }) only [↓jt,↓reduceIte,zvs,reduceCtorEq,Nat.reduceEqDiff,Nat.reduceAdd,Nat.reduceLeDiff,Nat.reduceMul,Int.reduceBNe,Int.reduceBEq,Int.reduceEq,Int.reduceNe,Int.reduceLT,Int.reduceLE,Int.reduceGT,Int.reduceGE,Int.reduceNeg,Int.reduceToNat,Nat.reduceLT,Nat.reduceSub,tab,hS,Tryd.results68,List.toList_toArray])|(simp (disch:=omega) only [ziw]))
            refine xl1 (a' + (m : Int), d'.drop m, g.set f.toNat (putF (g.getD f.toNat []) i.toNat (d'.take m))) ?_ ⟨by show 0 ≤ a' + (m : Int); omega, by show a' + (m : Int) + ((d'.drop m).length : Int) = a + d.length; rw [List.length_drop]; omega,
              ?_, t, by show (d'.drop m).length < t; rw [List.length_drop]; omega, hx4⟩ (by show (d'.drop m).length < d'.length; rw [List.length_drop]; omega)
            · (refine yrn [(5, 5)] false ?_ ?_<;>(repeat' (first|(with_reducible first|exact ya1|exact ya2|exact ya3|refine jx rfl (by first|rfl|assumption|(simp only [znl,jO];(first|done|fail)))|exact ya5|exact ya7|exact jy|exact jz|refine jA ?_|refine ya9 ?_ ?_ ?_|refine jC rfl (by first|rfl|assumption|(simp only [znl,jO];(first|done|fail)))|refine MR.agg (MRL.cons ?_ ?_)|refine MR.fn ?_|refine MRL.cons ?_ ?_|exact MRL.nil|refine jE ?_ ?_|exact jF|exact jG|refine yb1 ?_ ?_|refine MB.row ?_|refine jI ?_ ?_|exact ya8|refine jJ rfl (by first|rfl|assumption|(simp only [znl,jO];(first|done|fail)))|refine yb2 ?_|rfl)|(simp only [znl,jO];(first|done|fail))|(simp only [↓reduceIte,zlk,Nat.reduceEqDiff,reduceCtorEq])|(with_reducible first|refine jJ ?_ ?_|refine ya5 ?_|refine ju ?_|refine jv ?_|refine jw ?_|refine jx ?_ (by first|rfl|assumption|(simp only [znl,jO];(first|done|fail)))|refine jC ?_ (by first|rfl|assumption|(simp only [znl,jO];(first|done|fail)))))))
              · rw [List.length_drop]; omega
              · exact List.take_of_length_le (by rw [List.length_drop]; omega)
              · rw [List.map_set]
            · show (g.set f.toNat (putF (g.getD f.toNat []) i.toNat (d'.take m))).map List.length = fr.map List.length
              rw [set_same (putF_len _ _ _ (by rw [htl]; omega)), hx3]
          · have ht2 := ht
            rw [Bool.not_eq_true] at ht
            rw [ht] at h2
            rw [if_neg ht2] at hx4
            refine ja (jc (h1) (by first|rfl|assumption|(simp only [znl,jO];(first|done|fail))) rfl ?_)
            repeat' (first|(with_reducible first|refine yrl (by constructor) ?_|refine jk (fun M hM=>?_)|(refine hM _ ?_;clear hM M)|refine xb3 (by decide) ?_|refine yqa (by assumption) ?_ ?_|refine yqb (by assumption) ?_ ?_)|((with_reducible refine je ?_)<;>(first|rfl|assumption|(simp only [znl,jO];(first|done|fail))))|(with_reducible refine jf (by (simp only [↓reduceIte,zlk,Nat.reduceEqDiff,reduceCtorEq]);exact rfl) ?_)|((with_reducible first|refine jg (fun hc=>?_) (fun hc=>?_)|refine jh (fun hc=>?_) (fun hc=>?_))<;>(try simp (disch:=omega) only [zhb] at hc)<;>(try (exfalso;omega))<;>(try subst hc))|(with_reducible refine ji (by omega) ?_)|(simp (config := { maxSteps := 400000 }) only [↓jt,↓reduceIte,zvs,reduceCtorEq,Nat.reduceEqDiff,Nat.reduceAdd,Nat.reduceLeDiff,Nat.reduceMul,Int.reduceBNe,Int.reduceBEq,Int.reduceEq,Int.reduceNe,Int.reduceLT,Int.reduceLE,Int.reduceGT,Int.reduceGE,Int.reduceNeg,Int.reduceToNat,Nat.reduceLT,Nat.reduceSub,tab,hS,Tryd.results67,List.toList_toArray,Tryd.results33,List.toList_toArray])|(simp (disch:=omega) only [ziw]))
            rw [hx4]
            simp only [framesV]
            simp only [zrds]
            exact rd_nil
      · have hne : d' = [] := List.eq_nil_of_length_eq_zero (by omega)
        subst hne
        repeat' (first|(with_reducible first|refine yrl (by constructor) ?_|refine jk (fun M hM=>?_)|(refine hM _ ?_;clear hM M)|refine xb3 (by decide) ?_|refine yqa (by assumption) ?_ ?_|refine yqb (by assumption) ?_ ?_)|((with_reducible refine je ?_)<;>(first|rfl|assumption|(simp only [znl,jO];(first|done|fail))))|(with_reducible refine jf (by (simp only [↓reduceIte,zlk,Nat.reduceEqDiff,reduceCtorEq]);exact rfl) ?_)|((with_reducible first|refine jg (fun hc=>?_) (fun hc=>?_)|refine jh (fun hc=>?_) (fun hc=>?_))<;>(try simp (disch:=omega) only [zhb] at hc)<;>(try (exfalso;omega))<;>(try subst hc))|(with_reducible refine ji (by omega) ?_)|(simp (config := { maxSteps := 400000 }) only [↓jt,↓reduceIte,zvs,reduceCtorEq,Nat.reduceEqDiff,Nat.reduceAdd,Nat.reduceLeDiff,Nat.reduceMul,Int.reduceBNe,Int.reduceBEq,Int.reduceEq,Int.reduceNe,Int.reduceLT,Int.reduceLE,Int.reduceGT,Int.reduceGE,Int.reduceNeg,Int.reduceToNat,Nat.reduceLT,Nat.reduceSub,tab,hS,Tryd.results67,List.toList_toArray,Tryd.results33,List.toList_toArray])|(simp (disch:=omega) only [ziw]))
        rw [hx4]
        cases t <;> simp only [framesV,layP]
        all_goals simp only [zrds]
        all_goals (refine rd_own (by (simp only [↓reduceIte,zlk,Nat.reduceEqDiff,reduceCtorEq]); exact rfl) ?_ ?_ ?_) <;> (first | rfl | assumption | (simp only [znl,jO];(first|done|fail)) | (simp; done) | (simp; omega) | skip)
end Go.Proofs.YtabfjhpakgdopaaDoor.V
end
section
/-
  THE TOP of one instruction: pages, texts the same, an operation's name.
-/
set_option linter.unusedVariables false
set_option linter.unusedSimpArgs false
namespace Go.Proofs.YtabfjhpakgdopaaDoor.V
open Go
set_option maxRecDepth 100000
set_option linter.defProp false in
def znE6 := And.intro @jO <| And.intro @nls_regs <| And.intro @nls_wr0 <| True.intro
set_option maxHeartbeats 8000000
def repB (b : UInt8) (k : Nat) : List UInt8 := List.replicate k b ++ List.replicate (128 - k) 0
theorem repB_set (b : UInt8) {k : Nat} (h : k < 128) : (repB b k).set k b = repB b (k + 1) := by
  unfold repB
  rw [List.set_append_right _ _ (by rw [List.length_replicate]; exact Nat.le_refl k), List.length_replicate, Nat.sub_self]
  obtain ⟨j, hj⟩ : ∃ j, 128 - k = j + 1 := ⟨127 - k, by omega⟩
  rw [hj, List.replicate_succ, List.set_cons_zero, show 128 - (k + 1) = j by omega, List.replicate_succ', List.append_assoc]; rfl
theorem repB_len (b : UInt8) {k : Nat} (h : k ≤ 128) : (repB b k).length = 128 := by unfold repB; rw [List.length_append, List.length_replicate, List.length_replicate]; omega
theorem repB_all (b : UInt8) : repB b 128 = List.replicate 128 b := by unfold repB; simp
theorem page_spec (b : UInt8) : Spec Tryd.prog 30 [.int .u8 b.toNat] (.str (List.replicate 128 b)) := by
  have h0 : (List.replicate 128 (VV.int .u8 0)) = (repB b 0).map encB := by unfold repB; rw [List.replicate_zero, List.nil_append, List.map_replicate]; rfl
  refine spec_ok Tryd.func30 rfl rfl (by kernel_rfl) (k := 1) rfl (by decide) ?_
  repeat' (first|(with_reducible first|refine yrl (by constructor) ?_|refine jk (fun M hM=>?_)|(refine hM _ ?_;clear hM M)|refine xb3 (by decide) ?_|refine yqa (by assumption) ?_ ?_|refine yqb (by assumption) ?_ ?_)|((with_reducible refine je ?_)<;>(first|rfl|assumption|(simp only [znl,znE6];(first|done|fail))))|(with_reducible refine jf (by (simp only [↓reduceIte,zlk,Nat.reduceEqDiff,reduceCtorEq]);exact rfl) ?_)|((with_reducible first|refine jg (fun hc=>?_) (fun hc=>?_)|refine jh (fun hc=>?_) (fun hc=>?_))<;>(try simp (disch:=omega) only [zhb] at hc)<;>(try (exfalso;omega))<;>(try subst hc))|(with_reducible refine ji (by omega) ?_)|(simp (config := { maxSteps := 400000 }) only [↓jt,↓reduceIte,zvs,reduceCtorEq,Nat.reduceEqDiff,Nat.reduceAdd,Nat.reduceLeDiff,Nat.reduceMul,Int.reduceBNe,Int.reduceBEq,Int.reduceEq,Int.reduceNe,Int.reduceLT,Int.reduceLE,Int.reduceGT,Int.reduceGE,Int.reduceNeg,Int.reduceToNat,Nat.reduceLT,Nat.reduceSub,tab,h0,Tryd.results30,List.toList_toArray])|(simp (disch:=omega) only [ziw]))
  all_goals (try (exfalso; omega))
  refine ok_loop (fun k : Nat => ⟨slots [(0, .int .u8 b.toNat), (3, .sl (some (0, [], 0)) 128), (7, .int .i64 128), (8, .int .i64 k)], rows [(0, .row (.arr 128 .cell) (.agg ((repB b k).map encB)))], 1⟩) (fun k => k ≤ 128) (fun k => 128 - k) 0 ?_ (Nat.zero_le _) (fun k hk => ?_)
  · (refine yrn [(0, 0)] false ?_ ?_<;>(repeat' (first|(with_reducible first|exact ya1|exact ya2|exact ya3|refine jx rfl (by first|rfl|assumption|(simp only [znl,znE6];(first|done|fail)))|exact ya5|exact ya7|exact jy|exact jz|refine jA ?_|refine ya9 ?_ ?_ ?_|refine jC rfl (by first|rfl|assumption|(simp only [znl,znE6];(first|done|fail)))|refine MR.agg (MRL.cons ?_ ?_)|refine MR.fn ?_|refine MRL.cons ?_ ?_|exact MRL.nil|refine jE ?_ ?_|exact jF|exact jG|refine yb1 ?_ ?_|refine MB.row ?_|refine jI ?_ ?_|exact ya8|refine jJ rfl (by first|rfl|assumption|(simp only [znl,znE6];(first|done|fail)))|refine yb2 ?_|rfl)|(simp only [znl,znE6];(first|done|fail))|(simp only [↓reduceIte,zlk,Nat.reduceEqDiff,reduceCtorEq])|(with_reducible first|refine jJ ?_ ?_|refine ya5 ?_|refine ju ?_|refine jv ?_|refine jw ?_|refine jx ?_ (by first|rfl|assumption|(simp only [znl,znE6];(first|done|fail)))|refine jC ?_ (by first|rfl|assumption|(simp only [znl,znE6];(first|done|fail)))))))
    all_goals (first | rfl | trace_state)
  have hl := repB_len b hk
  by_cases hlt : k < 128
  · have hw : ((repB b k).map encB).set k (.int .u8 b.toNat) = (repB b (k + 1)).map encB := by rw [← repB_set b hlt, List.map_set]; rfl
    generalize repB b k = l at hl hw ⊢
    repeat' (first|(with_reducible first|refine yrl (by constructor) ?_|refine jk (fun M hM=>?_)|(refine hM _ ?_;clear hM M)|refine xb3 (by decide) ?_|refine yqa (by assumption) ?_ ?_|refine yqb (by assumption) ?_ ?_)|((with_reducible refine je ?_)<;>(first|rfl|assumption|(simp only [znl,znE6];(first|done|fail))))|(with_reducible refine jf (by (simp only [↓reduceIte,zlk,Nat.reduceEqDiff,reduceCtorEq]);exact rfl) ?_)|((with_reducible first|refine jg (fun hc=>?_) (fun hc=>?_)|refine jh (fun hc=>?_) (fun hc=>?_))<;>(try simp (disch:=omega) only [zhb] at hc)<;>(try (exfalso;omega))<;>(try subst hc))|(with_reducible refine ji (by omega) ?_)|(simp (config := { maxSteps := 400000 }) only [↓jt,↓reduceIte,zvs,reduceCtorEq,Nat.reduceEqDiff,Nat.reduceAdd,Nat.reduceLeDiff,Nat.reduceMul,Int.reduceBNe,Int.reduceBEq,Int.reduceEq,Int.reduceNe,Int.reduceLT,Int.reduceLE,Int.reduceGT,Int.reduceGE,Int.reduceNeg,Int.reduceToNat,Nat.reduceLT,Nat.reduceSub,tab,hl,hw,Tryd.results30,List.toList_toArray])|(simp (disch:=omega) only [ziw]))
    all_goals first
      | (exfalso; omega)
      | (refine xl1 (k + 1) ?_ (by show k + 1 ≤ 128; omega) (by show 128 - (k + 1) < 128 - k; omega); (refine yrn [(0, 0)] false ?_ ?_<;>(repeat' (first|(with_reducible first|exact ya1|exact ya2|exact ya3|refine jx rfl (by first|rfl|assumption|(simp only [znl,znE6];(first|done|fail)))|exact ya5|exact ya7|exact jy|exact jz|refine jA ?_|refine ya9 ?_ ?_ ?_|refine jC rfl (by first|rfl|assumption|(simp only [znl,znE6];(first|done|fail)))|refine MR.agg (MRL.cons ?_ ?_)|refine MR.fn ?_|refine MRL.cons ?_ ?_|exact MRL.nil|refine jE ?_ ?_|exact jF|exact jG|refine yb1 ?_ ?_|refine MB.row ?_|refine jI ?_ ?_|exact ya8|refine jJ rfl (by first|rfl|assumption|(simp only [znl,znE6];(first|done|fail)))|refine yb2 ?_|rfl)|(simp only [znl,znE6];(first|done|fail))|(simp only [↓reduceIte,zlk,Nat.reduceEqDiff,reduceCtorEq])|(with_reducible first|refine jJ ?_ ?_|refine ya5 ?_|refine ju ?_|refine jv ?_|refine jw ?_|refine jx ?_ (by first|rfl|assumption|(simp only [znl,znE6];(first|done|fail)))|refine jC ?_ (by first|rfl|assumption|(simp only [znl,znE6];(first|done|fail))))))); all_goals (first | rfl | exact hw | trace_state); done)
      | trace_state
  · obtain rfl : k = 128 := by omega
    rw [repB_all]
    have hb : bytesOf (((List.replicate 128 b).map encB).take 128) = some (List.replicate 128 b) := by rw [List.take_of_length_le (by simp), bytesOf_enc]
    repeat' (first|(with_reducible first|refine yrl (by constructor) ?_|refine jk (fun M hM=>?_)|(refine hM _ ?_;clear hM M)|refine xb3 (by decide) ?_|refine yqa (by assumption) ?_ ?_|refine yqb (by assumption) ?_ ?_)|((with_reducible refine je ?_)<;>(first|rfl|assumption|(simp only [znl,znE6];(first|done|fail))))|(with_reducible refine jf (by (simp only [↓reduceIte,zlk,Nat.reduceEqDiff,reduceCtorEq]);exact rfl) ?_)|((with_reducible first|refine jg (fun hc=>?_) (fun hc=>?_)|refine jh (fun hc=>?_) (fun hc=>?_))<;>(try simp (disch:=omega) only [zhb] at hc)<;>(try (exfalso;omega))<;>(try subst hc))|(with_reducible refine ji (by omega) ?_)|(simp (config := { maxSteps := 400000 }) only [↓jt,↓reduceIte,zvs,reduceCtorEq,Nat.reduceEqDiff,Nat.reduceAdd,Nat.reduceLeDiff,Nat.reduceMul,Int.reduceBNe,Int.reduceBEq,Int.reduceEq,Int.reduceNe,Int.reduceLT,Int.reduceLE,Int.reduceGT,Int.reduceGE,Int.reduceNeg,Int.reduceToNat,Nat.reduceLT,Nat.reduceSub,tab,hb,Tryd.results30,List.toList_toArray])|(simp (disch:=omega) only [ziw]))
    all_goals first
      | (exfalso; omega)
      | (simp only [zrds]; done)
      | trace_state
def wildB (fr : Frames) : Bool := (fr.any fun s => decide (s.length ≠ 128)) || decide (20 < fr.length)
theorem wild_spec (fr : Frames) (hf : fr.length ≤ 2 ^ 47) (hs : ∀ s ∈ fr, s.length ≤ 2 ^ 47) : Spec Tryd.prog 10 [encStrs fr] (.bool (wildB fr)) := by
  obtain ⟨R, hR⟩ : ∃ R, R = wildB fr := ⟨_, rfl⟩
  rw [← hR]
  unfold wildB at hR
  refine spec_ok Tryd.func10 rfl rfl (by kernel_rfl) (k := 1) rfl (by decide) ?_
  repeat' (first|(with_reducible first|refine yrl (by constructor) ?_|refine jk (fun M hM=>?_)|(refine hM _ ?_;clear hM M)|refine xb3 (by decide) ?_|refine yqa (by assumption) ?_ ?_|refine yqb (by assumption) ?_ ?_)|((with_reducible refine je ?_)<;>(first|rfl|assumption|(simp only [znl,znE6];(first|done|fail))))|(with_reducible refine jf (by (simp only [↓reduceIte,zlk,Nat.reduceEqDiff,reduceCtorEq]);exact rfl) ?_)|((with_reducible first|refine jg (fun hc=>?_) (fun hc=>?_)|refine jh (fun hc=>?_) (fun hc=>?_))<;>(try simp (disch:=omega) only [zhb] at hc)<;>(try (exfalso;omega))<;>(try subst hc))|(with_reducible refine ji (by omega) ?_)|(simp (config := { maxSteps := 400000 }) only [↓jt,↓reduceIte,zvs,reduceCtorEq,Nat.reduceEqDiff,Nat.reduceAdd,Nat.reduceLeDiff,Nat.reduceMul,Int.reduceBNe,Int.reduceBEq,Int.reduceEq,Int.reduceNe,Int.reduceLT,Int.reduceLE,Int.reduceGT,Int.reduceGE,Int.reduceNeg,Int.reduceToNat,Nat.reduceLT,Nat.reduceSub,tab,Tryd.results10,List.toList_toArray])|(simp (disch:=omega) only [ziw]))
  all_goals (try (exfalso; omega))
  refine ok_loop (fun k : Nat => ⟨slots [(0, encStrs fr), (5, encStrs fr), (6, .int .i64 fr.length), (7, .int .i64 k)], rows [], 0⟩) (fun k => k ≤ fr.length ∧ ∀ j, j < k → (fr.getD j []).length = 128) (fun k => fr.length - k) 0 ?_ ⟨Nat.zero_le _, fun j hj => by omega⟩ (fun k hk => ?_)
  · (refine yrn [] false ?_ ?_<;>(repeat' (first|(with_reducible first|exact ya1|exact ya2|exact ya3|refine jx rfl (by first|rfl|assumption|(simp only [znl,znE6];(first|done|fail)))|exact ya5|exact ya7|exact jy|exact jz|refine jA ?_|refine ya9 ?_ ?_ ?_|refine jC rfl (by first|rfl|assumption|(simp only [znl,znE6];(first|done|fail)))|refine MR.agg (MRL.cons ?_ ?_)|refine MR.fn ?_|refine MRL.cons ?_ ?_|exact MRL.nil|refine jE ?_ ?_|exact jF|exact jG|refine yb1 ?_ ?_|refine MB.row ?_|refine jI ?_ ?_|exact ya8|refine jJ rfl (by first|rfl|assumption|(simp only [znl,znE6];(first|done|fail)))|refine yb2 ?_|rfl)|(simp only [znl,znE6];(first|done|fail))|(simp only [↓reduceIte,zlk,Nat.reduceEqDiff,reduceCtorEq])|(with_reducible first|refine jJ ?_ ?_|refine ya5 ?_|refine ju ?_|refine jv ?_|refine jw ?_|refine jx ?_ (by first|rfl|assumption|(simp only [znl,znE6];(first|done|fail)))|refine jC ?_ (by first|rfl|assumption|(simp only [znl,znE6];(first|done|fail)))))))
    all_goals (first | rfl | trace_state)
  obtain ⟨hk, hI⟩ := hk
  by_cases hlt : k < fr.length
  · have hme : fr.getD k [] ∈ fr := getD_memE hlt
    have hm := hs _ hme
    by_cases h : (fr.getD k []).length = 128
    · have hn : ∀ j, j < k + 1 → (fr.getD j []).length = 128 := fun j hj => by
        rcases Nat.lt_or_ge j k with h1 | h1
        · exact hI j h1
        · obtain rfl : j = k := by omega
          exact h
      repeat' (first|(with_reducible first|refine yrl (by constructor) ?_|refine jk (fun M hM=>?_)|(refine hM _ ?_;clear hM M)|refine xb3 (by decide) ?_|refine yqa (by assumption) ?_ ?_|refine yqb (by assumption) ?_ ?_)|((with_reducible refine je ?_)<;>(first|rfl|assumption|(simp only [znl,znE6];(first|done|fail))))|(with_reducible refine jf (by (simp only [↓reduceIte,zlk,Nat.reduceEqDiff,reduceCtorEq]);exact rfl) ?_)|((with_reducible first|refine jg (fun hc=>?_) (fun hc=>?_)|refine jh (fun hc=>?_) (fun hc=>?_))<;>(try simp (disch:=omega) only [zhb] at hc)<;>(try (exfalso;omega))<;>(try subst hc))|(with_reducible refine ji (by omega) ?_)|(simp (config := { maxSteps := 400000 }) only [↓jt,↓reduceIte,zvs,reduceCtorEq,Nat.reduceEqDiff,Nat.reduceAdd,Nat.reduceLeDiff,Nat.reduceMul,Int.reduceBNe,Int.reduceBEq,Int.reduceEq,Int.reduceNe,Int.reduceLT,Int.reduceLE,Int.reduceGT,Int.reduceGE,Int.reduceNeg,Int.reduceToNat,Nat.reduceLT,Nat.reduceSub,tab,Tryd.results10,List.toList_toArray])|(simp (disch:=omega) only [ziw]))
      all_goals first
        | (exfalso; omega)
        | (refine xl1 (k + 1) ?_ ⟨by show k + 1 ≤ fr.length; omega, hn⟩ (by show fr.length - (k + 1) < fr.length - k; omega); (refine yrn [] false ?_ ?_<;>(repeat' (first|(with_reducible first|exact ya1|exact ya2|exact ya3|refine jx rfl (by first|rfl|assumption|(simp only [znl,znE6];(first|done|fail)))|exact ya5|exact ya7|exact jy|exact jz|refine jA ?_|refine ya9 ?_ ?_ ?_|refine jC rfl (by first|rfl|assumption|(simp only [znl,znE6];(first|done|fail)))|refine MR.agg (MRL.cons ?_ ?_)|refine MR.fn ?_|refine MRL.cons ?_ ?_|exact MRL.nil|refine jE ?_ ?_|exact jF|exact jG|refine yb1 ?_ ?_|refine MB.row ?_|refine jI ?_ ?_|exact ya8|refine jJ rfl (by first|rfl|assumption|(simp only [znl,znE6];(first|done|fail)))|refine yb2 ?_|rfl)|(simp only [znl,znE6];(first|done|fail))|(simp only [↓reduceIte,zlk,Nat.reduceEqDiff,reduceCtorEq])|(with_reducible first|refine jJ ?_ ?_|refine ya5 ?_|refine ju ?_|refine jv ?_|refine jw ?_|refine jx ?_ (by first|rfl|assumption|(simp only [znl,znE6];(first|done|fail)))|refine jC ?_ (by first|rfl|assumption|(simp only [znl,znE6];(first|done|fail))))))); all_goals (first | rfl | trace_state); done)
        | trace_state
    · have hT : R = true := by
        rw [hR, Bool.or_eq_true]
        exact .inl (List.any_eq_true.2 ⟨_, hme, decide_eq_true h⟩)
      rw [hT]
      repeat' (first|(with_reducible first|refine yrl (by constructor) ?_|refine jk (fun M hM=>?_)|(refine hM _ ?_;clear hM M)|refine xb3 (by decide) ?_|refine yqa (by assumption) ?_ ?_|refine yqb (by assumption) ?_ ?_)|((with_reducible refine je ?_)<;>(first|rfl|assumption|(simp only [znl,znE6];(first|done|fail))))|(with_reducible refine jf (by (simp only [↓reduceIte,zlk,Nat.reduceEqDiff,reduceCtorEq]);exact rfl) ?_)|((with_reducible first|refine jg (fun hc=>?_) (fun hc=>?_)|refine jh (fun hc=>?_) (fun hc=>?_))<;>(try simp (disch:=omega) only [zhb] at hc)<;>(try (exfalso;omega))<;>(try subst hc))|(with_reducible refine ji (by omega) ?_)|(simp (config := { maxSteps := 400000 }) only [↓jt,↓reduceIte,zvs,reduceCtorEq,Nat.reduceEqDiff,Nat.reduceAdd,Nat.reduceLeDiff,Nat.reduceMul,Int.reduceBNe,Int.reduceBEq,Int.reduceEq,Int.reduceNe,Int.reduceLT,Int.reduceLE,Int.reduceGT,Int.reduceGE,Int.reduceNeg,Int.reduceToNat,Nat.reduceLT,Nat.reduceSub,tab,Tryd.results10,List.toList_toArray])|(simp (disch:=omega) only [ziw]))
      all_goals first
        | (exfalso; omega)
        | (simp only [zrds]; done)
        | trace_state
  · obtain rfl : k = fr.length := by omega
    have hany : (fr.any fun s => decide (s.length ≠ 128)) = false := by
      rw [List.any_eq_false]
      intro s hs' hc
      obtain ⟨j, hj, rfl⟩ := List.mem_iff_getElem.1 hs'
      have := hI j hj
      rw [List.getD_eq_getElem?_getD, List.getElem?_eq_getElem hj] at this
      exact of_decide_eq_true hc this
    rw [hany, Bool.false_or] at hR
    rw [hR]
    repeat' (first|(with_reducible first|refine yrl (by constructor) ?_|refine jk (fun M hM=>?_)|(refine hM _ ?_;clear hM M)|refine xb3 (by decide) ?_|refine yqa (by assumption) ?_ ?_|refine yqb (by assumption) ?_ ?_)|((with_reducible refine je ?_)<;>(first|rfl|assumption|(simp only [znl,znE6];(first|done|fail))))|(with_reducible refine jf (by (simp only [↓reduceIte,zlk,Nat.reduceEqDiff,reduceCtorEq]);exact rfl) ?_)|((with_reducible first|refine jg (fun hc=>?_) (fun hc=>?_)|refine jh (fun hc=>?_) (fun hc=>?_))<;>(try simp (disch:=omega) only [zhb] at hc)<;>(try (exfalso;omega))<;>(try subst hc))|(with_reducible refine ji (by omega) ?_)|(simp (config := { maxSteps := 400000 }) only [↓jt,↓reduceIte,zvs,reduceCtorEq,Nat.reduceEqDiff,Nat.reduceAdd,Nat.reduceLeDiff,Nat.reduceMul,Int.reduceBNe,Int.reduceBEq,Int.reduceEq,Int.reduceNe,Int.reduceLT,Int.reduceLE,Int.reduceGT,Int.reduceGE,Int.reduceNeg,Int.reduceToNat,Nat.reduceLT,Nat.reduceSub,tab,Tryd.results10,List.toList_toArray])|(simp (disch:=omega) only [ziw]))
    all_goals first
      | (exfalso; omega)
      | (simp only [zrds]; done)
      | (simp only [zrds]; simp; omega)
      | trace_state
theorem op_add : Spec Tryd.prog 31 [.str [97, 100, 100]] (.tup [.int .u8 1, .bool true]) := by
  have hnl : nameL.length = 32 := rfl
  have hN : Has (.arr 32 .cell) (.agg (nameL.map .str)) := has_arrMap hnl (fun x => by simp [Has, VV.leaf])
  have hn1 : nameL.getD 1 [] = [97, 100, 100] := rfl
  have z1 : ((1 : Nat) : Int) = 1 := rfl
  refine spec_ok Tryd.func31 rfl rfl (by kernel_rfl) (k := 1) rfl (by decide) ?_
  repeat' (first|(with_reducible first|refine yrl (by constructor) ?_|refine jk (fun M hM=>?_)|(refine hM _ ?_;clear hM M)|refine xb3 (by decide) ?_|refine yqa (by assumption) ?_ ?_|refine yqb (by assumption) ?_ ?_)|((with_reducible refine je ?_)<;>(first|rfl|assumption|(simp only [znl,znE6];(first|done|fail))))|(with_reducible refine jf (by (simp only [↓reduceIte,zlk,Nat.reduceEqDiff,reduceCtorEq]);exact rfl) ?_)|((with_reducible first|refine jg (fun hc=>?_) (fun hc=>?_)|refine jh (fun hc=>?_) (fun hc=>?_))<;>(try simp (disch:=omega) only [zhb] at hc)<;>(try (exfalso;omega))<;>(try subst hc))|(with_reducible refine ji (by omega) ?_)|(simp (config := { maxSteps := 400000 }) only [↓jt,↓reduceIte,zvs,reduceCtorEq,Nat.reduceEqDiff,Nat.reduceAdd,Nat.reduceLeDiff,Nat.reduceMul,Int.reduceBNe,Int.reduceBEq,Int.reduceEq,Int.reduceNe,Int.reduceLT,Int.reduceLE,Int.reduceGT,Int.reduceGE,Int.reduceNeg,Int.reduceToNat,Nat.reduceLT,Nat.reduceSub,tab,tab1,hN,Tryd.results31,List.toList_toArray])|(simp (disch:=omega) only [ziw]))
  all_goals (try (exfalso; omega))
  refine ok_loop (fun k : Nat => ⟨slots [(0, .str [97, 100, 100]), (6, .agg (nameL.map .str)), (7, .int .i64 k)], rows [], 0⟩) (fun k => k ≤ 1) (fun k => 1 - k) 0 ?_ (Nat.zero_le _) (fun k hk => ?_)
  · (refine yrn [] false ?_ ?_<;>(repeat' (first|(with_reducible first|exact ya1|exact ya2|exact ya3|refine jx rfl (by first|rfl|assumption|(simp only [znl,znE6];(first|done|fail)))|exact ya5|exact ya7|exact jy|exact jz|refine jA ?_|refine ya9 ?_ ?_ ?_|refine jC rfl (by first|rfl|assumption|(simp only [znl,znE6];(first|done|fail)))|refine MR.agg (MRL.cons ?_ ?_)|refine MR.fn ?_|refine MRL.cons ?_ ?_|exact MRL.nil|refine jE ?_ ?_|exact jF|exact jG|refine yb1 ?_ ?_|refine MB.row ?_|refine jI ?_ ?_|exact ya8|refine jJ rfl (by first|rfl|assumption|(simp only [znl,znE6];(first|done|fail)))|refine yb2 ?_|rfl)|(simp only [znl,znE6];(first|done|fail))|(simp only [↓reduceIte,zlk,Nat.reduceEqDiff,reduceCtorEq])|(with_reducible first|refine jJ ?_ ?_|refine ya5 ?_|refine ju ?_|refine jv ?_|refine jw ?_|refine jx ?_ (by first|rfl|assumption|(simp only [znl,znE6];(first|done|fail)))|refine jC ?_ (by first|rfl|assumption|(simp only [znl,znE6];(first|done|fail)))))))
    all_goals (first | rfl | exact MR.data _ rfl | trace_state)
  rcases (show k = 0 ∨ k = 1 by omega) with rfl | rfl
  · repeat' (first|(with_reducible first|refine yrl (by constructor) ?_|refine jk (fun M hM=>?_)|(refine hM _ ?_;clear hM M)|refine xb3 (by decide) ?_|refine yqa (by assumption) ?_ ?_|refine yqb (by assumption) ?_ ?_)|((with_reducible refine je ?_)<;>(first|rfl|assumption|(simp only [znl,znE6];(first|done|fail))))|(with_reducible refine jf (by (simp only [↓reduceIte,zlk,Nat.reduceEqDiff,reduceCtorEq]);exact rfl) ?_)|((with_reducible first|refine jg (fun hc=>?_) (fun hc=>?_)|refine jh (fun hc=>?_) (fun hc=>?_))<;>(try simp (disch:=omega) only [zhb] at hc)<;>(try (exfalso;omega))<;>(try subst hc))|(with_reducible refine ji (by omega) ?_)|(simp (config := { maxSteps := 400000 }) only [↓jt,↓reduceIte,zvs,reduceCtorEq,Nat.reduceEqDiff,Nat.reduceAdd,Nat.reduceLeDiff,Nat.reduceMul,Int.reduceBNe,Int.reduceBEq,Int.reduceEq,Int.reduceNe,Int.reduceLT,Int.reduceLE,Int.reduceGT,Int.reduceGE,Int.reduceNeg,Int.reduceToNat,Nat.reduceLT,Nat.reduceSub,tab,hN,hnl,Tryd.results31,List.toList_toArray])|(simp (disch:=omega) only [ziw]))
    all_goals first
      | (exfalso; omega)
      | (refine xl1 1 ?_ (by decide) (by decide); (refine yrn [] false ?_ ?_<;>(repeat' (first|(with_reducible first|exact ya1|exact ya2|exact ya3|refine jx rfl (by first|rfl|assumption|(simp only [znl,znE6];(first|done|fail)))|exact ya5|exact ya7|exact jy|exact jz|refine jA ?_|refine ya9 ?_ ?_ ?_|refine jC rfl (by first|rfl|assumption|(simp only [znl,znE6];(first|done|fail)))|refine MR.agg (MRL.cons ?_ ?_)|refine MR.fn ?_|refine MRL.cons ?_ ?_|exact MRL.nil|refine jE ?_ ?_|exact jF|exact jG|refine yb1 ?_ ?_|refine MB.row ?_|refine jI ?_ ?_|exact ya8|refine jJ rfl (by first|rfl|assumption|(simp only [znl,znE6];(first|done|fail)))|refine yb2 ?_|rfl)|(simp only [znl,znE6];(first|done|fail))|(simp only [↓reduceIte,zlk,Nat.reduceEqDiff,reduceCtorEq])|(with_reducible first|refine jJ ?_ ?_|refine ya5 ?_|refine ju ?_|refine jv ?_|refine jw ?_|refine jx ?_ (by first|rfl|assumption|(simp only [znl,znE6];(first|done|fail)))|refine jC ?_ (by first|rfl|assumption|(simp only [znl,znE6];(first|done|fail))))))); all_goals (first | rfl | exact MR.data _ rfl | trace_state); done)
      | trace_state
  · repeat' (first|(with_reducible first|refine yrl (by constructor) ?_|refine jk (fun M hM=>?_)|(refine hM _ ?_;clear hM M)|refine xb3 (by decide) ?_|refine yqa (by assumption) ?_ ?_|refine yqb (by assumption) ?_ ?_)|((with_reducible refine je ?_)<;>(first|rfl|assumption|(simp only [znl,znE6];(first|done|fail))))|(with_reducible refine jf (by (simp only [↓reduceIte,zlk,Nat.reduceEqDiff,reduceCtorEq]);exact rfl) ?_)|((with_reducible first|refine jg (fun hc=>?_) (fun hc=>?_)|refine jh (fun hc=>?_) (fun hc=>?_))<;>(try simp (disch:=omega) only [zhb] at hc)<;>(try (exfalso;omega))<;>(try subst hc))|(with_reducible refine ji (by omega) ?_)|(simp (config := { maxSteps := 400000 }) only [↓jt,↓reduceIte,zvs,reduceCtorEq,Nat.reduceEqDiff,Nat.reduceAdd,Nat.reduceLeDiff,Nat.reduceMul,Int.reduceBNe,Int.reduceBEq,Int.reduceEq,Int.reduceNe,Int.reduceLT,Int.reduceLE,Int.reduceGT,Int.reduceGE,Int.reduceNeg,Int.reduceToNat,Nat.reduceLT,Nat.reduceSub,tab,hN,hnl,hn1,z1,Tryd.results31,List.toList_toArray])|(simp (disch:=omega) only [ziw]))
    all_goals first
      | (exfalso; omega)
      | (exfalso; exact hc hn1)
      | (simp only [zrds]; done)
      | trace_state
end Go.Proofs.YtabfjhpakgdopaaDoor.V
end
section
/-
  THE TOP of one instruction: the example.
-/
set_option linter.unusedVariables false
set_option linter.unusedSimpArgs false
namespace Go.Proofs.YtabfjhpakgdopaaDoor.V
open Go
set_option maxRecDepth 100000
set_option linter.defProp false in
def znE7 := And.intro @jO <| And.intro @nls_regs <| And.intro @nls_wr0 <| True.intro
set_option maxHeartbeats 8000000
def zpte : Pte := ⟨false, false, 0⟩
def spW : List Pte := (List.replicate 16 zpte).set 0 ⟨true, true, 1⟩
def spR : List Pte := (List.replicate 16 zpte).set 0 ⟨true, false, 1⟩
def z128 : List UInt8 := List.replicate 128 0
def addB : List UInt8 := [0, 192, 72, 4]
def frA : Frames := [z128, addB ++ List.replicate 124 0]
def rsA : List Int := ((List.replicate 16 0).set 2 2).set 3 3
def insA : Ins := ⟨1, 1, 2, 3, 0⟩
theorem lay_A : layP spW 2049 0 addB [z128, z128] = some frA := by kernel_rfl
theorem enc_A : encE insA = 0 ∧ encW insA = 71876608 := ⟨by kernel_rfl, by kernel_rfl⟩
theorem step_A : (stepF ⟨rsA, 0⟩ spR frA).k = 0 ∧ (stepF ⟨rsA, 0⟩ spR frA).c.pc = 4 ∧ (stepF ⟨rsA, 0⟩ spR frA).c.rs.getD 1 default = 5 ∧ (stepF ⟨rsA, 0⟩ spR frA).c.rs.length = 16 := ⟨by kernel_rfl, by kernel_rfl, by kernel_rfl, by kernel_rfl⟩
set_option linter.defProp false in
def zbd := And.intro @vBuildSliceD.eq_1 <| True.intro
theorem speaks_spec : Spec Tryd.prog 11 [] (.bool true) := by
  have hO := op_add
  have hP : Spec Tryd.prog 30 [.int .u8 0] (.str z128) := page_spec 0
  have hE : Spec Tryd.prog 32 [.agg [.int .u8 1, .int .u8 1, .int .u8 2, .int .u8 3, .int .i32 0]] (.tup [.int .u32 71876608, .int .i64 0]) := by
    have h := penc_spec insA ⟨by decide, by decide, by decide, by decide, by decide⟩
    rw [enc_A.1, if_pos rfl, enc_A.2] at h
    exact h
  have hf2 : fits [z128, z128] := ⟨by decide, fun s hs => by simp at hs; subst hs; decide⟩
  have hfA : fits frA := ⟨by decide, fun s hs => by
    simp [frA] at hs
    rcases hs with rfl | rfl <;> decide⟩
  have hL : Spec Tryd.prog 33 [.dat .cell [.str z128, .str z128], encSpace spW, .int .u32 0, .str addB] (.tup [encStrs frA, .bool true]) := by
    have h := PLay_spec [z128, z128] hf2 spW (by decide) 0 ⟨by decide, by decide⟩ addB (by decide)
    rw [if_neg (by decide), lay_A] at h
    exact h
  have hcR : CpuR ⟨rsA, 0⟩ := ⟨by decide, fun x hx => by
    have : x = 0 ∨ x = 2 ∨ x = 3 := by
      have h : ∀ y ∈ rsA, y = 0 ∨ y = 2 ∨ y = 3 := by decide
      exact h x hx
    unfold rW; omega, ⟨by decide, by decide⟩⟩
  have hS := step_spec ⟨rsA, 0⟩ hcR spR (by decide) frA hfA
  obtain ⟨a1, a2, a3, a4⟩ := step_A
  unfold stepV at hS
  generalize stepF ⟨rsA, 0⟩ spR frA = r at hS a1 a2 a3 a4
  obtain ⟨⟨rs, pc⟩, fr, k, n⟩ := r
  dsimp only at a1 a2 a3 a4
  subst a1 a2
  have hG := hasRegs rs a4
  have hw0 : List.replicate 16 (VV.int .u32 0) = (List.replicate 16 (0 : Int)).map (.int .u32) := rfl
  have hw1 : ((List.replicate 16 (0 : Int)).map (VV.int .u32)).set 2 (.int .u32 2) = ((List.replicate 16 (0 : Int)).set 2 2).map (.int .u32) := rfl
  have hw2 : (((List.replicate 16 (0 : Int)).set 2 2).map (VV.int .u32)).set 3 (.int .u32 3) = rsA.map (.int .u32) := rfl
  have hby : bytesOf (((((List.replicate 4 (VV.int .u8 0)).set 0 (.int .u8 (IntKind.u8.wrap 71876608))).set 1 (.int .u8 (IntKind.u8.wrap (Int.fdiv 71876608 (2 ^ min 8 IntKind.u32.bits))))).set 2 (.int .u8 (IntKind.u8.wrap (Int.fdiv 71876608 (2 ^ min 16 IntKind.u32.bits))))).set 3 (.int .u8 (IntKind.u8.wrap (Int.fdiv 71876608 (2 ^ min 24 IntKind.u32.bits))))) = some addB := by kernel_rfl
  have hx0 : ((List.replicate 16 (0 : Int)).map (VV.int .u32))[2]? = some (.int .u32 0) := rfl
  have hx1 : (((List.replicate 16 (0 : Int)).set 2 2).map (VV.int .u32))[3]? = some (.int .u32 0) := rfl
  have hG0 := hasRegs (List.replicate 16 (0 : Int)) rfl
  have hG1 := hasRegs ((List.replicate 16 (0 : Int)).set 2 2) rfl
  have hG2 := hasRegs rsA rfl
  have hGR := hasSpace spR rfl
  have hGW := hasSpace spW rfl
  have hsR : (List.replicate 16 (VV.agg [.bool false, .bool false, .int .i64 0])).set 0 (.agg [.bool true, .bool false, .int .i64 1]) = spR.map encPte := rfl
  have hsW : (List.replicate 16 (VV.agg [.bool false, .bool false, .int .i64 0])).set 0 (.agg [.bool true, .bool true, .int .i64 1]) = spW.map encPte := rfl
  simp only [encCpu] at hS
  refine spec_ok Tryd.func11 rfl rfl (by kernel_rfl) (k := 0) rfl (by decide) ?_
  repeat' (first|(with_reducible first|refine yrl (by constructor) ?_|refine jk (fun M hM=>?_)|(refine hM _ ?_;clear hM M)|refine xb3 (by decide) ?_|refine yqa (by assumption) ?_ ?_|refine yqb (by assumption) ?_ ?_)|((with_reducible refine je ?_)<;>(first|rfl|assumption|(simp only [znl,znE7];(first|done|fail))))|(with_reducible refine jf (by (simp only [↓reduceIte,zlk,Nat.reduceEqDiff,reduceCtorEq]);exact rfl) ?_)|((with_reducible first|refine jg (fun hc=>?_) (fun hc=>?_)|refine jh (fun hc=>?_) (fun hc=>?_))<;>(try simp (disch:=omega) only [zhb] at hc)<;>(try (exfalso;omega))<;>(try subst hc))|(with_reducible refine ji (by omega) ?_)|(simp (config := { maxSteps := 400000 }) only [↓jt,↓reduceIte,zvs,reduceCtorEq,Nat.reduceEqDiff,Nat.reduceAdd,Nat.reduceLeDiff,Nat.reduceMul,Int.reduceBNe,Int.reduceBEq,Int.reduceEq,Int.reduceNe,Int.reduceLT,Int.reduceLE,Int.reduceGT,Int.reduceGE,Int.reduceNeg,Int.reduceToNat,Nat.reduceLT,Nat.reduceSub,tab,hG,hG0,hG1,hG2,hGR,hGW,hw0,hw1,hw2,hx0,hx1,hby,hsR,hsW,Tryd.results11,List.toList_toArray])|(simp (disch:=omega) only [ziw]))
  all_goals (try (exfalso; omega))
  refine ok_drawC 24 (by kernel_rfl) (by decide +kernel) (by intro m hm; simp only [upd_ap,rows_cons,rows_nil]; (repeat (first | rfl | rw [if_neg (by omega)]))) (fun M hM => ?_); simp only [List.take_succ_cons,List.take_zero,List.drop_succ_cons,List.drop_zero]
  repeat' (first|(with_reducible refine bldH_r ?_)|(with_reducible first|refine yrl (by constructor) ?_|refine jk (fun M hM=>?_)|(refine hM _ ?_;clear hM M)|refine xb3 (by decide) ?_|refine yqa (by assumption) ?_ ?_|refine yqb (by assumption) ?_ ?_)|((with_reducible refine je ?_)<;>(first|rfl|assumption|(simp only [znl,znE7];(first|done|fail))))|(with_reducible refine jf (by (simp only [↓reduceIte,zlk,Nat.reduceEqDiff,reduceCtorEq]);exact rfl) ?_)|((with_reducible first|refine jg (fun hc=>?_) (fun hc=>?_)|refine jh (fun hc=>?_) (fun hc=>?_))<;>(try simp (disch:=omega) only [zhb] at hc)<;>(try (exfalso;omega))<;>(try subst hc))|(with_reducible refine ji (by omega) ?_)|(simp (config := { maxSteps := 400000 }) only [↓jt,↓reduceIte,zvs,reduceCtorEq,Nat.reduceEqDiff,Nat.reduceAdd,Nat.reduceLeDiff,Nat.reduceMul,Int.reduceBNe,Int.reduceBEq,Int.reduceEq,Int.reduceNe,Int.reduceLT,Int.reduceLE,Int.reduceGT,Int.reduceGE,Int.reduceNeg,Int.reduceToNat,Nat.reduceLT,Nat.reduceSub,zbd,tab,hG,hG0,hG1,hG2,hGR,hGW,hw0,hw1,hw2,hx0,hx1,hby,hsR,hsW,Tryd.results11,List.toList_toArray])|(simp (disch:=omega) only [ziw]))
  all_goals first
    | (exfalso; omega)
    | (simp only [zrds]; done)
    | trace_state
end Go.Proofs.YtabfjhpakgdopaaDoor.V
end
section
/-
  ONE INSTRUCTION, plain: what it leaves alone; what it sees.
-/
set_option linter.unusedVariables false
set_option linter.unusedSimpArgs false
namespace Go.Proofs.YtabfjhpakgdopaaDoor.V
open Go
set_option maxRecDepth 100000
structure StepOk (c : CpuS) (s : List Pte) (fr : Frames) (r : StepR) : Prop where
  cpu : CpuR r.c
  k : r.k = 0 ∨ r.k = 1 ∨ ((r.k = 2 ∨ r.k = 3) ∧ r.c = c ∧ r.fr = fr)
  n : rW r.n
  zero : c.rs.getD 0 default = 0 → r.c.rs.getD 0 default = 0
  len : r.fr.length = fr.length
  l128 : (∀ s ∈ fr, s.length = 128) → ∀ s ∈ r.fr, s.length = 128
  own : ∀ i : Nat, (∀ p ∈ s, p.is = true → p.wr = true → p.fr ≠ (i : Int)) → r.fr.getD i [] = fr.getD i []
theorem okp {c : CpuS} {s : List Pte} {fr : Frames} {l : List Int} (hl : l.length = 16) (hR : ∀ x ∈ l, rW x) {pc k n : Int} (hp : rW pc) (hk : k = 0 ∨ k = 1) (hn : rW n) : StepOk c s fr ⟨⟨l.set 0 0, pc⟩, fr, k, n⟩ := by
  refine ⟨⟨by rw [List.length_set]; exact hl, set_R hR 0 ⟨by decide, by decide⟩, hp⟩, hk.elim .inl fun h => .inr (.inl h), hn, fun _ => ?_, rfl, fun h => h, fun _ _ => rfl⟩
  show (l.set 0 0).getD 0 default = 0
  rw [List.getD_eq_getElem?_getD, List.getElem?_set_self (by omega)]; rfl
theorem okf {c : CpuS} {s : List Pte} {fr : Frames} (hc : CpuR c) {k n : Int} (hk : k = 2 ∨ k = 3) (hn : rW n) : StepOk c s fr ⟨c, fr, k, n⟩ :=
  ⟨hc, .inr (.inr ⟨hk, rfl, rfl⟩), hn, fun h => h, rfl, fun h => h, fun _ _ => rfl⟩
theorem store_own {s : List Pte} (hs : s.length = 16) {fr g : Frames} {a size : Int} {v : Nat} (ha : 0 ≤ a) (h : storeP fr s a size v = some g) : g.length = fr.length ∧ ((∀ s ∈ fr, s.length = 128) → ∀ s ∈ g, s.length = 128) ∧ ∀ i : Nat, (∀ p ∈ s, p.is = true → p.wr = true → p.fr ≠ (i : Int)) → g.getD i [] = fr.getD i [] := by
  unfold storeP at h
  split at h
  · rename_i f i hf
    obtain ⟨g0, g1, g2, g3, g4, g5, g6, g7, g8⟩ := findO_some ha hf
    split at h
    · rename_i ht
      obtain ⟨t1, t2, t3⟩ := thereF_iff.1 ht
      injection h with h
      subst h
      have hpl : (putLE v (min size.toNat 8)).length = size.toNat := by rw [putLE_len]; omega
      have hl2 : (putF (fr.getD f.toNat []) i.toNat (putLE v (min size.toNat 8))).length = 128 := by rw [putF_len _ _ _ (by rw [hpl]; omega)]; exact t3
      refine ⟨List.length_set .., fun hall x hx => ?_, fun j hj => ?_⟩
      · rcases List.mem_or_eq_of_mem_set hx with hx | rfl
        · exact hall x hx
        · exact hl2
      · have hne : f.toNat ≠ j := fun e => by
          have := hj (s.getD (a / 128).toNat default) (getD_memE (by omega)) g3 (g4 rfl)
          omega
        rw [List.getD_eq_getElem?_getD, List.getElem?_set_ne hne, ← List.getD_eq_getElem?_getD]
    · cases h
  · cases h
theorem load_R (op : Int) (s : List Pte) (fr : Frames) (a : Int) : rW (loadC op s fr a).1 := by
  have z : rW 0 := ⟨by decide, by decide⟩
  unfold loadC
  split
  · split
    · rename_i n hn
      have := loadP_lt hn
      exact ⟨by show 0 ≤ (n : Int); omega, by show (n : Int) ≤ _; omega⟩
    · exact z
  · split
    · rename_i n hn
      have := loadP_lt hn
      dsimp only
      split
      · exact wr_u32 _
      · exact ⟨by omega, by omega⟩
    · dsimp only
      split
      · exact wr_u32 _
      · exact z
theorem step_ok {c : CpuS} (hc : CpuR c) {s : List Pte} (hs : s.length = 16) (fr : Frames) : StepOk c s fr (stepF c s fr) := by
  have z : rW 0 := ⟨by decide, by decide⟩
  unfold stepF
  split
  · exact okf hc (.inl rfl) hc.pc
  · rename_i w hw
    have hwl := loadP_lt hw
    split
    · exact okf hc (.inr rfl) ⟨by omega, by omega⟩
    · rename_i x hx
      obtain ⟨o1, o2, a1, a2, b1, b2, c1, c2, hxR⟩ := decO_ok hx
      unfold stepX
      have hl0 : (c.rs.set 0 0).length = 16 := by rw [List.length_set]; exact hc.len
      have hR0 : ∀ x ∈ c.rs.set 0 0, rW x := set_R hc.rs 0 z
      generalize c.rs.set 0 0 = r0 at hl0 hR0
      have hpc := wr_u32 (c.pc + 4)
      generalize IntKind.u32.wrap (c.pc + 4) = pc at hpc
      have him := wr_u32 x.imm
      generalize IntKind.u32.wrap x.imm = im at him
      have hb : rW (r0.getD x.b.toNat default) := hR0 _ (getD_memE (by omega))
      have ha : rW (r0.getD x.a.toNat default) := hR0 _ (getD_memE (by omega))
      have hcc : rW (r0.getD x.c.toNat default) := hR0 _ (getD_memE (by omega))
      have put : ∀ (v pc' k n : Int), rW v → rW pc' → (k = 0 ∨ k = 1) → rW n → StepOk c s fr ⟨⟨(r0.set x.a.toNat v).set 0 0, pc'⟩, fr, k, n⟩ := fun v pc' k n h1 h2 h3 h4 => okp (by rw [List.length_set]; exact hl0) (set_R hR0 _ h1) h2 h3 h4
      have no : ∀ (pc' k n : Int), rW pc' → (k = 0 ∨ k = 1) → rW n → StepOk c s fr ⟨⟨r0.set 0 0, pc'⟩, fr, k, n⟩ := fun pc' k n h2 h3 h4 => okp hl0 hR0 h2 h3 h4
      dsimp only
      split
      · exact put _ _ _ _ (reck_R _ hb hcc) hpc (.inl rfl) z
      split
      · exact put _ _ _ _ (reck_R _ hb him) hpc (.inl rfl) z
      split
      · exact put _ _ _ _ (wr_u32 _) hpc (.inl rfl) z
      split
      · split
        · exact okf hc (.inl rfl) (wr_u32 _)
        · exact put _ _ _ _ (load_R ..) hpc (.inl rfl) z
      split
      · split
        · exact okf hc (.inl rfl) (wr_u32 _)
        · rename_i g hg
          have h1 := no pc 0 0 hpc (.inl rfl) z
          obtain ⟨e1, e2, e3⟩ := store_own hs (wr_u32 (r0.getD x.b.toNat default + im)).1 hg
          exact ⟨h1.cpu, .inl rfl, z, h1.zero, e1, e2, e3⟩
      split
      · refine no _ _ _ ?_ (.inl rfl) z
        split
        · exact wr_u32 _
        · exact hpc
      split
      · exact put _ _ _ _ hpc (wr_u32 _) (.inl rfl) z
      split
      · exact put _ _ _ _ hpc (wr_u32 _) (.inl rfl) z
      · exact no _ _ _ hpc (.inr rfl) him
end Go.Proofs.YtabfjhpakgdopaaDoor.V
end
section
/-
  MMU, part 10: the program's memory is the reference's, in plain words.
-/
set_option linter.unusedVariables false
set_option linter.unusedSimpArgs false
namespace Go.Proofs.YtabfjhpakgdopaaDoor.V
open Go
end Go.Proofs.YtabfjhpakgdopaaDoor.V
end
section
/-
  MMU, part 11: the laws' own parts.
-/
set_option linter.unusedVariables false
set_option linter.unusedSimpArgs false
namespace Go.Proofs.YtabfjhpakgdopaaDoor.V
open Go
set_option maxRecDepth 100000
-- nlx: jO
set_option maxHeartbeats 1000000
abbrev pteT : Ty := .fcons .bool (.fcons .bool (.fcons (.int .i64) .fnil))
def mkPte (x : Bool × Bool × Int × Unit) : Pte := ⟨x.1, x.2.1, x.2.2.1⟩
theorem toV_space (n : Nat) (x : List (Bool × Bool × Int × Unit)) : toV (.arr n pteT) x = encSpace (x.map mkPte) := by
  have e : toV (.arr n pteT) x = .agg (x.map (toV pteT)) := rfl
  rw [e]
  unfold encSpace
  rw [List.map_map]
  congr 1
theorem toV_strs (x : List (List UInt8)) : toV (.sl .str) x = encStrs x := by
  simp only [toV,tsh]
  congr 1
end Go.Proofs.YtabfjhpakgdopaaDoor.V
end
