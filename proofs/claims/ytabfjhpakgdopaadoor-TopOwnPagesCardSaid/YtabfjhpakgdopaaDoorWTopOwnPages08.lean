/-
  Parts of the proof of TopOwnPages: E8, M10, M11, M14, E9, EG, EB.
  Conditions: none.
-/
import Derived.Test.YtabfjhpakgdopaaDoorWTopOwnPages07
import Derived.Test.YtabfjhpakgdopaaDoorWTopOwnPages03
import Derived.Test.YtabfjhpakgdopaaDoorWTopOwnPages05
import Derived.LaidMore
import Derived.OpenShut
import Derived.FnData
import Derived.Test.YtabfjhpakgdopaaDoorRows
import Derived.MakeChecks
section
/-
  ONE INSTRUCTION, plain: what it leaves alone; what it sees.
-/
set_option linter.unusedVariables false
set_option linter.unusedSimpArgs false
namespace Go.Proofs.YtabfjhpakgdopaaDoor.V
open Go
set_option maxRecDepth 100000
structure StepOk (c : CpuS) (s : List Pte) (fr : Frames) (r : StepR) : Prop where
  cpu : CpuR r.c
  k : r.k = 0 ∨ r.k = 1 ∨ ((r.k = 2 ∨ r.k = 3) ∧ r.c = c ∧ r.fr = fr)
  n : rW r.n
  zero : c.rs.getD 0 default = 0 → r.c.rs.getD 0 default = 0
  len : r.fr.length = fr.length
  l128 : (∀ s ∈ fr, s.length = 128) → ∀ s ∈ r.fr, s.length = 128
  own : ∀ i : Nat, (∀ p ∈ s, p.is = true → p.wr = true → p.fr ≠ (i : Int)) → r.fr.getD i [] = fr.getD i []
theorem okp {c : CpuS} {s : List Pte} {fr : Frames} {l : List Int} (hl : l.length = 16) (hR : ∀ x ∈ l, rW x) {pc k n : Int} (hp : rW pc) (hk : k = 0 ∨ k = 1) (hn : rW n) : StepOk c s fr ⟨⟨l.set 0 0, pc⟩, fr, k, n⟩ := by
  refine ⟨⟨by rw [List.length_set]; exact hl, set_R hR 0 ⟨by decide, by decide⟩, hp⟩, hk.elim .inl fun h => .inr (.inl h), hn, fun _ => ?_, rfl, fun h => h, fun _ _ => rfl⟩
  show (l.set 0 0).getD 0 default = 0
  rw [List.getD_eq_getElem?_getD, List.getElem?_set_self (by omega)]; rfl
theorem okf {c : CpuS} {s : List Pte} {fr : Frames} (hc : CpuR c) {k n : Int} (hk : k = 2 ∨ k = 3) (hn : rW n) : StepOk c s fr ⟨c, fr, k, n⟩ :=
  ⟨hc, .inr (.inr ⟨hk, rfl, rfl⟩), hn, fun h => h, rfl, fun h => h, fun _ _ => rfl⟩
theorem store_own {s : List Pte} (hs : s.length = 16) {fr g : Frames} {a size : Int} {v : Nat} (ha : 0 ≤ a) (h : storeP fr s a size v = some g) : g.length = fr.length ∧ ((∀ s ∈ fr, s.length = 128) → ∀ s ∈ g, s.length = 128) ∧ ∀ i : Nat, (∀ p ∈ s, p.is = true → p.wr = true → p.fr ≠ (i : Int)) → g.getD i [] = fr.getD i [] := by
  unfold storeP at h
  split at h
  · rename_i f i hf
    obtain ⟨g0, g1, g2, g3, g4, g5, g6, g7, g8⟩ := findO_some ha hf
    split at h
    · rename_i ht
      obtain ⟨t1, t2, t3⟩ := thereF_iff.1 ht
      injection h with h
      subst h
      have hpl : (putLE v (min size.toNat 8)).length = size.toNat := by rw [putLE_len]; omega
      have hl2 : (putF (fr.getD f.toNat []) i.toNat (putLE v (min size.toNat 8))).length = 128 := by rw [putF_len _ _ _ (by rw [hpl]; omega)]; exact t3
      refine ⟨List.length_set .., fun hall x hx => ?_, fun j hj => ?_⟩
      · rcases List.mem_or_eq_of_mem_set hx with hx | rfl
        · exact hall x hx
        · exact hl2
      · have hne : f.toNat ≠ j := fun e => by
          have := hj (s.getD (a / 128).toNat default) (getD_memE (by omega)) g3 (g4 rfl)
          omega
        rw [List.getD_eq_getElem?_getD, List.getElem?_set_ne hne, ← List.getD_eq_getElem?_getD]
    · cases h
  · cases h
theorem load_R (op : Int) (s : List Pte) (fr : Frames) (a : Int) : rW (loadC op s fr a).1 := by
  have z : rW 0 := ⟨by decide, by decide⟩
  unfold loadC
  split
  · split
    · rename_i n hn
      have := loadP_lt hn
      exact ⟨by show 0 ≤ (n : Int); omega, by show (n : Int) ≤ _; omega⟩
    · exact z
  · split
    · rename_i n hn
      have := loadP_lt hn
      dsimp only
      split
      · exact wr_u32 _
      · exact ⟨by omega, by omega⟩
    · dsimp only
      split
      · exact wr_u32 _
      · exact z
theorem step_ok {c : CpuS} (hc : CpuR c) {s : List Pte} (hs : s.length = 16) (fr : Frames) : StepOk c s fr (stepF c s fr) := by
  have z : rW 0 := ⟨by decide, by decide⟩
  unfold stepF
  split
  · exact okf hc (.inl rfl) hc.pc
  · rename_i w hw
    have hwl := loadP_lt hw
    split
    · exact okf hc (.inr rfl) ⟨by omega, by omega⟩
    · rename_i x hx
      obtain ⟨o1, o2, a1, a2, b1, b2, c1, c2, hxR⟩ := decO_ok hx
      unfold stepX
      have hl0 : (c.rs.set 0 0).length = 16 := by rw [List.length_set]; exact hc.len
      have hR0 : ∀ x ∈ c.rs.set 0 0, rW x := set_R hc.rs 0 z
      generalize c.rs.set 0 0 = r0 at hl0 hR0
      have hpc := wr_u32 (c.pc + 4)
      generalize IntKind.u32.wrap (c.pc + 4) = pc at hpc
      have him := wr_u32 x.imm
      generalize IntKind.u32.wrap x.imm = im at him
      have hb : rW (r0.getD x.b.toNat default) := hR0 _ (getD_memE (by omega))
      have ha : rW (r0.getD x.a.toNat default) := hR0 _ (getD_memE (by omega))
      have hcc : rW (r0.getD x.c.toNat default) := hR0 _ (getD_memE (by omega))
      have put : ∀ (v pc' k n : Int), rW v → rW pc' → (k = 0 ∨ k = 1) → rW n → StepOk c s fr ⟨⟨(r0.set x.a.toNat v).set 0 0, pc'⟩, fr, k, n⟩ := fun v pc' k n h1 h2 h3 h4 => okp (by rw [List.length_set]; exact hl0) (set_R hR0 _ h1) h2 h3 h4
      have no : ∀ (pc' k n : Int), rW pc' → (k = 0 ∨ k = 1) → rW n → StepOk c s fr ⟨⟨r0.set 0 0, pc'⟩, fr, k, n⟩ := fun pc' k n h2 h3 h4 => okp hl0 hR0 h2 h3 h4
      dsimp only
      split
      · exact put _ _ _ _ (reck_R _ hb hcc) hpc (.inl rfl) z
      split
      · exact put _ _ _ _ (reck_R _ hb him) hpc (.inl rfl) z
      split
      · exact put _ _ _ _ (wr_u32 _) hpc (.inl rfl) z
      split
      · split
        · exact okf hc (.inl rfl) (wr_u32 _)
        · exact put _ _ _ _ (load_R ..) hpc (.inl rfl) z
      split
      · split
        · exact okf hc (.inl rfl) (wr_u32 _)
        · rename_i g hg
          have h1 := no pc 0 0 hpc (.inl rfl) z
          obtain ⟨e1, e2, e3⟩ := store_own hs (wr_u32 (r0.getD x.b.toNat default + im)).1 hg
          exact ⟨h1.cpu, .inl rfl, z, h1.zero, e1, e2, e3⟩
      split
      · refine no _ _ _ ?_ (.inl rfl) z
        split
        · exact wr_u32 _
        · exact hpc
      split
      · exact put _ _ _ _ hpc (wr_u32 _) (.inl rfl) z
      split
      · exact put _ _ _ _ hpc (wr_u32 _) (.inl rfl) z
      · exact no _ _ _ hpc (.inr rfl) him
end Go.Proofs.YtabfjhpakgdopaaDoor.V
end
section
/-
  MMU, part 10: the program's memory is the reference's, in plain words.
-/
set_option linter.unusedVariables false
set_option linter.unusedSimpArgs false
namespace Go.Proofs.YtabfjhpakgdopaaDoor.V
open Go
end Go.Proofs.YtabfjhpakgdopaaDoor.V
end
section
/-
  MMU, part 11: the laws' own parts.
-/
set_option linter.unusedVariables false
set_option linter.unusedSimpArgs false
namespace Go.Proofs.YtabfjhpakgdopaaDoor.V
open Go
set_option maxRecDepth 100000
-- nlx: jO
set_option maxHeartbeats 1000000
abbrev pteT : Ty := .fcons .bool (.fcons .bool (.fcons (.int .i64) .fnil))
def mkPte (x : Bool × Bool × Int × Unit) : Pte := ⟨x.1, x.2.1, x.2.2.1⟩
theorem toV_space (n : Nat) (x : List (Bool × Bool × Int × Unit)) : toV (.arr n pteT) x = encSpace (x.map mkPte) := by
  have e : toV (.arr n pteT) x = .agg (x.map (toV pteT)) := rfl
  rw [e]
  unfold encSpace
  rw [List.map_map]
  congr 1
theorem toV_strs (x : List (List UInt8)) : toV (.sl .str) x = encStrs x := by
  simp only [toV,tsh]
  congr 1
end Go.Proofs.YtabfjhpakgdopaaDoor.V
end
section
/-
  MMU, part 14: has no page a frame that another one has?
-/
set_option linter.unusedVariables false
set_option linter.unusedSimpArgs false
namespace Go.Proofs.YtabfjhpakgdopaaDoor.V
open Go
set_option maxRecDepth 100000
-- nlx: jO, jP
set_option maxHeartbeats 1000000
def setM (L : List Int) : List (VV × VV) := L.foldl (fun es f => mput es (.int .i64 f) (.bool true)) []
theorem mget_mput : ∀ (es : List (VV × VV)) (f g : Int), mget (mput es (.int .i64 f) (.bool true)) (.int .i64 g) = if g = f then some (.bool true) else mget es (.int .i64 g)
  | [], f, g => by
    simp only [mput,mget,keq,beq_iff_eq]
  | (k, v) :: es, f, g => by
    simp only [mput]
    by_cases h : keq (.int .i64 f) k = true
    · rw [if_pos h]
      simp only [mget]
      cases k <;> simp [keq] at h
      subst h
      simp only [keq,beq_iff_eq]
      split <;> rfl
    · rw [if_neg h]
      simp only [mget,mget_mput es f g]
      by_cases h2 : keq (.int .i64 g) k = true
      · rw [if_pos h2, if_pos h2]
        by_cases e : g = f
        · subst e; exact absurd h2 h
        · rw [if_neg e]
      · rw [if_neg h2, if_neg h2]
theorem setM_snoc (L : List Int) (f : Int) : mput (setM L) (.int .i64 f) (.bool true) = setM (L ++ [f]) := by
  simp [setM, List.foldl_append]
theorem mget_setM (f : Int) : ∀ (L : List Int) (es : List (VV × VV)), mget (L.foldl (fun es f => mput es (.int .i64 f) (.bool true)) es) (.int .i64 f) = if f ∈ L then some (.bool true) else mget es (.int .i64 f)
  | [], es => by simp
  | g :: L, es => by
    simp only [List.foldl_cons,mget_setM f L,mget_mput,List.mem_cons]
    by_cases h : f ∈ L
    · simp [h]
    · simp [h]
theorem look_setM (L : List Int) (f : Int) : (mget (setM L) (.int .i64 f)).getD (.bool false) = .bool (decide (f ∈ L)) := by
  rw [setM, mget_setM]
  by_cases h : f ∈ L <;> simp [h, mget]
theorem mput_keys : ∀ (es : List (VV × VV)) (f : Int), (es.all fun q => keyV (.int .i64) q.1) = true → ((mput es (.int .i64 f) (.bool true)).all fun q => keyV (.int .i64) q.1) = true
  | [], f, _ => by simp [mput, keyV]
  | (k, v) :: es, f, h => by
    simp only [List.all_cons,Bool.and_eq_true] at h
    simp only [mput]
    split
    · simp only [List.all_cons,Bool.and_eq_true]; exact h
    · simp only [List.all_cons,Bool.and_eq_true]; exact ⟨h.1, mput_keys es f h.2⟩
theorem keys_setM (L : List Int) : ((setM L).all fun q => keyV (.int .i64) q.1) = true := by
  have key : ∀ (L : List Int) (es : List (VV × VV)), (es.all fun q => keyV (.int .i64) q.1) = true → ((L.foldl (fun es f => mput es (.int .i64 f) (.bool true)) es).all fun q => keyV (.int .i64) q.1) = true := by
    intro L
    induction L with
    | nil => intro es h; exact h
    | cons g L ih => intro es h; exact ih _ (mput_keys es g h)
  exact key L [] rfl
theorem jP (L : List Int) : ((setM L).all fun q => nl q.1 && nl q.2) = true := by
  have hp : ∀ (es : List (VV × VV)) (f : Int), (es.all fun q => nl q.1 && nl q.2) = true → ((mput es (.int .i64 f) (.bool true)).all fun q => nl q.1 && nl q.2) = true := by
    intro es f
    induction es with
    | nil => intro _; simp [mput, nl]
    | cons x es ih =>
      obtain ⟨k, v⟩ := x
      intro h
      simp only [List.all_cons,Bool.and_eq_true] at h
      simp only [mput]
      split
      · simp only [List.all_cons,Bool.and_eq_true]; exact ⟨⟨h.1.1, by simp [nl]⟩, h.2⟩
      · simp only [List.all_cons,Bool.and_eq_true]; exact ⟨h.1, ih h.2⟩
  have key : ∀ (L : List Int) (es : List (VV × VV)), (es.all fun q => nl q.1 && nl q.2) = true → ((L.foldl (fun es f => mput es (.int .i64 f) (.bool true)) es).all fun q => nl q.1 && nl q.2) = true := by
    intro L
    induction L with
    | nil => intro es h; exact h
    | cons g L ih => intro es h; exact ih _ (hp es g h)
  exact key L [] rfl
def own (s : List Pte) (k : Nat) : List Int := ((s.take k).filter (·.is)).map (·.fr)
end Go.Proofs.YtabfjhpakgdopaaDoor.V
end
section
/-
  THE TOP of one instruction: TopOwnPages.
-/
set_option linter.unusedVariables false
set_option linter.unusedSimpArgs false
namespace Go.Proofs.YtabfjhpakgdopaaDoor.V
open Go
set_option maxRecDepth 100000
set_option linter.defProp false in
def znE9 := And.intro @jO <| And.intro @nls_regs <| And.intro @nls_wr0 <| And.intro @jP <| True.intro
set_option maxHeartbeats 8000000
abbrev cpuT : Ty := .fcons (.arr 16 (.int .u32)) (.fcons (.int .u32) .fnil)
abbrev encCpuS (c : CpuS) : VV := .agg [.agg (c.rs.map (.int .u32)), .int .u32 c.pc]
abbrev CpuD := List Int × Int × Unit
def mCpu (x : CpuD) : CpuS := ⟨x.1, x.2.1⟩
theorem toV_cpu (x : CpuD) : toV cpuT x = encCpu (mCpu x) := rfl
theorem cpu_good (x : CpuD) (g : good cpuT x) : CpuR (mCpu x) := by
  obtain ⟨⟨g1, g2⟩, g3, _⟩ := g
  exact ⟨g1, fun y hy => bounds_u32 (g2 y hy), bounds_u32 g3⟩
theorem fit_cpu {c : CpuS} (h : CpuR c) : Fit (EQ.st [EQ.arr 16 (EQ.int .u32), EQ.int .u32]) (.agg [.agg (c.rs.map (.int .u32)), .int .u32 c.pc]) := by
  simp only [Fit,FitL,List.length_map,List.mem_map,forall_exists_index,and_imp,forall_apply_eq_imp_iff₂,true_and,and_true]
  exact ⟨h.len, fun _ _ => trivial⟩
theorem veq_cpu (c : CpuS) : veq (.agg [.agg (c.rs.map (.int .u32)), .int .u32 c.pc]) (.agg [.agg (c.rs.map (.int .u32)), .int .u32 c.pc]) = true := by
  have h1 : ∀ l : List Int, veqs (l.map (VV.int .u32)) (l.map (VV.int .u32)) = true := fun l => by
    induction l with
    | nil => rfl
    | cons a l ih => simp only [List.map_cons,veqs,veq,ih,BEq.rfl,Bool.and_self]
  simp only [veq,veqs,h1,BEq.rfl,Bool.and_self]
def ownK (s : List Pte) : Nat → List Int
  | 0 => []
  | k + 1 => if (s.getD k default).is = true ∧ (s.getD k default).wr = true then ownK s k ++ [(s.getD k default).fr] else ownK s k
theorem ownK_in {s : List Pte} : ∀ {k j : Nat}, j < k → (s.getD j default).is = true → (s.getD j default).wr = true → (s.getD j default).fr ∈ ownK s k
  | k + 1, j, hj, h1, h2 => by
    rw [ownK]
    by_cases e : j = k
    · subst e
      rw [if_pos ⟨h1, h2⟩]
      exact List.mem_append_right _ (List.mem_singleton.2 rfl)
    · have := ownK_in (k := k) (by omega) h1 h2
      split
      · exact List.mem_append_left _ this
      · exact this
theorem own_all {s : List Pte} (hs : s.length = 16) {i : Int} (h : i ∉ ownK s 16) : ∀ p ∈ s, p.is = true → p.wr = true → p.fr ≠ i := fun p hp h1 h2 e => by
  obtain ⟨j, hj, rfl⟩ := List.mem_iff_getElem.1 hp
  have hg : s.getD j default = s[j] := by rw [List.getD_eq_getElem?_getD, List.getElem?_eq_getElem hj]; rfl
  have := ownK_in (s := s) (k := 16) (j := j) (by omega) (by rw [hg]; exact h1) (by rw [hg]; exact h2)
  rw [hg, e] at this
  exact h this
theorem topown_law (x0 : CpuD) (x1 : List (Bool × Bool × Int × Unit)) (x2 : List (List UInt8)) (x3 : Int) (g0 : good cpuT x0) (g1 : good (.arr 16 pteT) x1) (g2 : good (.sl .str) x2) (g3 : good (.int .u8) x3)
    (l0 : Ty.lite cpuT x0) (l1 : Ty.lite (.arr 16 pteT) x1) (l2 : Ty.lite (.sl .str) x2) (l3 : Ty.lite (.int .u8) x3) :
    Spec Tryd.prog 3 [toV cpuT x0, toV (.arr 16 pteT) x1, toV (.sl .str) x2, toV (.int .u8) x3] (.bool true) := by
  have hcp := cpu_good x0 g0
  have hs : (x1.map mkPte).length = 16 := by rw [List.length_map]; exact g1.1
  have hfl : x2.length ≤ 2 ^ 47 := Nat.le_trans l2.1 (by decide)
  have hfs : ∀ y ∈ x2, y.length ≤ 2 ^ 47 := fun y hy => Nat.le_trans (l2.2 y hy) (by decide)
  have hn : 0 ≤ x3 ∧ x3 ≤ 255 := bounds_u8 g3
  rw [toV_cpu, toV_space, toV_strs]
  simp only [toV]
  generalize mCpu x0 = c at hcp
  generalize x1.map mkPte = s at hs
  generalize x2 = fr at hfl hfs
  clear g0 g1 g2 g3 l0 l1 l2 l3 x0 x1 x2
  have hW := wild_spec fr hfl hfs
  have hSp := speaks_spec
  have hG := hasRegs c.rs hcp.len
  have hS := hasSpace s hs
  have hcl := hcp.len
  have hns := jO s
  refine spec_ok Tryd.func3 rfl rfl (by kernel_rfl) (k := 4) rfl (by decide) ?_
  repeat' (first|(with_reducible first|refine yrl (by constructor) ?_|refine jk (fun M hM=>?_)|(refine hM _ ?_;clear hM M)|refine xb3 (by decide) ?_|refine yqa (by assumption) ?_ ?_|refine yqb (by assumption) ?_ ?_)|((with_reducible refine je ?_)<;>(first|rfl|assumption|(simp only [znl,znE9];(first|done|fail))))|(with_reducible refine jf (by (simp only [↓reduceIte,zlk,Nat.reduceEqDiff,reduceCtorEq]);exact rfl) ?_)|((with_reducible first|refine jg (fun hc=>?_) (fun hc=>?_)|refine jh (fun hc=>?_) (fun hc=>?_))<;>(try simp (disch:=omega) only [zhb] at hc)<;>(try (exfalso;omega))<;>(try subst hc))|(with_reducible refine ji (by omega) ?_)|(simp (config := { maxSteps := 400000 }) only [↓jt,↓reduceIte,zvs,reduceCtorEq,Nat.reduceEqDiff,Nat.reduceAdd,Nat.reduceLeDiff,Nat.reduceMul,Int.reduceBNe,Int.reduceBEq,Int.reduceEq,Int.reduceNe,Int.reduceLT,Int.reduceLE,Int.reduceGT,Int.reduceGE,Int.reduceNeg,Int.reduceToNat,Nat.reduceLT,Nat.reduceSub,tab,hG,hS,hcl,encCpu,Tryd.results3,List.toList_toArray])|(simp (disch:=omega) only [ziw]))
  all_goals first
    | (simp only [zrds]; done)
    | skip
  have hz0 := hc
  rename_i hwild
  unfold wildB at hwild
  rw [Bool.or_eq_false_iff, List.any_eq_false, decide_eq_false_iff_not] at hwild
  obtain ⟨hw1, hw2⟩ := hwild
  have hall : ∀ s ∈ fr, s.length = 128 := fun s hs => Classical.byContradiction fun h => hw1 s hs (decide_eq_true h)
  refine ok_loop (fun k : Nat => ⟨slots [(2, encStrs fr), (3, .int .u8 x3), (4, .ptr 0 []), (5, .ptr 1 []), (9, .map 2), (28, encSpace s), (29, .int .i64 k)], rows [(0, .row cpuSh (encCpuS c)), (1, .row (.arr 16 (.st [.cell, .cell, .cell])) (encSpace s)), (2, .map (setM (ownK s k)))], 3⟩) (fun k => k ≤ 16) (fun k => 16 - k) 0 ?_ (Nat.zero_le _) (fun k hk => ?_)
  · (refine yrn [(0, 0), (1, 1), (2, 2)] false ?_ ?_<;>(repeat' (first|(with_reducible first|exact ya1|exact ya2|exact ya3|refine jx rfl (by first|rfl|assumption|(simp only [znl,znE9];(first|done|fail)))|exact ya5|exact ya7|exact jy|exact jz|refine jA ?_|refine ya9 ?_ ?_ ?_|refine jC rfl (by first|rfl|assumption|(simp only [znl,znE9];(first|done|fail)))|refine MR.agg (MRL.cons ?_ ?_)|refine MR.fn ?_|refine MRL.cons ?_ ?_|exact MRL.nil|refine jE ?_ ?_|exact jF|exact jG|refine yb1 ?_ ?_|refine MB.row ?_|refine jI ?_ ?_|exact ya8|refine jJ rfl (by first|rfl|assumption|(simp only [znl,znE9];(first|done|fail)))|refine yb2 ?_|rfl)|(simp only [znl,znE9];(first|done|fail))|(simp only [↓reduceIte,zlk,Nat.reduceEqDiff,reduceCtorEq])|(with_reducible first|refine jJ ?_ ?_|refine ya5 ?_|refine ju ?_|refine jv ?_|refine jw ?_|refine jx ?_ (by first|rfl|assumption|(simp only [znl,znE9];(first|done|fail)))|refine jC ?_ (by first|rfl|assumption|(simp only [znl,znE9];(first|done|fail)))))))
    all_goals (first | rfl | trace_state)
  by_cases hlt : k < 16
  · cases hi : (s.getD k default).is <;> cases hwr : (s.getD k default).wr
    all_goals (
      have e : ownK s (k + 1) = if (s.getD k default).is = true ∧ (s.getD k default).wr = true then ownK s k ++ [(s.getD k default).fr] else ownK s k := rfl
      rw [hi, hwr] at e
      simp only [Bool.false_eq_true,false_and,and_false,and_self,if_true,if_false] at e
      repeat' (first|(with_reducible first|refine yrl (by constructor) ?_|refine jk (fun M hM=>?_)|(refine hM _ ?_;clear hM M)|refine xb3 (by decide) ?_|refine yqa (by assumption) ?_ ?_|refine yqb (by assumption) ?_ ?_)|((with_reducible refine je ?_)<;>(first|rfl|assumption|(simp only [znl,znE9];(first|done|fail))))|(with_reducible refine jf (by (simp only [↓reduceIte,zlk,Nat.reduceEqDiff,reduceCtorEq]);exact rfl) ?_)|((with_reducible first|refine jg (fun hc=>?_) (fun hc=>?_)|refine jh (fun hc=>?_) (fun hc=>?_))<;>(try simp (disch:=omega) only [zhb] at hc)<;>(try (exfalso;omega))<;>(try subst hc))|(with_reducible refine ji (by omega) ?_)|(simp (config := { maxSteps := 400000 }) only [↓jt,↓reduceIte,zvs,reduceCtorEq,Nat.reduceEqDiff,Nat.reduceAdd,Nat.reduceLeDiff,Nat.reduceMul,Int.reduceBNe,Int.reduceBEq,Int.reduceEq,Int.reduceNe,Int.reduceLT,Int.reduceLE,Int.reduceGT,Int.reduceGE,Int.reduceNeg,Int.reduceToNat,Nat.reduceLT,Nat.reduceSub,tab,hS,hs,hi,hwr,encPte,keys_setM,setM_snoc,Tryd.results3,List.toList_toArray])|(simp (disch:=omega) only [ziw]))
      all_goals first
        | (exfalso; omega)
        | (refine xl1 (k + 1) ?_ (by show k + 1 ≤ 16; omega) (by show 16 - (k + 1) < 16 - k; omega); (refine yrn [(0, 0), (1, 1), (2, 2)] false ?_ ?_<;>(repeat' (first|(with_reducible first|exact ya1|exact ya2|exact ya3|refine jx rfl (by first|rfl|assumption|(simp only [znl,znE9];(first|done|fail)))|exact ya5|exact ya7|exact jy|exact jz|refine jA ?_|refine ya9 ?_ ?_ ?_|refine jC rfl (by first|rfl|assumption|(simp only [znl,znE9];(first|done|fail)))|refine MR.agg (MRL.cons ?_ ?_)|refine MR.fn ?_|refine MRL.cons ?_ ?_|exact MRL.nil|refine jE ?_ ?_|exact jF|exact jG|refine yb1 ?_ ?_|refine MB.row ?_|refine jI ?_ ?_|exact ya8|refine jJ rfl (by first|rfl|assumption|(simp only [znl,znE9];(first|done|fail)))|refine yb2 ?_|rfl)|(simp only [znl,znE9];(first|done|fail))|(simp only [↓reduceIte,zlk,Nat.reduceEqDiff,reduceCtorEq])|(with_reducible first|refine jJ ?_ ?_|refine ya5 ?_|refine ju ?_|refine jv ?_|refine jw ?_|refine jx ?_ (by first|rfl|assumption|(simp only [znl,znE9];(first|done|fail)))|refine jC ?_ (by first|rfl|assumption|(simp only [znl,znE9];(first|done|fail))))))); all_goals (first | rfl | (rw [e]; done) | trace_state); done)
        | trace_state)
  obtain rfl : k = 16 := by omega
  have hown := fun i : Int => own_all (s := s) hs (i := i)
  generalize ownK s 16 = L at hown
  repeat' (first|(with_reducible first|refine yrl (by constructor) ?_|refine jk (fun M hM=>?_)|(refine hM _ ?_;clear hM M)|refine xb3 (by decide) ?_|refine yqa (by assumption) ?_ ?_|refine yqb (by assumption) ?_ ?_)|((with_reducible refine je ?_)<;>(first|rfl|assumption|(simp only [znl,znE9];(first|done|fail))))|(with_reducible refine jf (by (simp only [↓reduceIte,zlk,Nat.reduceEqDiff,reduceCtorEq]);exact rfl) ?_)|((with_reducible first|refine jg (fun hc=>?_) (fun hc=>?_)|refine jh (fun hc=>?_) (fun hc=>?_))<;>(try simp (disch:=omega) only [zhb] at hc)<;>(try (exfalso;omega))<;>(try subst hc))|(with_reducible refine ji (by omega) ?_)|(simp (config := { maxSteps := 400000 }) only [↓jt,↓reduceIte,zvs,reduceCtorEq,Nat.reduceEqDiff,Nat.reduceAdd,Nat.reduceLeDiff,Nat.reduceMul,Int.reduceBNe,Int.reduceBEq,Int.reduceEq,Int.reduceNe,Int.reduceLT,Int.reduceLE,Int.reduceGT,Int.reduceGE,Int.reduceNeg,Int.reduceToNat,Nat.reduceLT,Nat.reduceSub,tab,hS,hs,Tryd.results3,List.toList_toArray])|(simp (disch:=omega) only [ziw]))
  all_goals (try (exfalso; omega))
  obtain ⟨q, hq⟩ : ∃ q : Nat, x3 % 100 = (q : Int) := ⟨(x3 % 100).toNat, by omega⟩
  have hfl20 : fr.length ≤ 20 := by omega
  refine ok_loop (fun x : Nat × CpuS × Frames => ⟨slots [(4, .ptr 0 []), (5, .ptr 1 []), (9, .map 2), (12, encStrs fr), (13, encStrs x.2.2), (48, .int .i64 q), (49, .int .i64 x.1)], rows [(0, .row cpuSh (encCpuS x.2.1)), (1, .row (.arr 16 (.st [.cell, .cell, .cell])) (encSpace s)), (2, .map (setM L))], 3⟩) (fun x => x.1 ≤ q ∧ CpuR x.2.1 ∧ x.2.1.rs.getD 0 default = 0 ∧ x.2.2.length = fr.length ∧ (∀ s ∈ x.2.2, s.length = 128) ∧ ∀ i : Nat, (i : Int) ∉ L → x.2.2.getD i [] = fr.getD i []) (fun x => q - x.1) (0, c, fr) ?_ ⟨Nat.zero_le _, hcp, hz0, rfl, hall, fun _ _ => rfl⟩ (fun x hx => ?_)
  · (refine yrn [(0, 0), (1, 1), (2, 2)] true ?_ ?_<;>(repeat' (first|(with_reducible first|exact ya1|exact ya2|exact ya3|refine jx rfl (by first|rfl|assumption|(simp only [znl,znE9];(first|done|fail)))|exact ya5|exact ya7|exact jy|exact jz|refine jA ?_|refine ya9 ?_ ?_ ?_|refine jC rfl (by first|rfl|assumption|(simp only [znl,znE9];(first|done|fail)))|refine MR.agg (MRL.cons ?_ ?_)|refine MR.fn ?_|refine MRL.cons ?_ ?_|exact MRL.nil|refine jE ?_ ?_|exact jF|exact jG|refine yb1 ?_ ?_|refine MB.row ?_|refine jI ?_ ?_|exact ya8|refine jJ rfl (by first|rfl|assumption|(simp only [znl,znE9];(first|done|fail)))|refine yb2 ?_|rfl)|(simp only [znl,znE9];(first|done|fail))|(simp only [↓reduceIte,zlk,Nat.reduceEqDiff,reduceCtorEq])|(with_reducible first|refine jJ ?_ ?_|refine ya5 ?_|refine ju ?_|refine jv ?_|refine jw ?_|refine jx ?_ (by first|rfl|assumption|(simp only [znl,znE9];(first|done|fail)))|refine jC ?_ (by first|rfl|assumption|(simp only [znl,znE9];(first|done|fail)))))))
    all_goals (first | rfl | exact hq | (simp; done) | trace_state)
  obtain ⟨i, c', now⟩ := x
  obtain ⟨hi, hc', hz', hln, hn128, hno⟩ := hx
  dsimp only at hi hc' hz' hln hn128 hno ⊢
  by_cases hlti : i < q
  · have hfits : fits now := ⟨by omega, fun s hs => by rw [hn128 s hs]; decide⟩
    have hSt := step_spec c' hc' s hs now hfits
    have hok := step_ok hc' hs now
    unfold stepV at hSt
    generalize stepF c' s now = r at hSt hok
    obtain ⟨c2, fr2, k, n⟩ := r
    obtain ⟨k1, k2, k3, k4, k5, k6, k7⟩ := hok
    dsimp only at k1 k2 k3 k4 k5 k6 k7 hSt
    have hz2 := k4 hz'
    have hG2 := hasRegs c2.rs k1.len
    have hl2 := k1.len
    have hG1 := hasRegs c'.rs hc'.len
    have hl1 := hc'.len
    simp only [encCpu] at hSt
    have hal := alike_same now (by omega)
    have hfit := fit_cpu hc'
    have hveq := veq_cpu c'
    rcases k2 with rfl | rfl | ⟨hk, rfl, rfl⟩
    · repeat' (first|(with_reducible first|refine yrl (by constructor) ?_|refine jk (fun M hM=>?_)|(refine hM _ ?_;clear hM M)|refine xb3 (by decide) ?_|refine yqa (by assumption) ?_ ?_|refine yqb (by assumption) ?_ ?_)|((with_reducible refine je ?_)<;>(first|rfl|assumption|(simp only [znl,znE9];(first|done|fail))))|(with_reducible refine jf (by (simp only [↓reduceIte,zlk,Nat.reduceEqDiff,reduceCtorEq]);exact rfl) ?_)|((with_reducible first|refine jg (fun hc=>?_) (fun hc=>?_)|refine jh (fun hc=>?_) (fun hc=>?_))<;>(try simp (disch:=omega) only [zhb] at hc)<;>(try (exfalso;omega))<;>(try subst hc))|(with_reducible refine ji (by omega) ?_)|(simp (config := { maxSteps := 400000 }) only [↓jt,↓reduceIte,zvs,reduceCtorEq,Nat.reduceEqDiff,Nat.reduceAdd,Nat.reduceLeDiff,Nat.reduceMul,Int.reduceBNe,Int.reduceBEq,Int.reduceEq,Int.reduceNe,Int.reduceLT,Int.reduceLE,Int.reduceGT,Int.reduceGE,Int.reduceNeg,Int.reduceToNat,Nat.reduceLT,Nat.reduceSub,tab,hG1,hG2,hl1,hl2,hz2,Tryd.results3,List.toList_toArray])|(simp (disch:=omega) only [ziw]))
      all_goals first
        | (exfalso; omega)
        | (refine xl1 (i + 1, c2, fr2) ?_ ⟨by show i + 1 ≤ q; omega, k1, hz2, by show fr2.length = fr.length; omega, k6 hn128, fun j hj => (k7 j (hown j hj)).trans (hno j hj)⟩ (by show q - (i + 1) < q - i; omega); (refine yrn [(0, 0), (1, 1), (2, 2)] false ?_ ?_<;>(repeat' (first|(with_reducible first|exact ya1|exact ya2|exact ya3|refine jx rfl (by first|rfl|assumption|(simp only [znl,znE9];(first|done|fail)))|exact ya5|exact ya7|exact jy|exact jz|refine jA ?_|refine ya9 ?_ ?_ ?_|refine jC rfl (by first|rfl|assumption|(simp only [znl,znE9];(first|done|fail)))|refine MR.agg (MRL.cons ?_ ?_)|refine MR.fn ?_|refine MRL.cons ?_ ?_|exact MRL.nil|refine jE ?_ ?_|exact jF|exact jG|refine yb1 ?_ ?_|refine MB.row ?_|refine jI ?_ ?_|exact ya8|refine jJ rfl (by first|rfl|assumption|(simp only [znl,znE9];(first|done|fail)))|refine yb2 ?_|rfl)|(simp only [znl,znE9];(first|done|fail))|(simp only [↓reduceIte,zlk,Nat.reduceEqDiff,reduceCtorEq])|(with_reducible first|refine jJ ?_ ?_|refine ya5 ?_|refine ju ?_|refine jv ?_|refine jw ?_|refine jx ?_ (by first|rfl|assumption|(simp only [znl,znE9];(first|done|fail)))|refine jC ?_ (by first|rfl|assumption|(simp only [znl,znE9];(first|done|fail))))))); all_goals (first | rfl | trace_state); done)
        | trace_state
    · repeat' (first|(with_reducible first|refine yrl (by constructor) ?_|refine jk (fun M hM=>?_)|(refine hM _ ?_;clear hM M)|refine xb3 (by decide) ?_|refine yqa (by assumption) ?_ ?_|refine yqb (by assumption) ?_ ?_)|((with_reducible refine je ?_)<;>(first|rfl|assumption|(simp only [znl,znE9];(first|done|fail))))|(with_reducible refine jf (by (simp only [↓reduceIte,zlk,Nat.reduceEqDiff,reduceCtorEq]);exact rfl) ?_)|((with_reducible first|refine jg (fun hc=>?_) (fun hc=>?_)|refine jh (fun hc=>?_) (fun hc=>?_))<;>(try simp (disch:=omega) only [zhb] at hc)<;>(try (exfalso;omega))<;>(try subst hc))|(with_reducible refine ji (by omega) ?_)|(simp (config := { maxSteps := 400000 }) only [↓jt,↓reduceIte,zvs,reduceCtorEq,Nat.reduceEqDiff,Nat.reduceAdd,Nat.reduceLeDiff,Nat.reduceMul,Int.reduceBNe,Int.reduceBEq,Int.reduceEq,Int.reduceNe,Int.reduceLT,Int.reduceLE,Int.reduceGT,Int.reduceGE,Int.reduceNeg,Int.reduceToNat,Nat.reduceLT,Nat.reduceSub,tab,hG1,hG2,hl1,hl2,hz2,Tryd.results3,List.toList_toArray])|(simp (disch:=omega) only [ziw]))
      all_goals first
        | (exfalso; omega)
        | (refine xl1 (i + 1, c2, fr2) ?_ ⟨by show i + 1 ≤ q; omega, k1, hz2, by show fr2.length = fr.length; omega, k6 hn128, fun j hj => (k7 j (hown j hj)).trans (hno j hj)⟩ (by show q - (i + 1) < q - i; omega); (refine yrn [(0, 0), (1, 1), (2, 2)] false ?_ ?_<;>(repeat' (first|(with_reducible first|exact ya1|exact ya2|exact ya3|refine jx rfl (by first|rfl|assumption|(simp only [znl,znE9];(first|done|fail)))|exact ya5|exact ya7|exact jy|exact jz|refine jA ?_|refine ya9 ?_ ?_ ?_|refine jC rfl (by first|rfl|assumption|(simp only [znl,znE9];(first|done|fail)))|refine MR.agg (MRL.cons ?_ ?_)|refine MR.fn ?_|refine MRL.cons ?_ ?_|exact MRL.nil|refine jE ?_ ?_|exact jF|exact jG|refine yb1 ?_ ?_|refine MB.row ?_|refine jI ?_ ?_|exact ya8|refine jJ rfl (by first|rfl|assumption|(simp only [znl,znE9];(first|done|fail)))|refine yb2 ?_|rfl)|(simp only [znl,znE9];(first|done|fail))|(simp only [↓reduceIte,zlk,Nat.reduceEqDiff,reduceCtorEq])|(with_reducible first|refine jJ ?_ ?_|refine ya5 ?_|refine ju ?_|refine jv ?_|refine jw ?_|refine jx ?_ (by first|rfl|assumption|(simp only [znl,znE9];(first|done|fail)))|refine jC ?_ (by first|rfl|assumption|(simp only [znl,znE9];(first|done|fail))))))); all_goals (first | rfl | trace_state); done)
        | trace_state
    · repeat' (first|(with_reducible first|refine yrl (by constructor) ?_|refine jk (fun M hM=>?_)|(refine hM _ ?_;clear hM M)|refine xb3 (by decide) ?_|refine yqa (by assumption) ?_ ?_|refine yqb (by assumption) ?_ ?_)|((with_reducible refine je ?_)<;>(first|rfl|assumption|(simp only [znl,znE9];(first|done|fail))))|(with_reducible refine jf (by (simp only [↓reduceIte,zlk,Nat.reduceEqDiff,reduceCtorEq]);exact rfl) ?_)|((with_reducible first|refine jg (fun hc=>?_) (fun hc=>?_)|refine jh (fun hc=>?_) (fun hc=>?_))<;>(try simp (disch:=omega) only [zhb] at hc)<;>(try (exfalso;omega))<;>(try subst hc))|(with_reducible refine ji (by omega) ?_)|(simp (config := { maxSteps := 400000 }) only [↓jt,↓reduceIte,zvs,reduceCtorEq,Nat.reduceEqDiff,Nat.reduceAdd,Nat.reduceLeDiff,Nat.reduceMul,Int.reduceBNe,Int.reduceBEq,Int.reduceEq,Int.reduceNe,Int.reduceLT,Int.reduceLE,Int.reduceGT,Int.reduceGE,Int.reduceNeg,Int.reduceToNat,Nat.reduceLT,Nat.reduceSub,tab,hG1,hG2,hl1,hl2,hz2,hfit,hveq,Tryd.results3,List.toList_toArray])|(simp (disch:=omega) only [ziw]))
      all_goals first
        | (exfalso; omega)
        | (simp only [zrds]; done)
        | trace_state
  obtain rfl : i = q := by omega
  repeat' (first|(with_reducible first|refine yrl (by constructor) ?_|refine jk (fun M hM=>?_)|(refine hM _ ?_;clear hM M)|refine xb3 (by decide) ?_|refine yqa (by assumption) ?_ ?_|refine yqb (by assumption) ?_ ?_)|((with_reducible refine je ?_)<;>(first|rfl|assumption|(simp only [znl,znE9];(first|done|fail))))|(with_reducible refine jf (by (simp only [↓reduceIte,zlk,Nat.reduceEqDiff,reduceCtorEq]);exact rfl) ?_)|((with_reducible first|refine jg (fun hc=>?_) (fun hc=>?_)|refine jh (fun hc=>?_) (fun hc=>?_))<;>(try simp (disch:=omega) only [zhb] at hc)<;>(try (exfalso;omega))<;>(try subst hc))|(with_reducible refine ji (by omega) ?_)|(simp (config := { maxSteps := 400000 }) only [↓jt,↓reduceIte,zvs,reduceCtorEq,Nat.reduceEqDiff,Nat.reduceAdd,Nat.reduceLeDiff,Nat.reduceMul,Int.reduceBNe,Int.reduceBEq,Int.reduceEq,Int.reduceNe,Int.reduceLT,Int.reduceLE,Int.reduceGT,Int.reduceGE,Int.reduceNeg,Int.reduceToNat,Nat.reduceLT,Nat.reduceSub,tab,Tryd.results3,List.toList_toArray])|(simp (disch:=omega) only [ziw]))
  all_goals (try (exfalso; omega))
  refine ok_loop (fun j : Nat => ⟨slots [(9, .map 0), (12, encStrs fr), (13, encStrs now), (93, .int .i64 fr.length), (94, .int .i64 j)], rows [(0, .map (setM L))], 1⟩) (fun j => j ≤ fr.length) (fun j => fr.length - j) 0 ?_ (Nat.zero_le _) (fun j hj => ?_)
  · (refine yrn [(0, 2)] false ?_ ?_<;>(repeat' (first|(with_reducible first|exact ya1|exact ya2|exact ya3|refine jx rfl (by first|rfl|assumption|(simp only [znl,znE9];(first|done|fail)))|exact ya5|exact ya7|exact jy|exact jz|refine jA ?_|refine ya9 ?_ ?_ ?_|refine jC rfl (by first|rfl|assumption|(simp only [znl,znE9];(first|done|fail)))|refine MR.agg (MRL.cons ?_ ?_)|refine MR.fn ?_|refine MRL.cons ?_ ?_|exact MRL.nil|refine jE ?_ ?_|exact jF|exact jG|refine yb1 ?_ ?_|refine MB.row ?_|refine jI ?_ ?_|exact ya8|refine jJ rfl (by first|rfl|assumption|(simp only [znl,znE9];(first|done|fail)))|refine yb2 ?_|rfl)|(simp only [znl,znE9];(first|done|fail))|(simp only [↓reduceIte,zlk,Nat.reduceEqDiff,reduceCtorEq])|(with_reducible first|refine jJ ?_ ?_|refine ya5 ?_|refine ju ?_|refine jv ?_|refine jw ?_|refine jx ?_ (by first|rfl|assumption|(simp only [znl,znE9];(first|done|fail)))|refine jC ?_ (by first|rfl|assumption|(simp only [znl,znE9];(first|done|fail)))))))
    all_goals (first | rfl | trace_state)
  by_cases hltj : j < fr.length
  · have hbs : ∀ a : List UInt8, (a != a) = false := fun a => bne_self_eq_false a
    by_cases heq : now.getD j [] = fr.getD j []
    · repeat' (first|(with_reducible first|refine yrl (by constructor) ?_|refine jk (fun M hM=>?_)|(refine hM _ ?_;clear hM M)|refine xb3 (by decide) ?_|refine yqa (by assumption) ?_ ?_|refine yqb (by assumption) ?_ ?_)|((with_reducible refine je ?_)<;>(first|rfl|assumption|(simp only [znl,znE9];(first|done|fail))))|(with_reducible refine jf (by (simp only [↓reduceIte,zlk,Nat.reduceEqDiff,reduceCtorEq]);exact rfl) ?_)|((with_reducible first|refine jg (fun hc=>?_) (fun hc=>?_)|refine jh (fun hc=>?_) (fun hc=>?_))<;>(try simp (disch:=omega) only [zhb] at hc)<;>(try (exfalso;omega))<;>(try subst hc))|(with_reducible refine ji (by omega) ?_)|(simp (config := { maxSteps := 400000 }) only [↓jt,↓reduceIte,zvs,reduceCtorEq,Nat.reduceEqDiff,Nat.reduceAdd,Nat.reduceLeDiff,Nat.reduceMul,Int.reduceBNe,Int.reduceBEq,Int.reduceEq,Int.reduceNe,Int.reduceLT,Int.reduceLE,Int.reduceGT,Int.reduceGE,Int.reduceNeg,Int.reduceToNat,Nat.reduceLT,Nat.reduceSub,tab,look_setM,keys_setM,heq,hbs,Tryd.results3,List.toList_toArray])|(simp (disch:=omega) only [ziw]))
      all_goals (try (exfalso; omega))
      refine ok_drawC 15 (by kernel_rfl) (by decide +kernel) (by intro m hm; simp only [upd_ap,rows_cons,rows_nil]; (repeat (first | rfl | rw [if_neg (by omega)]))) (fun M hM => ?_); simp only [List.take_succ_cons,List.take_zero,List.drop_succ_cons,List.drop_zero]
      repeat' (first|(with_reducible first|refine yrl (by constructor) ?_|refine jk (fun M hM=>?_)|(refine hM _ ?_;clear hM M)|refine xb3 (by decide) ?_|refine yqa (by assumption) ?_ ?_|refine yqb (by assumption) ?_ ?_)|((with_reducible refine je ?_)<;>(first|rfl|assumption|(simp only [znl,znE9];(first|done|fail))))|(with_reducible refine jf (by (simp only [↓reduceIte,zlk,Nat.reduceEqDiff,reduceCtorEq]);exact rfl) ?_)|((with_reducible first|refine jg (fun hc=>?_) (fun hc=>?_)|refine jh (fun hc=>?_) (fun hc=>?_))<;>(try simp (disch:=omega) only [zhb] at hc)<;>(try (exfalso;omega))<;>(try subst hc))|(with_reducible refine ji (by omega) ?_)|(simp (config := { maxSteps := 400000 }) only [↓jt,↓reduceIte,zvs,reduceCtorEq,Nat.reduceEqDiff,Nat.reduceAdd,Nat.reduceLeDiff,Nat.reduceMul,Int.reduceBNe,Int.reduceBEq,Int.reduceEq,Int.reduceNe,Int.reduceLT,Int.reduceLE,Int.reduceGT,Int.reduceGE,Int.reduceNeg,Int.reduceToNat,Nat.reduceLT,Nat.reduceSub,tab,look_setM,keys_setM,heq,hbs,Tryd.results3,List.toList_toArray])|(simp (disch:=omega) only [ziw]))
      all_goals first
        | (exfalso; omega)
        | (refine xl1 (j + 1) ?_ (by show j + 1 ≤ fr.length; omega) (by show fr.length - (j + 1) < fr.length - j; omega); (refine yrn [(0, 0)] false ?_ ?_<;>(repeat' (first|(with_reducible first|exact ya1|exact ya2|exact ya3|refine jx rfl (by first|rfl|assumption|(simp only [znl,znE9];(first|done|fail)))|exact ya5|exact ya7|exact jy|exact jz|refine jA ?_|refine ya9 ?_ ?_ ?_|refine jC rfl (by first|rfl|assumption|(simp only [znl,znE9];(first|done|fail)))|refine MR.agg (MRL.cons ?_ ?_)|refine MR.fn ?_|refine MRL.cons ?_ ?_|exact MRL.nil|refine jE ?_ ?_|exact jF|exact jG|refine yb1 ?_ ?_|refine MB.row ?_|refine jI ?_ ?_|exact ya8|refine jJ rfl (by first|rfl|assumption|(simp only [znl,znE9];(first|done|fail)))|refine yb2 ?_|rfl)|(simp only [znl,znE9];(first|done|fail))|(simp only [↓reduceIte,zlk,Nat.reduceEqDiff,reduceCtorEq])|(with_reducible first|refine jJ ?_ ?_|refine ya5 ?_|refine ju ?_|refine jv ?_|refine jw ?_|refine jx ?_ (by first|rfl|assumption|(simp only [znl,znE9];(first|done|fail)))|refine jC ?_ (by first|rfl|assumption|(simp only [znl,znE9];(first|done|fail))))))); all_goals (first | rfl | trace_state); done)
        | trace_state
    · have hin : decide ((j : Int) ∈ L) = true := decide_eq_true (Classical.byContradiction fun h => heq (hno j h))
      repeat' (first|(with_reducible first|refine yrl (by constructor) ?_|refine jk (fun M hM=>?_)|(refine hM _ ?_;clear hM M)|refine xb3 (by decide) ?_|refine yqa (by assumption) ?_ ?_|refine yqb (by assumption) ?_ ?_)|((with_reducible refine je ?_)<;>(first|rfl|assumption|(simp only [znl,znE9];(first|done|fail))))|(with_reducible refine jf (by (simp only [↓reduceIte,zlk,Nat.reduceEqDiff,reduceCtorEq]);exact rfl) ?_)|((with_reducible first|refine jg (fun hc=>?_) (fun hc=>?_)|refine jh (fun hc=>?_) (fun hc=>?_))<;>(try simp (disch:=omega) only [zhb] at hc)<;>(try (exfalso;omega))<;>(try subst hc))|(with_reducible refine ji (by omega) ?_)|(simp (config := { maxSteps := 400000 }) only [↓jt,↓reduceIte,zvs,reduceCtorEq,Nat.reduceEqDiff,Nat.reduceAdd,Nat.reduceLeDiff,Nat.reduceMul,Int.reduceBNe,Int.reduceBEq,Int.reduceEq,Int.reduceNe,Int.reduceLT,Int.reduceLE,Int.reduceGT,Int.reduceGE,Int.reduceNeg,Int.reduceToNat,Nat.reduceLT,Nat.reduceSub,tab,look_setM,keys_setM,hin,Tryd.results3,List.toList_toArray])|(simp (disch:=omega) only [ziw]))
      all_goals (try (exfalso; omega))
      refine ok_drawC 15 (by kernel_rfl) (by decide +kernel) (by intro m hm; simp only [upd_ap,rows_cons,rows_nil]; (repeat (first | rfl | rw [if_neg (by omega)]))) (fun M hM => ?_); simp only [List.take_succ_cons,List.take_zero,List.drop_succ_cons,List.drop_zero]
      repeat' (first|(with_reducible first|refine yrl (by constructor) ?_|refine jk (fun M hM=>?_)|(refine hM _ ?_;clear hM M)|refine xb3 (by decide) ?_|refine yqa (by assumption) ?_ ?_|refine yqb (by assumption) ?_ ?_)|((with_reducible refine je ?_)<;>(first|rfl|assumption|(simp only [znl,znE9];(first|done|fail))))|(with_reducible refine jf (by (simp only [↓reduceIte,zlk,Nat.reduceEqDiff,reduceCtorEq]);exact rfl) ?_)|((with_reducible first|refine jg (fun hc=>?_) (fun hc=>?_)|refine jh (fun hc=>?_) (fun hc=>?_))<;>(try simp (disch:=omega) only [zhb] at hc)<;>(try (exfalso;omega))<;>(try subst hc))|(with_reducible refine ji (by omega) ?_)|(simp (config := { maxSteps := 400000 }) only [↓jt,↓reduceIte,zvs,reduceCtorEq,Nat.reduceEqDiff,Nat.reduceAdd,Nat.reduceLeDiff,Nat.reduceMul,Int.reduceBNe,Int.reduceBEq,Int.reduceEq,Int.reduceNe,Int.reduceLT,Int.reduceLE,Int.reduceGT,Int.reduceGE,Int.reduceNeg,Int.reduceToNat,Nat.reduceLT,Nat.reduceSub,tab,look_setM,keys_setM,hin,Tryd.results3,List.toList_toArray])|(simp (disch:=omega) only [ziw]))
      all_goals first
        | (exfalso; omega)
        | (refine xl1 (j + 1) ?_ (by show j + 1 ≤ fr.length; omega) (by show fr.length - (j + 1) < fr.length - j; omega); (refine yrn [(0, 0)] false ?_ ?_<;>(repeat' (first|(with_reducible first|exact ya1|exact ya2|exact ya3|refine jx rfl (by first|rfl|assumption|(simp only [znl,znE9];(first|done|fail)))|exact ya5|exact ya7|exact jy|exact jz|refine jA ?_|refine ya9 ?_ ?_ ?_|refine jC rfl (by first|rfl|assumption|(simp only [znl,znE9];(first|done|fail)))|refine MR.agg (MRL.cons ?_ ?_)|refine MR.fn ?_|refine MRL.cons ?_ ?_|exact MRL.nil|refine jE ?_ ?_|exact jF|exact jG|refine yb1 ?_ ?_|refine MB.row ?_|refine jI ?_ ?_|exact ya8|refine jJ rfl (by first|rfl|assumption|(simp only [znl,znE9];(first|done|fail)))|refine yb2 ?_|rfl)|(simp only [znl,znE9];(first|done|fail))|(simp only [↓reduceIte,zlk,Nat.reduceEqDiff,reduceCtorEq])|(with_reducible first|refine jJ ?_ ?_|refine ya5 ?_|refine ju ?_|refine jv ?_|refine jw ?_|refine jx ?_ (by first|rfl|assumption|(simp only [znl,znE9];(first|done|fail)))|refine jC ?_ (by first|rfl|assumption|(simp only [znl,znE9];(first|done|fail))))))); all_goals (first | rfl | trace_state); done)
        | trace_state
  · obtain rfl : j = fr.length := by omega
    repeat' (first|(with_reducible first|refine yrl (by constructor) ?_|refine jk (fun M hM=>?_)|(refine hM _ ?_;clear hM M)|refine xb3 (by decide) ?_|refine yqa (by assumption) ?_ ?_|refine yqb (by assumption) ?_ ?_)|((with_reducible refine je ?_)<;>(first|rfl|assumption|(simp only [znl,znE9];(first|done|fail))))|(with_reducible refine jf (by (simp only [↓reduceIte,zlk,Nat.reduceEqDiff,reduceCtorEq]);exact rfl) ?_)|((with_reducible first|refine jg (fun hc=>?_) (fun hc=>?_)|refine jh (fun hc=>?_) (fun hc=>?_))<;>(try simp (disch:=omega) only [zhb] at hc)<;>(try (exfalso;omega))<;>(try subst hc))|(with_reducible refine ji (by omega) ?_)|(simp (config := { maxSteps := 400000 }) only [↓jt,↓reduceIte,zvs,reduceCtorEq,Nat.reduceEqDiff,Nat.reduceAdd,Nat.reduceLeDiff,Nat.reduceMul,Int.reduceBNe,Int.reduceBEq,Int.reduceEq,Int.reduceNe,Int.reduceLT,Int.reduceLE,Int.reduceGT,Int.reduceGE,Int.reduceNeg,Int.reduceToNat,Nat.reduceLT,Nat.reduceSub,tab,Tryd.results3,List.toList_toArray])|(simp (disch:=omega) only [ziw]))
    all_goals first
      | (exfalso; omega)
      | (simp only [zrds]; done)
      | trace_state
end Go.Proofs.YtabfjhpakgdopaaDoor.V
end
section
/-
  TABLES out of the condition that start-up code laid them.
-/
set_option linter.unusedVariables false
namespace Go.Proofs.YtabfjhpakgdopaaDoor.V
open Go
set_option maxRecDepth 100000
variable {H : Type} {enc : TypeId × Value → H} {P : Program} {w : World} {base : Nat} {spare : Nat → Bool} {held : Bool}
theorem take1 {cs : List Value} {i : Nat} {v : Value} (h : (cs.drop (i * 1)).take 1 = [v]) : cs[i]? = some v := by
  rw [Nat.mul_one] at h
  have h2 : ((cs.drop i).take 1)[0]? = some v := by rw [h]; rfl
  rw [List.getElem?_take] at h2
  simpa [List.getElem?_drop] using h2
theorem trod_texts {n fuel : Nat} {t e : TypeId} {cs : List Value} {x : DataW H × List MemPlace} (ht : P.underlying t = some (.array n e)) (he : P.underlying e = some .string) (hc : P.cellsOf e = 1) {L : List (List UInt8)} (hL : L.length = n)
    (h : DataW.trod enc P w base spare held fuel t cs = some x) (hx : x.1 = .agg (L.map fun s => .lit (.string s))) : ∀ i, i < n → cs[i]? = some (.string ⟨(L.getD i []).toArray⟩) := fun i hi => by
  obtain ⟨xs, m, _, hxs, _, hlen, hel⟩ := DataW.trod_array ht h
  rw [hxs] at hx
  simp only [DataW.agg.injEq] at hx
  have h1 := hel i hi
  rw [hc, List.getElem?_eq_getElem (by omega)] at h1
  obtain ⟨s, e1, e2, _⟩ := DataW.trod_string he h1
  have h3 := take1 e1
  have h4 : (xs.map (·.1))[i]? = (L.map fun s => (DataW.lit (.string s) : DataW H))[i]? := by rw [hx]
  rw [List.getElem?_map, List.getElem?_map, List.getElem?_eq_getElem (by omega), List.getElem?_eq_getElem (by omega)] at h4
  simp only [Option.map_some,Option.some.injEq] at h4
  rw [e2] at h4
  simp only [DataW.lit.injEq,Lit.string.injEq] at h4
  rw [h3, List.getD_eq_getElem?_getD, List.getElem?_eq_getElem (by omega)]
  simp only [Option.getD_some,← h4]
theorem trod_nums {k : IntKind} {n fuel : Nat} {t e : TypeId} {cs : List Value} {x : DataW H × List MemPlace} (ht : P.underlying t = some (.array n e)) (he : P.underlying e = some (.int k)) (hc : P.cellsOf e = 1) {L : List Int} (hL : L.length = n)
    (h : DataW.trod enc P w base spare held fuel t cs = some x) (hx : x.1 = .agg (L.map fun s => .lit (.int k s))) : ∀ i, i < n → cs[i]? = some (.int k (L.getD i 0)) := fun i hi => by
  obtain ⟨xs, m, _, hxs, _, hlen, hel⟩ := DataW.trod_array ht h
  rw [hxs] at hx
  simp only [DataW.agg.injEq] at hx
  have h1 := hel i hi
  rw [hc, List.getElem?_eq_getElem (by omega)] at h1
  obtain ⟨s, e1, e2, _⟩ := DataW.trod_int he h1
  have h3 := take1 e1
  have h4 : (xs.map (·.1))[i]? = (L.map fun s => (DataW.lit (.int k s) : DataW H))[i]? := by rw [hx]
  rw [List.getElem?_map, List.getElem?_map, List.getElem?_eq_getElem (by omega), List.getElem?_eq_getElem (by omega)] at h4
  simp only [Option.map_some,Option.some.injEq] at h4
  rw [e2] at h4
  simp only [DataW.lit.injEq,Lit.int.injEq,true_and] at h4
  rw [h3, List.getD_eq_getElem?_getD, List.getElem?_eq_getElem (by omega)]
  simp only [Option.getD_some,← h4]
theorem c1_texts (ρ : Names) (w : World) : ∀ L : List (List UInt8), CR ρ w (L.map .str) (L.map fun s => Value.string ⟨s.toArray⟩)
  | [] => by simp only [List.map_nil,CR]
  | s :: L => by
    simp only [List.map_cons,CR,C1]
    exact ⟨_, _, rfl, rfl, c1_texts ρ w L⟩
theorem c1_nums (ρ : Names) (w : World) (k : IntKind) : ∀ L : List Int, CR ρ w (L.map (.int k)) (L.map fun s => Value.int k s)
  | [] => by simp only [List.map_nil,CR]
  | s :: L => by
    simp only [List.map_cons,CR,C1]
    exact ⟨_, _, rfl, rfl, c1_nums ρ w k L⟩
theorem there_size {w : World} {g : Nat} {v : Value} (h : w.cell? ⟨g, 0, none⟩ = some v) : g < w.heap.size := by
  rcases Nat.lt_or_ge g w.heap.size with h1 | h1
  · exact h1
  · unfold World.cell? at h
    rw [Array.getElem?_eq_none h1] at h
    cases h
theorem tab_texts {w : World} {g : Nat} {L : List (List UInt8)} (h0 : 0 < L.length) (h : ∀ i, i < L.length → w.cell? ⟨g, i, none⟩ = some (.string ⟨(L.getD i []).toArray⟩)) :
    g < w.heap.size ∧ ∃ cs, (∀ ρ w, C1 ρ w (.agg (L.map .str)) cs) ∧ Has (.arr L.length .cell) (.agg (L.map .str)) ∧ w.rangeAt g 0 cs := by
  refine ⟨there_size (h 0 h0), L.map fun s => Value.string ⟨s.toArray⟩, fun ρ w => by simp only [C1]; exact c1_texts ρ w L, has_arrMap rfl (fun x => by simp [Has, VV.leaf]), fun j v hv => ?_⟩
  rw [List.getElem?_map] at hv
  obtain ⟨s, hs, rfl⟩ := Option.map_eq_some_iff.1 hv
  have hj := (List.getElem?_eq_some_iff.1 hs).1
  rw [Nat.zero_add, h j hj, List.getD_eq_getElem?_getD, hs]; rfl
theorem tab_nums {w : World} {g : Nat} {k : IntKind} {L : List Int} (h0 : 0 < L.length) (h : ∀ i, i < L.length → w.cell? ⟨g, i, none⟩ = some (.int k (L.getD i 0))) :
    g < w.heap.size ∧ ∃ cs, (∀ ρ w, C1 ρ w (.agg (L.map (.int k))) cs) ∧ Has (.arr L.length .cell) (.agg (L.map (.int k))) ∧ w.rangeAt g 0 cs := by
  refine ⟨there_size (h 0 h0), L.map fun s => Value.int k s, fun ρ w => by simp only [C1]; exact c1_nums ρ w k L, has_arrMap rfl (fun x => by simp [Has, VV.leaf]), fun j v hv => ?_⟩
  rw [List.getElem?_map] at hv
  obtain ⟨s, hs, rfl⟩ := Option.map_eq_some_iff.1 hv
  have hj := (List.getElem?_eq_some_iff.1 hs).1
  rw [Nat.zero_add, h j hj, List.getD_eq_getElem?_getD, hs]; rfl
end Go.Proofs.YtabfjhpakgdopaaDoor.V
end
section
/-
  THE TABLES of isa and cpu, as start-up code laid them.
-/
set_option linter.unusedVariables false
namespace Go.Proofs.YtabfjhpakgdopaaDoor.V
open Go
set_option maxRecDepth 100000
theorem gNames : Tryd.prog.globalNamed "hibernacle/isa.names" = some 1 := by kernel_rfl
theorem gNums : Tryd.prog.globalNamed "hibernacle/cpu.withNumber" = some 0 := by kernel_rfl
theorem tNames : (Tryd.prog.globals[1]?).map (·.type) = some 108 := by kernel_rfl
theorem tNums : (Tryd.prog.globals[0]?).map (·.type) = some 81 := by kernel_rfl
theorem base_top {W : World} (h : laidMetH Tryd.prog [("hibernacle/isa.names", Rows.laid_hibernacle_isa_names), ("hibernacle/cpu.withNumber", Rows.laid_hibernacle_cpu_withNumber)] W) : Base W.heap.size (.bare fun _ => True) W := by
  rw [MakeChecks.laidMetH_plain _ _ _ (by kernel_rfl)] at h
  obtain ⟨ps, ⟨g0, t0, cs0, f0, p0, q0, hg0, ht0, hv0, hd0, ⟨g1, t1, cs1, f1, p1, q1, hg1, ht1, hv1, hd1, _, _⟩, _⟩, _, _⟩ := h
  obtain rfl := Option.some.inj (gNames.symm.trans hg0)
  obtain rfl := Option.some.inj (gNums.symm.trans hg1)
  obtain rfl := Option.some.inj (tNames.symm.trans ht0)
  obtain rfl := Option.some.inj (tNums.symm.trans ht1)
  have h1 := trod_texts (L := nameL) (show Tryd.prog.underlying 108 = some (.array 32 9) from Tryd.underlying108) (show Tryd.prog.underlying 9 = some .string from Tryd.underlying9) (by kernel_rfl) rfl hd0 rfl
  have h2 := trod_nums (L := numL) (show Tryd.prog.underlying 81 = some (.array 5 5) from Tryd.underlying81) (show Tryd.prog.underlying 5 = some (.int .u8) from Tryd.underlying5) (by kernel_rfl) rfl hd1 rfl
  have k1 := tab_texts (w := W) (g := 1) (L := nameL) (by decide) fun i hi => by
    rw [World.var?_cell hg0 hv0 i, ← Array.getElem?_toList]
    exact h1 i hi
  have k2 := tab_nums (w := W) (g := 0) (k := .u8) (L := numL) (by decide) fun i hi => by
    rw [World.var?_cell hg1 hv1 i, ← Array.getElem?_toList]
    exact h2 i hi
  refine ⟨Nat.le_refl _, fun g s v hg => ?_⟩
  unfold tabs at hg
  simp only [List.mem_cons,Prod.mk.injEq,List.not_mem_nil,or_false] at hg
  rcases hg with ⟨rfl, rfl, rfl⟩ | ⟨rfl, rfl, rfl⟩
  · exact ⟨k2.1, trivial, k2.2⟩
  · exact ⟨k1.1, trivial, k1.2⟩
end Go.Proofs.YtabfjhpakgdopaaDoor.V
end
