/-
  Parts of the proof of TopUnseen: M14, E9, EA, EC, EG, EB.
  Conditions: none.
-/
import Derived.Test.YtabfjhpakgdopaaDoorWTopUnseen05
import Derived.Test.YtabfjhpakgdopaaDoorWTopUnseen07
import Derived.Test.YtabfjhpakgdopaaDoorWTopUnseen03
import Derived.LaidMore
import Derived.OpenShut
import Derived.FnData
import Derived.Test.YtabfjhpakgdopaaDoorRows
import Derived.MakeChecks
section
/-
  MMU, part 14: has no page a frame that another one has?
-/
set_option linter.unusedVariables false
set_option linter.unusedSimpArgs false
namespace Go.Proofs.YtabfjhpakgdopaaDoor.V
open Go
set_option maxRecDepth 100000
-- nlx: jO, jP
set_option maxHeartbeats 1000000
def setM (L : List Int) : List (VV × VV) := L.foldl (fun es f => mput es (.int .i64 f) (.bool true)) []
theorem mget_mput : ∀ (es : List (VV × VV)) (f g : Int), mget (mput es (.int .i64 f) (.bool true)) (.int .i64 g) = if g = f then some (.bool true) else mget es (.int .i64 g)
  | [], f, g => by
    simp only [mput,mget,keq,beq_iff_eq]
  | (k, v) :: es, f, g => by
    simp only [mput]
    by_cases h : keq (.int .i64 f) k = true
    · rw [if_pos h]
      simp only [mget]
      cases k <;> simp [keq] at h
      subst h
      simp only [keq,beq_iff_eq]
      split <;> rfl
    · rw [if_neg h]
      simp only [mget,mget_mput es f g]
      by_cases h2 : keq (.int .i64 g) k = true
      · rw [if_pos h2, if_pos h2]
        by_cases e : g = f
        · subst e; exact absurd h2 h
        · rw [if_neg e]
      · rw [if_neg h2, if_neg h2]
theorem setM_snoc (L : List Int) (f : Int) : mput (setM L) (.int .i64 f) (.bool true) = setM (L ++ [f]) := by
  simp [setM, List.foldl_append]
theorem mget_setM (f : Int) : ∀ (L : List Int) (es : List (VV × VV)), mget (L.foldl (fun es f => mput es (.int .i64 f) (.bool true)) es) (.int .i64 f) = if f ∈ L then some (.bool true) else mget es (.int .i64 f)
  | [], es => by simp
  | g :: L, es => by
    simp only [List.foldl_cons,mget_setM f L,mget_mput,List.mem_cons]
    by_cases h : f ∈ L
    · simp [h]
    · simp [h]
theorem look_setM (L : List Int) (f : Int) : (mget (setM L) (.int .i64 f)).getD (.bool false) = .bool (decide (f ∈ L)) := by
  rw [setM, mget_setM]
  by_cases h : f ∈ L <;> simp [h, mget]
theorem mput_keys : ∀ (es : List (VV × VV)) (f : Int), (es.all fun q => keyV (.int .i64) q.1) = true → ((mput es (.int .i64 f) (.bool true)).all fun q => keyV (.int .i64) q.1) = true
  | [], f, _ => by simp [mput, keyV]
  | (k, v) :: es, f, h => by
    simp only [List.all_cons,Bool.and_eq_true] at h
    simp only [mput]
    split
    · simp only [List.all_cons,Bool.and_eq_true]; exact h
    · simp only [List.all_cons,Bool.and_eq_true]; exact ⟨h.1, mput_keys es f h.2⟩
theorem keys_setM (L : List Int) : ((setM L).all fun q => keyV (.int .i64) q.1) = true := by
  have key : ∀ (L : List Int) (es : List (VV × VV)), (es.all fun q => keyV (.int .i64) q.1) = true → ((L.foldl (fun es f => mput es (.int .i64 f) (.bool true)) es).all fun q => keyV (.int .i64) q.1) = true := by
    intro L
    induction L with
    | nil => intro es h; exact h
    | cons g L ih => intro es h; exact ih _ (mput_keys es g h)
  exact key L [] rfl
theorem jP (L : List Int) : ((setM L).all fun q => nl q.1 && nl q.2) = true := by
  have hp : ∀ (es : List (VV × VV)) (f : Int), (es.all fun q => nl q.1 && nl q.2) = true → ((mput es (.int .i64 f) (.bool true)).all fun q => nl q.1 && nl q.2) = true := by
    intro es f
    induction es with
    | nil => intro _; simp [mput, nl]
    | cons x es ih =>
      obtain ⟨k, v⟩ := x
      intro h
      simp only [List.all_cons,Bool.and_eq_true] at h
      simp only [mput]
      split
      · simp only [List.all_cons,Bool.and_eq_true]; exact ⟨⟨h.1.1, by simp [nl]⟩, h.2⟩
      · simp only [List.all_cons,Bool.and_eq_true]; exact ⟨h.1, ih h.2⟩
  have key : ∀ (L : List Int) (es : List (VV × VV)), (es.all fun q => nl q.1 && nl q.2) = true → ((L.foldl (fun es f => mput es (.int .i64 f) (.bool true)) es).all fun q => nl q.1 && nl q.2) = true := by
    intro L
    induction L with
    | nil => intro es h; exact h
    | cons g L ih => intro es h; exact ih _ (hp es g h)
  exact key L [] rfl
def own (s : List Pte) (k : Nat) : List Int := ((s.take k).filter (·.is)).map (·.fr)
end Go.Proofs.YtabfjhpakgdopaaDoor.V
end
section
/-
  THE TOP of one instruction: TopOwnPages.
-/
set_option linter.unusedVariables false
set_option linter.unusedSimpArgs false
namespace Go.Proofs.YtabfjhpakgdopaaDoor.V
open Go
set_option maxRecDepth 100000
set_option maxHeartbeats 8000000
abbrev cpuT : Ty := .fcons (.arr 16 (.int .u32)) (.fcons (.int .u32) .fnil)
abbrev encCpuS (c : CpuS) : VV := .agg [.agg (c.rs.map (.int .u32)), .int .u32 c.pc]
abbrev CpuD := List Int × Int × Unit
def mCpu (x : CpuD) : CpuS := ⟨x.1, x.2.1⟩
theorem toV_cpu (x : CpuD) : toV cpuT x = encCpu (mCpu x) := rfl
theorem cpu_good (x : CpuD) (g : good cpuT x) : CpuR (mCpu x) := by
  obtain ⟨⟨g1, g2⟩, g3, _⟩ := g
  exact ⟨g1, fun y hy => bounds_u32 (g2 y hy), bounds_u32 g3⟩
theorem fit_cpu {c : CpuS} (h : CpuR c) : Fit (EQ.st [EQ.arr 16 (EQ.int .u32), EQ.int .u32]) (.agg [.agg (c.rs.map (.int .u32)), .int .u32 c.pc]) := by
  simp only [Fit,FitL,List.length_map,List.mem_map,forall_exists_index,and_imp,forall_apply_eq_imp_iff₂,true_and,and_true]
  exact ⟨h.len, fun _ _ => trivial⟩
theorem veq_cpu (c : CpuS) : veq (.agg [.agg (c.rs.map (.int .u32)), .int .u32 c.pc]) (.agg [.agg (c.rs.map (.int .u32)), .int .u32 c.pc]) = true := by
  have h1 : ∀ l : List Int, veqs (l.map (VV.int .u32)) (l.map (VV.int .u32)) = true := fun l => by
    induction l with
    | nil => rfl
    | cons a l ih => simp only [List.map_cons,veqs,veq,ih,BEq.rfl,Bool.and_self]
  simp only [veq,veqs,h1,BEq.rfl,Bool.and_self]
end Go.Proofs.YtabfjhpakgdopaaDoor.V
end
section
/-
  ONE INSTRUCTION sees no frame but those that pages have.
-/
set_option linter.unusedVariables false
set_option linter.unusedSimpArgs false
namespace Go.Proofs.YtabfjhpakgdopaaDoor.V
open Go
set_option maxRecDepth 100000
set_option maxHeartbeats 8000000
structure Same (s : List Pte) (fr gr : Frames) : Prop where
  len : gr.length = fr.length
  at_ : ∀ p ∈ s, p.is = true → 0 ≤ p.fr → gr.getD p.fr.toNat [] = fr.getD p.fr.toNat []
theorem thereSame {s : List Pte} {fr gr : Frames} (h : Same s fr gr) {p : Pte} (hp : p ∈ s) (hi : p.is = true) : thereF gr p.fr = thereF fr p.fr := by
  rw [Bool.eq_iff_iff, thereF_iff, thereF_iff, h.len]
  constructor
  · rintro ⟨h1, h2, h3⟩
    exact ⟨h1, h2, by rw [← h.at_ p hp hi h1]; exact h3⟩
  · rintro ⟨h1, h2, h3⟩
    exact ⟨h1, h2, by rw [h.at_ p hp hi h1]; exact h3⟩
theorem loadP_same {s : List Pte} (hs : s.length = 16) {fr gr : Frames} (h : Same s fr gr) {a : Int} (ha : 0 ≤ a) (size : Int) : loadP gr s a size = loadP fr s a size := by
  unfold loadP
  cases hf : findO s a size false with
  | none => rfl
  | some q =>
    obtain ⟨f, i⟩ := q
    obtain ⟨g0, g1, g2, g3, g4, g5, g6, g7, g8⟩ := findO_some ha hf
    have hm : s.getD (a / 128).toNat default ∈ s := getD_memE (by omega)
    dsimp only
    rw [g5, thereSame h hm g3]
    split
    · rename_i ht
      rw [h.at_ _ hm g3 (thereF_iff.1 ht).1]
    · rfl
theorem loadC_same {s : List Pte} (hs : s.length = 16) {fr gr : Frames} (h : Same s fr gr) {a : Int} (ha : 0 ≤ a) (op : Int) : loadC op s gr a = loadC op s fr a := by
  unfold loadC
  rw [loadP_same hs h ha, loadP_same hs h ha]
theorem setSame {s : List Pte} {fr gr : Frames} (h : Same s fr gr) (k : Nat) (x : List UInt8) : Same s (fr.set k x) (gr.set k x) := by
  refine ⟨by rw [List.length_set, List.length_set, h.len], fun p hp hi h0 => ?_⟩
  have := h.at_ p hp hi h0
  by_cases e : k = p.fr.toNat
  · subst e
    by_cases hlt : p.fr.toNat < fr.length
    · rw [List.getD_eq_getElem?_getD, List.getElem?_set_self (by rw [h.len]; exact hlt), List.getD_eq_getElem?_getD, List.getElem?_set_self hlt]
    · rw [List.set_eq_of_length_le (by rw [h.len]; omega), List.set_eq_of_length_le (by omega)]
      exact this
  · rw [List.getD_eq_getElem?_getD, List.getElem?_set_ne e, ← List.getD_eq_getElem?_getD, List.getD_eq_getElem?_getD (l := fr.set k x), List.getElem?_set_ne e, ← List.getD_eq_getElem?_getD]
    exact this
inductive SameO (s : List Pte) : Option Frames → Option Frames → Prop
  | none : SameO s none none
  | some {f g : Frames} (h : Same s f g) : SameO s (some f) (some g)
theorem storeP_same {s : List Pte} (hs : s.length = 16) {fr gr : Frames} (h : Same s fr gr) {a : Int} (ha : 0 ≤ a) (size : Int) (v : Nat) : SameO s (storeP fr s a size v) (storeP gr s a size v) := by
  unfold storeP
  cases hf : findO s a size true with
  | none => exact .none
  | some q =>
    obtain ⟨f, i⟩ := q
    obtain ⟨g0, g1, g2, g3, g4, g5, g6, g7, g8⟩ := findO_some ha hf
    have hm : s.getD (a / 128).toNat default ∈ s := getD_memE (by omega)
    dsimp only
    rw [g5, thereSame h hm g3]
    split
    · rename_i ht
      rw [h.at_ _ hm g3 (thereF_iff.1 ht).1]
      exact .some (setSame h _ _)
    · exact .none
structure SameR (s : List Pte) (r q : StepR) : Prop where
  c : q.c = r.c
  k : q.k = r.k
  n : q.n = r.n
  fr : Same s r.fr q.fr
theorem stepX_same {c : CpuS} {s : List Pte} (hs : s.length = 16) {fr gr : Frames} (h : Same s fr gr) (x : Ins) : SameR s (stepX c s fr x) (stepX c s gr x) := by
  have t : ∀ (c : CpuS) (k n : Int), SameR s ⟨c, fr, k, n⟩ ⟨c, gr, k, n⟩ := fun c k n => ⟨rfl, rfl, rfl, h⟩
  have hw : ∀ y : Int, 0 ≤ IntKind.u32.wrap y := fun y => (wr_u32 y).1
  unfold stepX
  dsimp only
  rw [loadC_same hs h (hw _)]
  have ho := storeP_same hs h (hw ((c.rs.set 0 0).getD x.b.toNat default + IntKind.u32.wrap x.imm)) (if x.op = 24 then 1 else 4) ((c.rs.set 0 0).getD x.a.toNat default).toNat
  unfold storeC
  split
  · exact t ..
  split
  · exact t ..
  split
  · exact t ..
  split
  · split
    · exact t ..
    · exact t ..
  split
  · generalize storeP fr s _ _ _ = o at ho
    generalize storeP gr s _ _ _ = o' at ho
    cases ho with
    | none => exact t ..
    | some hh => exact ⟨rfl, rfl, rfl, hh⟩
  split
  · exact t ..
  split
  · exact t ..
  split
  · exact t ..
  · exact t ..
theorem step_same {c : CpuS} (hc : CpuR c) {s : List Pte} (hs : s.length = 16) {fr gr : Frames} (h : Same s fr gr) : SameR s (stepF c s fr) (stepF c s gr) := by
  unfold stepF
  rw [loadP_same hs h hc.pc.1]
  split
  · exact ⟨rfl, rfl, rfl, h⟩
  · split
    · exact ⟨rfl, rfl, rfl, h⟩
    · exact stepX_same hs h _
def seenK (s : List Pte) : Nat → List Int
  | 0 => []
  | k + 1 => if (s.getD k default).is = true then seenK s k ++ [(s.getD k default).fr] else seenK s k
theorem seenK_in {s : List Pte} : ∀ {k j : Nat}, j < k → (s.getD j default).is = true → (s.getD j default).fr ∈ seenK s k
  | k + 1, j, hj, h1 => by
    rw [seenK]
    by_cases e : j = k
    · subst e
      rw [if_pos h1]
      exact List.mem_append_right _ (List.mem_singleton.2 rfl)
    · have := seenK_in (k := k) (by omega) h1
      split
      · exact List.mem_append_left _ this
      · exact this
theorem seenK_of {s : List Pte} : ∀ {k : Nat} {i : Int}, k ≤ s.length → i ∈ seenK s k → ∃ p ∈ s, p.is = true ∧ p.fr = i
  | 0, i, _, h => by simp [seenK] at h
  | k + 1, i, hk, h => by
    rw [seenK] at h
    split at h
    · rename_i h1
      rcases List.mem_append.1 h with h | h
      · exact seenK_of (by omega) h
      · exact ⟨_, getD_memE (by omega), h1, (List.mem_singleton.1 h).symm⟩
    · exact seenK_of (by omega) h
theorem seen_all {s : List Pte} (hs : s.length = 16) : ∀ p ∈ s, p.is = true → p.fr ∈ seenK s 16 := fun p hp h1 => by
  obtain ⟨j, hj, rfl⟩ := List.mem_iff_getElem.1 hp
  have hg : s.getD j default = s[j] := by rw [List.getD_eq_getElem?_getD, List.getElem?_eq_getElem hj]; rfl
  have := seenK_in (s := s) (k := 16) (j := j) (by omega) (by rw [hg]; exact h1)
  rw [hg] at this
  exact this
def othK (fr : Frames) (L : List Int) (P : List UInt8) : Nat → Frames
  | 0 => fr
  | k + 1 => if (k : Int) ∈ L then othK fr L P k else (othK fr L P k).set k P
theorem othK_len (fr : Frames) (L : List Int) (P : List UInt8) : ∀ k, (othK fr L P k).length = fr.length
  | 0 => rfl
  | k + 1 => by
    rw [othK]
    split
    · exact othK_len fr L P k
    · rw [List.length_set]; exact othK_len fr L P k
theorem othK_in {fr : Frames} {L : List Int} {P : List UInt8} {i : Nat} (h : (i : Int) ∈ L) : ∀ k, (othK fr L P k).getD i [] = fr.getD i []
  | 0 => rfl
  | k + 1 => by
    rw [othK]
    split
    · exact othK_in h k
    · rename_i hk
      rw [List.getD_eq_getElem?_getD, List.getElem?_set_ne (by intro e; subst e; exact hk h), ← List.getD_eq_getElem?_getD]
      exact othK_in h k
theorem othK_all {fr : Frames} {L : List Int} {P : List UInt8} {n : Nat} (hP : P.length = n) (h : ∀ s ∈ fr, s.length = n) : ∀ k, ∀ s ∈ othK fr L P k, s.length = n
  | 0 => h
  | k + 1 => by
    rw [othK]
    split
    · exact othK_all hP h k
    · intro s hs
      rcases List.mem_or_eq_of_mem_set hs with hs | rfl
      · exact othK_all hP h k s hs
      · exact hP
theorem oth_same {s : List Pte} (hs : s.length = 16) (fr : Frames) (P : List UInt8) (k : Nat) : Same s fr (othK fr (seenK s 16) P k) :=
  ⟨othK_len .., fun p hp hi h0 => othK_in (by rw [Int.toNat_of_nonneg h0]; exact seen_all hs p hp hi) k⟩
theorem same_seen {s : List Pte} (hs : s.length = 16) {fr gr : Frames} (h : Same s fr gr) {i : Nat} (hi : (i : Int) ∈ seenK s 16) : gr.getD i [] = fr.getD i [] := by
  obtain ⟨p, hp, h1, h2⟩ := seenK_of (by omega) hi
  have := h.at_ p hp h1 (by omega)
  rw [h2] at this
  exact this
end Go.Proofs.YtabfjhpakgdopaaDoor.V
end
section
/-
  THE TOP of one instruction: TopUnseen.
-/
set_option linter.unusedVariables false
set_option linter.unusedSimpArgs false
namespace Go.Proofs.YtabfjhpakgdopaaDoor.V
open Go
set_option maxRecDepth 100000
-- nlx: jO, nls_regs, nls_wr0, jP, nls_strsU
set_option maxHeartbeats 8000000
theorem nls_strsU (l : List (List UInt8)) : nls (l.map VV.str) = true := nls_map _ (fun _ => rfl) l
theorem topunseen_law (x0 : CpuD) (x1 : List (Bool × Bool × Int × Unit)) (x2 : List (List UInt8)) (x3 x4 : Int) (g0 : good cpuT x0) (g1 : good (.arr 16 pteT) x1) (g2 : good (.sl .str) x2) (g3 : good (.int .u8) x3) (g4 : good (.int .u8) x4)
    (l0 : Ty.lite cpuT x0) (l1 : Ty.lite (.arr 16 pteT) x1) (l2 : Ty.lite (.sl .str) x2) (l3 : Ty.lite (.int .u8) x3) (l4 : Ty.lite (.int .u8) x4) :
    Spec Tryd.prog 9 [toV cpuT x0, toV (.arr 16 pteT) x1, toV (.sl .str) x2, toV (.int .u8) x3, toV (.int .u8) x4] (.bool true) := by
  have hcp := cpu_good x0 g0
  have hs : (x1.map mkPte).length = 16 := by rw [List.length_map]; exact g1.1
  have hfl : x2.length ≤ 2 ^ 47 := Nat.le_trans l2.1 (by decide)
  have hfs : ∀ y ∈ x2, y.length ≤ 2 ^ 47 := fun y hy => Nat.le_trans (l2.2 y hy) (by decide)
  have hn : 0 ≤ x4 ∧ x4 ≤ 255 := bounds_u8 g4
  have hb : 0 ≤ x3 ∧ x3 ≤ 255 := bounds_u8 g3
  rw [toV_cpu, toV_space, toV_strs]
  simp only [toV]
  generalize mCpu x0 = c at hcp
  generalize x1.map mkPte = s at hs
  generalize x2 = fr at hfl hfs
  clear g0 g1 g2 g3 g4 l0 l1 l2 l3 l4 x0 x1 x2
  obtain ⟨fb, hfb⟩ : ∃ b : UInt8, x3 = (b.toNat : Int) := ⟨UInt8.ofNat x3.toNat, by
    have h1 : (UInt8.ofNat x3.toNat).toNat = x3.toNat := UInt8.toNat_ofNat_of_lt' (by show x3.toNat < 256; omega)
    omega⟩
  subst hfb
  have hPg := page_spec fb
  have hPl : (List.replicate 128 fb).length = 128 := List.length_replicate
  generalize List.replicate 128 fb = P at hPg hPl
  have hW := wild_spec fr hfl hfs
  have hSp := speaks_spec
  have hG := hasRegs c.rs hcp.len
  have hS := hasSpace s hs
  have hcl := hcp.len
  have hns := jO s
  refine spec_ok Tryd.func9 rfl rfl (by kernel_rfl) (k := 5) rfl (by decide) ?_
  repeat' (first|(with_reducible first|refine yrl (by constructor) ?_|refine jk (fun M hM=>?_)|(refine hM _ ?_;clear hM M)|refine xb3 (by decide) ?_|refine yqa (by assumption) ?_ ?_|refine yqb (by assumption) ?_ ?_)|((with_reducible refine je ?_)<;>(first|rfl|assumption|(simp only [znl,jO,nls_regs,nls_wr0,jP,nls_strsU];(first|done|fail))))|(with_reducible refine jf (by (simp only [↓reduceIte,zlk,Nat.reduceEqDiff,reduceCtorEq]);exact rfl) ?_)|((with_reducible first|refine jg (fun hc=>?_) (fun hc=>?_)|refine jh (fun hc=>?_) (fun hc=>?_))<;>(try simp (disch:=omega) only [zhb] at hc)<;>(try (exfalso;omega))<;>(try subst hc))|(with_reducible refine ji (by omega) ?_)|(simp (config := { maxSteps := 400000 }) only [↓jt,↓reduceIte,zvs,reduceCtorEq,Nat.reduceEqDiff,Nat.reduceAdd,Nat.reduceLeDiff,Nat.reduceMul,Int.reduceBNe,Int.reduceBEq,Int.reduceEq,Int.reduceNe,Int.reduceLT,Int.reduceLE,Int.reduceGT,Int.reduceGE,Int.reduceNeg,Int.reduceToNat,Nat.reduceLT,Nat.reduceSub,tab,hG,hS,hcl,encCpu,Tryd.results9,List.toList_toArray])|(simp (disch:=omega) only [ziw]))
  all_goals first
    | (simp only [zrds]; done)
    | skip
  have hwild := hc
  unfold wildB at hwild
  rw [Bool.or_eq_false_iff, List.any_eq_false, decide_eq_false_iff_not] at hwild
  obtain ⟨hw1, hw2⟩ := hwild
  have hall : ∀ s ∈ fr, s.length = 128 := fun s hs => Classical.byContradiction fun h => hw1 s hs (decide_eq_true h)
  have hfl20 : fr.length ≤ 20 := by omega
  refine ok_loop (fun k : Nat => ⟨slots [(2, encStrs fr), (3, .int .u8 fb.toNat), (4, .int .u8 x4), (5, .ptr 0 []), (6, .ptr 1 []), (11, .map 2), (28, encSpace s), (29, .int .i64 k)], rows [(0, .row cpuSh (encCpuS c)), (1, .row (.arr 16 (.st [.cell, .cell, .cell])) (encSpace s)), (2, .map (setM (seenK s k)))], 3⟩) (fun k => k ≤ 16) (fun k => 16 - k) 0 ?_ (Nat.zero_le _) (fun k hk => ?_)
  · (refine yrn [(0, 0), (1, 1), (2, 2)] false ?_ ?_<;>(repeat' (first|(with_reducible first|exact ya1|exact ya2|exact ya3|refine jx rfl (by first|rfl|assumption|(simp only [znl,jO,nls_regs,nls_wr0,jP,nls_strsU];(first|done|fail)))|exact ya5|exact ya7|exact jy|exact jz|refine jA ?_|refine ya9 ?_ ?_ ?_|refine jC rfl (by first|rfl|assumption|(simp only [znl,jO,nls_regs,nls_wr0,jP,nls_strsU];(first|done|fail)))|refine MR.agg (MRL.cons ?_ ?_)|refine MR.fn ?_|refine MRL.cons ?_ ?_|exact MRL.nil|refine jE ?_ ?_|exact jF|exact jG|refine yb1 ?_ ?_|refine MB.row ?_|refine jI ?_ ?_|exact ya8|refine jJ rfl (by first|rfl|assumption|(simp only [znl,jO,nls_regs,nls_wr0,jP,nls_strsU];(first|done|fail)))|refine yb2 ?_|rfl)|(simp only [znl,jO,nls_regs,nls_wr0,jP,nls_strsU];(first|done|fail))|(simp only [↓reduceIte,zlk,Nat.reduceEqDiff,reduceCtorEq])|(with_reducible first|refine jJ ?_ ?_|refine ya5 ?_|refine ju ?_|refine jv ?_|refine jw ?_|refine jx ?_ (by first|rfl|assumption|(simp only [znl,jO,nls_regs,nls_wr0,jP,nls_strsU];(first|done|fail)))|refine jC ?_ (by first|rfl|assumption|(simp only [znl,jO,nls_regs,nls_wr0,jP,nls_strsU];(first|done|fail)))))))
    all_goals (first | rfl | trace_state)
  by_cases hlt : k < 16
  · cases hi : (s.getD k default).is
    all_goals (
      have e : seenK s (k + 1) = if (s.getD k default).is = true then seenK s k ++ [(s.getD k default).fr] else seenK s k := rfl
      rw [hi] at e
      simp only [Bool.false_eq_true,if_true,if_false] at e
      repeat' (first|(with_reducible first|refine yrl (by constructor) ?_|refine jk (fun M hM=>?_)|(refine hM _ ?_;clear hM M)|refine xb3 (by decide) ?_|refine yqa (by assumption) ?_ ?_|refine yqb (by assumption) ?_ ?_)|((with_reducible refine je ?_)<;>(first|rfl|assumption|(simp only [znl,jO,nls_regs,nls_wr0,jP,nls_strsU];(first|done|fail))))|(with_reducible refine jf (by (simp only [↓reduceIte,zlk,Nat.reduceEqDiff,reduceCtorEq]);exact rfl) ?_)|((with_reducible first|refine jg (fun hc=>?_) (fun hc=>?_)|refine jh (fun hc=>?_) (fun hc=>?_))<;>(try simp (disch:=omega) only [zhb] at hc)<;>(try (exfalso;omega))<;>(try subst hc))|(with_reducible refine ji (by omega) ?_)|(simp (config := { maxSteps := 400000 }) only [↓jt,↓reduceIte,zvs,reduceCtorEq,Nat.reduceEqDiff,Nat.reduceAdd,Nat.reduceLeDiff,Nat.reduceMul,Int.reduceBNe,Int.reduceBEq,Int.reduceEq,Int.reduceNe,Int.reduceLT,Int.reduceLE,Int.reduceGT,Int.reduceGE,Int.reduceNeg,Int.reduceToNat,Nat.reduceLT,Nat.reduceSub,tab,hS,hs,hi,encPte,keys_setM,setM_snoc,Tryd.results9,List.toList_toArray])|(simp (disch:=omega) only [ziw]))
      all_goals first
        | (exfalso; omega)
        | (refine xl1 (k + 1) ?_ (by show k + 1 ≤ 16; omega) (by show 16 - (k + 1) < 16 - k; omega); (refine yrn [(0, 0), (1, 1), (2, 2)] false ?_ ?_<;>(repeat' (first|(with_reducible first|exact ya1|exact ya2|exact ya3|refine jx rfl (by first|rfl|assumption|(simp only [znl,jO,nls_regs,nls_wr0,jP,nls_strsU];(first|done|fail)))|exact ya5|exact ya7|exact jy|exact jz|refine jA ?_|refine ya9 ?_ ?_ ?_|refine jC rfl (by first|rfl|assumption|(simp only [znl,jO,nls_regs,nls_wr0,jP,nls_strsU];(first|done|fail)))|refine MR.agg (MRL.cons ?_ ?_)|refine MR.fn ?_|refine MRL.cons ?_ ?_|exact MRL.nil|refine jE ?_ ?_|exact jF|exact jG|refine yb1 ?_ ?_|refine MB.row ?_|refine jI ?_ ?_|exact ya8|refine jJ rfl (by first|rfl|assumption|(simp only [znl,jO,nls_regs,nls_wr0,jP,nls_strsU];(first|done|fail)))|refine yb2 ?_|rfl)|(simp only [znl,jO,nls_regs,nls_wr0,jP,nls_strsU];(first|done|fail))|(simp only [↓reduceIte,zlk,Nat.reduceEqDiff,reduceCtorEq])|(with_reducible first|refine jJ ?_ ?_|refine ya5 ?_|refine ju ?_|refine jv ?_|refine jw ?_|refine jx ?_ (by first|rfl|assumption|(simp only [znl,jO,nls_regs,nls_wr0,jP,nls_strsU];(first|done|fail)))|refine jC ?_ (by first|rfl|assumption|(simp only [znl,jO,nls_regs,nls_wr0,jP,nls_strsU];(first|done|fail))))))); all_goals (first | rfl | (rw [e]; done) | trace_state); done)
        | trace_state)
  obtain rfl : k = 16 := by omega
  have hoth := oth_same hs fr P fr.length
  have hsee := fun (f g : Frames) (h : Same s f g) (i : Nat) => same_seen hs h (i := i)
  generalize seenK s 16 = L at hoth hsee
  repeat' (first|(with_reducible first|refine yrl (by constructor) ?_|refine jk (fun M hM=>?_)|(refine hM _ ?_;clear hM M)|refine xb3 (by decide) ?_|refine yqa (by assumption) ?_ ?_|refine yqb (by assumption) ?_ ?_)|((with_reducible refine je ?_)<;>(first|rfl|assumption|(simp only [znl,jO,nls_regs,nls_wr0,jP,nls_strsU];(first|done|fail))))|(with_reducible refine jf (by (simp only [↓reduceIte,zlk,Nat.reduceEqDiff,reduceCtorEq]);exact rfl) ?_)|((with_reducible first|refine jg (fun hc=>?_) (fun hc=>?_)|refine jh (fun hc=>?_) (fun hc=>?_))<;>(try simp (disch:=omega) only [zhb] at hc)<;>(try (exfalso;omega))<;>(try subst hc))|(with_reducible refine ji (by omega) ?_)|(simp (config := { maxSteps := 400000 }) only [↓jt,↓reduceIte,zvs,reduceCtorEq,Nat.reduceEqDiff,Nat.reduceAdd,Nat.reduceLeDiff,Nat.reduceMul,Int.reduceBNe,Int.reduceBEq,Int.reduceEq,Int.reduceNe,Int.reduceLT,Int.reduceLE,Int.reduceGT,Int.reduceGE,Int.reduceNeg,Int.reduceToNat,Nat.reduceLT,Nat.reduceSub,tab,hS,hs,Tryd.results9,List.toList_toArray])|(simp (disch:=omega) only [ziw]))
  all_goals (try (exfalso; omega))
  refine ok_loop (fun k : Nat => ⟨slots [(2, encStrs fr), (3, .int .u8 fb.toNat), (4, .int .u8 x4), (5, .ptr 0 []), (6, .ptr 1 []), (11, .map 2), (14, .sl (some (3, [], 0)) fr.length), (42, .int .i64 fr.length), (43, .int .i64 k)], rows [(0, .row cpuSh (encCpuS c)), (1, .row (.arr 16 (.st [.cell, .cell, .cell])) (encSpace s)), (2, .map (setM L)), (3, .row (.arr fr.length .cell) (.agg ((othK fr L P k).map .str)))], 4⟩) (fun k => k ≤ fr.length) (fun k => fr.length - k) 0 ?_ (Nat.zero_le _) (fun k hk => ?_)
  · (refine yrn [(0, 0), (1, 1), (2, 2), (3, 4)] false ?_ ?_<;>(repeat' (first|(with_reducible first|exact ya1|exact ya2|exact ya3|refine jx rfl (by first|rfl|assumption|(simp only [znl,jO,nls_regs,nls_wr0,jP,nls_strsU];(first|done|fail)))|exact ya5|exact ya7|exact jy|exact jz|refine jA ?_|refine ya9 ?_ ?_ ?_|refine jC rfl (by first|rfl|assumption|(simp only [znl,jO,nls_regs,nls_wr0,jP,nls_strsU];(first|done|fail)))|refine MR.agg (MRL.cons ?_ ?_)|refine MR.fn ?_|refine MRL.cons ?_ ?_|exact MRL.nil|refine jE ?_ ?_|exact jF|exact jG|refine yb1 ?_ ?_|refine MB.row ?_|refine jI ?_ ?_|exact ya8|refine jJ rfl (by first|rfl|assumption|(simp only [znl,jO,nls_regs,nls_wr0,jP,nls_strsU];(first|done|fail)))|refine yb2 ?_|rfl)|(simp only [znl,jO,nls_regs,nls_wr0,jP,nls_strsU];(first|done|fail))|(simp only [↓reduceIte,zlk,Nat.reduceEqDiff,reduceCtorEq])|(with_reducible first|refine jJ ?_ ?_|refine ya5 ?_|refine ju ?_|refine jv ?_|refine jw ?_|refine jx ?_ (by first|rfl|assumption|(simp only [znl,jO,nls_regs,nls_wr0,jP,nls_strsU];(first|done|fail)))|refine jC ?_ (by first|rfl|assumption|(simp only [znl,jO,nls_regs,nls_wr0,jP,nls_strsU];(first|done|fail)))))))
    all_goals (first | rfl | trace_state)
  by_cases hlk : k < fr.length
  · have hol := othK_len fr L P k
    have e : othK fr L P (k + 1) = if (k : Int) ∈ L then othK fr L P k else (othK fr L P k).set k P := rfl
    by_cases hin : (k : Int) ∈ L
    · rw [if_pos hin] at e
      have hdin : decide ((k : Int) ∈ L) = true := decide_eq_true hin
      generalize othK fr L P k = o at hol e ⊢
      have hns := nls_strsU o
      repeat' (first|(with_reducible first|refine yrl (by constructor) ?_|refine jk (fun M hM=>?_)|(refine hM _ ?_;clear hM M)|refine xb3 (by decide) ?_|refine yqa (by assumption) ?_ ?_|refine yqb (by assumption) ?_ ?_)|((with_reducible refine je ?_)<;>(first|rfl|assumption|(simp only [znl,jO,nls_regs,nls_wr0,jP,nls_strsU];(first|done|fail))))|(with_reducible refine jf (by (simp only [↓reduceIte,zlk,Nat.reduceEqDiff,reduceCtorEq]);exact rfl) ?_)|((with_reducible first|refine jg (fun hc=>?_) (fun hc=>?_)|refine jh (fun hc=>?_) (fun hc=>?_))<;>(try simp (disch:=omega) only [zhb] at hc)<;>(try (exfalso;omega))<;>(try subst hc))|(with_reducible refine ji (by omega) ?_)|(simp (config := { maxSteps := 400000 }) only [↓jt,↓reduceIte,zvs,reduceCtorEq,Nat.reduceEqDiff,Nat.reduceAdd,Nat.reduceLeDiff,Nat.reduceMul,Int.reduceBNe,Int.reduceBEq,Int.reduceEq,Int.reduceNe,Int.reduceLT,Int.reduceLE,Int.reduceGT,Int.reduceGE,Int.reduceNeg,Int.reduceToNat,Nat.reduceLT,Nat.reduceSub,tab,look_setM,keys_setM,hdin,hol,Tryd.results9,List.toList_toArray])|(simp (disch:=omega) only [ziw]))
      all_goals first
        | (exfalso; omega)
        | (refine xl1 (k + 1) ?_ (by show k + 1 ≤ fr.length; omega) (by show fr.length - (k + 1) < fr.length - k; omega); (refine yrn [(0, 0), (1, 1), (2, 2), (3, 3)] false ?_ ?_<;>(repeat' (first|(with_reducible first|exact ya1|exact ya2|exact ya3|refine jx rfl (by first|rfl|assumption|(simp only [znl,jO,nls_regs,nls_wr0,jP,nls_strsU];(first|done|fail)))|exact ya5|exact ya7|exact jy|exact jz|refine jA ?_|refine ya9 ?_ ?_ ?_|refine jC rfl (by first|rfl|assumption|(simp only [znl,jO,nls_regs,nls_wr0,jP,nls_strsU];(first|done|fail)))|refine MR.agg (MRL.cons ?_ ?_)|refine MR.fn ?_|refine MRL.cons ?_ ?_|exact MRL.nil|refine jE ?_ ?_|exact jF|exact jG|refine yb1 ?_ ?_|refine MB.row ?_|refine jI ?_ ?_|exact ya8|refine jJ rfl (by first|rfl|assumption|(simp only [znl,jO,nls_regs,nls_wr0,jP,nls_strsU];(first|done|fail)))|refine yb2 ?_|rfl)|(simp only [znl,jO,nls_regs,nls_wr0,jP,nls_strsU];(first|done|fail))|(simp only [↓reduceIte,zlk,Nat.reduceEqDiff,reduceCtorEq])|(with_reducible first|refine jJ ?_ ?_|refine ya5 ?_|refine ju ?_|refine jv ?_|refine jw ?_|refine jx ?_ (by first|rfl|assumption|(simp only [znl,jO,nls_regs,nls_wr0,jP,nls_strsU];(first|done|fail)))|refine jC ?_ (by first|rfl|assumption|(simp only [znl,jO,nls_regs,nls_wr0,jP,nls_strsU];(first|done|fail))))))); all_goals (first | rfl | (rw [e]; done) | trace_state); done)
        | trace_state
    · rw [if_neg hin] at e
      have hdin : decide ((k : Int) ∈ L) = false := decide_eq_false hin
      generalize othK fr L P k = o at hol e ⊢
      have hns := nls_strsU o
      have hw : (o.map VV.str).set k (.str P) = (o.set k P).map VV.str := (List.map_set ..).symm
      repeat' (first|(with_reducible first|refine yrl (by constructor) ?_|refine jk (fun M hM=>?_)|(refine hM _ ?_;clear hM M)|refine xb3 (by decide) ?_|refine yqa (by assumption) ?_ ?_|refine yqb (by assumption) ?_ ?_)|((with_reducible refine je ?_)<;>(first|rfl|assumption|(simp only [znl,jO,nls_regs,nls_wr0,jP,nls_strsU];(first|done|fail))))|(with_reducible refine jf (by (simp only [↓reduceIte,zlk,Nat.reduceEqDiff,reduceCtorEq]);exact rfl) ?_)|((with_reducible first|refine jg (fun hc=>?_) (fun hc=>?_)|refine jh (fun hc=>?_) (fun hc=>?_))<;>(try simp (disch:=omega) only [zhb] at hc)<;>(try (exfalso;omega))<;>(try subst hc))|(with_reducible refine ji (by omega) ?_)|(simp (config := { maxSteps := 400000 }) only [↓jt,↓reduceIte,zvs,reduceCtorEq,Nat.reduceEqDiff,Nat.reduceAdd,Nat.reduceLeDiff,Nat.reduceMul,Int.reduceBNe,Int.reduceBEq,Int.reduceEq,Int.reduceNe,Int.reduceLT,Int.reduceLE,Int.reduceGT,Int.reduceGE,Int.reduceNeg,Int.reduceToNat,Nat.reduceLT,Nat.reduceSub,tab,look_setM,keys_setM,hdin,hol,hw,Tryd.results9,List.toList_toArray])|(simp (disch:=omega) only [ziw]))
      all_goals first
        | (exfalso; omega)
        | (refine xl1 (k + 1) ?_ (by show k + 1 ≤ fr.length; omega) (by show fr.length - (k + 1) < fr.length - k; omega); (refine yrn [(0, 0), (1, 1), (2, 2), (3, 3)] false ?_ ?_<;>(repeat' (first|(with_reducible first|exact ya1|exact ya2|exact ya3|refine jx rfl (by first|rfl|assumption|(simp only [znl,jO,nls_regs,nls_wr0,jP,nls_strsU];(first|done|fail)))|exact ya5|exact ya7|exact jy|exact jz|refine jA ?_|refine ya9 ?_ ?_ ?_|refine jC rfl (by first|rfl|assumption|(simp only [znl,jO,nls_regs,nls_wr0,jP,nls_strsU];(first|done|fail)))|refine MR.agg (MRL.cons ?_ ?_)|refine MR.fn ?_|refine MRL.cons ?_ ?_|exact MRL.nil|refine jE ?_ ?_|exact jF|exact jG|refine yb1 ?_ ?_|refine MB.row ?_|refine jI ?_ ?_|exact ya8|refine jJ rfl (by first|rfl|assumption|(simp only [znl,jO,nls_regs,nls_wr0,jP,nls_strsU];(first|done|fail)))|refine yb2 ?_|rfl)|(simp only [znl,jO,nls_regs,nls_wr0,jP,nls_strsU];(first|done|fail))|(simp only [↓reduceIte,zlk,Nat.reduceEqDiff,reduceCtorEq])|(with_reducible first|refine jJ ?_ ?_|refine ya5 ?_|refine ju ?_|refine jv ?_|refine jw ?_|refine jx ?_ (by first|rfl|assumption|(simp only [znl,jO,nls_regs,nls_wr0,jP,nls_strsU];(first|done|fail)))|refine jC ?_ (by first|rfl|assumption|(simp only [znl,jO,nls_regs,nls_wr0,jP,nls_strsU];(first|done|fail))))))); all_goals (first | rfl | (rw [e]; done) | trace_state); done)
        | trace_state
  obtain rfl : k = fr.length := by omega
  have hol := othK_len fr L P fr.length
  have hoa := othK_all hPl hall (L := L) fr.length
  generalize othK fr L P fr.length = oth at hol hoa hoth ⊢
  have hns := nls_strsU oth
  obtain ⟨q, hq⟩ : ∃ q : Nat, x4 % 60 = (q : Int) := ⟨(x4 % 60).toNat, by omega⟩
  repeat' (first|(with_reducible first|refine yrl (by constructor) ?_|refine jk (fun M hM=>?_)|(refine hM _ ?_;clear hM M)|refine xb3 (by decide) ?_|refine yqa (by assumption) ?_ ?_|refine yqb (by assumption) ?_ ?_)|((with_reducible refine je ?_)<;>(first|rfl|assumption|(simp only [znl,jO,nls_regs,nls_wr0,jP,nls_strsU];(first|done|fail))))|(with_reducible refine jf (by (simp only [↓reduceIte,zlk,Nat.reduceEqDiff,reduceCtorEq]);exact rfl) ?_)|((with_reducible first|refine jg (fun hc=>?_) (fun hc=>?_)|refine jh (fun hc=>?_) (fun hc=>?_))<;>(try simp (disch:=omega) only [zhb] at hc)<;>(try (exfalso;omega))<;>(try subst hc))|(with_reducible refine ji (by omega) ?_)|(simp (config := { maxSteps := 400000 }) only [↓jt,↓reduceIte,zvs,reduceCtorEq,Nat.reduceEqDiff,Nat.reduceAdd,Nat.reduceLeDiff,Nat.reduceMul,Int.reduceBNe,Int.reduceBEq,Int.reduceEq,Int.reduceNe,Int.reduceLT,Int.reduceLE,Int.reduceGT,Int.reduceGE,Int.reduceNeg,Int.reduceToNat,Nat.reduceLT,Nat.reduceSub,tab,hol,Tryd.results9,List.toList_toArray])|(simp (disch:=omega) only [ziw]))
  all_goals (try (exfalso; omega))
  refine ok_loop (fun x : Nat × CpuS × Frames × Frames => ⟨slots [(2, encStrs x.2.2.1), (5, .ptr 0 []), (6, .ptr 1 []), (11, .map 2), (14, encStrs x.2.2.2), (16, .ptr 3 []), (59, .int .i64 q), (60, .int .i64 x.1)], rows [(0, .row cpuSh (encCpuS x.2.1)), (1, .row (.arr 16 (.st [.cell, .cell, .cell])) (encSpace s)), (2, .map (setM L)), (3, .row cpuSh (encCpuS x.2.1))], 4⟩) (fun x => x.1 ≤ q ∧ CpuR x.2.1 ∧ x.2.2.1.length = fr.length ∧ x.2.2.2.length = fr.length ∧ (∀ s ∈ x.2.2.1, s.length = 128) ∧ (∀ s ∈ x.2.2.2, s.length = 128) ∧ Same s x.2.2.1 x.2.2.2) (fun x => q - x.1) (0, c, fr, oth) ?_ ⟨Nat.zero_le _, hcp, rfl, hol, hall, hoa, hoth⟩ (fun x hx => ?_)
  · (refine yrn [(0, 0), (1, 1), (2, 2), (3, 4)] true ?_ ?_<;>(repeat' (first|(with_reducible first|exact ya1|exact ya2|exact ya3|refine jx rfl (by first|rfl|assumption|(simp only [znl,jO,nls_regs,nls_wr0,jP,nls_strsU];(first|done|fail)))|exact ya5|exact ya7|exact jy|exact jz|refine jA ?_|refine ya9 ?_ ?_ ?_|refine jC rfl (by first|rfl|assumption|(simp only [znl,jO,nls_regs,nls_wr0,jP,nls_strsU];(first|done|fail)))|refine MR.agg (MRL.cons ?_ ?_)|refine MR.fn ?_|refine MRL.cons ?_ ?_|exact MRL.nil|refine jE ?_ ?_|exact jF|exact jG|refine yb1 ?_ ?_|refine MB.row ?_|refine jI ?_ ?_|exact ya8|refine jJ rfl (by first|rfl|assumption|(simp only [znl,jO,nls_regs,nls_wr0,jP,nls_strsU];(first|done|fail)))|refine yb2 ?_|rfl)|(simp only [znl,jO,nls_regs,nls_wr0,jP,nls_strsU];(first|done|fail))|(simp only [↓reduceIte,zlk,Nat.reduceEqDiff,reduceCtorEq])|(with_reducible first|refine jJ ?_ ?_|refine ya5 ?_|refine ju ?_|refine jv ?_|refine jw ?_|refine jx ?_ (by first|rfl|assumption|(simp only [znl,jO,nls_regs,nls_wr0,jP,nls_strsU];(first|done|fail)))|refine jC ?_ (by first|rfl|assumption|(simp only [znl,jO,nls_regs,nls_wr0,jP,nls_strsU];(first|done|fail)))))))
    all_goals (first | rfl | exact hq | (rw [List.length_map, hol]; done) | (simp; done) | trace_state)
  obtain ⟨i, c', f, g⟩ := x
  obtain ⟨hi, hc', hfn, hgn, hf128, hg128, hsm⟩ := hx
  dsimp only at hi hc' hfn hgn hf128 hg128 hsm ⊢
  by_cases hlti : i < q
  · have hfitf : fits f := ⟨by omega, fun s hs => by rw [hf128 s hs]; decide⟩
    have hfitg : fits g := ⟨by omega, fun s hs => by rw [hg128 s hs]; decide⟩
    have hSt := step_spec c' hc' s hs f hfitf
    have hSu := step_spec c' hc' s hs g hfitg
    have hok := step_ok hc' hs f
    have hok2 := step_ok hc' hs g
    have hss := step_same hc' hs hsm
    unfold stepV at hSt hSu
    generalize stepF c' s f = r at hSt hok hss
    generalize stepF c' s g = r' at hSu hok2 hss
    obtain ⟨c2, f2, k, n⟩ := r
    obtain ⟨c3, g2, k', n'⟩ := r'
    obtain ⟨e1, e2, e3, hsm2⟩ := hss
    dsimp only at e1 e2 e3 hsm2
    subst e1 e2 e3
    obtain ⟨k1, k2, k3, k4, k5, k6, k7⟩ := hok
    obtain ⟨u1, u2, u3, u4, u5, u6, u7⟩ := hok2
    dsimp only at k1 k2 k3 k4 k5 k6 k7 u5 u6 hSt hSu
    have hG2 := hasRegs c3.rs k1.len
    have hl2 := k1.len
    have hG1 := hasRegs c'.rs hc'.len
    have hl1 := hc'.len
    simp only [encCpu] at hSt hSu
    have hfit := fit_cpu k1
    have hveq := veq_cpu c3
    have hfit2 : Fit (EQ.st [EQ.int .i64, EQ.int .u32]) (.agg [.int .i64 k', .int .u32 n']) := by simp [Fit, FitL]
    have hveq2 : veq (.agg [.int .i64 k', .int .u32 n']) (.agg [.int .i64 k', .int .u32 n']) = true := by simp [veq, veqs]
    clear k7 u7 k2 u2
    repeat' (first|(with_reducible first|refine yrl (by constructor) ?_|refine jk (fun M hM=>?_)|(refine hM _ ?_;clear hM M)|refine xb3 (by decide) ?_|refine yqa (by assumption) ?_ ?_|refine yqb (by assumption) ?_ ?_)|((with_reducible refine je ?_)<;>(first|rfl|assumption|(simp only [znl,jO,nls_regs,nls_wr0,jP,nls_strsU];(first|done|fail))))|(with_reducible refine jf (by (simp only [↓reduceIte,zlk,Nat.reduceEqDiff,reduceCtorEq]);exact rfl) ?_)|((with_reducible first|refine jg (fun hc=>?_) (fun hc=>?_)|refine jh (fun hc=>?_) (fun hc=>?_))<;>(try simp (disch:=omega) only [zhb] at hc)<;>(try (exfalso;omega))<;>(try subst hc))|(with_reducible refine ji (by omega) ?_)|(simp (config := { maxSteps := 400000 }) only [↓jt,↓reduceIte,zvs,reduceCtorEq,Nat.reduceEqDiff,Nat.reduceAdd,Nat.reduceLeDiff,Nat.reduceMul,Int.reduceBNe,Int.reduceBEq,Int.reduceEq,Int.reduceNe,Int.reduceLT,Int.reduceLE,Int.reduceGT,Int.reduceGE,Int.reduceNeg,Int.reduceToNat,Nat.reduceLT,Nat.reduceSub,tab,hG1,hG2,hl1,hl2,hfit,hveq,hfit2,hveq2,hfn,hgn,k5,u5,Tryd.results9,List.toList_toArray])|(simp (disch:=omega) only [ziw]))
    all_goals (try (exfalso; omega))
    refine ok_drawS 8 [0, 1, 2, 3, 6, 7] [(4, 6, 0), (5, 6, 3)] [0, 3] [_, _] (by kernel_rfl) (by decide +kernel) (by decide) (by decide) (by decide) (olds_cons (by decide) (by (simp only [↓reduceIte,zlk,Nat.reduceEqDiff,reduceCtorEq]); exact rfl) (olds_cons (by decide) (by (simp only [↓reduceIte,zlk,Nat.reduceEqDiff,reduceCtorEq]); exact rfl) olds_nil)) (by intro m hm; simp only [upd_ap,rows_cons,rows_nil]; (repeat (first | rfl | rw [if_neg (by omega)]))) (fun M hM => ?_); simp only [picks,storesAt_nil,storesAt_cons,hides_nil,hides_cons,shows_nil,shows_cons,List.getElem?_cons_succ,List.getElem?_cons_zero,List.drop_succ_cons,List.drop_zero]
    repeat' (first|(with_reducible first|refine yrl (by constructor) ?_|refine jk (fun M hM=>?_)|(refine hM _ ?_;clear hM M)|refine xb3 (by decide) ?_|refine yqa (by assumption) ?_ ?_|refine yqb (by assumption) ?_ ?_)|((with_reducible refine je ?_)<;>(first|rfl|assumption|(simp only [znl,jO,nls_regs,nls_wr0,jP,nls_strsU];(first|done|fail))))|(with_reducible refine jf (by (simp only [↓reduceIte,zlk,Nat.reduceEqDiff,reduceCtorEq]);exact rfl) ?_)|((with_reducible first|refine jg (fun hc=>?_) (fun hc=>?_)|refine jh (fun hc=>?_) (fun hc=>?_))<;>(try simp (disch:=omega) only [zhb] at hc)<;>(try (exfalso;omega))<;>(try subst hc))|(with_reducible refine ji (by omega) ?_)|(simp (config := { maxSteps := 400000 }) only [↓jt,↓reduceIte,zvs,reduceCtorEq,Nat.reduceEqDiff,Nat.reduceAdd,Nat.reduceLeDiff,Nat.reduceMul,Int.reduceBNe,Int.reduceBEq,Int.reduceEq,Int.reduceNe,Int.reduceLT,Int.reduceLE,Int.reduceGT,Int.reduceGE,Int.reduceNeg,Int.reduceToNat,Nat.reduceLT,Nat.reduceSub,tab,storeAt_go,isP_ptr,hG1,hG2,hl1,hl2,Tryd.results9,List.toList_toArray])|(simp (disch:=omega) only [ziw]))
    all_goals first
      | (exfalso; omega)
      | (refine xl1 (i + 1, c3, f2, g2) ?_ ⟨by show i + 1 ≤ q; omega, k1, by show f2.length = fr.length; omega, by show g2.length = fr.length; omega, k6 hf128, u6 hg128, hsm2⟩ (by show q - (i + 1) < q - i; omega); (refine yrn [(0, 0), (1, 1), (2, 2), (3, 3)] false ?_ ?_<;>(repeat' (first|(with_reducible first|exact ya1|exact ya2|exact ya3|refine jx rfl (by first|rfl|assumption|(simp only [znl,jO,nls_regs,nls_wr0,jP,nls_strsU];(first|done|fail)))|exact ya5|exact ya7|exact jy|exact jz|refine jA ?_|refine ya9 ?_ ?_ ?_|refine jC rfl (by first|rfl|assumption|(simp only [znl,jO,nls_regs,nls_wr0,jP,nls_strsU];(first|done|fail)))|refine MR.agg (MRL.cons ?_ ?_)|refine MR.fn ?_|refine MRL.cons ?_ ?_|exact MRL.nil|refine jE ?_ ?_|exact jF|exact jG|refine yb1 ?_ ?_|refine MB.row ?_|refine jI ?_ ?_|exact ya8|refine jJ rfl (by first|rfl|assumption|(simp only [znl,jO,nls_regs,nls_wr0,jP,nls_strsU];(first|done|fail)))|refine yb2 ?_|rfl)|(simp only [znl,jO,nls_regs,nls_wr0,jP,nls_strsU];(first|done|fail))|(simp only [↓reduceIte,zlk,Nat.reduceEqDiff,reduceCtorEq])|(with_reducible first|refine jJ ?_ ?_|refine ya5 ?_|refine ju ?_|refine jv ?_|refine jw ?_|refine jx ?_ (by first|rfl|assumption|(simp only [znl,jO,nls_regs,nls_wr0,jP,nls_strsU];(first|done|fail)))|refine jC ?_ (by first|rfl|assumption|(simp only [znl,jO,nls_regs,nls_wr0,jP,nls_strsU];(first|done|fail))))))); all_goals (first | rfl | trace_state); done)
      | trace_state
  obtain rfl : i = q := by omega
  repeat' (first|(with_reducible first|refine yrl (by constructor) ?_|refine jk (fun M hM=>?_)|(refine hM _ ?_;clear hM M)|refine xb3 (by decide) ?_|refine yqa (by assumption) ?_ ?_|refine yqb (by assumption) ?_ ?_)|((with_reducible refine je ?_)<;>(first|rfl|assumption|(simp only [znl,jO,nls_regs,nls_wr0,jP,nls_strsU];(first|done|fail))))|(with_reducible refine jf (by (simp only [↓reduceIte,zlk,Nat.reduceEqDiff,reduceCtorEq]);exact rfl) ?_)|((with_reducible first|refine jg (fun hc=>?_) (fun hc=>?_)|refine jh (fun hc=>?_) (fun hc=>?_))<;>(try simp (disch:=omega) only [zhb] at hc)<;>(try (exfalso;omega))<;>(try subst hc))|(with_reducible refine ji (by omega) ?_)|(simp (config := { maxSteps := 400000 }) only [↓jt,↓reduceIte,zvs,reduceCtorEq,Nat.reduceEqDiff,Nat.reduceAdd,Nat.reduceLeDiff,Nat.reduceMul,Int.reduceBNe,Int.reduceBEq,Int.reduceEq,Int.reduceNe,Int.reduceLT,Int.reduceLE,Int.reduceGT,Int.reduceGE,Int.reduceNeg,Int.reduceToNat,Nat.reduceLT,Nat.reduceSub,tab,Tryd.results9,List.toList_toArray])|(simp (disch:=omega) only [ziw]))
  all_goals (try (exfalso; omega))
  have hsg := hsee f g hsm
  have hfl2 : f.length ≤ 20 := by omega
  refine ok_loop (fun j : Nat => ⟨slots [(2, encStrs f), (11, .map 0), (14, encStrs g), (99, .int .i64 f.length), (100, .int .i64 j)], rows [(0, .map (setM L))], 1⟩) (fun j => j ≤ f.length) (fun j => f.length - j) 0 ?_ (Nat.zero_le _) (fun j hj => ?_)
  · (refine yrn [(0, 2)] false ?_ ?_<;>(repeat' (first|(with_reducible first|exact ya1|exact ya2|exact ya3|refine jx rfl (by first|rfl|assumption|(simp only [znl,jO,nls_regs,nls_wr0,jP,nls_strsU];(first|done|fail)))|exact ya5|exact ya7|exact jy|exact jz|refine jA ?_|refine ya9 ?_ ?_ ?_|refine jC rfl (by first|rfl|assumption|(simp only [znl,jO,nls_regs,nls_wr0,jP,nls_strsU];(first|done|fail)))|refine MR.agg (MRL.cons ?_ ?_)|refine MR.fn ?_|refine MRL.cons ?_ ?_|exact MRL.nil|refine jE ?_ ?_|exact jF|exact jG|refine yb1 ?_ ?_|refine MB.row ?_|refine jI ?_ ?_|exact ya8|refine jJ rfl (by first|rfl|assumption|(simp only [znl,jO,nls_regs,nls_wr0,jP,nls_strsU];(first|done|fail)))|refine yb2 ?_|rfl)|(simp only [znl,jO,nls_regs,nls_wr0,jP,nls_strsU];(first|done|fail))|(simp only [↓reduceIte,zlk,Nat.reduceEqDiff,reduceCtorEq])|(with_reducible first|refine jJ ?_ ?_|refine ya5 ?_|refine ju ?_|refine jv ?_|refine jw ?_|refine jx ?_ (by first|rfl|assumption|(simp only [znl,jO,nls_regs,nls_wr0,jP,nls_strsU];(first|done|fail)))|refine jC ?_ (by first|rfl|assumption|(simp only [znl,jO,nls_regs,nls_wr0,jP,nls_strsU];(first|done|fail)))))))
    all_goals (first | rfl | trace_state)
  by_cases hltj : j < f.length
  · have hbs : ∀ a : List UInt8, (a != a) = false := fun a => bne_self_eq_false a
    by_cases hin : (j : Int) ∈ L
    · have hdin : decide ((j : Int) ∈ L) = true := decide_eq_true hin
      have heq := hsg j hin
      repeat' (first|(with_reducible first|refine yrl (by constructor) ?_|refine jk (fun M hM=>?_)|(refine hM _ ?_;clear hM M)|refine xb3 (by decide) ?_|refine yqa (by assumption) ?_ ?_|refine yqb (by assumption) ?_ ?_)|((with_reducible refine je ?_)<;>(first|rfl|assumption|(simp only [znl,jO,nls_regs,nls_wr0,jP,nls_strsU];(first|done|fail))))|(with_reducible refine jf (by (simp only [↓reduceIte,zlk,Nat.reduceEqDiff,reduceCtorEq]);exact rfl) ?_)|((with_reducible first|refine jg (fun hc=>?_) (fun hc=>?_)|refine jh (fun hc=>?_) (fun hc=>?_))<;>(try simp (disch:=omega) only [zhb] at hc)<;>(try (exfalso;omega))<;>(try subst hc))|(with_reducible refine ji (by omega) ?_)|(simp (config := { maxSteps := 400000 }) only [↓jt,↓reduceIte,zvs,reduceCtorEq,Nat.reduceEqDiff,Nat.reduceAdd,Nat.reduceLeDiff,Nat.reduceMul,Int.reduceBNe,Int.reduceBEq,Int.reduceEq,Int.reduceNe,Int.reduceLT,Int.reduceLE,Int.reduceGT,Int.reduceGE,Int.reduceNeg,Int.reduceToNat,Nat.reduceLT,Nat.reduceSub,tab,look_setM,keys_setM,hdin,heq,hbs,Tryd.results9,List.toList_toArray])|(simp (disch:=omega) only [ziw]))
      all_goals (try (exfalso; omega))
      refine ok_drawC 14 (by kernel_rfl) (by decide +kernel) (by intro m hm; simp only [upd_ap,rows_cons,rows_nil]; (repeat (first | rfl | rw [if_neg (by omega)]))) (fun M hM => ?_); simp only [List.take_succ_cons,List.take_zero,List.drop_succ_cons,List.drop_zero]
      repeat' (first|(with_reducible first|refine yrl (by constructor) ?_|refine jk (fun M hM=>?_)|(refine hM _ ?_;clear hM M)|refine xb3 (by decide) ?_|refine yqa (by assumption) ?_ ?_|refine yqb (by assumption) ?_ ?_)|((with_reducible refine je ?_)<;>(first|rfl|assumption|(simp only [znl,jO,nls_regs,nls_wr0,jP,nls_strsU];(first|done|fail))))|(with_reducible refine jf (by (simp only [↓reduceIte,zlk,Nat.reduceEqDiff,reduceCtorEq]);exact rfl) ?_)|((with_reducible first|refine jg (fun hc=>?_) (fun hc=>?_)|refine jh (fun hc=>?_) (fun hc=>?_))<;>(try simp (disch:=omega) only [zhb] at hc)<;>(try (exfalso;omega))<;>(try subst hc))|(with_reducible refine ji (by omega) ?_)|(simp (config := { maxSteps := 400000 }) only [↓jt,↓reduceIte,zvs,reduceCtorEq,Nat.reduceEqDiff,Nat.reduceAdd,Nat.reduceLeDiff,Nat.reduceMul,Int.reduceBNe,Int.reduceBEq,Int.reduceEq,Int.reduceNe,Int.reduceLT,Int.reduceLE,Int.reduceGT,Int.reduceGE,Int.reduceNeg,Int.reduceToNat,Nat.reduceLT,Nat.reduceSub,tab,look_setM,keys_setM,hdin,heq,hbs,Tryd.results9,List.toList_toArray])|(simp (disch:=omega) only [ziw]))
      all_goals first
        | (exfalso; omega)
        | (refine xl1 (j + 1) ?_ (by show j + 1 ≤ f.length; omega) (by show f.length - (j + 1) < f.length - j; omega); (refine yrn [(0, 0)] false ?_ ?_<;>(repeat' (first|(with_reducible first|exact ya1|exact ya2|exact ya3|refine jx rfl (by first|rfl|assumption|(simp only [znl,jO,nls_regs,nls_wr0,jP,nls_strsU];(first|done|fail)))|exact ya5|exact ya7|exact jy|exact jz|refine jA ?_|refine ya9 ?_ ?_ ?_|refine jC rfl (by first|rfl|assumption|(simp only [znl,jO,nls_regs,nls_wr0,jP,nls_strsU];(first|done|fail)))|refine MR.agg (MRL.cons ?_ ?_)|refine MR.fn ?_|refine MRL.cons ?_ ?_|exact MRL.nil|refine jE ?_ ?_|exact jF|exact jG|refine yb1 ?_ ?_|refine MB.row ?_|refine jI ?_ ?_|exact ya8|refine jJ rfl (by first|rfl|assumption|(simp only [znl,jO,nls_regs,nls_wr0,jP,nls_strsU];(first|done|fail)))|refine yb2 ?_|rfl)|(simp only [znl,jO,nls_regs,nls_wr0,jP,nls_strsU];(first|done|fail))|(simp only [↓reduceIte,zlk,Nat.reduceEqDiff,reduceCtorEq])|(with_reducible first|refine jJ ?_ ?_|refine ya5 ?_|refine ju ?_|refine jv ?_|refine jw ?_|refine jx ?_ (by first|rfl|assumption|(simp only [znl,jO,nls_regs,nls_wr0,jP,nls_strsU];(first|done|fail)))|refine jC ?_ (by first|rfl|assumption|(simp only [znl,jO,nls_regs,nls_wr0,jP,nls_strsU];(first|done|fail))))))); all_goals (first | rfl | trace_state); done)
        | trace_state
    · have hdin : decide ((j : Int) ∈ L) = false := decide_eq_false hin
      repeat' (first|(with_reducible first|refine yrl (by constructor) ?_|refine jk (fun M hM=>?_)|(refine hM _ ?_;clear hM M)|refine xb3 (by decide) ?_|refine yqa (by assumption) ?_ ?_|refine yqb (by assumption) ?_ ?_)|((with_reducible refine je ?_)<;>(first|rfl|assumption|(simp only [znl,jO,nls_regs,nls_wr0,jP,nls_strsU];(first|done|fail))))|(with_reducible refine jf (by (simp only [↓reduceIte,zlk,Nat.reduceEqDiff,reduceCtorEq]);exact rfl) ?_)|((with_reducible first|refine jg (fun hc=>?_) (fun hc=>?_)|refine jh (fun hc=>?_) (fun hc=>?_))<;>(try simp (disch:=omega) only [zhb] at hc)<;>(try (exfalso;omega))<;>(try subst hc))|(with_reducible refine ji (by omega) ?_)|(simp (config := { maxSteps := 400000 }) only [↓jt,↓reduceIte,zvs,reduceCtorEq,Nat.reduceEqDiff,Nat.reduceAdd,Nat.reduceLeDiff,Nat.reduceMul,Int.reduceBNe,Int.reduceBEq,Int.reduceEq,Int.reduceNe,Int.reduceLT,Int.reduceLE,Int.reduceGT,Int.reduceGE,Int.reduceNeg,Int.reduceToNat,Nat.reduceLT,Nat.reduceSub,tab,look_setM,keys_setM,hdin,Tryd.results9,List.toList_toArray])|(simp (disch:=omega) only [ziw]))
      all_goals (try (exfalso; omega))
      refine ok_drawC 14 (by kernel_rfl) (by decide +kernel) (by intro m hm; simp only [upd_ap,rows_cons,rows_nil]; (repeat (first | rfl | rw [if_neg (by omega)]))) (fun M hM => ?_); simp only [List.take_succ_cons,List.take_zero,List.drop_succ_cons,List.drop_zero]
      repeat' (first|(with_reducible first|refine yrl (by constructor) ?_|refine jk (fun M hM=>?_)|(refine hM _ ?_;clear hM M)|refine xb3 (by decide) ?_|refine yqa (by assumption) ?_ ?_|refine yqb (by assumption) ?_ ?_)|((with_reducible refine je ?_)<;>(first|rfl|assumption|(simp only [znl,jO,nls_regs,nls_wr0,jP,nls_strsU];(first|done|fail))))|(with_reducible refine jf (by (simp only [↓reduceIte,zlk,Nat.reduceEqDiff,reduceCtorEq]);exact rfl) ?_)|((with_reducible first|refine jg (fun hc=>?_) (fun hc=>?_)|refine jh (fun hc=>?_) (fun hc=>?_))<;>(try simp (disch:=omega) only [zhb] at hc)<;>(try (exfalso;omega))<;>(try subst hc))|(with_reducible refine ji (by omega) ?_)|(simp (config := { maxSteps := 400000 }) only [↓jt,↓reduceIte,zvs,reduceCtorEq,Nat.reduceEqDiff,Nat.reduceAdd,Nat.reduceLeDiff,Nat.reduceMul,Int.reduceBNe,Int.reduceBEq,Int.reduceEq,Int.reduceNe,Int.reduceLT,Int.reduceLE,Int.reduceGT,Int.reduceGE,Int.reduceNeg,Int.reduceToNat,Nat.reduceLT,Nat.reduceSub,tab,look_setM,keys_setM,hdin,Tryd.results9,List.toList_toArray])|(simp (disch:=omega) only [ziw]))
      all_goals first
        | (exfalso; omega)
        | (refine xl1 (j + 1) ?_ (by show j + 1 ≤ f.length; omega) (by show f.length - (j + 1) < f.length - j; omega); (refine yrn [(0, 0)] false ?_ ?_<;>(repeat' (first|(with_reducible first|exact ya1|exact ya2|exact ya3|refine jx rfl (by first|rfl|assumption|(simp only [znl,jO,nls_regs,nls_wr0,jP,nls_strsU];(first|done|fail)))|exact ya5|exact ya7|exact jy|exact jz|refine jA ?_|refine ya9 ?_ ?_ ?_|refine jC rfl (by first|rfl|assumption|(simp only [znl,jO,nls_regs,nls_wr0,jP,nls_strsU];(first|done|fail)))|refine MR.agg (MRL.cons ?_ ?_)|refine MR.fn ?_|refine MRL.cons ?_ ?_|exact MRL.nil|refine jE ?_ ?_|exact jF|exact jG|refine yb1 ?_ ?_|refine MB.row ?_|refine jI ?_ ?_|exact ya8|refine jJ rfl (by first|rfl|assumption|(simp only [znl,jO,nls_regs,nls_wr0,jP,nls_strsU];(first|done|fail)))|refine yb2 ?_|rfl)|(simp only [znl,jO,nls_regs,nls_wr0,jP,nls_strsU];(first|done|fail))|(simp only [↓reduceIte,zlk,Nat.reduceEqDiff,reduceCtorEq])|(with_reducible first|refine jJ ?_ ?_|refine ya5 ?_|refine ju ?_|refine jv ?_|refine jw ?_|refine jx ?_ (by first|rfl|assumption|(simp only [znl,jO,nls_regs,nls_wr0,jP,nls_strsU];(first|done|fail)))|refine jC ?_ (by first|rfl|assumption|(simp only [znl,jO,nls_regs,nls_wr0,jP,nls_strsU];(first|done|fail))))))); all_goals (first | rfl | trace_state); done)
        | trace_state
  · obtain rfl : j = f.length := by omega
    repeat' (first|(with_reducible first|refine yrl (by constructor) ?_|refine jk (fun M hM=>?_)|(refine hM _ ?_;clear hM M)|refine xb3 (by decide) ?_|refine yqa (by assumption) ?_ ?_|refine yqb (by assumption) ?_ ?_)|((with_reducible refine je ?_)<;>(first|rfl|assumption|(simp only [znl,jO,nls_regs,nls_wr0,jP,nls_strsU];(first|done|fail))))|(with_reducible refine jf (by (simp only [↓reduceIte,zlk,Nat.reduceEqDiff,reduceCtorEq]);exact rfl) ?_)|((with_reducible first|refine jg (fun hc=>?_) (fun hc=>?_)|refine jh (fun hc=>?_) (fun hc=>?_))<;>(try simp (disch:=omega) only [zhb] at hc)<;>(try (exfalso;omega))<;>(try subst hc))|(with_reducible refine ji (by omega) ?_)|(simp (config := { maxSteps := 400000 }) only [↓jt,↓reduceIte,zvs,reduceCtorEq,Nat.reduceEqDiff,Nat.reduceAdd,Nat.reduceLeDiff,Nat.reduceMul,Int.reduceBNe,Int.reduceBEq,Int.reduceEq,Int.reduceNe,Int.reduceLT,Int.reduceLE,Int.reduceGT,Int.reduceGE,Int.reduceNeg,Int.reduceToNat,Nat.reduceLT,Nat.reduceSub,tab,Tryd.results9,List.toList_toArray])|(simp (disch:=omega) only [ziw]))
    all_goals first
      | (exfalso; omega)
      | (simp only [zrds]; done)
      | trace_state
end Go.Proofs.YtabfjhpakgdopaaDoor.V
end
section
/-
  TABLES out of the condition that start-up code laid them.
-/
set_option linter.unusedVariables false
namespace Go.Proofs.YtabfjhpakgdopaaDoor.V
open Go
set_option maxRecDepth 100000
variable {H : Type} {enc : TypeId × Value → H} {P : Program} {w : World} {base : Nat} {spare : Nat → Bool} {held : Bool}
theorem take1 {cs : List Value} {i : Nat} {v : Value} (h : (cs.drop (i * 1)).take 1 = [v]) : cs[i]? = some v := by
  rw [Nat.mul_one] at h
  have h2 : ((cs.drop i).take 1)[0]? = some v := by rw [h]; rfl
  rw [List.getElem?_take] at h2
  simpa [List.getElem?_drop] using h2
theorem trod_texts {n fuel : Nat} {t e : TypeId} {cs : List Value} {x : DataW H × List MemPlace} (ht : P.underlying t = some (.array n e)) (he : P.underlying e = some .string) (hc : P.cellsOf e = 1) {L : List (List UInt8)} (hL : L.length = n)
    (h : DataW.trod enc P w base spare held fuel t cs = some x) (hx : x.1 = .agg (L.map fun s => .lit (.string s))) : ∀ i, i < n → cs[i]? = some (.string ⟨(L.getD i []).toArray⟩) := fun i hi => by
  obtain ⟨xs, m, _, hxs, _, hlen, hel⟩ := DataW.trod_array ht h
  rw [hxs] at hx
  simp only [DataW.agg.injEq] at hx
  have h1 := hel i hi
  rw [hc, List.getElem?_eq_getElem (by omega)] at h1
  obtain ⟨s, e1, e2, _⟩ := DataW.trod_string he h1
  have h3 := take1 e1
  have h4 : (xs.map (·.1))[i]? = (L.map fun s => (DataW.lit (.string s) : DataW H))[i]? := by rw [hx]
  rw [List.getElem?_map, List.getElem?_map, List.getElem?_eq_getElem (by omega), List.getElem?_eq_getElem (by omega)] at h4
  simp only [Option.map_some,Option.some.injEq] at h4
  rw [e2] at h4
  simp only [DataW.lit.injEq,Lit.string.injEq] at h4
  rw [h3, List.getD_eq_getElem?_getD, List.getElem?_eq_getElem (by omega)]
  simp only [Option.getD_some,← h4]
theorem trod_nums {k : IntKind} {n fuel : Nat} {t e : TypeId} {cs : List Value} {x : DataW H × List MemPlace} (ht : P.underlying t = some (.array n e)) (he : P.underlying e = some (.int k)) (hc : P.cellsOf e = 1) {L : List Int} (hL : L.length = n)
    (h : DataW.trod enc P w base spare held fuel t cs = some x) (hx : x.1 = .agg (L.map fun s => .lit (.int k s))) : ∀ i, i < n → cs[i]? = some (.int k (L.getD i 0)) := fun i hi => by
  obtain ⟨xs, m, _, hxs, _, hlen, hel⟩ := DataW.trod_array ht h
  rw [hxs] at hx
  simp only [DataW.agg.injEq] at hx
  have h1 := hel i hi
  rw [hc, List.getElem?_eq_getElem (by omega)] at h1
  obtain ⟨s, e1, e2, _⟩ := DataW.trod_int he h1
  have h3 := take1 e1
  have h4 : (xs.map (·.1))[i]? = (L.map fun s => (DataW.lit (.int k s) : DataW H))[i]? := by rw [hx]
  rw [List.getElem?_map, List.getElem?_map, List.getElem?_eq_getElem (by omega), List.getElem?_eq_getElem (by omega)] at h4
  simp only [Option.map_some,Option.some.injEq] at h4
  rw [e2] at h4
  simp only [DataW.lit.injEq,Lit.int.injEq,true_and] at h4
  rw [h3, List.getD_eq_getElem?_getD, List.getElem?_eq_getElem (by omega)]
  simp only [Option.getD_some,← h4]
theorem c1_texts (ρ : Names) (w : World) : ∀ L : List (List UInt8), CR ρ w (L.map .str) (L.map fun s => Value.string ⟨s.toArray⟩)
  | [] => by simp only [List.map_nil,CR]
  | s :: L => by
    simp only [List.map_cons,CR,C1]
    exact ⟨_, _, rfl, rfl, c1_texts ρ w L⟩
theorem c1_nums (ρ : Names) (w : World) (k : IntKind) : ∀ L : List Int, CR ρ w (L.map (.int k)) (L.map fun s => Value.int k s)
  | [] => by simp only [List.map_nil,CR]
  | s :: L => by
    simp only [List.map_cons,CR,C1]
    exact ⟨_, _, rfl, rfl, c1_nums ρ w k L⟩
theorem there_size {w : World} {g : Nat} {v : Value} (h : w.cell? ⟨g, 0, none⟩ = some v) : g < w.heap.size := by
  rcases Nat.lt_or_ge g w.heap.size with h1 | h1
  · exact h1
  · unfold World.cell? at h
    rw [Array.getElem?_eq_none h1] at h
    cases h
theorem tab_texts {w : World} {g : Nat} {L : List (List UInt8)} (h0 : 0 < L.length) (h : ∀ i, i < L.length → w.cell? ⟨g, i, none⟩ = some (.string ⟨(L.getD i []).toArray⟩)) :
    g < w.heap.size ∧ ∃ cs, (∀ ρ w, C1 ρ w (.agg (L.map .str)) cs) ∧ Has (.arr L.length .cell) (.agg (L.map .str)) ∧ w.rangeAt g 0 cs := by
  refine ⟨there_size (h 0 h0), L.map fun s => Value.string ⟨s.toArray⟩, fun ρ w => by simp only [C1]; exact c1_texts ρ w L, has_arrMap rfl (fun x => by simp [Has, VV.leaf]), fun j v hv => ?_⟩
  rw [List.getElem?_map] at hv
  obtain ⟨s, hs, rfl⟩ := Option.map_eq_some_iff.1 hv
  have hj := (List.getElem?_eq_some_iff.1 hs).1
  rw [Nat.zero_add, h j hj, List.getD_eq_getElem?_getD, hs]; rfl
theorem tab_nums {w : World} {g : Nat} {k : IntKind} {L : List Int} (h0 : 0 < L.length) (h : ∀ i, i < L.length → w.cell? ⟨g, i, none⟩ = some (.int k (L.getD i 0))) :
    g < w.heap.size ∧ ∃ cs, (∀ ρ w, C1 ρ w (.agg (L.map (.int k))) cs) ∧ Has (.arr L.length .cell) (.agg (L.map (.int k))) ∧ w.rangeAt g 0 cs := by
  refine ⟨there_size (h 0 h0), L.map fun s => Value.int k s, fun ρ w => by simp only [C1]; exact c1_nums ρ w k L, has_arrMap rfl (fun x => by simp [Has, VV.leaf]), fun j v hv => ?_⟩
  rw [List.getElem?_map] at hv
  obtain ⟨s, hs, rfl⟩ := Option.map_eq_some_iff.1 hv
  have hj := (List.getElem?_eq_some_iff.1 hs).1
  rw [Nat.zero_add, h j hj, List.getD_eq_getElem?_getD, hs]; rfl
end Go.Proofs.YtabfjhpakgdopaaDoor.V
end
section
/-
  THE TABLES of isa and cpu, as start-up code laid them.
-/
set_option linter.unusedVariables false
namespace Go.Proofs.YtabfjhpakgdopaaDoor.V
open Go
set_option maxRecDepth 100000
theorem gNames : Tryd.prog.globalNamed "hibernacle/isa.names" = some 1 := by kernel_rfl
theorem gNums : Tryd.prog.globalNamed "hibernacle/cpu.withNumber" = some 0 := by kernel_rfl
theorem tNames : (Tryd.prog.globals[1]?).map (·.type) = some 108 := by kernel_rfl
theorem tNums : (Tryd.prog.globals[0]?).map (·.type) = some 81 := by kernel_rfl
theorem base_top {W : World} (h : laidMetH Tryd.prog [("hibernacle/isa.names", Rows.laid_hibernacle_isa_names), ("hibernacle/cpu.withNumber", Rows.laid_hibernacle_cpu_withNumber)] W) : Base W.heap.size (.bare fun _ => True) W := by
  rw [MakeChecks.laidMetH_plain _ _ _ (by kernel_rfl)] at h
  obtain ⟨ps, ⟨g0, t0, cs0, f0, p0, q0, hg0, ht0, hv0, hd0, ⟨g1, t1, cs1, f1, p1, q1, hg1, ht1, hv1, hd1, _, _⟩, _⟩, _, _⟩ := h
  obtain rfl := Option.some.inj (gNames.symm.trans hg0)
  obtain rfl := Option.some.inj (gNums.symm.trans hg1)
  obtain rfl := Option.some.inj (tNames.symm.trans ht0)
  obtain rfl := Option.some.inj (tNums.symm.trans ht1)
  have h1 := trod_texts (L := nameL) (show Tryd.prog.underlying 108 = some (.array 32 9) from Tryd.underlying108) (show Tryd.prog.underlying 9 = some .string from Tryd.underlying9) (by kernel_rfl) rfl hd0 rfl
  have h2 := trod_nums (L := numL) (show Tryd.prog.underlying 81 = some (.array 5 5) from Tryd.underlying81) (show Tryd.prog.underlying 5 = some (.int .u8) from Tryd.underlying5) (by kernel_rfl) rfl hd1 rfl
  have k1 := tab_texts (w := W) (g := 1) (L := nameL) (by decide) fun i hi => by
    rw [World.var?_cell hg0 hv0 i, ← Array.getElem?_toList]
    exact h1 i hi
  have k2 := tab_nums (w := W) (g := 0) (k := .u8) (L := numL) (by decide) fun i hi => by
    rw [World.var?_cell hg1 hv1 i, ← Array.getElem?_toList]
    exact h2 i hi
  refine ⟨Nat.le_refl _, fun g s v hg => ?_⟩
  unfold tabs at hg
  simp only [List.mem_cons,Prod.mk.injEq,List.not_mem_nil,or_false] at hg
  rcases hg with ⟨rfl, rfl, rfl⟩ | ⟨rfl, rfl, rfl⟩
  · exact ⟨k2.1, trivial, k2.2⟩
  · exact ⟨k1.1, trivial, k1.2⟩
end Go.Proofs.YtabfjhpakgdopaaDoor.V
end
