/-
  Parts of the proof of WalRecovers: VopE, VopF, VopG, VopH, VopI, VopJ, VopK, VopL.
  Conditions: none.
-/
import Derived.Test.YtcilmfhncjfdbaaDoorWWalRecovers01
import Derived.Deep.AppendSrc
import Derived.Deep.Upon
import Derived.Laws.StructEq
import Derived.ChangeKeysEq
import Derived.MapKept
section
/-
  A MACHINE OF VALUES, SEVENTH PART: zero values, new variables, literals, new slices.
-/
set_option linter.unusedVariables false
set_option linter.unusedSectionVars false
set_option linter.unusedSimpArgs false
namespace Go.Proofs.YtcilmfhncjfdbaaDoor.V
open Go Go.RowKit

/-! ### zero values -/
mutual
def flatz : VV → Option (List Value)
  | .int k n => some [.int k n]
  | .bool b => some [.bool b]
  | .str s => some [.string ⟨s.toArray⟩]
  | .sl none 0 => some [.slice none 0 0]
  | .raw v => if v.oneCell' then some [v] else none
  | .agg vs => flatzs vs
  | _ => none
def flatzs : List VV → Option (List Value)
  | [] => some []
  | v :: vs => match flatz v, flatzs vs with
    | some a, some b => some (a ++ b)
    | _, _ => none
end
mutual
theorem flatz_sound (ρ : Names) (w : World) : ∀ (v : VV) (cs : List Value), flatz v = some cs → C1 ρ w v cs
  | .int k n, cs, h => by simp only [flatz,Option.some.injEq] at h; simp only [C1]; exact h.symm
  | .bool b, cs, h => by simp only [flatz,Option.some.injEq] at h; simp only [C1]; exact h.symm
  | .str s, cs, h => by simp only [flatz,Option.some.injEq] at h; simp only [C1]; exact h.symm
  | .sl none 0, cs, h => by simp only [flatz,Option.some.injEq] at h; simp only [C1,true_and]; exact h.symm
  | .raw v, cs, h => by
    simp only [flatz] at h
    split at h
    · injection h with h; simp only [C1]; exact h.symm
    · cases h
  | .agg vs, cs, h => by simp only [flatz] at h; simp only [C1]; exact flatzs_sound ρ w vs cs h
  | .sl (some _) _, _, h => by simp [flatz] at h
  | .sl none (_ + 1), _, h => by simp [flatz] at h
  | .tup _, _, h | .ptr _ _, _, h | .fn _ _, _, h | .map _, _, h | .dat _ _, _, h | .pd _ _, _, h | .vec _ _, _, h | .any, _, h => by simp [flatz] at h
theorem flatzs_sound (ρ : Names) (w : World) : ∀ (vs : List VV) (cs : List Value), flatzs vs = some cs → CR ρ w vs cs
  | [], cs, h => by simp only [flatzs,Option.some.injEq] at h; simp only [CR]; exact h.symm
  | v :: vs, cs, h => by
    simp only [flatzs] at h
    split at h
    · rename_i a b ha hb
      injection h with h
      simp only [CR]
      exact ⟨a, b, h.symm, flatz_sound ρ w v a ha, flatzs_sound ρ w vs b hb⟩
    · cases h
end
mutual
def hasB : Sh → VV → Bool
  | .cell, v => v.leaf
  | .st ls, .agg vs => hasLB ls vs
  | .arr n s, .agg vs => vs.length == n && vs.all (hasB s)
  | _, _ => false
def hasLB : List Sh → List VV → Bool
  | [], vs => vs.isEmpty
  | s :: ls, v :: vs => hasB s v && hasLB ls vs
  | _ :: _, [] => false
end
mutual
theorem hasB_sound : ∀ (s : Sh) (v : VV), hasB s v = true → Has s v
  | .cell, v, h => by simp only [hasB] at h; simp only [Has]; exact h
  | .st ls, v, h => by
    cases v <;> simp only [hasB] at h <;> first | exact (Bool.false_ne_true h).elim | skip
    simp only [Has]
    exact hasLB_sound ls _ h
  | .arr n s, v, h => by
    cases v <;> simp only [hasB] at h <;> first | exact (Bool.false_ne_true h).elim | skip
    simp only [Bool.and_eq_true,beq_iff_eq,List.all_eq_true] at h
    simp only [Has]
    exact ⟨h.1, fun v hv => hasB_sound s v (h.2 v hv)⟩
theorem hasLB_sound : ∀ (ls : List Sh) (vs : List VV), hasLB ls vs = true → HasL ls vs
  | [], vs, h => by simp only [hasLB,List.isEmpty_iff] at h; simp only [HasL]; exact h
  | s :: ls, v :: vs, h => by
    simp only [hasLB,Bool.and_eq_true] at h
    simp only [HasL]
    exact ⟨hasB_sound s v h.1, hasLB_sound ls vs h.2⟩
  | _ :: _, [], h => by simp [hasLB] at h
end
def beqCell : Value → Value → Bool
  | .int k a, .int k' b => k == k' && a == b
  | .bool a, .bool b => a == b
  | .string a, .string b => a.data.toList == b.data.toList
  | .slice none 0 0, .slice none 0 0 => true
  | .pointer none, .pointer none => true
  | .map none, .map none => true
  | .nilFunc, .nilFunc => true
  | .nilIface, .nilIface => true
  | _, _ => false
theorem beqCell_sound {a b : Value} (h : beqCell a b = true) : a = b := by
  unfold beqCell at h
  split at h <;> try rfl
  · simp only [Bool.and_eq_true,beq_iff_eq] at h; rw [h.1, h.2]
  · simp only [beq_iff_eq] at h; rw [h]
  · rename_i x y
    simp only [beq_iff_eq] at h
    obtain ⟨x⟩ := x
    obtain ⟨y⟩ := y
    have : x = y := Array.ext' h
    rw [this]
  · cases h
def beqCells : List Value → List Value → Bool
  | [], [] => true
  | a :: l, b :: m => beqCell a b && beqCells l m
  | _, _ => false
theorem beqCells_sound : ∀ (a b : List Value), beqCells a b = true → a = b
  | [], [], _ => rfl
  | a :: l, b :: m, h => by
    simp only [beqCells,Bool.and_eq_true] at h
    rw [beqCell_sound h.1, beqCells_sound l m h.2]
  | [], _ :: _, h => by simp [beqCells] at h
  | _ :: _, [], h => by simp [beqCells] at h
def zeroOf (P : Program) : Nat → TypeId → Option VV
  | 0, _ => none
  | n + 1, t => match P.underlying t with
    | some (.int k) => some (.int k 0)
    | some .bool => some (.bool false)
    | some .string => some (.str [])
    | some (.slice _) => some (.sl none 0)
    | some (.pointer _) => some (.raw (.pointer none))
    | some (.map _ _) => some (.raw (.map none))
    | some (.func _ _ _) => some (.raw .nilFunc)
    | some (.interface _) => some (.raw .nilIface)
    | some (.struct fs) => match fs.toList.foldr (fun f acc => match acc, zeroOf P n f.type with
          | some l, some s => some (s :: l)
          | _, _ => none) (some []) with
      | some l => some (.agg l)
      | none => none
    | some (.array k e) => match zeroOf P n e with
      | some z => some (.agg (List.replicate k z))
      | none => none
    | _ => none
def isAggV : Value → Bool
  | .agg _ => true
  | _ => false
def VV.isAgg : VV → Bool
  | .agg _ => true
  | _ => false
def ZE (P : Program) (t : TypeId) : Option VV := match SH P t, zeroOf P 10 t, (P.info? t).bind (·.zero) with
  | some s, some z, some zv => match flatz z with
    | some cs => if hasB s z && beqCells cs zv.cells.toList && (z.isAgg == isAggV zv) && (zv.cells.size == s.size) then some z else none
    | none => none
  | _, _, _ => none
theorem ZE_spec {P : Program} {t : TypeId} {z : VV} (h : ZE P t = some z) :
    ∃ s zv i, SH P t = some s ∧ P.info? t = some i ∧ i.zero = some zv ∧ Has s z ∧ zv.cells.size = s.size ∧ ∀ ρ w, VR ρ w z zv ∧ C1 ρ w z zv.cells.toList := by
  unfold ZE at h
  split at h
  · rename_i s z' zv hs hz hi
    split at h
    · rename_i cs hf
      split at h
      · rename_i hc
        injection h with h
        subst h
        simp only [Bool.and_eq_true,beq_iff_eq] at hc
        obtain ⟨⟨⟨h1, h2⟩, h3⟩, h4⟩ := hc
        obtain ⟨i, hi1, hi2⟩ := Option.bind_eq_some_iff.1 hi
        have he := beqCells_sound _ _ h2
        have hH := hasB_sound s z' h1
        refine ⟨s, zv, i, hs, hi1, hi2, hH, h4, fun ρ w => ?_⟩
        have hC := flatz_sound ρ w z' cs hf
        rw [he] at hC
        refine ⟨?_, hC⟩
        cases z' with
        | agg vs =>
          cases zv <;> simp [isAggV, VV.isAgg] at h3
          simp only [C1] at hC
          exact ⟨_, rfl, hC⟩
        | _ =>
          have hl : ∀ zv : Value, isAggV zv = false → zv.cells = #[zv] := fun zv hz => by cases zv <;> first | rfl | simp [isAggV] at hz
          rw [hl zv (by simpa [VV.isAgg] using h3.symm)] at hC
          first | exact hC | (simp [flatz] at hf)
      · cases h
    · cases h
  · cases h

section
variable (P : Program) (e : Operand → VV) (H : Heap) (n : Nat) (K : VV → Heap → Nat → Prop)
def vAlloc (t : TypeId) : Prop := bnd (SH P t) fun s => bnd (ZE P t) fun z => K (.ptr n []) (upd H n (some (.row s z))) (n + 1)
def setParts : List (Nat × Operand) → List VV → List VV
  | [], zs => zs
  | (i, x) :: ps, zs => setParts ps (zs.set i (e x))
def HasParts (f : Nat → Option Sh) : List (Nat × Operand) → Prop
  | [] => True
  | (i, x) :: ps => (match f i with | some s => Has s (e x) | none => False) ∧ HasParts f ps
def vBuild (t : TypeId) (parts : List (Nat × Operand)) : Prop := bnd (SH P t) fun s => bnd (ZE P t) fun z => match s, z with
  | .st ls, .agg zs => cnd (HasParts e (fun i => ls[i]?) parts) (K (.agg (setParts e parts zs)) H n)
  | .arr k s, .agg zs => cnd (HasParts e (fun i => if i < k then some s else none) parts) (K (.agg (setParts e parts zs)) H n)
  | _, _ => False
def vBuildSlice (t : TypeId) (len : Nat) (parts : List (Nat × Operand)) : Prop := bnd (EL P t) fun et => bnd (SH P et) fun s => bnd (ZE P et) fun z =>
  cnd (HasParts e (fun i => if i < len then some s else none) parts ∧ len * s.size ≤ 16777216 ∧ s.size ≠ 0)
    (K (.sl (some (n, [], 0)) len) (upd H n (some (.row (.arr len s) (.agg (setParts e parts (List.replicate len z)))))) (n + 1))
def vBuildSliceD (t : TypeId) (len : Nat) (parts : List (Nat × Operand)) : Prop := bnd (EL P t) fun et => bnd (SH P et) fun s => bnd (ZE P et) fun z =>
  cnd (HasParts e (fun i => if i < len then some s else none) parts ∧ len * s.size ≤ 16777216 ∧ s.size ≠ 0)
    (K (.dat s (setParts e parts (List.replicate len z))) H n)
def bldH (A B : Prop) : Prop := A ∨ B
@[congr] theorem bldH_congr {A B : Prop} : bldH A B = bldH A B := rfl
theorem bldH_r {A B : Prop} (h : B) : bldH A B := .inr h
def BY (t : TypeId) : Nat := ((P.info? t).map (·.bytes)).getD 0
def vMakeSlice (t : TypeId) (l c : Operand) : Prop := onV (e l) fun u => onV (e c) fun v => match u, v with
  | .int _ i, .int _ j => bnd (EL P t) fun et => bnd (SH P et) fun s => bnd (ZE P et) fun z =>
    cnd (0 ≤ i ∧ i ≤ j ∧ j ≤ 1000000000000 ∧ BY P et ≤ 200) (K (.sl (some (n, [], 0)) i.toNat) (upd H n (some (.row (.arr i.toNat s) (.agg (List.replicate i.toNat z))))) (n + 1))
  | _, _ => False
end

section
variable {P : Program} {Z : Nat → Nat → Prop} [Zone Z] {B : Nat} {ρ : Names} {w : World} {H : Heap} {n : Nat} {tm : Nat → VV} {a : Act} {K : VV → Heap → Nat → Prop} {o : Oper}
theorem alloc_sound (hh : HR Z B ρ H n w) (hG : Gives Z n K) (t : TypeId) (ho : o.op = .alloc t) (h : vAlloc P H n K t) : Runs P Z B K ρ w (execOp a.eval o) := by
  unfold vAlloc at h
  replace h := bnd_iff.1 h
  obtain ⟨s, hs, h⟩ := h
  replace h := bnd_iff.1 h
  obtain ⟨z, hz, h⟩ := h
  obtain ⟨s', zv, i, hs', hi, hzv, hH, hsz, hV⟩ := ZE_spec hz
  rw [hs] at hs'
  injection hs' with hs'
  subst hs'
  obtain ⟨l, e1, e2, e3, e4, h1, h2, h3⟩ := new_block hh (hG.one h) (t := t) (cells := zv.cells) (tail := []) hH (hV ρ w).2 (by simp)
  refine .inl ⟨.pointer (some ⟨w.heap.size, 0, none⟩), _, ?_, _, _, _, _, h, ?_, h1, h2, h3⟩
  · simp [execOp, ho, Instr.alloc, newVar, newRow, zeroValue, typeInfo, hi, hzv]
  · simp only [VR,VR1,C1]
    exact ⟨l, by rw [give_ap, if_pos rfl], by rw [e1, e2]; simp [Sh.off]⟩
theorem fill_list (off : Nat) : ∀ (cs : List Value) (k : Nat) (a : Array Value) (pre mid post : List Value), a.toList = pre ++ mid ++ post → mid.length = cs.length → pre.length = off + k →
    ((cs.zipIdx k).foldl (fun a (x : Value × Nat) => a.setIfInBounds (off + x.2) x.1) a).toList = pre ++ cs ++ post
  | [], k, a, pre, mid, post, h, hm, hp => by
    have : mid = [] := List.eq_nil_of_length_eq_zero (by simpa using hm)
    subst this
    simpa using h
  | c :: cs, k, a, pre, mid, post, h, hm, hp => by
    cases mid with
    | nil => simp at hm
    | cons m mid =>
      rw [List.zipIdx_cons, List.foldl_cons]
      have := fill_list off cs (k + 1) (a.setIfInBounds (off + k) c) (pre ++ [c]) mid post (by
        rw [Array.toList_setIfInBounds, h, ← hp]
        simp) (by simpa using hm) (by simp; omega)
      rw [this]
      simp
theorem fill_parts (hT : TM ρ w tm a) (place : Nat → Option (Nat × Nat)) (f : Nat → Option Sh) (sz : Sh) (hsz : sz ≠ .cell)
    (hat : ∀ i s, f i = some s → sz.at [i] = some s ∧ place i = some (sz.off [i], s.size)) (hlen : ∀ vs, Has sz (.agg vs) → ∀ i s, f i = some s → i < vs.length) :
    ∀ (ps : List (Nat × Operand)) (vs : List VV) (cells : Array Value), Has sz (.agg vs) → CR ρ w vs cells.toList → HasParts (ev tm) f ps →
      ∃ cells', Instr.fill place cells (ps.map fun x => (x.1, a.eval x.2)) = some cells' ∧ Has sz (.agg (setParts (ev tm) ps vs)) ∧ CR ρ w (setParts (ev tm) ps vs) cells'.toList
  | [], vs, cells, hs, hc, hp => ⟨cells, rfl, hs, hc⟩
  | (i, x) :: ps, vs, cells, hs, hc, hp => by
    obtain ⟨h1, h2⟩ := hp
    split at h1
    · rename_i s hf
      obtain ⟨g1, g2⟩ := hat i s hf
      have hi := hlen vs hs i s hf
      obtain ⟨su, pre, mid, post, k1, k2, k3, k4, k5, k6, k7⟩ := focus [i] sz (.agg vs) vs[i] cells.toList hs (by simp [VV.get, hi]) (by simp only [C1]; exact hc)
      rw [g1] at k1
      injection k1 with k1
      subst k1
      have hv := val_cells h1 (ev_sound hT x)
      have hvl := Has.len _ _ _ h1 hv
      have hml := Has.len _ _ _ k2 k5
      rw [Array.length_toList] at hvl
      have hset : (VV.agg vs).set [i] (ev tm x) = .agg (vs.set i (ev tm x)) := by simp [VV.set, hi]
      have hcl : cells.size = pre.length + mid.length + post.length := by
        have := congrArg List.length k3
        simp only [Array.length_toList,List.length_append] at this
        exact this
      have hfill := fill_list (sz.off [i]) (a.eval x).cells.toList 0 cells pre mid post k3 (by rw [hml, Array.length_toList, hvl]) (by omega)
      have hC := k7 ρ w (ev tm x) _ (Ext.refl _ _) hv
      rw [hset] at hC
      simp only [C1] at hC
      have hH := k6 _ h1
      rw [hset] at hH
      obtain ⟨cells', f1, f2, f3⟩ := fill_parts hT place f sz hsz hat hlen ps (vs.set i (ev tm x)) _ hH (by rw [← hfill] at hC; exact hC) h2
      refine ⟨cells', ?_, f2, f3⟩
      rw [← f1, List.map_cons, Instr.fill, g2]
      show (if (decide ((a.eval x).cells.size ≠ s.size) || decide (sz.off [i] + (a.eval x).cells.size > cells.size)) = true then none else _) = _
      rw [if_neg (by simp only [Bool.or_eq_true,decide_eq_true_eq,ne_eq]; omega)]
      congr 1
      rw [← Array.foldl_toList]
      simp
    · exact h1.elim
theorem map_parts (parts : Array (Nat × Operand)) : (parts.map fun (x : Nat × Operand) => (x.1, a.eval x.2)).toList = parts.toList.map fun x => (x.1, a.eval x.2) := by simp
theorem places_some (g : Field → Nat) : ∀ (l : List Field), (∀ f ∈ l, ∃ i, P.info? f.type = some i ∧ i.size = g f) → l.mapM (fun f => (P.info? f.type).map fun i => (f.offset, i.size)) = some (l.map fun f => (f.offset, g f))
  | [], _ => rfl
  | f :: l, h => by
    obtain ⟨i, h1, h2⟩ := h f (by simp)
    have := places_some g l (fun f hf => h f (by simp [hf]))
    simp [List.mapM_cons, h1, h2, this]
theorem mapM_places (fs : Array Field) (g : Field → Nat) (h : ∀ f ∈ fs.toList, ∃ i, P.info? f.type = some i ∧ i.size = g f) :
    (fs.mapM fun f => (do pure (f.offset, ← sizeOf f.type) : Sem (Nat × Nat))).run P w = .ok (fs.map fun f => (f.offset, g f)) w := by
  have := run_places w fs.toList _ (places_some (P := P) g fs.toList h)
  rw [Array.mapM_eq_mapM_toList]
  simp [this]
  apply Array.ext'
  simp
theorem build_sound (hT : TM ρ w tm a) (hh : HR Z B ρ H n w) (t : TypeId) (parts : Array (Nat × Operand)) (ho : o.op = .build t parts) (h : vBuild P (ev tm) H n K t parts.toList) : Runs P Z B K ρ w (execOp a.eval o) := by
  unfold vBuild at h
  replace h := bnd_iff.1 h
  obtain ⟨s, hs, h⟩ := h
  replace h := bnd_iff.1 h
  obtain ⟨z, hz, h⟩ := h
  obtain ⟨s', zv, i, hs', hi, hzv, hH, hsz, hV⟩ := ZE_spec hz
  rw [hs] at hs'
  injection hs' with hs'
  subst hs'
  obtain ⟨i', d, hi', hu, hisz, hrow⟩ := shOf_spec hs
  rw [hi] at hi'
  injection hi' with hi'
  subst hi'
  split at h
  · rename_i ls zs
    obtain ⟨hp, h⟩ := h
    obtain ⟨fs, g1, g2, g3⟩ := SH_struct hs
    obtain ⟨cs, rfl, hcr⟩ := (hV ρ w).1.agg
    have hplaces := mapM_places (P := P) (w := w) fs (fun f => ((P.info? f.type).map (·.size)).getD 0) (fun f hf => by
      obtain ⟨k, hk, rfl⟩ := List.getElem_of_mem hf
      obtain ⟨f', h1, h2, h3⟩ := g3 k ls[k] (by simp at hk; simp [← g2, hk])
      obtain ⟨inf, _, h4, _⟩ := shOf_spec h3
      simp at hk
      have : f' = fs.toList[k] := by simpa [hk] using h1.symm
      subst this
      exact ⟨inf, h4, by rw [h4]; rfl⟩)
    obtain ⟨cells', f1, f2, f3⟩ := fill_parts hT (fun i => (fs.map fun f => (f.offset, ((P.info? f.type).map (·.size)).getD 0))[i]?) (fun i => ls[i]?) (.st ls) (by simp) (fun i s hi => by
      obtain ⟨f', h1, h2, h3⟩ := g3 i s hi
      obtain ⟨inf, _, h4, _, h5, _⟩ := shOf_spec h3
      exact ⟨by simp [Sh.at, hi], by simp [h1, h4, h2, h5, Sh.off, hi]⟩) (fun vs hvs i s hi => by
      simp only [Has] at hvs
      have : ∀ (ls : List Sh) (vs : List VV), HasL ls vs → ls.length = vs.length := fun ls => by
        induction ls with
        | nil => intro vs hv; simp only [HasL] at hv; simp [hv]
        | cons s ls ih =>
          intro vs hv
          cases vs with
          | nil => simp [HasL] at hv
          | cons v vs => simp only [HasL] at hv; simp [ih vs hv.2]
      have := this ls vs hvs
      have := (List.getElem?_eq_some_iff.1 hi).1
      omega) parts.toList zs cs hH hcr hp
    refine runs_value (x := .agg cells') ?_ h ⟨_, rfl, f3⟩ hh
    rw [← map_parts parts] at f1
    simp only [execOp,ho,Instr.build,zeroValue,typeInfo,Sem.run_bind,Sem.run_pure,Result.andThen_ok,run_program,hi,hzv,run_underlying g1 w,hplaces,Value.cells]
    rw [f1]
    rfl
  · rename_i k s zs
    obtain ⟨hp, h⟩ := h
    obtain ⟨e, g1, g2⟩ := SH_array hs
    obtain ⟨inf, _, h4, _, h5, _⟩ := shOf_spec g2
    obtain ⟨cs, rfl, hcr⟩ := (hV ρ w).1.agg
    obtain ⟨cells', f1, f2, f3⟩ := fill_parts hT (fun i => some (i * inf.size, inf.size)) (fun i => if i < k then some s else none) (.arr k s) (by simp) (fun i s' hi => by
      split at hi
      · injection hi with hi
        subst hi
        exact ⟨by simp [Sh.at], by simp [h5, Sh.off]⟩
      · cases hi) (fun vs hvs i s' hi => by
      simp only [Has] at hvs
      split at hi
      · omega
      · cases hi) parts.toList zs cs hH hcr hp
    refine runs_value (x := .agg cells') ?_ h ⟨_, rfl, f3⟩ hh
    rw [← map_parts parts] at f1
    simp only [execOp,ho,Instr.build,zeroValue,typeInfo,sizeOf,Sem.run_bind,Sem.run_pure,Result.andThen_ok,run_program,hi,hzv,h4,run_underlying g1 w,Value.cells]
    rw [f1]
    rfl
  · exact h.elim
end
end Go.Proofs.YtcilmfhncjfdbaaDoor.V
end
section
/-
  A MACHINE OF VALUES, EIGHTH PART: slices: literals, made, cut, grown.
-/
set_option linter.unusedVariables false
set_option linter.unusedSectionVars false
set_option linter.unusedSimpArgs false
namespace Go.Proofs.YtcilmfhncjfdbaaDoor.V
open Go Go.RowKit

/-! ### many zero values -/
theorem zeros_flat (z : Array Value) : ∀ (c : Nat), ((Array.range (c * z.size)).map (fun j => z[j % z.size]!)).toList = (List.replicate c z.toList).flatten := by
  intro c
  induction c with
  | zero => simp
  | succ c ih =>
    rw [List.replicate_succ', List.flatten_append, ← ih]
    simp only [Array.toList_map,Array.toList_range,List.flatten_cons,List.flatten_nil,List.append_nil]
    rw [Nat.succ_mul, List.range_add, List.map_append, List.map_map]
    congr 1
    apply List.ext_getElem (by simp)
    intro i h1 h2
    simp only [List.getElem_map,List.getElem_range,Function.comp_apply]
    have hi : i < z.size := by simpa using h2
    rw [Nat.mul_add_mod_self_right, Nat.mod_eq_of_lt hi]
    simp [hi]
section
variable {P : Program} {Z : Nat → Nat → Prop} [Zone Z] {B : Nat} {ρ : Names} {w : World} {H : Heap} {n : Nat} {tm : Nat → VV} {a : Act} {K : VV → Heap → Nat → Prop} {o : Oper}
theorem CR.zeros {z : VV} {zc : List Value} (h : C1 ρ w z zc) : ∀ (c : Nat), CR ρ w (List.replicate c z) (List.replicate c zc).flatten
  | 0 => by simp only [CR,List.replicate_zero,List.flatten_nil]
  | c + 1 => by
    simp only [List.replicate_succ,List.flatten_cons,CR]
    exact ⟨_, _, rfl, h, CR.zeros h c⟩
theorem buildSlice_sound (hT : TM ρ w tm a) (hh : HR Z B ρ H n w) (hG : Gives Z n K) (t : TypeId) (len : Nat) (parts : Array (Nat × Operand)) (ho : o.op = .buildSlice t len parts) (h : vBuildSlice P (ev tm) H n K t len parts.toList) : Runs P Z B K ρ w (execOp a.eval o) := by
  unfold vBuildSlice at h
  replace h := bnd_iff.1 h
  obtain ⟨et, het, h⟩ := h
  replace h := bnd_iff.1 h
  obtain ⟨s, hs, h⟩ := h
  replace h := bnd_iff.1 h
  obtain ⟨z, hz, ⟨hp, hlim, hs0⟩, h⟩ := h
  obtain ⟨s', zv, i, hs', hi, hzv, hH, hsz, hV⟩ := ZE_spec hz
  rw [hs] at hs'
  injection hs' with hs'
  subst hs'
  have hul := EL_spec het
  obtain ⟨i', d, hi', hu, hisz, hrow⟩ := shOf_spec hs
  rw [hi] at hi'
  injection hi' with hi'
  subst hi'
  have hcells : ((Array.range (len * i.size)).map (fun j => zv.cells[j % zv.cells.size]!)).toList = (List.replicate len zv.cells.toList).flatten := by
    rw [hisz, ← hsz]; exact zeros_flat zv.cells len
  have hz0 := CR.zeros (hV ρ w).2 len
  rw [← hcells] at hz0
  obtain ⟨cells', f1, f2, f3⟩ := fill_parts hT (fun j => some (j * i.size, i.size)) (fun j => if j < len then some s else none) (.arr len s) (by simp) (fun j s' hj => by
      split at hj
      · injection hj with hj
        subst hj
        exact ⟨by simp [Sh.at], by simp [hisz, Sh.off]⟩
      · cases hj) (fun vs hvs j s' hj => by
      simp only [Has] at hvs
      split at hj
      · omega
      · cases hj) parts.toList (List.replicate len z) _ (by simp only [Has]; exact ⟨by simp, fun v hv => by rw [List.eq_of_mem_replicate hv]; exact hH⟩) hz0 hp
  obtain ⟨l, e1, e2, e3, e4, h1, h2, h3⟩ := new_block (s := .arr len s) (v := .agg (setParts (ev tm) parts.toList (List.replicate len z))) (cs := cells'.toList) hh (hG.one h) (t := et) (cells := cells') (tail := []) f2 (by simp only [C1]; exact f3) (by simp)
  refine .inl ⟨.slice (some ⟨w.heap.size, 0, none⟩) len len, _, ?_, _, _, _, _, h, ?_, h1, h2, h3⟩
  · rw [← map_parts parts] at f1
    have hlim' : ¬ (len * i.size > 2 ^ 24) := by rw [hisz]; omega
    simp only [execOp,ho,Instr.buildSlice,Sem.run_bind,run_underlying hul w,Result.andThen_ok,sizeOf,typeInfo,run_program,hi,Sem.run_pure]
    rw [if_neg hlim']
    by_cases h0 : len * i.size = 0
    · have hl0 : len = 0 := by
        rcases Nat.mul_eq_zero.1 h0 with h0 | h0
        · exact h0
        · omega
      subst hl0
      have hr : ∀ f : Nat → Value, (Array.range 0).map f = #[] := fun f => by apply Array.ext'; simp
      simp only [Nat.zero_mul,hr] at f1
      simp only [Nat.zero_mul,if_true,Sem.run_bind,Sem.run_pure,Result.andThen_ok,hr]
      rw [f1]
      simp only [newRow,Sem.run_bind,Sem.run_pure,run_newObj,Result.andThen_ok]
      rfl
    · rw [if_neg h0]
      simp only [Sem.run_bind,zeroValue,typeInfo,run_program,hi,hzv,Sem.run_pure,Result.andThen_ok]
      rw [f1]
      simp only [newRow,Sem.run_bind,Sem.run_pure,run_newObj,Result.andThen_ok]
      rfl
  · simp only [VR,VR1,C1]
    have hlen := HasA.len (ρ := ρ) (w := w) (s := s) _ _ (by simp only [Has] at f2; exact f2.2) f3
    simp only [Has] at f2
    rw [f2.1, Array.length_toList] at hlen
    refine .inr ⟨l, len, s, len, by rw [give_ap, if_pos rfl], by rw [e1, e2, e4]; simp [Sh.off], Nat.le_refl _, by rw [e4]; rfl, ?_⟩
    rw [e4, e3, hlen]
    simp [Sh.off]
theorem makeSlice_sound (hT : TM ρ w tm a) (hh : HR Z B ρ H n w) (hG : Gives Z n K) (t : TypeId) (l c : Operand) (ho : o.op = .makeSlice t l c) (h : vMakeSlice P (ev tm) H n K t l c) : Runs P Z B K ρ w (execOp a.eval o) := by
  unfold vMakeSlice onV at h
  dsimp only at h
  have hl := ev_sound hT l
  have hc := ev_sound hT c
  split at h
  · rename_i k1 i k2 j e1 e2
    rw [e1] at hl
    rw [e2] at hc
    replace h := bnd_iff.1 h
    obtain ⟨et, het, h⟩ := h
    replace h := bnd_iff.1 h
    obtain ⟨s, hs, h⟩ := h
    replace h := bnd_iff.1 h
    obtain ⟨z, hz, ⟨hi0, hij, hj, hby⟩, h⟩ := h
    obtain ⟨s', zv, inf, hs', hi, hzv, hH, hsz, hV⟩ := ZE_spec hz
    rw [hs] at hs'
    injection hs' with hs'
    subst hs'
    have hul := EL_spec het
    obtain ⟨inf', d, hi', hu, hisz, hrow⟩ := shOf_spec hs
    rw [hi] at hi'
    injection hi' with hi'
    subst hi'
    have hcells : ((Array.range (j.toNat * inf.size)).map (fun j => zv.cells[j % zv.cells.size]!)).toList = (List.replicate j.toNat zv.cells.toList).flatten := by
      rw [hisz, ← hsz]; exact zeros_flat zv.cells _
    have hsplit : (List.replicate j.toNat zv.cells.toList).flatten = (List.replicate i.toNat zv.cells.toList).flatten ++ (List.replicate (j.toNat - i.toNat) zv.cells.toList).flatten := by
      rw [← List.flatten_append, List.replicate_append_replicate]
      congr 2
      omega
    have hHas : Has (.arr i.toNat s) (.agg (List.replicate i.toNat z)) := by
      simp only [Has]; exact ⟨by simp, fun v hv => by rw [List.eq_of_mem_replicate hv]; exact hH⟩
    obtain ⟨lo, g1, g2, g3, g4, h1, h2, h3⟩ := new_block (s := .arr i.toNat s) (v := .agg (List.replicate i.toNat z)) hh (hG.one h) (t := et) hHas (by simp only [C1]; exact CR.zeros (hV ρ w).2 i.toNat) (hcells.trans hsplit)
    refine .inl ⟨.slice (some ⟨w.heap.size, 0, none⟩) i.toNat j.toNat, _, ?_, _, _, _, _, h, ?_, h1, h2, h3⟩
    · have hw1 : IntKind.i64.wrap i = i := by simp [IntKind.wrap, IntKind.bits, IntKind.signed]; omega
      have hw2 : IntKind.i64.wrap j = j := by simp [IntKind.wrap, IntKind.bits, IntKind.signed]; omega
      have hbyv : inf.bytes ≤ 200 := by simpa [BY, hi] using hby
      have hbj : (inf.bytes : Int) * j ≤ 2 ^ 48 := by
        have : (inf.bytes : Int) * j ≤ 200 * 1000000000000 := Int.mul_le_mul (by omega) hj (by omega) (by omega)
        omega
      have hf : (decide (j < 0) || decide ((inf.bytes : Int) * j > 2 ^ 48) || decide (i < 0) || decide (i > j)) = false := by
        simp only [Bool.or_eq_false_iff,decide_eq_false_iff_not]
        omega
      have ht : (askRoom (j.toNat * inf.bytes)).run P w = .ok () w := by
        unfold askRoom
        split <;> simp
      simp only [execOp,ho,Instr.makeSlice,hl.int,hc.int,Sem.run_bind,run_underlying hul w,Result.andThen_ok,sizeOf,typeInfo,run_program,hi,Sem.run_pure,asInt,asIntOf,hw1,hw2]
      rw [if_neg (by rw [hf]; simp)]
      simp only [Sem.run_bind,ht,Result.andThen_ok,Sem.run_pure,run_program,hi]
      by_cases h0 : j.toNat * inf.size = 0
      · have hr : ∀ f : Nat → Value, (Array.range 0).map f = #[] := fun f => by apply Array.ext'; simp
        simp only [h0,if_true,Sem.run_bind,Sem.run_pure,Result.andThen_ok,newRow,run_newObj,hr]
        rfl
      · rw [if_neg h0]
        simp only [Sem.run_bind,zeroValue,typeInfo,run_program,hi,hzv,Sem.run_pure,Result.andThen_ok,newRow,run_newObj]
        rfl
    · simp only [VR,VR1,C1]
      refine .inr ⟨lo, j.toNat, s, i.toNat, by rw [give_ap, if_pos rfl], by rw [g1, g2, g4]; simp [Sh.off], by omega, by rw [g4]; rfl, ?_⟩
      rw [g4, g3]
      simp [Sh.off, hisz]
  · exact h.elim
end
end Go.Proofs.YtcilmfhncjfdbaaDoor.V
end
section
/-
  A MACHINE OF VALUES, NINTH PART: slices cut, and grown; bytes and strings.
-/
set_option linter.unusedVariables false
set_option linter.unusedSectionVars false
set_option linter.unusedSimpArgs false
namespace Go.Proofs.YtcilmfhncjfdbaaDoor.V
open Go Go.RowKit

def lohi (lo hi : Option VV) (len : Nat) (k : Nat → Nat → Prop) : Prop := match lo, hi with
  | none, none => k 0 len
  | some a, none => onV a fun a => match a with
    | .int _ i => cnd (0 ≤ i ∧ i ≤ len) (k i.toNat len)
    | _ => False
  | none, some b => onV b fun b => match b with
    | .int _ j => cnd (0 ≤ j ∧ j ≤ len) (k 0 j.toNat)
    | _ => False
  | some a, some b => onV a fun a => onV b fun b => match a, b with
    | .int _ i, .int _ j => cnd (0 ≤ i ∧ i ≤ j ∧ j ≤ len) (k i.toNat j.toNat)
    | _, _ => False
def encB (x : UInt8) : VV := .int .u8 (x.toNat : Int)
section
variable (P : Program) (e : Operand → VV) (H : Heap) (n : Nat) (K : VV → Heap → Nat → Prop)
def vSlice (t : TypeId) (x : Operand) (lo hi : Option Operand) : Prop := onV (e x) fun v => match v with
  | .str s => bnd (P.underlying t) fun u => match u with
    | .string => lohi (lo.map e) (hi.map e) s.length fun i j => K (.str ((s.drop i).take (j - i))) H n
    | _ => False
  | .sl (some (m, p, i0)) len => bnd (H m) fun b => match b with
    | .row s _ => bnd (EL P t) fun et => bnd (SH P et) fun se => bnd (s.at p) fun sa => match sa with
      | .arr _ s' => cnd (s' = se) (lohi (lo.map e) (hi.map e) len fun i j => K (.sl (some (m, p, i0 + i)) (j - i)) H n)
      | _ => False
    | _ => False
  | .dat s els => bnd (EL P t) fun et => bnd (SH P et) fun se => cnd (s = se) (lohi (lo.map e) (hi.map e) els.length fun i j => K (.dat s ((els.drop i).take (j - i))) H n)
  | .ptr m p => bnd (H m) fun b => match b with
    | .row s c => bnd (SH P t) fun st => cnd (s.at p = some st) (match st with
      | .arr len _ => bnd (c.get p) fun _ => lohi (lo.map e) (hi.map e) len fun i j => K (.sl (some (m, p, i)) (j - i)) H n
      | _ => False)
    | _ => False
  | .pd s (.agg vs) => bnd (SH P t) fun st => cnd (s = st) (match st with
      | .arr len s' => lohi (lo.map e) (hi.map e) len fun i j => K (.dat s' ((vs.drop i).take (j - i))) H n
      | _ => False)
  | _ => False
def srcOf (H : Heap) (se : Sh) (u : TypeDesc) (v : VV) (k : List VV → Option Nat → Prop) : Prop := onV v fun v => match u, v with
  | .slice _, .sl none 0 => k [] none
  | .slice _, .sl (some (m, p, i)) len => bnd (H m) fun b => match b with
    | .row s c => cnd (∃ j, s.at p = some (.arr j se)) (bnd (c.get p) fun c => match c with
      | .agg els => cnd (i + len ≤ els.length) (k ((els.drop i).take len) (some m))
      | _ => False)
    | _ => False
  | .slice _, .dat s els => cnd (s = se) (k els none)
  | .string, .str s => cnd (se = .cell) (k (s.map encB) none)
  | _, _ => False
def vAppend (ts : Array TypeId) (s x : Operand) : Prop := bnd (ts[0]?) fun t => bnd (ts[1]?) fun tx => bnd (EL P t) fun et => bnd (SH P et) fun se => bnd (ZE P et) fun z => bnd (P.underlying tx) fun u =>
  srcOf H se u (e x) fun news m2 => onV (e s) fun v => match v with
    | .sl none 0 => cnd (news.length * BY P et ≤ 140737488355328 ∧ news.length ≤ 1000000000000) (K (.sl (some (n, [], 0)) news.length) (upd H n (some (.row (.arr news.length se) (.agg news)))) (n + 1))
    | .sl (some (m, [], 0)) len => bnd (H m) fun b => match b with
      | .row (.arr _ s') (.agg els) => cnd (s' = se ∧ len = els.length ∧ m2 ≠ some m ∧ (len + news.length) * BY P et ≤ 140737488355328 ∧ len + news.length ≤ 1000000000000)
          (K (.sl (some (n, [], 0)) (len + news.length)) (upd (upd H m none) n (some (.row (.arr (len + news.length) se) (.agg (els ++ news))))) (n + 1))
      | _ => False
    | _ => False
end

section
variable {P : Program} {Z : Nat → Nat → Prop} [Zone Z] {B : Nat} {ρ : Names} {w : World} {H : Heap} {n : Nat} {tm : Nat → VV} {a : Act} {K : VV → Heap → Nat → Prop} {o : Oper}
theorem lohi_sound (hT : TM ρ w tm a) (lo hi : Option Operand) (len : Nat) (k : Nat → Nat → Prop) (h : lohi (lo.map (ev tm)) (hi.map (ev tm)) len k) :
    ∃ i j, i ≤ j ∧ j ≤ len ∧ k i j ∧ ∀ (b : Bool) (cap : Nat), len ≤ cap → (Instr.sliceBounds b len cap (lo.map a.eval) (hi.map a.eval) none).run P w = .ok (i, j, cap) w := by
  cases lo with
  | none =>
    cases hi with
    | none =>
      exact ⟨0, len, Nat.zero_le _, Nat.le_refl _, h, fun b cap hc => by simp [Instr.sliceBounds]⟩
    | some y =>
      simp only [lohi,Option.map_some,Option.map_none,onV] at h
      have hy := ev_sound hT y
      split at h
      · rename_i kk j e
        rw [e] at hy
        obtain ⟨⟨h1, h2⟩, h⟩ := h
        refine ⟨0, j.toNat, Nat.zero_le _, by omega, h, fun b cap hc => ?_⟩
        simp [Instr.sliceBounds, Instr.sliceBound, hy.int, asIntOf, show 0 ≤ j ∧ j ≤ (cap : Int) by omega]
      · exact h.elim
  | some x =>
    have hx := ev_sound hT x
    cases hi with
    | none =>
      simp only [lohi,Option.map_some,Option.map_none,onV] at h
      split at h
      · rename_i kk i e
        rw [e] at hx
        obtain ⟨⟨h1, h2⟩, h⟩ := h
        refine ⟨i.toNat, len, by omega, Nat.le_refl _, h, fun b cap hc => ?_⟩
        simp [Instr.sliceBounds, Instr.sliceBound, hx.int, asIntOf, show 0 ≤ i ∧ i ≤ (len : Int) by omega]
      · exact h.elim
    | some y =>
      have hy := ev_sound hT y
      simp only [lohi,Option.map_some,onV] at h
      split at h
      · rename_i k1 i k2 j e1 e2
        rw [e1] at hx
        rw [e2] at hy
        obtain ⟨⟨h1, h2, h3⟩, h⟩ := h
        refine ⟨i.toNat, j.toNat, by omega, by omega, h, fun b cap hc => ?_⟩
        have e3 : 0 ≤ j ∧ j ≤ (cap : Int) := by omega
        have e4 : 0 ≤ i ∧ i ≤ ((j.toNat : Nat) : Int) := by omega
        simp only [Instr.sliceBounds,Instr.sliceBound,hx.int,hy.int,asIntOf,Option.map_some,Sem.run_bind,Sem.run_pure,Result.andThen_ok]
        rw [if_pos e3]
        simp only [Sem.run_pure,Result.andThen_ok]
        rw [if_pos e4]
        simp only [Sem.run_pure,Result.andThen_ok]
      · exact h.elim
theorem VR_nil {m i : Nat} {p : List Nat} (A : Option Addr) : VR ρ w (.sl (some (m, p, i)) 0) (.slice A 0 0) := by
  simp only [VR,VR1,C1]
  exact .inl ⟨trivial, A, rfl⟩
theorem CR.part {els : List VV} {ecs : List Value} {s : Sh} (h : CR ρ w els ecs) (hs : ∀ e ∈ els, Has s e) (i j : Nat) (hij : i ≤ j) (hj : j ≤ els.length) :
    ∃ pre mid post, ecs = pre ++ mid ++ post ∧ pre.length = i * s.size ∧ mid.length = (j - i) * s.size ∧ CR ρ w ((els.drop i).take (j - i)) mid := by
  have e1 : els = els.take i ++ ((els.drop i).take (j - i) ++ (els.drop i).drop (j - i)) := by rw [List.take_append_drop, List.take_append_drop]
  rw [e1] at h
  obtain ⟨c1, c2, rfl, h1, h2⟩ := CR.split _ _ _ h
  obtain ⟨c3, c4, rfl, h3, h4⟩ := CR.split _ _ _ h2
  have l1 := HasA.len (ρ := ρ) (w := w) (s := s) _ c1 (fun v hv => hs v (List.mem_of_mem_take hv)) h1
  have l3 := HasA.len (ρ := ρ) (w := w) (s := s) _ c3 (fun v hv => hs v (List.mem_of_mem_drop (List.mem_of_mem_take hv))) h3
  rw [List.length_take, Nat.min_eq_left (by omega)] at l1
  rw [List.length_take, List.length_drop, Nat.min_eq_left (by omega)] at l3
  exact ⟨c1, c3, c4, by simp, l1, l3, h3⟩
theorem slice_sound (hT : TM ρ w tm a) (hh : HR Z B ρ H n w) (t : TypeId) (x : Operand) (lo hi : Option Operand) (ho : o.op = .slice t x lo hi none) (h : vSlice P (ev tm) H n K t x lo hi) : Runs P Z B K ρ w (execOp a.eval o) := by
  unfold vSlice onV at h
  dsimp only at h
  have hx := ev_sound hT x
  split at h
  · rename_i s e
    rw [e] at hx
    replace h := bnd_iff.1 h
    obtain ⟨u, hu, h⟩ := h
    cases u <;> first | exact h.elim | skip
    obtain ⟨i, j, hij, hj, h, hb⟩ := lohi_sound (P := P) hT lo hi s.length _ h
    refine runs_value (x := .string ⟨((s.drop i).take (j - i)).toArray⟩) ?_ h VR_str hh
    have hsz : (ByteArray.mk s.toArray).size = s.length := by show s.toArray.size = _; simp
    have hex : (ByteArray.mk s.toArray).extract i j = ⟨((s.drop i).take (j - i)).toArray⟩ := by
      apply ByteArray.ext
      simp
    simp only [execOp,ho,hx.str,Instr.sliceAt,Instr.slice,Sem.run_bind,run_underlying hu w,Result.andThen_ok,Option.isSome_none,Bool.false_eq_true,if_false,hsz,Option.map_none,hb false s.length (Nat.le_refl _),Sem.run_pure,hex]
  · rename_i m p i0 len e
    rw [e] at hx
    replace h := bnd_iff.1 h
    obtain ⟨blk, hbk, h⟩ := h
    cases blk with
    | map es => exact h.elim
    | row s c =>
      replace h := bnd_iff.1 h
      obtain ⟨et, het, h⟩ := h
      replace h := bnd_iff.1 h
      obtain ⟨se, hse, h⟩ := h
      replace h := bnd_iff.1 h
      obtain ⟨sa, hsa, h⟩ := h
      cases sa with
      | cell => exact h.elim
      | st _ => exact h.elim
      | arr kk s' =>
        obtain ⟨rfl, h⟩ := h
        obtain ⟨i, j, hij, hj, h, hb⟩ := lohi_sound (P := P) hT lo hi len _ h
        have hul := EL_spec het
        obtain ⟨inf, d, hinf, hu, hsz, hrow⟩ := shOf_spec hse
        rcases hx.sl with ⟨rfl, A, hp⟩ | ⟨l, cap, e', j', hl, hp, hcap, hate, hroom⟩
        · obtain rfl : j = 0 := by omega
          obtain rfl : i = 0 := by omega
          refine runs_value (x := .slice A 0 0) ?_ h (VR_nil A) hh
          simp only [execOp,ho,hp,Instr.sliceAt,Instr.slice,Sem.run_bind,run_underlying hul w,Result.andThen_ok,Option.map_none,hb true 0 (Nat.le_refl _),Sem.run_pure,sizeOf,typeInfo,run_program,hinf]
          simp
        · have hrowAt := hh.row m s c l hbk hl
          have hse' : e' = s' := by
            rw [hrowAt.sh, hsa] at hate
            injection hate with hate
            injection hate with _ hate
            exact hate.symm
          subst hse'
          have hrun : (execOp a.eval o).run P w = .ok (.value (.slice (if cap = i then some ⟨l.block, l.base + l.sh.off (p ++ [i0]), none⟩ else some ⟨l.block, l.base + l.sh.off (p ++ [i0]) + i * e'.size, none⟩) (j - i) (cap - i))) w := by
            simp only [execOp,ho,hp,Instr.sliceAt,Instr.slice,Sem.run_bind,run_underlying hul w,Result.andThen_ok,Option.map_none,hb true cap hcap,Sem.run_pure,sizeOf,typeInfo,run_program,hinf,hsz]
            simp [Addr.add_mid]
          refine runs_value hrun h ?_ hh
          simp only [VR,VR1,C1]
          by_cases hci : cap = i
          · rw [if_pos hci]
            exact .inl ⟨by omega, _, by rw [show j - i = 0 by omega, show cap - i = 0 by omega]⟩
          · rw [if_neg hci]
            have hoff : l.sh.off (p ++ [i0 + i]) = l.sh.off (p ++ [i0]) + i * e'.size := by
              rw [hrowAt.sh, (at_append p s _ [i0 + i] hsa).2, (at_append p s _ [i0] hsa).2]
              simp only [Sh.off,Nat.add_zero,Nat.add_mul]
              rw [Nat.add_assoc]
            refine .inr ⟨l, cap - i, e', j', hl, by rw [hoff, Nat.add_assoc], by omega, hate, ?_⟩
            rw [hoff]
            have : cap * e'.size = i * e'.size + (cap - i) * e'.size := by rw [← Nat.add_mul]; congr 1; omega
            omega
  · rename_i s els e
    rw [e] at hx
    replace h := bnd_iff.1 h
    obtain ⟨et, het, h⟩ := h
    replace h := bnd_iff.1 h
    obtain ⟨se, hse, rfl, h⟩ := h
    obtain ⟨i, j, hij, hj, h, hb⟩ := lohi_sound (P := P) hT lo hi els.length _ h
    have hul := EL_spec het
    obtain ⟨inf, d, hinf, hu, hsz, hrow⟩ := shOf_spec hse
    obtain ⟨A, cap, hp, hcap, hne⟩ := hx.dat
    have hrun : (execOp a.eval o).run P w = .ok (.value (.slice (if cap = i then A else A.map (·.add (i * s.size))) (j - i) (cap - i))) w := by
      simp only [execOp,ho,hp,Instr.sliceAt,Instr.slice,Sem.run_bind,run_underlying hul w,Result.andThen_ok,Option.map_none,hb true cap hcap,Sem.run_pure,sizeOf,typeInfo,run_program,hinf,hsz]
    refine runs_value hrun h ?_ hh
    simp only [VR,VR1,C1]
    refine ⟨_, cap - i, by simp only [List.length_take,List.length_drop]; rw [Nat.min_eq_left (by omega)], by simp only [List.length_take,List.length_drop]; omega, fun hnil => ?_⟩
    have hlt : i < j := by
      rcases Nat.lt_or_ge i j with h | h
      · exact h
      · exact absurd (by rw [show j - i = 0 by omega]; rfl) hnil
    obtain ⟨b, f, ecs, rfl, g1, g2, g3, g4, g5⟩ := hne (by intro e; rw [e] at hj; simp at hj; omega)
    obtain ⟨pre, mid, post, rfl, k1, k2, k3⟩ := CR.part g1 g2 i j hij hj
    rw [if_neg (by omega)]
    exact ⟨b, f + i * s.size, mid, by simp [Addr.add_mid], k3, fun v hv => g2 v (List.mem_of_mem_drop (List.mem_of_mem_take hv)), by rw [← k1]; exact range_part g3, g4, g5⟩
  · rename_i m p e
    rw [e] at hx
    obtain ⟨l, hl, hp⟩ := hx.ptr
    replace h := bnd_iff.1 h
    obtain ⟨blk, hbk, h⟩ := h
    cases blk with
    | map es => exact h.elim
    | row s c =>
      replace h := bnd_iff.1 h
      obtain ⟨st, hst, hat, h⟩ := h
      cases st with
      | cell => exact h.elim
      | st _ => exact h.elim
      | arr len s' =>
        replace h := bnd_iff.1 h
        obtain ⟨u, hcg, h⟩ := h
        obtain ⟨i, j, hij, hj, h, hb⟩ := lohi_sound (P := P) hT lo hi len _ h
        obtain ⟨et, hul, hse⟩ := SH_array hst
        obtain ⟨inf, d, hinf, hu, hsz, hrow⟩ := shOf_spec hse
        have hrowAt := hh.row m s c l hbk hl
        have hrun : (execOp a.eval o).run P w = .ok (.value (.slice (some (if len = i then ⟨l.block, l.base + l.sh.off p, none⟩ else ⟨l.block, l.base + l.sh.off p + i * s'.size, none⟩)) (j - i) (len - i))) w := by
          simp only [execOp,ho,hp,Instr.sliceAt,Instr.sureAddr,Sem.run_bind,run_underlying hul w,Result.andThen_ok,Option.map_none,hb false len (Nat.le_refl _),Sem.run_pure,sizeOf,typeInfo,run_program,hinf,hsz]
          simp [Addr.add_mid]
        refine runs_value hrun h ?_ hh
        simp only [VR,VR1,C1]
        by_cases hci : len = i
        · rw [if_pos hci]
          exact .inl ⟨by omega, _, by rw [show j - i = 0 by omega, show len - i = 0 by omega]⟩
        · rw [if_neg hci]
          have hoff : l.sh.off (p ++ [i]) = l.sh.off p + i * s'.size := by
            rw [hrowAt.sh, (at_append p s _ [i] hat).2]
            simp [Sh.off]
          refine .inr ⟨l, len - i, s', len, hl, by rw [hoff, Nat.add_assoc], by omega, by rw [hrowAt.sh]; exact hat, ?_⟩
          rw [hoff]
          obtain ⟨cs, q1, q2, q3⟩ := hrowAt.cells
          obtain ⟨su, pre, mid, post, k1, k2, rfl, k4, k5, _, _⟩ := focus p s c u cs hrowAt.has hcg q1
          rw [hat] at k1
          injection k1 with k1
          subst k1
          have hml := Has.len _ _ _ k2 k5
          simp only [Sh.size] at hml
          simp only [List.length_append] at q2
          have : len * s'.size = i * s'.size + (len - i) * s'.size := by rw [← Nat.add_mul]; congr 1; omega
          rw [hrowAt.sh]
          omega
  · rename_i s vs e
    rw [e] at hx
    obtain ⟨b, g, ecs, hp, g1, g2, g3, g4, g5⟩ := hx.pd
    replace h := bnd_iff.1 h
    obtain ⟨st, hst, rfl, h⟩ := h
    cases s with
    | cell => exact h.elim
    | st _ => exact h.elim
    | arr len s' =>
      obtain ⟨i, j, hij, hj, h, hb⟩ := lohi_sound (P := P) hT lo hi len _ h
      obtain ⟨et, hul, hse⟩ := SH_array hst
      obtain ⟨inf, d, hinf, hu, hsz, hrow⟩ := shOf_spec hse
      have hrun : (execOp a.eval o).run P w = .ok (.value (.slice (some (if len = i then ⟨b, g, none⟩ else ⟨b, g + i * s'.size, none⟩)) (j - i) (len - i))) w := by
        simp only [execOp,ho,hp,Instr.sliceAt,Instr.sureAddr,Sem.run_bind,run_underlying hul w,Result.andThen_ok,Option.map_none,hb false len (Nat.le_refl _),Sem.run_pure,sizeOf,typeInfo,run_program,hinf,hsz]
        simp [Addr.add_mid]
      refine runs_value hrun h ?_ hh
      simp only [Has] at g2
      simp only [C1] at g1
      simp only [VR,VR1,C1]
      have hvl := g2.1
      refine ⟨_, len - i, by simp only [List.length_take,List.length_drop]; rw [Nat.min_eq_left (by omega)], by simp only [List.length_take,List.length_drop]; omega, fun hnil => ?_⟩
      have hlt : i < j := by
        rcases Nat.lt_or_ge i j with h | h
        · exact h
        · exact absurd (by rw [show j - i = 0 by omega]; rfl) hnil
      obtain ⟨pre, mid, post, rfl, k1, k2, k3⟩ := CR.part g1 g2.2 i j hij (by omega)
      rw [if_neg (by omega)]
      exact ⟨b, _, mid, rfl, k3, fun v hv => g2.2 v (List.mem_of_mem_drop (List.mem_of_mem_take hv)), by rw [← k1]; exact range_part g3, g4, g5⟩
  · exact h.elim
end
end Go.Proofs.YtcilmfhncjfdbaaDoor.V
end
section
/-
  A MACHINE OF VALUES, TENTH PART: append.
-/
set_option linter.unusedVariables false
set_option linter.unusedSectionVars false
set_option linter.unusedSimpArgs false
namespace Go.Proofs.YtcilmfhncjfdbaaDoor.V
open Go Go.RowKit

section
variable {P : Program} {Z : Nat → Nat → Prop} [Zone Z] {B : Nat} {ρ ρ' : Names} {w w' : World} {H : Heap} {n : Nat} {tm : Nat → VV} {a : Act} {K : VV → Heap → Nat → Prop} {o : Oper}
theorem HR.drop (h : HR Z B ρ H n w) (m : Nat) : HR Z B ρ (upd H m none) n w := by
  have key : ∀ k b, (upd H m none) k = some b → H k = some b := fun k b hk => by
    rw [upd_ap] at hk
    split at hk
    · cases hk
    · exact hk
  have key2 : ∀ k, (upd H m none) k ≠ none → H k ≠ none := fun k hk => by
    rw [upd_ap] at hk
    split at hk
    · exact absurd rfl hk
    · exact hk
  exact ⟨h.bas, h.fresh, h.lt, fun m1 m2 l1 l2 h1 h2 g1 g2 => h.apart m1 m2 l1 l2 h1 h2 (key2 _ g1) (key2 _ g2), fun k s v l hk => h.row k s v l (key k _ hk), fun k es l hk => h.map k es l (key k _ hk)⟩
theorem HR.ghost (h : HR Z B ρ H n w) {k : Nat} (hk : ρ k = none) (b : Blk) : HR Z B ρ (upd H k (some b)) n w := by
  have hn : ∀ m l, ρ m = some l → m ≠ k := fun m l hm e => by rw [e, hk] at hm; cases hm
  refine ⟨h.bas, h.fresh, h.lt, fun m1 m2 l1 l2 h1 h2 g1 g2 => ?_, fun m s v l hm hl => ?_, fun m es l hm hl => ?_⟩
  · rw [upd_ap, if_neg (hn m1 l1 h1)] at g1
    rw [upd_ap, if_neg (hn m2 l2 h2)] at g2
    exact h.apart m1 m2 l1 l2 h1 h2 g1 g2
  · rw [upd_ap, if_neg (hn m l hl)] at hm
    exact h.row m s v l hm hl
  · rw [upd_ap, if_neg (hn m l hl)] at hm
    exact h.map m es l hm hl
theorem HR.again (h : HR Z B ρ H n w) (hZ : Zone.ok Z n) {m : Nat} {l0 l : Loc} (hl0 : ρ m = some l0) (hlive : H m ≠ none) (hblk : l.block = l0.block) (hsz : w'.heap.size = w.heap.size) (hb : ∀ b, b ≠ l.block → w'.heap[b]? = w.heap[b]?) {s : Sh} {v : VV}
    (hr : RowAt (ρ.give n l) w' l s v) : HR Z B (ρ.give n l) (upd (upd H m none) n (some (.row s v))) (n + 1) w' ∧ Ext ρ w (ρ.give n l) w' := by
  have hfr := h.fresh n (Zone.free n hZ)
  have he : Ext ρ w (ρ.give n l) w' := ext_new hfr l (by omega) (fun b _ hb' => hb b hb') (.inr ⟨m, l0, hl0, hblk.symm⟩)
  have hother : ∀ k b l', k ≠ n → (upd (upd H m none) n (some (Blk.row s v))) k = some b → ρ k = some l' → H k = some b ∧ l'.block ≠ l.block := by
    intro k b l' hk hkb hl'
    rw [upd_ap, if_neg hk, upd_ap] at hkb
    split at hkb
    · cases hkb
    · rename_i hkm
      exact ⟨hkb, fun e => hkm (h.apart k m l' l0 hl' hl0 (by rw [hkb]; simp) hlive (e.trans hblk))⟩
  refine ⟨⟨h.bas.next (by omega) (fun _ h => h) (fun b hb1 => hb b fun e => by have := (h.lt m l0 hl0).1; omega), fun k hz => ?_, fun k l' hk => ?_, fun m1 m2 l1 l2 h1 h2 g1 g2 heq => ?_, fun k s' v' l' hk hl' => ?_, fun k es l' hk hl' => ?_⟩, he⟩
  · rw [give_ap, if_neg (Zone.next _ _ hZ hz)]
    exact h.fresh k (Zone.mono _ _ _ (Nat.le_succ _) hz)
  · rw [give_ap] at hk
    have h0 := h.lt m l0 hl0
    split at hk
    · injection hk with hk
      subst hk
      exact ⟨by rw [hblk]; exact h0.1, by rw [hblk, hsz]; exact h0.2⟩
    · have := h.lt k l' hk
      exact ⟨this.1, by rw [hsz]; exact this.2⟩
  · by_cases e1 : m1 = n
    · by_cases e2 : m2 = n
      · omega
      · exfalso
        rw [give_ap, if_pos e1] at h1
        injection h1 with h1
        rw [give_ap, if_neg e2] at h2
        obtain ⟨b, hb2⟩ := Option.ne_none_iff_exists'.1 g2
        have := (hother m2 b l2 e2 hb2 h2).2
        rw [h1] at this
        exact this heq.symm
    · by_cases e2 : m2 = n
      · exfalso
        rw [give_ap, if_pos e2] at h2
        injection h2 with h2
        rw [give_ap, if_neg e1] at h1
        obtain ⟨b, hb2⟩ := Option.ne_none_iff_exists'.1 g1
        have := (hother m1 b l1 e1 hb2 h1).2
        rw [h2] at this
        exact this heq
      · rw [give_ap, if_neg e1] at h1
        rw [give_ap, if_neg e2] at h2
        obtain ⟨b1, hb1⟩ := Option.ne_none_iff_exists'.1 g1
        obtain ⟨b2, hb2⟩ := Option.ne_none_iff_exists'.1 g2
        exact h.apart m1 m2 l1 l2 h1 h2 (by rw [(hother m1 b1 l1 e1 hb1 h1).1]; simp) (by rw [(hother m2 b2 l2 e2 hb2 h2).1]; simp) heq
  · by_cases e : k = n
    · rw [upd_ap, if_pos e] at hk
      rw [give_ap, if_pos e] at hl'
      injection hk with hk
      injection hk with hk1 hk2
      injection hl' with hl'
      subst hk1 hk2 hl'
      exact hr
    · rw [give_ap, if_neg e] at hl'
      obtain ⟨g1, g2⟩ := hother k _ l' e hk hl'
      exact (h.row k s' v' l' g1 hl').same he (hb _ g2)
  · by_cases e : k = n
    · rw [upd_ap, if_pos e] at hk
      cases hk
    · rw [give_ap, if_neg e] at hl'
      obtain ⟨g1, g2⟩ := hother k _ l' e hk hl'
      exact (h.map k es l' g1 hl').same he (hb _ g2)

theorem encB_cells (ρ : Names) (w : World) : ∀ (s : List UInt8), CR ρ w (s.map encB) (s.map fun b => Value.int .u8 b.toNat)
  | [] => by simp only [CR,List.map_nil]
  | b :: s => by
    simp only [CR,List.map_cons]
    exact ⟨[.int .u8 b.toNat], _, rfl, by simp only [encB,C1], encB_cells ρ w s⟩
theorem src_sound (hh : HR Z B ρ H n w) {x : Operand} (hT : TM ρ w tm a) {se : Sh} {u : TypeDesc} {tx : TypeId} (hu : P.underlying tx = some u) (k : List VV → Option Nat → Prop) (h : srcOf H se u (ev tm x) k) :
    ∃ news m2 ncs, k news m2 ∧ (∀ e ∈ news, Has se e) ∧ CR ρ w news ncs ∧ Src P se.size tx (a.eval x) news.length ncs w ∧ ncs.length = news.length * se.size ∧ ((∃ A c, a.eval x = .slice A news.length c) ∨ ∃ s, a.eval x = .string s ∧ u = .string) := by
  unfold srcOf onV at h
  dsimp only at h
  have hx := ev_sound hT x
  generalize he : ev tm x = v at h hx
  split at h
  · rename_i el
    have hp : a.eval x = .slice none 0 0 := by simpa [VR, VR1, C1] using hx
    refine ⟨[], none, [], h, by simp, by simp only [CR], by rw [hp]; exact Src.ofNil w hu 0, by simp, .inl ⟨_, _, hp⟩⟩
  · rename_i el m p i len
    replace h := bnd_iff.1 h
    obtain ⟨blk, hbk, h⟩ := h
    cases blk with
    | map es => exact h.elim
    | row s c =>
      obtain ⟨⟨j, hat⟩, h⟩ := h
      replace h := bnd_iff.1 h
      obtain ⟨c', hc', h⟩ := h
      cases c' <;> first | exact h.elim | skip
      rename_i els
      obtain ⟨hle, h⟩ := h
      rcases hx.sl with ⟨rfl, A, hp⟩ | ⟨l, cap, e', j', hl, hp, hcap, hate, hroom⟩
      · refine ⟨_, _, [], h, by simp, by simp only [List.take_zero,CR], ?_, by simp, .inl ⟨A, 0, by rw [hp]; simp⟩⟩
        rw [hp]
        cases A with
        | none => simpa using Src.ofNil w hu 0
        | some ad => simpa using Src.ofSlice w hu ad 0 0 [] (by simp) (fun j u hj => by simp at hj) (by simp)
      · have hrow := hh.row m s c l hbk hl
        obtain ⟨cs, q1, q2, q3⟩ := hrow.cells
        obtain ⟨su, pre, mid, post, k1, k2, rfl, k4, k5, _, _⟩ := focus p s c (.agg els) cs hrow.has hc' q1
        rw [hat] at k1
        injection k1 with k1
        subst k1
        simp only [Has] at k2
        simp only [C1] at k5
        obtain ⟨pr, md, ps, rfl, r1, r2, r3⟩ := CR.part k5 k2.2 i (i + len) (by omega) hle
        rw [show i + len - i = len by omega] at r2 r3
        have hl' : ((els.drop i).take len).length = len := by rw [List.length_take, List.length_drop, Nat.min_eq_left (by omega)]
        refine ⟨_, _, md, h, fun e he' => k2.2 e (List.mem_of_mem_drop (List.mem_of_mem_take he')), r3, ?_, by rw [hl', r2], .inl ⟨_, _, by rw [hp, hl']⟩⟩
        rw [hl', hp]
        have hr := range_part q3
        have hr2 := range_part hr
        refine Src.ofSlice w hu _ len cap md r2 (fun jj v hv => ?_) (HasA.one _ md (fun e he' => k2.2 e (List.mem_of_mem_drop (List.mem_of_mem_take he'))) r3)
        have := hr2 jj v hv
        rw [Addr.add_mid]
        rw [hrow.sh, (at_append p s _ [i] hat).2, ← k4]
        simp only [Sh.off,Nat.add_zero]
        rw [← r1, ← Nat.add_assoc]
        exact this
  · rename_i el s els
    obtain ⟨rfl, h⟩ := h
    obtain ⟨A, cap, hp, hcap, hne⟩ := hx.dat
    by_cases h0 : els = []
    · subst h0
      refine ⟨[], none, [], h, by simp, by simp only [CR], ?_, by simp, .inl ⟨_, _, hp⟩⟩
      rw [hp]
      cases A with
      | none => simpa using Src.ofNil w hu cap
      | some ad => simpa using Src.ofSlice w hu ad 0 cap [] (by simp) (fun j u hj => by simp at hj) (by simp)
    · obtain ⟨b, f, ecs, rfl, g1, g2, g3, g4, g5⟩ := hne h0
      have hlen := HasA.len _ _ g2 g1
      refine ⟨els, none, ecs, h, g2, g1, ?_, hlen, .inl ⟨_, _, hp⟩⟩
      rw [hp]
      exact Src.ofSlice w hu _ _ cap ecs hlen (fun j v hv => by rw [Addr.add_mid]; exact g3 j v hv) (HasA.one _ ecs g2 g1)
  · rename_i s
    obtain ⟨rfl, h⟩ := h
    have hbc : byteCells ⟨s.toArray⟩ = s.map fun b => Value.int .u8 b.toNat := by simp [byteCells]
    refine ⟨_, none, _, h, by simp [Has, encB, VV.leaf], encB_cells ρ w s, ?_, by simp [Sh.size], .inr ⟨_, hx.str, rfl⟩⟩
    rw [hx.str, ← hbc]
    have := Src.ofString (P := P) w hu ⟨s.toArray⟩
    have e : (ByteArray.mk s.toArray).size = (s.map encB).length := by show s.toArray.size = _; simp
    rw [e] at this
    exact this
  · exact h.elim
end
end Go.Proofs.YtcilmfhncjfdbaaDoor.V
end
section
/-
  A MACHINE OF VALUES, ELEVENTH PART: append; bytes and strings.
-/
set_option linter.unusedVariables false
set_option linter.unusedSectionVars false
set_option linter.unusedSimpArgs false
namespace Go.Proofs.YtcilmfhncjfdbaaDoor.V
open Go Go.RowKit

section
variable {P : Program} {Z : Nat → Nat → Prop} [Zone Z] {B : Nat} {ρ ρ' : Names} {w w' : World} {H : Heap} {n : Nat} {tm : Nat → VV} {a : Act} {K : VV → Heap → Nat → Prop} {o : Oper}
theorem ext_drew (ρ : Names) (w : World) : Ext ρ w ρ w.drew := ⟨fun _ _ h => h, Nat.le_refl _, fun _ _ _ => rfl, fun _ _ h => .inl h, fun _ h => h, fun _ h => .inl h⟩
theorem HR.drew (h : HR Z B ρ H n w) : HR Z B ρ H n w.drew := h.kept (Nat.le_refl _) fun _ _ => rfl
theorem grown_good (hh : HR Z B ρ H n w) (hZ : Zone.ok Z n) {se : Sh} {olds news : List VV} {ocs ncs : List Value} (ho : CR ρ w olds ocs) (hso : ∀ e ∈ olds, Has se e) (hn : CR ρ w news ncs) (hsn : ∀ e ∈ news, Has se e)
    {et : TypeId} {zc : Array Value} (hz : zc.size = se.size) {c : Nat} (hc : olds.length + news.length ≤ c)
    (hk : K (.sl (some (n, [], 0)) (olds.length + news.length)) (upd H n (some (.row (.arr (olds.length + news.length) se) (.agg (olds ++ news))))) (n + 1)) :
    Good Z B K ρ w (.slice (some ⟨w.heap.size, 0, none⟩) (olds.length + news.length) c) (w.drew.alloc (.cells ((ocs ++ ncs).toArray ++ Builtin.zeroCells zc (c - (olds.length + news.length))) et)) := by
  have hd := hh.drew
  have hcr := CR.join _ _ _ _ (CR.ext (ext_drew ρ w) _ _ ho) (CR.ext (ext_drew ρ w) _ _ hn)
  have hhas : Has (.arr (olds.length + news.length) se) (.agg (olds ++ news)) := by
    simp only [Has]
    exact ⟨by simp, fun v hv => (List.mem_append.1 hv).elim (hso v) (hsn v)⟩
  obtain ⟨l, e1, e2, e3, e4, h1, h2, h3⟩ := new_block (t := et) (cells := (ocs ++ ncs).toArray ++ Builtin.zeroCells zc (c - (olds.length + news.length))) (tail := (Builtin.zeroCells zc (c - (olds.length + news.length))).toList) hd hZ hhas (by simp only [C1]; exact hcr) (by simp)
  have l1 := HasA.len _ _ hso ho
  have l2 := HasA.len _ _ hsn hn
  refine ⟨_, _, _, _, hk, ?_, h1, (ext_drew ρ w).trans h2, (Below.refl B w).drew.trans h3⟩
  simp only [VR,VR1,C1]
  refine .inr ⟨l, c, se, olds.length + news.length, by rw [give_ap, if_pos rfl], by rw [e1, e2, e4]; simp [Sh.off], hc, by rw [e4]; rfl, ?_⟩
  rw [e4, e3]
  simp only [Array.size_append,List.size_toArray,List.length_append,l1,l2,size_zeroCells,hz]
  have : c * se.size = olds.length * se.size + news.length * se.size + (c - (olds.length + news.length)) * se.size := by
    rw [← Nat.add_mul, ← Nat.add_mul]; congr 1; omega
  simp [Sh.off]
  omega
theorem append_sound (hT : TM ρ w tm a) (hh : HR Z B ρ H n w) (hG : Gives Z n K) (s x : Operand) (ts : Array TypeId) (hts : ts.size = 2) (ho : o.op = .call { callee := .builtin .append, args := #[s, x], argTypes := ts }) (h : vAppend P (ev tm) H n K ts s x) : Runs P Z B K ρ w (execOp a.eval o) := by
  unfold vAppend at h
  replace h := bnd_iff.1 h
  obtain ⟨t, ht0, h⟩ := h
  replace h := bnd_iff.1 h
  obtain ⟨tx, ht1, h⟩ := h
  replace h := bnd_iff.1 h
  obtain ⟨et, het, h⟩ := h
  replace h := bnd_iff.1 h
  obtain ⟨se, hse, h⟩ := h
  replace h := bnd_iff.1 h
  obtain ⟨z, hz, h⟩ := h
  replace h := bnd_iff.1 h
  obtain ⟨u, hu, h⟩ := h
  have hts' : ts = #[t, tx] := by
    obtain ⟨l⟩ := ts
    match l, hts with
    | [p, q], _ => simp at ht0 ht1; rw [ht0, ht1]
  subst hts'
  obtain ⟨news, m2, ncs, h, hsn, hcn, hsrc, hnl, _⟩ := src_sound hh hT hu _ h
  obtain ⟨s', zv, inf, hs', hi, hzv, hH, hsz, hV⟩ := ZE_spec hz
  rw [hse] at hs'
  injection hs' with hs'
  subst hs'
  have hul := EL_spec het
  obtain ⟨inf', d, hi', hud, hisz, hrow⟩ := shOf_spec hse
  rw [hi] at hi'
  injection hi' with hi'
  subst hi'
  have hbyv : BY P et = inf.bytes := by simp [BY, hi]
  rw [hbyv] at h
  rw [← hisz] at hsrc
  have hs := ev_sound hT s
  have run : ∀ (v : Value) (w' : World), (Builtin.append_ #[t, tx] o.type #[a.eval s, a.eval x]).run P w = .ok v w' → (execOp a.eval o).run P w = .ok (.value v) w' := by
    intro v w' hr
    simp [execOp, ho, resolve, invoke, builtin, hr]
  -- onto nothing
  have hnil : ∀ (A : Option Addr) (H' : Heap), HR Z B ρ H' n w → a.eval s = .slice A 0 0 → news.length * inf.bytes ≤ 140737488355328 → news.length ≤ 1000000000000 →
      K (.sl (some (n, [], 0)) news.length) (upd H' n (some (.row (.arr news.length se) (.agg news)))) (n + 1) → Runs P Z B K ρ w (execOp a.eval o) := by
    intro A H' hh' hp hb1 hb2 hk
    by_cases h0 : news.length = 0
    · have : news = [] := List.eq_nil_of_length_eq_zero h0
      subst this
      have hnc : ncs = [] := List.eq_nil_of_length_eq_zero (by simpa using hnl)
      subst hnc
      have hr := run_append_nothing (P := P) w t tx o.type et inf hul hi A 0 0 (Nat.le_refl _) (a.eval x) (by simpa using hsrc)
      rw [← hp] at hr
      exact .inl ⟨_, w, run _ _ hr, _, _, _, ρ, hk, by rw [hp]; exact VR_nil A, (hh'.ghost (hh'.fresh n (Zone.free n (hG.one hk))) _).more (Nat.le_succ _), Ext.refl _ _, Below.refl _ _⟩
    · have hold : (Builtin.firstCells inf.size 0 (.slice A 0 0)).run P w.drew = .ok ([] : List Value).toArray w.drew := by
        cases A with
        | none => exact run_firstCells_none _ _ _ _ _
        | some ad => exact run_firstCells_some _ _ _ ad 0 0 [] (by simp) (by simp)
      have hr := run_append_grow_src (P := P) w t tx o.type et inf zv hul hi hzv A 0 0 [] hold (a.eval x) news.length ncs hsrc (by omega) (by omega) (growslice_fits (by omega) (by simpa using hb1))
      rw [← hp] at hr
      have hg := grown_good (K := K) (olds := []) (ocs := []) (et := et) (zc := zv.cells) (c := grownCap w (0 + news.length) 0 et) hh' (hG.one hk) (by simp only [CR]) (by simp) hcn hsn hsz (by
        have := grownCap_ge w (0 + news.length) 0 et
        simpa using this) (by simpa using hk)
      exact .inl ⟨_, _, run _ _ hr, hg⟩
  generalize hv : ev tm s = v at h hs
  unfold onV at h
  dsimp only at h
  split at h
  · obtain ⟨⟨hb1, hb2⟩, h⟩ := h
    have hp : a.eval s = .slice none 0 0 := by simpa [VR, VR1, C1] using hs
    exact hnil none H hh hp hb1 hb2 h
  · rename_i m len
    replace h := bnd_iff.1 h
    obtain ⟨blk, hbk, h⟩ := h
    split at h
    · rename_i kk s' els
      obtain ⟨⟨rfl, rfl, hne, hb1, hb2⟩, h⟩ := h
      rcases hs.sl with ⟨h0, A, hp⟩ | ⟨l, cap, e', j', hl, hp, hcap, hate, hroom⟩
      · have : els = [] := List.eq_nil_of_length_eq_zero h0
        subst this
        exact hnil A (upd H m none) (hh.drop m) hp (by simpa using hb1) (by simpa using hb2) (by simpa using h)
      · have hrowAt := hh.row m _ _ l hbk hl
        obtain ⟨cs, q1, q2, q3⟩ := hrowAt.cells
        have hhas := hrowAt.has
        simp only [Has] at hhas
        simp only [C1] at q1
        have hlen := HasA.len _ _ hhas.2 q1
        have hoff0 : l.sh.off ([] ++ [0]) = 0 := by rw [hrowAt.sh]; simp [Sh.off]
        have he' : e' = s' := by
          rw [hrowAt.sh] at hate
          simp [Sh.at] at hate
          exact hate.2.symm
        subst he'
        rw [hoff0] at hroom hp
        rw [Nat.zero_add] at hroom
        rw [Nat.add_zero] at hp
        by_cases hfit : els.length + news.length ≤ cap
        · -- there is room
          have hneed : els.length * e'.size + ncs.length ≤ l.room := by
            have : (els.length + news.length) * e'.size ≤ cap * e'.size := Nat.mul_le_mul_right _ hfit
            rw [Nat.add_mul] at this
            omega
          have hth : w.there l.block (l.base + els.length * e'.size) ncs.length := there_part hrowAt.room (by omega)
          have hr := run_append_room_src (P := P) w t tx o.type et inf hul hi l.block l.base els.length cap (a.eval x) news.length ncs hsrc hfit (fun j hj => by rw [hisz]; exact (hth j hj).1) (fun j hj => by rw [hisz]; exact (hth j hj).2)
          rw [← hp, hisz] at hr
          have hot : ∀ b, b ≠ l.block → (w.setCells l.block (l.base + els.length * e'.size) ncs).heap[b]? = w.heap[b]? := fun b hb' => setCells_other l.block hb' ncs _ w
          have hsz2 := setCells_size l.block ncs (l.base + els.length * e'.size) w
          have hE : Ext ρ w (ρ.give n ⟨l.block, l.base, l.room, .arr (els.length + news.length) e'⟩) (w.setCells l.block (l.base + els.length * e'.size) ncs) :=
            ext_new (hh.fresh n (Zone.free n (hG.one h))) ⟨l.block, l.base, l.room, .arr (els.length + news.length) e'⟩ (by omega) (fun b _ hb' => hot b hb') (.inr ⟨m, l, hl, rfl⟩)
          have hrow' : RowAt (ρ.give n ⟨l.block, l.base, l.room, .arr (els.length + news.length) e'⟩) (w.setCells l.block (l.base + els.length * e'.size) ncs) ⟨l.block, l.base, l.room, .arr (els.length + news.length) e'⟩ (.arr (els.length + news.length) e') (.agg (els ++ news)) := by
            refine ⟨rfl, ?_, ⟨cs ++ ncs, ?_, ?_, ?_⟩, World.there_setCells hrowAt.room _ _ _⟩
            · simp only [Has]
              exact ⟨by simp, fun v hv => (List.mem_append.1 hv).elim (hhas.2 v) (hsn v)⟩
            · simp only [C1]
              exact CR.join _ _ _ _ (CR.ext hE _ _ q1) (CR.ext hE _ _ hcn)
            · simp only [List.length_append]; omega
            · rw [range_append]
              exact ⟨World.rangeAt_setCells_apart q3 _ _ _ (.inr (.inl (by omega))), by rw [hlen]; exact World.rangeAt_setCells_same w _ _ _ hth⟩
          obtain ⟨g1, g2⟩ := hh.again (hG.one h) hl (by rw [hbk]; simp) (l := ⟨l.block, l.base, l.room, .arr (els.length + news.length) e'⟩) rfl hsz2 hot hrow'
          refine .inl ⟨_, _, run _ _ hr, _, _, _, _, h, ?_, g1, g2, setCells_below (hh.lt m l hl).1 _ _ _ (Below.refl _ _)⟩
          simp only [VR,VR1,C1]
          exact .inr ⟨_, cap, e', els.length + news.length, by rw [give_ap, if_pos rfl], by simp [Sh.off], hfit, rfl, by simp [Sh.off]; exact hroom⟩
        · -- a new row
          have hold : (Builtin.firstCells inf.size els.length (.slice (some ⟨l.block, l.base, none⟩) els.length cap)).run P w.drew = .ok cs.toArray w.drew :=
            run_firstCells_some w.drew inf.size els.length ⟨l.block, l.base, none⟩ els.length cap cs (by rw [hisz]; exact hlen) (fun j v hj => by rw [Addr.add_mid]; simpa using q3 j v hj)
          have hr := run_append_grow_src (P := P) w t tx o.type et inf zv hul hi hzv _ els.length cap cs hold (a.eval x) news.length ncs hsrc (by omega) (by omega) (growslice_fits (by omega) hb1)
          rw [← hp] at hr
          exact .inl ⟨_, _, run _ _ hr, grown_good (hh.drop m) (hG.one h) q1 hhas.2 hcn hsn hsz (grownCap_ge _ _ _ _) h⟩
    · exact h.elim
  · exact h.elim
/-! ### bytes and strings -/
def bytesOf : List VV → Option (List UInt8)
  | [] => some []
  | v :: l => match v, bytesOf l with
    | .int .u8 n, some m => if 0 ≤ n ∧ n < 256 then some (UInt8.ofNat n.toNat :: m) else none
    | _, _ => none
theorem bytesOf_enc : ∀ (l : List UInt8), bytesOf (l.map encB) = some l
  | [] => rfl
  | x :: l => by
    have := x.toNat_lt
    simp [bytesOf, encB, bytesOf_enc l]
    omega
theorem bytes_cells : ∀ (vs : List VV) (cs : List Value) (l : List UInt8), bytesOf vs = some l → CR ρ w vs cs → cs = (l.map fun b => (b.toNat : Int)).map (Value.int .u8)
  | [], cs, l, h, hc => by
    simp only [bytesOf,Option.some.injEq] at h
    subst h
    simp only [CR] at hc
    simp [hc]
  | v :: vs, cs, l, h, hc => by
    simp only [bytesOf] at h
    split at h
    · rename_i k m hm
      split at h
      · rename_i hk
        injection h with h
        subst h
        simp only [CR,C1] at hc
        obtain ⟨c1, c2, rfl, rfl, h2⟩ := hc
        rw [bytes_cells vs c2 m hm h2]
        have : ((UInt8.ofNat k.toNat).toNat : Int) = k := by
          rw [UInt8.toNat_ofNat']
          omega
        rw [List.map_cons, List.map_cons, this]
        rfl
      · cases h
    · cases h
def vToStr (P : Program) (e : Operand → VV) (H : Heap) (n : Nat) (K : VV → Heap → Nat → Prop) (s d : TypeId) (x : Operand) : Prop :=
  bnd (EL P s) fun es => bnd (P.underlying es) fun eu => bnd (P.underlying d) fun ud => match eu, ud with
    | .int .u8, .string => srcOf H .cell (.slice es) (e x) fun els _ => bnd (bytesOf els) fun l => K (.str l) H n
    | _, _ => False
theorem toStr_sound (hT : TM ρ w tm a) (hh : HR Z B ρ H n w) (s d : TypeId) (x : Operand) (ho : o.op = .convert s d x) (h : vToStr P (ev tm) H n K s d x) : Runs P Z B K ρ w (execOp a.eval o) := by
  unfold vToStr at h
  replace h := bnd_iff.1 h
  obtain ⟨es, hes, h⟩ := h
  replace h := bnd_iff.1 h
  obtain ⟨eu, heu, h⟩ := h
  replace h := bnd_iff.1 h
  obtain ⟨ud, hud, h⟩ := h
  split at h
  · have hul := EL_spec hes
    obtain ⟨news, m2, ncs, h, hsn, hcn, hsrc, hnl, hf⟩ := src_sound hh hT hul _ h
    replace h := bnd_iff.1 h
    obtain ⟨l, hl, h⟩ := h
    have hcs := bytes_cells _ _ _ hl hcn
    have hlen : news.length = l.length := by
      have e1 := congrArg List.length hcs
      simp only [List.length_map,Sh.size,Nat.mul_one] at e1 hnl
      omega
    rcases hf with ⟨A, c, hp⟩ | ⟨s', hp⟩
    · refine runs_value (x := .string ⟨l.toArray⟩) ?_ h VR_str hh
      have hrun : (convert s d (a.eval x)).run P w = .ok (.string ⟨l.toArray⟩) w := by
        rw [hp, run_convert_bytes_string w s d es A news.length c hul heu hud]
        cases A with
        | none =>
          have hc := hsrc.cells
          rw [hp] at hc
          simp [Builtin.firstCells] at hc
          have : l = [] := by
            rw [hcs] at hc
            simpa using hc.symm
          subst this
          simp [Conv.bytesToString]
          rfl
        | some ad =>
          have hc := hsrc.cells
          rw [hp] at hc
          simp only [Builtin.firstCells,Sh.size,Nat.mul_one] at hc
          rw [hcs] at hc
          rw [run_bytesToString w ad news.length c _ hc, foldl_push_byteCells]
          have he0 : ByteArray.empty.data = #[] := rfl
          rw [he0]
          simp
      simp [execOp, ho, hrun]
    · cases hp.2
  · exact h.elim
def vToBytes (P : Program) (e : Operand → VV) (H : Heap) (n : Nat) (K : VV → Heap → Nat → Prop) (s d : TypeId) (x : Operand) : Prop := onV (e x) fun v => match v with
  | .str l => bnd (P.underlying s) fun us => bnd (EL P d) fun es => bnd (P.underlying es) fun eu => match us, eu with
    | .string, .int .u8 => K (.sl (some (n, [], 0)) l.length) (upd H n (some (.row (.arr l.length .cell) (.agg (l.map encB))))) (n + 1)
    | _, _ => False
  | _ => False
theorem toBytes_sound (hT : TM ρ w tm a) (hh : HR Z B ρ H n w) (hG : Gives Z n K) (s d : TypeId) (x : Operand) (ho : o.op = .convert s d x) (h : vToBytes P (ev tm) H n K s d x) : Runs P Z B K ρ w (execOp a.eval o) := by
  unfold vToBytes onV at h
  dsimp only at h
  have hx := ev_sound hT x
  split at h
  · rename_i l e
    rw [e] at hx
    replace h := bnd_iff.1 h
    obtain ⟨us, hus, h⟩ := h
    replace h := bnd_iff.1 h
    obtain ⟨es, hes, h⟩ := h
    replace h := bnd_iff.1 h
    obtain ⟨eu, heu, h⟩ := h
    split at h
    · have hul := EL_spec hes
      have hrun := run_bytes_of_string (P := P) w s d es ⟨l.toArray⟩ hus hul heu
      have hsz : (ByteArray.mk l.toArray).size = l.length := by show l.toArray.size = _; simp
      rw [hsz] at hrun
      generalize hcap : grownCap w l.length 0 es = cap at hrun
      have hcapge : l.length ≤ cap := by rw [← hcap]; exact grownCap_ge _ _ _ _
      have hrow : (bytesRow ⟨l.toArray⟩ cap).toList = (l.map fun (b : UInt8) => Value.int .u8 (b.toNat : Int)) ++ List.replicate (cap - l.length) (Value.int .u8 0) := by
        simp [bytesRow, hsz]
      have hbs : (bytesRow ⟨l.toArray⟩ cap).size = cap := by
        have := congrArg List.length hrow
        simp only [Array.length_toList,List.length_append,List.length_map,List.length_replicate] at this
        omega
      obtain ⟨lo, g1, g2, g3, g4, h1, h2, h3⟩ := new_blockF (t := es) (s := .arr l.length .cell) (v := .agg (l.map encB)) hh.drew (hG.one h) (by simp [Has, encB, VV.leaf]) (by simp only [C1]; exact encB_cells ρ w.drew l) hrow
        ((bytesRow ⟨l.toArray⟩ cap).size, (bytesRow ⟨l.toArray⟩ cap).size + 1) (fun j hj h => by omega)
      refine .inl ⟨.slice (some ⟨w.heap.size, 0, none⟩) l.length cap, _, ?_, _, _, _, _, h, ?_, h1, (ext_drew ρ w).trans h2, (Below.refl B w).drew.trans h3⟩
      · simp [execOp, ho, hx.str, hrun]
      · simp only [VR,VR1,C1]
        refine .inr ⟨lo, cap, .cell, l.length, by rw [give_ap, if_pos rfl], by rw [g1, g2, g4]; simp [Sh.off], hcapge, by rw [g4]; rfl, ?_⟩
        rw [g4, g3, hbs]
        simp [Sh.off, Sh.size]
    · exact h.elim
  · exact h.elim
end
end Go.Proofs.YtcilmfhncjfdbaaDoor.V
end
section
/-
  A MACHINE OF VALUES, PART J: structs and arrays compared; slices held against nil; max; arrays out of slices.
-/
set_option linter.unusedVariables false
set_option linter.unusedSectionVars false
set_option linter.unusedSimpArgs false
namespace Go.Proofs.YtcilmfhncjfdbaaDoor.V
open Go Go.RowKit

inductive EQ where
  | int (k : IntKind)
  | bool
  | str
  | st (l : List EQ)
  | arr (n : Nat) (q : EQ)
mutual
def EQ.sh : EQ → Sh
  | .int _ => .cell
  | .bool => .cell
  | .str => .cell
  | .st l => .st (EQ.shs l)
  | .arr n q => .arr n q.sh
def EQ.shs : List EQ → List Sh
  | [] => []
  | q :: l => q.sh :: EQ.shs l
end
mutual
def shB : Sh → Sh → Bool
  | .cell, .cell => true
  | .st a, .st b => shBs a b
  | .arr n a, .arr m b => n == m && shB a b
  | _, _ => false
def shBs : List Sh → List Sh → Bool
  | [], [] => true
  | a :: l, b :: m => shB a b && shBs l m
  | _, _ => false
end
mutual
theorem shB_eq : ∀ (a b : Sh), shB a b = true → a = b
  | .cell, .cell, _ => rfl
  | .st a, .st b, h => by rw [shBs_eq a b (by simpa only [shB] using h)]
  | .arr n a, .arr m b, h => by
    simp only [shB,Bool.and_eq_true,beq_iff_eq] at h
    rw [h.1, shB_eq a b h.2]
  | .cell, .st _, h | .cell, .arr _ _, h | .st _, .cell, h | .st _, .arr _ _, h | .arr _ _, .cell, h | .arr _ _, .st _, h => by simp [shB] at h
theorem shBs_eq : ∀ (a b : List Sh), shBs a b = true → a = b
  | [], [], _ => rfl
  | a :: l, b :: m, h => by
    simp only [shBs,Bool.and_eq_true] at h
    rw [shB_eq a b h.1, shBs_eq l m h.2]
  | [], _ :: _, h | _ :: _, [], h => by simp [shBs] at h
end
def eqFs (g : TypeId → Option EQ) : List Field → Nat → Option (List EQ)
  | [], _ => some []
  | f :: fs, o => match g f.type with
    | some q => match eqFs g fs (o + q.sh.size) with
      | some qs => if f.name ≠ "_" ∧ f.offset = o then some (q :: qs) else none
      | none => none
    | none => none
def eqOf (P : Program) : Nat → TypeId → Option EQ
  | 0, _ => none
  | n + 1, t => match (match P.underlying t with
      | some (.int k) => some (.int k)
      | some .bool => some .bool
      | some .string => some .str
      | some (.struct fs) => if P.stoodInHeld t = false then (match eqFs (eqOf P n) fs.toList 0 with | some qs => some (.st qs) | none => none) else none
      | some (.array k e) => match eqOf P n e with
        | some q => if P.cellsOf e = q.sh.size ∧ (P.info? e).isSome = true then some (.arr k q) else none
        | none => none
      | _ => none : Option EQ) with
    | some q => match shOf P 10 t with
      | some s => if shB s q.sh = true then some q else none
      | none => none
    | none => none
def EQT (P : Program) (t : TypeId) : Option EQ := if P.eqGuardType P.depth t = false then eqOf P 10 t else none
mutual
def Fit : EQ → VV → Prop
  | .int k, .int k' _ => k = k'
  | .bool, .bool _ => True
  | .str, .str _ => True
  | .st l, .agg vs => FitL l vs
  | .arr n q, .agg vs => vs.length = n ∧ ∀ v ∈ vs, Fit q v
  | _, _ => False
def FitL : List EQ → List VV → Prop
  | [], vs => vs = []
  | q :: l, v :: vs => Fit q v ∧ FitL l vs
  | _ :: _, [] => False
end
mutual
def veq : VV → VV → Bool
  | .int _ a, .int _ b => a == b
  | .bool a, .bool b => a == b
  | .str a, .str b => a == b
  | .agg a, .agg b => veqs a b
  | _, _ => false
def veqs : List VV → List VV → Bool
  | [], [] => true
  | a :: l, b :: m => veq a b && veqs l m
  | _, _ => false
end
mutual
theorem Fit.has : ∀ (q : EQ) (v : VV), Fit q v → Has q.sh v
  | .int _, .int _ _, _ => by simp [EQ.sh, Has, VV.leaf]
  | .bool, .bool _, _ => by simp [EQ.sh, Has, VV.leaf]
  | .str, .str _, _ => by simp [EQ.sh, Has, VV.leaf]
  | .st l, .agg vs, h => by simp only [Fit] at h; simp only [EQ.sh,Has]; exact FitL.has l vs h
  | .arr n q, .agg vs, h => by simp only [Fit] at h; simp only [EQ.sh,Has]; exact ⟨h.1, fun v hv => Fit.has q v (h.2 v hv)⟩
  | .int _, .bool _, h | .int _, .str _, h | .int _, .agg _, h | .int _, .tup _, h | .int _, .sl _ _, h | .int _, .ptr _ _, h | .int _, .fn _ _, h | .int _, .map _, h | .int _, .dat _ _, h | .int _, .pd _ _, h | .int _, .vec _ _, h | .int _, .any, h | .int _, .raw _, h => by simp [Fit] at h
  | .bool, .int _ _, h | .bool, .str _, h | .bool, .agg _, h | .bool, .tup _, h | .bool, .sl _ _, h | .bool, .ptr _ _, h | .bool, .fn _ _, h | .bool, .map _, h | .bool, .dat _ _, h | .bool, .pd _ _, h | .bool, .vec _ _, h | .bool, .any, h | .bool, .raw _, h => by simp [Fit] at h
  | .str, .int _ _, h | .str, .bool _, h | .str, .agg _, h | .str, .tup _, h | .str, .sl _ _, h | .str, .ptr _ _, h | .str, .fn _ _, h | .str, .map _, h | .str, .dat _ _, h | .str, .pd _ _, h | .str, .vec _ _, h | .str, .any, h | .str, .raw _, h => by simp [Fit] at h
  | .st _, .int _ _, h | .st _, .bool _, h | .st _, .str _, h | .st _, .tup _, h | .st _, .sl _ _, h | .st _, .ptr _ _, h | .st _, .fn _ _, h | .st _, .map _, h | .st _, .dat _ _, h | .st _, .pd _ _, h | .st _, .vec _ _, h | .st _, .any, h | .st _, .raw _, h => by simp [Fit] at h
  | .arr _ _, .int _ _, h | .arr _ _, .bool _, h | .arr _ _, .str _, h | .arr _ _, .tup _, h | .arr _ _, .sl _ _, h | .arr _ _, .ptr _ _, h | .arr _ _, .fn _ _, h | .arr _ _, .map _, h | .arr _ _, .dat _ _, h | .arr _ _, .pd _ _, h | .arr _ _, .vec _ _, h | .arr _ _, .any, h | .arr _ _, .raw _, h => by simp [Fit] at h
theorem FitL.has : ∀ (l : List EQ) (vs : List VV), FitL l vs → HasL (EQ.shs l) vs
  | [], vs, h => by simp only [FitL] at h; simp only [EQ.shs,HasL]; exact h
  | q :: l, v :: vs, h => by simp only [FitL] at h; simp only [EQ.shs,HasL]; exact ⟨Fit.has q v h.1, FitL.has l vs h.2⟩
  | _ :: _, [], h => by simp [FitL] at h
end
section
variable {P : Program} {ρ : Names} {w : World}
theorem eqOf_sh {n : Nat} {t : TypeId} {q : EQ} (h : eqOf P n t = some q) : shOf P 10 t = some q.sh := by
  cases n with
  | zero => simp [eqOf] at h
  | succ n =>
    unfold eqOf at h
    split at h
    · split at h
      · rename_i s hs
        split at h
        · rename_i hb
          injection h with h
          subst h
          rw [hs, shB_eq _ _ hb]
        · cases h
      · cases h
    · cases h
theorem eqFields_sound {g : TypeId → Option EQ} {d : Nat} (hg : ∀ t q u v x y, g t = some q → Fit q u → Fit q v → VR ρ w u x → VR ρ w v y → (Op.equalIn d t x y).run P w = .ok (veq u v) w) (hs : ∀ t q, g t = some q → shOf P 10 t = some q.sh)
    (xs ys : Array Value) : ∀ (fs : List Field) (qs : List EQ) (o : Nat) (us vs : List VV) (p1 m1 p2 m2 : List Value), eqFs g fs o = some qs → FitL qs us → FitL qs vs → CR ρ w us m1 → CR ρ w vs m2 →
      xs.toList = p1 ++ m1 → ys.toList = p2 ++ m2 → p1.length = o → p2.length = o → (Op.eqFields d xs ys fs).run P w = .ok (veqs us vs) w
  | [], qs, o, us, vs, p1, m1, p2, m2, h, hu, hv, _, _, _, _, _, _ => by
    simp only [eqFs,Option.some.injEq] at h
    subst h
    simp only [FitL] at hu hv
    subst hu hv
    simp [Op.eqFields, veqs]
  | f :: fs, qs, o, us, vs, p1, m1, p2, m2, h, hu, hv, c1, c2, e1, e2, l1, l2 => by
    unfold eqFs at h
    split at h
    · rename_i q hq
      split at h
      · rename_i qs' hqs
        split at h
        · rename_i hc
          obtain ⟨hc1, hc2⟩ := hc
          injection h with h
          subst h
          cases us with
          | nil => simp [FitL] at hu
          | cons u us =>
            cases vs with
            | nil => simp [FitL] at hv
            | cons v vs =>
              simp only [FitL] at hu hv
              simp only [CR] at c1 c2
              obtain ⟨a1, b1, rfl, c11, c12⟩ := c1
              obtain ⟨a2, b2, rfl, c21, c22⟩ := c2
              have hsh := hs f.type q hq
              have hu1 := Fit.has q u hu.1
              have hv1 := Fit.has q v hv.1
              obtain ⟨x, hx, hxv⟩ := part_run (P := P) hsh hu1 c11 (show xs.toList = p1 ++ a1 ++ b1 by rw [e1, List.append_assoc])
              obtain ⟨y, hy, hyv⟩ := part_run (P := P) hsh hv1 c21 (show ys.toList = p2 ++ a2 ++ b2 by rw [e2, List.append_assoc])
              have la1 := Has.len q.sh u a1 hu1 c11
              have la2 := Has.len q.sh v a2 hv1 c21
              have ih := eqFields_sound hg hs xs ys fs qs' (o + q.sh.size) us vs (p1 ++ a1) b1 (p2 ++ a2) b2 hqs hu.2 hv.2 c12 c22 (by rw [e1, List.append_assoc]) (by rw [e2, List.append_assoc]) (by rw [List.length_append]; omega) (by rw [List.length_append]; omega)
              rw [l1] at hx
              rw [l2] at hy
              simp only [Op.eqFields,hc1,ne_eq,not_false_eq_true,if_true,Sem.run_bind,hc2,hx,hy,Result.andThen_ok,hg f.type q u v x y hq hu.1 hv.1 hxv hyv,veqs]
              cases veq u v
              · simp
              · simp [ih]
        · cases h
      · cases h
    · cases h
theorem eqItems_sound {e : TypeId} {q : EQ} {d : Nat} (hg : ∀ u v x y, Fit q u → Fit q v → VR ρ w u x → VR ρ w v y → (Op.equalIn d e x y).run P w = .ok (veq u v) w) (hs : shOf P 10 e = some q.sh)
    (xs ys : Array Value) : ∀ (n i : Nat) (us vs : List VV) (p1 m1 p2 m2 : List Value), us.length = n → vs.length = n → (∀ u ∈ us, Fit q u) → (∀ v ∈ vs, Fit q v) → CR ρ w us m1 → CR ρ w vs m2 →
      xs.toList = p1 ++ m1 → ys.toList = p2 ++ m2 → p1.length = i * q.sh.size → p2.length = i * q.sh.size → (Op.eqItems d e q.sh.size xs ys (List.range' i n)).run P w = .ok (veqs us vs) w
  | 0, i, us, vs, p1, m1, p2, m2, h1, h2, hu, hv, _, _, _, _, _, _ => by
    have h1 := List.eq_nil_of_length_eq_zero h1
    have h2 := List.eq_nil_of_length_eq_zero h2
    subst h1 h2
    simp [Op.eqItems, veqs]
  | n + 1, i, us, vs, p1, m1, p2, m2, h1, h2, hu, hv, c1, c2, e1, e2, l1, l2 => by
    cases us with
    | nil => simp at h1
    | cons u us =>
      cases vs with
      | nil => simp at h2
      | cons v vs =>
        simp only [CR] at c1 c2
        obtain ⟨a1, b1, rfl, c11, c12⟩ := c1
        obtain ⟨a2, b2, rfl, c21, c22⟩ := c2
        have hu0 := hu u (by simp)
        have hv0 := hv v (by simp)
        have hu1 := Fit.has q u hu0
        have hv1 := Fit.has q v hv0
        obtain ⟨x, hx, hxv⟩ := part_run (P := P) hs hu1 c11 (show xs.toList = p1 ++ a1 ++ b1 by rw [e1, List.append_assoc])
        obtain ⟨y, hy, hyv⟩ := part_run (P := P) hs hv1 c21 (show ys.toList = p2 ++ a2 ++ b2 by rw [e2, List.append_assoc])
        have la1 := Has.len q.sh u a1 hu1 c11
        have la2 := Has.len q.sh v a2 hv1 c21
        have ih := eqItems_sound hg hs xs ys n (i + 1) us vs (p1 ++ a1) b1 (p2 ++ a2) b2 (by simpa using h1) (by simpa using h2) (fun u hm => hu u (by simp [hm])) (fun u hm => hv u (by simp [hm])) c12 c22
          (by rw [e1, List.append_assoc]) (by rw [e2, List.append_assoc]) (by rw [List.length_append, Nat.succ_mul]; omega) (by rw [List.length_append, Nat.succ_mul]; omega)
        rw [l1] at hx
        rw [l2] at hy
        rw [List.range'_succ]
        simp only [Op.eqItems,Sem.run_bind,hx,hy,Result.andThen_ok,hg u v x y hu0 hv0 hxv hyv,veqs]
        cases veq u v
        · simp
        · simp [ih]
theorem eq_sound : ∀ (n : Nat) (d : Nat) (t : TypeId) (q : EQ) (u v : VV) (x y : Value), n ≤ d → eqOf P n t = some q → Fit q u → Fit q v → VR ρ w u x → VR ρ w v y → (Op.equalIn d t x y).run P w = .ok (veq u v) w
  | 0, d, t, q, u, v, x, y, _, h, _, _, _, _ => by simp [eqOf] at h
  | n + 1, 0, t, q, u, v, x, y, hd, _, _, _, _, _ => by omega
  | n + 1, d + 1, t, q, u, v, x, y, hd, h, hu, hv, hx, hy => by
    unfold eqOf at h
    split at h
    · rename_i q' hq'
      split at h
      · split at h
        · injection h with h
          subst h
          split at hq'
          · rename_i k hk
            injection hq' with hq'
            subst hq'
            cases u <;> simp only [Fit] at hu
            cases v <;> simp only [Fit] at hv
            subst hu hv
            rw [hx.int, hy.int, veq]
            exact run_equalIn_int w d t k k _ _ hk
          · rename_i hk
            injection hq' with hq'
            subst hq'
            cases u <;> simp only [Fit] at hu
            cases v <;> simp only [Fit] at hv
            rw [hx.bool, hy.bool, veq]
            exact run_equalIn_bool' w d t _ _ hk
          · rename_i hk
            injection hq' with hq'
            subst hq'
            cases u <;> simp only [Fit] at hu
            cases v <;> simp only [Fit] at hv
            rw [hx.str, hy.str, veq, run_equalIn_string w d t _ _ hk]
            simp
          · rename_i fs hk
            split at hq'
            · rename_i hst
              split at hq'
              · rename_i qs hqs
                injection hq' with hq'
                subst hq'
                cases u <;> simp only [Fit] at hu
                cases v <;> simp only [Fit] at hv
                rename_i us vs
                obtain ⟨cs, rfl, hc⟩ := hx.agg
                obtain ⟨ds, rfl, hd2⟩ := hy.agg
                have hf : P.fieldsOf t = fs := by simp [Program.fieldsOf, hk]
                rw [run_equalIn_struct w d t cs ds (by rw [hf]; exact hk) hst, hf, veq]
                exact eqFields_sound (g := eqOf P n) (fun t q u v x y h1 h2 h3 h4 h5 => eq_sound n d t q u v x y (by omega) h1 h2 h3 h4 h5) (fun t q h => eqOf_sh h) cs ds fs.toList qs 0 us vs [] _ [] _ hqs hu hv hc hd2 rfl rfl rfl rfl
              · cases hq'
            · cases hq'
          · rename_i k e hk
            split at hq'
            · rename_i q2 hq2
              split at hq'
              · rename_i hce
                obtain ⟨hc1, hc2⟩ := hce
                injection hq' with hq'
                subst hq'
                cases u <;> simp only [Fit] at hu
                cases v <;> simp only [Fit] at hv
                rename_i us vs
                obtain ⟨cs, rfl, hc⟩ := hx.agg
                obtain ⟨ds, rfl, hd2⟩ := hy.agg
                obtain ⟨i, hi⟩ := Option.isSome_iff_exists.1 hc2
                rw [run_equalIn_array w d cs ds hk hi, hc1, veq, List.range_eq_range']
                exact eqItems_sound (fun u v x y h2 h3 h4 h5 => eq_sound n d e q2 u v x y (by omega) hq2 h2 h3 h4 h5) (eqOf_sh hq2) cs ds k 0 us vs [] _ [] _ hu.1 hv.1 hu.2 hv.2 hc hd2 rfl rfl (by simp) (by simp)
              · cases hq'
            · cases hq'
          · cases hq'
        · cases h
      · cases h
    · cases h
end
section
variable (P : Program) (e : Operand → VV) (H : Heap) (n : Nat) (K : VV → Heap → Nat → Prop)
def vEither (q : Prop) (k : Bool → Prop) : Prop := ∀ b, (q → b = false) → k b
def vEq (op : BinOp) (t : TypeId) (v u : VV) (k : Bool → Prop) : Prop := bnd (EQT P t) fun q => cnd (Fit q v ∧ Fit q u) (match op with
  | .eql => k (veq v u)
  | .neq => k (!veq v u)
  | _ => False)
def vNil (op : BinOp) (v : VV) (k : Bool → Prop) : Prop := match op, v with
  | .eql, .sl none _ => k true
  | .eql, .sl (some _) m => vEither (m ≠ 0) k
  | .eql, .dat _ els => vEither (els ≠ []) k
  | .neq, .sl none _ => k false
  | .neq, .sl (some _) m => vEither (m ≠ 0) fun b => k (!b)
  | .neq, .dat _ els => vEither (els ≠ []) fun b => k (!b)
  | _, _ => False
def vBinX (op : BinOp) (t : TypeId) (x y : Operand) : Prop := onV (e x) fun v => match v with
  | .agg vs => onV (e y) fun u => match u with
    | .agg us => vEq P op t (.agg vs) (.agg us) fun b => K (.bool b) H n
    | _ => False
  | .bool a => onV (e y) fun u => match u with
    | .bool b => vEq P op t (.bool a) (.bool b) fun b => K (.bool b) H n
    | _ => False
  | .sl p m => onV (e y) fun u => match u with
    | .sl none 0 => bnd (EL P t) fun _ => vNil op (.sl p m) fun b => K (.bool b) H n
    | _ => False
  | .dat s els => onV (e y) fun u => match u with
    | .sl none 0 => bnd (EL P t) fun _ => vNil op (.dat s els) fun b => K (.bool b) H n
    | _ => False
  | _ => vBin e H n K op x y
def vMax (x y : Operand) : Prop := onV (e x) fun v => onV (e y) fun u => match v, u with
  | .int k a, .int k' b => cnd (k = k') (K (.int k (if a < b then b else a)) H n)
  | _, _ => False
def vArrPtr (t : TypeId) (x : Operand) : Prop := onV (e x) fun v => match v with
  | .dat s els => bnd (SH P t) fun sa => match sa with
    | .arr k s' => cnd (s' = s ∧ k ≤ els.length ∧ k ≠ 0) (K (.pd (.arr k s) (.agg (els.take k))) H n)
    | _ => False
  | .sl (some (m, [], 0)) len => bnd (SH P t) fun sa => bnd (H m) fun b => match b with
    | .row s c => cnd (s = sa ∧ (∃ s', sa = .arr len s') ∧ len ≠ 0) (K (.ptr m []) H n)
    | _ => False
  | _ => False
end
section
variable {P : Program} {Z : Nat → Nat → Prop} [Zone Z] {B : Nat} {ρ : Names} {w : World} {H : Heap} {n : Nat} {tm : Nat → VV} {a : Act} {K : VV → Heap → Nat → Prop} {o : Oper}
theorem eql_agg_run {op : BinOp} {t : TypeId} {x y : Operand} {xs ys : Array Value} {b : Bool} (hm : P.eqGuardType P.depth t = false) (h : (Op.equalIn 10000 t (.agg xs) (.agg ys)).run P w = .ok b w) (hop : op = .eql ∨ op = .neq) :
    (do eqGuard op t x y (.agg xs) (.agg ys); binOp op t (.agg xs) (.agg ys) : Sem Value).run P w = .ok (.bool (if op = .eql then b else !b)) w := by
  rw [Sem.run_bind, run_eqGuard_agg w op t x y xs ys hm, Result.andThen_ok]
  rcases hop with rfl | rfl
  · rw [run_eql_struct, h]; rfl
  · rw [run_neq_struct, h]; rfl
theorem eql_bool_run {op : BinOp} {t : TypeId} {x y : Operand} {u v : Bool} {b : Bool} (h : (Op.equalIn 10000 t (.bool u) (.bool v)).run P w = .ok b w) (hop : op = .eql ∨ op = .neq) :
    (do eqGuard op t x y (.bool u) (.bool v); binOp op t (.bool u) (.bool v) : Sem Value).run P w = .ok (.bool (if op = .eql then b else !b)) w := by
  rcases hop with rfl | rfl <;> simp [eqGuard, binOp, Op.equal, Op.maxDepth, h]
theorem eql_slice_run {op : BinOp} {t el : TypeId} {x y : Operand} {A : Option Addr} {l c : Nat} (hu : P.underlying t = some (.slice el)) (hop : op = .eql ∨ op = .neq) :
    (do eqGuard op t x y (.slice A l c) (.slice none 0 0); binOp op t (.slice A l c) (.slice none 0 0) : Sem Value).run P w = .ok (.bool (if op = .eql then A.isNone else !A.isNone)) w := by
  have h1 : (Op.equalIn 10000 t (.slice A l c) (.slice none 0 0)).run P w = .ok A.isNone w := by
    show (Op.equalIn (9999 + 1) t (.slice A l c) (.slice none 0 0)).run P w = .ok A.isNone w
    unfold Op.equalIn
    rw [Sem.run_bind, run_underlying hu, Result.andThen_ok]
    cases A <;> rfl
  rcases hop with rfl | rfl <;> simp [eqGuard, binOp, Op.equal, Op.maxDepth, h1]
def nilOf : VV → Option Addr → Prop
  | .sl none _, A => A = none
  | .sl (some _) m, A => m ≠ 0 → A.isNone = false
  | .dat _ els, A => els ≠ [] → A.isNone = false
  | _, _ => False
theorem vNil_sound {op : BinOp} {v : VV} {k : Bool → Prop} {A : Option Addr} (hA : nilOf v A) (h : vNil op v k) : (op = .eql ∨ op = .neq) ∧ k (if op = .eql then A.isNone else !A.isNone) := by
  unfold vNil at h
  split at h
  · simp only [nilOf] at hA; subst hA; exact ⟨.inl rfl, h⟩
  · simp only [nilOf] at hA; exact ⟨.inl rfl, by simpa using h A.isNone hA⟩
  · simp only [nilOf] at hA; exact ⟨.inl rfl, by simpa using h A.isNone hA⟩
  · simp only [nilOf] at hA; subst hA; exact ⟨.inr rfl, h⟩
  · simp only [nilOf] at hA; exact ⟨.inr rfl, by simpa using h A.isNone hA⟩
  · simp only [nilOf] at hA; exact ⟨.inr rfl, by simpa using h A.isNone hA⟩
  · exact h.elim
theorem sl_nil {v : VV} {x : Value} (h : VR ρ w v x) (hv : (∃ p m, v = .sl p m) ∨ ∃ s els, v = .dat s els) : ∃ A l c, x = .slice A l c ∧ nilOf v A := by
  rcases hv with ⟨p, m, rfl⟩ | ⟨s, els, rfl⟩
  · cases p with
    | none => simp only [VR,VR1,C1] at h; exact ⟨none, 0, 0, by simpa using h.2, rfl⟩
    | some r =>
      obtain ⟨m', p', i'⟩ := r
      simp only [VR,VR1,C1] at h
      rcases h with ⟨h0, A, hx⟩ | ⟨l, c, e, k, _, hx, _⟩
      · exact ⟨A, 0, 0, by simpa using hx, fun hm => absurd h0 hm⟩
      · exact ⟨_, m, c, by simpa using hx, fun _ => rfl⟩
  · obtain ⟨A, c, hx, _, h3⟩ := h.dat
    exact ⟨A, _, c, hx, fun hne => by obtain ⟨b, o, _, hA, _⟩ := h3 hne; rw [hA]; rfl⟩
theorem binX_sound (hT : TM ρ w tm a) (hh : HR Z B ρ H n w) (op : BinOp) (t t' : TypeId) (x y : Operand) (ho : o.op = .binOp op t x y t') (h : vBinX P (ev tm) H n K op t x y) : Runs P Z B K ρ w (execOp a.eval o) := by
  unfold vBinX onV at h
  dsimp only at h
  have hx := ev_sound hT x
  have hy := ev_sound hT y
  have nil : ∀ (v : VV), VR ρ w v (a.eval x) → ((∃ p m, v = .sl p m) ∨ ∃ s els, v = .dat s els) → VR ρ w (.sl none 0) (a.eval y) → (bnd (EL P t) fun _ => vNil op v fun b => K (.bool b) H n) → Runs P Z B K ρ w (execOp a.eval o) := by
    intro v hx hv hy h
    have hy : a.eval y = .slice none 0 0 := by simpa [VR, VR1, C1] using hy
    obtain ⟨el, hel, h⟩ := bnd_iff.1 h
    have hu := EL_spec hel
    obtain ⟨A, l, c, hx, hA⟩ := sl_nil hx hv
    obtain ⟨hop, hk⟩ := vNil_sound hA h
    refine runs_value (x := .bool (if op = .eql then A.isNone else !A.isNone)) ?_ hk VR_bool hh
    have := eql_slice_run (P := P) (w := w) (x := x) (y := y) (A := A) (l := l) (c := c) hu hop
    simp only [execOp,ho,hx,hy]
    simp only [Sem.run_bind] at this ⊢
    rw [this]
    rfl
  split at h
  · rename_i vs e1
    rw [e1] at hx
    split at h
    · rename_i us e2
      rw [e2] at hy
      unfold vEq at h
      obtain ⟨q, hq, ⟨h1, h2⟩, h⟩ := bnd_iff.1 h
      unfold EQT at hq
      split at hq
      · rename_i hm
        obtain ⟨xs, hxs, _⟩ := hx.agg
        obtain ⟨ys, hys, _⟩ := hy.agg
        have key := eq_sound 10 10000 t q _ _ _ _ (by omega) hq h1 h2 hx hy
        rw [hxs, hys] at key
        have hop : op = .eql ∨ op = .neq := by
          split at h
          · exact .inl rfl
          · exact .inr rfl
          · exact h.elim
        have hk : K (.bool (if op = .eql then veq (.agg vs) (.agg us) else !veq (.agg vs) (.agg us))) H n := by
          rcases hop with rfl | rfl <;> simpa using h
        refine runs_value ?_ hk VR_bool hh
        have := eql_agg_run (x := x) (y := y) hm key hop
        simp only [execOp,ho,hxs,hys]
        simp only [Sem.run_bind] at this ⊢
        rw [this]
        rfl
      · cases hq
    · exact h.elim
  · rename_i v1 e1
    rw [e1] at hx
    split at h
    · rename_i u1 e2
      rw [e2] at hy
      unfold vEq at h
      obtain ⟨q, hq, ⟨h1, h2⟩, h⟩ := bnd_iff.1 h
      unfold EQT at hq
      split at hq
      · rename_i hm
        have key := eq_sound 10 10000 t q _ _ _ _ (by omega) hq h1 h2 hx hy
        rw [hx.bool, hy.bool] at key
        have hop : op = .eql ∨ op = .neq := by
          split at h
          · exact .inl rfl
          · exact .inr rfl
          · exact h.elim
        have hk : K (.bool (if op = .eql then veq (.bool v1) (.bool u1) else !veq (.bool v1) (.bool u1))) H n := by
          rcases hop with rfl | rfl <;> simpa using h
        refine runs_value ?_ hk VR_bool hh
        have := eql_bool_run (x := x) (y := y) key hop
        simp only [execOp,ho,hx.bool,hy.bool]
        simp only [Sem.run_bind] at this ⊢
        rw [this]
        rfl
      · cases hq
    · exact h.elim
  · rename_i p m e1
    rw [e1] at hx
    split at h
    · rename_i e2
      rw [e2] at hy
      exact nil _ hx (.inl ⟨_, _, rfl⟩) hy h
    · exact h.elim
  · rename_i s els e1
    rw [e1] at hx
    split at h
    · rename_i e2
      rw [e2] at hy
      exact nil _ hx (.inr ⟨_, _, rfl⟩) hy h
    · exact h.elim
  · exact bin_sound hT hh op t t' x y ho h
theorem max_sound (hT : TM ρ w tm a) (hh : HR Z B ρ H n w) (x y : Operand) (ts : Array TypeId) (ho : o.op = .call { callee := .builtin .max, args := #[x, y], argTypes := ts }) (h : vMax (ev tm) H n K x y) : Runs P Z B K ρ w (execOp a.eval o) := by
  unfold vMax onV at h
  dsimp only at h
  have hx := ev_sound hT x
  have hy := ev_sound hT y
  split at h
  · rename_i k i k' j e1 e2
    rw [e1] at hx
    rw [e2] at hy
    obtain ⟨rfl, h⟩ := h
    refine runs_value (x := .int k (if i < j then j else i)) ?_ h VR_int hh
    simp [execOp, ho, resolve, invoke, builtin, hx.int, hy.int, Builtin.max_, Builtin.max2]
  · exact h.elim
theorem arrPtr_sound (hT : TM ρ w tm a) (hh : HR Z B ρ H n w) (t : TypeId) (x : Operand) (ho : o.op = .sliceToArrayPointer t x) (h : vArrPtr P (ev tm) H n K t x) : Runs P Z B K ρ w (execOp a.eval o) := by
  unfold vArrPtr onV at h
  dsimp only at h
  have hx := ev_sound hT x
  split at h
  · rename_i s els e1
    rw [e1] at hx
    obtain ⟨sa, hsa, h⟩ := bnd_iff.1 h
    split at h
    · rename_i k s'
      obtain ⟨⟨rfl, hk1, hk2⟩, h⟩ := h
      obtain ⟨e, hu, _⟩ := SH_array hsa
      obtain ⟨A, c, hx', hc, h3⟩ := hx.dat
      have hne : els ≠ [] := by intro e; subst e; simp at hk1; omega
      obtain ⟨b, f, ecs, rfl, g1, g2, g3, g4, g5⟩ := h3 hne
      have hrun : (execOp a.eval o).run P w = .ok (.value (.pointer (some ⟨b, f, none⟩))) w := by
        simp only [execOp,ho,hx',Instr.arrayAt,Sem.run_bind,run_underlying hu w,Result.andThen_ok]
        rw [if_neg (by omega)]
        rfl
      obtain ⟨pr, md, ps, rfl, r1, r2, r3⟩ := CR.part g1 g2 0 k (by omega) hk1
      rw [Nat.zero_mul] at r1
      have hpr : pr = [] := List.eq_nil_of_length_eq_zero r1
      subst hpr
      refine runs_value hrun h ?_ hh
      simp only [VR,VR1,C1]
      refine ⟨b, f, md, rfl, ?_, ?_, ?_, g4, g5⟩
      · simpa using r3
      · simp only [Has]
        exact ⟨by rw [List.length_take]; omega, fun v hv => g2 v (List.mem_of_mem_take hv)⟩
      · have := range_part (w := w) (pre := []) (mid := md) (post := ps) g3
        simpa using this
    · exact h.elim
  · rename_i m len e1
    rw [e1] at hx
    obtain ⟨sa, hsa, h⟩ := bnd_iff.1 h
    obtain ⟨blk, hb, h⟩ := bnd_iff.1 h
    split at h
    · rename_i s c
      obtain ⟨⟨rfl, ⟨s', rfl⟩, hl⟩, hK⟩ := h
      obtain ⟨e, hu, _⟩ := SH_array hsa
      simp only [VR,VR1,C1] at hx
      rcases hx with ⟨h0, _⟩ | ⟨l, cap, e', j', hl', hx, hcap, hat, _⟩
      · exact absurd h0 hl
      · have hx : a.eval x = .slice (some ⟨l.block, l.base + l.sh.off ([] ++ [0]), none⟩) len cap := by simpa using hx
        have hrow := hh.row m _ c l hb hl'
        have hz : l.sh.off ([] ++ [0]) = 0 := by rw [hrow.sh]; simp [Sh.off]
        rw [hz] at hx
        refine runs_value (x := .pointer (some ⟨l.block, l.base + 0, none⟩)) ?_ hK ?_ hh
        · simp only [execOp,ho,hx,Instr.arrayAt,Sem.run_bind,run_underlying hu w,Result.andThen_ok]
          rw [if_neg (by omega)]
          rfl
        · simp only [VR,VR1,C1]
          exact ⟨l, hl', by simp [Sh.off]⟩
    · exact h.elim
  · exact h.elim
end
end Go.Proofs.YtcilmfhncjfdbaaDoor.V
end
section
/-
  A MACHINE OF VALUES: maps.
-/
set_option linter.unusedVariables false
set_option linter.unusedSectionVars false
set_option linter.unusedSimpArgs false
namespace Go.Proofs.YtcilmfhncjfdbaaDoor.V
open Go Go.RowKit Go.MapKept

def untup : VV → Bool
  | .tup _ => false
  | _ => true
def keyV (d : TypeDesc) (v : VV) : Bool := match d, v with
  | .int k, .int k' _ => k == k'
  | .string, .str _ => true
  | .bool, .bool _ => true
  | _, _ => false
def keq (a b : VV) : Bool := match a, b with
  | .int _ i, .int _ j => i == j
  | .str s, .str t => s == t
  | .bool x, .bool y => x == y
  | _, _ => false
def mget : List (VV × VV) → VV → Option VV
  | [], _ => none
  | (k, v) :: es, q => if keq q k = true then some v else mget es q
def mput : List (VV × VV) → VV → VV → List (VV × VV)
  | [], q, u => [(q, u)]
  | (k, v) :: es, q, u => if keq q k = true then (k, u) :: es else (k, v) :: mput es q u
def MP (P : Program) (t : TypeId) : Option (TypeDesc × TypeId) := match P.underlying t with
  | some (.map kt et) => (P.underlying kt).map fun d => (d, et)
  | _ => none
theorem MP_spec {P : Program} {t et : TypeId} {d : TypeDesc} (h : MP P t = some (d, et)) : ∃ kt, P.underlying t = some (.map kt et) ∧ P.underlying kt = some d := by
  unfold MP at h
  split at h
  · rename_i kt et' hu
    cases hk : P.underlying kt with
    | none => rw [hk] at h; cases h
    | some d' =>
      rw [hk] at h
      simp at h
      obtain ⟨rfl, rfl⟩ := h
      exact ⟨kt, hu, hk⟩
  · cases h
section
variable (P : Program) (e : Operand → VV) (H : Heap) (n : Nat) (K : VV → Heap → Nat → Prop)
def vMakeMap : Prop := K (.map n) (upd H n (some (.map []))) (n + 1)
def vLookup (t : TypeId) (x i : Operand) (c : Bool) : Prop := onV (e x) fun v => match v with
  | .map m => bnd (H m) fun b => match b with
    | .map es => bnd (MP P t) fun d => cnd (keyV d.1 (e i) = true ∧ (es.all fun q => keyV d.1 q.1) = true) (bnd (ZE P d.2) fun z => K (if c = true then .tup [(mget es (e i)).getD z, .bool (mget es (e i)).isSome] else (mget es (e i)).getD z) H n)
    | _ => False
  | _ => False
def vMapUpdate (t : TypeId) (m k x : Operand) : Prop := onV (e m) fun v => match v with
  | .map l => bnd (H l) fun b => match b with
    | .map es => bnd (MP P t) fun d => cnd (keyV d.1 (e k) = true ∧ (es.all fun q => keyV d.1 q.1) = true ∧ untup (e x) = true) (K .any (upd H l (some (.map (mput es (e k) (e x))))) n)
    | _ => False
  | _ => False
end
section
variable {P : Program} {Z : Nat → Nat → Prop} [Zone Z] {B : Nat} {ρ ρ' : Names} {w w' : World} {H : Heap} {n : Nat} {tm : Nat → VV} {a : Act} {K : VV → Heap → Nat → Prop} {o : Oper}
theorem bytes_eq (s t : List UInt8) : ((⟨s.toArray⟩ : ByteArray) == ⟨t.toArray⟩) = (s == t) := by
  rw [Bool.eq_iff_iff, bytes_beq, beq_iff_eq]
  constructor
  · intro h
    injection h with h
    simpa using congrArg Array.toList h
  · rintro rfl; rfl
theorem same_keq {d : TypeDesc} {q k : VV} {x y : Value} (hq : keyV d q = true) (hk : keyV d k = true) (ha : VR1 ρ w q x) (hb : VR1 ρ w k y) :
    Instr.sameNow d x y = some (keq q k) ∧ (keq q k = true → y = x) := by
  cases d <;> cases q <;> simp [keyV] at hq <;> cases k <;> simp [keyV] at hk <;> simp [VR1, C1] at ha hb <;> subst ha hb <;> simp_all [Instr.sameNow, keq, bytes_eq]
theorem keyV_leaf {d : TypeDesc} {q : VV} (hq : keyV d q = true) : q.leaf = true := by
  cases d <;> cases q <;> simp [keyV] at hq <;> rfl
theorem keyV_isKey {d : TypeDesc} {q : VV} {x : Value} (hq : keyV d q = true) (ha : VR1 ρ w q x) : IsKey d x := by
  cases d <;> cases q <;> simp [keyV] at hq <;> simp [VR1, C1] at ha <;> subst ha <;> simp_all [IsKey]
theorem keyV_one {d : TypeDesc} {q : VV} (hq : keyV d q = true) {x : Value} (h : VR ρ w q x) : VR1 ρ w q x := by
  cases d <;> cases q <;> simp [keyV] at hq <;> exact h
theorem ME_find {d : TypeDesc} {q u : VV} {key : Value} (hq : keyV d q = true) (hkey : VR1 ρ w q key) : ∀ (es : List (VV × VV)) (xs : List MapEntry), ME ρ w es xs → (∀ p ∈ es, keyV d p.1 = true) →
    (mget es q = none ∧ (∀ i, Instr.findNow d key xs i = some none) ∧ ∀ y : MapEntry, y.key = key → VR1 ρ w u y.val → ME ρ w (mput es q u) (xs ++ [y])) ∨
    (∃ j e v, mget es q = some v ∧ (∀ i, Instr.findNow d key xs i = some (some (i + j, e.val))) ∧ xs[j]? = some e ∧ e.key = key ∧ VR1 ρ w v e.val ∧
      ∀ val, VR1 ρ w u val → ME ρ w (mput es q u) (xs.modify j fun e => { e with key := key, val := val }))
  | [], xs, h, _ => by
    simp only [ME] at h
    subst h
    refine .inl ⟨rfl, fun _ => rfl, fun y hy hv => ?_⟩
    simp only [mput,List.nil_append,ME]
    exact ⟨y, [], rfl, keyV_leaf hq, by rw [hy]; exact hkey, hv, rfl⟩
  | (k, v) :: es, xs, h, hk => by
    simp only [ME] at h
    obtain ⟨x, ys, rfl, h1, h2, h3, h4⟩ := h
    obtain ⟨hs, he⟩ := same_keq hq (hk (k, v) (by simp)) hkey h2
    cases hb : keq q k with
    | true =>
      rw [hb] at hs he
      refine .inr ⟨0, x, v, by simp [mget, hb], fun i => by simp [Instr.findNow, hs], rfl, he rfl, h3, fun val hval => ?_⟩
      simp only [mput,hb,if_true,ME]
      refine ⟨_, ys, rfl, h1, ?_, hval, h4⟩
      show VR1 ρ w k key
      rw [← he rfl]
      exact h2
    | false =>
      rw [hb] at hs
      rcases ME_find (u := u) hq hkey es ys h4 (fun p hp => hk p (by simp [hp])) with ⟨g1, g2, g3⟩ | ⟨j, e, v', g1, g2, g3, g4, g5, g6⟩
      · refine .inl ⟨by simp [mget, hb, g1], fun i => by simp [Instr.findNow, hs, g2], fun y hy hv => ?_⟩
        simp only [mput,hb,Bool.false_eq_true,if_false,List.cons_append,ME]
        exact ⟨x, _, rfl, h1, h2, h3, g3 y hy hv⟩
      · refine .inr ⟨j + 1, e, v', by simp [mget, hb, g1], fun i => by simp [Instr.findNow, hs, g2]; omega, by simpa using g3, g4, g5, fun val hval => ?_⟩
        simp only [mput,hb,Bool.false_eq_true,if_false,List.modify_succ_cons,ME]
        exact ⟨x, _, rfl, h1, h2, h3, g6 val hval⟩
theorem HR.putMap (h : HR Z B ρ H n w) {m : Nat} {l : Loc} {es : List (VV × VV)} (hm : ρ m = some l) (hlive : H m ≠ none) (hsz : w'.heap.size = w.heap.size) (hb : ∀ b, b ≠ l.block → w'.heap[b]? = w.heap[b]?)
    (hr : MapAt ρ w' l es) : HR Z B ρ (upd H m (some (.map es))) n w' := by
  have he : Ext ρ w ρ w' := ⟨fun _ _ h => h, by omega, fun b hb' hu => hb b (fun e => hu.2 m l hm e.symm), fun _ _ h => .inl h, fun _ h => h, fun _ h => .inl h⟩
  refine ⟨h.bas.next (by omega) (fun _ h => h) (fun b hb1 => hb b fun e => by have := (h.lt m l hm).1; omega), h.fresh, fun m l hm => by rw [hsz]; exact h.lt m l hm, fun m1 m2 l1 l2 h1 h2 g1 g2 heq => ?_, fun m1 s1 v1 l' hm1 h1 => ?_, fun m1 es1 l' hm1 h1 => ?_⟩
  · refine h.apart m1 m2 l1 l2 h1 h2 ?_ ?_ heq
    · rw [upd_ap] at g1; split at g1
      · rename_i e; rw [e]; exact hlive
      · exact g1
    · rw [upd_ap] at g2; split at g2
      · rename_i e; rw [e]; exact hlive
      · exact g2
  · rw [upd_ap] at hm1
    by_cases e : m1 = m
    · rw [if_pos e] at hm1; cases hm1
    · rw [if_neg e] at hm1
      exact (h.row m1 s1 v1 l' hm1 h1).same he (hb _ fun eq => e (h.apart m1 m l' l h1 hm (by rw [hm1]; simp) hlive eq))
  · rw [upd_ap] at hm1
    by_cases e : m1 = m
    · rw [if_pos e] at hm1
      injection hm1 with hm1
      injection hm1 with e1
      subst e1 e
      rw [hm] at h1
      injection h1 with h1
      subst h1
      exact hr
    · rw [if_neg e] at hm1
      exact (h.map m1 es1 l' hm1 h1).same he (hb _ fun eq => e (h.apart m1 m l' l h1 hm (by rw [hm1]; simp) hlive eq))
theorem HR.newMap (h : HR Z B ρ H n w) (hZ : Zone.ok Z n) {es : List (VV × VV)} (l : Loc) (hl0 : w.heap.size ≤ l.block) (hl1 : l.block < w'.heap.size) (hsz : w.heap.size ≤ w'.heap.size) (hb : ∀ b, b < w.heap.size → w'.heap[b]? = w.heap[b]?)
    (hr : MapAt (ρ.give n l) w' l es) : HR Z B (ρ.give n l) (upd H n (some (.map es))) (n + 1) w' := by
  have he : Ext ρ w (ρ.give n l) w' := ext_new (h.fresh n (Zone.free n hZ)) l hsz (fun b hb' _ => hb b hb') (.inl hl0)
  have hbase := h.base
  refine ⟨h.bas.next hsz (fun _ h => h) (fun b hb1 => hb b (Nat.lt_of_lt_of_le hb1 h.base)), fun m hz => ?_, fun m l' hm => ?_, fun m m' l1 l2 h1 h2 g1 g2 heq => ?_, fun m s' v' l' hm h1 => ?_, fun m es' l' hm h1 => ?_⟩
  · rw [give_ap, if_neg (Zone.next _ _ hZ hz)]
    exact h.fresh m (Zone.mono _ _ _ (Nat.le_succ _) hz)
  · rw [give_ap] at hm
    split at hm
    · injection hm with hm
      subst hm
      exact ⟨by omega, hl1⟩
    · obtain ⟨g2, g3⟩ := h.lt m l' hm
      exact ⟨g2, by omega⟩
  · simp only [upd_ap,give_ap] at h1 h2 g1 g2
    by_cases e1 : m = n
    · by_cases e2 : m' = n
      · omega
      · rw [if_pos e1] at h1
        rw [if_neg e2] at h2
        injection h1 with h1
        subst h1
        have := (h.lt m' l2 h2).2
        omega
    · by_cases e2 : m' = n
      · rw [if_neg e1] at h1
        rw [if_pos e2] at h2
        injection h2 with h2
        subst h2
        have := (h.lt m l1 h1).2
        omega
      · rw [if_neg e1] at h1 g1
        rw [if_neg e2] at h2 g2
        exact h.apart m m' l1 l2 h1 h2 g1 g2 heq
  · rw [upd_ap] at hm
    by_cases e : m = n
    · rw [if_pos e] at hm
      cases hm
    · rw [if_neg e] at hm
      rw [give_ap, if_neg e] at h1
      exact (h.row m s' v' l' hm h1).same he (hb _ (h.lt m l' h1).2)
  · rw [upd_ap] at hm
    by_cases e : m = n
    · rw [if_pos e] at hm
      injection hm with hm
      injection hm with hm1
      subst hm1 e
      rw [give_ap, if_pos rfl] at h1
      injection h1 with h1
      subst h1
      exact hr
    · rw [if_neg e] at hm
      rw [give_ap, if_neg e] at h1
      exact (h.map m es' l' hm h1).same he (hb _ (h.lt m l' h1).2)
theorem makeMap_sound (hh : HR Z B ρ H n w) (hG : Gives Z n K) (t : TypeId) (ho : o.op = .makeMap t none) (h : vMakeMap H n K) : Runs P Z B K ρ w (execOp a.eval o) := by
  unfold vMakeMap at h
  have hZ := hG.one h
  have hsz : (w.alloc (.map #[] 0)).heap.size = w.heap.size + 1 := by show (w.heap.push _).size = _; simp
  have hl : MapAt (ρ.give n ⟨w.heap.size, 0, 0, .cell⟩) (w.alloc (.map #[] 0)) ⟨w.heap.size, 0, 0, .cell⟩ [] := ⟨⟨#[], 0, (heap_alloc w _).1, rfl⟩, fun ys c' hy => by
    rw [(heap_alloc w _).1] at hy
    injection hy with hy
    injection hy with e1 e2
    subst e1 e2
    exact fun x hx => by simp at hx⟩
  have h1 := hh.newMap hZ ⟨w.heap.size, 0, 0, .cell⟩ (Nat.le_refl _) (by rw [hsz]; exact Nat.lt_succ_self _) (by rw [hsz]; exact Nat.le_succ _) (fun b hb => (heap_alloc w _).2 b hb) hl
  refine .inl ⟨.map (some w.heap.size), w.alloc (.map #[] 0), ?_, _, _, _, _, h, ?_, h1, ?_, ?_⟩
  · simp [execOp, ho, Instr.makeMap]
  · simp only [VR,VR1,C1]
    exact ⟨_, by rw [give_ap, if_pos rfl], rfl⟩
  · exact ext_new (hh.fresh n (Zone.free n hZ)) _ (by rw [hsz]; exact Nat.le_succ _) (fun b hb' _ => (heap_alloc w _).2 b hb') (.inl (Nat.le_refl _))
  · have := hh.base
    exact ⟨rfl, rfl, rfl, by rw [hsz]; exact Nat.le_succ _, fun k hk => (heap_alloc w _).2 k (by omega)⟩
theorem VR.map {m : Nat} {x : Value} (h : VR ρ w (.map m) x) : ∃ l, ρ m = some l ∧ x = .map (some l.block) := by simpa [VR, VR1, C1] using h
theorem VR.ofHas {s : Sh} {v : VV} {x : Value} (hs : Has s v) (h : VR ρ w v x) : VR1 ρ w v x := by
  cases v with
  | tup vs => cases s <;> simp [Has, VV.leaf] at hs
  | _ => exact h
theorem lookup_sound (hT : TM ρ w tm a) (hh : HR Z B ρ H n w) (t : TypeId) (x i : Operand) (c : Bool) (ho : o.op = .lookup t x i c) (h : vLookup P (ev tm) H n K t x i c) : Runs P Z B K ρ w (execOp a.eval o) := by
  unfold vLookup onV at h
  dsimp only at h
  have hx := ev_sound hT x
  have hi := ev_sound hT i
  split at h
  · rename_i m e
    rw [e] at hx
    obtain ⟨l, hl, hp⟩ := hx.map
    replace h := bnd_iff.1 h
    obtain ⟨b, hb, h⟩ := h
    split at h
    · rename_i es
      replace h := bnd_iff.1 h
      obtain ⟨⟨d, et⟩, hd, ⟨h1, h2⟩, h⟩ := h
      replace h := bnd_iff.1 h
      obtain ⟨z, hz, h⟩ := h
      dsimp only at h1 h2 hz
      obtain ⟨kt, hm, hk⟩ := MP_spec hd
      obtain ⟨s, zv, inf, _, hinf, hzv, hHz, _, hV⟩ := ZE_spec hz
      obtain ⟨xs, clock, ho1, ho2⟩ := (hh.map m es l hb hl).obj
      have hi1 := keyV_one h1 hi
      have hkey := keyV_isKey h1 hi1
      have hzr : (zeroValue et).run P w = .ok zv w := by simp [zeroValue, typeInfo, hinf, hzv]
      rcases ME_find (u := .any) h1 hi1 es xs.toList ho2 (fun p hp => List.all_eq_true.1 h2 p hp) with ⟨g1, g2, g3⟩ | ⟨j, en, v, g1, g2, g3, g4, g5, g6⟩
      · rw [g1] at h
        simp only [Option.getD_none,Option.isSome_none] at h
        refine runs_value (x := if c = true then .tuple #[zv, .bool false] else zv) ?_ h ?_ hh
        · have := run_findKey hk (g2 0) (w := w)
          simp [execOp, ho, hp, Instr.lookup, run_underlying hm, Go.MapKept.run_getObj_map ho1, run_checkKey hk hkey, this, hzr, Result.andThen]
        · split
          · simp only [VR,VRs]
            exact ⟨_, rfl, _, _, rfl, VR.ofHas hHz (hV ρ w).1, _, _, rfl, by simp [VR1, C1], rfl⟩
          · exact (hV ρ w).1
      · rw [g1] at h
        simp only [Option.getD_some,Option.isSome_some] at h
        refine runs_value (x := if c = true then .tuple #[en.val, .bool true] else en.val) ?_ h ?_ hh
        · have := run_findKey hk (g2 0) (w := w)
          simp [execOp, ho, hp, Instr.lookup, run_underlying hm, Go.MapKept.run_getObj_map ho1, run_checkKey hk hkey, this, Result.andThen]
        · split
          · simp only [VR,VRs]
            exact ⟨_, rfl, _, _, rfl, g5, _, _, rfl, by simp [VR1, C1], rfl⟩
          · exact VR.of1 g5
    · exact h.elim
  · exact h.elim
theorem VR.one {v : VV} {x : Value} (hn : untup v = true) (h : VR ρ w v x) : VR1 ρ w v x := by
  cases v with
  | tup vs => simp [untup] at hn
  | _ => exact h
theorem stamp_push {xs : Array MapEntry} {clock : Nat} {k v : Value} (h : Stamp xs clock) : Stamp (xs.push { key := k, val := v, born := clock }) (clock + 1) := by
  intro x hx
  rw [Array.toList_push, List.mem_append] at hx
  rcases hx with hx | hx
  · exact Nat.lt_succ_of_lt (h x hx)
  · rw [List.mem_singleton] at hx; subst hx; exact Nat.lt_succ_self _
theorem mem_modify_born {k v : Value} : ∀ (l : List MapEntry) (j : Nat) (x : MapEntry), x ∈ l.modify j (fun e => { e with key := k, val := v }) → ∃ y ∈ l, x.born = y.born
  | [], j, x, h => by cases j <;> simp at h
  | e :: l, 0, x, h => by
    rw [List.modify_zero_cons, List.mem_cons] at h
    rcases h with h | h
    · exact ⟨e, by simp, by rw [h]⟩
    · exact ⟨x, by simp [h], rfl⟩
  | e :: l, j + 1, x, h => by
    rw [List.modify_succ_cons, List.mem_cons] at h
    rcases h with h | h
    · exact ⟨e, by simp, by rw [h]⟩
    · obtain ⟨y, h1, h2⟩ := mem_modify_born l j x h
      exact ⟨y, by simp [h1], h2⟩
theorem stamp_modify {xs : Array MapEntry} {clock : Nat} {k v : Value} (h : Stamp xs clock) (j : Nat) (f : MapEntry → MapEntry) (hf : f = fun e => { e with key := k, val := v } := by rfl) : Stamp (xs.modify j f) clock := by
  intro x hx
  subst hf
  rw [Array.toList_modify] at hx
  obtain ⟨y, h1, h2⟩ := mem_modify_born _ _ _ hx
  rw [h2]
  exact h y h1
theorem mapUpdate_sound (hT : TM ρ w tm a) (hh : HR Z B ρ H n w) (t : TypeId) (m k x : Operand) (ho : o.op = .mapUpdate t m k x ∨ o.op = .insert t m k x) (h : vMapUpdate P (ev tm) H n K t m k x) : Runs P Z B K ρ w (execOp a.eval o) := by
  unfold vMapUpdate onV at h
  dsimp only at h
  have hm := ev_sound hT m
  have hk := ev_sound hT k
  have hx := ev_sound hT x
  split at h
  · rename_i l0 e
    rw [e] at hm
    obtain ⟨l, hl, hp⟩ := hm.map
    replace h := bnd_iff.1 h
    obtain ⟨b, hb, h⟩ := h
    split at h
    · rename_i es
      replace h := bnd_iff.1 h
      obtain ⟨⟨d, et⟩, hd, ⟨h1, h2, h3⟩, h⟩ := h
      dsimp only at h1 h2
      obtain ⟨kt, hmt, hkt⟩ := MP_spec hd
      obtain ⟨xs, clock, ho1, ho2⟩ := (hh.map l0 es l hb hl).obj
      have hk1 := keyV_one h1 hk
      have hkey := keyV_isKey h1 hk1
      have hx1 := VR.one h3 hx
      have hlt := hh.lt l0 l hl
      have hbo := (hh.map l0 es l hb hl).born xs clock ho1
      have fin : ∀ es' c', Stamp es' c' → (Instr.mapUpdate t (.map (some l.block)) (a.eval k) (a.eval x)).run P w = .ok () { w with heap := w.heap.setIfInBounds l.block (.map es' c') } → ME ρ w (mput es (ev tm k) (ev tm x)) es'.toList → Runs P Z B K ρ w (execOp a.eval o) := fun es' c' hst hr hme => by
        obtain ⟨q1, q2⟩ := heap_set (o' := .map es' c') ho1
        have hsz : ({ w with heap := w.heap.setIfInBounds l.block (.map es' c') } : World).heap.size = w.heap.size := by simp
        have he : Ext ρ w ρ { w with heap := w.heap.setIfInBounds l.block (.map es' c') } := ⟨fun _ _ h => h, by rw [hsz]; exact Nat.le_refl _, fun b hb' hu => q2 b (fun e => hu.2 l0 l hl e.symm), fun _ _ h => .inl h, fun _ h => h, fun _ h => .inl h⟩
        have h4 := hh.putMap (w' := { w with heap := w.heap.setIfInBounds l.block (.map es' c') }) hl (by rw [hb]; simp) hsz q2 ⟨⟨es', c', q1, ME.ext he _ _ hme⟩, fun ys c2 hy => by
          rw [q1] at hy
          injection hy with hy
          injection hy with e1 e2
          subst e1 e2
          exact hst⟩
        refine .inr (.inl ⟨_, ?_, _, _, _, _, h, by simp [VR, VR1], h4, he, ?_⟩)
        · rcases ho with ho | ho <;> simp [execOp, ho, hp, hr]
        · exact ⟨rfl, rfl, rfl, by rw [hsz]; exact Nat.le_refl _, fun j hj => q2 j (by omega)⟩
      rcases ME_find (u := ev tm x) h1 hk1 es xs.toList ho2 (fun p hp => List.all_eq_true.1 h2 p hp) with ⟨g1, g2, g3⟩ | ⟨j, en, v, g1, g2, g3, g4, g5, g6⟩
      · have := run_findKey hkt (g2 0) (w := w)
        refine fin (xs.push { key := a.eval k, val := a.eval x, born := clock }) (clock + 1) (stamp_push hbo) ?_ ?_
        · simp [Instr.mapUpdate, run_underlying hmt, Go.MapKept.run_getObj_map ho1, run_checkKey hkt hkey, this, run_setObj_map _ ho1, Result.andThen]
        · rw [Array.toList_push]
          exact g3 _ rfl hx1
      · have := run_findKey hkt (g2 0) (w := w)
        have hj : xs[j]? = some en := by simpa using g3
        refine fin (xs.modify j fun e => { e with key := a.eval k, val := a.eval x }) clock (stamp_modify (k := a.eval k) (v := a.eval x) hbo _ _) ?_ ?_
        · simp [Instr.mapUpdate, run_underlying hmt, Go.MapKept.run_getObj_map ho1, run_checkKey hkt hkey, this, hj, g4, run_keyThatStays hkey, run_setObj_map _ ho1, Result.andThen]
        · rw [Array.toList_modify]
          exact g6 _ hx1
    · exact h.elim
  · exact h.elim
end
end Go.Proofs.YtcilmfhncjfdbaaDoor.V
end
section
/-
  A MACHINE OF VALUES: clear and copy, of slices of the call's own; how many entries a map has.
-/
set_option linter.unusedVariables false
set_option linter.unusedSectionVars false
set_option linter.unusedSimpArgs false
namespace Go.Proofs.YtcilmfhncjfdbaaDoor.V
open Go Go.RowKit Go.MapKept

section
variable (P : Program) (e : Operand → VV) (H : Heap) (n : Nat) (K : VV → Heap → Nat → Prop)
def vSplice (se : Sh) (m : Nat) (p : List Nat) (i len : Nat) (f : List VV → List VV) (k : Heap → Prop) : Prop := bnd (H m) fun b => match b with
  | .row s c => bnd (s.at p) fun sa => match sa with
    | .arr _ se' => cnd (se' = se) (bnd (c.get p) fun u => match u with
      | .agg els => cnd (i + len ≤ els.length) (k (upd H m (some (.row s (c.set p (.agg (f els)))))))
      | _ => False)
    | _ => False
  | _ => False
def vClear (ts : Array TypeId) (x : Operand) : Prop := bnd (ts[0]?) fun t => bnd (EL P t) fun et => bnd (SH P et) fun se => bnd (ZE P et) fun z => onV (e x) fun v => match v with
  | .sl none _ => K .any H n
  | .sl (some (m, p, i)) len => vSplice H se m p i len (fun els => els.take i ++ List.replicate len z ++ els.drop (i + len)) fun G => K .any G n
  | _ => False
def isStrV : VV → Bool
  | .str _ => true
  | _ => false
def vCopy (ts : Array TypeId) (d s : Operand) : Prop := bnd (ts[0]?) fun t => bnd (ts[1]?) fun tx => bnd (EL P t) fun et => bnd (SH P et) fun se => bnd (P.underlying tx) fun u =>
  srcOf H se u (e s) fun news m2 => onV (e d) fun v => match v with
    | .sl none _ => K (.int .i64 0) H n
    | .sl (some (m, p, i)) len => cnd (news.length ≤ len ∨ isStrV (e s) = true) (vSplice H se m p i (min news.length len) (fun els => els.take i ++ news.take len ++ els.drop (i + min news.length len)) fun G => K (.int .i64 (min news.length len : Nat)) G n)
    | _ => False
def vLenM (x : Operand) (ts : Array TypeId) : Prop := onV (e x) fun v => match v with
  | .map m => bnd (ts[0]?) fun t => bnd (P.underlying t) fun u => match u with
    | .map _ _ => bnd (H m) fun b => match b with
      | .map es => K (.int .i64 es.length) H n
      | _ => False
    | _ => False
  | _ => vLen P e H n K ts x
theorem vLenM_of {P : Program} {e : Operand → VV} {H : Heap} {n : Nat} {K : VV → Heap → Nat → Prop} {ts : Array TypeId} {x : Operand} (h : vLen P e H n K ts x) : vLenM P e H n K x ts := by
  unfold vLenM onV
  dsimp only
  split
  · rename_i m hx
    unfold vLen onV at h
    rw [hx] at h
    obtain ⟨t, ht, h⟩ := bnd_iff.1 h
    obtain ⟨u, hu, h⟩ := bnd_iff.1 h
    cases u <;> exact h.elim
  · exact h
end
section
variable {P : Program} {Z : Nat → Nat → Prop} [Zone Z] {B : Nat} {ρ ρ' : Names} {w w' : World} {H : Heap} {n : Nat} {tm : Nat → VV} {a : Act} {K : VV → Heap → Nat → Prop} {o : Oper}
theorem splice_part (hh : HR Z B ρ H n w) {m : Nat} {p : List Nat} {s se : Sh} {c : VV} {els news : List VV} {i j : Nat} {l : Loc} (hb : H m = some (.row s c)) (hl : ρ m = some l) (hu : c.get p = some (.agg els)) (hat : s.at p = some (.arr j se)) (hle : i + news.length ≤ els.length)
    (hn : ∀ e ∈ news, Has se e) {cs : List Value} (hc : CR ρ w news cs) :
    w.there l.block (l.base + (l.sh.off p + i * se.size)) cs.length ∧ HR Z B ρ (upd H m (some (.row s (c.set p (.agg (els.take i ++ news ++ els.drop (i + news.length))))))) n (w.setCells l.block (l.base + (l.sh.off p + i * se.size)) cs) ∧
      Ext ρ w ρ (w.setCells l.block (l.base + (l.sh.off p + i * se.size)) cs) ∧ Below B w (w.setCells l.block (l.base + (l.sh.off p + i * se.size)) cs) := by
  have hrow := hh.row m s c l hb hl
  obtain ⟨ds, g1, g2, g3⟩ := hrow.cells
  obtain ⟨su, pre, mid, post, k1, k2, rfl, k4, k5, k6, k7⟩ := focus p s c (.agg els) ds hrow.has hu g1
  rw [k1] at hat
  injection hat with hat
  subst hat
  simp only [Has] at k2
  simp only [C1] at k5
  have hsp : els = els.take i ++ ((els.drop i).take news.length ++ els.drop (i + news.length)) := by
    rw [← List.drop_drop, List.take_append_drop, List.take_append_drop]
  rw [hsp] at k5
  obtain ⟨pr, c2, rfl, q1, q2⟩ := CR.split _ _ _ k5
  obtain ⟨md, ps, rfl, q3, q4⟩ := CR.split _ _ _ q2
  have hmem : ∀ (l' : List VV), (∀ v ∈ l', v ∈ els) → ∀ v ∈ l', Has se v := fun l' hs v hv => k2.2 v (hs v hv)
  have e1 := HasA.len (s := se) (els.take i) pr (hmem _ fun v hv => List.mem_of_mem_take hv) q1
  have e2 := HasA.len (s := se) _ md (hmem _ fun v hv => List.mem_of_mem_drop (List.mem_of_mem_take hv)) q3
  have e3 := HasA.len (s := se) news cs hn hc
  rw [List.length_take, Nat.min_eq_left (by omega)] at e1
  rw [List.length_take, List.length_drop, Nat.min_eq_left (by omega)] at e2
  have hml : md.length = cs.length := by rw [e2, e3]
  rw [hrow.sh, ← k4, ← e1]
  simp only [List.length_append] at g2
  have hth : w.there l.block (l.base + (pre.length + pr.length)) cs.length := there_part hrow.room (by omega)
  have hsz := setCells_size l.block cs (l.base + (pre.length + pr.length)) w
  have hot : ∀ b, b ≠ l.block → (w.setCells l.block (l.base + (pre.length + pr.length)) cs).heap[b]? = w.heap[b]? := fun b hb' => setCells_other l.block hb' cs _ w
  have he : Ext ρ w ρ (w.setCells l.block (l.base + (pre.length + pr.length)) cs) := ⟨fun _ _ h => h, by omega, fun b hb' hu' => hot b (fun e => hu'.2 m l hl e.symm), fun _ _ h => .inl h, fun _ h => h, fun _ h => .inl h⟩
  have hnew : Has (.arr j se) (.agg (els.take i ++ news ++ els.drop (i + news.length))) := by
    simp only [Has]
    refine ⟨?_, fun v hv => ?_⟩
    · rw [← k2.1]
      simp only [List.length_append,List.length_take,List.length_drop]
      omega
    · rcases List.mem_append.1 hv with hv | hv
      · rcases List.mem_append.1 hv with hv | hv
        · exact k2.2 v (List.mem_of_mem_take hv)
        · exact hn v hv
      · exact k2.2 v (List.mem_of_mem_drop hv)
  have hcn : C1 ρ (w.setCells l.block (l.base + (pre.length + pr.length)) cs) (.agg (els.take i ++ news ++ els.drop (i + news.length))) (pr ++ cs ++ ps) := by
    simp only [C1]
    exact CR.join _ _ _ _ (CR.join _ _ _ _ (CR.ext he _ _ q1) (CR.ext he _ _ hc)) (CR.ext he _ _ q4)
  have hrow' : RowAt ρ (w.setCells l.block (l.base + (pre.length + pr.length)) cs) l s (c.set p (.agg (els.take i ++ news ++ els.drop (i + news.length)))) := by
    refine ⟨hrow.sh, k6 _ hnew, ⟨pre ++ (pr ++ cs ++ ps) ++ post, k7 _ _ _ _ he hcn, by simp only [List.length_append]; omega, ?_⟩, World.there_setCells hrow.room _ _ _⟩
    have r0 : pre ++ (pr ++ (md ++ ps)) ++ post = (pre ++ pr) ++ md ++ (ps ++ post) := by simp
    have r1 : pre ++ (pr ++ cs ++ ps) ++ post = (pre ++ pr) ++ cs ++ (ps ++ post) := by simp
    rw [r0, range_append, range_append] at g3
    rw [r1, range_append, range_append]
    obtain ⟨⟨r2, r3⟩, r4⟩ := g3
    have ho : l.base + (pre ++ pr).length = l.base + (pre.length + pr.length) := by rw [List.length_append]
    refine ⟨⟨World.rangeAt_setCells_apart r2 _ _ _ (.inr (.inl (by rw [List.length_append]; omega))), ?_⟩, ?_⟩
    · rw [ho]
      exact World.rangeAt_setCells_same w _ _ _ hth
    · have e : ((pre ++ pr) ++ cs).length = ((pre ++ pr) ++ md).length := by simp only [List.length_append]; omega
      rw [e]
      exact World.rangeAt_setCells_apart r4 _ _ _ (.inr (.inr (by simp only [List.length_append]; omega)))
  exact ⟨hth, (hh.put hl (by rw [hb]; simp) hsz hot hrow').1, he, setCells_below (hh.lt m l hl).1 cs _ w (Below.refl _ _)⟩
theorem run_cells_there {b f : Nat} {cs : List Value} (h : w.there b f cs.length) (h1 : ∀ c ∈ cs, c.oneCell' = true) : (storeCells ⟨b, f, none⟩ cs).run P w = .ok () (w.setCells b f cs) := by
  have := run_storeCells_cells (P := P) b f cs 0 w (fun j hj => by simpa using (h j hj).1) (fun j hj => by simpa using (h j hj).2) h1
  simpa using this
theorem off_snoc {s : Sh} {p : List Nat} {j i : Nat} {se : Sh} (hat : s.at p = some (.arr j se)) : s.off (p ++ [i]) = s.off p + i * se.size := by
  rw [(at_append p s _ [i] hat).2]
  simp [Sh.off]
theorem splice_some {se : Sh} {m : Nat} {p : List Nat} {i len : Nat} {f : List VV → List VV} {k : Heap → Prop} (h : vSplice H se m p i len f k) : ∃ s c els j, H m = some (.row s c) ∧ s.at p = some (.arr j se) ∧ c.get p = some (.agg els) ∧ i + len ≤ els.length ∧ k (upd H m (some (.row s (c.set p (.agg (f els)))))) := by
  unfold vSplice at h
  obtain ⟨b, hb, h⟩ := bnd_iff.1 h
  cases b with
  | map es => exact h.elim
  | row s c =>
    obtain ⟨sa, hsa, h⟩ := bnd_iff.1 h
    cases sa with
    | cell => exact h.elim
    | st _ => exact h.elim
    | arr j se' =>
      obtain ⟨e1, h2⟩ := h
      subst e1
      obtain ⟨u, hu, h3⟩ := bnd_iff.1 h2
      cases u <;> first | exact h3.elim | skip
      exact ⟨s, c, _, j, hb, hsa, hu, h3.1, h3.2⟩
theorem splice_nil {c : VV} {s : Sh} {p : List Nat} {els : List VV} (hs : H n = some (.row s c)) (hu : c.get p = some (.agg els)) (hc : c.set p (.agg els) = c) : upd H n (some (.row s (c.set p (.agg els)))) = H := by
  rw [hc]
  funext m
  rw [upd_ap]
  split
  · rename_i e; rw [e, hs]
  · rfl
theorem vset_same : ∀ (p : List Nat) (c u : VV), c.get p = some u → c.set p u = c
  | [], c, u, h => by simp only [VV.get,Option.some.injEq] at h; simp [VV.set, h]
  | i :: p, c, u, h => by
    cases c with
    | agg vs =>
      simp only [VV.get] at h
      cases hi : vs[i]? with
      | none => simp [hi] at h
      | some x =>
        simp only [hi] at h
        simp only [VV.set,hi]
        rw [vset_same p x u h]
        congr 1
        obtain ⟨hlt, e⟩ := List.getElem?_eq_some_iff.1 hi
        subst e
        exact List.set_getElem_self hlt
    | _ => simp [VV.get] at h
theorem clear_sound (hT : TM ρ w tm a) (hh : HR Z B ρ H n w) (x : Operand) (ts : Array TypeId) (ho : o.op = .call { callee := .builtin .clear, args := #[x], argTypes := ts }) (h : vClear P (ev tm) H n K ts x) : Runs P Z B K ρ w (execOp a.eval o) := by
  unfold vClear onV at h
  dsimp only at h
  have hx := ev_sound hT x
  obtain ⟨t, ht, h⟩ := bnd_iff.1 h
  obtain ⟨et, het, h⟩ := bnd_iff.1 h
  obtain ⟨se, hse, h⟩ := bnd_iff.1 h
  obtain ⟨z, hz, h⟩ := bnd_iff.1 h
  have hul := EL_spec het
  have hrun : ∀ (w' : World), (Builtin.clear_ ts o.type #[a.eval x]).run P w = .ok (.tuple #[]) w' → (execOp a.eval o).run P w = .ok (.value (.tuple #[])) w' := fun w' hr => by
    simp [execOp, ho, resolve, invoke, builtin, hr, Result.andThen]
  have none0 : ∀ A c, a.eval x = .slice A 0 c → (Builtin.clear_ ts o.type #[a.eval x]).run P w = .ok (.tuple #[]) w := fun A c hp => by
    rw [hp]
    cases A <;> simp [Builtin.clear_, ht, run_underlying hul w]
  split at h
  · rename_i k e
    rw [e] at hx
    simp only [VR,VR1,C1] at hx
    obtain ⟨rfl, hx⟩ := hx
    simp only [List.cons.injEq,and_true] at hx
    exact runs_value (hrun w (none0 _ _ hx)) h (by simp [VR, VR1]) hh
  · rename_i m p i len e
    rw [e] at hx
    obtain ⟨s, c, els, j, hb, hat, hu, hle, h⟩ := splice_some h
    obtain ⟨s', zv, inf, hs', hi, hzv, hHz, hsz, hV⟩ := ZE_spec hz
    rw [hse] at hs'; injection hs' with hs'; subst hs'
    by_cases h0 : len = 0
    · subst h0
      have hA : ∃ A c', a.eval x = .slice A 0 c' := by
        rcases hx.sl with ⟨_, A, hp⟩ | ⟨l, c', e', j', hl, hp, _⟩
        · exact ⟨A, 0, hp⟩
        · exact ⟨_, c', hp⟩
      obtain ⟨A, c', hp⟩ := hA
      have eG : upd H m (some (.row s (c.set p (.agg (els.take i ++ List.replicate 0 z ++ els.drop (i + 0)))))) = H := by
        rw [List.replicate_zero, List.append_nil, Nat.add_zero, List.take_append_drop]
        exact splice_nil hb hu (vset_same p c _ hu)
      rw [eG] at h
      exact runs_value (hrun w (none0 _ _ hp)) h (by simp [VR, VR1]) hh
    · rcases hx.sl with ⟨hl0, _⟩ | ⟨l, cap, e', j', hl, hp, hcap, hate, hroom⟩
      · exact absurd hl0 h0
      have hcz := CR.zeros (hV ρ w).2 len
      obtain ⟨r1, r2, r3, r4⟩ := splice_part hh (news := List.replicate len z) hb hl hu hat (by rw [List.length_replicate]; exact hle) (fun e he => by rw [(List.mem_replicate.1 he).2]; exact hHz) hcz
      rw [List.length_replicate] at r2
      have hone := HasA.one (s := se) _ _ (fun e he => by rw [(List.mem_replicate.1 he).2]; exact hHz) hcz
      have hrc := run_cells_there (P := P) r1 hone
      have hsh : l.sh = s := (hh.row m s c l hb hl).sh
      refine .inl ⟨_, _, hrun _ ?_, .any, _, _, ρ, h, by simp [VR, VR1], r2, r3, r4⟩
      have hzr : (zeroValue et).run P w = .ok zv w := by simp [zeroValue, typeInfo, hi, hzv]
      have hzc : (Builtin.zeroCells zv.cells len).toList = (List.replicate len zv.cells.toList).flatten := zeros_flat zv.cells len
      have hoff : l.sh.off (p ++ [i]) = l.sh.off p + i * se.size := by rw [hsh]; exact off_snoc hat
      rw [hp, hoff]
      obtain ⟨k, rfl⟩ : ∃ k, len = k + 1 := ⟨len - 1, by omega⟩
      simp [Builtin.clear_, ht, run_underlying hul w, hzr, hzc, hrc]
  · exact h.elim
theorem copy_sound (hT : TM ρ w tm a) (hh : HR Z B ρ H n w) (d s : Operand) (ts : Array TypeId) (ho : o.op = .call { callee := .builtin .copy, args := #[d, s], argTypes := ts }) (h : vCopy P (ev tm) H n K ts d s) : Runs P Z B K ρ w (execOp a.eval o) := by
  unfold vCopy at h
  obtain ⟨t, ht, h⟩ := bnd_iff.1 h
  obtain ⟨tx, htx, h⟩ := bnd_iff.1 h
  obtain ⟨et, het, h⟩ := bnd_iff.1 h
  obtain ⟨se, hse, h⟩ := bnd_iff.1 h
  obtain ⟨u, hu, h⟩ := bnd_iff.1 h
  obtain ⟨news, m2, ncs, h, hsn, hcn, hsrc, hnl, hkind⟩ := src_sound hh hT hu _ h
  have hul := EL_spec het
  obtain ⟨inf, dd, hi, hud, hisz, hrow⟩ := shOf_spec hse
  have hd := ev_sound hT d
  have hsz : (sizeOf et).run P w = .ok se.size w := by simp [sizeOf, typeInfo, hi, hisz]
  have hrun : ∀ (v : Value) (w' : World), (Builtin.copy_ ts o.type #[a.eval d, a.eval s]).run P w = .ok v w' → (execOp a.eval o).run P w = .ok (.value v) w' := fun v w' hr => by
    simp [execOp, ho, resolve, invoke, builtin, hr, Result.andThen]
  -- nothing is copied
  have nothing : ∀ A (dl : Nat) c, a.eval d = .slice A dl c → (dl = 0 ∨ news.length = 0) → (Builtin.copy_ ts o.type #[a.eval d, a.eval s]).run P w = .ok (.int .i64 0) w := fun A dl c hp h0 => by
    have hm : Nat.min news.length dl = 0 := by
      rcases h0 with rfl | h0
      · exact Nat.min_zero _
      · rw [h0]; exact Nat.zero_min _
    have hfc : (Builtin.firstCells se.size 0 (a.eval s)).run P w = .ok #[] w := by
      rcases hkind with ⟨A', c', hp'⟩ | ⟨b, hp', _⟩
      · rw [hp']
        cases A' with
        | none => rfl
        | some ad => simp [Builtin.firstCells, loadCells, loadCellsFrom]
      · rw [hp']
        simp [Builtin.firstCells]
    rw [hp]
    cases A with
    | none => simp [Builtin.copy_, ht, run_underlying hul w, hsrc.len w, hsz, hm, hfc, goInt]
    | some ad => simp [Builtin.copy_, ht, run_underlying hul w, hsrc.len w, hsz, hm, hfc, goInt, storeCells]
  unfold onV at h
  dsimp only at h
  split at h
  · rename_i k e
    rw [e] at hd
    simp only [VR,VR1,C1] at hd
    obtain ⟨rfl, hd⟩ := hd
    simp only [List.cons.injEq,and_true] at hd
    exact runs_value (hrun _ w (nothing _ _ _ hd (.inl rfl))) h (by simp [VR, VR1, C1]) hh
  · rename_i m p i len e
    rw [e] at hd
    obtain ⟨hok, h⟩ := h
    obtain ⟨sb, c, els, j, hb, hat, hgu, hle, h⟩ := splice_some h
    by_cases h0 : min news.length len = 0
    · have hA : ∃ (A : Option Addr) (dl : Nat) (c' : Nat), a.eval d = .slice A dl c' ∧ (dl = 0 ∨ news.length = 0) := by
        rcases hd.sl with ⟨h1, A, hp⟩ | ⟨l, c', e', j', hl, hp, _⟩
        · exact ⟨A, 0, 0, hp, .inl rfl⟩
        · exact ⟨_, len, c', hp, by omega⟩
      obtain ⟨A, dl, c', hp, hdl⟩ := hA
      have eT : news.take len = [] := by
        apply List.eq_nil_of_length_eq_zero
        rw [List.length_take]; omega
      rw [h0] at h
      have eG : upd H m (some (.row sb (c.set p (.agg (els.take i ++ news.take len ++ els.drop (i + 0)))))) = H := by
        rw [eT, List.append_nil, Nat.add_zero, List.take_append_drop]
        exact splice_nil hb hgu (vset_same p c _ hgu)
      rw [eG] at h
      exact runs_value (hrun _ w (nothing _ _ _ hp hdl)) h (by simp [VR, VR1, C1]) hh
    · rcases hd.sl with ⟨hl0, _⟩ | ⟨l, cap, e', j', hl, hp, hcap, hate, hroom⟩
      · omega
      -- the cells that are copied
      obtain ⟨cs, hcs, hfc, hlen⟩ : ∃ cs, CR ρ w (news.take len) cs ∧ (Builtin.firstCells se.size (min news.length len) (a.eval s)).run P w = .ok cs.toArray w ∧ True := by
        rcases Nat.lt_or_ge len news.length with hlt | hge
        · have hst : isStrV (ev tm s) = true := by
            rcases hok with h1 | h1
            · omega
            · exact h1
          have hs := ev_sound hT s
          cases hes : ev tm s <;> rw [hes] at hst <;> simp only [isStrV,Bool.false_eq_true] at hst
          rename_i b
          rw [hes] at hs
          have hp' := hs.str
          rcases hkind with ⟨A', c', hp2⟩ | ⟨b', hp2, hu2⟩
          · rw [hp'] at hp2; cases hp2
          · have hfull := hsrc.cells
            rw [hp'] at hfull
            simp only [Builtin.firstCells,Sem.run_pure,Result.ok.injEq,and_true] at hfull
            have hbl : b.length = news.length := by
              have := hsrc.len w
              rw [hp'] at this
              simp only [Builtin.lenOf,Sem.run_pure,Result.ok.injEq,and_true] at this
              exact this
            have hncs : ncs = b.map fun x => Value.int .u8 x.toNat := by
              have := congrArg Array.toList hfull
              simp only [List.toList_toArray] at this
              rw [← this]
              simp [ByteArray.extract, ByteArray.copySlice, hbl]
              rw [← hbl]
              exact List.take_of_length_le (by simp)
            have hse1 : se.size = 1 := by
              have h1 := hnl
              rw [hncs, List.length_map, hbl] at h1
              have : 0 < news.length := by omega
              rcases Nat.lt_trichotomy se.size 1 with h2 | h2 | h2
              · have : se.size = 0 := by omega
                rw [this] at h1; omega
              · exact h2
              · have := Nat.mul_lt_mul_of_pos_left h2 this
                omega
            obtain ⟨d1, d2, e1, e2, e3⟩ := CR.split (news.take len) (news.drop len) ncs (by rw [List.take_append_drop]; exact hcn)
            have l1 := HasA.len (s := se) _ d1 (fun v hv => hsn v (List.mem_of_mem_take hv)) e2
            rw [List.length_take, Nat.min_eq_left (by omega), hse1, Nat.mul_one] at l1
            refine ⟨d1, e2, ?_, trivial⟩
            rw [hp', Nat.min_eq_right (by omega)]
            have : d1 = (b.take len).map fun x => Value.int .u8 x.toNat := by
              have h3 : d1 = ncs.take len := by rw [e1, ← l1]; simp
              rw [h3, hncs, List.map_take]
            rw [this]
            simp only [Builtin.firstCells,Sem.run_pure]
            congr 1
            simp [ByteArray.extract, ByteArray.copySlice]
        · refine ⟨ncs, by rw [List.take_of_length_le hge]; exact hcn, ?_, trivial⟩
          rw [Nat.min_eq_left hge]
          exact hsrc.cells
      have hsn' : ∀ e ∈ news.take len, Has se e := fun e he => hsn e (List.mem_of_mem_take he)
      have hml : (news.take len).length = min news.length len := by rw [List.length_take, Nat.min_comm]
      obtain ⟨r1, r2, r3, r4⟩ := splice_part hh (news := news.take len) hb hl hgu hat (by rw [hml]; exact hle) hsn' hcs
      rw [hml] at r2
      have hone := HasA.one (s := se) _ _ hsn' hcs
      have hrc := run_cells_there (P := P) r1 hone
      have hsh : l.sh = sb := (hh.row m sb c l hb hl).sh
      refine .inl ⟨_, _, hrun (.int .i64 (min news.length len : Nat)) _ ?_, .int .i64 (min news.length len : Nat), _, _, ρ, h, by simp [VR, VR1, C1], r2, r3, r4⟩
      have hoff : l.sh.off (p ++ [i]) = l.sh.off p + i * se.size := by rw [hsh]; exact off_snoc hat
      rw [hp, hoff]
      have hmn : ∀ x y : Nat, Nat.min x y = min x y := fun _ _ => rfl
      simp [Builtin.copy_, ht, run_underlying hul w, hsrc.len w, hsz, hmn, hfc, hrc, goInt]
  · exact h.elim
theorem lenM_sound (hT : TM ρ w tm a) (hh : HR Z B ρ H n w) (x : Operand) (ts : Array TypeId) (ho : o.op = .call { callee := .builtin .len, args := #[x], argTypes := ts }) (h : vLenM P (ev tm) H n K x ts) : Runs P Z B K ρ w (execOp a.eval o) := by
  unfold vLenM onV at h
  dsimp only at h
  split at h
  · rename_i m e
    have hx := ev_sound hT x
    rw [e] at hx
    obtain ⟨l, hl, hp⟩ := hx.map
    obtain ⟨t, ht, h⟩ := bnd_iff.1 h
    obtain ⟨u, hu, h⟩ := bnd_iff.1 h
    split at h
    · rename_i kt et
      obtain ⟨b, hb, h⟩ := bnd_iff.1 h
      split at h
      · rename_i es
        obtain ⟨xs, clock, ho1, ho2⟩ := (hh.map m es l hb hl).obj
        have key : ∀ (es : List (VV × VV)) (xs : List MapEntry), ME ρ w es xs → es.length = xs.length := by
          intro es
          induction es with
          | nil => intro xs h; simp only [ME] at h; simp [h]
          | cons q es ih =>
            intro xs h
            obtain ⟨y, ys, rfl, _, _, _, h4⟩ := h
            simp [ih ys h4]
        have hk : es.length = xs.size := by simpa using key es xs.toList ho2
        have hz : ((xs.size : Nat) : Int) = (es.length : Nat) := by rw [hk]
        refine runs_value (x := .int .i64 es.length) ?_ h (by simp [VR, VR1, C1]) hh
        simp [execOp, ho, resolve, invoke, builtin, hp, Builtin.len_, ht, run_underlying hu w, Go.MapKept.run_getObj_map ho1, goInt, hz]
      · exact h.elim
    · exact h.elim
  · exact len_sound hT hh x ts ho h
end
end Go.Proofs.YtcilmfhncjfdbaaDoor.V
end
