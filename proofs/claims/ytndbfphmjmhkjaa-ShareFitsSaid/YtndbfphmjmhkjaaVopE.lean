/-
  A MACHINE OF VALUES, SEVENTH PART: zero values, new variables, literals, new slices.
-/
import Derived.Test.YtndbfphmjmhkjaaVopD
set_option linter.unusedVariables false
set_option linter.unusedSectionVars false
set_option linter.unusedSimpArgs false
namespace Go.Proofs.Ytndbfphmjmhkjaa.V
open Go Go.RowKit

/-! ### zero values -/
mutual
/-- the cells of a value without addresses -/
def flatz : VV → Option (List Value)
  | .int k n => some [.int k n]
  | .bool b => some [.bool b]
  | .str s => some [.string ⟨s.toArray⟩]
  | .sl none 0 => some [.slice none 0 0]
  | .raw v => if v.oneCell' then some [v] else none
  | .agg vs => flatzs vs
  | _ => none
def flatzs : List VV → Option (List Value)
  | [] => some []
  | v :: vs => match flatz v, flatzs vs with
    | some a, some b => some (a ++ b)
    | _, _ => none
end
mutual
theorem flatz_sound (ρ : Names) (w : World) : ∀ (v : VV) (cs : List Value), flatz v = some cs → C1 ρ w v cs
  | .int k n, cs, h => by simp only [flatz,Option.some.injEq] at h; simp only [C1]; exact h.symm
  | .bool b, cs, h => by simp only [flatz,Option.some.injEq] at h; simp only [C1]; exact h.symm
  | .str s, cs, h => by simp only [flatz,Option.some.injEq] at h; simp only [C1]; exact h.symm
  | .sl none 0, cs, h => by simp only [flatz,Option.some.injEq] at h; simp only [C1,true_and]; exact h.symm
  | .raw v, cs, h => by
    simp only [flatz] at h
    split at h
    · injection h with h; simp only [C1]; exact h.symm
    · cases h
  | .agg vs, cs, h => by simp only [flatz] at h; simp only [C1]; exact flatzs_sound ρ w vs cs h
  | .sl (some _) _, _, h => by simp [flatz] at h
  | .sl none (_ + 1), _, h => by simp [flatz] at h
  | .tup _, _, h | .ptr _ _, _, h | .fn _ _, _, h | .map _, _, h | .dat _ _, _, h | .pd _ _, _, h | .vec _ _, _, h | .any, _, h => by simp [flatz] at h
theorem flatzs_sound (ρ : Names) (w : World) : ∀ (vs : List VV) (cs : List Value), flatzs vs = some cs → CR ρ w vs cs
  | [], cs, h => by simp only [flatzs,Option.some.injEq] at h; simp only [CR]; exact h.symm
  | v :: vs, cs, h => by
    simp only [flatzs] at h
    split at h
    · rename_i a b ha hb
      injection h with h
      simp only [CR]
      exact ⟨a, b, h.symm, flatz_sound ρ w v a ha, flatzs_sound ρ w vs b hb⟩
    · cases h
end
mutual
def hasB : Sh → VV → Bool
  | .cell, v => v.leaf
  | .st ls, .agg vs => hasLB ls vs
  | .arr n s, .agg vs => vs.length == n && vs.all (hasB s)
  | _, _ => false
def hasLB : List Sh → List VV → Bool
  | [], vs => vs.isEmpty
  | s :: ls, v :: vs => hasB s v && hasLB ls vs
  | _ :: _, [] => false
end
mutual
theorem hasB_sound : ∀ (s : Sh) (v : VV), hasB s v = true → Has s v
  | .cell, v, h => by simp only [hasB] at h; simp only [Has]; exact h
  | .st ls, v, h => by
    cases v <;> simp only [hasB] at h <;> first | exact (Bool.false_ne_true h).elim | skip
    simp only [Has]
    exact hasLB_sound ls _ h
  | .arr n s, v, h => by
    cases v <;> simp only [hasB] at h <;> first | exact (Bool.false_ne_true h).elim | skip
    simp only [Bool.and_eq_true,beq_iff_eq,List.all_eq_true] at h
    simp only [Has]
    exact ⟨h.1, fun v hv => hasB_sound s v (h.2 v hv)⟩
theorem hasLB_sound : ∀ (ls : List Sh) (vs : List VV), hasLB ls vs = true → HasL ls vs
  | [], vs, h => by simp only [hasLB,List.isEmpty_iff] at h; simp only [HasL]; exact h
  | s :: ls, v :: vs, h => by
    simp only [hasLB,Bool.and_eq_true] at h
    simp only [HasL]
    exact ⟨hasB_sound s v h.1, hasLB_sound ls vs h.2⟩
  | _ :: _, [], h => by simp [hasLB] at h
end
def beqCell : Value → Value → Bool
  | .int k a, .int k' b => k == k' && a == b
  | .bool a, .bool b => a == b
  | .string a, .string b => a.data.toList == b.data.toList
  | .slice none 0 0, .slice none 0 0 => true
  | .pointer none, .pointer none => true
  | .map none, .map none => true
  | .nilFunc, .nilFunc => true
  | .nilIface, .nilIface => true
  | _, _ => false
theorem beqCell_sound {a b : Value} (h : beqCell a b = true) : a = b := by
  unfold beqCell at h
  split at h <;> try rfl
  · simp only [Bool.and_eq_true,beq_iff_eq] at h; rw [h.1, h.2]
  · simp only [beq_iff_eq] at h; rw [h]
  · rename_i x y
    simp only [beq_iff_eq] at h
    obtain ⟨x⟩ := x
    obtain ⟨y⟩ := y
    have : x = y := Array.ext' h
    rw [this]
  · cases h
def beqCells : List Value → List Value → Bool
  | [], [] => true
  | a :: l, b :: m => beqCell a b && beqCells l m
  | _, _ => false
theorem beqCells_sound : ∀ (a b : List Value), beqCells a b = true → a = b
  | [], [], _ => rfl
  | a :: l, b :: m, h => by
    simp only [beqCells,Bool.and_eq_true] at h
    rw [beqCell_sound h.1, beqCells_sound l m h.2]
  | [], _ :: _, h => by simp [beqCells] at h
  | _ :: _, [], h => by simp [beqCells] at h
/-- the zero value of a type, as its table would have it -/
def zeroOf (P : Program) : Nat → TypeId → Option VV
  | 0, _ => none
  | n + 1, t => match P.underlying t with
    | some (.int k) => some (.int k 0)
    | some .bool => some (.bool false)
    | some .string => some (.str [])
    | some (.slice _) => some (.sl none 0)
    | some (.pointer _) => some (.raw (.pointer none))
    | some (.map _ _) => some (.raw (.map none))
    | some (.func _ _ _) => some (.raw .nilFunc)
    | some (.interface _) => some (.raw .nilIface)
    | some (.struct fs) => match fs.toList.foldr (fun f acc => match acc, zeroOf P n f.type with
          | some l, some s => some (s :: l)
          | _, _ => none) (some []) with
      | some l => some (.agg l)
      | none => none
    | some (.array k e) => match zeroOf P n e with
      | some z => some (.agg (List.replicate k z))
      | none => none
    | _ => none
def isAggV : Value → Bool
  | .agg _ => true
  | _ => false
def VV.isAgg : VV → Bool
  | .agg _ => true
  | _ => false
def ZE (P : Program) (t : TypeId) : Option VV := match SH P t, zeroOf P 10 t, (P.info? t).bind (·.zero) with
  | some s, some z, some zv => match flatz z with
    | some cs => if hasB s z && beqCells cs zv.cells.toList && (z.isAgg == isAggV zv) && (zv.cells.size == s.size) then some z else none
    | none => none
  | _, _, _ => none
theorem ZE_spec {P : Program} {t : TypeId} {z : VV} (h : ZE P t = some z) :
    ∃ s zv i, SH P t = some s ∧ P.info? t = some i ∧ i.zero = some zv ∧ Has s z ∧ zv.cells.size = s.size ∧ ∀ ρ w, VR ρ w z zv ∧ C1 ρ w z zv.cells.toList := by
  unfold ZE at h
  split at h
  · rename_i s z' zv hs hz hi
    split at h
    · rename_i cs hf
      split at h
      · rename_i hc
        injection h with h
        subst h
        simp only [Bool.and_eq_true,beq_iff_eq] at hc
        obtain ⟨⟨⟨h1, h2⟩, h3⟩, h4⟩ := hc
        obtain ⟨i, hi1, hi2⟩ := Option.bind_eq_some_iff.1 hi
        have he := beqCells_sound _ _ h2
        have hH := hasB_sound s z' h1
        refine ⟨s, zv, i, hs, hi1, hi2, hH, h4, fun ρ w => ?_⟩
        have hC := flatz_sound ρ w z' cs hf
        rw [he] at hC
        refine ⟨?_, hC⟩
        cases z' with
        | agg vs =>
          cases zv <;> simp [isAggV, VV.isAgg] at h3
          simp only [C1] at hC
          exact ⟨_, rfl, hC⟩
        | _ =>
          have hl : ∀ zv : Value, isAggV zv = false → zv.cells = #[zv] := fun zv hz => by cases zv <;> first | rfl | simp [isAggV] at hz
          rw [hl zv (by simpa [VV.isAgg] using h3.symm)] at hC
          first | exact hC | (simp [flatz] at hf)
      · cases h
    · cases h
  · cases h

section
variable (P : Program) (e : Operand → VV) (H : Heap) (n : Nat) (K : VV → Heap → Nat → Prop)
def vAlloc (t : TypeId) : Prop := bnd (SH P t) fun s => bnd (ZE P t) fun z => K (.ptr n []) (upd H n (some (.row s z))) (n + 1)
def setParts : List (Nat × Operand) → List VV → List VV
  | [], zs => zs
  | (i, x) :: ps, zs => setParts ps (zs.set i (e x))
def HasParts (f : Nat → Option Sh) : List (Nat × Operand) → Prop
  | [] => True
  | (i, x) :: ps => (match f i with | some s => Has s (e x) | none => False) ∧ HasParts f ps
def vBuild (t : TypeId) (parts : List (Nat × Operand)) : Prop := bnd (SH P t) fun s => bnd (ZE P t) fun z => match s, z with
  | .st ls, .agg zs => cnd (HasParts e (fun i => ls[i]?) parts) (K (.agg (setParts e parts zs)) H n)
  | .arr k s, .agg zs => cnd (HasParts e (fun i => if i < k then some s else none) parts) (K (.agg (setParts e parts zs)) H n)
  | _, _ => False
def vBuildSlice (t : TypeId) (len : Nat) (parts : List (Nat × Operand)) : Prop := bnd (EL P t) fun et => bnd (SH P et) fun s => bnd (ZE P et) fun z =>
  cnd (HasParts e (fun i => if i < len then some s else none) parts ∧ len * s.size ≤ 16777216 ∧ s.size ≠ 0)
    (K (.sl (some (n, [], 0)) len) (upd H n (some (.row (.arr len s) (.agg (setParts e parts (List.replicate len z)))))) (n + 1))
def BY (t : TypeId) : Nat := ((P.info? t).map (·.bytes)).getD 0
def vMakeSlice (t : TypeId) (l c : Operand) : Prop := onV (e l) fun u => onV (e c) fun v => match u, v with
  | .int _ i, .int _ j => bnd (EL P t) fun et => bnd (SH P et) fun s => bnd (ZE P et) fun z =>
    cnd (0 ≤ i ∧ i ≤ j ∧ j ≤ 1000000000000 ∧ BY P et ≤ 200) (K (.sl (some (n, [], 0)) i.toNat) (upd H n (some (.row (.arr i.toNat s) (.agg (List.replicate i.toNat z))))) (n + 1))
  | _, _ => False
end

section
variable {P : Program} {Z : Nat → Nat → Prop} [Zone Z] {B : Nat} {ρ : Names} {w : World} {H : Heap} {n : Nat} {tm : Nat → VV} {a : Act} {K : VV → Heap → Nat → Prop} {o : Oper}
theorem alloc_sound (hh : HR Z B ρ H n w) (hG : Gives Z n K) (t : TypeId) (ho : o.op = .alloc t) (h : vAlloc P H n K t) : Runs P Z B K ρ w (execOp a.eval o) := by
  unfold vAlloc at h
  replace h := bnd_iff.1 h
  obtain ⟨s, hs, h⟩ := h
  replace h := bnd_iff.1 h
  obtain ⟨z, hz, h⟩ := h
  obtain ⟨s', zv, i, hs', hi, hzv, hH, hsz, hV⟩ := ZE_spec hz
  rw [hs] at hs'
  injection hs' with hs'
  subst hs'
  obtain ⟨l, e1, e2, e3, e4, h1, h2, h3⟩ := new_block hh (hG.one h) (t := t) (cells := zv.cells) (tail := []) hH (hV ρ w).2 (by simp)
  refine .inl ⟨.pointer (some ⟨w.heap.size, 0, none⟩), _, ?_, _, _, _, _, h, ?_, h1, h2, h3⟩
  · simp [execOp, ho, Instr.alloc, newVar, newRow, zeroValue, typeInfo, hi, hzv]
  · simp only [VR,VR1,C1]
    exact ⟨l, by rw [give_ap, if_pos rfl], by rw [e1, e2]; simp [Sh.off]⟩
theorem fill_list (off : Nat) : ∀ (cs : List Value) (k : Nat) (a : Array Value) (pre mid post : List Value), a.toList = pre ++ mid ++ post → mid.length = cs.length → pre.length = off + k →
    ((cs.zipIdx k).foldl (fun a (x : Value × Nat) => a.setIfInBounds (off + x.2) x.1) a).toList = pre ++ cs ++ post
  | [], k, a, pre, mid, post, h, hm, hp => by
    have : mid = [] := List.eq_nil_of_length_eq_zero (by simpa using hm)
    subst this
    simpa using h
  | c :: cs, k, a, pre, mid, post, h, hm, hp => by
    cases mid with
    | nil => simp at hm
    | cons m mid =>
      rw [List.zipIdx_cons, List.foldl_cons]
      have := fill_list off cs (k + 1) (a.setIfInBounds (off + k) c) (pre ++ [c]) mid post (by
        rw [Array.toList_setIfInBounds, h, ← hp]
        simp) (by simpa using hm) (by simp; omega)
      rw [this]
      simp
/-- parts laid into a value -/
theorem fill_parts (hT : TM ρ w tm a) (place : Nat → Option (Nat × Nat)) (f : Nat → Option Sh) (sz : Sh) (hsz : sz ≠ .cell)
    (hat : ∀ i s, f i = some s → sz.at [i] = some s ∧ place i = some (sz.off [i], s.size)) (hlen : ∀ vs, Has sz (.agg vs) → ∀ i s, f i = some s → i < vs.length) :
    ∀ (ps : List (Nat × Operand)) (vs : List VV) (cells : Array Value), Has sz (.agg vs) → CR ρ w vs cells.toList → HasParts (ev tm) f ps →
      ∃ cells', Instr.fill place cells (ps.map fun x => (x.1, a.eval x.2)) = some cells' ∧ Has sz (.agg (setParts (ev tm) ps vs)) ∧ CR ρ w (setParts (ev tm) ps vs) cells'.toList
  | [], vs, cells, hs, hc, hp => ⟨cells, rfl, hs, hc⟩
  | (i, x) :: ps, vs, cells, hs, hc, hp => by
    obtain ⟨h1, h2⟩ := hp
    split at h1
    · rename_i s hf
      obtain ⟨g1, g2⟩ := hat i s hf
      have hi := hlen vs hs i s hf
      obtain ⟨su, pre, mid, post, k1, k2, k3, k4, k5, k6, k7⟩ := focus [i] sz (.agg vs) vs[i] cells.toList hs (by simp [VV.get, hi]) (by simp only [C1]; exact hc)
      rw [g1] at k1
      injection k1 with k1
      subst k1
      have hv := val_cells h1 (ev_sound hT x)
      have hvl := Has.len _ _ _ h1 hv
      have hml := Has.len _ _ _ k2 k5
      rw [Array.length_toList] at hvl
      have hset : (VV.agg vs).set [i] (ev tm x) = .agg (vs.set i (ev tm x)) := by simp [VV.set, hi]
      have hcl : cells.size = pre.length + mid.length + post.length := by
        have := congrArg List.length k3
        simp only [Array.length_toList,List.length_append] at this
        exact this
      have hfill := fill_list (sz.off [i]) (a.eval x).cells.toList 0 cells pre mid post k3 (by rw [hml, Array.length_toList, hvl]) (by omega)
      have hC := k7 ρ w (ev tm x) _ (Ext.refl _ _) hv
      rw [hset] at hC
      simp only [C1] at hC
      have hH := k6 _ h1
      rw [hset] at hH
      obtain ⟨cells', f1, f2, f3⟩ := fill_parts hT place f sz hsz hat hlen ps (vs.set i (ev tm x)) _ hH (by rw [← hfill] at hC; exact hC) h2
      refine ⟨cells', ?_, f2, f3⟩
      rw [← f1, List.map_cons, Instr.fill, g2]
      show (if (decide ((a.eval x).cells.size ≠ s.size) || decide (sz.off [i] + (a.eval x).cells.size > cells.size)) = true then none else _) = _
      rw [if_neg (by simp only [Bool.or_eq_true,decide_eq_true_eq,ne_eq]; omega)]
      congr 1
      rw [← Array.foldl_toList]
      simp
    · exact h1.elim
theorem map_parts (parts : Array (Nat × Operand)) : (parts.map fun (x : Nat × Operand) => (x.1, a.eval x.2)).toList = parts.toList.map fun x => (x.1, a.eval x.2) := by simp
theorem places_some (g : Field → Nat) : ∀ (l : List Field), (∀ f ∈ l, ∃ i, P.info? f.type = some i ∧ i.size = g f) → l.mapM (fun f => (P.info? f.type).map fun i => (f.offset, i.size)) = some (l.map fun f => (f.offset, g f))
  | [], _ => rfl
  | f :: l, h => by
    obtain ⟨i, h1, h2⟩ := h f (by simp)
    have := places_some g l (fun f hf => h f (by simp [hf]))
    simp [List.mapM_cons, h1, h2, this]
theorem mapM_places (fs : Array Field) (g : Field → Nat) (h : ∀ f ∈ fs.toList, ∃ i, P.info? f.type = some i ∧ i.size = g f) :
    (fs.mapM fun f => (do pure (f.offset, ← sizeOf f.type) : Sem (Nat × Nat))).run P w = .ok (fs.map fun f => (f.offset, g f)) w := by
  have := run_places w fs.toList _ (places_some (P := P) g fs.toList h)
  rw [Array.mapM_eq_mapM_toList]
  simp [this]
  apply Array.ext'
  simp
theorem build_sound (hT : TM ρ w tm a) (hh : HR Z B ρ H n w) (t : TypeId) (parts : Array (Nat × Operand)) (ho : o.op = .build t parts) (h : vBuild P (ev tm) H n K t parts.toList) : Runs P Z B K ρ w (execOp a.eval o) := by
  unfold vBuild at h
  replace h := bnd_iff.1 h
  obtain ⟨s, hs, h⟩ := h
  replace h := bnd_iff.1 h
  obtain ⟨z, hz, h⟩ := h
  obtain ⟨s', zv, i, hs', hi, hzv, hH, hsz, hV⟩ := ZE_spec hz
  rw [hs] at hs'
  injection hs' with hs'
  subst hs'
  obtain ⟨i', d, hi', hu, hisz, hrow⟩ := shOf_spec hs
  rw [hi] at hi'
  injection hi' with hi'
  subst hi'
  split at h
  · rename_i ls zs
    obtain ⟨hp, h⟩ := h
    obtain ⟨fs, g1, g2, g3⟩ := SH_struct hs
    obtain ⟨cs, rfl, hcr⟩ := (hV ρ w).1.agg
    have hplaces := mapM_places (P := P) (w := w) fs (fun f => ((P.info? f.type).map (·.size)).getD 0) (fun f hf => by
      obtain ⟨k, hk, rfl⟩ := List.getElem_of_mem hf
      obtain ⟨f', h1, h2, h3⟩ := g3 k ls[k] (by simp at hk; simp [← g2, hk])
      obtain ⟨inf, _, h4, _⟩ := shOf_spec h3
      simp at hk
      have : f' = fs.toList[k] := by simpa [hk] using h1.symm
      subst this
      exact ⟨inf, h4, by rw [h4]; rfl⟩)
    obtain ⟨cells', f1, f2, f3⟩ := fill_parts hT (fun i => (fs.map fun f => (f.offset, ((P.info? f.type).map (·.size)).getD 0))[i]?) (fun i => ls[i]?) (.st ls) (by simp) (fun i s hi => by
      obtain ⟨f', h1, h2, h3⟩ := g3 i s hi
      obtain ⟨inf, _, h4, _, h5, _⟩ := shOf_spec h3
      exact ⟨by simp [Sh.at, hi], by simp [h1, h4, h2, h5, Sh.off, hi]⟩) (fun vs hvs i s hi => by
      simp only [Has] at hvs
      have : ∀ (ls : List Sh) (vs : List VV), HasL ls vs → ls.length = vs.length := fun ls => by
        induction ls with
        | nil => intro vs hv; simp only [HasL] at hv; simp [hv]
        | cons s ls ih =>
          intro vs hv
          cases vs with
          | nil => simp [HasL] at hv
          | cons v vs => simp only [HasL] at hv; simp [ih vs hv.2]
      have := this ls vs hvs
      have := (List.getElem?_eq_some_iff.1 hi).1
      omega) parts.toList zs cs hH hcr hp
    refine runs_value (x := .agg cells') ?_ h ⟨_, rfl, f3⟩ hh
    rw [← map_parts parts] at f1
    simp only [execOp,ho,Instr.build,zeroValue,typeInfo,Sem.run_bind,Sem.run_pure,Result.andThen_ok,run_program,hi,hzv,run_underlying g1 w,hplaces,Value.cells]
    rw [f1]
    rfl
  · rename_i k s zs
    obtain ⟨hp, h⟩ := h
    obtain ⟨e, g1, g2⟩ := SH_array hs
    obtain ⟨inf, _, h4, _, h5, _⟩ := shOf_spec g2
    obtain ⟨cs, rfl, hcr⟩ := (hV ρ w).1.agg
    obtain ⟨cells', f1, f2, f3⟩ := fill_parts hT (fun i => some (i * inf.size, inf.size)) (fun i => if i < k then some s else none) (.arr k s) (by simp) (fun i s' hi => by
      split at hi
      · injection hi with hi
        subst hi
        exact ⟨by simp [Sh.at], by simp [h5, Sh.off]⟩
      · cases hi) (fun vs hvs i s' hi => by
      simp only [Has] at hvs
      split at hi
      · omega
      · cases hi) parts.toList zs cs hH hcr hp
    refine runs_value (x := .agg cells') ?_ h ⟨_, rfl, f3⟩ hh
    rw [← map_parts parts] at f1
    simp only [execOp,ho,Instr.build,zeroValue,typeInfo,sizeOf,Sem.run_bind,Sem.run_pure,Result.andThen_ok,run_program,hi,hzv,h4,run_underlying g1 w,Value.cells]
    rw [f1]
    rfl
  · exact h.elim
end
end Go.Proofs.Ytndbfphmjmhkjaa.V
