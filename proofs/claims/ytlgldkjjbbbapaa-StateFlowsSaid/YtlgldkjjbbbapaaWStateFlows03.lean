/-
  Parts of the proof of StateFlows: VopJ, VopK, Vrun, Vspec, Vty.
  Conditions: none.
-/
import Derived.Test.YtlgldkjjbbbapaaWStateFlows02
import Derived.Laws.StructEq
import Derived.ChangeKeysEq
import Derived.MapKept
import Derived.Test.YtlgldkjjbbbapaaWStateFlows01
section
/-
  A MACHINE OF VALUES, PART J: structs and arrays compared; slices held against nil; max; arrays out of slices.
-/
set_option linter.unusedVariables false
set_option linter.unusedSectionVars false
set_option linter.unusedSimpArgs false
namespace Go.Proofs.Ytlgldkjjbbbapaa.V
open Go Go.RowKit

inductive EQ where
  | int (k : IntKind)
  | bool
  | str
  | st (l : List EQ)
  | arr (n : Nat) (q : EQ)
mutual
def EQ.sh : EQ → Sh
  | .int _ => .cell
  | .bool => .cell
  | .str => .cell
  | .st l => .st (EQ.shs l)
  | .arr n q => .arr n q.sh
def EQ.shs : List EQ → List Sh
  | [] => []
  | q :: l => q.sh :: EQ.shs l
end
mutual
def shB : Sh → Sh → Bool
  | .cell, .cell => true
  | .st a, .st b => shBs a b
  | .arr n a, .arr m b => n == m && shB a b
  | _, _ => false
def shBs : List Sh → List Sh → Bool
  | [], [] => true
  | a :: l, b :: m => shB a b && shBs l m
  | _, _ => false
end
mutual
theorem shB_eq : ∀ (a b : Sh), shB a b = true → a = b
  | .cell, .cell, _ => rfl
  | .st a, .st b, h => by rw [shBs_eq a b (by simpa only [shB] using h)]
  | .arr n a, .arr m b, h => by
    simp only [shB,Bool.and_eq_true,beq_iff_eq] at h
    rw [h.1, shB_eq a b h.2]
  | .cell, .st _, h | .cell, .arr _ _, h | .st _, .cell, h | .st _, .arr _ _, h | .arr _ _, .cell, h | .arr _ _, .st _, h => by simp [shB] at h
theorem shBs_eq : ∀ (a b : List Sh), shBs a b = true → a = b
  | [], [], _ => rfl
  | a :: l, b :: m, h => by
    simp only [shBs,Bool.and_eq_true] at h
    rw [shB_eq a b h.1, shBs_eq l m h.2]
  | [], _ :: _, h | _ :: _, [], h => by simp [shBs] at h
end
def eqFs (g : TypeId → Option EQ) : List Field → Nat → Option (List EQ)
  | [], _ => some []
  | f :: fs, o => match g f.type with
    | some q => match eqFs g fs (o + q.sh.size) with
      | some qs => if f.name ≠ "_" ∧ f.offset = o then some (q :: qs) else none
      | none => none
    | none => none
def eqOf (P : Program) : Nat → TypeId → Option EQ
  | 0, _ => none
  | n + 1, t => match (match P.underlying t with
      | some (.int k) => some (.int k)
      | some .bool => some .bool
      | some .string => some .str
      | some (.struct fs) => if P.stoodInHeld t = false then (match eqFs (eqOf P n) fs.toList 0 with | some qs => some (.st qs) | none => none) else none
      | some (.array k e) => match eqOf P n e with
        | some q => if P.cellsOf e = q.sh.size ∧ (P.info? e).isSome = true then some (.arr k q) else none
        | none => none
      | _ => none : Option EQ) with
    | some q => match shOf P 10 t with
      | some s => if shB s q.sh = true then some q else none
      | none => none
    | none => none
def EQT (P : Program) (t : TypeId) : Option EQ := if P.eqGuardType P.depth t = false then eqOf P 10 t else none
mutual
def Fit : EQ → VV → Prop
  | .int k, .int k' _ => k = k'
  | .bool, .bool _ => True
  | .str, .str _ => True
  | .st l, .agg vs => FitL l vs
  | .arr n q, .agg vs => vs.length = n ∧ ∀ v ∈ vs, Fit q v
  | _, _ => False
def FitL : List EQ → List VV → Prop
  | [], vs => vs = []
  | q :: l, v :: vs => Fit q v ∧ FitL l vs
  | _ :: _, [] => False
end
mutual
def veq : VV → VV → Bool
  | .int _ a, .int _ b => a == b
  | .bool a, .bool b => a == b
  | .str a, .str b => a == b
  | .agg a, .agg b => veqs a b
  | _, _ => false
def veqs : List VV → List VV → Bool
  | [], [] => true
  | a :: l, b :: m => veq a b && veqs l m
  | _, _ => false
end
mutual
theorem Fit.has : ∀ (q : EQ) (v : VV), Fit q v → Has q.sh v
  | .int _, .int _ _, _ => by simp [EQ.sh, Has, VV.leaf]
  | .bool, .bool _, _ => by simp [EQ.sh, Has, VV.leaf]
  | .str, .str _, _ => by simp [EQ.sh, Has, VV.leaf]
  | .st l, .agg vs, h => by simp only [Fit] at h; simp only [EQ.sh,Has]; exact FitL.has l vs h
  | .arr n q, .agg vs, h => by simp only [Fit] at h; simp only [EQ.sh,Has]; exact ⟨h.1, fun v hv => Fit.has q v (h.2 v hv)⟩
  | .int _, .bool _, h | .int _, .str _, h | .int _, .agg _, h | .int _, .tup _, h | .int _, .sl _ _, h | .int _, .ptr _ _, h | .int _, .fn _ _, h | .int _, .map _, h | .int _, .dat _ _, h | .int _, .pd _ _, h | .int _, .vec _ _, h | .int _, .any, h | .int _, .raw _, h => by simp [Fit] at h
  | .bool, .int _ _, h | .bool, .str _, h | .bool, .agg _, h | .bool, .tup _, h | .bool, .sl _ _, h | .bool, .ptr _ _, h | .bool, .fn _ _, h | .bool, .map _, h | .bool, .dat _ _, h | .bool, .pd _ _, h | .bool, .vec _ _, h | .bool, .any, h | .bool, .raw _, h => by simp [Fit] at h
  | .str, .int _ _, h | .str, .bool _, h | .str, .agg _, h | .str, .tup _, h | .str, .sl _ _, h | .str, .ptr _ _, h | .str, .fn _ _, h | .str, .map _, h | .str, .dat _ _, h | .str, .pd _ _, h | .str, .vec _ _, h | .str, .any, h | .str, .raw _, h => by simp [Fit] at h
  | .st _, .int _ _, h | .st _, .bool _, h | .st _, .str _, h | .st _, .tup _, h | .st _, .sl _ _, h | .st _, .ptr _ _, h | .st _, .fn _ _, h | .st _, .map _, h | .st _, .dat _ _, h | .st _, .pd _ _, h | .st _, .vec _ _, h | .st _, .any, h | .st _, .raw _, h => by simp [Fit] at h
  | .arr _ _, .int _ _, h | .arr _ _, .bool _, h | .arr _ _, .str _, h | .arr _ _, .tup _, h | .arr _ _, .sl _ _, h | .arr _ _, .ptr _ _, h | .arr _ _, .fn _ _, h | .arr _ _, .map _, h | .arr _ _, .dat _ _, h | .arr _ _, .pd _ _, h | .arr _ _, .vec _ _, h | .arr _ _, .any, h | .arr _ _, .raw _, h => by simp [Fit] at h
theorem FitL.has : ∀ (l : List EQ) (vs : List VV), FitL l vs → HasL (EQ.shs l) vs
  | [], vs, h => by simp only [FitL] at h; simp only [EQ.shs,HasL]; exact h
  | q :: l, v :: vs, h => by simp only [FitL] at h; simp only [EQ.shs,HasL]; exact ⟨Fit.has q v h.1, FitL.has l vs h.2⟩
  | _ :: _, [], h => by simp [FitL] at h
end
section
variable {P : Program} {ρ : Names} {w : World}
theorem eqOf_sh {n : Nat} {t : TypeId} {q : EQ} (h : eqOf P n t = some q) : shOf P 10 t = some q.sh := by
  cases n with
  | zero => simp [eqOf] at h
  | succ n =>
    unfold eqOf at h
    split at h
    · split at h
      · rename_i s hs
        split at h
        · rename_i hb
          injection h with h
          subst h
          rw [hs, shB_eq _ _ hb]
        · cases h
      · cases h
    · cases h
theorem eqFields_sound {g : TypeId → Option EQ} {d : Nat} (hg : ∀ t q u v x y, g t = some q → Fit q u → Fit q v → VR ρ w u x → VR ρ w v y → (Op.equalIn d t x y).run P w = .ok (veq u v) w) (hs : ∀ t q, g t = some q → shOf P 10 t = some q.sh)
    (xs ys : Array Value) : ∀ (fs : List Field) (qs : List EQ) (o : Nat) (us vs : List VV) (p1 m1 p2 m2 : List Value), eqFs g fs o = some qs → FitL qs us → FitL qs vs → CR ρ w us m1 → CR ρ w vs m2 →
      xs.toList = p1 ++ m1 → ys.toList = p2 ++ m2 → p1.length = o → p2.length = o → (Op.eqFields d xs ys fs).run P w = .ok (veqs us vs) w
  | [], qs, o, us, vs, p1, m1, p2, m2, h, hu, hv, _, _, _, _, _, _ => by
    simp only [eqFs,Option.some.injEq] at h
    subst h
    simp only [FitL] at hu hv
    subst hu hv
    simp [Op.eqFields, veqs]
  | f :: fs, qs, o, us, vs, p1, m1, p2, m2, h, hu, hv, c1, c2, e1, e2, l1, l2 => by
    unfold eqFs at h
    split at h
    · rename_i q hq
      split at h
      · rename_i qs' hqs
        split at h
        · rename_i hc
          obtain ⟨hc1, hc2⟩ := hc
          injection h with h
          subst h
          cases us with
          | nil => simp [FitL] at hu
          | cons u us =>
            cases vs with
            | nil => simp [FitL] at hv
            | cons v vs =>
              simp only [FitL] at hu hv
              simp only [CR] at c1 c2
              obtain ⟨a1, b1, rfl, c11, c12⟩ := c1
              obtain ⟨a2, b2, rfl, c21, c22⟩ := c2
              have hsh := hs f.type q hq
              have hu1 := Fit.has q u hu.1
              have hv1 := Fit.has q v hv.1
              obtain ⟨x, hx, hxv⟩ := part_run (P := P) hsh hu1 c11 (show xs.toList = p1 ++ a1 ++ b1 by rw [e1, List.append_assoc])
              obtain ⟨y, hy, hyv⟩ := part_run (P := P) hsh hv1 c21 (show ys.toList = p2 ++ a2 ++ b2 by rw [e2, List.append_assoc])
              have la1 := Has.len q.sh u a1 hu1 c11
              have la2 := Has.len q.sh v a2 hv1 c21
              have ih := eqFields_sound hg hs xs ys fs qs' (o + q.sh.size) us vs (p1 ++ a1) b1 (p2 ++ a2) b2 hqs hu.2 hv.2 c12 c22 (by rw [e1, List.append_assoc]) (by rw [e2, List.append_assoc]) (by rw [List.length_append]; omega) (by rw [List.length_append]; omega)
              rw [l1] at hx
              rw [l2] at hy
              simp only [Op.eqFields,hc1,ne_eq,not_false_eq_true,if_true,Sem.run_bind,hc2,hx,hy,Result.andThen_ok,hg f.type q u v x y hq hu.1 hv.1 hxv hyv,veqs]
              cases veq u v
              · simp
              · simp [ih]
        · cases h
      · cases h
    · cases h
theorem eqItems_sound {e : TypeId} {q : EQ} {d : Nat} (hg : ∀ u v x y, Fit q u → Fit q v → VR ρ w u x → VR ρ w v y → (Op.equalIn d e x y).run P w = .ok (veq u v) w) (hs : shOf P 10 e = some q.sh)
    (xs ys : Array Value) : ∀ (n i : Nat) (us vs : List VV) (p1 m1 p2 m2 : List Value), us.length = n → vs.length = n → (∀ u ∈ us, Fit q u) → (∀ v ∈ vs, Fit q v) → CR ρ w us m1 → CR ρ w vs m2 →
      xs.toList = p1 ++ m1 → ys.toList = p2 ++ m2 → p1.length = i * q.sh.size → p2.length = i * q.sh.size → (Op.eqItems d e q.sh.size xs ys (List.range' i n)).run P w = .ok (veqs us vs) w
  | 0, i, us, vs, p1, m1, p2, m2, h1, h2, hu, hv, _, _, _, _, _, _ => by
    have h1 := List.eq_nil_of_length_eq_zero h1
    have h2 := List.eq_nil_of_length_eq_zero h2
    subst h1 h2
    simp [Op.eqItems, veqs]
  | n + 1, i, us, vs, p1, m1, p2, m2, h1, h2, hu, hv, c1, c2, e1, e2, l1, l2 => by
    cases us with
    | nil => simp at h1
    | cons u us =>
      cases vs with
      | nil => simp at h2
      | cons v vs =>
        simp only [CR] at c1 c2
        obtain ⟨a1, b1, rfl, c11, c12⟩ := c1
        obtain ⟨a2, b2, rfl, c21, c22⟩ := c2
        have hu0 := hu u (by simp)
        have hv0 := hv v (by simp)
        have hu1 := Fit.has q u hu0
        have hv1 := Fit.has q v hv0
        obtain ⟨x, hx, hxv⟩ := part_run (P := P) hs hu1 c11 (show xs.toList = p1 ++ a1 ++ b1 by rw [e1, List.append_assoc])
        obtain ⟨y, hy, hyv⟩ := part_run (P := P) hs hv1 c21 (show ys.toList = p2 ++ a2 ++ b2 by rw [e2, List.append_assoc])
        have la1 := Has.len q.sh u a1 hu1 c11
        have la2 := Has.len q.sh v a2 hv1 c21
        have ih := eqItems_sound hg hs xs ys n (i + 1) us vs (p1 ++ a1) b1 (p2 ++ a2) b2 (by simpa using h1) (by simpa using h2) (fun u hm => hu u (by simp [hm])) (fun u hm => hv u (by simp [hm])) c12 c22
          (by rw [e1, List.append_assoc]) (by rw [e2, List.append_assoc]) (by rw [List.length_append, Nat.succ_mul]; omega) (by rw [List.length_append, Nat.succ_mul]; omega)
        rw [l1] at hx
        rw [l2] at hy
        rw [List.range'_succ]
        simp only [Op.eqItems,Sem.run_bind,hx,hy,Result.andThen_ok,hg u v x y hu0 hv0 hxv hyv,veqs]
        cases veq u v
        · simp
        · simp [ih]
theorem eq_sound : ∀ (n : Nat) (d : Nat) (t : TypeId) (q : EQ) (u v : VV) (x y : Value), n ≤ d → eqOf P n t = some q → Fit q u → Fit q v → VR ρ w u x → VR ρ w v y → (Op.equalIn d t x y).run P w = .ok (veq u v) w
  | 0, d, t, q, u, v, x, y, _, h, _, _, _, _ => by simp [eqOf] at h
  | n + 1, 0, t, q, u, v, x, y, hd, _, _, _, _, _ => by omega
  | n + 1, d + 1, t, q, u, v, x, y, hd, h, hu, hv, hx, hy => by
    unfold eqOf at h
    split at h
    · rename_i q' hq'
      split at h
      · split at h
        · injection h with h
          subst h
          split at hq'
          · rename_i k hk
            injection hq' with hq'
            subst hq'
            cases u <;> simp only [Fit] at hu
            cases v <;> simp only [Fit] at hv
            subst hu hv
            rw [hx.int, hy.int, veq]
            exact run_equalIn_int w d t k k _ _ hk
          · rename_i hk
            injection hq' with hq'
            subst hq'
            cases u <;> simp only [Fit] at hu
            cases v <;> simp only [Fit] at hv
            rw [hx.bool, hy.bool, veq]
            exact run_equalIn_bool' w d t _ _ hk
          · rename_i hk
            injection hq' with hq'
            subst hq'
            cases u <;> simp only [Fit] at hu
            cases v <;> simp only [Fit] at hv
            rw [hx.str, hy.str, veq, run_equalIn_string w d t _ _ hk]
            simp
          · rename_i fs hk
            split at hq'
            · rename_i hst
              split at hq'
              · rename_i qs hqs
                injection hq' with hq'
                subst hq'
                cases u <;> simp only [Fit] at hu
                cases v <;> simp only [Fit] at hv
                rename_i us vs
                obtain ⟨cs, rfl, hc⟩ := hx.agg
                obtain ⟨ds, rfl, hd2⟩ := hy.agg
                have hf : P.fieldsOf t = fs := by simp [Program.fieldsOf, hk]
                rw [run_equalIn_struct w d t cs ds (by rw [hf]; exact hk) hst, hf, veq]
                exact eqFields_sound (g := eqOf P n) (fun t q u v x y h1 h2 h3 h4 h5 => eq_sound n d t q u v x y (by omega) h1 h2 h3 h4 h5) (fun t q h => eqOf_sh h) cs ds fs.toList qs 0 us vs [] _ [] _ hqs hu hv hc hd2 rfl rfl rfl rfl
              · cases hq'
            · cases hq'
          · rename_i k e hk
            split at hq'
            · rename_i q2 hq2
              split at hq'
              · rename_i hce
                obtain ⟨hc1, hc2⟩ := hce
                injection hq' with hq'
                subst hq'
                cases u <;> simp only [Fit] at hu
                cases v <;> simp only [Fit] at hv
                rename_i us vs
                obtain ⟨cs, rfl, hc⟩ := hx.agg
                obtain ⟨ds, rfl, hd2⟩ := hy.agg
                obtain ⟨i, hi⟩ := Option.isSome_iff_exists.1 hc2
                rw [run_equalIn_array w d cs ds hk hi, hc1, veq, List.range_eq_range']
                exact eqItems_sound (fun u v x y h2 h3 h4 h5 => eq_sound n d e q2 u v x y (by omega) hq2 h2 h3 h4 h5) (eqOf_sh hq2) cs ds k 0 us vs [] _ [] _ hu.1 hv.1 hu.2 hv.2 hc hd2 rfl rfl (by simp) (by simp)
              · cases hq'
            · cases hq'
          · cases hq'
        · cases h
      · cases h
    · cases h
end
section
variable (P : Program) (e : Operand → VV) (H : Heap) (n : Nat) (K : VV → Heap → Nat → Prop)
def vEither (q : Prop) (k : Bool → Prop) : Prop := ∀ b, (q → b = false) → k b
def vEq (op : BinOp) (t : TypeId) (v u : VV) (k : Bool → Prop) : Prop := bnd (EQT P t) fun q => cnd (Fit q v ∧ Fit q u) (match op with
  | .eql => k (veq v u)
  | .neq => k (!veq v u)
  | _ => False)
def vNil (op : BinOp) (v : VV) (k : Bool → Prop) : Prop := match op, v with
  | .eql, .sl none _ => k true
  | .eql, .sl (some _) m => vEither (m ≠ 0) k
  | .eql, .dat _ els => vEither (els ≠ []) k
  | .neq, .sl none _ => k false
  | .neq, .sl (some _) m => vEither (m ≠ 0) fun b => k (!b)
  | .neq, .dat _ els => vEither (els ≠ []) fun b => k (!b)
  | _, _ => False
def vBinX (op : BinOp) (t : TypeId) (x y : Operand) : Prop := onV (e x) fun v => match v with
  | .agg vs => onV (e y) fun u => match u with
    | .agg us => vEq P op t (.agg vs) (.agg us) fun b => K (.bool b) H n
    | _ => False
  | .bool a => onV (e y) fun u => match u with
    | .bool b => vEq P op t (.bool a) (.bool b) fun b => K (.bool b) H n
    | _ => False
  | .sl p m => onV (e y) fun u => match u with
    | .sl none 0 => bnd (EL P t) fun _ => vNil op (.sl p m) fun b => K (.bool b) H n
    | _ => False
  | .dat s els => onV (e y) fun u => match u with
    | .sl none 0 => bnd (EL P t) fun _ => vNil op (.dat s els) fun b => K (.bool b) H n
    | _ => False
  | _ => vBin e H n K op x y
def vMax (x y : Operand) : Prop := onV (e x) fun v => onV (e y) fun u => match v, u with
  | .int k a, .int k' b => cnd (k = k') (K (.int k (if a < b then b else a)) H n)
  | _, _ => False
def vArrPtr (t : TypeId) (x : Operand) : Prop := onV (e x) fun v => match v with
  | .dat s els => bnd (SH P t) fun sa => match sa with
    | .arr k s' => cnd (s' = s ∧ k ≤ els.length ∧ k ≠ 0) (K (.pd (.arr k s) (.agg (els.take k))) H n)
    | _ => False
  | .sl (some (m, [], 0)) len => bnd (SH P t) fun sa => bnd (H m) fun b => match b with
    | .row s c => cnd (s = sa ∧ (∃ s', sa = .arr len s') ∧ len ≠ 0) (K (.ptr m []) H n)
    | _ => False
  | _ => False
end
section
variable {P : Program} {Z : Nat → Nat → Prop} [Zone Z] {B : Nat} {ρ : Names} {w : World} {H : Heap} {n : Nat} {tm : Nat → VV} {a : Act} {K : VV → Heap → Nat → Prop} {o : Oper}
theorem eql_agg_run {op : BinOp} {t : TypeId} {x y : Operand} {xs ys : Array Value} {b : Bool} (hm : P.eqGuardType P.depth t = false) (h : (Op.equalIn 10000 t (.agg xs) (.agg ys)).run P w = .ok b w) (hop : op = .eql ∨ op = .neq) :
    (do eqGuard op t x y (.agg xs) (.agg ys); binOp op t (.agg xs) (.agg ys) : Sem Value).run P w = .ok (.bool (if op = .eql then b else !b)) w := by
  rw [Sem.run_bind, run_eqGuard_agg w op t x y xs ys hm, Result.andThen_ok]
  rcases hop with rfl | rfl
  · rw [run_eql_struct, h]; rfl
  · rw [run_neq_struct, h]; rfl
theorem eql_bool_run {op : BinOp} {t : TypeId} {x y : Operand} {u v : Bool} {b : Bool} (h : (Op.equalIn 10000 t (.bool u) (.bool v)).run P w = .ok b w) (hop : op = .eql ∨ op = .neq) :
    (do eqGuard op t x y (.bool u) (.bool v); binOp op t (.bool u) (.bool v) : Sem Value).run P w = .ok (.bool (if op = .eql then b else !b)) w := by
  rcases hop with rfl | rfl <;> simp [eqGuard, binOp, Op.equal, Op.maxDepth, h]
theorem eql_slice_run {op : BinOp} {t el : TypeId} {x y : Operand} {A : Option Addr} {l c : Nat} (hu : P.underlying t = some (.slice el)) (hop : op = .eql ∨ op = .neq) :
    (do eqGuard op t x y (.slice A l c) (.slice none 0 0); binOp op t (.slice A l c) (.slice none 0 0) : Sem Value).run P w = .ok (.bool (if op = .eql then A.isNone else !A.isNone)) w := by
  have h1 : (Op.equalIn 10000 t (.slice A l c) (.slice none 0 0)).run P w = .ok A.isNone w := by
    show (Op.equalIn (9999 + 1) t (.slice A l c) (.slice none 0 0)).run P w = .ok A.isNone w
    unfold Op.equalIn
    rw [Sem.run_bind, run_underlying hu, Result.andThen_ok]
    cases A <;> rfl
  rcases hop with rfl | rfl <;> simp [eqGuard, binOp, Op.equal, Op.maxDepth, h1]
def nilOf : VV → Option Addr → Prop
  | .sl none _, A => A = none
  | .sl (some _) m, A => m ≠ 0 → A.isNone = false
  | .dat _ els, A => els ≠ [] → A.isNone = false
  | _, _ => False
theorem vNil_sound {op : BinOp} {v : VV} {k : Bool → Prop} {A : Option Addr} (hA : nilOf v A) (h : vNil op v k) : (op = .eql ∨ op = .neq) ∧ k (if op = .eql then A.isNone else !A.isNone) := by
  unfold vNil at h
  split at h
  · simp only [nilOf] at hA; subst hA; exact ⟨.inl rfl, h⟩
  · simp only [nilOf] at hA; exact ⟨.inl rfl, by simpa using h A.isNone hA⟩
  · simp only [nilOf] at hA; exact ⟨.inl rfl, by simpa using h A.isNone hA⟩
  · simp only [nilOf] at hA; subst hA; exact ⟨.inr rfl, h⟩
  · simp only [nilOf] at hA; exact ⟨.inr rfl, by simpa using h A.isNone hA⟩
  · simp only [nilOf] at hA; exact ⟨.inr rfl, by simpa using h A.isNone hA⟩
  · exact h.elim
theorem sl_nil {v : VV} {x : Value} (h : VR ρ w v x) (hv : (∃ p m, v = .sl p m) ∨ ∃ s els, v = .dat s els) : ∃ A l c, x = .slice A l c ∧ nilOf v A := by
  rcases hv with ⟨p, m, rfl⟩ | ⟨s, els, rfl⟩
  · cases p with
    | none => simp only [VR,VR1,C1] at h; exact ⟨none, 0, 0, by simpa using h.2, rfl⟩
    | some r =>
      obtain ⟨m', p', i'⟩ := r
      simp only [VR,VR1,C1] at h
      rcases h with ⟨h0, A, hx⟩ | ⟨l, c, e, k, _, hx, _⟩
      · exact ⟨A, 0, 0, by simpa using hx, fun hm => absurd h0 hm⟩
      · exact ⟨_, m, c, by simpa using hx, fun _ => rfl⟩
  · obtain ⟨A, c, hx, _, h3⟩ := h.dat
    exact ⟨A, _, c, hx, fun hne => by obtain ⟨b, o, _, hA, _⟩ := h3 hne; rw [hA]; rfl⟩
theorem binX_sound (hT : TM ρ w tm a) (hh : HR Z B ρ H n w) (op : BinOp) (t t' : TypeId) (x y : Operand) (ho : o.op = .binOp op t x y t') (h : vBinX P (ev tm) H n K op t x y) : Runs P Z B K ρ w (execOp a.eval o) := by
  unfold vBinX onV at h
  dsimp only at h
  have hx := ev_sound hT x
  have hy := ev_sound hT y
  have nil : ∀ (v : VV), VR ρ w v (a.eval x) → ((∃ p m, v = .sl p m) ∨ ∃ s els, v = .dat s els) → VR ρ w (.sl none 0) (a.eval y) → (bnd (EL P t) fun _ => vNil op v fun b => K (.bool b) H n) → Runs P Z B K ρ w (execOp a.eval o) := by
    intro v hx hv hy h
    have hy : a.eval y = .slice none 0 0 := by simpa [VR, VR1, C1] using hy
    obtain ⟨el, hel, h⟩ := bnd_iff.1 h
    have hu := EL_spec hel
    obtain ⟨A, l, c, hx, hA⟩ := sl_nil hx hv
    obtain ⟨hop, hk⟩ := vNil_sound hA h
    refine runs_value (x := .bool (if op = .eql then A.isNone else !A.isNone)) ?_ hk VR_bool hh
    have := eql_slice_run (P := P) (w := w) (x := x) (y := y) (A := A) (l := l) (c := c) hu hop
    simp only [execOp,ho,hx,hy]
    simp only [Sem.run_bind] at this ⊢
    rw [this]
    rfl
  split at h
  · rename_i vs e1
    rw [e1] at hx
    split at h
    · rename_i us e2
      rw [e2] at hy
      unfold vEq at h
      obtain ⟨q, hq, ⟨h1, h2⟩, h⟩ := bnd_iff.1 h
      unfold EQT at hq
      split at hq
      · rename_i hm
        obtain ⟨xs, hxs, _⟩ := hx.agg
        obtain ⟨ys, hys, _⟩ := hy.agg
        have key := eq_sound 10 10000 t q _ _ _ _ (by omega) hq h1 h2 hx hy
        rw [hxs, hys] at key
        have hop : op = .eql ∨ op = .neq := by
          split at h
          · exact .inl rfl
          · exact .inr rfl
          · exact h.elim
        have hk : K (.bool (if op = .eql then veq (.agg vs) (.agg us) else !veq (.agg vs) (.agg us))) H n := by
          rcases hop with rfl | rfl <;> simpa using h
        refine runs_value ?_ hk VR_bool hh
        have := eql_agg_run (x := x) (y := y) hm key hop
        simp only [execOp,ho,hxs,hys]
        simp only [Sem.run_bind] at this ⊢
        rw [this]
        rfl
      · cases hq
    · exact h.elim
  · rename_i v1 e1
    rw [e1] at hx
    split at h
    · rename_i u1 e2
      rw [e2] at hy
      unfold vEq at h
      obtain ⟨q, hq, ⟨h1, h2⟩, h⟩ := bnd_iff.1 h
      unfold EQT at hq
      split at hq
      · rename_i hm
        have key := eq_sound 10 10000 t q _ _ _ _ (by omega) hq h1 h2 hx hy
        rw [hx.bool, hy.bool] at key
        have hop : op = .eql ∨ op = .neq := by
          split at h
          · exact .inl rfl
          · exact .inr rfl
          · exact h.elim
        have hk : K (.bool (if op = .eql then veq (.bool v1) (.bool u1) else !veq (.bool v1) (.bool u1))) H n := by
          rcases hop with rfl | rfl <;> simpa using h
        refine runs_value ?_ hk VR_bool hh
        have := eql_bool_run (x := x) (y := y) key hop
        simp only [execOp,ho,hx.bool,hy.bool]
        simp only [Sem.run_bind] at this ⊢
        rw [this]
        rfl
      · cases hq
    · exact h.elim
  · rename_i p m e1
    rw [e1] at hx
    split at h
    · rename_i e2
      rw [e2] at hy
      exact nil _ hx (.inl ⟨_, _, rfl⟩) hy h
    · exact h.elim
  · rename_i s els e1
    rw [e1] at hx
    split at h
    · rename_i e2
      rw [e2] at hy
      exact nil _ hx (.inr ⟨_, _, rfl⟩) hy h
    · exact h.elim
  · exact bin_sound hT hh op t t' x y ho h
theorem max_sound (hT : TM ρ w tm a) (hh : HR Z B ρ H n w) (x y : Operand) (ts : Array TypeId) (ho : o.op = .call { callee := .builtin .max, args := #[x, y], argTypes := ts }) (h : vMax (ev tm) H n K x y) : Runs P Z B K ρ w (execOp a.eval o) := by
  unfold vMax onV at h
  dsimp only at h
  have hx := ev_sound hT x
  have hy := ev_sound hT y
  split at h
  · rename_i k i k' j e1 e2
    rw [e1] at hx
    rw [e2] at hy
    obtain ⟨rfl, h⟩ := h
    refine runs_value (x := .int k (if i < j then j else i)) ?_ h VR_int hh
    simp [execOp, ho, resolve, invoke, builtin, hx.int, hy.int, Builtin.max_, Builtin.max2]
  · exact h.elim
theorem arrPtr_sound (hT : TM ρ w tm a) (hh : HR Z B ρ H n w) (t : TypeId) (x : Operand) (ho : o.op = .sliceToArrayPointer t x) (h : vArrPtr P (ev tm) H n K t x) : Runs P Z B K ρ w (execOp a.eval o) := by
  unfold vArrPtr onV at h
  dsimp only at h
  have hx := ev_sound hT x
  split at h
  · rename_i s els e1
    rw [e1] at hx
    obtain ⟨sa, hsa, h⟩ := bnd_iff.1 h
    split at h
    · rename_i k s'
      obtain ⟨⟨rfl, hk1, hk2⟩, h⟩ := h
      obtain ⟨e, hu, _⟩ := SH_array hsa
      obtain ⟨A, c, hx', hc, h3⟩ := hx.dat
      have hne : els ≠ [] := by intro e; subst e; simp at hk1; omega
      obtain ⟨b, f, ecs, rfl, g1, g2, g3, g4, g5⟩ := h3 hne
      have hrun : (execOp a.eval o).run P w = .ok (.value (.pointer (some ⟨b, f, none⟩))) w := by
        simp only [execOp,ho,hx',Instr.arrayAt,Sem.run_bind,run_underlying hu w,Result.andThen_ok]
        rw [if_neg (by omega)]
        rfl
      obtain ⟨pr, md, ps, rfl, r1, r2, r3⟩ := CR.part g1 g2 0 k (by omega) hk1
      rw [Nat.zero_mul] at r1
      have hpr : pr = [] := List.eq_nil_of_length_eq_zero r1
      subst hpr
      refine runs_value hrun h ?_ hh
      simp only [VR,VR1,C1]
      refine ⟨b, f, md, rfl, ?_, ?_, ?_, g4, g5⟩
      · simpa using r3
      · simp only [Has]
        exact ⟨by rw [List.length_take]; omega, fun v hv => g2 v (List.mem_of_mem_take hv)⟩
      · have := range_part (w := w) (pre := []) (mid := md) (post := ps) g3
        simpa using this
    · exact h.elim
  · rename_i m len e1
    rw [e1] at hx
    obtain ⟨sa, hsa, h⟩ := bnd_iff.1 h
    obtain ⟨blk, hb, h⟩ := bnd_iff.1 h
    split at h
    · rename_i s c
      obtain ⟨⟨rfl, ⟨s', rfl⟩, hl⟩, hK⟩ := h
      obtain ⟨e, hu, _⟩ := SH_array hsa
      simp only [VR,VR1,C1] at hx
      rcases hx with ⟨h0, _⟩ | ⟨l, cap, e', j', hl', hx, hcap, hat, _⟩
      · exact absurd h0 hl
      · have hx : a.eval x = .slice (some ⟨l.block, l.base + l.sh.off ([] ++ [0]), none⟩) len cap := by simpa using hx
        have hrow := hh.row m _ c l hb hl'
        have hz : l.sh.off ([] ++ [0]) = 0 := by rw [hrow.sh]; simp [Sh.off]
        rw [hz] at hx
        refine runs_value (x := .pointer (some ⟨l.block, l.base + 0, none⟩)) ?_ hK ?_ hh
        · simp only [execOp,ho,hx,Instr.arrayAt,Sem.run_bind,run_underlying hu w,Result.andThen_ok]
          rw [if_neg (by omega)]
          rfl
        · simp only [VR,VR1,C1]
          exact ⟨l, hl', by simp [Sh.off]⟩
    · exact h.elim
  · exact h.elim
end
end Go.Proofs.Ytlgldkjjbbbapaa.V
end
section
/-
  A MACHINE OF VALUES: maps.
-/
set_option linter.unusedVariables false
set_option linter.unusedSectionVars false
set_option linter.unusedSimpArgs false
namespace Go.Proofs.Ytlgldkjjbbbapaa.V
open Go Go.RowKit Go.MapKept

def untup : VV → Bool
  | .tup _ => false
  | _ => true
def keyV (d : TypeDesc) (v : VV) : Bool := match d, v with
  | .int k, .int k' _ => k == k'
  | .string, .str _ => true
  | .bool, .bool _ => true
  | _, _ => false
def keq (a b : VV) : Bool := match a, b with
  | .int _ i, .int _ j => i == j
  | .str s, .str t => s == t
  | .bool x, .bool y => x == y
  | _, _ => false
def mget : List (VV × VV) → VV → Option VV
  | [], _ => none
  | (k, v) :: es, q => if keq q k = true then some v else mget es q
def mput : List (VV × VV) → VV → VV → List (VV × VV)
  | [], q, u => [(q, u)]
  | (k, v) :: es, q, u => if keq q k = true then (k, u) :: es else (k, v) :: mput es q u
def MP (P : Program) (t : TypeId) : Option (TypeDesc × TypeId) := match P.underlying t with
  | some (.map kt et) => (P.underlying kt).map fun d => (d, et)
  | _ => none
theorem MP_spec {P : Program} {t et : TypeId} {d : TypeDesc} (h : MP P t = some (d, et)) : ∃ kt, P.underlying t = some (.map kt et) ∧ P.underlying kt = some d := by
  unfold MP at h
  split at h
  · rename_i kt et' hu
    cases hk : P.underlying kt with
    | none => rw [hk] at h; cases h
    | some d' =>
      rw [hk] at h
      simp at h
      obtain ⟨rfl, rfl⟩ := h
      exact ⟨kt, hu, hk⟩
  · cases h
section
variable (P : Program) (e : Operand → VV) (H : Heap) (n : Nat) (K : VV → Heap → Nat → Prop)
def vMakeMap : Prop := K (.map n) (upd H n (some (.map []))) (n + 1)
def vLookup (t : TypeId) (x i : Operand) (c : Bool) : Prop := onV (e x) fun v => match v with
  | .map m => bnd (H m) fun b => match b with
    | .map es => bnd (MP P t) fun d => cnd (keyV d.1 (e i) = true ∧ (es.all fun q => keyV d.1 q.1) = true) (bnd (ZE P d.2) fun z => K (if c = true then .tup [(mget es (e i)).getD z, .bool (mget es (e i)).isSome] else (mget es (e i)).getD z) H n)
    | _ => False
  | _ => False
def vMapUpdate (t : TypeId) (m k x : Operand) : Prop := onV (e m) fun v => match v with
  | .map l => bnd (H l) fun b => match b with
    | .map es => bnd (MP P t) fun d => cnd (keyV d.1 (e k) = true ∧ (es.all fun q => keyV d.1 q.1) = true ∧ untup (e x) = true) (K .any (upd H l (some (.map (mput es (e k) (e x))))) n)
    | _ => False
  | _ => False
end
section
variable {P : Program} {Z : Nat → Nat → Prop} [Zone Z] {B : Nat} {ρ ρ' : Names} {w w' : World} {H : Heap} {n : Nat} {tm : Nat → VV} {a : Act} {K : VV → Heap → Nat → Prop} {o : Oper}
theorem bytes_eq (s t : List UInt8) : ((⟨s.toArray⟩ : ByteArray) == ⟨t.toArray⟩) = (s == t) := by
  rw [Bool.eq_iff_iff, bytes_beq, beq_iff_eq]
  constructor
  · intro h
    injection h with h
    simpa using congrArg Array.toList h
  · rintro rfl; rfl
theorem same_keq {d : TypeDesc} {q k : VV} {x y : Value} (hq : keyV d q = true) (hk : keyV d k = true) (ha : VR1 ρ w q x) (hb : VR1 ρ w k y) :
    Instr.sameNow d x y = some (keq q k) ∧ (keq q k = true → y = x) := by
  cases d <;> cases q <;> simp [keyV] at hq <;> cases k <;> simp [keyV] at hk <;> simp [VR1, C1] at ha hb <;> subst ha hb <;> simp_all [Instr.sameNow, keq, bytes_eq]
theorem keyV_leaf {d : TypeDesc} {q : VV} (hq : keyV d q = true) : q.leaf = true := by
  cases d <;> cases q <;> simp [keyV] at hq <;> rfl
theorem keyV_isKey {d : TypeDesc} {q : VV} {x : Value} (hq : keyV d q = true) (ha : VR1 ρ w q x) : IsKey d x := by
  cases d <;> cases q <;> simp [keyV] at hq <;> simp [VR1, C1] at ha <;> subst ha <;> simp_all [IsKey]
theorem keyV_one {d : TypeDesc} {q : VV} (hq : keyV d q = true) {x : Value} (h : VR ρ w q x) : VR1 ρ w q x := by
  cases d <;> cases q <;> simp [keyV] at hq <;> exact h
theorem ME_find {d : TypeDesc} {q u : VV} {key : Value} (hq : keyV d q = true) (hkey : VR1 ρ w q key) : ∀ (es : List (VV × VV)) (xs : List MapEntry), ME ρ w es xs → (∀ p ∈ es, keyV d p.1 = true) →
    (mget es q = none ∧ (∀ i, Instr.findNow d key xs i = some none) ∧ ∀ y : MapEntry, y.key = key → VR1 ρ w u y.val → ME ρ w (mput es q u) (xs ++ [y])) ∨
    (∃ j e v, mget es q = some v ∧ (∀ i, Instr.findNow d key xs i = some (some (i + j, e.val))) ∧ xs[j]? = some e ∧ e.key = key ∧ VR1 ρ w v e.val ∧
      ∀ val, VR1 ρ w u val → ME ρ w (mput es q u) (xs.modify j fun e => { e with key := key, val := val }))
  | [], xs, h, _ => by
    simp only [ME] at h
    subst h
    refine .inl ⟨rfl, fun _ => rfl, fun y hy hv => ?_⟩
    simp only [mput,List.nil_append,ME]
    exact ⟨y, [], rfl, keyV_leaf hq, by rw [hy]; exact hkey, hv, rfl⟩
  | (k, v) :: es, xs, h, hk => by
    simp only [ME] at h
    obtain ⟨x, ys, rfl, h1, h2, h3, h4⟩ := h
    obtain ⟨hs, he⟩ := same_keq hq (hk (k, v) (by simp)) hkey h2
    cases hb : keq q k with
    | true =>
      rw [hb] at hs he
      refine .inr ⟨0, x, v, by simp [mget, hb], fun i => by simp [Instr.findNow, hs], rfl, he rfl, h3, fun val hval => ?_⟩
      simp only [mput,hb,if_true,ME]
      refine ⟨_, ys, rfl, h1, ?_, hval, h4⟩
      show VR1 ρ w k key
      rw [← he rfl]
      exact h2
    | false =>
      rw [hb] at hs
      rcases ME_find (u := u) hq hkey es ys h4 (fun p hp => hk p (by simp [hp])) with ⟨g1, g2, g3⟩ | ⟨j, e, v', g1, g2, g3, g4, g5, g6⟩
      · refine .inl ⟨by simp [mget, hb, g1], fun i => by simp [Instr.findNow, hs, g2], fun y hy hv => ?_⟩
        simp only [mput,hb,Bool.false_eq_true,if_false,List.cons_append,ME]
        exact ⟨x, _, rfl, h1, h2, h3, g3 y hy hv⟩
      · refine .inr ⟨j + 1, e, v', by simp [mget, hb, g1], fun i => by simp [Instr.findNow, hs, g2]; omega, by simpa using g3, g4, g5, fun val hval => ?_⟩
        simp only [mput,hb,Bool.false_eq_true,if_false,List.modify_succ_cons,ME]
        exact ⟨x, _, rfl, h1, h2, h3, g6 val hval⟩
theorem HR.putMap (h : HR Z B ρ H n w) {m : Nat} {l : Loc} {es : List (VV × VV)} (hm : ρ m = some l) (hlive : H m ≠ none) (hsz : w'.heap.size = w.heap.size) (hb : ∀ b, b ≠ l.block → w'.heap[b]? = w.heap[b]?)
    (hr : MapAt ρ w' l es) : HR Z B ρ (upd H m (some (.map es))) n w' := by
  have he : Ext ρ w ρ w' := ⟨fun _ _ h => h, by omega, fun b hb' hu => hb b (fun e => hu.2 m l hm e.symm), fun _ _ h => .inl h, fun _ h => h, fun _ h => .inl h⟩
  refine ⟨by rw [hsz]; exact h.base, h.fresh, fun m l hm => by rw [hsz]; exact h.lt m l hm, fun m1 m2 l1 l2 h1 h2 g1 g2 heq => ?_, fun m1 s1 v1 l' hm1 h1 => ?_, fun m1 es1 l' hm1 h1 => ?_⟩
  · refine h.apart m1 m2 l1 l2 h1 h2 ?_ ?_ heq
    · rw [upd_ap] at g1; split at g1
      · rename_i e; rw [e]; exact hlive
      · exact g1
    · rw [upd_ap] at g2; split at g2
      · rename_i e; rw [e]; exact hlive
      · exact g2
  · rw [upd_ap] at hm1
    by_cases e : m1 = m
    · rw [if_pos e] at hm1; cases hm1
    · rw [if_neg e] at hm1
      exact (h.row m1 s1 v1 l' hm1 h1).same he (hb _ fun eq => e (h.apart m1 m l' l h1 hm (by rw [hm1]; simp) hlive eq))
  · rw [upd_ap] at hm1
    by_cases e : m1 = m
    · rw [if_pos e] at hm1
      injection hm1 with hm1
      injection hm1 with e1
      subst e1 e
      rw [hm] at h1
      injection h1 with h1
      subst h1
      exact hr
    · rw [if_neg e] at hm1
      exact (h.map m1 es1 l' hm1 h1).same he (hb _ fun eq => e (h.apart m1 m l' l h1 hm (by rw [hm1]; simp) hlive eq))
theorem HR.newMap (h : HR Z B ρ H n w) (hZ : Zone.ok Z n) {es : List (VV × VV)} (l : Loc) (hl0 : w.heap.size ≤ l.block) (hl1 : l.block < w'.heap.size) (hsz : w.heap.size ≤ w'.heap.size) (hb : ∀ b, b < w.heap.size → w'.heap[b]? = w.heap[b]?)
    (hr : MapAt (ρ.give n l) w' l es) : HR Z B (ρ.give n l) (upd H n (some (.map es))) (n + 1) w' := by
  have he : Ext ρ w (ρ.give n l) w' := ext_new (h.fresh n (Zone.free n hZ)) l hsz (fun b hb' _ => hb b hb') (.inl hl0)
  have hbase := h.base
  refine ⟨Nat.le_trans h.base hsz, fun m hz => ?_, fun m l' hm => ?_, fun m m' l1 l2 h1 h2 g1 g2 heq => ?_, fun m s' v' l' hm h1 => ?_, fun m es' l' hm h1 => ?_⟩
  · rw [give_ap, if_neg (Zone.next _ _ hZ hz)]
    exact h.fresh m (Zone.mono _ _ _ (Nat.le_succ _) hz)
  · rw [give_ap] at hm
    split at hm
    · injection hm with hm
      subst hm
      exact ⟨by omega, hl1⟩
    · obtain ⟨g2, g3⟩ := h.lt m l' hm
      exact ⟨g2, by omega⟩
  · simp only [upd_ap,give_ap] at h1 h2 g1 g2
    by_cases e1 : m = n
    · by_cases e2 : m' = n
      · omega
      · rw [if_pos e1] at h1
        rw [if_neg e2] at h2
        injection h1 with h1
        subst h1
        have := (h.lt m' l2 h2).2
        omega
    · by_cases e2 : m' = n
      · rw [if_neg e1] at h1
        rw [if_pos e2] at h2
        injection h2 with h2
        subst h2
        have := (h.lt m l1 h1).2
        omega
      · rw [if_neg e1] at h1 g1
        rw [if_neg e2] at h2 g2
        exact h.apart m m' l1 l2 h1 h2 g1 g2 heq
  · rw [upd_ap] at hm
    by_cases e : m = n
    · rw [if_pos e] at hm
      cases hm
    · rw [if_neg e] at hm
      rw [give_ap, if_neg e] at h1
      exact (h.row m s' v' l' hm h1).same he (hb _ (h.lt m l' h1).2)
  · rw [upd_ap] at hm
    by_cases e : m = n
    · rw [if_pos e] at hm
      injection hm with hm
      injection hm with hm1
      subst hm1 e
      rw [give_ap, if_pos rfl] at h1
      injection h1 with h1
      subst h1
      exact hr
    · rw [if_neg e] at hm
      rw [give_ap, if_neg e] at h1
      exact (h.map m es' l' hm h1).same he (hb _ (h.lt m l' h1).2)
theorem makeMap_sound (hh : HR Z B ρ H n w) (hG : Gives Z n K) (t : TypeId) (ho : o.op = .makeMap t none) (h : vMakeMap H n K) : Runs P Z B K ρ w (execOp a.eval o) := by
  unfold vMakeMap at h
  have hZ := hG.one h
  have hsz : (w.alloc (.map #[] 0)).heap.size = w.heap.size + 1 := by show (w.heap.push _).size = _; simp
  have hl : MapAt (ρ.give n ⟨w.heap.size, 0, 0, .cell⟩) (w.alloc (.map #[] 0)) ⟨w.heap.size, 0, 0, .cell⟩ [] := ⟨#[], 0, (heap_alloc w _).1, rfl⟩
  have h1 := hh.newMap hZ ⟨w.heap.size, 0, 0, .cell⟩ (Nat.le_refl _) (by rw [hsz]; exact Nat.lt_succ_self _) (by rw [hsz]; exact Nat.le_succ _) (fun b hb => (heap_alloc w _).2 b hb) hl
  refine .inl ⟨.map (some w.heap.size), w.alloc (.map #[] 0), ?_, _, _, _, _, h, ?_, h1, ?_, ?_⟩
  · simp [execOp, ho, Instr.makeMap]
  · simp only [VR,VR1,C1]
    exact ⟨_, by rw [give_ap, if_pos rfl], rfl⟩
  · exact ext_new (hh.fresh n (Zone.free n hZ)) _ (by rw [hsz]; exact Nat.le_succ _) (fun b hb' _ => (heap_alloc w _).2 b hb') (.inl (Nat.le_refl _))
  · have := hh.base
    exact ⟨rfl, rfl, rfl, by rw [hsz]; exact Nat.le_succ _, fun k hk => (heap_alloc w _).2 k (by omega)⟩
theorem VR.map {m : Nat} {x : Value} (h : VR ρ w (.map m) x) : ∃ l, ρ m = some l ∧ x = .map (some l.block) := by simpa [VR, VR1, C1] using h
theorem VR.ofHas {s : Sh} {v : VV} {x : Value} (hs : Has s v) (h : VR ρ w v x) : VR1 ρ w v x := by
  cases v with
  | tup vs => cases s <;> simp [Has, VV.leaf] at hs
  | _ => exact h
theorem lookup_sound (hT : TM ρ w tm a) (hh : HR Z B ρ H n w) (t : TypeId) (x i : Operand) (c : Bool) (ho : o.op = .lookup t x i c) (h : vLookup P (ev tm) H n K t x i c) : Runs P Z B K ρ w (execOp a.eval o) := by
  unfold vLookup onV at h
  dsimp only at h
  have hx := ev_sound hT x
  have hi := ev_sound hT i
  split at h
  · rename_i m e
    rw [e] at hx
    obtain ⟨l, hl, hp⟩ := hx.map
    replace h := bnd_iff.1 h
    obtain ⟨b, hb, h⟩ := h
    split at h
    · rename_i es
      replace h := bnd_iff.1 h
      obtain ⟨⟨d, et⟩, hd, ⟨h1, h2⟩, h⟩ := h
      replace h := bnd_iff.1 h
      obtain ⟨z, hz, h⟩ := h
      dsimp only at h1 h2 hz
      obtain ⟨kt, hm, hk⟩ := MP_spec hd
      obtain ⟨s, zv, inf, _, hinf, hzv, hHz, _, hV⟩ := ZE_spec hz
      obtain ⟨xs, clock, ho1, ho2⟩ := (hh.map m es l hb hl).obj
      have hi1 := keyV_one h1 hi
      have hkey := keyV_isKey h1 hi1
      have hzr : (zeroValue et).run P w = .ok zv w := by simp [zeroValue, typeInfo, hinf, hzv]
      rcases ME_find (u := .any) h1 hi1 es xs.toList ho2 (fun p hp => List.all_eq_true.1 h2 p hp) with ⟨g1, g2, g3⟩ | ⟨j, en, v, g1, g2, g3, g4, g5, g6⟩
      · rw [g1] at h
        simp only [Option.getD_none,Option.isSome_none] at h
        refine runs_value (x := if c = true then .tuple #[zv, .bool false] else zv) ?_ h ?_ hh
        · have := run_findKey hk (g2 0) (w := w)
          simp [execOp, ho, hp, Instr.lookup, run_underlying hm, Go.MapKept.run_getObj_map ho1, run_checkKey hk hkey, this, hzr, Result.andThen]
        · split
          · simp only [VR,VRs]
            exact ⟨_, rfl, _, _, rfl, VR.ofHas hHz (hV ρ w).1, _, _, rfl, by simp [VR1, C1], rfl⟩
          · exact (hV ρ w).1
      · rw [g1] at h
        simp only [Option.getD_some,Option.isSome_some] at h
        refine runs_value (x := if c = true then .tuple #[en.val, .bool true] else en.val) ?_ h ?_ hh
        · have := run_findKey hk (g2 0) (w := w)
          simp [execOp, ho, hp, Instr.lookup, run_underlying hm, Go.MapKept.run_getObj_map ho1, run_checkKey hk hkey, this, Result.andThen]
        · split
          · simp only [VR,VRs]
            exact ⟨_, rfl, _, _, rfl, g5, _, _, rfl, by simp [VR1, C1], rfl⟩
          · exact VR.of1 g5
    · exact h.elim
  · exact h.elim
theorem VR.one {v : VV} {x : Value} (hn : untup v = true) (h : VR ρ w v x) : VR1 ρ w v x := by
  cases v with
  | tup vs => simp [untup] at hn
  | _ => exact h
theorem mapUpdate_sound (hT : TM ρ w tm a) (hh : HR Z B ρ H n w) (t : TypeId) (m k x : Operand) (ho : o.op = .mapUpdate t m k x ∨ o.op = .insert t m k x) (h : vMapUpdate P (ev tm) H n K t m k x) : Runs P Z B K ρ w (execOp a.eval o) := by
  unfold vMapUpdate onV at h
  dsimp only at h
  have hm := ev_sound hT m
  have hk := ev_sound hT k
  have hx := ev_sound hT x
  split at h
  · rename_i l0 e
    rw [e] at hm
    obtain ⟨l, hl, hp⟩ := hm.map
    replace h := bnd_iff.1 h
    obtain ⟨b, hb, h⟩ := h
    split at h
    · rename_i es
      replace h := bnd_iff.1 h
      obtain ⟨⟨d, et⟩, hd, ⟨h1, h2, h3⟩, h⟩ := h
      dsimp only at h1 h2
      obtain ⟨kt, hmt, hkt⟩ := MP_spec hd
      obtain ⟨xs, clock, ho1, ho2⟩ := (hh.map l0 es l hb hl).obj
      have hk1 := keyV_one h1 hk
      have hkey := keyV_isKey h1 hk1
      have hx1 := VR.one h3 hx
      have hlt := hh.lt l0 l hl
      have fin : ∀ es' c', (Instr.mapUpdate t (.map (some l.block)) (a.eval k) (a.eval x)).run P w = .ok () { w with heap := w.heap.setIfInBounds l.block (.map es' c') } → ME ρ w (mput es (ev tm k) (ev tm x)) es'.toList → Runs P Z B K ρ w (execOp a.eval o) := fun es' c' hr hme => by
        obtain ⟨q1, q2⟩ := heap_set (o' := .map es' c') ho1
        have hsz : ({ w with heap := w.heap.setIfInBounds l.block (.map es' c') } : World).heap.size = w.heap.size := by simp
        have he : Ext ρ w ρ { w with heap := w.heap.setIfInBounds l.block (.map es' c') } := ⟨fun _ _ h => h, by rw [hsz]; exact Nat.le_refl _, fun b hb' hu => q2 b (fun e => hu.2 l0 l hl e.symm), fun _ _ h => .inl h, fun _ h => h, fun _ h => .inl h⟩
        have h4 := hh.putMap (w' := { w with heap := w.heap.setIfInBounds l.block (.map es' c') }) hl (by rw [hb]; simp) hsz q2 ⟨es', c', q1, ME.ext he _ _ hme⟩
        refine .inr (.inl ⟨_, ?_, _, _, _, _, h, by simp [VR, VR1], h4, he, ?_⟩)
        · rcases ho with ho | ho <;> simp [execOp, ho, hp, hr]
        · exact ⟨rfl, rfl, rfl, by rw [hsz]; exact Nat.le_refl _, fun j hj => q2 j (by omega)⟩
      rcases ME_find (u := ev tm x) h1 hk1 es xs.toList ho2 (fun p hp => List.all_eq_true.1 h2 p hp) with ⟨g1, g2, g3⟩ | ⟨j, en, v, g1, g2, g3, g4, g5, g6⟩
      · have := run_findKey hkt (g2 0) (w := w)
        refine fin (xs.push { key := a.eval k, val := a.eval x, born := clock }) (clock + 1) ?_ ?_
        · simp [Instr.mapUpdate, run_underlying hmt, Go.MapKept.run_getObj_map ho1, run_checkKey hkt hkey, this, run_setObj_map _ ho1, Result.andThen]
        · rw [Array.toList_push]
          exact g3 _ rfl hx1
      · have := run_findKey hkt (g2 0) (w := w)
        have hj : xs[j]? = some en := by simpa using g3
        refine fin (xs.modify j fun e => { e with key := a.eval k, val := a.eval x }) clock ?_ ?_
        · simp [Instr.mapUpdate, run_underlying hmt, Go.MapKept.run_getObj_map ho1, run_checkKey hkt hkey, this, hj, g4, run_keyThatStays hkey, run_setObj_map _ ho1, Result.andThen]
        · rw [Array.toList_modify]
          exact g6 _ hx1
    · exact h.elim
  · exact h.elim
end
end Go.Proofs.Ytlgldkjjbbbapaa.V
end
section
/-
  A MACHINE OF VALUES, TWELFTH PART: lists of operations, code, loops.
-/
set_option linter.unusedVariables false
set_option linter.unusedSectionVars false
set_option linter.unusedSimpArgs false
namespace Go.Proofs.Ytlgldkjjbbbapaa.V
open Go Go.RowKit

section
variable (P : Program) (e : Operand → VV) (H : Heap) (n : Nat) (K : VV → Heap → Nat → Prop)
def vMin (x y : Operand) : Prop := onV (e x) fun v => onV (e y) fun u => match v, u with
  | .int k a, .int k' b => cnd (k = k') (K (.int k (if b < a then b else a)) H n)
  | _, _ => False
def vConv (s d : TypeId) (x : Operand) : Prop := onV (e x) fun v => match v with
  | .int _ _ => vConvert P e H n K s d x
  | .str _ => vToBytes P e H n K s d x
  | .sl _ _ => vToStr P e H n K s d x
  | .dat _ _ => vToStr P e H n K s d x
  | _ => False
def vBuiltin (b : Builtin) (args : List Operand) (ts : Array TypeId) : Prop := match b, args with
  | .len, [x] => vLen P e H n K ts x
  | .append, [s, x] => cnd (ts.size = 2) (vAppend P e H n K ts s x)
  | .min, [x, y] => vMin e H n K x y
  | .max, [x, y] => vMax e H n K x y
  | _, _ => False
def vop (o : Oper) : Prop := match o.op with
  | .move x => K (e x) H n
  | .assign x => K (e x) H n
  | .pick c a b => vPick e H n K c a b
  | .alloc t => vAlloc P H n K t
  | .box t x => vBox P e H n K t x
  | .build t parts => vBuild P e H n K t parts.toList
  | .buildSlice t len parts => vBuildSlice P e H n K t len parts.toList
  | .load t a => vLoad P e H n K t a
  | .store t a x => vStore P e H n K t a x
  | .nilCheck x => vNilCheck e H n K x
  | .binOp op t x y _ => vBinX P e H n K op t x y
  | .unOp op _ x => vUn e H n K op x
  | .convert s d x => vConv P e H n K s d x
  | .makeFunc (.func f) first caps => vMakeFunc e H n K f first caps.toList
  | .makeSlice t l c => vMakeSlice P e H n K t l c
  | .slice t x lo hi none => vSlice P e H n K t x lo hi
  | .fieldAddr t x f => vFieldAddr P e H n K t x f
  | .field t x f => vField P e H n K t x f
  | .indexAddr t x i => vIndexAddr P e H n K t x i
  | .index t x i => vIndex P e H n K t x i
  | .extract x i => vExtract e H n K x i
  | .sliceToArrayPointer t x => vArrPtr P e H n K t x
  | .makeMap _ none => vMakeMap H n K
  | .lookup t x i c => vLookup P e H n K t x i c
  | .mapUpdate t m k x => vMapUpdate P e H n K t m k x
  | .insert t m k x => vMapUpdate P e H n K t m k x
  | .call c => match c.callee with
    | .value f => vCall P e H n K f c.args.toList
    | .builtin b => vBuiltin P e H n K b c.args.toList c.argTypes
    | _ => False
  | _ => False
end
section
variable {P : Program} {Z : Nat → Nat → Prop} [Zone Z] {B : Nat} {ρ ρ' : Names} {w w' : World} {H : Heap} {n : Nat} {tm : Nat → VV} {a : Act} {K : VV → Heap → Nat → Prop} {o : Oper}
theorem min_sound (hT : TM ρ w tm a) (hh : HR Z B ρ H n w) (x y : Operand) (ts : Array TypeId) (ho : o.op = .call { callee := .builtin .min, args := #[x, y], argTypes := ts }) (h : vMin (ev tm) H n K x y) : Runs P Z B K ρ w (execOp a.eval o) := by
  unfold vMin onV at h
  dsimp only at h
  have hx := ev_sound hT x
  have hy := ev_sound hT y
  split at h
  · rename_i k i k' j e1 e2
    rw [e1] at hx
    rw [e2] at hy
    obtain ⟨rfl, h⟩ := h
    refine runs_value (x := .int k (if j < i then j else i)) ?_ h VR_int hh
    simp [execOp, ho, resolve, invoke, builtin, hx.int, hy.int, Builtin.min_, Builtin.min2]
  · exact h.elim
theorem args_list {α : Type} (xs : Array α) (l : List α) (h : xs.toList = l) : xs = l.toArray := by rw [← h]
theorem vop_soundZ (hc : ∀ f xs ts, o.op ≠ .call { callee := .value f, args := xs, argTypes := ts }) (hT : TM ρ w tm a) (hh : HR Z B ρ H n w) (hG : Gives Z n K) (h : vop P (ev tm) H n K o) : Runs P Z B K ρ w (execOp a.eval o) := by
  unfold vop at h
  split at h <;> rename_i ho
  · exact move_sound hT hh _ (.inl ho) h
  · exact move_sound hT hh _ (.inr ho) h
  · exact pick_sound hT hh _ _ _ ho h
  · exact alloc_sound hh hG _ ho h
  · exact box_sound hT hh hG _ _ ho h
  · exact build_sound hT hh _ _ ho h
  · exact buildSlice_sound hT hh hG _ _ _ ho h
  · exact load_sound hT hh _ _ ho h
  · exact store_sound hT hh _ _ _ ho h
  · exact nilCheck_sound hT hh _ ho h
  · exact binX_sound hT hh _ _ _ _ _ ho h
  · exact un_sound hT hh _ _ _ ho h
  · unfold vConv onV at h
    dsimp only at h
    split at h
    · exact convert_sound hT hh _ _ _ ho h
    · exact toBytes_sound hT hh hG _ _ _ ho h
    · exact toStr_sound hT hh _ _ _ ho h
    · exact toStr_sound hT hh _ _ _ ho h
    · exact h.elim
  · exact makeFunc_sound hT hh _ _ _ ho h
  · exact makeSlice_sound hT hh hG _ _ _ ho h
  · exact slice_sound hT hh _ _ _ _ ho h
  · exact fieldAddr_sound hT hh _ _ _ ho h
  · exact field_sound hT hh _ _ _ ho h
  · exact indexAddr_sound hT hh _ _ _ ho h
  · exact index_sound hT hh _ _ _ ho h
  · exact extract_sound hT hh _ _ ho h
  · exact arrPtr_sound hT hh _ _ ho h
  · exact makeMap_sound hh hG _ ho h
  · exact lookup_sound hT hh _ _ _ _ ho h
  · exact mapUpdate_sound hT hh _ _ _ _ (.inl ho) h
  · exact mapUpdate_sound hT hh _ _ _ _ (.inr ho) h
  · rename_i c
    split at h
    · rename_i f hf
      obtain ⟨cal, xs, ts⟩ := c
      dsimp only at hf
      subst hf
      exact absurd ho (hc f xs ts)
    · rename_i b hb
      obtain ⟨cal, xs, ts⟩ := c
      dsimp only at hb h
      subst hb
      unfold vBuiltin at h
      split at h
      · rename_i x hx
        have := args_list xs _ hx
        subst this
        exact len_sound hT hh _ ts ho h
      · rename_i s x hx
        have := args_list xs _ hx
        subst this
        obtain ⟨hts, h⟩ := h
        exact append_sound hT hh hG _ _ ts hts ho h
      · rename_i x y hx
        have := args_list xs _ hx
        subst this
        exact min_sound hT hh _ _ ts ho h
      · rename_i x y hx
        have := args_list xs _ hx
        subst this
        exact max_sound hT hh _ _ ts ho h
      · exact h.elim
    · exact h.elim
  · exact h.elim
theorem vop_sound (hT : TM ρ w tm a) (hh : HR ZT B ρ H n w) (h : vop P (ev tm) H n K o) : Runs P ZT B K ρ w (execOp a.eval o) := by
  by_cases hc : ∃ f xs ts, o.op = .call { callee := .value f, args := xs, argTypes := ts }
  · obtain ⟨f, xs, ts, ho⟩ := hc
    unfold vop at h
    rw [ho] at h
    exact call_sound hT hh f xs ts ho h
  · exact vop_soundZ (fun f xs ts e => hc ⟨f, xs, ts, e⟩) hT hh (fun _ _ _ _ _ => trivial) h
end

/-! ### lists -/
def dstAt : List Oper → Nat → Option Nat
  | [], _ => none
  | o :: _, 0 => o.dst
  | _ :: l, n + 1 => dstAt l n
theorem dstAt_eq : ∀ (l : List Oper) (j : Nat), dstAt l j = (l[j]?).bind (·.dst)
  | [], j => by simp [dstAt]
  | o :: l, 0 => by simp [dstAt]
  | o :: l, j + 1 => by simp [dstAt, dstAt_eq l j]
def vstep (P : Program) (ops : List Oper) (o : Oper) (S : VS) (K : VS → Prop) : Prop :=
  match o.guard with
  | none => vop P (ev S.tm) S.hp S.nx (fun v H n' => K ⟨put o.dst v S.tm, H, n'⟩) o
  | some (j, want) => bnd (dstAt ops j) fun d => onV (S.tm d) fun v => match v with
    | .bool b => vif (b == want) (vop P (ev (upd S.tm d (.bool want))) S.hp S.nx (fun v H n' => K ⟨put o.dst v (upd S.tm d (.bool want)), H, n'⟩) o)
        (K ⟨put o.dst (.raw undef) (upd S.tm d (.bool (!want))), S.hp, S.nx⟩)
    | .raw u => cnd (u = undef) (K ⟨put o.dst (.raw undef) S.tm, S.hp, S.nx⟩)
    | _ => False
def vlist (P : Program) (ops : List Oper) : List Oper → VS → (VS → Prop) → Prop
  | [], S, K => K S
  | o :: l, S, K => vstep P ops o S fun S' => vlist P ops l S' K
def vdraw (P : Program) (ops : Array Oper) (S : VS) (K : VS → Prop) : Prop :=
  ∀ (id N B : Nat) (ρ0 : Names) (w0 : World) (Q : Exit → Act → World → Prop) (a : Act) (w : World) (ρ : Names), (∀ o ∈ ops.toList, ∀ d, o.dst = some d → d < N) → TM ρ w S.tm a → a.defers = [] → a.tmps.size = N → HR ZT B ρ S.hp S.nx w → Below B w0 w → Ext ρ0 w0 ρ w →
    (∀ S' a' w' ρ', K S' → TM ρ' w' S'.tm a' → a'.defers = [] → a'.tmps.size = N → HR ZT B ρ' S'.hp S'.nx w' → Below B w0 w' → Ext ρ0 w0 ρ' w' → Q .normal a' w') → (Code.region id ops true).wp P Q a w

inductive VX where
  | normal
  | exit (id : Nat)
  | ret
def VX.seq (N : VS → Prop) (K : VX → VS → Prop) : VX → VS → Prop
  | .normal, S => N S
  | .exit i, S => K (.exit i) S
  | .ret, S => K .ret S
def VX.block (id : Nat) (K : VX → VS → Prop) : VX → VS → Prop
  | .exit j, S => if j = id then K .normal S else K (.exit j) S
  | .normal, S => K .normal S
  | .ret, S => K .ret S
def Sub (S T : VS) : Prop := ∀ B ρ a w, TM ρ w S.tm a → HR ZT B ρ S.hp S.nx w → ∃ ρ', TM ρ' w T.tm a ∧ HR ZT B ρ' T.hp T.nx w ∧ Ext ρ w ρ' w
def vloop (L : VS → (VX → VS → Prop) → Prop) (S : VS) (K : VX → VS → Prop) : Prop :=
  ∃ (I : VS → Prop) (μ : VS → Nat), (∃ T, Sub S T ∧ I T) ∧ ∀ S, I S → L S (fun e S' => match e with
    | .normal => ∃ T, Sub S' T ∧ I T ∧ μ T < μ S
    | .exit i => K (.exit i) S'
    | .ret => K .ret S')
structure SR (N B : Nat) (ρ0 : Names) (w0 : World) (S : VS) (a : Act) (w : World) (ρ : Names) : Prop where
  tm : TM ρ w S.tm a
  defers : a.defers = []
  size : a.tmps.size = N
  heap : HR ZT B ρ S.hp S.nx w
  below : Below B w0 w
  ext : Ext ρ0 w0 ρ w

section
variable {P : Program} {N B : Nat} {ρ0 ρ ρ' : Names} {w0 w w' : World} {a : Act}
theorem TM.ext {tm : Nat → VV} (h : TM ρ w tm a) (he : Ext ρ w ρ' w') : TM ρ' w' tm a := fun t => VR.ext he _ _ (h t)
theorem TM.put {tm : Nat → VV} (h : TM ρ w tm a) {d : Option Nat} {v : VV} {x : Value} (hd : ∀ t, d = some t → t < a.tmps.size) (hv : VR ρ w v x) : TM ρ w (V.put d v tm) (a.put d x) := by
  cases d with
  | none => exact h
  | some d =>
    intro t
    have := hd d rfl
    simp only [V.put,Act.put,upd_ap]
    by_cases e : t = d
    · subst e
      rw [if_pos rfl]
      simpa [Array.getD_eq_getD_getElem?, this] using hv
    · rw [if_neg e]
      have := h t
      simpa [Array.getD_eq_getD_getElem?, Array.getElem?_setIfInBounds_ne (Ne.symm e)] using this
theorem TM.upd {tm : Nat → VV} (h : TM ρ w tm a) {d : Nat} {v : VV} (hv : VR ρ w v (a.tmps.getD d undef)) : TM ρ w (V.upd tm d v) a := by
  intro t
  rw [upd_ap]
  split
  · rename_i e; rw [e]; exact hv
  · exact h t
theorem put_size (a : Act) (d : Option Nat) (x : Value) : (a.put d x).tmps.size = a.tmps.size ∧ (a.put d x).defers = a.defers := by
  cases d <;> simp [Act.put]
theorem wp_of_runs {B : Nat} {K : VV → Heap → Nat → Prop} {o : Oper} {Nx : Act → World → Prop} {Q : Exit → Act → World → Prop} (h : Runs P ZT B K ρ w (execOp a.eval o)) (next : ∀ x w', Good ZT B K ρ w x w' → Nx (a.put o.dst x) w') : o.wp P a w Nx Q := by
  unfold Oper.wp
  rcases h with ⟨x, w', hr, hg⟩ | ⟨w', hr, hg⟩ | ⟨f, xs, hr, hc⟩
  · rw [hr]; exact next x w' hg
  · rw [hr]; exact next _ w' hg
  · rw [hr]
    refine Calls.mono hc fun e w' he => ?_
    obtain ⟨x, rfl, hg⟩ := he
    exact next x w' hg
theorem vstep_sound {ops : Array Oper} {o : Oper} {S : VS} {K : VS → Prop} {Nx : Act → World → Prop} {Q : Exit → Act → World → Prop} (hd : ∀ t, o.dst = some t → t < N) (h : vstep P ops.toList o S K) (hS : SR N B ρ0 w0 S a w ρ)
    (next : ∀ S' a' w' ρ', K S' → SR N B ρ0 w0 S' a' w' ρ' → Nx a' w') :
    if Region.wanted o (yielded ops a.tmps) = true then o.wp P a w Nx Q else Nx (a.put o.dst undef) w := by
  have hd' : ∀ t, o.dst = some t → t < a.tmps.size := fun t ht => by rw [hS.size]; exact hd t ht
  have go : ∀ (tm : Nat → VV), TM ρ w tm a → vop P (ev tm) S.hp S.nx (fun v H n' => K ⟨V.put o.dst v tm, H, n'⟩) o → o.wp P a w Nx Q := by
    intro tm hT hv
    refine wp_of_runs (vop_sound hT hS.heap hv) fun x w' hg => ?_
    obtain ⟨v, H', n', ρ', hk, hvr, hh, he, hb⟩ := hg
    have hz := put_size a o.dst x
    exact next _ _ _ ρ' hk ⟨(hT.ext he).put hd' hvr, by rw [hz.2]; exact hS.defers, by rw [hz.1]; exact hS.size, hh, hS.below.trans hb, hS.ext.trans he⟩
  have skip : ∀ (tm : Nat → VV), TM ρ w tm a → K ⟨V.put o.dst (.raw undef) tm, S.hp, S.nx⟩ → Nx (a.put o.dst undef) w := by
    intro tm hT hk
    have hz := put_size a o.dst undef
    exact next _ _ _ ρ hk ⟨hT.put hd' (by simp [VR, VR1, C1]), by rw [hz.2]; exact hS.defers, by rw [hz.1]; exact hS.size, hS.heap, hS.below, hS.ext⟩
  unfold vstep at h
  split at h
  · rename_i hg
    rw [if_pos (by simp [Region.wanted, hg])]
    exact go _ hS.tm h
  · rename_i j want hg
    replace h := bnd_iff.1 h
    obtain ⟨d, hdj, h⟩ := h
    rw [dstAt_eq, Array.getElem?_toList] at hdj
    have hyd : yielded ops a.tmps j = match a.tmps[d]? with | some (.bool b) => some b | _ => none := by
      unfold yielded
      rw [hdj]
      simp only [Option.bind_some]
      rfl
    have hT := hS.tm d
    unfold onV at h
    dsimp only at h
    split at h
    · rename_i b e
      rw [e] at hT
      have hb := hT.bool
      have hbd : a.tmps[d]? = some (.bool b) := by
        rw [Array.getD_eq_getD_getElem?] at hb
        cases hx : a.tmps[d]? with
        | none => rw [hx] at hb; simp [undef] at hb
        | some y => rw [hx] at hb; simp at hb; rw [hb]
      have hw : Region.wanted o (yielded ops a.tmps) = (b == want) := by
        simp only [Region.wanted,hg,hyd,hbd]
        cases b <;> cases want <;> rfl
      rw [hw]
      obtain ⟨h1, h2⟩ := h
      by_cases hbw : (b == want) = true
      · rw [if_pos hbw]
        have hbe : b = want := by simpa using hbw
        subst hbe
        exact go _ (hS.tm.upd (by rw [hb]; exact VR_bool)) (h1 hbw)
      · have hbf : (b == want) = false := by simpa using hbw
        rw [if_neg (by simp [hbf])]
        have hbe : b = !want := by cases b <;> cases want <;> simp_all
        subst hbe
        exact skip _ (hS.tm.upd (by rw [hb]; exact VR_bool)) (h2 hbf)
    · rename_i u e
      rw [e] at hT
      obtain ⟨rfl, h⟩ := h
      have hx : a.tmps.getD d undef = undef := by simpa [VR, VR1, C1] using hT
      have hw : Region.wanted o (yielded ops a.tmps) = false := by
        simp only [Region.wanted,hg,hyd]
        rw [Array.getD_eq_getD_getElem?] at hx
        cases hy : a.tmps[d]? with
        | none => cases want <;> rfl
        | some y =>
          rw [hy] at hx
          simp only [Option.getD_some] at hx
          subst hx
          cases want <;> rfl
      rw [hw, if_neg (by simp)]
      exact skip _ hS.tm h
    · exact h.elim
theorem vlist_sound {ops : Array Oper} {Q : Exit → Act → World → Prop} {K : VS → Prop} : ∀ (l : List Oper) (S : VS) (a : Act) (w : World) (ρ : Names), (∀ o ∈ l, ∀ t, o.dst = some t → t < N) → vlist P ops.toList l S K → SR N B ρ0 w0 S a w ρ →
    (∀ S' a' w' ρ', K S' → SR N B ρ0 w0 S' a' w' ρ' → Q .normal a' w') → wpList P ops Q l a w
  | [], S, a, w, ρ, _, h, hS, next => next S a w ρ h hS
  | o :: l, S, a, w, ρ, hd, h, hS, next => by
    refine wpList_step fun Kx hKx => ?_
    exact vstep_sound (hd o (by simp)) h hS fun S' a' w' ρ' hk hS' => hKx _ _ (vlist_sound l S' a' w' ρ' (fun o ho => hd o (by simp [ho])) hk hS' next)

/-! ### code -/
def VX.x : VX → Exit
  | .normal => .normal
  | .exit i => .exit i
  | .ret => .ret
def codeOk (N : Nat) : Code → Bool
  | .region _ ops _ => ops.toList.all fun o => match o.dst with | some d => decide (d < N) | none => true
  | .seq a b => codeOk N a && codeOk N b
  | .cond _ a b => codeOk N a && codeOk N b
  | .block _ c => codeOk N c
  | .loop c => codeOk N c
  | .scope c => codeOk N c
  | _ => true
theorem least {p : Nat → Prop} (h : ∃ n, p n) : ∃ n, p n ∧ ∀ m, p m → n ≤ m := by
  obtain ⟨n, hn⟩ := h
  induction n using Nat.strongRecOn with
  | _ n ih =>
    by_cases hm : ∃ m, m < n ∧ p m
    · obtain ⟨m, h1, h2⟩ := hm
      exact ih m h1 h2
    · exact ⟨n, hn, fun m hp => by
        rcases Nat.lt_or_ge m n with h | h
        · exact absurd ⟨m, h, hp⟩ hm
        · exact h⟩
theorem wp_loop_rel {α : Type} {c : Code} {Q : Exit → Act → World → Prop} (I : α → Act → World → Prop) (μ : α → Nat) {s : α} (h0 : I s a w)
    (round : ∀ s a w, I s a w → c.wp P (Exit.then (fun a' w' => ∃ s', I s' a' w' ∧ μ s' < μ s) Q) a w) : (Code.loop c).wp P Q a w := by
  classical
  have hex : ∀ a w, (∃ s, I s a w) → ∃ n, (∃ s, I s a w ∧ μ s = n) ∧ ∀ m, (∃ s, I s a w ∧ μ s = m) → n ≤ m := fun a w ⟨s, hs⟩ => least ⟨μ s, s, hs, rfl⟩
  let m : Act → World → Nat := fun a w => if h : ∃ s, I s a w then Classical.choose (hex a w h) else 0
  refine wp_loop (fun a w => ∃ s, I s a w) m ⟨s, h0⟩ fun a w hI => ?_
  have hm : m a w = Classical.choose (hex a w hI) := by simp only [m]; rw [dif_pos hI]
  obtain ⟨⟨s, hs, hμ⟩, _⟩ := Classical.choose_spec (hex a w hI)
  refine Code.wp_mono (fun e a' w' hq => ?_) (round s a w hs)
  cases e with
  | normal =>
    obtain ⟨s', h1, h2⟩ := hq
    have hI' : ∃ s, I s a' w' := ⟨s', h1⟩
    refine ⟨hI', ?_⟩
    have hm' : m a' w' = Classical.choose (hex a' w' hI') := by simp only [m]; rw [dif_pos hI']
    rw [hm, hm', ← hμ]
    exact Nat.lt_of_le_of_lt ((Classical.choose_spec (hex a' w' hI')).2 _ ⟨s', h1, rfl⟩) h2
  | _ => exact hq
end
end Go.Proofs.Ytlgldkjjbbbapaa.V
end
section
/-
  A MACHINE OF VALUES, THIRTEENTH PART: functions: what they answer, said of data; calls.
-/
set_option linter.unusedVariables false
set_option linter.unusedSectionVars false
set_option linter.unusedSimpArgs false
namespace Go.Proofs.Ytlgldkjjbbbapaa.V
open Go Go.RowKit

mutual
def nl : VV → Bool
  | .int _ _ => true
  | .bool _ => true
  | .str _ => true
  | .agg vs => nls vs
  | .tup vs => nls vs
  | .sl none _ => true
  | .sl (some _) _ => false
  | .ptr _ _ => false
  | .fn _ caps => nls caps
  | .map _ => false
  | .dat _ els => nls els
  | .pd _ v => nl v
  | .vec _ _ => false
  | .any => false
  | .raw _ => true
def nls : List VV → Bool
  | [] => true
  | v :: l => nl v && nls l
end
theorem nls_iff : ∀ (l : List VV), nls l = true ↔ ∀ v ∈ l, nl v = true
  | [] => by simp [nls]
  | v :: l => by simp [nls, nls_iff l]
theorem nls_map {α : Type} (f : α → VV) (h : ∀ x, nl (f x) = true) (l : List α) : nls (l.map f) = true := by
  rw [nls_iff]
  intro v hv
  obtain ⟨x, _, rfl⟩ := List.mem_map.1 hv
  exact h x

def Names.bare (U : Nat → Prop) : Names := ⟨fun _ => none, U⟩
section
variable {ρ : Names} {w : World} {U : Nat → Prop}
mutual
theorem C1.bare (hU : ∀ b, Unnamed ρ b → U b) : ∀ (v : VV) (cs : List Value), nl v = true → C1 ρ w v cs → C1 (.bare U) w v cs
  | .int _ _, _, _, h => by simpa only [C1] using h
  | .bool _, _, _, h => by simpa only [C1] using h
  | .str _, _, _, h => by simpa only [C1] using h
  | .agg vs, cs, hn, h => by simp only [C1] at h ⊢; exact CR.bare hU vs cs (by simpa only [nl] using hn) h
  | .tup _, _, _, h => by simp only [C1] at h
  | .sl none _, _, _, h => by simpa only [C1] using h
  | .sl (some _) _, _, hn, _ => by simp [nl] at hn
  | .ptr _ _, _, hn, _ => by simp [nl] at hn
  | .fn f caps, cs, hn, h => by
    simp only [C1] at h ⊢
    obtain ⟨xs, h1, h2⟩ := h
    exact ⟨xs, h1, CV.bare hU caps _ (by simpa only [nl] using hn) h2⟩
  | .map _, _, hn, _ => by simp [nl] at hn
  | .dat s els, cs, hn, h => by
    simp only [C1] at h ⊢
    obtain ⟨A, c, h1, h2, h3⟩ := h
    refine ⟨A, c, h1, h2, fun hne => ?_⟩
    obtain ⟨b, o, ecs, g1, g2, g3, g4, g5, g6⟩ := h3 hne
    exact ⟨b, o, ecs, g1, CR.bare hU els ecs (by simpa only [nl] using hn) g2, g3, g4, ⟨hU b g5, fun n l hl => by cases hl⟩, g6⟩
  | .pd s v, cs, hn, h => by
    simp only [C1] at h ⊢
    obtain ⟨b, o, ecs, g1, g2, g3, g4, g5, g6⟩ := h
    exact ⟨b, o, ecs, g1, C1.bare hU v ecs (by simpa only [nl] using hn) g2, g3, g4, ⟨hU b g5, fun n l hl => by cases hl⟩, g6⟩
  | .vec _ _, _, _, h => by simp only [C1] at h
  | .any, _, hn, _ => by simp [nl] at hn
  | .raw _, _, _, h => by simpa only [C1] using h
theorem CR.bare (hU : ∀ b, Unnamed ρ b → U b) : ∀ (vs : List VV) (cs : List Value), nls vs = true → CR ρ w vs cs → CR (.bare U) w vs cs
  | [], _, _, h => by simpa only [CR] using h
  | v :: vs, cs, hn, h => by
    simp only [nls,Bool.and_eq_true] at hn
    simp only [CR] at h ⊢
    obtain ⟨c1, c2, h1, h2, h3⟩ := h
    exact ⟨c1, c2, h1, C1.bare hU v c1 hn.1 h2, CR.bare hU vs c2 hn.2 h3⟩
theorem CV.bare (hU : ∀ b, Unnamed ρ b → U b) : ∀ (vs : List VV) (cs : List Value), nls vs = true → CV ρ w vs cs → CV (.bare U) w vs cs
  | [], _, _, h => by simpa only [CV] using h
  | v :: vs, cs, hn, h => by
    simp only [nls,Bool.and_eq_true] at hn
    simp only [CV] at h ⊢
    obtain ⟨c1, c2, h1, h2, h3, h4⟩ := h
    exact ⟨c1, c2, h1, h2, C1.bare hU v [c1] hn.1 h3, CV.bare hU vs c2 hn.2 h4⟩
end
theorem VR1.bare (hU : ∀ b, Unnamed ρ b → U b) {v : VV} {x : Value} (hn : nl v = true) (h : VR1 ρ w v x) : VR1 (.bare U) w v x := by
  cases v with
  | agg vs => obtain ⟨cs, h1, h2⟩ := h; exact ⟨cs, h1, CR.bare hU vs _ (by simpa only [nl] using hn) h2⟩
  | any => simp [nl] at hn
  | _ => exact C1.bare hU _ _ hn h
end
mutual
def Rd (H : Heap) : VV → VV → Prop
  | .agg vs, d => ∃ ds, d = .agg ds ∧ RdL H vs ds
  | .sl (some (m, p, i)) n, d => ∃ s c k e els, H m = some (.row s c) ∧ s.at p = some (.arr k e) ∧ c.get p = some (.agg els) ∧ i + n ≤ els.length ∧ nls ((els.drop i).take n) = true ∧ d = .dat e ((els.drop i).take n)
  | .sl none n, d => d = .sl none n ∨ (n = 0 ∧ ∃ e, d = .dat e [])
  | v, d => nl v = true ∧ d = v
def RdL (H : Heap) : List VV → List VV → Prop
  | [], ds => ds = []
  | v :: vs, ds => ∃ d ds', ds = d :: ds' ∧ Rd H v d ∧ RdL H vs ds'
end
section
variable {Z : Nat → Nat → Prop} [Zone Z] {B n : Nat} {ρ : Names} {w : World} {U : Nat → Prop} {H : Heap}
mutual
theorem Rd.cells (hh : HR Z B ρ H n w) (hU : ∀ b, ρ.im b → U b) (hU2 : ∀ m l, ρ m = some l → U l.block) : ∀ (v d : VV) (cs : List Value), Rd H v d → C1 ρ w v cs → C1 (.bare U) w d cs
  | .agg vs, d, cs, h, hc => by
    simp only [Rd] at h
    obtain ⟨ds, rfl, h⟩ := h
    simp only [C1] at hc ⊢
    exact RdL.cells hh hU hU2 vs ds cs h hc
  | .sl none k, d, cs, h, hc => by
    simp only [Rd] at h
    rcases h with rfl | ⟨rfl, e, rfl⟩
    · simpa only [C1] using hc
    · simp only [C1] at hc ⊢
      exact ⟨none, 0, hc.2, Nat.le_refl _, fun h => absurd rfl h⟩
  | .sl (some (m, p, i)) k, d, cs, h, hc => by
    simp only [Rd] at h
    obtain ⟨s, c, j, e, els, h1, h2, h3, h4, h5, rfl⟩ := h
    simp only [C1] at hc ⊢
    have hlen : ((els.drop i).take k).length = k := by rw [List.length_take, List.length_drop]; omega
    rw [hlen]
    rcases hc with ⟨rfl, A, hc⟩ | ⟨l, cap, e', j', hl, hc, hcap, hat, _⟩
    · exact ⟨A, 0, hc, Nat.le_refl _, fun h => absurd (by simp) h⟩
    · refine ⟨_, cap, hc, hcap, fun _ => ?_⟩
      have hrow := hh.row m s c l h1 hl
      obtain ⟨ds, q1, q2, q3⟩ := hrow.cells
      obtain ⟨su, pre, mid, post, k1, k2, rfl, k4, k5, _, _⟩ := focus p s c (.agg els) ds hrow.has h3 q1
      rw [h2] at k1
      injection k1 with k1
      subst k1
      simp only [Has] at k2
      simp only [C1] at k5
      obtain ⟨pr, md, ps, rfl, r1, r2, r3⟩ := CR.part k5 k2.2 i (i + k) (by omega) h4
      rw [show i + k - i = k by omega] at r3
      refine ⟨l.block, _, md, rfl, CR.bare (fun b hb => hU b hb.1) _ _ h5 r3, fun v hv => k2.2 v (List.mem_of_mem_drop (List.mem_of_mem_take hv)), ?_, ⟨hU2 m l hl, fun n l hl => by cases hl⟩, (hh.lt m l hl).2⟩
      rw [hrow.sh, (at_append p s _ [i] h2).2, ← k4]
      simp only [Sh.off,Nat.add_zero]
      rw [← r1, ← Nat.add_assoc]
      exact range_part (range_part q3)
  | .int _ _, d, cs, h, hc => by simp only [Rd] at h; rw [h.2]; exact C1.bare (fun b hb => hU b hb.1) _ _ h.1 hc
  | .bool _, d, cs, h, hc => by simp only [Rd] at h; rw [h.2]; exact C1.bare (fun b hb => hU b hb.1) _ _ h.1 hc
  | .str _, d, cs, h, hc => by simp only [Rd] at h; rw [h.2]; exact C1.bare (fun b hb => hU b hb.1) _ _ h.1 hc
  | .tup _, d, cs, h, hc => by simp only [Rd] at h; rw [h.2]; exact C1.bare (fun b hb => hU b hb.1) _ _ h.1 hc
  | .ptr _ _, d, cs, h, hc => by simp only [Rd] at h; rw [h.2]; exact C1.bare (fun b hb => hU b hb.1) _ _ h.1 hc
  | .fn _ _, d, cs, h, hc => by simp only [Rd] at h; rw [h.2]; exact C1.bare (fun b hb => hU b hb.1) _ _ h.1 hc
  | .map _, d, cs, h, hc => by simp only [Rd] at h; rw [h.2]; exact C1.bare (fun b hb => hU b hb.1) _ _ h.1 hc
  | .dat _ _, d, cs, h, hc => by simp only [Rd] at h; rw [h.2]; exact C1.bare (fun b hb => hU b hb.1) _ _ h.1 hc
  | .pd _ _, d, cs, h, hc => by simp only [Rd] at h; rw [h.2]; exact C1.bare (fun b hb => hU b hb.1) _ _ h.1 hc
  | .vec _ _, d, cs, h, hc => by simp only [Rd] at h; rw [h.2]; exact C1.bare (fun b hb => hU b hb.1) _ _ h.1 hc
  | .any, d, cs, h, hc => by simp only [Rd] at h; rw [h.2]; exact C1.bare (fun b hb => hU b hb.1) _ _ h.1 hc
  | .raw _, d, cs, h, hc => by simp only [Rd] at h; rw [h.2]; exact C1.bare (fun b hb => hU b hb.1) _ _ h.1 hc
theorem RdL.cells (hh : HR Z B ρ H n w) (hU : ∀ b, ρ.im b → U b) (hU2 : ∀ m l, ρ m = some l → U l.block) : ∀ (vs ds : List VV) (cs : List Value), RdL H vs ds → CR ρ w vs cs → CR (.bare U) w ds cs
  | [], ds, cs, h, hc => by
    simp only [RdL] at h
    subst h
    simpa only [CR] using hc
  | v :: vs, ds, cs, h, hc => by
    simp only [RdL] at h
    obtain ⟨d, ds', rfl, h1, h2⟩ := h
    simp only [CR] at hc ⊢
    obtain ⟨c1, c2, g1, g2, g3⟩ := hc
    exact ⟨c1, c2, g1, Rd.cells hh hU hU2 v d c1 h1 g2, RdL.cells hh hU hU2 vs ds' c2 h2 g3⟩
end
theorem Rd.value1 (hh : HR Z B ρ H n w) (hU : ∀ b, ρ.im b → U b) (hU2 : ∀ m l, ρ m = some l → U l.block) {v d : VV} {x : Value} (h : Rd H v d) (hx : VR1 ρ w v x) : VR1 (.bare U) w d x := by
  cases v with
  | agg vs =>
    simp only [Rd] at h
    obtain ⟨ds, rfl, h⟩ := h
    obtain ⟨cs, h1, h2⟩ := hx
    exact ⟨cs, h1, RdL.cells hh hU hU2 vs ds _ h h2⟩
  | any => simp [Rd, nl] at h
  | tup vs => simp [VR1, C1] at hx
  | vec _ _ => simp [VR1, C1] at hx
  | sl p k =>
    have := Rd.cells hh hU hU2 _ _ _ h (show C1 ρ w (.sl p k) [x] from hx)
    cases p with
    | none =>
      simp only [Rd] at h
      rcases h with rfl | ⟨_, e, rfl⟩ <;> exact this
    | some q =>
      obtain ⟨m, p, i⟩ := q
      simp only [Rd] at h
      obtain ⟨s, c, j, e, els, _, _, _, _, _, rfl⟩ := h
      exact this
  | _ =>
    have := Rd.cells hh hU hU2 _ _ _ h hx
    simp only [Rd] at h
    rw [h.2] at this ⊢
    exact this
def RdT (H : Heap) : VV → VV → Prop
  | .tup vs, d => ∃ ds, d = .tup ds ∧ RdL H vs ds
  | v, d => Rd H v d
theorem RdL.values (hh : HR Z B ρ H n w) (hU : ∀ b, ρ.im b → U b) (hU2 : ∀ m l, ρ m = some l → U l.block) : ∀ (vs ds : List VV) (xs : List Value), RdL H vs ds → VRs ρ w vs xs → VRs (.bare U) w ds xs
  | [], ds, xs, h, hx => by
    simp only [RdL] at h
    subst h
    exact hx
  | v :: vs, ds, xs, h, hx => by
    simp only [RdL] at h
    obtain ⟨d, ds', rfl, h1, h2⟩ := h
    obtain ⟨x, ys, g1, g2, g3⟩ := hx
    exact ⟨x, ys, g1, Rd.value1 hh hU hU2 h1 g2, RdL.values hh hU hU2 vs ds' ys h2 g3⟩
theorem RdT.value (hh : HR Z B ρ H n w) (hU : ∀ b, ρ.im b → U b) (hU2 : ∀ m l, ρ m = some l → U l.block) {v d : VV} {x : Value} (h : RdT H v d) (hx : VR ρ w v x) : VR (.bare U) w d x := by
  cases v with
  | tup vs =>
    obtain ⟨ds, rfl, h⟩ := h
    obtain ⟨xs, h1, h2⟩ := hx
    exact ⟨xs, h1, RdL.values hh hU hU2 vs ds _ h h2⟩
  | _ =>
    simp only [RdT] at h
    simp only [VR] at hx
    exact VR.of1 (Rd.value1 hh hU hU2 h hx)
end

def Spec (P : Program) (f : FuncId) (ds : List VV) (r : VV) : Prop :=
  ∀ (U : Nat → Prop) (w : World) (xs : List Value), VRA (.bare U) w ds xs → Calls P f xs.toArray w (fun e w' => ∃ x, e = .returned x ∧ Below w.heap.size w w' ∧ VR (.bare fun b => U b ∨ w.heap.size ≤ b) w' r x)

def argsF : Nat → List VV → (Nat → VV) → Nat → VV
  | _, [], f => f
  | i, v :: l, f => argsF (i + 1) l (upd f i v)
theorem argsF_at : ∀ (l : List VV) (i : Nat) (f : Nat → VV) (t : Nat), argsF i l f t = if i ≤ t ∧ t < i + l.length then l.getD (t - i) .any else f t
  | [], i, f, t => by simp [argsF]; omega
  | v :: l, i, f, t => by
    simp only [argsF]
    rw [argsF_at l (i + 1) (upd f i v) t]
    by_cases h1 : i + 1 ≤ t ∧ t < i + 1 + l.length
    · rw [if_pos h1, if_pos (by simp; omega), show t - i = (t - (i + 1)) + 1 by omega]
      simp
    · rw [if_neg h1, upd_ap]
      by_cases h2 : t = i
      · rw [if_pos h2, if_pos (by simp; omega), show t - i = 0 by omega]
        simp
      · rw [if_neg h2, if_neg (by simp; omega)]
def vres1 (P : Program) (S : VS) (r : ResultVar) (k : VV → Prop) : Prop := match r with
  | .tmp t => k (S.tm t)
  | .cell a t => onV (S.tm a) fun v => match v with
    | .ptr m p => bnd (S.hp m) fun b => match b with
      | .row s c => cnd (s.at p = SH P t) (bnd (c.get p) k)
      | _ => False
    | _ => False
def vresL (P : Program) (S : VS) : List ResultVar → (List VV → Prop) → Prop
  | [], k => k []
  | r :: rs, k => vres1 P S r fun v => vresL P S rs fun vs => k (v :: vs)
def notTup : VV → Bool
  | .tup _ => false
  | _ => true
def vres (P : Program) (S : VS) (rs : List ResultVar) (k : VV → Prop) : Prop := vresL P S rs fun vs => match vs with
  | [v] => k v
  | vs => cnd (vs.all notTup = true) (k (.tup vs))
theorem VR.to1 {ρ : Names} {w : World} {v : VV} {x : Value} (h : VR ρ w v x) (hn : notTup v = true) : VR1 ρ w v x := by
  cases v <;> first | exact h | simp [notTup] at hn
theorem VRs_of_VRA {ρ : Names} {w : World} : ∀ (vs : List VV) (xs : List Value), VRA ρ w vs xs → vs.all notTup = true → VRs ρ w vs xs
  | [], _, h, _ => h
  | v :: vs, xs, h, hn => by
    obtain ⟨x, ys, h1, h2, h3⟩ := h
    simp only [List.all_cons,Bool.and_eq_true] at hn
    exact ⟨x, ys, h1, h2.to1 hn.1, VRs_of_VRA vs ys h3 hn.2⟩
section
variable {P : Program} {N B : Nat} {ρ0 ρ : Names} {w0 w : World} {a : Act} {S : VS}
def resRun (a : Act) : ResultVar → Sem Value
  | .tmp t => pure (a.tmps.getD t undef)
  | .cell b t => do loadVar t (← asAddr (a.tmps.getD b undef))
theorem vres1_sound (hS : SR N B ρ0 w0 S a w ρ) (r : ResultVar) (k : VV → Prop) (h : vres1 P S r k) :
    ∃ v x, k v ∧ VR ρ w v x ∧ (resRun a r).run P w = .ok x w := by
  cases r with
  | tmp t => exact ⟨_, _, h, hS.tm t, rfl⟩
  | cell b t =>
    simp only [vres1,onV] at h
    have hb := hS.tm b
    split at h
    · rename_i m p e
      rw [e] at hb
      obtain ⟨l, hl, hp⟩ := hb.ptr
      replace h := bnd_iff.1 h
      obtain ⟨blk, hbk, h⟩ := h
      cases blk with
      | map es => exact h.elim
      | row s c =>
        obtain ⟨h1, h2⟩ := h
        replace h2 := bnd_iff.1 h2
        obtain ⟨u, hu, h2⟩ := h2
        have hrow := hS.heap.row m s c l hbk hl
        obtain ⟨cs, g1, g2, g3⟩ := hrow.cells
        obtain ⟨su, pre, mid, post, k1, k2, rfl, k4, k5, _, _⟩ := focus p s c u cs hrow.has hu g1
        rw [k1] at h1
        obtain ⟨y, hy1, hy2⟩ := load_run (P := P) h1.symm k2 k5 (range_part g3)
        refine ⟨u, y, h2, hy2, ?_⟩
        simp only [resRun,Sem.run_bind,hp,asAddr,Sem.run_pure,Result.andThen_ok]
        rw [hrow.sh, ← k4]
        exact hy1
    · exact h.elim
theorem vresL_sound (hS : SR N B ρ0 w0 S a w ρ) : ∀ (rs : List ResultVar) (k : List VV → Prop), vresL P S rs k →
    ∃ vs xs, k vs ∧ VRA ρ w vs xs ∧ (rs.mapM (resRun a)).run P w = .ok xs w
  | [], k, h => ⟨[], [], h, rfl, rfl⟩
  | r :: rs, k, h => by
    obtain ⟨v, x, h1, h2, h3⟩ := vres1_sound hS r _ h
    obtain ⟨vs, xs, g1, g2, g3⟩ := vresL_sound hS rs _ h1
    refine ⟨v :: vs, x :: xs, g1, ⟨x, xs, rfl, h2, g2⟩, ?_⟩
    simp only [List.mapM_cons,Sem.run_bind,h3,g3,Result.andThen_ok]
    rfl
theorem VRA.len {ρ : Names} {w : World} : ∀ (vs : List VV) (xs : List Value), VRA ρ w vs xs → vs.length = xs.length
  | [], xs, h => by have h : xs = [] := h; simp [h]
  | v :: vs, xs, h => by obtain ⟨x, ys, rfl, h2, h3⟩ := h; simp [VRA.len vs ys h3]
theorem vres_sound (hS : SR N B ρ0 w0 S a w ρ) (fn : Func) (k : VV → Prop) (h : vres P S fn.results.toList k) : ∃ v x, k v ∧ VR ρ w v x ∧ (results fn a.tmps).run P w = .ok x w := by
  obtain ⟨vs, xs, h1, h2, h3⟩ := vresL_sound hS _ _ h
  have hr : ∀ y, (if h : xs.toArray.size = 1 then xs.toArray[0] else .tuple xs.toArray) = y → (results fn a.tmps).run P w = .ok y w := by
    intro y hy
    have e : results fn a.tmps = (do
        let vs ← fn.results.mapM (resRun a)
        pure (if h : vs.size = 1 then vs[0] else .tuple vs)) := rfl
    rw [e, Array.mapM_eq_mapM_toList]
    simp only [Sem.run_bind,bind_map_left]
    rw [h3]
    simp only [Result.andThen_ok,Sem.run_pure]
    rw [hy]
  have hlen := h2.len
  split at h1
  · rename_i v
    obtain ⟨x, ys, rfl, h4, h5⟩ := h2
    have : ys = [] := h5
    subst this
    exact ⟨v, x, h1, h4, hr x (by simp)⟩
  · rename_i hne
    obtain ⟨hn, h1⟩ := h1
    refine ⟨_, .tuple xs.toArray, h1, ⟨xs.toArray, rfl, by simpa using VRs_of_VRA vs xs h2 hn⟩, hr _ ?_⟩
    rw [dif_neg]
    intro h
    match vs, hlen with
    | [], hl => simp at h hl; omega
    | [v], _ => exact hne v rfl
    | _ :: _ :: _, hl => simp at h hl; omega
section
variable {w : World} {ρ ρ' : Names}
mutual
theorem C1.mono (hN : ∀ m l, ρ m = some l → ρ' m = some l) (hU : ∀ b, b < w.heap.size → Unnamed ρ b → Unnamed ρ' b) : ∀ (v : VV) (cs : List Value), C1 ρ w v cs → C1 ρ' w v cs
  | .int _ _, _, h => by simpa only [C1] using h
  | .bool _, _, h => by simpa only [C1] using h
  | .str _, _, h => by simpa only [C1] using h
  | .agg vs, cs, h => by simp only [C1] at h ⊢; exact CR.mono hN hU vs cs h
  | .tup _, _, h => by simp only [C1] at h
  | .sl none _, _, h => by simpa only [C1] using h
  | .sl (some (m, p, i)) n, _, h => by
    simp only [C1] at h ⊢
    rcases h with h | ⟨l, c, e, k, h1, h2⟩
    · exact .inl h
    · exact .inr ⟨l, c, e, k, hN _ _ h1, h2⟩
  | .ptr m p, _, h => by
    simp only [C1] at h ⊢
    obtain ⟨l, h1, h2⟩ := h
    exact ⟨l, hN _ _ h1, h2⟩
  | .fn f caps, cs, h => by
    simp only [C1] at h ⊢
    obtain ⟨xs, h1, h2⟩ := h
    exact ⟨xs, h1, CV.mono hN hU caps _ h2⟩
  | .map m, _, h => by
    simp only [C1] at h ⊢
    obtain ⟨l, h1, h2⟩ := h
    exact ⟨l, hN _ _ h1, h2⟩
  | .dat s els, cs, h => by
    simp only [C1] at h ⊢
    obtain ⟨A, c, h1, h2, h3⟩ := h
    refine ⟨A, c, h1, h2, fun hne => ?_⟩
    obtain ⟨b, o, ecs, g1, g2, g3, g4, g5, g6⟩ := h3 hne
    exact ⟨b, o, ecs, g1, CR.mono hN hU els ecs g2, g3, g4, hU b g6 g5, g6⟩
  | .pd s v, cs, h => by
    simp only [C1] at h ⊢
    obtain ⟨b, o, ecs, g1, g2, g3, g4, g5, g6⟩ := h
    exact ⟨b, o, ecs, g1, C1.mono hN hU v ecs g2, g3, g4, hU b g6 g5, g6⟩
  | .vec _ _, _, h => by simp only [C1] at h
  | .any, _, h => by simpa only [C1] using h
  | .raw _, _, h => by simpa only [C1] using h
theorem CR.mono (hN : ∀ m l, ρ m = some l → ρ' m = some l) (hU : ∀ b, b < w.heap.size → Unnamed ρ b → Unnamed ρ' b) : ∀ (vs : List VV) (cs : List Value), CR ρ w vs cs → CR ρ' w vs cs
  | [], _, h => by simpa only [CR] using h
  | v :: vs, cs, h => by
    simp only [CR] at h ⊢
    obtain ⟨c1, c2, h1, h2, h3⟩ := h
    exact ⟨c1, c2, h1, C1.mono hN hU v c1 h2, CR.mono hN hU vs c2 h3⟩
theorem CV.mono (hN : ∀ m l, ρ m = some l → ρ' m = some l) (hU : ∀ b, b < w.heap.size → Unnamed ρ b → Unnamed ρ' b) : ∀ (vs : List VV) (cs : List Value), CV ρ w vs cs → CV ρ' w vs cs
  | [], _, h => by simpa only [CV] using h
  | v :: vs, cs, h => by
    simp only [CV] at h ⊢
    obtain ⟨c1, c2, h1, h2, h3, h4⟩ := h
    exact ⟨c1, c2, h1, h2, C1.mono hN hU v [c1] h3, CV.mono hN hU vs c2 h4⟩
end
theorem VR1.mono (hN : ∀ m l, ρ m = some l → ρ' m = some l) (hU : ∀ b, b < w.heap.size → Unnamed ρ b → Unnamed ρ' b) {v : VV} {x : Value} (h : VR1 ρ w v x) : VR1 ρ' w v x := by
  cases v with
  | agg vs => obtain ⟨cs, h1, h2⟩ := h; exact ⟨cs, h1, CR.mono hN hU vs _ h2⟩
  | any => trivial
  | _ => exact C1.mono hN hU _ _ h
theorem VRs.mono (hN : ∀ m l, ρ m = some l → ρ' m = some l) (hU : ∀ b, b < w.heap.size → Unnamed ρ b → Unnamed ρ' b) : ∀ (vs : List VV) (xs : List Value), VRs ρ w vs xs → VRs ρ' w vs xs
  | [], _, h => h
  | v :: vs, xs, h => by
    obtain ⟨x, ys, h1, h2, h3⟩ := h
    exact ⟨x, ys, h1, VR1.mono hN hU h2, VRs.mono hN hU vs ys h3⟩
theorem VR.mono (hN : ∀ m l, ρ m = some l → ρ' m = some l) (hU : ∀ b, b < w.heap.size → Unnamed ρ b → Unnamed ρ' b) {v : VV} {x : Value} (h : VR ρ w v x) : VR ρ' w v x := by
  cases v with
  | tup vs => obtain ⟨cs, h1, h2⟩ := h; exact ⟨cs, h1, VRs.mono hN hU vs _ h2⟩
  | _ => simp only [VR] at h ⊢; exact VR1.mono hN hU h
end
mutual
def pl : VV → Bool
  | .int _ _ => true
  | .bool _ => true
  | .str _ => true
  | .agg vs => pls vs
  | .tup vs => pls vs
  | .sl none _ => true
  | .sl (some _) _ => false
  | .raw _ => true
  | _ => false
def pls : List VV → Bool
  | [] => true
  | v :: l => pl v && pls l
end
section
variable {w : World} {ρ ρ' : Names}
mutual
theorem C1.plain : ∀ (v : VV) (cs : List Value), pl v = true → C1 ρ w v cs → C1 ρ' w v cs
  | .int _ _, _, _, h => by simpa only [C1] using h
  | .bool _, _, _, h => by simpa only [C1] using h
  | .str _, _, _, h => by simpa only [C1] using h
  | .agg vs, cs, hn, h => by simp only [C1] at h ⊢; exact CR.plain vs cs (by simpa only [pl] using hn) h
  | .tup _, _, _, h => by simp only [C1] at h
  | .sl none _, _, _, h => by simpa only [C1] using h
  | .sl (some _) _, _, hn, _ => by simp [pl] at hn
  | .ptr _ _, _, hn, _ => by simp [pl] at hn
  | .fn _ _, _, hn, _ => by simp [pl] at hn
  | .map _, _, hn, _ => by simp [pl] at hn
  | .dat _ _, _, hn, _ => by simp [pl] at hn
  | .pd _ _, _, hn, _ => by simp [pl] at hn
  | .vec _ _, _, hn, _ => by simp [pl] at hn
  | .any, _, hn, _ => by simp [pl] at hn
  | .raw _, _, _, h => by simpa only [C1] using h
theorem CR.plain : ∀ (vs : List VV) (cs : List Value), pls vs = true → CR ρ w vs cs → CR ρ' w vs cs
  | [], _, _, h => by simpa only [CR] using h
  | v :: vs, cs, hn, h => by
    simp only [pls,Bool.and_eq_true] at hn
    simp only [CR] at h ⊢
    obtain ⟨c1, c2, h1, h2, h3⟩ := h
    exact ⟨c1, c2, h1, C1.plain v c1 hn.1 h2, CR.plain vs c2 hn.2 h3⟩
end
theorem VR1.plain {v : VV} {x : Value} (hn : pl v = true) (h : VR1 ρ w v x) : VR1 ρ' w v x := by
  cases v with
  | agg vs => obtain ⟨cs, h1, h2⟩ := h; exact ⟨cs, h1, CR.plain vs _ (by simpa only [pl] using hn) h2⟩
  | any => trivial
  | _ => exact C1.plain (ρ := ρ) _ _ hn h
theorem VRs.plain : ∀ (vs : List VV) (xs : List Value), pls vs = true → VRs ρ w vs xs → VRs ρ' w vs xs
  | [], _, _, h => h
  | v :: vs, xs, hn, h => by
    simp only [pls,Bool.and_eq_true] at hn
    obtain ⟨x, ys, h1, h2, h3⟩ := h
    exact ⟨x, ys, h1, VR1.plain hn.1 h2, VRs.plain vs ys hn.2 h3⟩
theorem VR.plain {v : VV} {x : Value} (hn : pl v = true) (h : VR ρ w v x) : VR ρ' w v x := by
  cases v with
  | tup vs => obtain ⟨cs, h1, h2⟩ := h; exact ⟨cs, h1, VRs.plain vs _ (by simpa only [pl] using hn) h2⟩
  | _ => simp only [VR] at h ⊢; exact VR1.plain hn h
end
theorem VRA.bare {ρ : Names} {w : World} : ∀ (vs : List VV) (xs : List Value), nls vs = true → vs.all notTup = true → VRA ρ w vs xs → VRA (.bare (Unnamed ρ)) w vs xs
  | [], _, _, _, h => h
  | v :: vs, xs, hn, ht, h => by
    simp only [nls,Bool.and_eq_true] at hn
    simp only [List.all_cons,Bool.and_eq_true] at ht
    obtain ⟨x, ys, h1, h2, h3⟩ := h
    refine ⟨x, ys, h1, ?_, VRA.bare vs ys hn.2 ht.2 h3⟩
    have h4 := h2.to1 ht.1
    exact VR.of1 (VR1.bare (fun _ h => h) hn.1 h4)
theorem VRA.data {Z : Nat → Nat → Prop} [Zone Z] {B n : Nat} {ρ : Names} {w : World} {H : Heap} (hh : HR Z B ρ H n w) : ∀ (vs ds : List VV) (xs : List Value), RdL H vs ds → vs.all notTup = true → VRA ρ w vs xs → VRA (.bare fun _ => True) w ds xs
  | [], ds, xs, h, _, hx => by
    simp only [RdL] at h
    subst h
    exact hx
  | v :: vs, ds, xs, h, ht, hx => by
    simp only [RdL] at h
    obtain ⟨d, ds', rfl, h1, h2⟩ := h
    simp only [List.all_cons,Bool.and_eq_true] at ht
    obtain ⟨x, ys, g1, g2, g3⟩ := hx
    exact ⟨x, ys, g1, VR.of1 (Rd.value1 hh (fun _ _ => trivial) (fun _ _ _ => trivial) h1 (g2.to1 ht.1)), VRA.data hh vs ds' ys h2 ht.2 g3⟩
theorem HR.wide {Z : Nat → Nat → Prop} [Zone Z] {B n : Nat} {ρ : Names} {w w' : World} {H : Heap} (h : HR Z B ρ H n w) (hsz : w.heap.size ≤ w'.heap.size) (hb : ∀ b, b < w.heap.size → w'.heap[b]? = w.heap[b]?) :
    HR Z B ⟨ρ.nm, fun b => ρ.im b ∨ w.heap.size ≤ b⟩ H n w' ∧ Ext ρ w ⟨ρ.nm, fun b => ρ.im b ∨ w.heap.size ≤ b⟩ w' := by
  have he : Ext ρ w ⟨ρ.nm, fun b => ρ.im b ∨ w.heap.size ≤ b⟩ w' := ⟨fun _ _ h => h, hsz, fun b hb' _ => hb b hb', fun _ _ h => .inl h, fun _ h => .inl h, fun _ h => h⟩
  refine ⟨⟨Nat.le_trans h.base hsz, h.fresh, fun m l hm => ?_, h.apart, fun m s v l hm h1 => ?_, fun m es l hm h1 => ?_⟩, he⟩
  · obtain ⟨h2, h3⟩ := h.lt m l hm
    exact ⟨h2, Nat.lt_of_lt_of_le h3 hsz⟩
  · exact (h.row m s v l hm h1).same he (hb _ (h.lt m l h1).2)
  · exact (h.map m es l hm h1).same he (hb _ (h.lt m l h1).2)
theorem jc {f : FuncId} {ds : List VV} {r : VV} (h : Spec P f ds r) {H : Heap} {n : Nat} {K : VV → Heap → Nat → Prop} (hn : nls ds = true) (ht : ds.all notTup = true) (hk : K r H n) : vcall P f ds H n K := by
  intro B ρ w xs hh ha
  refine (h _ w xs (VRA.bare ds xs hn ht ha)).mono fun e w' ⟨x, he, hb, hv⟩ => ⟨x, he, ?_⟩
  obtain ⟨h1, h2⟩ := hh.wide hb.size hb.block
  refine ⟨r, H, n, _, hk, VR.mono (fun m l hm => by cases hm) (fun b hlt hu => ?_) hv, h1, h2, hb.mono hh.base⟩
  obtain ⟨h3, _⟩ := hu
  rcases h3 with h3 | h3
  · exact ⟨.inl h3.1, h3.2⟩
  · exact ⟨.inr h3, fun m l hm e => by have := (hh.lt m l hm).2; omega⟩
theorem call_plain {f : FuncId} {args ds : List VV} {r : VV} (h : Spec P f ds r) {H : Heap} {n : Nat} {K : VV → Heap → Nat → Prop} (hd : RdL H args ds) (ht : args.all notTup = true) (hr : pl r = true) (hk : K r H n) : vcall P f args H n K := by
  intro B ρ w xs hh ha
  refine (h _ w xs (VRA.data hh args ds xs hd ht ha)).mono fun e w' ⟨x, he, hb, hv⟩ => ⟨x, he, ?_⟩
  obtain ⟨h1, h2⟩ := hh.wide hb.size hb.block
  exact ⟨r, H, n, _, hk, VR.plain hr hv, h1, h2, hb.mono hh.base⟩
def fin (P : Program) (rs : List ResultVar) (k : VV → Heap → Nat → Prop) (e : VX) (S : VS) : Prop := match e with
  | .exit _ => False
  | .normal => vres P S rs fun v => k v S.hp S.nx
  | .ret => vres P S rs fun v => k v S.hp S.nx
end
end Go.Proofs.Ytlgldkjjbbbapaa.V
end
section
/-
  A MACHINE OF VALUES, EIGHTEENTH PART: arguments of a law, by their types, as trees.
-/
set_option linter.unusedVariables false
set_option linter.unusedSectionVars false
set_option linter.unusedSimpArgs false
namespace Go.Proofs.Ytlgldkjjbbbapaa.V
open Go Go.RowKit

mutual
def tsh : Ty → Sh
  | .arr n t => .arr n (tsh t)
  | .fcons a b => .st (tsh a :: tshs b)
  | .fnil => .st []
  | _ => .cell
def tshs : Ty → List Sh
  | .fcons a b => tsh a :: tshs b
  | _ => []
end
def twf : Ty → Bool
  | .arr _ t => twf t
  | .sl t => twf t && decide (0 < t.size)
  | .fcons a b => twf a && twf b && (match b with | .fnil => true | .fcons _ _ => true | _ => false)
  | _ => true
mutual
def toV : (t : Ty) → t.D → VV
  | .int k, x => let n : Int := x; .int k n
  | .u8, x => let b : UInt8 := x; .int .u8 b.toNat
  | .bool, x => let b : Bool := x; .bool b
  | .str, x => let s : List UInt8 := x; .str s
  | .arr _ t, x => let l : List t.D := x; .agg (l.map (toV t))
  | .sl t, x => let l : List t.D := x; .dat (tsh t) (l.map (toV t))
  | .fnil, _ => .agg []
  | .fcons a b, x => let p : a.D × b.D := x; .agg (toV a p.1 :: toVs b p.2)
def toVs : (t : Ty) → t.D → List VV
  | .fcons a b, x => let p : a.D × b.D := x; toV a p.1 :: toVs b p.2
  | _, _ => []
end
theorem chunks_cr {ρ : Names} {w : World} {t : Ty} (f : t.D → VV) : ∀ (l : List t.D) (cs : List Value), cs.length = l.length * t.size → (∀ i (h : i < l.length), Ty.Is w t ((cs.drop (i * t.size)).take t.size) l[i]) → (∀ x c, x ∈ l → Ty.Is w t c x → C1 ρ w (f x) c) → CR ρ w (l.map f) cs
  | [], cs, hl, _, _ => by
    have : cs = [] := List.eq_nil_of_length_eq_zero (by simpa using hl)
    simp only [List.map_nil,CR,this]
  | x :: l, cs, hl, h, hc => by
    simp only [List.map_cons,CR]
    have hsz : cs.length = l.length * t.size + t.size := by rw [hl, List.length_cons, Nat.succ_mul]
    refine ⟨cs.take t.size, cs.drop t.size, (List.take_append_drop _ _).symm, hc x _ (by simp) (by have h0 := h 0 (by simp); rw [Nat.zero_mul, List.drop_zero] at h0; exact h0), chunks_cr f l _ (by rw [List.length_drop]; omega) (fun i hi => ?_) fun x c hx => hc x c (by simp [hx])⟩
    have := h (i + 1) (by simpa using hi)
    rw [List.drop_drop, show t.size + i * t.size = (i + 1) * t.size by rw [Nat.succ_mul, Nat.add_comm]]
    exact this
theorem is_sound {w : World} : ∀ (t : Ty), twf t = true → (∀ (cs : List Value) (x : t.D), Ty.Is w t cs x → C1 (.bare fun _ => True) w (toV t x) cs ∧ Has (tsh t) (toV t x)) ∧
    ((match t with | .fnil => True | .fcons _ _ => True | _ => False) → ∀ (cs : List Value) (x : t.D), Ty.Is w t cs x → CR (.bare fun _ => True) w (toVs t x) cs ∧ HasL (tshs t) (toVs t x)) := by
  intro t
  induction t with
  | int k => intro _; exact ⟨fun cs x h => ⟨by simpa only [toV,C1] using h.1, by simp [tsh, toV, Has, VV.leaf]⟩, fun h => h.elim⟩
  | u8 => intro _; exact ⟨fun cs x h => ⟨by simp only [toV,C1]; exact h, by simp [tsh, toV, Has, VV.leaf]⟩, fun h => h.elim⟩
  | bool => intro _; exact ⟨fun cs x h => ⟨by simp only [toV,C1]; exact h, by simp [tsh, toV, Has, VV.leaf]⟩, fun h => h.elim⟩
  | str => intro _; exact ⟨fun cs x h => ⟨by simpa only [toV,C1] using h.1, by simp [tsh, toV, Has, VV.leaf]⟩, fun h => h.elim⟩
  | arr n t ih =>
    intro hw
    have ih := (ih (by simpa only [twf] using hw)).1
    refine ⟨fun cs (x : List t.D) h => ?_, fun h => h.elim⟩
    obtain ⟨h1, h2, h3⟩ := h
    have e : toV (.arr n t) x = .agg (x.map (toV t)) := by simp only [toV]
    rw [e]
    refine ⟨?_, ?_⟩
    · simp only [C1]
      exact chunks_cr _ _ cs (by rw [h1]; exact h2) h3 fun y c _ hy => (ih c y hy).1
    · simp only [tsh,Has]
      refine ⟨by rw [List.length_map]; exact h1, fun v hv => ?_⟩
      obtain ⟨y, hy, rfl⟩ := List.mem_map.1 hv
      obtain ⟨i, hi, e⟩ := List.mem_iff_getElem.1 hy
      have := (ih _ _ (h3 i hi)).2
      rw [← e]
      exact this
  | sl t ih =>
    intro hw
    simp only [twf,Bool.and_eq_true,decide_eq_true_eq] at hw
    have ih := (ih hw.1).1
    refine ⟨fun cs (x : List t.D) h => ?_, fun h => h.elim⟩
    obtain ⟨A, c, h1, h2, h3, ccs, h4, h5, h6⟩ := h
    have e : toV (.sl t) x = .dat (tsh t) (x.map (toV t)) := by simp only [toV]
    rw [e]
    refine ⟨?_, by simp [tsh, Has, VV.leaf]⟩
    simp only [C1]
    refine ⟨A, c, by rw [List.length_map]; exact h1, by rw [List.length_map]; exact h3, fun hne => ?_⟩
    have hpos : 0 < List.length (α := t.D) x := by
      apply Nat.pos_of_ne_zero
      intro e
      exact hne (by rw [List.eq_nil_of_length_eq_zero e]; rfl)
    have hcc : 0 < ccs.length := by rw [h4]; exact Nat.mul_pos hpos hw.2
    obtain ⟨b, o, hA, hcell⟩ := h5 hcc
    refine ⟨b, o, ccs, hA, chunks_cr _ _ ccs h4 h6 fun y c _ hy => (ih c y hy).1, fun e he => ?_, fun j v hv => ?_, ⟨trivial, fun n l hn => by cases hn⟩, cell_lt (hcell 0 hcc)⟩
    · obtain ⟨y, hy, rfl⟩ := List.mem_map.1 he
      obtain ⟨i, hi, e⟩ := List.mem_iff_getElem.1 hy
      have := (ih _ _ (h6 i hi)).2
      rw [← e]
      exact this
    · obtain ⟨hj, e⟩ := List.getElem?_eq_some_iff.1 hv
      rw [hcell j hj]
      simp [List.getD_eq_getElem?_getD, hv]
  | fnil => intro _; exact ⟨fun cs x h => ⟨by simp only [toV,C1,CR]; exact h, by simp [tsh, toV, Has, HasL]⟩, fun _ cs x h => ⟨by simp only [toVs,CR]; exact h, by simp [tshs, toVs, HasL]⟩⟩
  | fcons a b iha ihb =>
    intro hw
    simp only [twf,Bool.and_eq_true] at hw
    have iha := (iha hw.1.1).1
    have ihb := (ihb hw.1.2).2 (by revert hw; cases b <;> simp)
    have key : ∀ (cs : List Value) (x : (Ty.fcons a b).D), Ty.Is w (.fcons a b) cs x → CR (.bare fun _ => True) w (toVs (.fcons a b) x) cs ∧ HasL (tshs (.fcons a b)) (toVs (.fcons a b) x) := by
      intro cs x h
      obtain ⟨h1, h2, h3⟩ := h
      obtain ⟨a1, a2⟩ := iha _ _ h2
      obtain ⟨b1, b2⟩ := ihb _ _ h3
      simp only [toVs,tshs,CR,HasL]
      exact ⟨⟨_, _, (List.take_append_drop a.size cs).symm, a1, b1⟩, a2, b2⟩
    refine ⟨fun cs x h => ?_, fun _ => key⟩
    obtain ⟨k1, k2⟩ := key cs x h
    exact ⟨by simp only [toV,C1]; simpa only [toVs] using k1, by simp only [toV,tsh,Has]; simpa only [toVs,tshs] using k2⟩
theorem val_sound {w : World} {t : Ty} (hw : twf t = true) {v : Value} {x : t.D} (h : Ty.Val w t v x) : VR (.bare fun _ => True) w (toV t x) v := by
  have hs := (is_sound (w := w) t hw).1
  cases t with
  | arr n t =>
    obtain ⟨cs, rfl, h⟩ := h
    have := (hs _ _ h).1
    simp only [toV,C1] at this ⊢
    exact ⟨_, rfl, this⟩
  | fnil =>
    obtain ⟨cs, rfl, h⟩ := h
    have := (hs _ _ h).1
    simp only [toV,C1] at this ⊢
    exact ⟨_, rfl, this⟩
  | fcons a b =>
    obtain ⟨cs, rfl, h⟩ := h
    have := (hs _ _ h).1
    simp only [toV,C1] at this ⊢
    exact ⟨_, rfl, this⟩
  | int k => have := (hs _ _ h).1; simpa only [toV,VR,VR1] using this
  | u8 => have := (hs _ _ h).1; simpa only [toV,VR,VR1] using this
  | bool => have := (hs _ _ h).1; simpa only [toV,VR,VR1] using this
  | str => have := (hs _ _ h).1; simpa only [toV,VR,VR1] using this
  | sl t => have := (hs _ _ h).1; simpa only [toV,VR,VR1] using this
def good : (t : Ty) → t.D → Prop
  | .int k, (x : Int) => (Lit.int k x).wf = true
  | .arr n t, (l : List t.D) => l.length = n ∧ ∀ x ∈ l, good t x
  | .sl t, (l : List t.D) => ∀ x ∈ l, good t x
  | .fcons a b, (x : a.D × b.D) => good a x.1 ∧ good b x.2
  | _, _ => True
theorem good_of {w : World} : ∀ (t : Ty) (cs : List Value) (x : t.D), Ty.Is w t cs x → good t x := by
  intro t
  induction t with
  | int k => intro cs x h; exact h.2
  | u8 => intro _ _ _; trivial
  | bool => intro _ _ _; trivial
  | str => intro _ _ _; trivial
  | arr n t ih =>
    intro cs (x : List t.D) h
    refine ⟨h.1, fun y hy => ?_⟩
    obtain ⟨i, hi, rfl⟩ := List.mem_iff_getElem.1 hy
    exact ih _ _ (h.2.2 i hi)
  | sl t ih =>
    intro cs (x : List t.D) h
    obtain ⟨A, c, h1, h2, h3, ccs, h4, h5, h6⟩ := h
    intro y hy
    obtain ⟨i, hi, rfl⟩ := List.mem_iff_getElem.1 hy
    exact ih _ _ (h6 i hi)
  | fnil => intro _ _ _; trivial
  | fcons a b iha ihb =>
    intro cs x h
    exact ⟨iha _ _ h.2.1, ihb _ _ h.2.2⟩
theorem good_val {w : World} {t : Ty} {v : Value} {x : t.D} (h : Ty.Val w t v x) : good t x := by
  unfold Ty.Val at h
  split at h
  · obtain ⟨cs, _, h⟩ := h; exact good_of t _ x h
  · exact good_of t _ x h
theorem law_true {P : Program} {f : FuncId} {ds : List VV} {xs : List Value} {W : World} (h : Spec P f ds (.bool true)) (hx : VRA (.bare fun _ => True) W ds xs) : Calls P f xs.toArray W (fun e W' => e = .returned (.bool true) ∧ Kept W W') := by
  refine (h _ W xs hx).mono fun e W' ⟨x, he, hb, hv⟩ => ?_
  subst he
  have : x = .bool true := by simpa only [VR,VR1,C1,List.cons.injEq,and_true] using hv
  exact ⟨by rw [this], hb⟩
end Go.Proofs.Ytlgldkjjbbbapaa.V
end
