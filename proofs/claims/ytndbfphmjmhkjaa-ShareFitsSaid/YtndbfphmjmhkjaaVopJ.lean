/-
  A MACHINE OF VALUES, PART J: structs and arrays compared; slices held against nil; max; arrays out of slices.
-/
import Derived.Test.YtndbfphmjmhkjaaVopI
import Derived.Laws.StructEq
import Derived.ChangeKeysEq
set_option linter.unusedVariables false
set_option linter.unusedSectionVars false
set_option linter.unusedSimpArgs false
namespace Go.Proofs.Ytndbfphmjmhkjaa.V
open Go Go.RowKit

/-- how values of a type are compared -/
inductive EQ where
  | int (k : IntKind)
  | bool
  | str
  | st (l : List EQ)
  | arr (n : Nat) (q : EQ)
mutual
def EQ.sh : EQ → Sh
  | .int _ => .cell
  | .bool => .cell
  | .str => .cell
  | .st l => .st (EQ.shs l)
  | .arr n q => .arr n q.sh
def EQ.shs : List EQ → List Sh
  | [] => []
  | q :: l => q.sh :: EQ.shs l
end
mutual
def shB : Sh → Sh → Bool
  | .cell, .cell => true
  | .st a, .st b => shBs a b
  | .arr n a, .arr m b => n == m && shB a b
  | _, _ => false
def shBs : List Sh → List Sh → Bool
  | [], [] => true
  | a :: l, b :: m => shB a b && shBs l m
  | _, _ => false
end
mutual
theorem shB_eq : ∀ (a b : Sh), shB a b = true → a = b
  | .cell, .cell, _ => rfl
  | .st a, .st b, h => by rw [shBs_eq a b (by simpa only [shB] using h)]
  | .arr n a, .arr m b, h => by
    simp only [shB,Bool.and_eq_true,beq_iff_eq] at h
    rw [h.1, shB_eq a b h.2]
  | .cell, .st _, h | .cell, .arr _ _, h | .st _, .cell, h | .st _, .arr _ _, h | .arr _ _, .cell, h | .arr _ _, .st _, h => by simp [shB] at h
theorem shBs_eq : ∀ (a b : List Sh), shBs a b = true → a = b
  | [], [], _ => rfl
  | a :: l, b :: m, h => by
    simp only [shBs,Bool.and_eq_true] at h
    rw [shB_eq a b h.1, shBs_eq l m h.2]
  | [], _ :: _, h | _ :: _, [], h => by simp [shBs] at h
end
def eqFs (g : TypeId → Option EQ) : List Field → Nat → Option (List EQ)
  | [], _ => some []
  | f :: fs, o => match g f.type with
    | some q => match eqFs g fs (o + q.sh.size) with
      | some qs => if f.name ≠ "_" ∧ f.offset = o then some (q :: qs) else none
      | none => none
    | none => none
def eqOf (P : Program) : Nat → TypeId → Option EQ
  | 0, _ => none
  | n + 1, t => match (match P.underlying t with
      | some (.int k) => some (.int k)
      | some .bool => some .bool
      | some .string => some .str
      | some (.struct fs) => if P.stoodInHeld t = false then (match eqFs (eqOf P n) fs.toList 0 with | some qs => some (.st qs) | none => none) else none
      | some (.array k e) => match eqOf P n e with
        | some q => if P.cellsOf e = q.sh.size ∧ (P.info? e).isSome = true then some (.arr k q) else none
        | none => none
      | _ => none : Option EQ) with
    | some q => match shOf P 10 t with
      | some s => if shB s q.sh = true then some q else none
      | none => none
    | none => none
/-- how a type's values are compared, if nothing in it can be two nils of an interface -/
def EQT (P : Program) (t : TypeId) : Option EQ := if P.eqGuardType P.depth t = false then eqOf P 10 t else none
mutual
/-- a value that may be so compared -/
def Fit : EQ → VV → Prop
  | .int k, .int k' _ => k = k'
  | .bool, .bool _ => True
  | .str, .str _ => True
  | .st l, .agg vs => FitL l vs
  | .arr n q, .agg vs => vs.length = n ∧ ∀ v ∈ vs, Fit q v
  | _, _ => False
def FitL : List EQ → List VV → Prop
  | [], vs => vs = []
  | q :: l, v :: vs => Fit q v ∧ FitL l vs
  | _ :: _, [] => False
end
mutual
def veq : VV → VV → Bool
  | .int _ a, .int _ b => a == b
  | .bool a, .bool b => a == b
  | .str a, .str b => a == b
  | .agg a, .agg b => veqs a b
  | _, _ => false
def veqs : List VV → List VV → Bool
  | [], [] => true
  | a :: l, b :: m => veq a b && veqs l m
  | _, _ => false
end
mutual
theorem Fit.has : ∀ (q : EQ) (v : VV), Fit q v → Has q.sh v
  | .int _, .int _ _, _ => by simp [EQ.sh, Has, VV.leaf]
  | .bool, .bool _, _ => by simp [EQ.sh, Has, VV.leaf]
  | .str, .str _, _ => by simp [EQ.sh, Has, VV.leaf]
  | .st l, .agg vs, h => by simp only [Fit] at h; simp only [EQ.sh,Has]; exact FitL.has l vs h
  | .arr n q, .agg vs, h => by simp only [Fit] at h; simp only [EQ.sh,Has]; exact ⟨h.1, fun v hv => Fit.has q v (h.2 v hv)⟩
  | .int _, .bool _, h | .int _, .str _, h | .int _, .agg _, h | .int _, .tup _, h | .int _, .sl _ _, h | .int _, .ptr _ _, h | .int _, .fn _ _, h | .int _, .map _, h | .int _, .dat _ _, h | .int _, .pd _ _, h | .int _, .vec _ _, h | .int _, .any, h | .int _, .raw _, h => by simp [Fit] at h
  | .bool, .int _ _, h | .bool, .str _, h | .bool, .agg _, h | .bool, .tup _, h | .bool, .sl _ _, h | .bool, .ptr _ _, h | .bool, .fn _ _, h | .bool, .map _, h | .bool, .dat _ _, h | .bool, .pd _ _, h | .bool, .vec _ _, h | .bool, .any, h | .bool, .raw _, h => by simp [Fit] at h
  | .str, .int _ _, h | .str, .bool _, h | .str, .agg _, h | .str, .tup _, h | .str, .sl _ _, h | .str, .ptr _ _, h | .str, .fn _ _, h | .str, .map _, h | .str, .dat _ _, h | .str, .pd _ _, h | .str, .vec _ _, h | .str, .any, h | .str, .raw _, h => by simp [Fit] at h
  | .st _, .int _ _, h | .st _, .bool _, h | .st _, .str _, h | .st _, .tup _, h | .st _, .sl _ _, h | .st _, .ptr _ _, h | .st _, .fn _ _, h | .st _, .map _, h | .st _, .dat _ _, h | .st _, .pd _ _, h | .st _, .vec _ _, h | .st _, .any, h | .st _, .raw _, h => by simp [Fit] at h
  | .arr _ _, .int _ _, h | .arr _ _, .bool _, h | .arr _ _, .str _, h | .arr _ _, .tup _, h | .arr _ _, .sl _ _, h | .arr _ _, .ptr _ _, h | .arr _ _, .fn _ _, h | .arr _ _, .map _, h | .arr _ _, .dat _ _, h | .arr _ _, .pd _ _, h | .arr _ _, .vec _ _, h | .arr _ _, .any, h | .arr _ _, .raw _, h => by simp [Fit] at h
theorem FitL.has : ∀ (l : List EQ) (vs : List VV), FitL l vs → HasL (EQ.shs l) vs
  | [], vs, h => by simp only [FitL] at h; simp only [EQ.shs,HasL]; exact h
  | q :: l, v :: vs, h => by simp only [FitL] at h; simp only [EQ.shs,HasL]; exact ⟨Fit.has q v h.1, FitL.has l vs h.2⟩
  | _ :: _, [], h => by simp [FitL] at h
end
section
variable {P : Program} {ρ : Names} {w : World}
theorem eqOf_sh {n : Nat} {t : TypeId} {q : EQ} (h : eqOf P n t = some q) : shOf P 10 t = some q.sh := by
  cases n with
  | zero => simp [eqOf] at h
  | succ n =>
    unfold eqOf at h
    split at h
    · split at h
      · rename_i s hs
        split at h
        · rename_i hb
          injection h with h
          subst h
          rw [hs, shB_eq _ _ hb]
        · cases h
      · cases h
    · cases h
theorem eqFields_sound {g : TypeId → Option EQ} {d : Nat} (hg : ∀ t q u v x y, g t = some q → Fit q u → Fit q v → VR ρ w u x → VR ρ w v y → (Op.equalIn d t x y).run P w = .ok (veq u v) w) (hs : ∀ t q, g t = some q → shOf P 10 t = some q.sh)
    (xs ys : Array Value) : ∀ (fs : List Field) (qs : List EQ) (o : Nat) (us vs : List VV) (p1 m1 p2 m2 : List Value), eqFs g fs o = some qs → FitL qs us → FitL qs vs → CR ρ w us m1 → CR ρ w vs m2 →
      xs.toList = p1 ++ m1 → ys.toList = p2 ++ m2 → p1.length = o → p2.length = o → (Op.eqFields d xs ys fs).run P w = .ok (veqs us vs) w
  | [], qs, o, us, vs, p1, m1, p2, m2, h, hu, hv, _, _, _, _, _, _ => by
    simp only [eqFs,Option.some.injEq] at h
    subst h
    simp only [FitL] at hu hv
    subst hu hv
    simp [Op.eqFields, veqs]
  | f :: fs, qs, o, us, vs, p1, m1, p2, m2, h, hu, hv, c1, c2, e1, e2, l1, l2 => by
    unfold eqFs at h
    split at h
    · rename_i q hq
      split at h
      · rename_i qs' hqs
        split at h
        · rename_i hc
          obtain ⟨hc1, hc2⟩ := hc
          injection h with h
          subst h
          cases us with
          | nil => simp [FitL] at hu
          | cons u us =>
            cases vs with
            | nil => simp [FitL] at hv
            | cons v vs =>
              simp only [FitL] at hu hv
              simp only [CR] at c1 c2
              obtain ⟨a1, b1, rfl, c11, c12⟩ := c1
              obtain ⟨a2, b2, rfl, c21, c22⟩ := c2
              have hsh := hs f.type q hq
              have hu1 := Fit.has q u hu.1
              have hv1 := Fit.has q v hv.1
              obtain ⟨x, hx, hxv⟩ := part_run (P := P) hsh hu1 c11 (show xs.toList = p1 ++ a1 ++ b1 by rw [e1, List.append_assoc])
              obtain ⟨y, hy, hyv⟩ := part_run (P := P) hsh hv1 c21 (show ys.toList = p2 ++ a2 ++ b2 by rw [e2, List.append_assoc])
              have la1 := Has.len q.sh u a1 hu1 c11
              have la2 := Has.len q.sh v a2 hv1 c21
              have ih := eqFields_sound hg hs xs ys fs qs' (o + q.sh.size) us vs (p1 ++ a1) b1 (p2 ++ a2) b2 hqs hu.2 hv.2 c12 c22 (by rw [e1, List.append_assoc]) (by rw [e2, List.append_assoc]) (by rw [List.length_append]; omega) (by rw [List.length_append]; omega)
              rw [l1] at hx
              rw [l2] at hy
              simp only [Op.eqFields,hc1,ne_eq,not_false_eq_true,if_true,Sem.run_bind,hc2,hx,hy,Result.andThen_ok,hg f.type q u v x y hq hu.1 hv.1 hxv hyv,veqs]
              cases veq u v
              · simp
              · simp [ih]
        · cases h
      · cases h
    · cases h
theorem eqItems_sound {e : TypeId} {q : EQ} {d : Nat} (hg : ∀ u v x y, Fit q u → Fit q v → VR ρ w u x → VR ρ w v y → (Op.equalIn d e x y).run P w = .ok (veq u v) w) (hs : shOf P 10 e = some q.sh)
    (xs ys : Array Value) : ∀ (n i : Nat) (us vs : List VV) (p1 m1 p2 m2 : List Value), us.length = n → vs.length = n → (∀ u ∈ us, Fit q u) → (∀ v ∈ vs, Fit q v) → CR ρ w us m1 → CR ρ w vs m2 →
      xs.toList = p1 ++ m1 → ys.toList = p2 ++ m2 → p1.length = i * q.sh.size → p2.length = i * q.sh.size → (Op.eqItems d e q.sh.size xs ys (List.range' i n)).run P w = .ok (veqs us vs) w
  | 0, i, us, vs, p1, m1, p2, m2, h1, h2, hu, hv, _, _, _, _, _, _ => by
    have h1 := List.eq_nil_of_length_eq_zero h1
    have h2 := List.eq_nil_of_length_eq_zero h2
    subst h1 h2
    simp [Op.eqItems, veqs]
  | n + 1, i, us, vs, p1, m1, p2, m2, h1, h2, hu, hv, c1, c2, e1, e2, l1, l2 => by
    cases us with
    | nil => simp at h1
    | cons u us =>
      cases vs with
      | nil => simp at h2
      | cons v vs =>
        simp only [CR] at c1 c2
        obtain ⟨a1, b1, rfl, c11, c12⟩ := c1
        obtain ⟨a2, b2, rfl, c21, c22⟩ := c2
        have hu0 := hu u (by simp)
        have hv0 := hv v (by simp)
        have hu1 := Fit.has q u hu0
        have hv1 := Fit.has q v hv0
        obtain ⟨x, hx, hxv⟩ := part_run (P := P) hs hu1 c11 (show xs.toList = p1 ++ a1 ++ b1 by rw [e1, List.append_assoc])
        obtain ⟨y, hy, hyv⟩ := part_run (P := P) hs hv1 c21 (show ys.toList = p2 ++ a2 ++ b2 by rw [e2, List.append_assoc])
        have la1 := Has.len q.sh u a1 hu1 c11
        have la2 := Has.len q.sh v a2 hv1 c21
        have ih := eqItems_sound hg hs xs ys n (i + 1) us vs (p1 ++ a1) b1 (p2 ++ a2) b2 (by simpa using h1) (by simpa using h2) (fun u hm => hu u (by simp [hm])) (fun u hm => hv u (by simp [hm])) c12 c22
          (by rw [e1, List.append_assoc]) (by rw [e2, List.append_assoc]) (by rw [List.length_append, Nat.succ_mul]; omega) (by rw [List.length_append, Nat.succ_mul]; omega)
        rw [l1] at hx
        rw [l2] at hy
        rw [List.range'_succ]
        simp only [Op.eqItems,Sem.run_bind,hx,hy,Result.andThen_ok,hg u v x y hu0 hv0 hxv hyv,veqs]
        cases veq u v
        · simp
        · simp [ih]
theorem VR.agg_of {vs : List VV} {x : Value} (h : VR ρ w (.agg vs) x) : ∃ cs, x = .agg cs ∧ CR ρ w vs cs.toList := h
theorem eq_sound : ∀ (n : Nat) (d : Nat) (t : TypeId) (q : EQ) (u v : VV) (x y : Value), n ≤ d → eqOf P n t = some q → Fit q u → Fit q v → VR ρ w u x → VR ρ w v y → (Op.equalIn d t x y).run P w = .ok (veq u v) w
  | 0, d, t, q, u, v, x, y, _, h, _, _, _, _ => by simp [eqOf] at h
  | n + 1, 0, t, q, u, v, x, y, hd, _, _, _, _, _ => by omega
  | n + 1, d + 1, t, q, u, v, x, y, hd, h, hu, hv, hx, hy => by
    unfold eqOf at h
    split at h
    · rename_i q' hq'
      split at h
      · split at h
        · injection h with h
          subst h
          split at hq'
          · rename_i k hk
            injection hq' with hq'
            subst hq'
            cases u <;> simp only [Fit] at hu
            cases v <;> simp only [Fit] at hv
            subst hu hv
            rw [hx.int, hy.int, veq]
            exact run_equalIn_int w d t k k _ _ hk
          · rename_i hk
            injection hq' with hq'
            subst hq'
            cases u <;> simp only [Fit] at hu
            cases v <;> simp only [Fit] at hv
            rw [hx.bool, hy.bool, veq]
            exact run_equalIn_bool' w d t _ _ hk
          · rename_i hk
            injection hq' with hq'
            subst hq'
            cases u <;> simp only [Fit] at hu
            cases v <;> simp only [Fit] at hv
            rw [hx.str, hy.str, veq, run_equalIn_string w d t _ _ hk]
            simp
          · rename_i fs hk
            split at hq'
            · rename_i hst
              split at hq'
              · rename_i qs hqs
                injection hq' with hq'
                subst hq'
                cases u <;> simp only [Fit] at hu
                cases v <;> simp only [Fit] at hv
                rename_i us vs
                obtain ⟨cs, rfl, hc⟩ := hx.agg
                obtain ⟨ds, rfl, hd2⟩ := hy.agg
                have hf : P.fieldsOf t = fs := by simp [Program.fieldsOf, hk]
                rw [run_equalIn_struct w d t cs ds (by rw [hf]; exact hk) hst, hf, veq]
                exact eqFields_sound (g := eqOf P n) (fun t q u v x y h1 h2 h3 h4 h5 => eq_sound n d t q u v x y (by omega) h1 h2 h3 h4 h5) (fun t q h => eqOf_sh h) cs ds fs.toList qs 0 us vs [] _ [] _ hqs hu hv hc hd2 rfl rfl rfl rfl
              · cases hq'
            · cases hq'
          · rename_i k e hk
            split at hq'
            · rename_i q2 hq2
              split at hq'
              · rename_i hce
                obtain ⟨hc1, hc2⟩ := hce
                injection hq' with hq'
                subst hq'
                cases u <;> simp only [Fit] at hu
                cases v <;> simp only [Fit] at hv
                rename_i us vs
                obtain ⟨cs, rfl, hc⟩ := hx.agg
                obtain ⟨ds, rfl, hd2⟩ := hy.agg
                obtain ⟨i, hi⟩ := Option.isSome_iff_exists.1 hc2
                rw [run_equalIn_array w d cs ds hk hi, hc1, veq, List.range_eq_range']
                exact eqItems_sound (fun u v x y h2 h3 h4 h5 => eq_sound n d e q2 u v x y (by omega) hq2 h2 h3 h4 h5) (eqOf_sh hq2) cs ds k 0 us vs [] _ [] _ hu.1 hv.1 hu.2 hv.2 hc hd2 rfl rfl (by simp) (by simp)
              · cases hq'
            · cases hq'
          · cases hq'
        · cases h
      · cases h
    · cases h
end
section
variable (P : Program) (e : Operand → VV) (H : Heap) (n : Nat) (K : VV → Heap → Nat → Prop)
/-- an answer that is not known but for one thing -/
def vEither (q : Prop) (k : Bool → Prop) : Prop := ∀ b, (q → b = false) → k b
def vEq (op : BinOp) (t : TypeId) (v u : VV) (k : Bool → Prop) : Prop := bnd (EQT P t) fun q => cnd (Fit q v ∧ Fit q u) (match op with
  | .eql => k (veq v u)
  | .neq => k (!veq v u)
  | _ => False)
def vNil (op : BinOp) (v : VV) (k : Bool → Prop) : Prop := match op, v with
  | .eql, .sl none _ => k true
  | .eql, .sl (some _) m => vEither (m ≠ 0) k
  | .eql, .dat _ els => vEither (els ≠ []) k
  | .neq, .sl none _ => k false
  | .neq, .sl (some _) m => vEither (m ≠ 0) fun b => k (!b)
  | .neq, .dat _ els => vEither (els ≠ []) fun b => k (!b)
  | _, _ => False
def vBinX (op : BinOp) (t : TypeId) (x y : Operand) : Prop := onV (e x) fun v => match v with
  | .agg vs => onV (e y) fun u => match u with
    | .agg us => vEq P op t (.agg vs) (.agg us) fun b => K (.bool b) H n
    | _ => False
  | .bool a => onV (e y) fun u => match u with
    | .bool b => vEq P op t (.bool a) (.bool b) fun b => K (.bool b) H n
    | _ => False
  | .sl p m => onV (e y) fun u => match u with
    | .sl none 0 => bnd (EL P t) fun _ => vNil op (.sl p m) fun b => K (.bool b) H n
    | _ => False
  | .dat s els => onV (e y) fun u => match u with
    | .sl none 0 => bnd (EL P t) fun _ => vNil op (.dat s els) fun b => K (.bool b) H n
    | _ => False
  | _ => vBin e H n K op x y
def vMax (x y : Operand) : Prop := onV (e x) fun v => onV (e y) fun u => match v, u with
  | .int k a, .int k' b => cnd (k = k') (K (.int k (if a < b then b else a)) H n)
  | _, _ => False
def vArrPtr (t : TypeId) (x : Operand) : Prop := onV (e x) fun v => match v with
  | .dat s els => bnd (SH P t) fun sa => match sa with
    | .arr k s' => cnd (s' = s ∧ k ≤ els.length ∧ k ≠ 0) (K (.pd (.arr k s) (.agg (els.take k))) H n)
    | _ => False
  | .sl (some (m, [], 0)) len => bnd (SH P t) fun sa => bnd (H m) fun b => match b with
    | .row s c => cnd (s = sa ∧ (∃ s', sa = .arr len s') ∧ len ≠ 0) (K (.ptr m []) H n)
    | _ => False
  | _ => False
end
section
variable {P : Program} {Z : Nat → Nat → Prop} [Zone Z] {B : Nat} {ρ : Names} {w : World} {H : Heap} {n : Nat} {tm : Nat → VV} {a : Act} {K : VV → Heap → Nat → Prop} {o : Oper}
theorem eql_agg_run {op : BinOp} {t : TypeId} {x y : Operand} {xs ys : Array Value} {b : Bool} (hm : P.eqGuardType P.depth t = false) (h : (Op.equalIn 10000 t (.agg xs) (.agg ys)).run P w = .ok b w) (hop : op = .eql ∨ op = .neq) :
    (do eqGuard op t x y (.agg xs) (.agg ys); binOp op t (.agg xs) (.agg ys) : Sem Value).run P w = .ok (.bool (if op = .eql then b else !b)) w := by
  rw [Sem.run_bind, run_eqGuard_agg w op t x y xs ys hm, Result.andThen_ok]
  rcases hop with rfl | rfl
  · rw [run_eql_struct, h]; rfl
  · rw [run_neq_struct, h]; rfl
theorem eql_bool_run {op : BinOp} {t : TypeId} {x y : Operand} {u v : Bool} {b : Bool} (h : (Op.equalIn 10000 t (.bool u) (.bool v)).run P w = .ok b w) (hop : op = .eql ∨ op = .neq) :
    (do eqGuard op t x y (.bool u) (.bool v); binOp op t (.bool u) (.bool v) : Sem Value).run P w = .ok (.bool (if op = .eql then b else !b)) w := by
  rcases hop with rfl | rfl <;> simp [eqGuard, binOp, Op.equal, Op.maxDepth, h]
theorem eql_slice_run {op : BinOp} {t el : TypeId} {x y : Operand} {A : Option Addr} {l c : Nat} (hu : P.underlying t = some (.slice el)) (hop : op = .eql ∨ op = .neq) :
    (do eqGuard op t x y (.slice A l c) (.slice none 0 0); binOp op t (.slice A l c) (.slice none 0 0) : Sem Value).run P w = .ok (.bool (if op = .eql then A.isNone else !A.isNone)) w := by
  have h1 : (Op.equalIn 10000 t (.slice A l c) (.slice none 0 0)).run P w = .ok A.isNone w := by
    show (Op.equalIn (9999 + 1) t (.slice A l c) (.slice none 0 0)).run P w = .ok A.isNone w
    unfold Op.equalIn
    rw [Sem.run_bind, run_underlying hu, Result.andThen_ok]
    cases A <;> rfl
  rcases hop with rfl | rfl <;> simp [eqGuard, binOp, Op.equal, Op.maxDepth, h1]
def nilOf : VV → Option Addr → Prop
  | .sl none _, A => A = none
  | .sl (some _) m, A => m ≠ 0 → A.isNone = false
  | .dat _ els, A => els ≠ [] → A.isNone = false
  | _, _ => False
theorem vNil_sound {op : BinOp} {v : VV} {k : Bool → Prop} {A : Option Addr} (hA : nilOf v A) (h : vNil op v k) : (op = .eql ∨ op = .neq) ∧ k (if op = .eql then A.isNone else !A.isNone) := by
  unfold vNil at h
  split at h
  · simp only [nilOf] at hA; subst hA; exact ⟨.inl rfl, h⟩
  · simp only [nilOf] at hA; exact ⟨.inl rfl, by simpa using h A.isNone hA⟩
  · simp only [nilOf] at hA; exact ⟨.inl rfl, by simpa using h A.isNone hA⟩
  · simp only [nilOf] at hA; subst hA; exact ⟨.inr rfl, h⟩
  · simp only [nilOf] at hA; exact ⟨.inr rfl, by simpa using h A.isNone hA⟩
  · simp only [nilOf] at hA; exact ⟨.inr rfl, by simpa using h A.isNone hA⟩
  · exact h.elim
theorem sl_nil {v : VV} {x : Value} (h : VR ρ w v x) (hv : (∃ p m, v = .sl p m) ∨ ∃ s els, v = .dat s els) : ∃ A l c, x = .slice A l c ∧ nilOf v A := by
  rcases hv with ⟨p, m, rfl⟩ | ⟨s, els, rfl⟩
  · cases p with
    | none => simp only [VR,VR1,C1] at h; exact ⟨none, 0, 0, by simpa using h.2, rfl⟩
    | some r =>
      obtain ⟨m', p', i'⟩ := r
      simp only [VR,VR1,C1] at h
      rcases h with ⟨h0, A, hx⟩ | ⟨l, c, e, k, _, hx, _⟩
      · exact ⟨A, 0, 0, by simpa using hx, fun hm => absurd h0 hm⟩
      · exact ⟨_, m, c, by simpa using hx, fun _ => rfl⟩
  · obtain ⟨A, c, hx, _, h3⟩ := h.dat
    exact ⟨A, _, c, hx, fun hne => by obtain ⟨b, o, _, hA, _⟩ := h3 hne; rw [hA]; rfl⟩
theorem binX_sound (hT : TM ρ w tm a) (hh : HR Z B ρ H n w) (op : BinOp) (t t' : TypeId) (x y : Operand) (ho : o.op = .binOp op t x y t') (h : vBinX P (ev tm) H n K op t x y) : Runs P Z B K ρ w (execOp a.eval o) := by
  unfold vBinX onV at h
  dsimp only at h
  have hx := ev_sound hT x
  have hy := ev_sound hT y
  have nil : ∀ (v : VV), VR ρ w v (a.eval x) → ((∃ p m, v = .sl p m) ∨ ∃ s els, v = .dat s els) → VR ρ w (.sl none 0) (a.eval y) → (bnd (EL P t) fun _ => vNil op v fun b => K (.bool b) H n) → Runs P Z B K ρ w (execOp a.eval o) := by
    intro v hx hv hy h
    have hy : a.eval y = .slice none 0 0 := by simpa [VR, VR1, C1] using hy
    obtain ⟨el, hel, h⟩ := bnd_iff.1 h
    have hu := EL_spec hel
    obtain ⟨A, l, c, hx, hA⟩ := sl_nil hx hv
    obtain ⟨hop, hk⟩ := vNil_sound hA h
    refine runs_value (x := .bool (if op = .eql then A.isNone else !A.isNone)) ?_ hk VR_bool hh
    have := eql_slice_run (P := P) (w := w) (x := x) (y := y) (A := A) (l := l) (c := c) hu hop
    simp only [execOp,ho,hx,hy]
    simp only [Sem.run_bind] at this ⊢
    rw [this]
    rfl
  split at h
  · rename_i vs e1
    rw [e1] at hx
    split at h
    · rename_i us e2
      rw [e2] at hy
      unfold vEq at h
      obtain ⟨q, hq, ⟨h1, h2⟩, h⟩ := bnd_iff.1 h
      unfold EQT at hq
      split at hq
      · rename_i hm
        obtain ⟨xs, hxs, _⟩ := hx.agg
        obtain ⟨ys, hys, _⟩ := hy.agg
        have key := eq_sound 10 10000 t q _ _ _ _ (by omega) hq h1 h2 hx hy
        rw [hxs, hys] at key
        have hop : op = .eql ∨ op = .neq := by
          split at h
          · exact .inl rfl
          · exact .inr rfl
          · exact h.elim
        have hk : K (.bool (if op = .eql then veq (.agg vs) (.agg us) else !veq (.agg vs) (.agg us))) H n := by
          rcases hop with rfl | rfl <;> simpa using h
        refine runs_value ?_ hk VR_bool hh
        have := eql_agg_run (x := x) (y := y) hm key hop
        simp only [execOp,ho,hxs,hys]
        simp only [Sem.run_bind] at this ⊢
        rw [this]
        rfl
      · cases hq
    · exact h.elim
  · rename_i v1 e1
    rw [e1] at hx
    split at h
    · rename_i u1 e2
      rw [e2] at hy
      unfold vEq at h
      obtain ⟨q, hq, ⟨h1, h2⟩, h⟩ := bnd_iff.1 h
      unfold EQT at hq
      split at hq
      · rename_i hm
        have key := eq_sound 10 10000 t q _ _ _ _ (by omega) hq h1 h2 hx hy
        rw [hx.bool, hy.bool] at key
        have hop : op = .eql ∨ op = .neq := by
          split at h
          · exact .inl rfl
          · exact .inr rfl
          · exact h.elim
        have hk : K (.bool (if op = .eql then veq (.bool v1) (.bool u1) else !veq (.bool v1) (.bool u1))) H n := by
          rcases hop with rfl | rfl <;> simpa using h
        refine runs_value ?_ hk VR_bool hh
        have := eql_bool_run (x := x) (y := y) key hop
        simp only [execOp,ho,hx.bool,hy.bool]
        simp only [Sem.run_bind] at this ⊢
        rw [this]
        rfl
      · cases hq
    · exact h.elim
  · rename_i p m e1
    rw [e1] at hx
    split at h
    · rename_i e2
      rw [e2] at hy
      exact nil _ hx (.inl ⟨_, _, rfl⟩) hy h
    · exact h.elim
  · rename_i s els e1
    rw [e1] at hx
    split at h
    · rename_i e2
      rw [e2] at hy
      exact nil _ hx (.inr ⟨_, _, rfl⟩) hy h
    · exact h.elim
  · exact bin_sound hT hh op t t' x y ho h
theorem max_sound (hT : TM ρ w tm a) (hh : HR Z B ρ H n w) (x y : Operand) (ts : Array TypeId) (ho : o.op = .call { callee := .builtin .max, args := #[x, y], argTypes := ts }) (h : vMax (ev tm) H n K x y) : Runs P Z B K ρ w (execOp a.eval o) := by
  unfold vMax onV at h
  dsimp only at h
  have hx := ev_sound hT x
  have hy := ev_sound hT y
  split at h
  · rename_i k i k' j e1 e2
    rw [e1] at hx
    rw [e2] at hy
    obtain ⟨rfl, h⟩ := h
    refine runs_value (x := .int k (if i < j then j else i)) ?_ h VR_int hh
    simp [execOp, ho, resolve, invoke, builtin, hx.int, hy.int, Builtin.max_, Builtin.max2]
  · exact h.elim
theorem arrPtr_sound (hT : TM ρ w tm a) (hh : HR Z B ρ H n w) (t : TypeId) (x : Operand) (ho : o.op = .sliceToArrayPointer t x) (h : vArrPtr P (ev tm) H n K t x) : Runs P Z B K ρ w (execOp a.eval o) := by
  unfold vArrPtr onV at h
  dsimp only at h
  have hx := ev_sound hT x
  split at h
  · rename_i s els e1
    rw [e1] at hx
    obtain ⟨sa, hsa, h⟩ := bnd_iff.1 h
    split at h
    · rename_i k s'
      obtain ⟨⟨rfl, hk1, hk2⟩, h⟩ := h
      obtain ⟨e, hu, _⟩ := SH_array hsa
      obtain ⟨A, c, hx', hc, h3⟩ := hx.dat
      have hne : els ≠ [] := by intro e; subst e; simp at hk1; omega
      obtain ⟨b, f, ecs, rfl, g1, g2, g3, g4, g5⟩ := h3 hne
      have hrun : (execOp a.eval o).run P w = .ok (.value (.pointer (some ⟨b, f, none⟩))) w := by
        simp only [execOp,ho,hx',Instr.arrayAt,Sem.run_bind,run_underlying hu w,Result.andThen_ok]
        rw [if_neg (by omega)]
        rfl
      obtain ⟨pr, md, ps, rfl, r1, r2, r3⟩ := CR.part g1 g2 0 k (by omega) hk1
      rw [Nat.zero_mul] at r1
      have hpr : pr = [] := List.eq_nil_of_length_eq_zero r1
      subst hpr
      refine runs_value hrun h ?_ hh
      simp only [VR,VR1,C1]
      refine ⟨b, f, md, rfl, ?_, ?_, ?_, g4, g5⟩
      · simpa using r3
      · simp only [Has]
        exact ⟨by rw [List.length_take]; omega, fun v hv => g2 v (List.mem_of_mem_take hv)⟩
      · have := range_part (w := w) (pre := []) (mid := md) (post := ps) g3
        simpa using this
    · exact h.elim
  · rename_i m len e1
    rw [e1] at hx
    obtain ⟨sa, hsa, h⟩ := bnd_iff.1 h
    obtain ⟨blk, hb, h⟩ := bnd_iff.1 h
    split at h
    · rename_i s c
      obtain ⟨⟨rfl, ⟨s', rfl⟩, hl⟩, hK⟩ := h
      obtain ⟨e, hu, _⟩ := SH_array hsa
      simp only [VR,VR1,C1] at hx
      rcases hx with ⟨h0, _⟩ | ⟨l, cap, e', j', hl', hx, hcap, hat, _⟩
      · exact absurd h0 hl
      · have hx : a.eval x = .slice (some ⟨l.block, l.base + l.sh.off ([] ++ [0]), none⟩) len cap := by simpa using hx
        have hrow := hh.row m _ c l hb hl'
        have hz : l.sh.off ([] ++ [0]) = 0 := by rw [hrow.sh]; simp [Sh.off]
        rw [hz] at hx
        refine runs_value (x := .pointer (some ⟨l.block, l.base + 0, none⟩)) ?_ hK ?_ hh
        · simp only [execOp,ho,hx,Instr.arrayAt,Sem.run_bind,run_underlying hu w,Result.andThen_ok]
          rw [if_neg (by omega)]
          rfl
        · simp only [VR,VR1,C1]
          exact ⟨l, hl', by simp [Sh.off]⟩
    · exact h.elim
  · exact h.elim
end
end Go.Proofs.Ytndbfphmjmhkjaa.V
