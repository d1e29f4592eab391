/-
  A MACHINE OF VALUES, THIRD PART: what each operation does, as a condition that simp can reckon.
-/
import Derived.Test.YtndbfphmjmhkjaaVheap
set_option linter.unusedVariables false
set_option linter.unusedSectionVars false
set_option linter.unusedSimpArgs false
namespace Go.Proofs.Ytndbfphmjmhkjaa.V
open Go Go.RowKit

/-! ### words whose later parts simp leaves alone till the earlier ones are reckoned -/
def onV (v : VV) (k : VV → Prop) : Prop := k v
@[congr] theorem onV_congr {v v' : VV} {k : VV → Prop} (h : v = v') : onV v k = onV v' k := by rw [h]
def bndRaw {α : Type} (o : Option α) (k : α → Prop) : Prop := match o with
  | some a => k a
  | none => False
/-- sealed: the kernel does not reckon what stands in it -/
noncomputable def bnd {α : Type} : Option α → (α → Prop) → Prop := Classical.choose (⟨bndRaw, rfl⟩ : ∃ f : Option α → (α → Prop) → Prop, f = bndRaw)
theorem bnd_def {α : Type} (o : Option α) (k : α → Prop) : bnd o k = bndRaw o k := by rw [bnd, Classical.choose_spec (⟨bndRaw, rfl⟩ : ∃ f : Option α → (α → Prop) → Prop, f = bndRaw)]
@[congr] theorem bnd_congr {α : Type} {o o' : Option α} {k : α → Prop} (h : o = o') : bnd o k = bnd o' k := by rw [h]
def cnd (p q : Prop) : Prop := p ∧ q
@[congr] theorem cnd_congr {p p' q : Prop} (h : p = p') : cnd p q = cnd p' q := by rw [h]
/-- both ways of a test -/
def vif (b : Bool) (A B : Prop) : Prop := (b = true → A) ∧ (b = false → B)
@[congr] theorem vif_congr {b b' : Bool} {A B : Prop} (h : b = b') : vif b A B = vif b' A B := by rw [h]
theorem vif_true (A B : Prop) : vif true A B = A := by simp [vif]
theorem vif_false (A B : Prop) : vif false A B = B := by simp [vif]
theorem vif_intro {b : Bool} {A B : Prop} (h1 : b = true → A) (h2 : b = false → B) : vif b A B := ⟨h1, h2⟩
theorem cnd_true (q : Prop) : cnd True q = q := by simp [cnd]
theorem cnd_intro {p q : Prop} (h1 : p) (h2 : q) : cnd p q := ⟨h1, h2⟩
theorem bnd_some {α : Type} (a : α) (k : α → Prop) : bnd (some a) k = k a := by rw [bnd_def]; rfl
theorem bnd_iff {α : Type} {o : Option α} {k : α → Prop} : bnd o k ↔ ∃ a, o = some a ∧ k a := by
  rw [bnd_def]; cases o <;> simp [bndRaw]
theorem bnd_intro {α : Type} {o : Option α} {a : α} {k : α → Prop} (h : o = some a) (h' : k a) : bnd o k := by rw [h, bnd_some]; exact h'
section
variable (k : VV → Prop)
theorem onV_int (a : IntKind) (b : Int) : onV (.int a b) k = k (.int a b) := rfl
theorem onV_bool (a : Bool) : onV (.bool a) k = k (.bool a) := rfl
theorem onV_str (a : List UInt8) : onV (.str a) k = k (.str a) := rfl
theorem onV_agg (a : List VV) : onV (.agg a) k = k (.agg a) := rfl
theorem onV_tup (a : List VV) : onV (.tup a) k = k (.tup a) := rfl
theorem onV_sl (a : Option (Nat × List Nat × Nat)) (b : Nat) : onV (.sl a b) k = k (.sl a b) := rfl
theorem onV_ptr (a : Nat) (b : List Nat) : onV (.ptr a b) k = k (.ptr a b) := rfl
theorem onV_fn (a : FuncId) (b : List VV) : onV (.fn a b) k = k (.fn a b) := rfl
theorem onV_map (a : Nat) : onV (.map a) k = k (.map a) := rfl
theorem onV_dat (a : Sh) (b : List VV) : onV (.dat a b) k = k (.dat a b) := rfl
theorem onV_pd (a : Sh) (b : VV) : onV (.pd a b) k = k (.pd a b) := rfl
theorem onV_raw (a : Value) : onV (.raw a) k = k (.raw a) := rfl
end

/-! ### frames -/
structure VS where
  tm : Nat → VV
  hp : Heap
  nx : Nat
def put (d : Option Nat) (v : VV) (t : Nat → VV) : Nat → VV := match d with
  | some d => upd t d v
  | none => t
def ofV : Value → VV
  | .int k n => .int k n
  | .bool b => .bool b
  | .string s => .str s.data.toList
  | .slice none 0 0 => .sl none 0
  | .func (.func f) first caps => if first.isEmpty && caps.isEmpty then .fn f [] else .any
  | .pointer none => .raw (.pointer none)
  | .map none => .raw (.map none)
  | .nilFunc => .raw .nilFunc
  | .nilIface => .raw .nilIface
  | v => .any
def ev (tm : Nat → VV) : Operand → VV
  | .tmp t => tm t
  | .const v => ofV v
  | .global g => .raw (.pointer (some ⟨g, 0, none⟩))
  | .func f => .fn f []

theorem ofV_sound (ρ : Names) (w : World) (v : Value) : VR ρ w (ofV v) v := by
  unfold ofV
  split
  · simp [VR, VR1, C1]
  · simp [VR, VR1, C1]
  · rename_i s; obtain ⟨d⟩ := s; simp [VR, VR1, C1]
  · simp [VR, VR1, C1]
  · split
    · rename_i f first caps h
      simp only [Bool.and_eq_true,Array.isEmpty_iff] at h
      obtain ⟨rfl, rfl⟩ := h
      simp [VR, VR1, C1, CV]
    · simp [VR, VR1]
  · simp [VR, VR1, C1]
  · simp [VR, VR1, C1]
  · simp [VR, VR1, C1]
  · simp [VR, VR1, C1]
  · simp [VR, VR1]

/-- slots that are these values -/
def TM (ρ : Names) (w : World) (tm : Nat → VV) (a : Act) : Prop := ∀ t, VR ρ w (tm t) (a.tmps.getD t undef)
theorem ev_sound {ρ : Names} {w : World} {tm : Nat → VV} {a : Act} (h : TM ρ w tm a) (x : Operand) : VR ρ w (ev tm x) (a.eval x) := by
  cases x with
  | tmp t => exact h t
  | const v => exact ofV_sound ρ w v
  | global g => simp [ev, Act.eval, VR, VR1, C1]
  | func f => simp [ev, Act.eval, VR, VR1, C1, CV]

/-- what an operation leaves -/
def Good (Z : Nat → Nat → Prop) (B : Nat) (K : VV → Heap → Nat → Prop) (ρ : Names) (w : World) (x : Value) (w' : World) : Prop :=
  ∃ v H' n' ρ', K v H' n' ∧ VR ρ' w' v x ∧ HR Z B ρ' H' n' w' ∧ Ext ρ w ρ' w' ∧ Below B w w'
theorem Good.same {Z : Nat → Nat → Prop} {B : Nat} {K : VV → Heap → Nat → Prop} {ρ : Names} {w : World} {x : Value} {v : VV} {H : Heap} {n : Nat} (hk : K v H n) (hv : VR ρ w v x) (hh : HR Z B ρ H n w) : Good Z B K ρ w x w :=
  ⟨v, H, n, ρ, hk, hv, hh, Ext.refl _ _, Below.refl _ _⟩
def Runs (P : Program) (Z : Nat → Nat → Prop) (B : Nat) (K : VV → Heap → Nat → Prop) (ρ : Names) (w : World) (s : Sem Next) : Prop :=
  (∃ x w', s.run P w = .ok (.value x) w' ∧ Good Z B K ρ w x w') ∨ (∃ w', s.run P w = .ok .skip w' ∧ Good Z B K ρ w undef w') ∨
  (∃ f xs, s.run P w = .ok (.enter f xs) w ∧ Calls P f xs w (fun e w' => ∃ x, e = .returned x ∧ Good Z B K ρ w x w'))

/-- the names that an operation gives are such as it may give -/
def Gives (Z : Nat → Nat → Prop) [Zone Z] (n : Nat) (K : VV → Heap → Nat → Prop) : Prop := ∀ v H n', K v H n' → n < n' → Zone.ok Z n
theorem Gives.one {Z : Nat → Nat → Prop} [Zone Z] {n : Nat} {K : VV → Heap → Nat → Prop} (h : Gives Z n K) {v : VV} {H : Heap} (hk : K v H (n + 1)) : Zone.ok Z n := h v H (n + 1) hk (Nat.lt_succ_self _)
def VRA (ρ : Names) (w : World) : List VV → List Value → Prop
  | [], xs => xs = []
  | v :: vs, xs => ∃ x ys, xs = x :: ys ∧ VR ρ w v x ∧ VRA ρ w vs ys
/-- called by name: whatever the names lie at, what comes back is such as K wants it -/
def vcall (P : Program) (f : FuncId) (args : List VV) (H : Heap) (n : Nat) (K : VV → Heap → Nat → Prop) : Prop :=
  ∀ B ρ w xs, HR ZT B ρ H n w → VRA ρ w args xs → Calls P f xs.toArray w (fun e w' => ∃ x, e = .returned x ∧ Good ZT B K ρ w x w')
@[congr] theorem vcall_congr {P : Program} {f f' : FuncId} {args args' : List VV} {H : Heap} {n n' : Nat} {K : VV → Heap → Nat → Prop} (h1 : f = f') (h2 : args = args') (h3 : n = n') : vcall P f args H n K = vcall P f' args' H n' K := by rw [h1, h2, h3]
def callable (P : Program) (f : FuncId) : Bool := match P.funcs[f]? with
  | some fn => fn.name != "runtime.NumGoroutine" && fn.body.isSome
  | none => false

/-! ### the operations -/
section
variable (P : Program) (e : Operand → VV) (H : Heap) (n : Nat) (K : VV → Heap → Nat → Prop)
def vPick (c a b : Operand) : Prop := onV (e c) fun v => match v with
  | .bool t => vif t (K (e a) H n) (K (e b) H n)
  | _ => False
def vLoad (t : TypeId) (a : Operand) : Prop := onV (e a) fun v => match v with
  | .ptr m p => bnd (H m) fun b => match b with
    | .row s c => cnd (s.at p = SH P t) (bnd (c.get p) fun u => K u H n)
    | _ => False
  | .pd s u => cnd (SH P t = some s) (K u H n)
  | _ => False
def vStore (t : TypeId) (a x : Operand) : Prop := onV (e a) fun v => match v with
  | .ptr m p => bnd (H m) fun b => match b with
    | .row s c => bnd (SH P t) fun st => cnd (s.at p = some st ∧ Has st (e x)) (bnd (c.get p) fun _ => K .any (upd H m (some (.row s (c.set p (e x))))) n)
    | _ => False
  | _ => False
def vBox (t : TypeId) (x : Operand) : Prop := bnd (SH P t) fun s => cnd (Has s (e x)) (K (.ptr n []) (upd H n (some (.row s (e x)))) (n + 1))
def vNilCheck (x : Operand) : Prop := onV (e x) fun v => match v with
  | .ptr m p => K (.ptr m p) H n
  | .pd s u => K (.pd s u) H n
  | .fn f cs => K (.fn f cs) H n
  | _ => False
def vUn (op : UnOp) (x : Operand) : Prop := onV (e x) fun v => match op, v with
  | .not, .bool b => K (.bool (!b)) H n
  | .neg, .int k a => K (.int k (k.wrap (0 - a))) H n
  | _, _ => False
def vField (t : TypeId) (x : Operand) (f : Nat) : Prop := onV (e x) fun v => match v with
  | .agg vs => bnd (SH P t) fun s => cnd (Has s (.agg vs)) (match s with
    | .st ls => bnd (vs[f]?) fun u => K u H n
    | _ => False)
  | _ => False
def vFieldAddr (t : TypeId) (x : Operand) (f : Nat) : Prop := onV (e x) fun v => match v with
  | .ptr m p => bnd (H m) fun b => match b with
    | .row s _ => bnd (SH P t) fun st => cnd (s.at p = some st) (match st with
      | .st ls => bnd (ls[f]?) fun sf => cnd (sf.size ≠ 0) (K (.ptr m (p ++ [f])) H n)
      | _ => False)
    | _ => False
  | .pd s (.agg vs) => bnd (SH P t) fun st => cnd (s = st) (match st with
      | .st ls => bnd (ls[f]?) fun sf => cnd (sf.size ≠ 0) (bnd (vs[f]?) fun u => K (.pd sf u) H n)
      | _ => False)
  | _ => False
def vIndexAddr (t : TypeId) (x i : Operand) : Prop := onV (e x) fun v => onV (e i) fun j => match v, j with
  | .sl (some (m, p, i0)) len, .int _ k => bnd (H m) fun b => match b with
    | .row s _ => bnd (EL P t) fun et => bnd (SH P et) fun se => bnd (s.at p) fun sa => match sa with
      | .arr _ s' => cnd (s' = se) (cnd (0 ≤ k ∧ k < len) (K (.ptr m (p ++ [i0 + k.toNat])) H n))
      | _ => False
    | _ => False
  | .dat s els, .int _ k => bnd (EL P t) fun et => bnd (SH P et) fun se => cnd (s = se) (cnd (0 ≤ k ∧ k < els.length) (bnd (els[k.toNat]?) fun u => K (.pd s u) H n))
  | .ptr m p, .int _ k => bnd (H m) fun b => match b with
    | .row s _ => bnd (SH P t) fun st => cnd (s.at p = some st) (match st with
      | .arr len _ => cnd (0 ≤ k ∧ k < len) (K (.ptr m (p ++ [k.toNat])) H n)
      | _ => False)
    | _ => False
  | .pd s (.agg vs), .int _ k => bnd (SH P t) fun st => cnd (s = st) (match st with
      | .arr len s' => cnd (0 ≤ k ∧ k < len) (bnd (vs[k.toNat]?) fun u => K (.pd s' u) H n)
      | _ => False)
  | _, _ => False
def vExtract (x : Operand) (i : Nat) : Prop := onV (e x) fun v => match v with
  | .tup vs => bnd (vs[i]?) fun u => K u H n
  | _ => False
def vbin (op : BinOp) (x y : VV) (K : VV → Prop) : Prop := match x, y with
  | .int k a, .int k' b => match op with
    | .add => cnd (k = k') (K (.int k (k.wrap (a + b))))
    | .sub => cnd (k = k') (K (.int k (k.wrap (a - b))))
    | .mul => cnd (k = k') (K (.int k (k.wrap (a * b))))
    | .quo => cnd (k = k' ∧ b ≠ 0) (K (.int k (k.wrap (a.tdiv b))))
    | .rem => cnd (k = k' ∧ b ≠ 0) (K (.int k (a.tmod b)))
    | .eql => cnd (k = k') (K (.bool (a == b)))
    | .neq => cnd (k = k') (K (.bool (a != b)))
    | .lss => cnd (k = k') (K (.bool (decide (a < b))))
    | .leq => cnd (k = k') (K (.bool (decide (a ≤ b))))
    | .gtr => cnd (k = k') (K (.bool (decide (a > b))))
    | .geq => cnd (k = k') (K (.bool (decide (a ≥ b))))
    | .shl => cnd (0 ≤ b) (K (.int k (k.wrap (a * 2 ^ (min b.toNat k.bits)))))
    | .shr => cnd (0 ≤ b) (K (.int k (a.fdiv (2 ^ (min b.toNat k.bits)))))
    | op => cnd (k = k') (K (.int k (bits op k a b)))
  | .str a, .str b => match op with
    | .add => cnd (a.length + b.length ≤ 9223372036854775807) (K (.str (a ++ b)))
    | .eql => K (.bool (a == b))
    | .neq => K (.bool (a != b))
    | _ => False
  | _, _ => False
def vBin (op : BinOp) (x y : Operand) : Prop := onV (e x) fun v => onV (e y) fun u => vbin op v u fun r => K r H n
def vConvert (s d : TypeId) (x : Operand) : Prop := onV (e x) fun v => match v with
  | .int _ a => bnd (P.underlying s) fun _ => bnd (P.underlying d) fun u => match u with
    | .int k => K (.int k (k.wrap a)) H n
    | _ => False
  | _ => False
def vLen (ts : Array TypeId) (x : Operand) : Prop := onV (e x) fun v => bnd (ts[0]?) fun t => bnd (P.underlying t) fun u => match u, v with
  | .string, .str s => K (.int .i64 s.length) H n
  | .slice _, .sl _ k => K (.int .i64 k) H n
  | .slice _, .dat _ els => K (.int .i64 els.length) H n
  | _, _ => False
def vCall (f : Operand) (args : List Operand) : Prop := onV (e f) fun v => match v with
  | .fn g caps => cnd (callable P g = true) (vcall P g (args.map e ++ caps) H n K)
  | _ => False
def vIndex (t : TypeId) (x i : Operand) : Prop := onV (e x) fun v => onV (e i) fun j => match v, j with
  | .str s, .int _ k => bnd (P.underlying t) fun u => match u with
    | .string => cnd (0 ≤ k ∧ k < s.length) (K (.int .u8 (((s.getD k.toNat 0).toNat : Nat) : Int)) H n)
    | _ => False
  | .agg vs, .int _ k => bnd (SH P t) fun s => cnd (Has s (.agg vs)) (match s with
    | .arr len _ => cnd (0 ≤ k ∧ k < len) (bnd (vs[k.toNat]?) fun u => K u H n)
    | _ => False)
  | _, _ => False
def vMakeFunc (f : FuncId) (first : Array Operand) (caps : List Operand) : Prop := cnd (first = #[] ∧ (∀ c ∈ caps, (e c).leaf = true)) (K (.fn f (caps.map e)) H n)
end

section
variable {P : Program} {Z : Nat → Nat → Prop} [Zone Z] {B : Nat} {ρ : Names} {w : World} {H : Heap} {n : Nat} {tm : Nat → VV} {a : Act} {K : VV → Heap → Nat → Prop} {o : Oper}
theorem runs_value {x : Value} {s : Sem Next} (hr : s.run P w = .ok (.value x) w) {v : VV} (hk : K v H n) (hv : VR ρ w v x) (hh : HR Z B ρ H n w) : Runs P Z B K ρ w s :=
  .inl ⟨x, w, hr, Good.same hk hv hh⟩
theorem VR.of_leaf {v : VV} {x : Value} (hl : v.leaf = true) (h : C1 ρ w v [x]) : VR ρ w v x := by
  cases v <;> first | exact h | simp [VV.leaf] at hl
theorem VR.leaf_cells {v : VV} {x : Value} (hl : v.leaf = true) (h : VR ρ w v x) : C1 ρ w v [x] := by
  cases v <;> first | exact h | simp [VV.leaf] at hl
theorem VR.bool {b : Bool} {x : Value} (h : VR ρ w (.bool b) x) : x = .bool b := by simpa [VR, VR1, C1] using h
theorem VR.int {k : IntKind} {i : Int} {x : Value} (h : VR ρ w (.int k i) x) : x = .int k i := by simpa [VR, VR1, C1] using h
theorem VR.str {s : List UInt8} {x : Value} (h : VR ρ w (.str s) x) : x = .string ⟨s.toArray⟩ := by simpa [VR, VR1, C1] using h
theorem VR.ptr {m : Nat} {p : List Nat} {x : Value} (h : VR ρ w (.ptr m p) x) : ∃ l, ρ m = some l ∧ x = .pointer (some ⟨l.block, l.base + l.sh.off p, none⟩) := by simpa [VR, VR1, C1] using h
theorem VR.pd {s : Sh} {v : VV} {x : Value} (h : VR ρ w (.pd s v) x) : ∃ b o ecs, x = .pointer (some ⟨b, o, none⟩) ∧ C1 ρ w v ecs ∧ Has s v ∧ w.rangeAt b o ecs ∧ Unnamed ρ b ∧ b < w.heap.size := by
  simp only [VR,VR1,C1] at h
  obtain ⟨b, o, ecs, h1, h2⟩ := h
  exact ⟨b, o, ecs, by simpa using h1, h2⟩
theorem VR.tup {vs : List VV} {x : Value} (h : VR ρ w (.tup vs) x) : ∃ xs, x = .tuple xs ∧ VRs ρ w vs xs.toList := h
theorem VR.agg {vs : List VV} {x : Value} (h : VR ρ w (.agg vs) x) : ∃ cs, x = .agg cs ∧ CR ρ w vs cs.toList := h
theorem VR.fn {f : FuncId} {caps : List VV} {x : Value} (h : VR ρ w (.fn f caps) x) : ∃ cs, x = .func (.func f) #[] cs ∧ CV ρ w caps cs.toList := by
  simp only [VR,VR1,C1] at h
  obtain ⟨cs, h1, h2⟩ := h
  exact ⟨cs, by simpa using h1, h2⟩
theorem VR.of1 {v : VV} {x : Value} (h : VR1 ρ w v x) : VR ρ w v x := by
  cases v with
  | tup vs => simp [VR1, C1] at h
  | _ => exact h

theorem pick_sound (hT : TM ρ w tm a) (hh : HR Z B ρ H n w) (c x y : Operand) (ho : o.op = .pick c x y) (h : vPick (ev tm) H n K c x y) : Runs P Z B K ρ w (execOp a.eval o) := by
  unfold vPick onV at h
  dsimp only at h
  have hc := ev_sound hT c
  split at h
  · rename_i t e
    rw [e] at hc
    have := hc.bool
    cases t with
    | true =>
      refine runs_value (x := a.eval x) ?_ (h.1 rfl) (ev_sound hT x) hh
      simp [execOp, ho, this, asBool]
    | false =>
      refine runs_value (x := a.eval y) ?_ (h.2 rfl) (ev_sound hT y) hh
      simp [execOp, ho, this, asBool]
  · exact h.elim

/-- the cells of a part, as a value -/
theorem part_value {s : Sh} {u : VV} {mid : List Value} (hs : Has s u) (hc : C1 ρ w u mid) : (s = .cell ∧ ∃ x, mid = [x] ∧ VR ρ w u x) ∨ (s ≠ .cell ∧ VR ρ w u (.agg mid.toArray)) := by
  cases s with
  | cell =>
    simp only [Has] at hs
    obtain ⟨x, rfl⟩ := leaf_one hs hc
    exact .inl ⟨rfl, x, rfl, VR.of_leaf hs hc⟩
  | st ls =>
    cases u <;> simp only [Has] at hs <;> first | exact hs.elim | skip
    simp only [C1] at hc
    exact .inr ⟨by simp, _, rfl, by simpa using hc⟩
  | arr k s =>
    cases u <;> simp only [Has] at hs <;> first | exact hs.elim | skip
    simp only [C1] at hc
    exact .inr ⟨by simp, _, rfl, by simpa using hc⟩
theorem load_run {t : TypeId} {s : Sh} {u : VV} {mid : List Value} {b f : Nat} (ht : SH P t = some s) (hs : Has s u) (hc : C1 ρ w u mid) (hr : w.rangeAt b f mid) :
    ∃ x, (loadVar t ⟨b, f, none⟩).run P w = .ok x w ∧ VR ρ w u x := by
  obtain ⟨i, d, hi, hu, hsz, hrow⟩ := shOf_spec ht
  have hlen := Has.len s u mid hs hc
  rcases part_value hs hc with ⟨rfl, x, rfl, hv⟩ | ⟨hne, hv⟩
  · refine ⟨x, ?_, hv⟩
    have hd : d.isRow = false := by
      cases hd : d.isRow with
      | false => rfl
      | true => exact absurd rfl (hrow.1 hd)
    have hagg : (isAgg t).run P w = .ok false w := by
      unfold isAgg
      rw [Sem.run_bind, run_underlying hu w]
      cases d <;> simp_all
    have h0 := hr 0 x rfl
    simp only [loadVar,Sem.run_bind,hagg,Result.andThen_ok,Bool.false_eq_true,if_false]
    simp only [Nat.add_zero] at h0
    simp [h0]
  · refine ⟨_, run_loadVar_mid w b f t mid d hr hu (hrow.2 hne) (by rw [hi, hlen]; simp [hsz]), hv⟩
theorem range_part {b f : Nat} {pre mid post : List Value} (h : w.rangeAt b f (pre ++ mid ++ post)) : w.rangeAt b (f + pre.length) mid := fun j v hv => by
  have hj : j < mid.length := (List.getElem?_eq_some_iff.1 hv).1
  have := h (pre.length + j) v (by rw [List.append_assoc, List.getElem?_append_right (by omega), List.getElem?_append_left (by omega)]; simpa using hv)
  rwa [← Nat.add_assoc] at this
theorem load_sound (hT : TM ρ w tm a) (hh : HR Z B ρ H n w) (t : TypeId) (x : Operand) (ho : o.op = .load t x) (h : vLoad P (ev tm) H n K t x) : Runs P Z B K ρ w (execOp a.eval o) := by
  unfold vLoad onV at h
  dsimp only at h
  have hx := ev_sound hT x
  split at h
  · rename_i m p e
    rw [e] at hx
    obtain ⟨l, hl, hp⟩ := hx.ptr
    obtain ⟨blk, hb, h⟩ := bnd_iff.1 h
    split at h
    · rename_i s c
      obtain ⟨h1, h2⟩ := h
      obtain ⟨u, hu, h2⟩ := bnd_iff.1 h2
      have hrow := hh.row m s c l hb hl
      obtain ⟨cs, g1, g2, g3⟩ := hrow.cells
      obtain ⟨su, pre, mid, post, k1, k2, rfl, k4, k5, _, _⟩ := focus p s c u cs hrow.has hu g1
      rw [k1] at h1
      have hr := range_part g3
      obtain ⟨y, hy1, hy2⟩ := load_run (P := P) h1.symm k2 k5 hr
      refine runs_value (x := y) ?_ h2 hy2 hh
      simp only [execOp,ho,hp,Instr.loadAt,Instr.sureAddr,Sem.run_bind,Sem.run_pure,Result.andThen_ok]
      rw [hrow.sh, ← k4, hy1]
      rfl
    · exact h.elim
  · rename_i s u e
    rw [e] at hx
    obtain ⟨b, f, ecs, rfl', g1, g2, g3, _⟩ := hx.pd
    obtain ⟨h1, h2⟩ := h
    obtain ⟨y, hy1, hy2⟩ := load_run (P := P) h1 g2 g1 g3
    refine runs_value (x := y) ?_ h2 hy2 hh
    simp only [execOp,ho,rfl',Instr.loadAt,Instr.sureAddr,Sem.run_bind,Sem.run_pure,Result.andThen_ok,hy1]
  · exact h.elim
end
end Go.Proofs.Ytndbfphmjmhkjaa.V
