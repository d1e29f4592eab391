/-
  Parts of the proof of SchedTurns: Vop, VopB, VopC, VopD, VopE, VopF.
  Conditions: none.
-/
import Derived.Test.YtlgldkjjbbbapaaWSchedTurns01
import Derived.Deep.AppendSrc
section
/-
  A MACHINE OF VALUES, THIRD PART: what each operation does, as a condition that simp can reckon.
-/
set_option linter.unusedVariables false
set_option linter.unusedSectionVars false
set_option linter.unusedSimpArgs false
namespace Go.Proofs.Ytlgldkjjbbbapaa.V
open Go Go.RowKit

/-! ### words whose later parts simp leaves alone till the earlier ones are reckoned -/
def onV (v : VV) (k : VV → Prop) : Prop := k v
@[congr] theorem onV_congr {v v' : VV} {k : VV → Prop} (h : v = v') : onV v k = onV v' k := by rw [h]
def bndRaw {α : Type} (o : Option α) (k : α → Prop) : Prop := match o with
  | some a => k a
  | none => False
/-- sealed: the kernel does not reckon what stands in it -/
noncomputable def bnd {α : Type} : Option α → (α → Prop) → Prop := Classical.choose (⟨bndRaw, rfl⟩ : ∃ f : Option α → (α → Prop) → Prop, f = bndRaw)
theorem bnd_def {α : Type} (o : Option α) (k : α → Prop) : bnd o k = bndRaw o k := by rw [bnd, Classical.choose_spec (⟨bndRaw, rfl⟩ : ∃ f : Option α → (α → Prop) → Prop, f = bndRaw)]
@[congr] theorem bnd_congr {α : Type} {o o' : Option α} {k : α → Prop} (h : o = o') : bnd o k = bnd o' k := by rw [h]
def cnd (p q : Prop) : Prop := p ∧ q
@[congr] theorem cnd_congr {p p' q : Prop} (h : p = p') : cnd p q = cnd p' q := by rw [h]
/-- both ways of a test -/
def vif (b : Bool) (A B : Prop) : Prop := (b = true → A) ∧ (b = false → B)
@[congr] theorem vif_congr {b b' : Bool} {A B : Prop} (h : b = b') : vif b A B = vif b' A B := by rw [h]
theorem vif_true (A B : Prop) : vif true A B = A := by simp [vif]
theorem vif_false (A B : Prop) : vif false A B = B := by simp [vif]
theorem vif_intro {b : Bool} {A B : Prop} (h1 : b = true → A) (h2 : b = false → B) : vif b A B := ⟨h1, h2⟩
theorem cnd_true (q : Prop) : cnd True q = q := by simp [cnd]
theorem cnd_intro {p q : Prop} (h1 : p) (h2 : q) : cnd p q := ⟨h1, h2⟩
theorem bnd_some {α : Type} (a : α) (k : α → Prop) : bnd (some a) k = k a := by rw [bnd_def]; rfl
theorem bnd_iff {α : Type} {o : Option α} {k : α → Prop} : bnd o k ↔ ∃ a, o = some a ∧ k a := by
  rw [bnd_def]; cases o <;> simp [bndRaw]
theorem bnd_intro {α : Type} {o : Option α} {a : α} {k : α → Prop} (h : o = some a) (h' : k a) : bnd o k := by rw [h, bnd_some]; exact h'
section
variable (k : VV → Prop)
theorem onV_int (a : IntKind) (b : Int) : onV (.int a b) k = k (.int a b) := rfl
theorem onV_bool (a : Bool) : onV (.bool a) k = k (.bool a) := rfl
theorem onV_str (a : List UInt8) : onV (.str a) k = k (.str a) := rfl
theorem onV_agg (a : List VV) : onV (.agg a) k = k (.agg a) := rfl
theorem onV_tup (a : List VV) : onV (.tup a) k = k (.tup a) := rfl
theorem onV_sl (a : Option (Nat × List Nat × Nat)) (b : Nat) : onV (.sl a b) k = k (.sl a b) := rfl
theorem onV_ptr (a : Nat) (b : List Nat) : onV (.ptr a b) k = k (.ptr a b) := rfl
theorem onV_fn (a : FuncId) (b : List VV) : onV (.fn a b) k = k (.fn a b) := rfl
theorem onV_map (a : Nat) : onV (.map a) k = k (.map a) := rfl
theorem onV_dat (a : Sh) (b : List VV) : onV (.dat a b) k = k (.dat a b) := rfl
theorem onV_pd (a : Sh) (b : VV) : onV (.pd a b) k = k (.pd a b) := rfl
theorem onV_raw (a : Value) : onV (.raw a) k = k (.raw a) := rfl
end

/-! ### frames -/
structure VS where
  tm : Nat → VV
  hp : Heap
  nx : Nat
def put (d : Option Nat) (v : VV) (t : Nat → VV) : Nat → VV := match d with
  | some d => upd t d v
  | none => t
def ofV : Value → VV
  | .int k n => .int k n
  | .bool b => .bool b
  | .string s => .str s.data.toList
  | .slice none 0 0 => .sl none 0
  | .func (.func f) first caps => if first.isEmpty && caps.isEmpty then .fn f [] else .any
  | .pointer none => .raw (.pointer none)
  | .map none => .raw (.map none)
  | .nilFunc => .raw .nilFunc
  | .nilIface => .raw .nilIface
  | v => .any
def ev (tm : Nat → VV) : Operand → VV
  | .tmp t => tm t
  | .const v => ofV v
  | .global g => .raw (.pointer (some ⟨g, 0, none⟩))
  | .func f => .fn f []

theorem ofV_sound (ρ : Names) (w : World) (v : Value) : VR ρ w (ofV v) v := by
  unfold ofV
  split
  · simp [VR, VR1, C1]
  · simp [VR, VR1, C1]
  · rename_i s; obtain ⟨d⟩ := s; simp [VR, VR1, C1]
  · simp [VR, VR1, C1]
  · split
    · rename_i f first caps h
      simp only [Bool.and_eq_true,Array.isEmpty_iff] at h
      obtain ⟨rfl, rfl⟩ := h
      simp [VR, VR1, C1, CV]
    · simp [VR, VR1]
  · simp [VR, VR1, C1]
  · simp [VR, VR1, C1]
  · simp [VR, VR1, C1]
  · simp [VR, VR1, C1]
  · simp [VR, VR1]

/-- slots that are these values -/
def TM (ρ : Names) (w : World) (tm : Nat → VV) (a : Act) : Prop := ∀ t, VR ρ w (tm t) (a.tmps.getD t undef)
theorem ev_sound {ρ : Names} {w : World} {tm : Nat → VV} {a : Act} (h : TM ρ w tm a) (x : Operand) : VR ρ w (ev tm x) (a.eval x) := by
  cases x with
  | tmp t => exact h t
  | const v => exact ofV_sound ρ w v
  | global g => simp [ev, Act.eval, VR, VR1, C1]
  | func f => simp [ev, Act.eval, VR, VR1, C1, CV]

/-- what an operation leaves -/
def Good (Z : Nat → Nat → Prop) (B : Nat) (K : VV → Heap → Nat → Prop) (ρ : Names) (w : World) (x : Value) (w' : World) : Prop :=
  ∃ v H' n' ρ', K v H' n' ∧ VR ρ' w' v x ∧ HR Z B ρ' H' n' w' ∧ Ext ρ w ρ' w' ∧ Below B w w'
theorem Good.same {Z : Nat → Nat → Prop} {B : Nat} {K : VV → Heap → Nat → Prop} {ρ : Names} {w : World} {x : Value} {v : VV} {H : Heap} {n : Nat} (hk : K v H n) (hv : VR ρ w v x) (hh : HR Z B ρ H n w) : Good Z B K ρ w x w :=
  ⟨v, H, n, ρ, hk, hv, hh, Ext.refl _ _, Below.refl _ _⟩
def Runs (P : Program) (Z : Nat → Nat → Prop) (B : Nat) (K : VV → Heap → Nat → Prop) (ρ : Names) (w : World) (s : Sem Next) : Prop :=
  (∃ x w', s.run P w = .ok (.value x) w' ∧ Good Z B K ρ w x w') ∨ (∃ w', s.run P w = .ok .skip w' ∧ Good Z B K ρ w undef w') ∨
  (∃ f xs, s.run P w = .ok (.enter f xs) w ∧ Calls P f xs w (fun e w' => ∃ x, e = .returned x ∧ Good Z B K ρ w x w'))

/-- the names that an operation gives are such as it may give -/
def Gives (Z : Nat → Nat → Prop) [Zone Z] (n : Nat) (K : VV → Heap → Nat → Prop) : Prop := ∀ v H n', K v H n' → n < n' → Zone.ok Z n
theorem Gives.one {Z : Nat → Nat → Prop} [Zone Z] {n : Nat} {K : VV → Heap → Nat → Prop} (h : Gives Z n K) {v : VV} {H : Heap} (hk : K v H (n + 1)) : Zone.ok Z n := h v H (n + 1) hk (Nat.lt_succ_self _)
def VRA (ρ : Names) (w : World) : List VV → List Value → Prop
  | [], xs => xs = []
  | v :: vs, xs => ∃ x ys, xs = x :: ys ∧ VR ρ w v x ∧ VRA ρ w vs ys
/-- called by name: whatever the names lie at, what comes back is such as K wants it -/
def vcall (P : Program) (f : FuncId) (args : List VV) (H : Heap) (n : Nat) (K : VV → Heap → Nat → Prop) : Prop :=
  ∀ B ρ w xs, HR ZT B ρ H n w → VRA ρ w args xs → Calls P f xs.toArray w (fun e w' => ∃ x, e = .returned x ∧ Good ZT B K ρ w x w')
@[congr] theorem vcall_congr {P : Program} {f f' : FuncId} {args args' : List VV} {H : Heap} {n n' : Nat} {K : VV → Heap → Nat → Prop} (h1 : f = f') (h2 : args = args') (h3 : n = n') : vcall P f args H n K = vcall P f' args' H n' K := by rw [h1, h2, h3]
def callable (P : Program) (f : FuncId) : Bool := match P.funcs[f]? with
  | some fn => fn.name != "runtime.NumGoroutine" && fn.body.isSome
  | none => false

/-! ### the operations -/
section
variable (P : Program) (e : Operand → VV) (H : Heap) (n : Nat) (K : VV → Heap → Nat → Prop)
def vPick (c a b : Operand) : Prop := onV (e c) fun v => match v with
  | .bool t => vif t (K (e a) H n) (K (e b) H n)
  | _ => False
def vLoad (t : TypeId) (a : Operand) : Prop := onV (e a) fun v => match v with
  | .ptr m p => bnd (H m) fun b => match b with
    | .row s c => cnd (s.at p = SH P t) (bnd (c.get p) fun u => K u H n)
    | _ => False
  | .pd s u => cnd (SH P t = some s) (K u H n)
  | _ => False
def vStore (t : TypeId) (a x : Operand) : Prop := onV (e a) fun v => match v with
  | .ptr m p => bnd (H m) fun b => match b with
    | .row s c => bnd (SH P t) fun st => cnd (s.at p = some st ∧ Has st (e x)) (bnd (c.get p) fun _ => K .any (upd H m (some (.row s (c.set p (e x))))) n)
    | _ => False
  | _ => False
def vBox (t : TypeId) (x : Operand) : Prop := bnd (SH P t) fun s => cnd (Has s (e x)) (K (.ptr n []) (upd H n (some (.row s (e x)))) (n + 1))
def vNilCheck (x : Operand) : Prop := onV (e x) fun v => match v with
  | .ptr m p => K (.ptr m p) H n
  | .pd s u => K (.pd s u) H n
  | .fn f cs => K (.fn f cs) H n
  | _ => False
def vUn (op : UnOp) (x : Operand) : Prop := onV (e x) fun v => match op, v with
  | .not, .bool b => K (.bool (!b)) H n
  | .neg, .int k a => K (.int k (k.wrap (0 - a))) H n
  | _, _ => False
def vField (t : TypeId) (x : Operand) (f : Nat) : Prop := onV (e x) fun v => match v with
  | .agg vs => bnd (SH P t) fun s => cnd (Has s (.agg vs)) (match s with
    | .st ls => bnd (vs[f]?) fun u => K u H n
    | _ => False)
  | _ => False
def vFieldAddr (t : TypeId) (x : Operand) (f : Nat) : Prop := onV (e x) fun v => match v with
  | .ptr m p => bnd (H m) fun b => match b with
    | .row s _ => bnd (SH P t) fun st => cnd (s.at p = some st) (match st with
      | .st ls => bnd (ls[f]?) fun sf => cnd (sf.size ≠ 0) (K (.ptr m (p ++ [f])) H n)
      | _ => False)
    | _ => False
  | .pd s (.agg vs) => bnd (SH P t) fun st => cnd (s = st) (match st with
      | .st ls => bnd (ls[f]?) fun sf => cnd (sf.size ≠ 0) (bnd (vs[f]?) fun u => K (.pd sf u) H n)
      | _ => False)
  | _ => False
def vIndexAddr (t : TypeId) (x i : Operand) : Prop := onV (e x) fun v => onV (e i) fun j => match v, j with
  | .sl (some (m, p, i0)) len, .int _ k => bnd (H m) fun b => match b with
    | .row s _ => bnd (EL P t) fun et => bnd (SH P et) fun se => bnd (s.at p) fun sa => match sa with
      | .arr _ s' => cnd (s' = se) (cnd (0 ≤ k ∧ k < len) (K (.ptr m (p ++ [i0 + k.toNat])) H n))
      | _ => False
    | _ => False
  | .dat s els, .int _ k => bnd (EL P t) fun et => bnd (SH P et) fun se => cnd (s = se) (cnd (0 ≤ k ∧ k < els.length) (bnd (els[k.toNat]?) fun u => K (.pd s u) H n))
  | .ptr m p, .int _ k => bnd (H m) fun b => match b with
    | .row s _ => bnd (SH P t) fun st => cnd (s.at p = some st) (match st with
      | .arr len _ => cnd (0 ≤ k ∧ k < len) (K (.ptr m (p ++ [k.toNat])) H n)
      | _ => False)
    | _ => False
  | .pd s (.agg vs), .int _ k => bnd (SH P t) fun st => cnd (s = st) (match st with
      | .arr len s' => cnd (0 ≤ k ∧ k < len) (bnd (vs[k.toNat]?) fun u => K (.pd s' u) H n)
      | _ => False)
  | _, _ => False
def vExtract (x : Operand) (i : Nat) : Prop := onV (e x) fun v => match v with
  | .tup vs => bnd (vs[i]?) fun u => K u H n
  | _ => False
def vbin (op : BinOp) (x y : VV) (K : VV → Prop) : Prop := match x, y with
  | .int k a, .int k' b => match op with
    | .add => cnd (k = k') (K (.int k (k.wrap (a + b))))
    | .sub => cnd (k = k') (K (.int k (k.wrap (a - b))))
    | .mul => cnd (k = k') (K (.int k (k.wrap (a * b))))
    | .quo => cnd (k = k' ∧ b ≠ 0) (K (.int k (k.wrap (a.tdiv b))))
    | .rem => cnd (k = k' ∧ b ≠ 0) (K (.int k (a.tmod b)))
    | .eql => cnd (k = k') (K (.bool (a == b)))
    | .neq => cnd (k = k') (K (.bool (a != b)))
    | .lss => cnd (k = k') (K (.bool (decide (a < b))))
    | .leq => cnd (k = k') (K (.bool (decide (a ≤ b))))
    | .gtr => cnd (k = k') (K (.bool (decide (a > b))))
    | .geq => cnd (k = k') (K (.bool (decide (a ≥ b))))
    | .shl => cnd (0 ≤ b) (K (.int k (k.wrap (a * 2 ^ (min b.toNat k.bits)))))
    | .shr => cnd (0 ≤ b) (K (.int k (a.fdiv (2 ^ (min b.toNat k.bits)))))
    | op => cnd (k = k') (K (.int k (bits op k a b)))
  | .str a, .str b => match op with
    | .add => cnd (a.length + b.length ≤ 9223372036854775807) (K (.str (a ++ b)))
    | .eql => K (.bool (a == b))
    | .neq => K (.bool (a != b))
    | _ => False
  | _, _ => False
def vBin (op : BinOp) (x y : Operand) : Prop := onV (e x) fun v => onV (e y) fun u => vbin op v u fun r => K r H n
def vConvert (s d : TypeId) (x : Operand) : Prop := onV (e x) fun v => match v with
  | .int _ a => bnd (P.underlying s) fun _ => bnd (P.underlying d) fun u => match u with
    | .int k => K (.int k (k.wrap a)) H n
    | _ => False
  | _ => False
def vLen (ts : Array TypeId) (x : Operand) : Prop := onV (e x) fun v => bnd (ts[0]?) fun t => bnd (P.underlying t) fun u => match u, v with
  | .string, .str s => K (.int .i64 s.length) H n
  | .slice _, .sl _ k => K (.int .i64 k) H n
  | .slice _, .dat _ els => K (.int .i64 els.length) H n
  | _, _ => False
def vCall (f : Operand) (args : List Operand) : Prop := onV (e f) fun v => match v with
  | .fn g caps => cnd (callable P g = true) (vcall P g (args.map e ++ caps) H n K)
  | _ => False
def vIndex (t : TypeId) (x i : Operand) : Prop := onV (e x) fun v => onV (e i) fun j => match v, j with
  | .str s, .int _ k => bnd (P.underlying t) fun u => match u with
    | .string => cnd (0 ≤ k ∧ k < s.length) (K (.int .u8 (((s.getD k.toNat 0).toNat : Nat) : Int)) H n)
    | _ => False
  | .agg vs, .int _ k => bnd (SH P t) fun s => cnd (Has s (.agg vs)) (match s with
    | .arr len _ => cnd (0 ≤ k ∧ k < len) (bnd (vs[k.toNat]?) fun u => K u H n)
    | _ => False)
  | _, _ => False
def vMakeFunc (f : FuncId) (first : Array Operand) (caps : List Operand) : Prop := cnd (first = #[] ∧ (∀ c ∈ caps, (e c).leaf = true)) (K (.fn f (caps.map e)) H n)
end

section
variable {P : Program} {Z : Nat → Nat → Prop} [Zone Z] {B : Nat} {ρ : Names} {w : World} {H : Heap} {n : Nat} {tm : Nat → VV} {a : Act} {K : VV → Heap → Nat → Prop} {o : Oper}
theorem runs_value {x : Value} {s : Sem Next} (hr : s.run P w = .ok (.value x) w) {v : VV} (hk : K v H n) (hv : VR ρ w v x) (hh : HR Z B ρ H n w) : Runs P Z B K ρ w s :=
  .inl ⟨x, w, hr, Good.same hk hv hh⟩
theorem VR.of_leaf {v : VV} {x : Value} (hl : v.leaf = true) (h : C1 ρ w v [x]) : VR ρ w v x := by
  cases v <;> first | exact h | simp [VV.leaf] at hl
theorem VR.leaf_cells {v : VV} {x : Value} (hl : v.leaf = true) (h : VR ρ w v x) : C1 ρ w v [x] := by
  cases v <;> first | exact h | simp [VV.leaf] at hl
theorem VR.bool {b : Bool} {x : Value} (h : VR ρ w (.bool b) x) : x = .bool b := by simpa [VR, VR1, C1] using h
theorem VR.int {k : IntKind} {i : Int} {x : Value} (h : VR ρ w (.int k i) x) : x = .int k i := by simpa [VR, VR1, C1] using h
theorem VR.str {s : List UInt8} {x : Value} (h : VR ρ w (.str s) x) : x = .string ⟨s.toArray⟩ := by simpa [VR, VR1, C1] using h
theorem VR.ptr {m : Nat} {p : List Nat} {x : Value} (h : VR ρ w (.ptr m p) x) : ∃ l, ρ m = some l ∧ x = .pointer (some ⟨l.block, l.base + l.sh.off p, none⟩) := by simpa [VR, VR1, C1] using h
theorem VR.pd {s : Sh} {v : VV} {x : Value} (h : VR ρ w (.pd s v) x) : ∃ b o ecs, x = .pointer (some ⟨b, o, none⟩) ∧ C1 ρ w v ecs ∧ Has s v ∧ w.rangeAt b o ecs ∧ Unnamed ρ b ∧ b < w.heap.size := by
  simp only [VR,VR1,C1] at h
  obtain ⟨b, o, ecs, h1, h2⟩ := h
  exact ⟨b, o, ecs, by simpa using h1, h2⟩
theorem VR.tup {vs : List VV} {x : Value} (h : VR ρ w (.tup vs) x) : ∃ xs, x = .tuple xs ∧ VRs ρ w vs xs.toList := h
theorem VR.agg {vs : List VV} {x : Value} (h : VR ρ w (.agg vs) x) : ∃ cs, x = .agg cs ∧ CR ρ w vs cs.toList := h
theorem VR.fn {f : FuncId} {caps : List VV} {x : Value} (h : VR ρ w (.fn f caps) x) : ∃ cs, x = .func (.func f) #[] cs ∧ CV ρ w caps cs.toList := by
  simp only [VR,VR1,C1] at h
  obtain ⟨cs, h1, h2⟩ := h
  exact ⟨cs, by simpa using h1, h2⟩
theorem VR.of1 {v : VV} {x : Value} (h : VR1 ρ w v x) : VR ρ w v x := by
  cases v with
  | tup vs => simp [VR1, C1] at h
  | _ => exact h

theorem pick_sound (hT : TM ρ w tm a) (hh : HR Z B ρ H n w) (c x y : Operand) (ho : o.op = .pick c x y) (h : vPick (ev tm) H n K c x y) : Runs P Z B K ρ w (execOp a.eval o) := by
  unfold vPick onV at h
  dsimp only at h
  have hc := ev_sound hT c
  split at h
  · rename_i t e
    rw [e] at hc
    have := hc.bool
    cases t with
    | true =>
      refine runs_value (x := a.eval x) ?_ (h.1 rfl) (ev_sound hT x) hh
      simp [execOp, ho, this, asBool]
    | false =>
      refine runs_value (x := a.eval y) ?_ (h.2 rfl) (ev_sound hT y) hh
      simp [execOp, ho, this, asBool]
  · exact h.elim

/-- the cells of a part, as a value -/
theorem part_value {s : Sh} {u : VV} {mid : List Value} (hs : Has s u) (hc : C1 ρ w u mid) : (s = .cell ∧ ∃ x, mid = [x] ∧ VR ρ w u x) ∨ (s ≠ .cell ∧ VR ρ w u (.agg mid.toArray)) := by
  cases s with
  | cell =>
    simp only [Has] at hs
    obtain ⟨x, rfl⟩ := leaf_one hs hc
    exact .inl ⟨rfl, x, rfl, VR.of_leaf hs hc⟩
  | st ls =>
    cases u <;> simp only [Has] at hs <;> first | exact hs.elim | skip
    simp only [C1] at hc
    exact .inr ⟨by simp, _, rfl, by simpa using hc⟩
  | arr k s =>
    cases u <;> simp only [Has] at hs <;> first | exact hs.elim | skip
    simp only [C1] at hc
    exact .inr ⟨by simp, _, rfl, by simpa using hc⟩
theorem load_run {t : TypeId} {s : Sh} {u : VV} {mid : List Value} {b f : Nat} (ht : SH P t = some s) (hs : Has s u) (hc : C1 ρ w u mid) (hr : w.rangeAt b f mid) :
    ∃ x, (loadVar t ⟨b, f, none⟩).run P w = .ok x w ∧ VR ρ w u x := by
  obtain ⟨i, d, hi, hu, hsz, hrow⟩ := shOf_spec ht
  have hlen := Has.len s u mid hs hc
  rcases part_value hs hc with ⟨rfl, x, rfl, hv⟩ | ⟨hne, hv⟩
  · refine ⟨x, ?_, hv⟩
    have hd : d.isRow = false := by
      cases hd : d.isRow with
      | false => rfl
      | true => exact absurd rfl (hrow.1 hd)
    have hagg : (isAgg t).run P w = .ok false w := by
      unfold isAgg
      rw [Sem.run_bind, run_underlying hu w]
      cases d <;> simp_all
    have h0 := hr 0 x rfl
    simp only [loadVar,Sem.run_bind,hagg,Result.andThen_ok,Bool.false_eq_true,if_false]
    simp only [Nat.add_zero] at h0
    simp [h0]
  · refine ⟨_, run_loadVar_mid w b f t mid d hr hu (hrow.2 hne) (by rw [hi, hlen]; simp [hsz]), hv⟩
theorem range_part {b f : Nat} {pre mid post : List Value} (h : w.rangeAt b f (pre ++ mid ++ post)) : w.rangeAt b (f + pre.length) mid := fun j v hv => by
  have hj : j < mid.length := (List.getElem?_eq_some_iff.1 hv).1
  have := h (pre.length + j) v (by rw [List.append_assoc, List.getElem?_append_right (by omega), List.getElem?_append_left (by omega)]; simpa using hv)
  rwa [← Nat.add_assoc] at this
theorem load_sound (hT : TM ρ w tm a) (hh : HR Z B ρ H n w) (t : TypeId) (x : Operand) (ho : o.op = .load t x) (h : vLoad P (ev tm) H n K t x) : Runs P Z B K ρ w (execOp a.eval o) := by
  unfold vLoad onV at h
  dsimp only at h
  have hx := ev_sound hT x
  split at h
  · rename_i m p e
    rw [e] at hx
    obtain ⟨l, hl, hp⟩ := hx.ptr
    obtain ⟨blk, hb, h⟩ := bnd_iff.1 h
    split at h
    · rename_i s c
      obtain ⟨h1, h2⟩ := h
      obtain ⟨u, hu, h2⟩ := bnd_iff.1 h2
      have hrow := hh.row m s c l hb hl
      obtain ⟨cs, g1, g2, g3⟩ := hrow.cells
      obtain ⟨su, pre, mid, post, k1, k2, rfl, k4, k5, _, _⟩ := focus p s c u cs hrow.has hu g1
      rw [k1] at h1
      have hr := range_part g3
      obtain ⟨y, hy1, hy2⟩ := load_run (P := P) h1.symm k2 k5 hr
      refine runs_value (x := y) ?_ h2 hy2 hh
      simp only [execOp,ho,hp,Instr.loadAt,Instr.sureAddr,Sem.run_bind,Sem.run_pure,Result.andThen_ok]
      rw [hrow.sh, ← k4, hy1]
      rfl
    · exact h.elim
  · rename_i s u e
    rw [e] at hx
    obtain ⟨b, f, ecs, rfl', g1, g2, g3, _⟩ := hx.pd
    obtain ⟨h1, h2⟩ := h
    obtain ⟨y, hy1, hy2⟩ := load_run (P := P) h1 g2 g1 g3
    refine runs_value (x := y) ?_ h2 hy2 hh
    simp only [execOp,ho,rfl',Instr.loadAt,Instr.sureAddr,Sem.run_bind,Sem.run_pure,Result.andThen_ok,hy1]
  · exact h.elim
end
end Go.Proofs.Ytlgldkjjbbbapaa.V
end
section
/-
  A MACHINE OF VALUES, FOURTH PART: stores, new blocks, addresses.
-/
set_option linter.unusedVariables false
set_option linter.unusedSectionVars false
set_option linter.unusedSimpArgs false
namespace Go.Proofs.Ytlgldkjjbbbapaa.V
open Go Go.RowKit

section
variable {P : Program} {Z : Nat → Nat → Prop} [Zone Z] {B : Nat} {ρ : Names} {w : World} {H : Heap} {n : Nat} {tm : Nat → VV} {a : Act} {K : VV → Heap → Nat → Prop} {o : Oper}
theorem leaf_cell {v : VV} {x : Value} (hl : v.leaf = true) (h : C1 ρ w v [x]) : x.oneCell' = true := by
  cases v with
  | agg _ | tup _ | vec _ _ | any => simp [VV.leaf] at hl
  | sl p n => cases p with
    | none => simp only [C1] at h; have := h.2; simp at this; subst this; rfl
    | some q => obtain ⟨m, p, i⟩ := q; simp only [C1] at h; rcases h with ⟨_, A, h⟩ | ⟨l, c, e, k, _, h, _⟩ <;> simp at h
                · rw [h]; rfl
                · rw [h]; rfl
  | ptr m p => simp only [C1] at h; obtain ⟨l, _, h⟩ := h; simp at h; subst h; rfl
  | fn f c => simp only [C1] at h; obtain ⟨l, h, _⟩ := h; simp at h; subst h; rfl
  | map m => simp only [C1] at h; obtain ⟨l, _, h⟩ := h; simp at h; subst h; rfl
  | dat s e => simp only [C1] at h; obtain ⟨A, c, h, _⟩ := h; simp at h; subst h; rfl
  | pd s e => simp only [C1] at h; obtain ⟨b, o, c, h, _⟩ := h; simp at h; subst h; rfl
  | raw v => simp only [C1] at h; simp at h; subst h; simpa [VV.leaf] using hl
  | _ => simp only [C1] at h; simp at h; subst h; rfl
theorem one_cells {x : Value} (h : x.oneCell' = true) : x.cells = #[x] := by
  cases x <;> first | rfl | simp [Value.oneCell'] at h
mutual
theorem Has.one : ∀ (s : Sh) (v : VV) (cs : List Value), Has s v → C1 ρ w v cs → ∀ c ∈ cs, c.oneCell' = true
  | .cell, v, cs, h, hc => by
    simp only [Has] at h
    obtain ⟨x, rfl⟩ := leaf_one h hc
    intro c hcm
    simp at hcm
    subst hcm
    exact leaf_cell h hc
  | .st ls, v, cs, h, hc => by
    cases v <;> simp only [Has] at h <;> first | exact h.elim | skip
    rename_i vs
    simp only [C1] at hc
    exact HasL.one ls vs cs h hc
  | .arr n s, v, cs, h, hc => by
    cases v <;> simp only [Has] at h <;> first | exact h.elim | skip
    rename_i vs
    simp only [C1] at hc
    obtain ⟨rfl, h⟩ := h
    induction vs generalizing cs with
    | nil => simp only [CR] at hc; simp [hc]
    | cons v vs ih =>
      simp only [CR] at hc
      obtain ⟨c1, c2, rfl, h1, h2⟩ := hc
      intro c hcm
      rcases List.mem_append.1 hcm with hcm | hcm
      · exact Has.one s v c1 (h v (by simp)) h1 c hcm
      · exact ih c2 h2 (fun u hu => h u (by simp [hu])) c hcm
theorem HasL.one : ∀ (ls : List Sh) (vs : List VV) (cs : List Value), HasL ls vs → CR ρ w vs cs → ∀ c ∈ cs, c.oneCell' = true
  | [], vs, cs, h, hc => by
    simp only [HasL] at h
    subst h
    simp only [CR] at hc
    simp [hc]
  | s :: ls, [], _, h, _ => by simp [HasL] at h
  | s :: ls, v :: vs, cs, h, hc => by
    simp only [HasL] at h
    simp only [CR] at hc
    obtain ⟨c1, c2, rfl, h1, h2⟩ := hc
    intro c hcm
    rcases List.mem_append.1 hcm with hcm | hcm
    · exact Has.one s v c1 h.1 h1 c hcm
    · exact HasL.one ls vs c2 h.2 h2 c hcm
end
theorem HasA.one {s : Sh} : ∀ (vs : List VV) (cs : List Value), (∀ v ∈ vs, Has s v) → CR ρ w vs cs → ∀ c ∈ cs, c.oneCell' = true
  | [], cs, _, h => by simp only [CR] at h; simp [h]
  | v :: vs, cs, h, hc => by
    simp only [CR] at hc
    obtain ⟨c1, c2, rfl, h1, h2⟩ := hc
    intro c hcm
    rcases List.mem_append.1 hcm with hcm | hcm
    · exact Has.one s v c1 (h v (by simp)) h1 c hcm
    · exact HasA.one vs c2 (fun u hu => h u (by simp [hu])) h2 c hcm
theorem val_cells {s : Sh} {v : VV} {x : Value} (hs : Has s v) (h : VR ρ w v x) : C1 ρ w v x.cells.toList := by
  cases s with
  | cell =>
    simp only [Has] at hs
    have := VR.leaf_cells hs h
    rw [one_cells (leaf_cell hs this)]
    exact this
  | st ls =>
    cases v <;> simp only [Has] at hs <;> first | exact hs.elim | skip
    obtain ⟨cs, rfl, hc⟩ := h.agg
    simp only [C1]; exact hc
  | arr k s =>
    cases v <;> simp only [Has] at hs <;> first | exact hs.elim | skip
    obtain ⟨cs, rfl, hc⟩ := h.agg
    simp only [C1]; exact hc
theorem setCells_size (b : Nat) : ∀ (vs : List Value) (o : Nat) (w : World), (w.setCells b o vs).heap.size = w.heap.size
  | [], _, _ => rfl
  | v :: vs, o, w => by
    rw [World.setCells, setCells_size b vs (o + 1)]
    simp [World.setCell]
theorem setCells_other (b : Nat) {k : Nat} (hk : k ≠ b) : ∀ (vs : List Value) (o : Nat) (w : World), (w.setCells b o vs).heap[k]? = w.heap[k]?
  | [], _, _ => rfl
  | v :: vs, o, w => by
    rw [World.setCells, setCells_other b hk vs (o + 1)]
    exact Below.heap_setCell _ _ _ _ hk
theorem setCells_below {b : Nat} (hb : B ≤ b) {w0 : World} : ∀ (vs : List Value) (o : Nat) (w : World), Below B w0 w → Below B w0 (w.setCells b o vs)
  | [], _, _, h => h
  | v :: vs, o, w, h => setCells_below hb vs (o + 1) _ (h.setCell (p := ⟨b, o, none⟩) hb v)
theorem range_append {b f : Nat} {xs ys : List Value} : w.rangeAt b f (xs ++ ys) ↔ w.rangeAt b f xs ∧ w.rangeAt b (f + xs.length) ys := by
  constructor
  · intro h
    refine ⟨fun j v hv => h j v ?_, fun j v hv => ?_⟩
    · have hj : j < xs.length := (List.getElem?_eq_some_iff.1 hv).1
      rw [List.getElem?_append_left hj]; exact hv
    · have := h (xs.length + j) v (by rw [List.getElem?_append_right (by omega)]; simpa using hv)
      rwa [← Nat.add_assoc] at this
  · rintro ⟨h1, h2⟩ j v hv
    rcases Nat.lt_or_ge j xs.length with hj | hj
    · rw [List.getElem?_append_left hj] at hv
      exact h1 j v hv
    · rw [List.getElem?_append_right hj] at hv
      have := h2 (j - xs.length) v hv
      rwa [show f + xs.length + (j - xs.length) = f + j by omega] at this
theorem there_part {b f n g k : Nat} (h : w.there b f n) (hk : g + k ≤ n) : w.there b (f + g) k := fun j hj => by
  have := h (g + j) (by omega)
  rwa [← Nat.add_assoc] at this
theorem run_storeVar_any {t : TypeId} {b f : Nat} {x : Value} (ht : w.there b f x.cells.size) (hi : (P.info? t).map (·.size) = some x.cells.size) (h1 : ∀ c ∈ x.cells.toList, c.oneCell' = true) :
    (storeVar t ⟨b, f, none⟩ x).run P w = .ok () (w.setCells b f x.cells.toList) := by
  have := run_storeCells_cells (P := P) b f x.cells.toList 0 w (fun j hj => by simpa using (ht j (by simpa using hj)).1) (fun j hj => by simpa using (ht j (by simpa using hj)).2) h1
  cases hq : P.info? t with
  | none => simp [hq] at hi
  | some i =>
    have hs : x.cells.size = i.size := by simp [hq] at hi; omega
    simp only [Nat.add_zero] at this
    simp [storeVar, sizeOf, typeInfo, hq, hs, this]
/-- a part of a named block is written -/
theorem store_part (hh : HR Z B ρ H n w) {m : Nat} {p : List Nat} {s st : Sh} {c u v : VV} {l : Loc} (hb : H m = some (.row s c)) (hl : ρ m = some l) (hu : c.get p = some u) (hat : s.at p = some st) (hv : Has st v) {cs : List Value} (hc : C1 ρ w v cs) :
    w.there l.block (l.base + l.sh.off p) cs.length ∧ HR Z B ρ (upd H m (some (.row s (c.set p v)))) n (w.setCells l.block (l.base + l.sh.off p) cs) ∧ Ext ρ w ρ (w.setCells l.block (l.base + l.sh.off p) cs) ∧ Below B w (w.setCells l.block (l.base + l.sh.off p) cs) := by
  have hrow := hh.row m s c l hb hl
  obtain ⟨ds, g1, g2, g3⟩ := hrow.cells
  obtain ⟨su, pre, mid, post, k1, k2, rfl, k4, k5, k6, k7⟩ := focus p s c u ds hrow.has hu g1
  rw [k1] at hat
  injection hat with hat
  subst hat
  rw [hrow.sh, ← k4]
  have e1 := Has.len su v cs hv hc
  have e2 := Has.len su u mid k2 k5
  simp only [List.length_append] at g2
  have hth : w.there l.block (l.base + pre.length) cs.length := there_part hrow.room (by omega)
  have hsz := setCells_size l.block cs (l.base + pre.length) w
  have hot : ∀ b, b ≠ l.block → (w.setCells l.block (l.base + pre.length) cs).heap[b]? = w.heap[b]? := fun b hb' => setCells_other l.block hb' cs _ w
  have he : Ext ρ w ρ (w.setCells l.block (l.base + pre.length) cs) := ⟨fun _ _ h => h, by omega, fun b hb' hu' => hot b (fun e => hu'.2 m l hl e.symm), fun _ _ h => .inl h, fun _ h => h, fun _ h => .inl h⟩
  have hrow' : RowAt ρ (w.setCells l.block (l.base + pre.length) cs) l s (c.set p v) := by
    refine ⟨hrow.sh, k6 v hv, ⟨pre ++ cs ++ post, k7 _ _ v cs he (C1.ext he v cs hc), by simp only [List.length_append]; omega, ?_⟩, World.there_setCells hrow.room _ _ _⟩
    rw [range_append, range_append] at g3 ⊢
    obtain ⟨⟨r1, r2⟩, r3⟩ := g3
    refine ⟨⟨World.rangeAt_setCells_apart r1 _ _ _ (.inr (.inl (by omega))), World.rangeAt_setCells_same w _ _ _ hth⟩, ?_⟩
    have : (pre ++ cs).length = (pre ++ mid).length := by simp only [List.length_append]; omega
    rw [this]
    exact World.rangeAt_setCells_apart r3 _ _ _ (.inr (.inr (by simp only [List.length_append]; omega)))
  exact ⟨hth, (hh.put hl (by rw [hb]; simp) hsz hot hrow').1, he, setCells_below (hh.lt m l hl).1 cs _ w (Below.refl _ _)⟩
theorem store_sound (hT : TM ρ w tm a) (hh : HR Z B ρ H n w) (t : TypeId) (y x : Operand) (ho : o.op = .store t y x) (h : vStore P (ev tm) H n K t y x) : Runs P Z B K ρ w (execOp a.eval o) := by
  unfold vStore onV at h
  dsimp only at h
  have hy := ev_sound hT y
  split at h
  · rename_i m p e
    rw [e] at hy
    obtain ⟨l, hl, hp⟩ := hy.ptr
    obtain ⟨blk, hb, h⟩ := bnd_iff.1 h
    split at h
    · rename_i s c
      obtain ⟨st, hst, h⟩ := bnd_iff.1 h
      obtain ⟨⟨hat, hx⟩, h⟩ := h
      obtain ⟨u, hu, h⟩ := bnd_iff.1 h
      have hxv := ev_sound hT x
      have hc := val_cells hx hxv
      obtain ⟨h1, h2, h3, h4⟩ := store_part hh hb hl hu hat hx hc
      obtain ⟨i, d, hi, _, hsz, _⟩ := shOf_spec hst
      have hlen := Has.len _ _ _ hx hc
      rw [Array.length_toList] at h1 hlen
      have hrun := run_storeVar_any (P := P) (t := t) h1 (by rw [hi, hlen]; simp [hsz]) (Has.one _ _ _ hx hc)
      refine .inr (.inl ⟨_, ?_, .any, _, _, ρ, h, by simp [VR, VR1], h2, h3, h4⟩)
      simp only [execOp,ho,hp,Instr.storeAt,Instr.sureAddr,Sem.run_bind,Sem.run_pure,Result.andThen_ok,hrun]
    · exact h.elim
  · exact h.elim

/-- a new block -/
theorem new_blockF (hh : HR Z B ρ H n w) (hZ : Zone.ok Z n) {s : Sh} {v : VV} {cs : List Value} (hs : Has s v) (hc : C1 ρ w v cs) {cells : Array Value} {t : TypeId} {tail : List Value} (hcells : cells.toList = cs ++ tail) (fz : Nat × Nat) (hfz : ∀ j, j < cells.size → ¬ (fz.1 ≤ j ∧ j < fz.2)) :
    ∃ l : Loc, l.block = w.heap.size ∧ l.base = 0 ∧ l.room = cells.size ∧ l.sh = s ∧ HR Z B (ρ.give n l) (upd H n (some (.row s v))) (n + 1) (w.alloc (.cells cells t fz)) ∧
      Ext ρ w (ρ.give n l) (w.alloc (.cells cells t fz)) ∧ Below B w (w.alloc (.cells cells t fz)) := by
  have hsz : (w.alloc (.cells cells t fz)).heap.size = w.heap.size + 1 := by simp
  have hot : ∀ b, b < w.heap.size → (w.alloc (.cells cells t fz)).heap[b]? = w.heap[b]? := fun b hb => Below.heap_alloc w _ b hb
  have hnew : (w.alloc (.cells cells t fz)).heap[w.heap.size]? = some (.cells cells t fz) := by
    show (w.heap.push _)[w.heap.size]? = _
    simp
  have hcell : ∀ j, (w.alloc (.cells cells t fz)).cell? ⟨w.heap.size, j, none⟩ = cells[j]? := fun j => by
    unfold World.cell?
    simp only [hnew]
    simp
  have he := ext_new (w' := w.alloc (.cells cells t fz)) (hh.fresh n (Zone.free n hZ)) ⟨w.heap.size, 0, cells.size, s⟩ (by omega) (fun b hb _ => hot b hb) (.inl (Nat.le_refl _))
  refine ⟨⟨w.heap.size, 0, cells.size, s⟩, rfl, rfl, rfl, rfl, ?_, he, (Below.refl _ _).alloc hh.base _⟩
  refine hh.new hZ ⟨w.heap.size, 0, cells.size, s⟩ (Nat.le_refl _) (by show w.heap.size < _; omega) (by omega) hot ⟨rfl, hs, ⟨cs, C1.ext he v cs hc, ?_, fun j x hx => ?_⟩, fun j hj => ⟨?_, ?_⟩⟩
  · have := congrArg List.length hcells
    simp only [Array.length_toList,List.length_append] at this
    show cs.length ≤ cells.size
    omega
  · have hj : j < cs.length := (List.getElem?_eq_some_iff.1 hx).1
    rw [Nat.zero_add, hcell, ← Array.getElem?_toList, hcells, List.getElem?_append_left hj]
    exact hx
  · rw [Nat.zero_add, hcell]
    have : j < cells.size := hj
    simp [this]
  · unfold World.frozen?
    simp only [hnew]
    have hf := hfz j hj
    obtain ⟨f1, f2⟩ := fz
    simp only [Nat.zero_add,Bool.and_eq_false_iff,decide_eq_false_iff_not] at hf ⊢
    omega
theorem new_block (hh : HR Z B ρ H n w) (hZ : Zone.ok Z n) {s : Sh} {v : VV} {cs : List Value} (hs : Has s v) (hc : C1 ρ w v cs) {cells : Array Value} {t : TypeId} {tail : List Value} (hcells : cells.toList = cs ++ tail) :
    ∃ l : Loc, l.block = w.heap.size ∧ l.base = 0 ∧ l.room = cells.size ∧ l.sh = s ∧ HR Z B (ρ.give n l) (upd H n (some (.row s v))) (n + 1) (w.alloc (.cells cells t)) ∧
      Ext ρ w (ρ.give n l) (w.alloc (.cells cells t)) ∧ Below B w (w.alloc (.cells cells t)) :=
  new_blockF hh hZ hs hc hcells (0, 0) (fun j _ h => by omega)
theorem box_sound (hT : TM ρ w tm a) (hh : HR Z B ρ H n w) (hG : Gives Z n K) (t : TypeId) (x : Operand) (ho : o.op = .box t x) (h : vBox P (ev tm) H n K t x) : Runs P Z B K ρ w (execOp a.eval o) := by
  unfold vBox at h
  obtain ⟨s, hs, hx, h⟩ := bnd_iff.1 h
  have hc := val_cells hx (ev_sound hT x)
  obtain ⟨l, e1, e2, e3, e4, h1, h2, h3⟩ := new_block hh (hG.one h) (t := t) (cells := (a.eval x).cells) (tail := []) hx hc (by simp)
  refine .inl ⟨.pointer (some ⟨w.heap.size, 0, none⟩), _, ?_, _, _, _, _, h, ?_, h1, h2, h3⟩
  · simp [execOp, ho, Instr.box, newVar, newRow]
  · simp only [VR,VR1,C1]
    exact ⟨l, by rw [give_ap, if_pos rfl], by rw [e1, e2]; simp [Sh.off]⟩
end
end Go.Proofs.Ytlgldkjjbbbapaa.V
end
section
/-
  A MACHINE OF VALUES, FIFTH PART: fields, places, numbers, calls.
-/
set_option linter.unusedVariables false
set_option linter.unusedSectionVars false
set_option linter.unusedSimpArgs false
namespace Go.Proofs.Ytlgldkjjbbbapaa.V
open Go Go.RowKit

theorem at_append : ∀ (p : List Nat) (s st : Sh) (q : List Nat), s.at p = some st → s.at (p ++ q) = st.at q ∧ s.off (p ++ q) = s.off p + st.off q
  | [], s, st, q, h => by
    simp only [Sh.at,Option.some.injEq] at h
    subst h
    simp [Sh.off]
  | i :: p, s, st, q, h => by
    cases s with
    | cell => simp [Sh.at] at h
    | st ls =>
      simp only [Sh.at] at h
      cases hi : ls[i]? with
      | none => simp [hi] at h
      | some s' =>
        simp only [hi] at h
        obtain ⟨h1, h2⟩ := at_append p s' st q h
        simp only [List.cons_append,Sh.at,Sh.off,hi,h1,h2]
        exact ⟨trivial, (Nat.add_assoc _ _ _).symm⟩
    | arr k s' =>
      simp only [Sh.at] at h
      obtain ⟨h1, h2⟩ := at_append p s' st q h
      simp only [List.cons_append,Sh.at,Sh.off,h1,h2]
      exact ⟨trivial, (Nat.add_assoc _ _ _).symm⟩
section
variable {P : Program} {Z : Nat → Nat → Prop} [Zone Z] {B : Nat} {ρ : Names} {w : World} {H : Heap} {n : Nat} {tm : Nat → VV} {a : Act} {K : VV → Heap → Nat → Prop} {o : Oper}
theorem part_run {t : TypeId} {k : Nat} {s : Sh} {u : VV} {cs : Array Value} {pre mid post : List Value} (ht : shOf P k t = some s) (hs : Has s u) (hc : C1 ρ w u mid) (he : cs.toList = pre ++ mid ++ post) :
    ∃ x, (part t cs pre.length).run P w = .ok x w ∧ VR ρ w u x := by
  obtain ⟨i, d, hi, hu, hsz, hrow⟩ := shOf_spec ht
  have hlen := Has.len s u mid hs hc
  rcases part_value hs hc with ⟨rfl, x, rfl, hv⟩ | ⟨hne, hv⟩
  · refine ⟨x, ?_, hv⟩
    have hd : d.isRow = false := by
      cases hd : d.isRow with
      | false => rfl
      | true => exact absurd rfl (hrow.1 hd)
    have hagg : (isAgg t).run P w = .ok false w := by
      unfold isAgg
      rw [Sem.run_bind, run_underlying hu w]
      cases d <;> simp_all
    have h0 : cs[pre.length]? = some x := by
      rw [← Array.getElem?_toList, he, List.append_assoc, List.getElem?_append_right (Nat.le_refl _)]
      simp
    simp only [part,Sem.run_bind,hagg,Result.andThen_ok,Bool.false_eq_true,if_false,h0]
    rfl
  · refine ⟨_, ?_, hv⟩
    have hagg : (isAgg t).run P w = .ok true w := by
      unfold isAgg
      rw [Sem.run_bind, run_underlying hu w]
      have := hrow.2 hne
      cases d <;> simp_all
    have hext : cs.extract pre.length (pre.length + i.size) = mid.toArray := by
      apply Array.ext'
      rw [Array.toList_extract, he, List.append_assoc, List.extract_eq_take_drop]
      simp only [List.drop_left]
      rw [show pre.length + i.size - pre.length = mid.length by omega, List.take_left]
    simp [part, Sem.run_bind, hagg, sizeOf, typeInfo, hi, hext]
theorem field_sound (hT : TM ρ w tm a) (hh : HR Z B ρ H n w) (t : TypeId) (x : Operand) (f : Nat) (ho : o.op = .field t x f) (h : vField P (ev tm) H n K t x f) : Runs P Z B K ρ w (execOp a.eval o) := by
  unfold vField onV at h
  dsimp only at h
  have hx := ev_sound hT x
  split at h
  · rename_i vs e
    rw [e] at hx
    obtain ⟨cs, hp, hcr⟩ := hx.agg
    obtain ⟨s, hs, hhas, h⟩ := bnd_iff.1 h
    split at h
    · rename_i ls
      obtain ⟨u, hu, h⟩ := bnd_iff.1 h
      obtain ⟨fs, h1, h2, h3⟩ := SH_struct hs
      obtain ⟨su, pre, mid, post, k1, k2, k3, k4, k5, _, _⟩ := focus [f] (.st ls) (.agg vs) u cs.toList hhas (by simp [VV.get, hu]) (by simp only [C1]; exact hcr)
      simp only [Sh.at] at k1
      cases hl : ls[f]? with
      | none => simp [hl] at k1
      | some sf =>
        simp only [hl,Option.some.injEq] at k1
        subst k1
        obtain ⟨g, g1, g2, g3⟩ := h3 f sf hl
        simp only [Sh.off,hl,Nat.add_zero] at k4
        obtain ⟨y, y1, y2⟩ := part_run (P := P) g3 k2 k5 k3
        refine runs_value (x := y) ?_ h y2 hh
        simp only [execOp,ho,hp,Instr.field,Sem.run_bind,run_underlying h1 w,Result.andThen_ok,g1,asAgg,Sem.run_pure]
        rw [g2, ← k4, y1]
        rfl
    · exact h.elim
  · exact h.elim
theorem fieldAddr_sound (hT : TM ρ w tm a) (hh : HR Z B ρ H n w) (t : TypeId) (x : Operand) (f : Nat) (ho : o.op = .fieldAddr t x f) (h : vFieldAddr P (ev tm) H n K t x f) : Runs P Z B K ρ w (execOp a.eval o) := by
  unfold vFieldAddr onV at h
  dsimp only at h
  have hx := ev_sound hT x
  have key : ∀ (ls : List Sh) (sf : Sh) (b g : Nat), SH P t = some (.st ls) → ls[f]? = some sf → sf.size ≠ 0 → a.eval x = .pointer (some ⟨b, g, none⟩) →
      (execOp a.eval o).run P w = .ok (.value (.pointer (some ⟨b, g + Sh.sizes (ls.take f), none⟩))) w := by
    intro ls sf b g hs hl hne hp
    obtain ⟨fs, h1, h2, h3⟩ := SH_struct hs
    obtain ⟨fd, g1, g2, g3⟩ := h3 f sf hl
    obtain ⟨i, d, hi, hu, hsz, hrow⟩ := shOf_spec g3
    have : ¬ i.size = 0 := by omega
    simp only [execOp,ho,hp,Instr.fieldAt,Sem.run_bind,run_underlying h1 w,Result.andThen_ok,g1,Instr.sureAddr,Sem.run_pure,fieldPlace,sizeOf,typeInfo]
    simp [hi, this, g2, Addr.add_mid]
  split at h
  · rename_i m p e
    rw [e] at hx
    obtain ⟨l, hl, hp⟩ := hx.ptr
    obtain ⟨blk, hb, h⟩ := bnd_iff.1 h
    split at h
    · rename_i s c
      obtain ⟨st, hst, hat, h⟩ := bnd_iff.1 h
      split at h
      · rename_i ls
        obtain ⟨sf, hsf, hne, h⟩ := bnd_iff.1 h
        have hrow := hh.row m s c l hb hl
        refine runs_value (key ls sf _ _ hst hsf hne hp) h ?_ hh
        simp only [VR,VR1,C1]
        refine ⟨l, hl, ?_⟩
        rw [hrow.sh, (at_append p s (.st ls) [f] hat).2]
        simp [Sh.off, hsf, Nat.add_assoc]
      · exact h.elim
    · exact h.elim
  · rename_i s vs e
    rw [e] at hx
    obtain ⟨b, g, ecs, hp, g1, g2, g3, g4, g5⟩ := hx.pd
    replace h := bnd_iff.1 h
    obtain ⟨st, hst, hat, h⟩ := h
    cases st with
    | st ls =>
      subst hat
      replace h := bnd_iff.1 h
      obtain ⟨sf, hsf, hne, h⟩ := h
      replace h := bnd_iff.1 h
      obtain ⟨u, hu, h⟩ := h
      refine runs_value (key ls sf _ _ hst hsf hne hp) h ?_ hh
      obtain ⟨su, pre, mid, post, k1, k2, rfl, k4, k5, _, _⟩ := focus [f] (.st ls) (.agg vs) u ecs g2 (by simp [VV.get, hu]) g1
      simp only [Sh.at,hsf,Option.some.injEq] at k1
      subst k1
      simp only [Sh.off,hsf,Nat.add_zero] at k4
      simp only [VR,VR1,C1]
      exact ⟨b, _, mid, rfl, k5, k2, by rw [← k4]; exact range_part g3, g4, g5⟩
    | cell => exact h.elim
    | arr _ _ => exact h.elim
  · exact h.elim
theorem VR.sl {m i k : Nat} {p : List Nat} {x : Value} (h : VR ρ w (.sl (some (m, p, i)) k) x) : (k = 0 ∧ ∃ A, x = .slice A 0 0) ∨ ∃ l c e j, ρ m = some l ∧ x = .slice (some ⟨l.block, l.base + l.sh.off (p ++ [i]), none⟩) k c ∧ k ≤ c ∧
      l.sh.at p = some (.arr j e) ∧ l.sh.off (p ++ [i]) + c * e.size ≤ l.room := by
  simp only [VR,VR1,C1] at h
  rcases h with ⟨h2, A, h3⟩ | ⟨l, c, e, j, h1, h2, h3⟩
  · exact .inl ⟨h2, A, by simpa using h3⟩
  · exact .inr ⟨l, c, e, j, h1, by simpa using h2, h3⟩
theorem VR.dat {s : Sh} {els : List VV} {x : Value} (h : VR ρ w (.dat s els) x) : ∃ A c, x = .slice A els.length c ∧ els.length ≤ c ∧ (els ≠ [] → ∃ b o ecs, A = some ⟨b, o, none⟩ ∧ CR ρ w els ecs ∧ (∀ e ∈ els, Has s e) ∧
      w.rangeAt b o ecs ∧ Unnamed ρ b ∧ b < w.heap.size) := by
  simp only [VR,VR1,C1] at h
  obtain ⟨A, c, h1, h2⟩ := h
  exact ⟨A, c, by simpa using h1, h2⟩
theorem arr_part {s : Sh} {els : List VV} {ecs : List Value} {k : Nat} {u : VV} (h : CR ρ w els ecs) (hs : ∀ e ∈ els, Has s e) (hu : els[k]? = some u) :
    ∃ pre mid post, ecs = pre ++ mid ++ post ∧ pre.length = k * s.size ∧ C1 ρ w u mid ∧ Has s u := by
  obtain ⟨su, pre, mid, post, k1, k2, k3, k4, k5, _, _⟩ := focus [k] (.arr els.length s) (.agg els) u ecs (by simp only [Has,true_and]; exact hs) (by simp [VV.get, hu]) (by simp only [C1]; exact h)
  simp only [Sh.at,Option.some.injEq] at k1
  subst k1
  exact ⟨pre, mid, post, k3, by simpa [Sh.off] using k4, k5, k2⟩
theorem indexAddr_sound (hT : TM ρ w tm a) (hh : HR Z B ρ H n w) (t : TypeId) (x i : Operand) (ho : o.op = .indexAddr t x i) (h : vIndexAddr P (ev tm) H n K t x i) : Runs P Z B K ρ w (execOp a.eval o) := by
  unfold vIndexAddr onV at h
  dsimp only at h
  have hx := ev_sound hT x
  have hi := ev_sound hT i
  have keyS : ∀ (et : TypeId) (se : Sh) (b g len c : Nat) (kk : IntKind) (k : Int), EL P t = some et → SH P et = some se → a.eval x = .slice (some ⟨b, g, none⟩) len c → a.eval i = .int kk k → 0 ≤ k ∧ k < len →
      (execOp a.eval o).run P w = .ok (.value (.pointer (some ⟨b, g + k.toNat * se.size, none⟩))) w := by
    intro et se b g len c kk k h1 h2 h3 h4 h5
    obtain ⟨inf, d, hinf, hu, hsz, hrow⟩ := shOf_spec h2
    have hul := EL_spec h1
    simp only [execOp,ho,h3,h4,Instr.indexAt,Sem.run_bind,run_underlying hul w,Result.andThen_ok,asIntOf,Sem.run_pure]
    simp [h5, sizeOf, typeInfo, hinf, hsz, Addr.add_mid]
  have keyA : ∀ (len : Nat) (se : Sh) (b g : Nat) (kk : IntKind) (k : Int), SH P t = some (.arr len se) → a.eval x = .pointer (some ⟨b, g, none⟩) → a.eval i = .int kk k → 0 ≤ k ∧ k < len →
      (execOp a.eval o).run P w = .ok (.value (.pointer (some ⟨b, g + k.toNat * se.size, none⟩))) w := by
    intro len se b g kk k h1 h3 h4 h5
    obtain ⟨e, hul, hse⟩ := SH_array h1
    obtain ⟨inf, d, hinf, hu, hsz, hrow⟩ := shOf_spec hse
    simp only [execOp,ho,h3,h4,Instr.indexAt,Sem.run_bind,run_underlying hul w,Result.andThen_ok,asIntOf,Sem.run_pure,Instr.sureAddr]
    simp [h5, sizeOf, typeInfo, hinf, hsz, Addr.add_mid]
  split at h
  · rename_i m p i0 len kk k e1 e2
    rw [e1] at hx
    rw [e2] at hi
    have hi := hi.int
    obtain ⟨blk, hb, h⟩ := bnd_iff.1 h
    split at h
    · rename_i s c
      obtain ⟨et, het, h⟩ := bnd_iff.1 h
      obtain ⟨se, hse, h⟩ := bnd_iff.1 h
      obtain ⟨sa, hsa, h⟩ := bnd_iff.1 h
      split at h
      · rename_i j s'
        obtain ⟨rfl, hk, h⟩ := h
        rcases hx.sl with ⟨h0, _⟩ | ⟨l, cap, e, j', hl, hp, hcap, hate, hroom⟩
        · omega
        · have hrow := hh.row m s c l hb hl
          refine runs_value (keyS et s' _ _ len cap kk k het hse hp hi hk) h ?_ hh
          simp only [VR,VR1,C1]
          refine ⟨l, hl, ?_⟩
          rw [hrow.sh, (at_append p s (.arr j s') [i0 + k.toNat] hsa).2, (at_append p s (.arr j s') [i0] hsa).2]
          simp only [Sh.off,Nat.add_zero,Nat.add_mul]
          rw [Nat.add_assoc, Nat.add_assoc]
      · exact h.elim
    · exact h.elim
  · rename_i s els kk k e1 e2
    rw [e1] at hx
    rw [e2] at hi
    have hi := hi.int
    obtain ⟨et, het, h⟩ := bnd_iff.1 h
    obtain ⟨se, hse, h⟩ := bnd_iff.1 h
    obtain ⟨rfl, hk, h⟩ := h
    obtain ⟨u, hu, h⟩ := bnd_iff.1 h
    obtain ⟨A, c, hp, hc, hne⟩ := hx.dat
    obtain ⟨b, g, ecs, rfl, g1, g2, g3, g4, g5⟩ := hne (by intro e; rw [e] at hu; simp at hu)
    refine runs_value (keyS et s _ _ _ c kk k het hse hp hi hk) h ?_ hh
    obtain ⟨pre, mid, post, rfl, k4, k5, k2⟩ := arr_part g1 g2 hu
    simp only [VR,VR1,C1]
    exact ⟨b, _, mid, rfl, k5, k2, by rw [← k4]; exact range_part g3, g4, g5⟩
  · rename_i m p kk k e1 e2
    rw [e1] at hx
    rw [e2] at hi
    have hi := hi.int
    obtain ⟨l, hl, hp⟩ := hx.ptr
    obtain ⟨blk, hb, h⟩ := bnd_iff.1 h
    split at h
    · rename_i s c
      obtain ⟨st, hst, hat, h⟩ := bnd_iff.1 h
      split at h
      · rename_i len s'
        obtain ⟨hk, h⟩ := h
        have hrow := hh.row m s c l hb hl
        refine runs_value (keyA len s' _ _ kk k hst hp hi hk) h ?_ hh
        simp only [VR,VR1,C1]
        refine ⟨l, hl, ?_⟩
        rw [hrow.sh, (at_append p s (.arr len s') [k.toNat] hat).2]
        simp only [Sh.off,Nat.add_zero,Nat.add_assoc]
      · exact h.elim
    · exact h.elim
  · rename_i s vs kk k e1 e2
    rw [e1] at hx
    rw [e2] at hi
    have hi := hi.int
    obtain ⟨b, g, ecs, hp, g1, g2, g3, g4, g5⟩ := hx.pd
    replace h := bnd_iff.1 h
    obtain ⟨st, hst, hat, h⟩ := h
    cases st with
    | arr len s' =>
      subst hat
      obtain ⟨hk, h⟩ := h
      replace h := bnd_iff.1 h
      obtain ⟨u, hu, h⟩ := h
      refine runs_value (keyA len s' _ _ kk k hst hp hi hk) h ?_ hh
      simp only [Has] at g2
      simp only [C1] at g1
      obtain ⟨pre, mid, post, rfl, k4, k5, k2⟩ := arr_part g1 g2.2 hu
      simp only [VR,VR1,C1]
      exact ⟨b, _, mid, rfl, k5, k2, by rw [← k4]; exact range_part g3, g4, g5⟩
    | cell => exact h.elim
    | st _ => exact h.elim
  · exact h.elim
end
end Go.Proofs.Ytlgldkjjbbbapaa.V
end
section
/-
  A MACHINE OF VALUES, SIXTH PART: numbers, strings, calls.
-/
set_option linter.unusedVariables false
set_option linter.unusedSectionVars false
set_option linter.unusedSimpArgs false
namespace Go.Proofs.Ytlgldkjjbbbapaa.V
open Go Go.RowKit

section
variable {P : Program} {Z : Nat → Nat → Prop} [Zone Z] {B : Nat} {ρ : Names} {w : World} {H : Heap} {n : Nat} {tm : Nat → VV} {a : Act} {K : VV → Heap → Nat → Prop} {o : Oper}
theorem move_sound (hT : TM ρ w tm a) (hh : HR Z B ρ H n w) (x : Operand) (ho : o.op = .move x ∨ o.op = .assign x) (h : K (ev tm x) H n) : Runs P Z B K ρ w (execOp a.eval o) := by
  refine runs_value (x := a.eval x) ?_ h (ev_sound hT x) hh
  rcases ho with ho | ho <;> simp [execOp, ho]
theorem nilCheck_sound (hT : TM ρ w tm a) (hh : HR Z B ρ H n w) (x : Operand) (ho : o.op = .nilCheck x) (h : vNilCheck (ev tm) H n K x) : Runs P Z B K ρ w (execOp a.eval o) := by
  unfold vNilCheck onV at h
  dsimp only at h
  have hx := ev_sound hT x
  split at h
  · rename_i m p e
    rw [e] at hx
    obtain ⟨l, hl, hp⟩ := hx.ptr
    refine runs_value (x := a.eval x) ?_ h hx hh
    simp [execOp, ho, hp]
  · rename_i s u e
    rw [e] at hx
    obtain ⟨b, g, ecs, hp, _⟩ := hx.pd
    refine runs_value (x := a.eval x) ?_ h hx hh
    simp [execOp, ho, hp]
  · rename_i f cs e
    rw [e] at hx
    obtain ⟨xs, hp, _⟩ := hx.fn
    refine runs_value (x := a.eval x) ?_ h hx hh
    simp [execOp, ho, hp]
  · exact h.elim
theorem un_sound (hT : TM ρ w tm a) (hh : HR Z B ρ H n w) (op : UnOp) (t : TypeId) (x : Operand) (ho : o.op = .unOp op t x) (h : vUn (ev tm) H n K op x) : Runs P Z B K ρ w (execOp a.eval o) := by
  unfold vUn onV at h
  dsimp only at h
  have hx := ev_sound hT x
  split at h
  · rename_i b e
    rw [e] at hx
    refine runs_value (x := .bool (!b)) ?_ h (by simp [VR, VR1, C1]) hh
    simp [execOp, ho, hx.bool, Op.unary]
  · rename_i k i e
    rw [e] at hx
    refine runs_value (x := .int k (k.wrap (0 - i))) ?_ h (by simp [VR, VR1, C1]) hh
    simp [execOp, ho, hx.int, Op.unary, Op.intArith]
  · exact h.elim
theorem VRs.nth : ∀ (vs : List VV) (xs : List Value) (i : Nat) (u : VV), VRs ρ w vs xs → vs[i]? = some u → ∃ x, xs[i]? = some x ∧ VR1 ρ w u x
  | [], _, _, _, _, hu => by simp at hu
  | v :: vs, xs, 0, u, h, hu => by
    obtain ⟨x, ys, rfl, h1, h2⟩ := h
    simp at hu
    subst hu
    exact ⟨x, by simp, h1⟩
  | v :: vs, xs, i + 1, u, h, hu => by
    obtain ⟨x, ys, rfl, h1, h2⟩ := h
    simp at hu
    obtain ⟨y, g1, g2⟩ := VRs.nth vs ys i u h2 hu
    exact ⟨y, by simpa using g1, g2⟩
theorem extract_sound (hT : TM ρ w tm a) (hh : HR Z B ρ H n w) (x : Operand) (i : Nat) (ho : o.op = .extract x i) (h : vExtract (ev tm) H n K x i) : Runs P Z B K ρ w (execOp a.eval o) := by
  unfold vExtract onV at h
  dsimp only at h
  have hx := ev_sound hT x
  split at h
  · rename_i vs e
    rw [e] at hx
    obtain ⟨xs, hp, hr⟩ := hx.tup
    replace h := bnd_iff.1 h
    obtain ⟨u, hu, h⟩ := h
    obtain ⟨y, h1, h2⟩ := VRs.nth vs xs.toList i u hr hu
    refine runs_value (x := y) ?_ h (VR.of1 h2) hh
    rw [Array.getElem?_toList] at h1
    simp [execOp, ho, hp, Instr.extract, h1]
  · exact h.elim
theorem index_sound (hT : TM ρ w tm a) (hh : HR Z B ρ H n w) (t : TypeId) (x i : Operand) (ho : o.op = .index t x i) (h : vIndex P (ev tm) H n K t x i) : Runs P Z B K ρ w (execOp a.eval o) := by
  unfold vIndex onV at h
  dsimp only at h
  have hx := ev_sound hT x
  have hi := ev_sound hT i
  split at h
  · rename_i s kk k e1 e2
    rw [e1] at hx
    rw [e2] at hi
    replace h := bnd_iff.1 h
    obtain ⟨u, hu, h⟩ := h
    cases u <;> first | exact h.elim | skip
    obtain ⟨⟨h1, h2⟩, h⟩ := h
    have hk : k.toNat < s.length := by omega
    have hget : (ByteArray.mk s.toArray)[k.toNat]? = some (s.getD k.toNat 0) := by
      show (if h : k.toNat < s.toArray.size then some (ByteArray.get _ _) else none) = _
      rw [dif_pos (by simpa using hk)]
      simp [ByteArray.get, List.getD_eq_getElem?_getD, hk]
    refine runs_value (x := .int .u8 (((s.getD k.toNat 0).toNat : Nat) : Int)) ?_ h (by simp [VR, VR1, C1]) hh
    simp only [execOp,ho,hx.str,hi.int,Instr.index,Sem.run_bind,run_underlying hu w,Result.andThen_ok,asIntOf,Sem.run_pure]
    rw [if_pos h1, hget]
    rfl
  · rename_i vs kk k e1 e2
    rw [e1] at hx
    rw [e2] at hi
    obtain ⟨cs, hp, hcr⟩ := hx.agg
    obtain ⟨s, hs, hhas, h⟩ := bnd_iff.1 h
    split at h
    · rename_i len s'
      obtain ⟨hk, h⟩ := h
      obtain ⟨u, hu, h⟩ := bnd_iff.1 h
      obtain ⟨et, h1, h3⟩ := SH_array hs
      obtain ⟨inf, d, hinf, hud, hsz, hrow⟩ := shOf_spec h3
      obtain ⟨su, pre, mid, post, k1, k2, k3, k4, k5, _, _⟩ := focus [k.toNat] (.arr len s') (.agg vs) u cs.toList hhas (by simp [VV.get, hu]) (by simp only [C1]; exact hcr)
      simp only [Sh.at,Option.some.injEq] at k1
      subst k1
      simp only [Sh.off,Nat.add_zero] at k4
      obtain ⟨y, y1, y2⟩ := part_run (P := P) h3 k2 k5 k3
      refine runs_value (x := y) ?_ h y2 hh
      have hs2 : (sizeOf et).run P w = .ok s'.size w := by simp [sizeOf, typeInfo, Sem.run_bind, hinf, hsz]
      simp only [execOp,ho,hp,hi.int,Instr.index,Sem.run_bind,run_underlying h1 w,Result.andThen_ok,asIntOf,Sem.run_pure]
      rw [if_pos hk, Sem.run_bind, hs2]
      simp only [Result.andThen_ok]
      rw [← k4, y1]
      rfl
    · exact h.elim
  · exact h.elim
theorem len_sound (hT : TM ρ w tm a) (hh : HR Z B ρ H n w) (x : Operand) (ts : Array TypeId) (ho : o.op = .call { callee := .builtin .len, args := #[x], argTypes := ts }) (h : vLen P (ev tm) H n K ts x) : Runs P Z B K ρ w (execOp a.eval o) := by
  unfold vLen onV at h
  dsimp only at h
  have hx := ev_sound hT x
  replace h := bnd_iff.1 h
  obtain ⟨t, ht, h⟩ := h
  replace h := bnd_iff.1 h
  obtain ⟨d, hu, h⟩ := h
  have hrun : ∀ (v : Value) (k : Int), (∀ w : World, (Builtin.len_ ts o.type #[v]).run P w = .ok (.int .i64 k) w) → a.eval x = v → (execOp a.eval o).run P w = .ok (.value (.int .i64 k)) w := by
    intro v k hr hv
    simp [execOp, ho, resolve, invoke, builtin, hv, hr w]
  generalize he : ev tm x = v at h hx
  split at h
  · rename_i s
    refine runs_value (hrun _ s.length (fun w => ?_) hx.str) h (by simp [VR, VR1, C1]) hh
    simp [Builtin.len_, run_underlying hu w, goInt, ht]
    rfl
  · rename_i p k
    refine runs_value (hrun (a.eval x) k (fun w => ?_) rfl) h (by simp [VR, VR1, C1]) hh
    cases p with
    | none =>
      simp only [VR,VR1,C1] at hx
      obtain ⟨rfl, hx⟩ := hx
      simp at hx
      simp [Builtin.len_, run_underlying hu w, goInt, ht, hx]
    | some q =>
      obtain ⟨m, p, i⟩ := q
      rcases hx.sl with ⟨rfl, A, hp⟩ | ⟨l, c, e', j, hl, hp, _⟩
      · simp [Builtin.len_, run_underlying hu w, goInt, ht, hp]
      · simp [Builtin.len_, run_underlying hu w, goInt, ht, hp]
  · rename_i s els
    obtain ⟨A, c, hp, _⟩ := hx.dat
    refine runs_value (hrun _ els.length (fun w => ?_) hp) h (by simp [VR, VR1, C1]) hh
    simp [Builtin.len_, run_underlying hu w, goInt, ht]
  · exact h.elim
theorem convert_sound (hT : TM ρ w tm a) (hh : HR Z B ρ H n w) (s d : TypeId) (x : Operand) (ho : o.op = .convert s d x) (h : vConvert P (ev tm) H n K s d x) : Runs P Z B K ρ w (execOp a.eval o) := by
  unfold vConvert onV at h
  dsimp only at h
  have hx := ev_sound hT x
  split at h
  · rename_i kk i e
    rw [e] at hx
    replace h := bnd_iff.1 h
    obtain ⟨su, hsu, h⟩ := h
    replace h := bnd_iff.1 h
    obtain ⟨du, hdu, h⟩ := h
    cases du <;> first | exact h.elim | skip
    rename_i k
    refine runs_value (x := .int k (k.wrap i)) ?_ h (by simp [VR, VR1, C1]) hh
    simp [execOp, ho, hx.int, convert, run_underlying hsu w, run_underlying hdu w, Conv.intToInt]
  · exact h.elim
theorem VR_int {k : IntKind} {i : Int} : VR ρ w (.int k i) (.int k i) := by simp [VR, VR1, C1]
theorem VR_bool {b : Bool} : VR ρ w (.bool b) (.bool b) := by simp [VR, VR1, C1]
theorem VR_str {s : List UInt8} : VR ρ w (.str s) (.string ⟨s.toArray⟩) := by simp [VR, VR1, C1]
theorem bin_sound (hT : TM ρ w tm a) (hh : HR Z B ρ H n w) (op : BinOp) (t t' : TypeId) (x y : Operand) (ho : o.op = .binOp op t x y t') (h : vBin (ev tm) H n K op x y) : Runs P Z B K ρ w (execOp a.eval o) := by
  unfold vBin onV at h
  dsimp only at h
  have hx := ev_sound hT x
  have hy := ev_sound hT y
  unfold vbin at h
  split at h
  · rename_i k i k' j e1 e2
    rw [e1] at hx
    rw [e2] at hy
    have hx := hx.int
    have hy := hy.int
    cases op <;> dsimp only at h
    case shl => exact runs_value (by simp [execOp, ho, hx, hy, eqGuard, binOp, Op.shift, show ¬ j < 0 by have := h.1; omega]) h.2 VR_int hh
    case shr => exact runs_value (by simp [execOp, ho, hx, hy, eqGuard, binOp, Op.shift, show ¬ j < 0 by have := h.1; omega]) h.2 VR_int hh
    case quo => obtain ⟨⟨rfl, hne⟩, h⟩ := h; exact runs_value (by simp [execOp, ho, hx, hy, eqGuard, binOp, Op.intDiv, hne]) h VR_int hh
    case rem => obtain ⟨⟨rfl, hne⟩, h⟩ := h; exact runs_value (by simp [execOp, ho, hx, hy, eqGuard, binOp, Op.intDiv, hne]) h VR_int hh
    case add => obtain ⟨rfl, h⟩ := h; exact runs_value (by simp [execOp, ho, hx, hy, eqGuard, binOp, Op.intArith]) h VR_int hh
    case sub => obtain ⟨rfl, h⟩ := h; exact runs_value (by simp [execOp, ho, hx, hy, eqGuard, binOp, Op.intArith]) h VR_int hh
    case mul => obtain ⟨rfl, h⟩ := h; exact runs_value (by simp [execOp, ho, hx, hy, eqGuard, binOp, Op.intArith]) h VR_int hh
    case and => obtain ⟨rfl, h⟩ := h; exact runs_value (by simp [execOp, ho, hx, hy, eqGuard, binOp, Op.intBits, bits]) h VR_int hh
    case or => obtain ⟨rfl, h⟩ := h; exact runs_value (by simp [execOp, ho, hx, hy, eqGuard, binOp, Op.intBits, bits]) h VR_int hh
    case xor => obtain ⟨rfl, h⟩ := h; exact runs_value (by simp [execOp, ho, hx, hy, eqGuard, binOp, Op.intBits, bits]) h VR_int hh
    case andNot => obtain ⟨rfl, h⟩ := h; exact runs_value (by simp [execOp, ho, hx, hy, eqGuard, binOp, Op.intBits, bits]) h VR_int hh
    all_goals (obtain ⟨rfl, h⟩ := h; exact runs_value (by simp [execOp, ho, hx, hy, eqGuard, binOp, Op.intCmp]) h VR_bool hh)
  · rename_i s s' e1 e2
    rw [e1] at hx
    rw [e2] at hy
    have hx := hx.str
    have hy := hy.str
    have hl : ∀ s : List UInt8, (ByteArray.mk s.toArray).toList = s := fun s => by simp
    split at h
    · obtain ⟨hl, h⟩ := h
      refine runs_value (x := .string ⟨(s ++ s').toArray⟩) ?_ h VR_str hh
      have hz : ¬ (9223372036854775807 : Int) < (s.length : Int) + (s'.length : Int) := by omega
      simp only [execOp,ho,hx,hy,eqGuard,binOp,Op.stringOp]
      have e3 : (ByteArray.mk s.toArray).size = s.length := by show s.toArray.size = _; simp
      have e4 : (ByteArray.mk s'.toArray).size = s'.length := by show s'.toArray.size = _; simp
      have e5 : ByteArray.mk s.toArray ++ ByteArray.mk s'.toArray = ByteArray.mk (s ++ s').toArray := by
        apply ByteArray.ext
        simp
      have e6 : ¬ (((s.length + s'.length : Nat) : Int) > IntKind.i64.max) := by
        have : IntKind.i64.max = 9223372036854775807 := by decide
        omega
      rw [e3, e4, if_neg e6, e5]
      simp
    · refine runs_value (x := .bool (s == s')) ?_ h VR_bool hh
      simp [execOp, ho, hx, hy, eqGuard, binOp, Op.stringOp, hl]
    · refine runs_value (x := .bool (s != s')) ?_ h VR_bool hh
      simp [execOp, ho, hx, hy, eqGuard, binOp, Op.stringOp, hl, bne]
    · exact h.elim
  · exact h.elim
theorem VRA_append : ∀ (vs us : List VV) (xs ys : List Value), VRA ρ w vs xs → VRA ρ w us ys → VRA ρ w (vs ++ us) (xs ++ ys)
  | [], us, xs, ys, h, h' => by obtain rfl : xs = [] := h; exact h'
  | v :: vs, us, xs, ys, h, h' => by
    obtain ⟨x, zs, rfl, h1, h2⟩ := h
    exact ⟨x, zs ++ ys, rfl, h1, VRA_append vs us zs ys h2 h'⟩
theorem VRA_caps : ∀ (vs : List VV) (xs : List Value), CV ρ w vs xs → VRA ρ w vs xs
  | [], xs, h => by simp only [CV] at h; exact h
  | v :: vs, xs, h => by
    simp only [CV] at h
    obtain ⟨x, c2, rfl, h1, h2, h3⟩ := h
    exact ⟨x, c2, rfl, VR.of_leaf h1 h2, VRA_caps vs c2 h3⟩
theorem VRA_map (hT : TM ρ w tm a) : ∀ (xs : List Operand), VRA ρ w (xs.map (ev tm)) (xs.map a.eval)
  | [] => rfl
  | x :: xs => ⟨a.eval x, _, rfl, ev_sound hT x, VRA_map hT xs⟩
theorem call_sound (hT : TM ρ w tm a) (hh : HR ZT B ρ H n w) (f : Operand) (xs : Array Operand) (ts : Array TypeId) (ho : o.op = .call { callee := .value f, args := xs, argTypes := ts }) (h : vCall P (ev tm) H n K f xs.toList) : Runs P ZT B K ρ w (execOp a.eval o) := by
  unfold vCall onV at h
  dsimp only at h
  have hf := ev_sound hT f
  split at h
  · rename_i g caps e
    rw [e] at hf
    obtain ⟨cs, hp, hcv⟩ := hf.fn
    obtain ⟨hc, h⟩ := h
    refine .inr (.inr ⟨g, (xs.map a.eval) ++ cs, ?_, ?_⟩)
    · unfold callable at hc
      split at hc
      · rename_i fn hfn
        simp only [Bool.and_eq_true,bne_iff_ne,ne_eq] at hc
        obtain ⟨b, hb⟩ := Option.isSome_iff_exists.1 hc.2
        simp [execOp, ho, resolve, hp, Deferred.ofValue, invoke, callFunc, hfn, hc.1, hb]
      · cases hc
    · have := h B ρ w ((xs.map a.eval).toList ++ cs.toList) hh (VRA_append _ _ _ _ (by have := VRA_map hT xs.toList; simpa using this) (VRA_caps _ _ hcv))
      have e : ((xs.map a.eval).toList ++ cs.toList).toArray = xs.map a.eval ++ cs := by
        apply Array.ext'
        simp
      rw [e] at this
      exact this
  · exact h.elim
theorem CV_map (hT : TM ρ w tm a) : ∀ (xs : List Operand), (∀ c ∈ xs, (ev tm c).leaf = true) → CV ρ w (xs.map (ev tm)) (xs.map a.eval)
  | [], _ => by simp only [CV,List.map_nil]
  | x :: xs, h => by
    simp only [CV,List.map_cons]
    exact ⟨_, _, rfl, h x (by simp), VR.leaf_cells (h x (by simp)) (ev_sound hT x), CV_map hT xs fun c hc => h c (by simp [hc])⟩
theorem makeFunc_sound (hT : TM ρ w tm a) (hh : HR Z B ρ H n w) (f : FuncId) (first caps : Array Operand) (ho : o.op = .makeFunc (.func f) first caps) (h : vMakeFunc (ev tm) H n K f first caps.toList) : Runs P Z B K ρ w (execOp a.eval o) := by
  obtain ⟨⟨rfl, h1⟩, h⟩ := h
  refine runs_value (x := .func (.func f) #[] (caps.map a.eval)) ?_ h ?_ hh
  · simp [execOp, ho, Instr.makeFunc]
  · simp only [VR,VR1,C1]
    exact ⟨_, rfl, by have := CV_map hT caps.toList h1; simpa using this⟩
end
end Go.Proofs.Ytlgldkjjbbbapaa.V
end
section
/-
  A MACHINE OF VALUES, SEVENTH PART: zero values, new variables, literals, new slices.
-/
set_option linter.unusedVariables false
set_option linter.unusedSectionVars false
set_option linter.unusedSimpArgs false
namespace Go.Proofs.Ytlgldkjjbbbapaa.V
open Go Go.RowKit

/-! ### zero values -/
mutual
/-- the cells of a value without addresses -/
def flatz : VV → Option (List Value)
  | .int k n => some [.int k n]
  | .bool b => some [.bool b]
  | .str s => some [.string ⟨s.toArray⟩]
  | .sl none 0 => some [.slice none 0 0]
  | .raw v => if v.oneCell' then some [v] else none
  | .agg vs => flatzs vs
  | _ => none
def flatzs : List VV → Option (List Value)
  | [] => some []
  | v :: vs => match flatz v, flatzs vs with
    | some a, some b => some (a ++ b)
    | _, _ => none
end
mutual
theorem flatz_sound (ρ : Names) (w : World) : ∀ (v : VV) (cs : List Value), flatz v = some cs → C1 ρ w v cs
  | .int k n, cs, h => by simp only [flatz,Option.some.injEq] at h; simp only [C1]; exact h.symm
  | .bool b, cs, h => by simp only [flatz,Option.some.injEq] at h; simp only [C1]; exact h.symm
  | .str s, cs, h => by simp only [flatz,Option.some.injEq] at h; simp only [C1]; exact h.symm
  | .sl none 0, cs, h => by simp only [flatz,Option.some.injEq] at h; simp only [C1,true_and]; exact h.symm
  | .raw v, cs, h => by
    simp only [flatz] at h
    split at h
    · injection h with h; simp only [C1]; exact h.symm
    · cases h
  | .agg vs, cs, h => by simp only [flatz] at h; simp only [C1]; exact flatzs_sound ρ w vs cs h
  | .sl (some _) _, _, h => by simp [flatz] at h
  | .sl none (_ + 1), _, h => by simp [flatz] at h
  | .tup _, _, h | .ptr _ _, _, h | .fn _ _, _, h | .map _, _, h | .dat _ _, _, h | .pd _ _, _, h | .vec _ _, _, h | .any, _, h => by simp [flatz] at h
theorem flatzs_sound (ρ : Names) (w : World) : ∀ (vs : List VV) (cs : List Value), flatzs vs = some cs → CR ρ w vs cs
  | [], cs, h => by simp only [flatzs,Option.some.injEq] at h; simp only [CR]; exact h.symm
  | v :: vs, cs, h => by
    simp only [flatzs] at h
    split at h
    · rename_i a b ha hb
      injection h with h
      simp only [CR]
      exact ⟨a, b, h.symm, flatz_sound ρ w v a ha, flatzs_sound ρ w vs b hb⟩
    · cases h
end
mutual
def hasB : Sh → VV → Bool
  | .cell, v => v.leaf
  | .st ls, .agg vs => hasLB ls vs
  | .arr n s, .agg vs => vs.length == n && vs.all (hasB s)
  | _, _ => false
def hasLB : List Sh → List VV → Bool
  | [], vs => vs.isEmpty
  | s :: ls, v :: vs => hasB s v && hasLB ls vs
  | _ :: _, [] => false
end
mutual
theorem hasB_sound : ∀ (s : Sh) (v : VV), hasB s v = true → Has s v
  | .cell, v, h => by simp only [hasB] at h; simp only [Has]; exact h
  | .st ls, v, h => by
    cases v <;> simp only [hasB] at h <;> first | exact (Bool.false_ne_true h).elim | skip
    simp only [Has]
    exact hasLB_sound ls _ h
  | .arr n s, v, h => by
    cases v <;> simp only [hasB] at h <;> first | exact (Bool.false_ne_true h).elim | skip
    simp only [Bool.and_eq_true,beq_iff_eq,List.all_eq_true] at h
    simp only [Has]
    exact ⟨h.1, fun v hv => hasB_sound s v (h.2 v hv)⟩
theorem hasLB_sound : ∀ (ls : List Sh) (vs : List VV), hasLB ls vs = true → HasL ls vs
  | [], vs, h => by simp only [hasLB,List.isEmpty_iff] at h; simp only [HasL]; exact h
  | s :: ls, v :: vs, h => by
    simp only [hasLB,Bool.and_eq_true] at h
    simp only [HasL]
    exact ⟨hasB_sound s v h.1, hasLB_sound ls vs h.2⟩
  | _ :: _, [], h => by simp [hasLB] at h
end
def beqCell : Value → Value → Bool
  | .int k a, .int k' b => k == k' && a == b
  | .bool a, .bool b => a == b
  | .string a, .string b => a.data.toList == b.data.toList
  | .slice none 0 0, .slice none 0 0 => true
  | .pointer none, .pointer none => true
  | .map none, .map none => true
  | .nilFunc, .nilFunc => true
  | .nilIface, .nilIface => true
  | _, _ => false
theorem beqCell_sound {a b : Value} (h : beqCell a b = true) : a = b := by
  unfold beqCell at h
  split at h <;> try rfl
  · simp only [Bool.and_eq_true,beq_iff_eq] at h; rw [h.1, h.2]
  · simp only [beq_iff_eq] at h; rw [h]
  · rename_i x y
    simp only [beq_iff_eq] at h
    obtain ⟨x⟩ := x
    obtain ⟨y⟩ := y
    have : x = y := Array.ext' h
    rw [this]
  · cases h
def beqCells : List Value → List Value → Bool
  | [], [] => true
  | a :: l, b :: m => beqCell a b && beqCells l m
  | _, _ => false
theorem beqCells_sound : ∀ (a b : List Value), beqCells a b = true → a = b
  | [], [], _ => rfl
  | a :: l, b :: m, h => by
    simp only [beqCells,Bool.and_eq_true] at h
    rw [beqCell_sound h.1, beqCells_sound l m h.2]
  | [], _ :: _, h => by simp [beqCells] at h
  | _ :: _, [], h => by simp [beqCells] at h
/-- the zero value of a type, as its table would have it -/
def zeroOf (P : Program) : Nat → TypeId → Option VV
  | 0, _ => none
  | n + 1, t => match P.underlying t with
    | some (.int k) => some (.int k 0)
    | some .bool => some (.bool false)
    | some .string => some (.str [])
    | some (.slice _) => some (.sl none 0)
    | some (.pointer _) => some (.raw (.pointer none))
    | some (.map _ _) => some (.raw (.map none))
    | some (.func _ _ _) => some (.raw .nilFunc)
    | some (.interface _) => some (.raw .nilIface)
    | some (.struct fs) => match fs.toList.foldr (fun f acc => match acc, zeroOf P n f.type with
          | some l, some s => some (s :: l)
          | _, _ => none) (some []) with
      | some l => some (.agg l)
      | none => none
    | some (.array k e) => match zeroOf P n e with
      | some z => some (.agg (List.replicate k z))
      | none => none
    | _ => none
def isAggV : Value → Bool
  | .agg _ => true
  | _ => false
def VV.isAgg : VV → Bool
  | .agg _ => true
  | _ => false
def ZE (P : Program) (t : TypeId) : Option VV := match SH P t, zeroOf P 10 t, (P.info? t).bind (·.zero) with
  | some s, some z, some zv => match flatz z with
    | some cs => if hasB s z && beqCells cs zv.cells.toList && (z.isAgg == isAggV zv) && (zv.cells.size == s.size) then some z else none
    | none => none
  | _, _, _ => none
theorem ZE_spec {P : Program} {t : TypeId} {z : VV} (h : ZE P t = some z) :
    ∃ s zv i, SH P t = some s ∧ P.info? t = some i ∧ i.zero = some zv ∧ Has s z ∧ zv.cells.size = s.size ∧ ∀ ρ w, VR ρ w z zv ∧ C1 ρ w z zv.cells.toList := by
  unfold ZE at h
  split at h
  · rename_i s z' zv hs hz hi
    split at h
    · rename_i cs hf
      split at h
      · rename_i hc
        injection h with h
        subst h
        simp only [Bool.and_eq_true,beq_iff_eq] at hc
        obtain ⟨⟨⟨h1, h2⟩, h3⟩, h4⟩ := hc
        obtain ⟨i, hi1, hi2⟩ := Option.bind_eq_some_iff.1 hi
        have he := beqCells_sound _ _ h2
        have hH := hasB_sound s z' h1
        refine ⟨s, zv, i, hs, hi1, hi2, hH, h4, fun ρ w => ?_⟩
        have hC := flatz_sound ρ w z' cs hf
        rw [he] at hC
        refine ⟨?_, hC⟩
        cases z' with
        | agg vs =>
          cases zv <;> simp [isAggV, VV.isAgg] at h3
          simp only [C1] at hC
          exact ⟨_, rfl, hC⟩
        | _ =>
          have hl : ∀ zv : Value, isAggV zv = false → zv.cells = #[zv] := fun zv hz => by cases zv <;> first | rfl | simp [isAggV] at hz
          rw [hl zv (by simpa [VV.isAgg] using h3.symm)] at hC
          first | exact hC | (simp [flatz] at hf)
      · cases h
    · cases h
  · cases h

section
variable (P : Program) (e : Operand → VV) (H : Heap) (n : Nat) (K : VV → Heap → Nat → Prop)
def vAlloc (t : TypeId) : Prop := bnd (SH P t) fun s => bnd (ZE P t) fun z => K (.ptr n []) (upd H n (some (.row s z))) (n + 1)
def setParts : List (Nat × Operand) → List VV → List VV
  | [], zs => zs
  | (i, x) :: ps, zs => setParts ps (zs.set i (e x))
def HasParts (f : Nat → Option Sh) : List (Nat × Operand) → Prop
  | [] => True
  | (i, x) :: ps => (match f i with | some s => Has s (e x) | none => False) ∧ HasParts f ps
def vBuild (t : TypeId) (parts : List (Nat × Operand)) : Prop := bnd (SH P t) fun s => bnd (ZE P t) fun z => match s, z with
  | .st ls, .agg zs => cnd (HasParts e (fun i => ls[i]?) parts) (K (.agg (setParts e parts zs)) H n)
  | .arr k s, .agg zs => cnd (HasParts e (fun i => if i < k then some s else none) parts) (K (.agg (setParts e parts zs)) H n)
  | _, _ => False
def vBuildSlice (t : TypeId) (len : Nat) (parts : List (Nat × Operand)) : Prop := bnd (EL P t) fun et => bnd (SH P et) fun s => bnd (ZE P et) fun z =>
  cnd (HasParts e (fun i => if i < len then some s else none) parts ∧ len * s.size ≤ 16777216 ∧ s.size ≠ 0)
    (K (.sl (some (n, [], 0)) len) (upd H n (some (.row (.arr len s) (.agg (setParts e parts (List.replicate len z)))))) (n + 1))
def BY (t : TypeId) : Nat := ((P.info? t).map (·.bytes)).getD 0
def vMakeSlice (t : TypeId) (l c : Operand) : Prop := onV (e l) fun u => onV (e c) fun v => match u, v with
  | .int _ i, .int _ j => bnd (EL P t) fun et => bnd (SH P et) fun s => bnd (ZE P et) fun z =>
    cnd (0 ≤ i ∧ i ≤ j ∧ j ≤ 1000000000000 ∧ BY P et ≤ 200) (K (.sl (some (n, [], 0)) i.toNat) (upd H n (some (.row (.arr i.toNat s) (.agg (List.replicate i.toNat z))))) (n + 1))
  | _, _ => False
end

section
variable {P : Program} {Z : Nat → Nat → Prop} [Zone Z] {B : Nat} {ρ : Names} {w : World} {H : Heap} {n : Nat} {tm : Nat → VV} {a : Act} {K : VV → Heap → Nat → Prop} {o : Oper}
theorem alloc_sound (hh : HR Z B ρ H n w) (hG : Gives Z n K) (t : TypeId) (ho : o.op = .alloc t) (h : vAlloc P H n K t) : Runs P Z B K ρ w (execOp a.eval o) := by
  unfold vAlloc at h
  replace h := bnd_iff.1 h
  obtain ⟨s, hs, h⟩ := h
  replace h := bnd_iff.1 h
  obtain ⟨z, hz, h⟩ := h
  obtain ⟨s', zv, i, hs', hi, hzv, hH, hsz, hV⟩ := ZE_spec hz
  rw [hs] at hs'
  injection hs' with hs'
  subst hs'
  obtain ⟨l, e1, e2, e3, e4, h1, h2, h3⟩ := new_block hh (hG.one h) (t := t) (cells := zv.cells) (tail := []) hH (hV ρ w).2 (by simp)
  refine .inl ⟨.pointer (some ⟨w.heap.size, 0, none⟩), _, ?_, _, _, _, _, h, ?_, h1, h2, h3⟩
  · simp [execOp, ho, Instr.alloc, newVar, newRow, zeroValue, typeInfo, hi, hzv]
  · simp only [VR,VR1,C1]
    exact ⟨l, by rw [give_ap, if_pos rfl], by rw [e1, e2]; simp [Sh.off]⟩
theorem fill_list (off : Nat) : ∀ (cs : List Value) (k : Nat) (a : Array Value) (pre mid post : List Value), a.toList = pre ++ mid ++ post → mid.length = cs.length → pre.length = off + k →
    ((cs.zipIdx k).foldl (fun a (x : Value × Nat) => a.setIfInBounds (off + x.2) x.1) a).toList = pre ++ cs ++ post
  | [], k, a, pre, mid, post, h, hm, hp => by
    have : mid = [] := List.eq_nil_of_length_eq_zero (by simpa using hm)
    subst this
    simpa using h
  | c :: cs, k, a, pre, mid, post, h, hm, hp => by
    cases mid with
    | nil => simp at hm
    | cons m mid =>
      rw [List.zipIdx_cons, List.foldl_cons]
      have := fill_list off cs (k + 1) (a.setIfInBounds (off + k) c) (pre ++ [c]) mid post (by
        rw [Array.toList_setIfInBounds, h, ← hp]
        simp) (by simpa using hm) (by simp; omega)
      rw [this]
      simp
/-- parts laid into a value -/
theorem fill_parts (hT : TM ρ w tm a) (place : Nat → Option (Nat × Nat)) (f : Nat → Option Sh) (sz : Sh) (hsz : sz ≠ .cell)
    (hat : ∀ i s, f i = some s → sz.at [i] = some s ∧ place i = some (sz.off [i], s.size)) (hlen : ∀ vs, Has sz (.agg vs) → ∀ i s, f i = some s → i < vs.length) :
    ∀ (ps : List (Nat × Operand)) (vs : List VV) (cells : Array Value), Has sz (.agg vs) → CR ρ w vs cells.toList → HasParts (ev tm) f ps →
      ∃ cells', Instr.fill place cells (ps.map fun x => (x.1, a.eval x.2)) = some cells' ∧ Has sz (.agg (setParts (ev tm) ps vs)) ∧ CR ρ w (setParts (ev tm) ps vs) cells'.toList
  | [], vs, cells, hs, hc, hp => ⟨cells, rfl, hs, hc⟩
  | (i, x) :: ps, vs, cells, hs, hc, hp => by
    obtain ⟨h1, h2⟩ := hp
    split at h1
    · rename_i s hf
      obtain ⟨g1, g2⟩ := hat i s hf
      have hi := hlen vs hs i s hf
      obtain ⟨su, pre, mid, post, k1, k2, k3, k4, k5, k6, k7⟩ := focus [i] sz (.agg vs) vs[i] cells.toList hs (by simp [VV.get, hi]) (by simp only [C1]; exact hc)
      rw [g1] at k1
      injection k1 with k1
      subst k1
      have hv := val_cells h1 (ev_sound hT x)
      have hvl := Has.len _ _ _ h1 hv
      have hml := Has.len _ _ _ k2 k5
      rw [Array.length_toList] at hvl
      have hset : (VV.agg vs).set [i] (ev tm x) = .agg (vs.set i (ev tm x)) := by simp [VV.set, hi]
      have hcl : cells.size = pre.length + mid.length + post.length := by
        have := congrArg List.length k3
        simp only [Array.length_toList,List.length_append] at this
        exact this
      have hfill := fill_list (sz.off [i]) (a.eval x).cells.toList 0 cells pre mid post k3 (by rw [hml, Array.length_toList, hvl]) (by omega)
      have hC := k7 ρ w (ev tm x) _ (Ext.refl _ _) hv
      rw [hset] at hC
      simp only [C1] at hC
      have hH := k6 _ h1
      rw [hset] at hH
      obtain ⟨cells', f1, f2, f3⟩ := fill_parts hT place f sz hsz hat hlen ps (vs.set i (ev tm x)) _ hH (by rw [← hfill] at hC; exact hC) h2
      refine ⟨cells', ?_, f2, f3⟩
      rw [← f1, List.map_cons, Instr.fill, g2]
      show (if (decide ((a.eval x).cells.size ≠ s.size) || decide (sz.off [i] + (a.eval x).cells.size > cells.size)) = true then none else _) = _
      rw [if_neg (by simp only [Bool.or_eq_true,decide_eq_true_eq,ne_eq]; omega)]
      congr 1
      rw [← Array.foldl_toList]
      simp
    · exact h1.elim
theorem map_parts (parts : Array (Nat × Operand)) : (parts.map fun (x : Nat × Operand) => (x.1, a.eval x.2)).toList = parts.toList.map fun x => (x.1, a.eval x.2) := by simp
theorem places_some (g : Field → Nat) : ∀ (l : List Field), (∀ f ∈ l, ∃ i, P.info? f.type = some i ∧ i.size = g f) → l.mapM (fun f => (P.info? f.type).map fun i => (f.offset, i.size)) = some (l.map fun f => (f.offset, g f))
  | [], _ => rfl
  | f :: l, h => by
    obtain ⟨i, h1, h2⟩ := h f (by simp)
    have := places_some g l (fun f hf => h f (by simp [hf]))
    simp [List.mapM_cons, h1, h2, this]
theorem mapM_places (fs : Array Field) (g : Field → Nat) (h : ∀ f ∈ fs.toList, ∃ i, P.info? f.type = some i ∧ i.size = g f) :
    (fs.mapM fun f => (do pure (f.offset, ← sizeOf f.type) : Sem (Nat × Nat))).run P w = .ok (fs.map fun f => (f.offset, g f)) w := by
  have := run_places w fs.toList _ (places_some (P := P) g fs.toList h)
  rw [Array.mapM_eq_mapM_toList]
  simp [this]
  apply Array.ext'
  simp
theorem build_sound (hT : TM ρ w tm a) (hh : HR Z B ρ H n w) (t : TypeId) (parts : Array (Nat × Operand)) (ho : o.op = .build t parts) (h : vBuild P (ev tm) H n K t parts.toList) : Runs P Z B K ρ w (execOp a.eval o) := by
  unfold vBuild at h
  replace h := bnd_iff.1 h
  obtain ⟨s, hs, h⟩ := h
  replace h := bnd_iff.1 h
  obtain ⟨z, hz, h⟩ := h
  obtain ⟨s', zv, i, hs', hi, hzv, hH, hsz, hV⟩ := ZE_spec hz
  rw [hs] at hs'
  injection hs' with hs'
  subst hs'
  obtain ⟨i', d, hi', hu, hisz, hrow⟩ := shOf_spec hs
  rw [hi] at hi'
  injection hi' with hi'
  subst hi'
  split at h
  · rename_i ls zs
    obtain ⟨hp, h⟩ := h
    obtain ⟨fs, g1, g2, g3⟩ := SH_struct hs
    obtain ⟨cs, rfl, hcr⟩ := (hV ρ w).1.agg
    have hplaces := mapM_places (P := P) (w := w) fs (fun f => ((P.info? f.type).map (·.size)).getD 0) (fun f hf => by
      obtain ⟨k, hk, rfl⟩ := List.getElem_of_mem hf
      obtain ⟨f', h1, h2, h3⟩ := g3 k ls[k] (by simp at hk; simp [← g2, hk])
      obtain ⟨inf, _, h4, _⟩ := shOf_spec h3
      simp at hk
      have : f' = fs.toList[k] := by simpa [hk] using h1.symm
      subst this
      exact ⟨inf, h4, by rw [h4]; rfl⟩)
    obtain ⟨cells', f1, f2, f3⟩ := fill_parts hT (fun i => (fs.map fun f => (f.offset, ((P.info? f.type).map (·.size)).getD 0))[i]?) (fun i => ls[i]?) (.st ls) (by simp) (fun i s hi => by
      obtain ⟨f', h1, h2, h3⟩ := g3 i s hi
      obtain ⟨inf, _, h4, _, h5, _⟩ := shOf_spec h3
      exact ⟨by simp [Sh.at, hi], by simp [h1, h4, h2, h5, Sh.off, hi]⟩) (fun vs hvs i s hi => by
      simp only [Has] at hvs
      have : ∀ (ls : List Sh) (vs : List VV), HasL ls vs → ls.length = vs.length := fun ls => by
        induction ls with
        | nil => intro vs hv; simp only [HasL] at hv; simp [hv]
        | cons s ls ih =>
          intro vs hv
          cases vs with
          | nil => simp [HasL] at hv
          | cons v vs => simp only [HasL] at hv; simp [ih vs hv.2]
      have := this ls vs hvs
      have := (List.getElem?_eq_some_iff.1 hi).1
      omega) parts.toList zs cs hH hcr hp
    refine runs_value (x := .agg cells') ?_ h ⟨_, rfl, f3⟩ hh
    rw [← map_parts parts] at f1
    simp only [execOp,ho,Instr.build,zeroValue,typeInfo,Sem.run_bind,Sem.run_pure,Result.andThen_ok,run_program,hi,hzv,run_underlying g1 w,hplaces,Value.cells]
    rw [f1]
    rfl
  · rename_i k s zs
    obtain ⟨hp, h⟩ := h
    obtain ⟨e, g1, g2⟩ := SH_array hs
    obtain ⟨inf, _, h4, _, h5, _⟩ := shOf_spec g2
    obtain ⟨cs, rfl, hcr⟩ := (hV ρ w).1.agg
    obtain ⟨cells', f1, f2, f3⟩ := fill_parts hT (fun i => some (i * inf.size, inf.size)) (fun i => if i < k then some s else none) (.arr k s) (by simp) (fun i s' hi => by
      split at hi
      · injection hi with hi
        subst hi
        exact ⟨by simp [Sh.at], by simp [h5, Sh.off]⟩
      · cases hi) (fun vs hvs i s' hi => by
      simp only [Has] at hvs
      split at hi
      · omega
      · cases hi) parts.toList zs cs hH hcr hp
    refine runs_value (x := .agg cells') ?_ h ⟨_, rfl, f3⟩ hh
    rw [← map_parts parts] at f1
    simp only [execOp,ho,Instr.build,zeroValue,typeInfo,sizeOf,Sem.run_bind,Sem.run_pure,Result.andThen_ok,run_program,hi,hzv,h4,run_underlying g1 w,Value.cells]
    rw [f1]
    rfl
  · exact h.elim
end
end Go.Proofs.Ytlgldkjjbbbapaa.V
end
section
/-
  A MACHINE OF VALUES, EIGHTH PART: slices: literals, made, cut, grown.
-/
set_option linter.unusedVariables false
set_option linter.unusedSectionVars false
set_option linter.unusedSimpArgs false
namespace Go.Proofs.Ytlgldkjjbbbapaa.V
open Go Go.RowKit

/-! ### many zero values -/
theorem zeros_flat (z : Array Value) : ∀ (c : Nat), ((Array.range (c * z.size)).map (fun j => z[j % z.size]!)).toList = (List.replicate c z.toList).flatten := by
  intro c
  induction c with
  | zero => simp
  | succ c ih =>
    rw [List.replicate_succ', List.flatten_append, ← ih]
    simp only [Array.toList_map,Array.toList_range,List.flatten_cons,List.flatten_nil,List.append_nil]
    rw [Nat.succ_mul, List.range_add, List.map_append, List.map_map]
    congr 1
    apply List.ext_getElem (by simp)
    intro i h1 h2
    simp only [List.getElem_map,List.getElem_range,Function.comp_apply]
    have hi : i < z.size := by simpa using h2
    rw [Nat.mul_add_mod_self_right, Nat.mod_eq_of_lt hi]
    simp [hi]
section
variable {P : Program} {Z : Nat → Nat → Prop} [Zone Z] {B : Nat} {ρ : Names} {w : World} {H : Heap} {n : Nat} {tm : Nat → VV} {a : Act} {K : VV → Heap → Nat → Prop} {o : Oper}
theorem CR.zeros {z : VV} {zc : List Value} (h : C1 ρ w z zc) : ∀ (c : Nat), CR ρ w (List.replicate c z) (List.replicate c zc).flatten
  | 0 => by simp only [CR,List.replicate_zero,List.flatten_nil]
  | c + 1 => by
    simp only [List.replicate_succ,List.flatten_cons,CR]
    exact ⟨_, _, rfl, h, CR.zeros h c⟩
theorem buildSlice_sound (hT : TM ρ w tm a) (hh : HR Z B ρ H n w) (hG : Gives Z n K) (t : TypeId) (len : Nat) (parts : Array (Nat × Operand)) (ho : o.op = .buildSlice t len parts) (h : vBuildSlice P (ev tm) H n K t len parts.toList) : Runs P Z B K ρ w (execOp a.eval o) := by
  unfold vBuildSlice at h
  replace h := bnd_iff.1 h
  obtain ⟨et, het, h⟩ := h
  replace h := bnd_iff.1 h
  obtain ⟨s, hs, h⟩ := h
  replace h := bnd_iff.1 h
  obtain ⟨z, hz, ⟨hp, hlim, hs0⟩, h⟩ := h
  obtain ⟨s', zv, i, hs', hi, hzv, hH, hsz, hV⟩ := ZE_spec hz
  rw [hs] at hs'
  injection hs' with hs'
  subst hs'
  have hul := EL_spec het
  obtain ⟨i', d, hi', hu, hisz, hrow⟩ := shOf_spec hs
  rw [hi] at hi'
  injection hi' with hi'
  subst hi'
  have hcells : ((Array.range (len * i.size)).map (fun j => zv.cells[j % zv.cells.size]!)).toList = (List.replicate len zv.cells.toList).flatten := by
    rw [hisz, ← hsz]; exact zeros_flat zv.cells len
  have hz0 := CR.zeros (hV ρ w).2 len
  rw [← hcells] at hz0
  obtain ⟨cells', f1, f2, f3⟩ := fill_parts hT (fun j => some (j * i.size, i.size)) (fun j => if j < len then some s else none) (.arr len s) (by simp) (fun j s' hj => by
      split at hj
      · injection hj with hj
        subst hj
        exact ⟨by simp [Sh.at], by simp [hisz, Sh.off]⟩
      · cases hj) (fun vs hvs j s' hj => by
      simp only [Has] at hvs
      split at hj
      · omega
      · cases hj) parts.toList (List.replicate len z) _ (by simp only [Has]; exact ⟨by simp, fun v hv => by rw [List.eq_of_mem_replicate hv]; exact hH⟩) hz0 hp
  obtain ⟨l, e1, e2, e3, e4, h1, h2, h3⟩ := new_block (s := .arr len s) (v := .agg (setParts (ev tm) parts.toList (List.replicate len z))) (cs := cells'.toList) hh (hG.one h) (t := et) (cells := cells') (tail := []) f2 (by simp only [C1]; exact f3) (by simp)
  refine .inl ⟨.slice (some ⟨w.heap.size, 0, none⟩) len len, _, ?_, _, _, _, _, h, ?_, h1, h2, h3⟩
  · rw [← map_parts parts] at f1
    have hlim' : ¬ (len * i.size > 2 ^ 24) := by rw [hisz]; omega
    simp only [execOp,ho,Instr.buildSlice,Sem.run_bind,run_underlying hul w,Result.andThen_ok,sizeOf,typeInfo,run_program,hi,Sem.run_pure]
    rw [if_neg hlim']
    by_cases h0 : len * i.size = 0
    · have hl0 : len = 0 := by
        rcases Nat.mul_eq_zero.1 h0 with h0 | h0
        · exact h0
        · omega
      subst hl0
      have hr : ∀ f : Nat → Value, (Array.range 0).map f = #[] := fun f => by apply Array.ext'; simp
      simp only [Nat.zero_mul,hr] at f1
      simp only [Nat.zero_mul,if_true,Sem.run_bind,Sem.run_pure,Result.andThen_ok,hr]
      rw [f1]
      simp only [newRow,Sem.run_bind,Sem.run_pure,run_newObj,Result.andThen_ok]
      rfl
    · rw [if_neg h0]
      simp only [Sem.run_bind,zeroValue,typeInfo,run_program,hi,hzv,Sem.run_pure,Result.andThen_ok]
      rw [f1]
      simp only [newRow,Sem.run_bind,Sem.run_pure,run_newObj,Result.andThen_ok]
      rfl
  · simp only [VR,VR1,C1]
    have hlen := HasA.len (ρ := ρ) (w := w) (s := s) _ _ (by simp only [Has] at f2; exact f2.2) f3
    simp only [Has] at f2
    rw [f2.1, Array.length_toList] at hlen
    refine .inr ⟨l, len, s, len, by rw [give_ap, if_pos rfl], by rw [e1, e2, e4]; simp [Sh.off], Nat.le_refl _, by rw [e4]; rfl, ?_⟩
    rw [e4, e3, hlen]
    simp [Sh.off]
theorem makeSlice_sound (hT : TM ρ w tm a) (hh : HR Z B ρ H n w) (hG : Gives Z n K) (t : TypeId) (l c : Operand) (ho : o.op = .makeSlice t l c) (h : vMakeSlice P (ev tm) H n K t l c) : Runs P Z B K ρ w (execOp a.eval o) := by
  unfold vMakeSlice onV at h
  dsimp only at h
  have hl := ev_sound hT l
  have hc := ev_sound hT c
  split at h
  · rename_i k1 i k2 j e1 e2
    rw [e1] at hl
    rw [e2] at hc
    replace h := bnd_iff.1 h
    obtain ⟨et, het, h⟩ := h
    replace h := bnd_iff.1 h
    obtain ⟨s, hs, h⟩ := h
    replace h := bnd_iff.1 h
    obtain ⟨z, hz, ⟨hi0, hij, hj, hby⟩, h⟩ := h
    obtain ⟨s', zv, inf, hs', hi, hzv, hH, hsz, hV⟩ := ZE_spec hz
    rw [hs] at hs'
    injection hs' with hs'
    subst hs'
    have hul := EL_spec het
    obtain ⟨inf', d, hi', hu, hisz, hrow⟩ := shOf_spec hs
    rw [hi] at hi'
    injection hi' with hi'
    subst hi'
    have hcells : ((Array.range (j.toNat * inf.size)).map (fun j => zv.cells[j % zv.cells.size]!)).toList = (List.replicate j.toNat zv.cells.toList).flatten := by
      rw [hisz, ← hsz]; exact zeros_flat zv.cells _
    have hsplit : (List.replicate j.toNat zv.cells.toList).flatten = (List.replicate i.toNat zv.cells.toList).flatten ++ (List.replicate (j.toNat - i.toNat) zv.cells.toList).flatten := by
      rw [← List.flatten_append, List.replicate_append_replicate]
      congr 2
      omega
    have hHas : Has (.arr i.toNat s) (.agg (List.replicate i.toNat z)) := by
      simp only [Has]; exact ⟨by simp, fun v hv => by rw [List.eq_of_mem_replicate hv]; exact hH⟩
    obtain ⟨lo, g1, g2, g3, g4, h1, h2, h3⟩ := new_block (s := .arr i.toNat s) (v := .agg (List.replicate i.toNat z)) hh (hG.one h) (t := et) hHas (by simp only [C1]; exact CR.zeros (hV ρ w).2 i.toNat) (hcells.trans hsplit)
    refine .inl ⟨.slice (some ⟨w.heap.size, 0, none⟩) i.toNat j.toNat, _, ?_, _, _, _, _, h, ?_, h1, h2, h3⟩
    · have hw1 : IntKind.i64.wrap i = i := by simp [IntKind.wrap, IntKind.bits, IntKind.signed]; omega
      have hw2 : IntKind.i64.wrap j = j := by simp [IntKind.wrap, IntKind.bits, IntKind.signed]; omega
      have hbyv : inf.bytes ≤ 200 := by simpa [BY, hi] using hby
      have hbj : (inf.bytes : Int) * j ≤ 2 ^ 48 := by
        have : (inf.bytes : Int) * j ≤ 200 * 1000000000000 := Int.mul_le_mul (by omega) hj (by omega) (by omega)
        omega
      have hf : (decide (j < 0) || decide ((inf.bytes : Int) * j > 2 ^ 48) || decide (i < 0) || decide (i > j)) = false := by
        simp only [Bool.or_eq_false_iff,decide_eq_false_iff_not]
        omega
      have ht : (askRoom (j.toNat * inf.bytes)).run P w = .ok () w := by
        unfold askRoom
        split <;> simp
      simp only [execOp,ho,Instr.makeSlice,hl.int,hc.int,Sem.run_bind,run_underlying hul w,Result.andThen_ok,sizeOf,typeInfo,run_program,hi,Sem.run_pure,asInt,asIntOf,hw1,hw2]
      rw [if_neg (by rw [hf]; simp)]
      simp only [Sem.run_bind,ht,Result.andThen_ok,Sem.run_pure,run_program,hi]
      by_cases h0 : j.toNat * inf.size = 0
      · have hr : ∀ f : Nat → Value, (Array.range 0).map f = #[] := fun f => by apply Array.ext'; simp
        simp only [h0,if_true,Sem.run_bind,Sem.run_pure,Result.andThen_ok,newRow,run_newObj,hr]
        rfl
      · rw [if_neg h0]
        simp only [Sem.run_bind,zeroValue,typeInfo,run_program,hi,hzv,Sem.run_pure,Result.andThen_ok,newRow,run_newObj]
        rfl
    · simp only [VR,VR1,C1]
      refine .inr ⟨lo, j.toNat, s, i.toNat, by rw [give_ap, if_pos rfl], by rw [g1, g2, g4]; simp [Sh.off], by omega, by rw [g4]; rfl, ?_⟩
      rw [g4, g3]
      simp [Sh.off, hisz]
  · exact h.elim
end
end Go.Proofs.Ytlgldkjjbbbapaa.V
end
