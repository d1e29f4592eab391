/-
  A MACHINE OF VALUES, FOURTEENTH PART: how simp reckons it: what stands behind a question is no part that simp can reach before the question is answered.
-/
import Derived.Test.YtndbfphmjmhkjaaVspec
set_option linter.unusedVariables false
set_option linter.unusedSectionVars false
set_option linter.unusedSimpArgs false
namespace Go.Proofs.Ytndbfphmjmhkjaa.V
open Go

/-- a mark: what it is about is no part for simp -/
@[reducible] def Tag {α : Sort _} (k : α) : Type := Unit
def onW (k : VV → Prop) (h : Tag k) (v : VV) : Prop := k v
def bndW {α : Type} (k : α → Prop) (h : Tag k) (o : Option α) : Prop := bnd o k
def cndW (q : Prop) (h : Tag q) (p : Prop) : Prop := p ∧ q
def vifW (A B : Prop) (h : Tag A) (h' : Tag B) (b : Bool) : Prop := vif b A B
def vcallW (P : Program) (H : Heap) (K : VV → Heap → Nat → Prop) (h : Tag H) (h' : Tag K) (f : FuncId) (args : List VV) (n : Nat) : Prop := vcall P f args H n K
def shown (p : Prop) (h : Tag p) : Prop := p
theorem onV_w (v : VV) (k : VV → Prop) : onV v k = onW k () v := rfl
theorem bnd_w {α : Type} (o : Option α) (k : α → Prop) : bnd o k = bndW k () o := rfl
theorem cnd_w (p q : Prop) : cnd p q = cndW q () p := rfl
theorem vif_w (b : Bool) (A B : Prop) : vif b A B = vifW A B () () b := rfl
theorem vcall_w (P : Program) (f : FuncId) (args : List VV) (H : Heap) (n : Nat) (K : VV → Heap → Nat → Prop) : vcall P f args H n K = vcallW P H K () () f args n := rfl
theorem vloop_w (L : VS → (VX → VS → Prop) → Prop) (S : VS) (K : VX → VS → Prop) : vloop L S K = shown (vloop L S K) () := rfl
theorem vdraw_w (P : Program) (ops : Array Oper) (S : VS) (K : VS → Prop) : vdraw P ops S K = shown (vdraw P ops S K) () := rfl
theorem shown_iff {p : Prop} (h : Tag p) : shown p h = p := rfl
theorem bndW_some {α : Type} (k : α → Prop) (a : α) : bndW k () (some a) = k a := bnd_some a k
theorem cndW_true (q : Prop) : cndW q () True = q := by simp [cndW]
theorem vifW_true (A B : Prop) : vifW A B () () true = A := by simp [vifW, vif]
theorem vifW_false (A B : Prop) : vifW A B () () false = B := by simp [vifW, vif]
theorem cndW_intro {p q : Prop} {h : Tag q} (h1 : p) (h2 : q) : cndW q h p := ⟨h1, h2⟩
theorem vifW_intro {b : Bool} {A B : Prop} {h : Tag A} {h' : Tag B} (h1 : b = true → A) (h2 : b = false → B) : vifW A B h h' b := ⟨h1, h2⟩
theorem bndW_intro {α : Type} {o : Option α} {a : α} {k : α → Prop} {t : Tag k} (h : o = some a) (h' : k a) : bndW k t o := bnd_intro h h'
theorem vcallW_intro {P : Program} {f : FuncId} {args : List VV} {H : Heap} {n : Nat} {K : VV → Heap → Nat → Prop} {t : Tag H} {t' : Tag K} (h : vcall P f args H n K) : vcallW P H K t t' f args n := h
section
variable (k : VV → Prop)
theorem onW_int (a : IntKind) (b : Int) : onW k () (.int a b) = k (.int a b) := rfl
theorem onW_bool (a : Bool) : onW k () (.bool a) = k (.bool a) := rfl
theorem onW_str (a : List UInt8) : onW k () (.str a) = k (.str a) := rfl
theorem onW_agg (a : List VV) : onW k () (.agg a) = k (.agg a) := rfl
theorem onW_tup (a : List VV) : onW k () (.tup a) = k (.tup a) := rfl
theorem onW_sl (a : Option (Nat × List Nat × Nat)) (b : Nat) : onW k () (.sl a b) = k (.sl a b) := rfl
theorem onW_ptr (a : Nat) (b : List Nat) : onW k () (.ptr a b) = k (.ptr a b) := rfl
theorem onW_fn (a : FuncId) (b : List VV) : onW k () (.fn a b) = k (.fn a b) := rfl
theorem onW_map (a : Nat) : onW k () (.map a) = k (.map a) := rfl
theorem onW_dat (a : Sh) (b : List VV) : onW k () (.dat a b) = k (.dat a b) := rfl
theorem onW_pd (a : Sh) (b : VV) : onW k () (.pd a b) = k (.pd a b) := rfl
theorem onW_raw (a : Value) : onW k () (.raw a) = k (.raw a) := rfl
end
theorem map_get {α : Type} {f : α → VV} {l : List α} {i : Nat} (h : i < l.length) : (l.map f)[i]? = some (f l[i]) := by simp [h]
theorem lst_get {α : Type} {l : List α} {i : Nat} (h : i < l.length) : l[i]? = some l[i] := by simp [h]
theorem rd_bool {H : Heap} {b c : Bool} (h : b = c) : RdT H (.bool b) (.bool c) := by simp only [RdT,Rd,nl,h,true_and]
theorem rd_int {H : Heap} {k : IntKind} {b c : Int} (h : b = c) : RdT H (.int k b) (.int k c) := by simp only [RdT,Rd,nl,h,true_and]
theorem rd_str {H : Heap} {b c : List UInt8} (h : b = c) : RdT H (.str b) (.str c) := by simp only [RdT,Rd,nl,h,true_and]
theorem rd_same {H : Heap} {v : VV} (h : nl v = true) (hv : ∀ vs, v ≠ .agg vs) (hv2 : ∀ vs, v ≠ .tup vs) : Rd H v v := by
  cases v with
  | agg vs => exact absurd rfl (hv vs)
  | tup vs => exact absurd rfl (hv2 vs)
  | sl p n => cases p with
    | none => simp only [Rd]; exact .inl trivial
    | some q => simp [nl] at h
  | _ => simp only [Rd]; exact ⟨h, trivial⟩
mutual
theorem Rd.refl (H : Heap) : ∀ (v : VV), nl v = true → Rd H v v
  | .agg vs, h => by simp only [Rd]; exact ⟨vs, rfl, RdL.refl H vs (by simpa only [nl] using h)⟩
  | .sl none n, h => by simp only [Rd]; exact .inl trivial
  | .sl (some _) _, h => by simp [nl] at h
  | .int _ _, h | .bool _, h | .str _, h | .tup _, h | .ptr _ _, h | .fn _ _, h | .map _, h | .dat _ _, h | .pd _ _, h | .vec _ _, h | .any, h | .raw _, h => by simp only [Rd]; exact ⟨h, trivial⟩
theorem RdL.refl (H : Heap) : ∀ (vs : List VV), nls vs = true → RdL H vs vs
  | [], _ => by simp only [RdL]
  | v :: vs, h => by
    simp only [nls,Bool.and_eq_true] at h
    simp only [RdL]
    exact ⟨v, vs, rfl, Rd.refl H v h.1, RdL.refl H vs h.2⟩
end
theorem rd_tup {H : Heap} {vs ds : List VV} (h : RdL H vs ds) : RdT H (.tup vs) (.tup ds) := ⟨ds, rfl, h⟩
theorem rdl_nil {H : Heap} : RdL H [] [] := by simp only [RdL]
theorem rdl_cons {H : Heap} {v d : VV} {vs ds : List VV} (h : Rd H v d) (h' : RdL H vs ds) : RdL H (v :: vs) (d :: ds) := by simp only [RdL]; exact ⟨d, ds, rfl, h, h'⟩
/-- a slice of the call's own, whole -/
theorem rd_row {H : Heap} {m k : Nat} {e : Sh} {els : List VV} {n : Nat} (h : H m = some (.row (.arr k e) (.agg els))) (hn : n = els.length) (hl : nls els = true) : Rd H (.sl (some (m, [], 0)) n) (.dat e els) := by
  simp only [Rd]
  exact ⟨_, _, k, e, els, h, rfl, rfl, by omega, by simpa [hn] using hl, by simp [hn]⟩

/-! ### steps, of frames that are written out -/
/-- sealed -/
noncomputable def vl : (P : Program) → (ops l : List Oper) → (S : VS) → (K : VS → Prop) → Prop := Classical.choose (⟨vlist, rfl⟩ : ∃ f : (P : Program) → (ops l : List Oper) → (S : VS) → (K : VS → Prop) → Prop, f = vlist)
theorem vl_eq : vl = vlist := Classical.choose_spec (⟨vlist, rfl⟩ : ∃ f : (P : Program) → (ops l : List Oper) → (S : VS) → (K : VS → Prop) → Prop, f = vlist)
theorem vl_def (P : Program) (ops l : List Oper) (S : VS) (K : VS → Prop) : vl P ops l S K = vlist P ops l S K := by rw [vl_eq]
section
variable (P : Program) (tm : Nat → VV) (H : Heap) (n : Nat)
theorem s_nil (ops : List Oper) (K : VS → Prop) : vl P ops [] ⟨tm, H, n⟩ K = K ⟨tm, H, n⟩ := by simp only [vl_def]; exact id (Eq.refl _)
theorem s_cons (ops l : List Oper) (d : Option Tmp) (op : Op) (ty : TypeId) (ps : String) (af : Array Edge) (K : VS → Prop) : vl P ops (⟨d, op, ty, ps, af, none⟩ :: l) ⟨tm, H, n⟩ K =
    vop P (ev tm) H n (fun v H' n' => vl P ops l ⟨put d v tm, H', n'⟩ K) ⟨d, op, ty, ps, af, none⟩ := by simp only [vl_def]; exact id (Eq.refl _)
theorem s_guard (ops l : List Oper) (d : Option Tmp) (op : Op) (ty : TypeId) (ps : String) (af : Array Edge) (j : Nat) (want : Bool) (K : VS → Prop) : vl P ops (⟨d, op, ty, ps, af, some (j, want)⟩ :: l) ⟨tm, H, n⟩ K =
    bnd (dstAt ops j) fun t => onV (tm t) fun v => match v with
      | .bool b => vif (b == want) (vop P (ev (upd tm t (.bool want))) H n (fun v H' n' => vl P ops l ⟨put d v (upd tm t (.bool want)), H', n'⟩ K) ⟨d, op, ty, ps, af, some (j, want)⟩)
          (vl P ops l ⟨put d (.raw undef) (upd tm t (.bool (!want))), H, n⟩ K)
      | .raw u => cnd (u = undef) (vl P ops l ⟨put d (.raw undef) tm, H, n⟩ K)
      | _ => False := by simp only [vl_def]; exact id (Eq.refl _)
theorem c_skip (K : VX → VS → Prop) : vcode P .skip ⟨tm, H, n⟩ K = K .normal ⟨tm, H, n⟩ := (id (Eq.refl _))
theorem c_label (l : Nat) (K : VX → VS → Prop) : vcode P (.label l) ⟨tm, H, n⟩ K = K .normal ⟨tm, H, n⟩ := (id (Eq.refl _))
theorem c_region (i : Nat) (l : List Oper) (K : VX → VS → Prop) : vcode P (.region i l.toArray false) ⟨tm, H, n⟩ K = vl P l l ⟨tm, H, n⟩ (K .normal) := by
  simp only [vcode,vl_def]
theorem c_draw (i : Nat) (l : Array Oper) (K : VX → VS → Prop) : vcode P (.region i l true) ⟨tm, H, n⟩ K = shown (vdraw P l ⟨tm, H, n⟩ (K .normal)) () := (id (Eq.refl _))
theorem c_seq (a b : Code) (K : VX → VS → Prop) : vcode P (.seq a b) ⟨tm, H, n⟩ K = vcode P a ⟨tm, H, n⟩ (VX.seq (fun S => vcode P b S K) K) := (id (Eq.refl _))
theorem c_cond (c : Operand) (a b : Code) (K : VX → VS → Prop) : vcode P (.cond c a b) ⟨tm, H, n⟩ K = onV (ev tm c) fun v => match v with
    | .bool t => vif t (vcode P a ⟨tm, H, n⟩ K) (vcode P b ⟨tm, H, n⟩ K)
    | _ => False := (id (Eq.refl _))
theorem c_block (i : Nat) (c : Code) (K : VX → VS → Prop) : vcode P (.block i c) ⟨tm, H, n⟩ K = vcode P c ⟨tm, H, n⟩ (VX.block i K) := (id (Eq.refl _))
theorem c_loop (c : Code) (K : VX → VS → Prop) : vcode P (.loop c) ⟨tm, H, n⟩ K = shown (vloop (vcode P c) ⟨tm, H, n⟩ K) () := (id (Eq.refl _))
theorem c_exit (i : Nat) (K : VX → VS → Prop) : vcode P (.exit i) ⟨tm, H, n⟩ K = K (.exit i) ⟨tm, H, n⟩ := (id (Eq.refl _))
theorem c_ret (K : VX → VS → Prop) : vcode P .ret ⟨tm, H, n⟩ K = K .ret ⟨tm, H, n⟩ := (id (Eq.refl _))
theorem c_scope (c : Code) (K : VX → VS → Prop) : vcode P (.scope c) ⟨tm, H, n⟩ K = vcode P c ⟨tm, H, n⟩ K := (id (Eq.refl _))
theorem x_seq1 (N : VS → Prop) (K : VX → VS → Prop) (S : VS) : VX.seq N K .normal S = N S := (id (Eq.refl _))
theorem x_seq2 (N : VS → Prop) (K : VX → VS → Prop) (S : VS) (i : Nat) : VX.seq N K (.exit i) S = K (.exit i) S := (id (Eq.refl _))
theorem x_seq3 (N : VS → Prop) (K : VX → VS → Prop) (S : VS) : VX.seq N K .ret S = K .ret S := (id (Eq.refl _))
theorem x_block1 (i : Nat) (K : VX → VS → Prop) (S : VS) : VX.block i K .normal S = K .normal S := (id (Eq.refl _))
theorem x_block2 (i j : Nat) (K : VX → VS → Prop) (S : VS) : VX.block i K (.exit j) S = if j = i then K .normal S else K (.exit j) S := (id (Eq.refl _))
theorem x_block3 (i : Nat) (K : VX → VS → Prop) (S : VS) : VX.block i K .ret S = K .ret S := (id (Eq.refl _))
theorem f_normal (rs : List ResultVar) (k : VV → Heap → Nat → Prop) : fin P rs k .normal ⟨tm, H, n⟩ = vres P ⟨tm, H, n⟩ rs fun v => k v H n := (id (Eq.refl _))
theorem f_ret (rs : List ResultVar) (k : VV → Heap → Nat → Prop) : fin P rs k .ret ⟨tm, H, n⟩ = vres P ⟨tm, H, n⟩ rs fun v => k v H n := (id (Eq.refl _))
theorem r_tmp (t : Tmp) (k : VV → Prop) : vres1 P ⟨tm, H, n⟩ (.tmp t) k = k (tm t) := (id (Eq.refl _))
theorem r_cell (a : Tmp) (t : TypeId) (k : VV → Prop) : vres1 P ⟨tm, H, n⟩ (.cell a t) k = onV (tm a) fun v => match v with
    | .ptr m p => bnd (H m) fun b => match b with
      | .row s c => cnd (s.at p = SH P t) (bnd (c.get p) k)
      | _ => False
    | _ => False := (id (Eq.refl _))
end
end Go.Proofs.Ytndbfphmjmhkjaa.V
