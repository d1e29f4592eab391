/-
  Parts of the proof of ProcRight: Vty, Vsimp, Vdraw, Vregion, Vstep, Vok.
  Conditions: none.
-/
import Derived.Test.YtpdhdkpebbfnnaaWProcRight01
import Derived.Test.YtpdhdkpebbfnnaaWProcRight02
import Derived.Still
set_option linter.unusedVariables false
set_option linter.unusedSimpArgs false
set_option linter.unusedSectionVars false
set_option linter.defProp false
section
namespace Go.Proofs.Ytpdhdkpebbfnnaa.V
open Go Go.RowKit

mutual
def tsh : Ty → Sh
 | .arr n t => .arr n (tsh t)
 | .fcons a b => .st (tsh a :: tshs b)
 | .fnil => .st []
 | _ => .cell
def tshs : Ty → List Sh
 | .fcons a b => tsh a :: tshs b
 | _ => []
end
def twf : Ty → Bool
 | .arr _ t => twf t
 | .sl t => twf t && decide (0 < t.size)
 | .fcons a b => twf a && twf b && (match b with | .fnil => true | .fcons _ _ => true | _ => false)
 | _ => true
mutual
def toV : (t : Ty) → t.D → VV
 | .int k, x => let n : Int := x; .int k n
 | .u8, x => let b : UInt8 := x; .int .u8 b.toNat
 | .bool, x => let b : Bool := x; .bool b
 | .str, x => let s : List UInt8 := x; .str s
 | .arr _ t, x => let l : List t.D := x; .agg (l.map (toV t))
 | .sl t, x => let l : List t.D := x; .dat (tsh t) (l.map (toV t))
 | .fnil, _ => .agg []
 | .fcons a b, x => let p : a.D × b.D := x; .agg (toV a p.1 :: toVs b p.2)
def toVs : (t : Ty) → t.D → List VV
 | .fcons a b, x => let p : a.D × b.D := x; toV a p.1 :: toVs b p.2
 | _, _ => []
end
theorem chunks_cr {ρ : Names} {w : World} {t : Ty} (f : t.D → VV) : ∀ (l : List t.D) (cs : List Value), cs.length = l.length * t.size → (∀ i (h : i < l.length), Ty.Is w t ((cs.drop (i * t.size)).take t.size) l[i]) → (∀ x c, x ∈ l → Ty.Is w t c x → C1 ρ w (f x) c) → CR ρ w (l.map f) cs
 | [], cs, hl, _, _ => by
  have : cs = [] := List.eq_nil_of_length_eq_zero (by simpa using hl)
  simp only [List.map_nil,CR,this]
 | x :: l, cs, hl, h, hc => by
  simp only [List.map_cons,CR]
  have hsz : cs.length = l.length * t.size + t.size := by rw [hl, List.length_cons, Nat.succ_mul]
  refine ⟨cs.take t.size, cs.drop t.size, (List.take_append_drop _ _).symm, hc x _ (by simp) (by have h0 := h 0 (by simp); rw [Nat.zero_mul, List.drop_zero] at h0; exact h0), chunks_cr f l _ (by rw [List.length_drop]; omega) (fun i hi => ?_) fun x c hx => hc x c (by simp [hx])⟩
  have := h (i + 1) (by simpa using hi)
  rw [List.drop_drop, show t.size + i * t.size = (i + 1) * t.size by rw [Nat.succ_mul, Nat.add_comm]]
  exact this
theorem is_sound {w : World} : ∀ (t : Ty), twf t = true → (∀ (cs : List Value) (x : t.D), Ty.Is w t cs x → C1 (.bare fun _ => True) w (toV t x) cs ∧ Has (tsh t) (toV t x)) ∧
  ((match t with | .fnil => True | .fcons _ _ => True | _ => False) → ∀ (cs : List Value) (x : t.D), Ty.Is w t cs x → CR (.bare fun _ => True) w (toVs t x) cs ∧ HasL (tshs t) (toVs t x)) := by
 intro t
 induction t with
 | int k => intro _; exact ⟨fun cs x h => ⟨by simpa only [toV,C1] using h.1, by simp [tsh, toV, Has, VV.leaf]⟩, fun h => h.elim⟩
 | u8 => intro _; exact ⟨fun cs x h => ⟨by simp only [toV,C1]; exact h, by simp [tsh, toV, Has, VV.leaf]⟩, fun h => h.elim⟩
 | bool => intro _; exact ⟨fun cs x h => ⟨by simp only [toV,C1]; exact h, by simp [tsh, toV, Has, VV.leaf]⟩, fun h => h.elim⟩
 | str => intro _; exact ⟨fun cs x h => ⟨by simpa only [toV,C1] using h.1, by simp [tsh, toV, Has, VV.leaf]⟩, fun h => h.elim⟩
 | arr n t ih =>
  intro hw
  have ih := (ih (by simpa only [twf] using hw)).1
  refine ⟨fun cs (x : List t.D) h => ?_, fun h => h.elim⟩
  obtain ⟨h1, h2, h3⟩ := h
  have e : toV (.arr n t) x = .agg (x.map (toV t)) := by simp only [toV]
  rw [e]
  refine ⟨?_, ?_⟩
  ·simp only [C1]
   exact chunks_cr _ _ cs (by rw [h1]; exact h2) h3 fun y c _ hy => (ih c y hy).1
  ·simp only [tsh,Has]
   refine ⟨by rw [List.length_map]; exact h1, fun v hv => ?_⟩
   obtain ⟨y, hy, rfl⟩ := List.mem_map.1 hv
   obtain ⟨i, hi, e⟩ := List.mem_iff_getElem.1 hy
   have := (ih _ _ (h3 i hi)).2
   rw [← e]
   exact this
 | sl t ih =>
  intro hw
  simp only [twf,Bool.and_eq_true,decide_eq_true_eq] at hw
  have ih := (ih hw.1).1
  refine ⟨fun cs (x : List t.D) h => ?_, fun h => h.elim⟩
  obtain ⟨A, c, h1, h2, h3, ccs, h4, h5, h6⟩ := h
  have e : toV (.sl t) x = .dat (tsh t) (x.map (toV t)) := by simp only [toV]
  rw [e]
  refine ⟨?_, by simp [tsh, Has, VV.leaf]⟩
  simp only [C1]
  refine ⟨A, c, by rw [List.length_map]; exact h1, by rw [List.length_map]; exact h3, fun hne => ?_⟩
  have hpos : 0 < List.length (α := t.D) x := by
   apply Nat.pos_of_ne_zero
   intro e
   exact hne (by rw [List.eq_nil_of_length_eq_zero e]; rfl)
  have hcc : 0 < ccs.length := by rw [h4]; exact Nat.mul_pos hpos hw.2
  obtain ⟨b, o, hA, hcell⟩ := h5 hcc
  refine ⟨b, o, ccs, hA, chunks_cr _ _ ccs h4 h6 fun y c _ hy => (ih c y hy).1, fun e he => ?_, fun j v hv => ?_, ⟨trivial, fun n l hn => by cases hn⟩, cell_lt (hcell 0 hcc)⟩
  ·obtain ⟨y, hy, rfl⟩ := List.mem_map.1 he
   obtain ⟨i, hi, e⟩ := List.mem_iff_getElem.1 hy
   have := (ih _ _ (h6 i hi)).2
   rw [← e]
   exact this
  ·obtain ⟨hj, e⟩ := List.getElem?_eq_some_iff.1 hv
   rw [hcell j hj]
   simp [List.getD_eq_getElem?_getD, hv]
 | fnil => intro _; exact ⟨fun cs x h => ⟨by simp only [toV,C1,CR]; exact h, by simp [tsh, toV, Has, HasL]⟩, fun _ cs x h => ⟨by simp only [toVs,CR]; exact h, by simp [tshs, toVs, HasL]⟩⟩
 | fcons a b iha ihb =>
  intro hw
  simp only [twf,Bool.and_eq_true] at hw
  have iha := (iha hw.1.1).1
  have ihb := (ihb hw.1.2).2 (by revert hw; cases b <;> simp)
  have key : ∀ (cs : List Value) (x : (Ty.fcons a b).D), Ty.Is w (.fcons a b) cs x → CR (.bare fun _ => True) w (toVs (.fcons a b) x) cs ∧ HasL (tshs (.fcons a b)) (toVs (.fcons a b) x) := by
   intro cs x h
   obtain ⟨h1, h2, h3⟩ := h
   obtain ⟨a1, a2⟩ := iha _ _ h2
   obtain ⟨b1, b2⟩ := ihb _ _ h3
   simp only [toVs,tshs,CR,HasL]
   exact ⟨⟨_, _, (List.take_append_drop a.size cs).symm, a1, b1⟩, a2, b2⟩
  refine ⟨fun cs x h => ?_, fun _ => key⟩
  obtain ⟨k1, k2⟩ := key cs x h
  exact ⟨by simp only [toV,C1]; simpa only [toVs] using k1, by simp only [toV,tsh,Has]; simpa only [toVs,tshs] using k2⟩
theorem val_sound {w : World} {t : Ty} (hw : twf t = true) {v : Value} {x : t.D} (h : Ty.Val w t v x) : VR (.bare fun _ => True) w (toV t x) v := by
 have hs := (is_sound (w := w) t hw).1
 cases t with
 | arr n t =>
  obtain ⟨cs, rfl, h⟩ := h
  have := (hs _ _ h).1
  simp only [toV,C1] at this ⊢
  exact ⟨_, rfl, this⟩
 | fnil =>
  obtain ⟨cs, rfl, h⟩ := h
  have := (hs _ _ h).1
  simp only [toV,C1] at this ⊢
  exact ⟨_, rfl, this⟩
 | fcons a b =>
  obtain ⟨cs, rfl, h⟩ := h
  have := (hs _ _ h).1
  simp only [toV,C1] at this ⊢
  exact ⟨_, rfl, this⟩
 | int k => have := (hs _ _ h).1; simpa only [toV,VR,VR1] using this
 | u8 => have := (hs _ _ h).1; simpa only [toV,VR,VR1] using this
 | bool => have := (hs _ _ h).1; simpa only [toV,VR,VR1] using this
 | str => have := (hs _ _ h).1; simpa only [toV,VR,VR1] using this
 | sl t => have := (hs _ _ h).1; simpa only [toV,VR,VR1] using this
def good : (t : Ty) → t.D → Prop
 | .int k, (x : Int) => (Lit.int k x).wf = true
 | .arr n t, (l : List t.D) => l.length = n ∧ ∀ x ∈ l, good t x
 | .sl t, (l : List t.D) => ∀ x ∈ l, good t x
 | .fcons a b, (x : a.D × b.D) => good a x.1 ∧ good b x.2
 | _, _ => True
theorem good_of {w : World} : ∀ (t : Ty) (cs : List Value) (x : t.D), Ty.Is w t cs x → good t x := by
 intro t
 induction t with
 | int k => intro cs x h; exact h.2
 | u8 => intro _ _ _; trivial
 | bool => intro _ _ _; trivial
 | str => intro _ _ _; trivial
 | arr n t ih =>
  intro cs (x : List t.D) h
  refine ⟨h.1, fun y hy => ?_⟩
  obtain ⟨i, hi, rfl⟩ := List.mem_iff_getElem.1 hy
  exact ih _ _ (h.2.2 i hi)
 | sl t ih =>
  intro cs (x : List t.D) h
  obtain ⟨A, c, h1, h2, h3, ccs, h4, h5, h6⟩ := h
  intro y hy
  obtain ⟨i, hi, rfl⟩ := List.mem_iff_getElem.1 hy
  exact ih _ _ (h6 i hi)
 | fnil => intro _ _ _; trivial
 | fcons a b iha ihb =>
  intro cs x h
  exact ⟨iha _ _ h.2.1, ihb _ _ h.2.2⟩
theorem good_val {w : World} {t : Ty} {v : Value} {x : t.D} (h : Ty.Val w t v x) : good t x := by
 unfold Ty.Val at h
 split at h
 ·obtain ⟨cs, _, h⟩ := h; exact good_of t _ x h
 ·exact good_of t _ x h
theorem law_true {P : Program} {f : FuncId} {ds : List VV} {xs : List Value} {W : World} (h : Spec P f ds (.bool true)) (hx : VRA (.bare fun _ => True) W ds xs) : Calls P f xs.toArray W (fun e W' => e = .returned (.bool true) ∧ Kept W W') := by
 refine (h _ W xs hx).mono fun e W' ⟨x, he, hb, hv⟩ => ?_
 subst he
 have : x = .bool true := by simpa only [VR,VR1,C1,List.cons.injEq,and_true] using hv
 exact ⟨by rw [this], hb⟩
end Go.Proofs.Ytpdhdkpebbfnnaa.V
end
section
namespace Go.Proofs.Ytpdhdkpebbfnnaa.V
open Go

@[reducible] def Tag {α : Sort _} (k : α) : Type := Unit
def onW (k : VV → Prop) (h : Tag k) (v : VV) : Prop := k v
def bndW {α : Type} (k : α → Prop) (h : Tag k) (o : Option α) : Prop := bnd o k
def cndW (q : Prop) (h : Tag q) (p : Prop) : Prop := p ∧ q
def vifW (A B : Prop) (h : Tag A) (h' : Tag B) (b : Bool) : Prop := vif b A B
def vcallW (P : Program) (H : Heap) (K : VV → Heap → Nat → Prop) (h : Tag H) (h' : Tag K) (f : FuncId) (args : List VV) (n : Nat) : Prop := vcall P f args H n K
theorem onV_w (v : VV) (k : VV → Prop) : onV v k = onW k () v := rfl
theorem bnd_w {α : Type} (o : Option α) (k : α → Prop) : bnd o k = bndW k () o := rfl
theorem cnd_w (p q : Prop) : cnd p q = cndW q () p := rfl
theorem vif_w (b : Bool) (A B : Prop) : vif b A B = vifW A B () () b := rfl
theorem vcall_w (P : Program) (f : FuncId) (args : List VV) (H : Heap) (n : Nat) (K : VV → Heap → Nat → Prop) : vcall P f args H n K = vcallW P H K () () f args n := rfl
theorem bndW_some {α : Type} (k : α → Prop) (a : α) : bndW k () (some a) = k a := bnd_some a k
theorem cndW_true (q : Prop) : cndW q () True = q := by simp [cndW]
theorem vifW_true (A B : Prop) : vifW A B () () true = A := by simp [vifW, vif]
theorem vifW_false (A B : Prop) : vifW A B () () false = B := by simp [vifW, vif]
theorem ji {p q : Prop} {h : Tag q} (h1 : p) (h2 : q) : cndW q h p := ⟨h1, h2⟩
theorem jh {b : Bool} {A B : Prop} {h : Tag A} {h' : Tag B} (h1 : b = true → A) (h2 : b = false → B) : vifW A B h h' b := ⟨h1, h2⟩
theorem ja {P : Program} {f : FuncId} {args : List VV} {H : Heap} {n : Nat} {K : VV → Heap → Nat → Prop} {t : Tag H} {t' : Tag K} (h : vcall P f args H n K) : vcallW P H K t t' f args n := h
section
variable (k : VV → Prop)
theorem onW_int (a : IntKind) (b : Int) : onW k () (.int a b) = k (.int a b) := rfl
theorem onW_bool (a : Bool) : onW k () (.bool a) = k (.bool a) := rfl
theorem onW_str (a : List UInt8) : onW k () (.str a) = k (.str a) := rfl
theorem onW_agg (a : List VV) : onW k () (.agg a) = k (.agg a) := rfl
theorem onW_tup (a : List VV) : onW k () (.tup a) = k (.tup a) := rfl
theorem onW_sl (a : Option (Nat × List Nat × Nat)) (b : Nat) : onW k () (.sl a b) = k (.sl a b) := rfl
theorem onW_ptr (a : Nat) (b : List Nat) : onW k () (.ptr a b) = k (.ptr a b) := rfl
theorem onW_fn (a : FuncId) (b : List VV) : onW k () (.fn a b) = k (.fn a b) := rfl
theorem onW_map (a : Nat) : onW k () (.map a) = k (.map a) := rfl
theorem onW_dat (a : Sh) (b : List VV) : onW k () (.dat a b) = k (.dat a b) := rfl
theorem onW_pd (a : Sh) (b : VV) : onW k () (.pd a b) = k (.pd a b) := rfl
theorem onW_raw (a : Value) : onW k () (.raw a) = k (.raw a) := rfl
end
theorem rd_str {H : Heap} {b c : List UInt8} (h : b = c) : RdT H (.str b) (.str c) := by simp only [RdT,Rd,nl,h,true_and]
mutual
theorem Rd.refl (H : Heap) : ∀ (v : VV), nl v = true → Rd H v v
 | .agg vs, h => by simp only [Rd]; exact ⟨vs, rfl, RdL.refl H vs (by simpa only [nl] using h)⟩
 | .sl none n, h => by simp only [Rd]; exact .inl trivial
 | .sl (some _) _, h => by simp [nl] at h
 | .int _ _, h | .bool _, h | .str _, h | .tup _, h | .ptr _ _, h | .fn _ _, h | .map _, h | .dat _ _, h | .pd _ _, h | .vec _ _, h | .any, h | .raw _, h => by simp only [Rd]; exact ⟨h, trivial⟩
theorem RdL.refl (H : Heap) : ∀ (vs : List VV), nls vs = true → RdL H vs vs
 | [], _ => by simp only [RdL]
 | v :: vs, h => by
  simp only [nls,Bool.and_eq_true] at h
  simp only [RdL]
  exact ⟨v, vs, rfl, Rd.refl H v h.1, RdL.refl H vs h.2⟩
end
theorem rdl_nil {H : Heap} : RdL H [] [] := by simp only [RdL]
theorem rdl_cons {H : Heap} {v d : VV} {vs ds : List VV} (h : Rd H v d) (h' : RdL H vs ds) : RdL H (v :: vs) (d :: ds) := by simp only [RdL]; exact ⟨d, ds, rfl, h, h'⟩
theorem rd_row {H : Heap} {m k : Nat} {e : Sh} {els : List VV} {n : Nat} (h : H m = some (.row (.arr k e) (.agg els))) (hn : n = els.length) (hl : nls els = true) : Rd H (.sl (some (m, [], 0)) n) (.dat e els) := by
 simp only [Rd]
 exact ⟨_, _, k, e, els, h, rfl, rfl, by omega, by simpa [hn] using hl, by simp [hn]⟩

noncomputable def vl : (P : Program) → (ops l : List Oper) → (S : VS) → (K : VS → Prop) → Prop := Classical.choose (⟨vlist, rfl⟩ : ∃ f : (P : Program) → (ops l : List Oper) → (S : VS) → (K : VS → Prop) → Prop, f = vlist)
theorem vl_eq : vl = vlist := Classical.choose_spec (⟨vlist, rfl⟩ : ∃ f : (P : Program) → (ops l : List Oper) → (S : VS) → (K : VS → Prop) → Prop, f = vlist)
theorem vl_def (P : Program) (ops l : List Oper) (S : VS) (K : VS → Prop) : vl P ops l S K = vlist P ops l S K := by rw [vl_eq]
section
variable (P : Program) (tm : Nat → VV) (H : Heap) (n : Nat)
theorem s_nil (ops : List Oper) (K : VS → Prop) : vl P ops [] ⟨tm, H, n⟩ K = K ⟨tm, H, n⟩ := by simp only [vl_def]; exact id (Eq.refl _)
theorem s_cons (ops l : List Oper) (d : Option Tmp) (op : Op) (ty : TypeId) (ps : String) (af : Array Edge) (K : VS → Prop) : vl P ops (⟨d, op, ty, ps, af, none⟩ :: l) ⟨tm, H, n⟩ K =
  vop P (ev tm) H n (fun v H' n' => vl P ops l ⟨put d v tm, H', n'⟩ K) ⟨d, op, ty, ps, af, none⟩ := by simp only [vl_def]; exact id (Eq.refl _)
theorem s_guard (ops l : List Oper) (d : Option Tmp) (op : Op) (ty : TypeId) (ps : String) (af : Array Edge) (j : Nat) (want : Bool) (K : VS → Prop) : vl P ops (⟨d, op, ty, ps, af, some (j, want)⟩ :: l) ⟨tm, H, n⟩ K =
  bnd (dstAt ops j) fun t => onV (tm t) fun v => match v with
   | .bool b => vif (b == want) (vop P (ev (upd tm t (.bool want))) H n (fun v H' n' => vl P ops l ⟨put d v (upd tm t (.bool want)), H', n'⟩ K) ⟨d, op, ty, ps, af, some (j, want)⟩)
     (vl P ops l ⟨put d (.raw undef) (upd tm t (.bool (!want))), H, n⟩ K)
   | .raw u => cnd (u = undef) (vl P ops l ⟨put d (.raw undef) tm, H, n⟩ K)
   | _ => False := by simp only [vl_def]; exact id (Eq.refl _)
theorem x_block2 (i j : Nat) (K : VX → VS → Prop) (S : VS) : VX.block i K (.exit j) S = if j = i then K .normal S else K (.exit j) S := (id (Eq.refl _))
theorem r_tmp (t : Tmp) (k : VV → Prop) : vres1 P ⟨tm, H, n⟩ (.tmp t) k = k (tm t) := (id (Eq.refl _))
theorem r_cell (a : Tmp) (t : TypeId) (k : VV → Prop) : vres1 P ⟨tm, H, n⟩ (.cell a t) k = onV (tm a) fun v => match v with
  | .ptr m p => bnd (H m) fun b => match b with
   | .row s c => cnd (s.at p = SH P t) (bnd (c.get p) k)
   | _ => False
  | _ => False := (id (Eq.refl _))
end
end Go.Proofs.Ytpdhdkpebbfnnaa.V
end
section
namespace Go.Proofs.Ytpdhdkpebbfnnaa.V
open Go Go.RowKit

def HCall (P : Program) (H : Heap) (g : FuncId) (args : List VV) (r : VV) : Prop :=
 ∃ ds, Spec P g ds r ∧ args.all notTup = true ∧ ((RdL H args ds ∧ pl r = true) ∨ (ds = args ∧ nls args = true))
def fnE (es : List (VV × VV)) : Bool := es.all fun q => match q with
 | (.int _ _, .fn _ []) => true
 | _ => false
theorem ME_fn {ρ ρ' : Names} {w w' : World} : ∀ (es : List (VV × VV)) (xs : List MapEntry), fnE es = true → ME ρ w es xs → ME ρ' w' es xs
 | [], _, _, h => h
 | (k, v) :: es, xs, hf, h => by
  simp only [fnE,List.all_cons,Bool.and_eq_true] at hf
  obtain ⟨x, ys, rfl, h1, h2, h3, h4⟩ := h
  refine ⟨x, ys, rfl, h1, ?_, ?_, ME_fn es ys hf.2 h4⟩
  ·cases k with
   | int a b => exact h2
   | _ => simp at hf
  ·cases k with
   | int a b =>
    cases v with
    | fn f caps =>
     cases caps with
     | nil => simpa [VR1, C1, CV] using h3
     | cons _ _ => simp at hf
    | _ => simp at hf
   | _ => simp at hf
def SpecM (P : Program) (f : FuncId) (ds : List VV) (es : List (VV × VV)) : Prop :=
 ∀ (U : Nat → Prop) (w : World) (xs : List Value), VRA (.bare U) w ds xs → Calls P f xs.toArray w (fun e w' => ∃ b, e = .returned (.map (some b)) ∧ Below w.heap.size w w' ∧ w.heap.size ≤ b ∧ b < w'.heap.size ∧ MapAt (.bare fun _ => True) w' ⟨b, 0, 0, .cell⟩ es)
def HMap (P : Program) (g : FuncId) (args : List VV) (es : List (VV × VV)) : Prop := SpecM P g args es ∧ fnE es = true ∧ args.all notTup = true ∧ nls args = true
def vcallH (P : Program) (g : FuncId) (args : List VV) (H : Heap) (n : Nat) (K : VV → Heap → Nat → Prop) : Prop :=
 (∃ r, HCall P H g args r ∧ K r H n) ∨ ∃ es, HMap P g args es ∧ K (.map n) (upd H n (some (.map es))) (n + 1)
section
variable (P : Program) (e : Operand → VV) (H : Heap) (n : Nat) (K : VV → Heap → Nat → Prop)
def vCallH (f : Operand) (args : List Operand) : Prop := onV (e f) fun v => match v with
 | .fn g caps => cnd (callable P g = true) (vcallH P g (args.map e ++ caps) H n K)
 | _ => False
def vBuildSliceH (t : TypeId) (len : Nat) (parts : List (Nat × Operand)) : Prop := if len = 0 then bnd (EL P t) fun et => bnd (SH P et) fun s => bnd (ZE P et) fun z => cnd (parts = [] ∧ s.size ≠ 0) (K (.sl (some (n + 1099511627776, [], 0)) 0) H n)
 else vBuildSlice P e H n K t len parts
def vAppendF (ts : Array TypeId) (x : Operand) : Prop := bnd (ts[0]?) fun t => bnd (ts[1]?) fun tx => bnd (EL P t) fun et => bnd (SH P et) fun se => bnd (ZE P et) fun z => bnd (P.underlying tx) fun u =>
 srcOf H se u (e x) fun news m2 => cnd (news.length * BY P et ≤ 140737488355328 ∧ news.length ≤ 1000000000000) (K (.sl (some (n, [], 0)) news.length) (upd H n (some (.row (.arr news.length se) (.agg news)))) (n + 1))
def vAppendH (ts : Array TypeId) (s x : Operand) : Prop := onV (e s) fun v => match v with
 | .sl none 0 => vAppend P e H n K ts s x
 | .sl (some (m, [], 0)) 0 => cnd (n + 549755813888 ≤ m) (vAppendF P e H n K ts x)
 | _ => False
def vBinH (op : BinOp) (t : TypeId) (x y : Operand) : Prop := onV (e x) fun v => match v with
 | .agg vs => onV (e y) fun u => match u with
  | .agg us => vEq P op t (.agg vs) (.agg us) fun b => K (.bool b) H n
  | _ => False
 | .bool a => onV (e y) fun u => match u with
  | .bool b => vEq P op t (.bool a) (.bool b) fun b => K (.bool b) H n
  | _ => False
 | .sl _ _ => False
 | .dat _ _ => False
 | _ => vBin e H n K op x y
def vopH (o : Oper) : Prop := match o.op with
 | .move x => K (e x) H n
 | .assign x => K (e x) H n
 | .pick c a b => vPick e H n K c a b
 | .alloc t => vAlloc P H n K t
 | .box t x => vBox P e H n K t x
 | .build t parts => vBuild P e H n K t parts.toList
 | .buildSlice t len parts => vBuildSliceH P e H n K t len parts.toList
 | .load t a => vLoad P e H n K t a
 | .nilCheck x => vNilCheck e H n K x
 | .binOp op t x y _ => vBinH P e H n K op t x y
 | .unOp op _ x => vUn e H n K op x
 | .convert s d x => vConv P e H n K s d x
 | .makeSlice t l c => vMakeSlice P e H n K t l c
 | .slice t x lo hi none => vSlice P e H n K t x lo hi
 | .fieldAddr t x f => vFieldAddr P e H n K t x f
 | .field t x f => vField P e H n K t x f
 | .indexAddr t x i => vIndexAddr P e H n K t x i
 | .index t x i => vIndex P e H n K t x i
 | .extract x i => vExtract e H n K x i
 | .sliceToArrayPointer t x => vArrPtr P e H n K t x
 | .lookup t x i c => vLookup P e H n K t x i c
 | .call c => match c.callee with
  | .value f => vCallH P e H n K f c.args.toList
  | .builtin b => match b, c.args.toList with
   | .len, [x] => vLen P e H n K c.argTypes x
   | .append, [s, x] => cnd (c.argTypes.size = 2) (vAppendH P e H n K c.argTypes s x)
   | .min, [x, y] => vMin e H n K x y
   | .max, [x, y] => vMax e H n K x y
   | _, _ => False
  | _ => False
 | _ => False
end
def Stb (F : (Operand → VV) → Heap → (VV → Heap → Nat → Prop) → Prop) (xs : List Operand) (e : Operand → VV) (H : Heap) (n : Nat) (v : VV) (H' : Heap) (n' : Nat) : Prop :=
 n ≤ n' ∧ (∀ m b, H m = some b → H' m = some b) ∧ (∀ m, m < n ∨ n' ≤ m → H' m = H m) ∧ ∀ e' G K', (∀ x ∈ xs, e' x = e x) → (∀ m b, H' m = some b → G m = some b) → K' v G n' → F e' G K'
theorem Stb.same {F : (Operand → VV) → Heap → (VV → Heap → Nat → Prop) → Prop} {xs : List Operand} {e : Operand → VV} {H : Heap} {n : Nat} {v : VV}
  (h : ∀ e' G K', (∀ x ∈ xs, e' x = e x) → (∀ m b, H m = some b → G m = some b) → K' v G n → F e' G K') : Stb F xs e H n v H n := ⟨Nat.le_refl _, fun _ _ h => h, fun _ _ => rfl, h⟩
theorem upd_self {G : Heap} {n : Nat} {b : Blk} (h : G n = some b) : upd G n (some b) = G := by
 funext m
 rw [upd_ap]
 split
 ·rename_i e; rw [e, h]
 ·rfl
theorem Stb.new {F : (Operand → VV) → Heap → (VV → Heap → Nat → Prop) → Prop} {xs : List Operand} {e : Operand → VV} {H : Heap} {n : Nat} {v : VV} {b : Blk} (hn : H n = none)
  (h : ∀ e' G K', (∀ x ∈ xs, e' x = e x) → (∀ m b, H m = some b → G m = some b) → K' v (upd G n (some b)) (n + 1) → F e' G K') : Stb F xs e H n v (upd H n (some b)) (n + 1) := by
 have hle : ∀ m b', H m = some b' → (upd H n (some b)) m = some b' := fun m b' hm => by
  rw [upd_ap, if_neg (by intro e; rw [e, hn] at hm; cases hm)]; exact hm
 refine ⟨Nat.le_succ _, hle, fun m hm => by rw [upd_ap, if_neg (by omega)], fun e' G K' he hG hk => h e' G K' he (fun m b' hm => hG m b' (hle m b' hm)) ?_⟩
 rw [upd_self (hG n b (by rw [upd_ap, if_pos rfl]))]
 exact hk
section
variable {P : Program} {e : Operand → VV} {H : Heap} {n : Nat} {K : VV → Heap → Nat → Prop}
def Out (F : (Operand → VV) → Heap → (VV → Heap → Nat → Prop) → Prop) (xs : List Operand) (e : Operand → VV) (H : Heap) (n : Nat) (K : VV → Heap → Nat → Prop) : Prop := ∃ v H' n', K v H' n' ∧ Stb F xs e H n v H' n'
theorem st_move (x : Operand) (h : K (e x) H n) : Out (fun e H K => K (e x) H n) [x] e H n K :=
 ⟨_, _, _, h, Stb.same fun e' G K' he hG hk => by show K' (e' x) G n; rw [he x (by simp)]; exact hk⟩
theorem st_pick (c a b : Operand) (h : vPick e H n K c a b) : Out (fun e H K => vPick e H n K c a b) [c, a, b] e H n K := by
 unfold vPick onV at h
 dsimp only at h
 split at h
 ·rename_i t et
  cases t with
  | true => exact ⟨_, _, _, h.1 rfl, Stb.same fun e' G K' he hG hk => by show vPick e' G n K' c a b; unfold vPick onV; rw [he c (by simp), he a (by simp), et]; exact ⟨fun _ => hk, fun h => by cases h⟩⟩
  | false => exact ⟨_, _, _, h.2 rfl, Stb.same fun e' G K' he hG hk => by show vPick e' G n K' c a b; unfold vPick onV; rw [he c (by simp), he b (by simp), et]; exact ⟨fun h => (by cases h), fun _ => hk⟩⟩
 ·exact h.elim
theorem st_load (t : TypeId) (a : Operand) (h : vLoad P e H n K t a) : Out (fun e H K => vLoad P e H n K t a) [a] e H n K := by
 unfold vLoad onV at h
 dsimp only at h
 split at h
 ·rename_i m p ea
  obtain ⟨blk, hb, h⟩ := bnd_iff.1 h
  cases blk with
  | map es => exact h.elim
  | row s c =>
   obtain ⟨h1, h⟩ := h
   obtain ⟨u, hu, h⟩ := bnd_iff.1 h
   exact ⟨_, _, _, h, Stb.same fun e' G K' he hG hk => by
    show vLoad P e' G n K' t a
    unfold vLoad onV
    rw [he a (by simp), ea]
    exact bnd_intro (hG m _ hb) ⟨h1, bnd_intro hu hk⟩⟩
 ·rename_i s u ea
  obtain ⟨h1, h⟩ := h
  exact ⟨_, _, _, h, Stb.same fun e' G K' he hG hk => by
   show vLoad P e' G n K' t a
   unfold vLoad onV
   rw [he a (by simp), ea]
   exact ⟨h1, hk⟩⟩
 ·exact h.elim
theorem st_box (hn : H n = none) (t : TypeId) (x : Operand) (h : vBox P e H n K t x) : Out (fun e H K => vBox P e H n K t x) [x] e H n K := by
 unfold vBox at h
 obtain ⟨s, hs, h1, h⟩ := bnd_iff.1 h
 exact ⟨_, _, _, h, Stb.new hn fun e' G K' he hG hk => by
  show vBox P e' G n K' t x
  unfold vBox
  rw [he x (by simp)]
  exact bnd_intro hs ⟨h1, hk⟩⟩
theorem st_alloc (hn : H n = none) (t : TypeId) (h : vAlloc P H n K t) : Out (fun e H K => vAlloc P H n K t) [] e H n K := by
 unfold vAlloc at h
 obtain ⟨s, hs, h⟩ := bnd_iff.1 h
 obtain ⟨z, hz, h⟩ := bnd_iff.1 h
 exact ⟨_, _, _, h, Stb.new hn fun e' G K' he hG hk => bnd_intro hs (bnd_intro hz hk)⟩
theorem setParts_congr {e e' : Operand → VV} : ∀ (ps : List (Nat × Operand)) (zs : List VV), (∀ x ∈ ps.map (·.2), e' x = e x) → setParts e' ps zs = setParts e ps zs
 | [], zs, _ => rfl
 | (i, x) :: ps, zs, h => by
  simp only [setParts]
  rw [h x (by simp), setParts_congr ps _ fun y hy => h y (by simp at hy ⊢; exact .inr hy)]
theorem HasParts_congr {e e' : Operand → VV} (f : Nat → Option Sh) : ∀ (ps : List (Nat × Operand)), (∀ x ∈ ps.map (·.2), e' x = e x) → HasParts e f ps → HasParts e' f ps
 | [], _, _ => trivial
 | (i, x) :: ps, h, hp => by
  simp only [HasParts] at hp ⊢
  rw [h x (by simp)]
  exact ⟨hp.1, HasParts_congr f ps (fun y hy => h y (by simp at hy ⊢; exact .inr hy)) hp.2⟩
theorem st_build (t : TypeId) (ps : List (Nat × Operand)) (h : vBuild P e H n K t ps) : Out (fun e H K => vBuild P e H n K t ps) (ps.map (·.2)) e H n K := by
 unfold vBuild at h
 obtain ⟨s, hs, h⟩ := bnd_iff.1 h
 obtain ⟨z, hz, h⟩ := bnd_iff.1 h
 split at h
 ·obtain ⟨h1, h⟩ := h
  exact ⟨_, _, _, h, Stb.same fun e' G K' he hG hk => bnd_intro hs (bnd_intro hz ⟨HasParts_congr _ _ he h1, by rw [setParts_congr _ _ he]; exact hk⟩)⟩
 ·obtain ⟨h1, h⟩ := h
  exact ⟨_, _, _, h, Stb.same fun e' G K' he hG hk => bnd_intro hs (bnd_intro hz ⟨HasParts_congr _ _ he h1, by rw [setParts_congr _ _ he]; exact hk⟩)⟩
 ·exact h.elim
theorem st_buildSlice (hn : H n = none) (t : TypeId) (len : Nat) (ps : List (Nat × Operand)) (h : vBuildSlice P e H n K t len ps) : Out (fun e H K => vBuildSlice P e H n K t len ps) (ps.map (·.2)) e H n K := by
 unfold vBuildSlice at h
 obtain ⟨et, het, h⟩ := bnd_iff.1 h
 obtain ⟨s, hs, h⟩ := bnd_iff.1 h
 obtain ⟨z, hz, h1, h⟩ := bnd_iff.1 h
 exact ⟨_, _, _, h, Stb.new hn fun e' G K' he hG hk => bnd_intro het (bnd_intro hs (bnd_intro hz ⟨⟨HasParts_congr _ _ he h1.1, h1.2⟩, by rw [setParts_congr _ _ he]; exact hk⟩))⟩
theorem st_buildSliceH (hn : H n = none) (t : TypeId) (len : Nat) (ps : List (Nat × Operand)) (h : vBuildSliceH P e H n K t len ps) : Out (fun e H K => vBuildSliceH P e H n K t len ps) (ps.map (·.2)) e H n K := by
 unfold vBuildSliceH at h
 split at h
 ·rename_i h0
  obtain ⟨et, het, h⟩ := bnd_iff.1 h
  obtain ⟨s, hs, h⟩ := bnd_iff.1 h
  obtain ⟨z, hz, h1, h⟩ := bnd_iff.1 h
  exact ⟨_, _, _, h, Stb.same fun e' G K' he hG hk => by
   show vBuildSliceH P e' G n K' t len ps
   unfold vBuildSliceH
   rw [if_pos h0]
   exact bnd_intro het (bnd_intro hs (bnd_intro hz ⟨h1, hk⟩))⟩
 ·rename_i h0
  obtain ⟨v, H', n', hk, h1, h2, h3, h4⟩ := st_buildSlice hn t len ps h
  exact ⟨v, H', n', hk, h1, h2, h3, fun e' G K' he hG hk => by
   show vBuildSliceH P e' G n K' t len ps
   unfold vBuildSliceH
   rw [if_neg h0]
   exact h4 e' G K' he hG hk⟩
theorem st_makeSlice (hn : H n = none) (t : TypeId) (l c : Operand) (h : vMakeSlice P e H n K t l c) : Out (fun e H K => vMakeSlice P e H n K t l c) [l, c] e H n K := by
 unfold vMakeSlice onV at h
 dsimp only at h
 split at h
 ·rename_i k1 i k2 j e1 e2
  obtain ⟨et, het, h⟩ := bnd_iff.1 h
  obtain ⟨s, hs, h⟩ := bnd_iff.1 h
  obtain ⟨z, hz, h1, h⟩ := bnd_iff.1 h
  exact ⟨_, _, _, h, Stb.new hn fun e' G K' he hG hk => by
   show vMakeSlice P e' G n K' t l c
   unfold vMakeSlice onV
   rw [he l (by simp), he c (by simp), e1, e2]
   exact bnd_intro het (bnd_intro hs (bnd_intro hz ⟨h1, hk⟩))⟩
 ·exact h.elim
theorem st_un (op : UnOp) (x : Operand) (h : vUn e H n K op x) : Out (fun e H K => vUn e H n K op x) [x] e H n K := by
 unfold vUn onV at h
 dsimp only at h
 split at h <;> first
  | exact h.elim
  | (rename_i ex; exact ⟨_, _, _, h, Stb.same fun e' G K' he hG hk => by show vUn e' G n K' _ x; unfold vUn onV; rw [he x (by simp), ex]; exact hk⟩)
theorem vbin_any (op : BinOp) (x y : VV) (K : VV → Prop) (h : vbin op x y K) : ∃ v, K v ∧ ∀ K' : VV → Prop, K' v → vbin op x y K' := by
 unfold vbin at h ⊢
 split at h
 ·cases op <;> dsimp only at h ⊢ <;> exact ⟨_, h.2, fun K' hk => ⟨h.1, hk⟩⟩
 ·split at h <;> first
   | exact h.elim
   | exact ⟨_, h.2, fun K' hk => ⟨h.1, hk⟩⟩
   | exact ⟨_, h, fun K' hk => hk⟩
 ·exact h.elim
theorem st_bin (op : BinOp) (x y : Operand) (h : vBin e H n K op x y) : Out (fun e H K => vBin e H n K op x y) [x, y] e H n K := by
 unfold vBin onV at h
 obtain ⟨v, h1, h2⟩ := vbin_any _ _ _ _ h
 exact ⟨v, _, _, h1, Stb.same fun e' G K' he hG hk => by show vBin e' G n K' op x y; unfold vBin onV; rw [he x (by simp), he y (by simp)]; exact h2 _ hk⟩
theorem vEq_any (op : BinOp) (t : TypeId) (v u : VV) (k : Bool → Prop) (h : vEq P op t v u k) : ∃ b, k b ∧ ∀ k' : Bool → Prop, k' b → vEq P op t v u k' := by
 unfold vEq at h ⊢
 obtain ⟨q, hq, h1, h⟩ := bnd_iff.1 h
 cases op <;> dsimp only at h ⊢ <;> first
  | exact h.elim
  | exact ⟨_, h, fun k' hk => bnd_intro hq ⟨h1, hk⟩⟩
theorem st_binH (op : BinOp) (t : TypeId) (x y : Operand) (h : vBinH P e H n K op t x y) : Out (fun e H K => vBinH P e H n K op t x y) [x, y] e H n K := by
 unfold vBinH onV at h
 dsimp only at h
 generalize ex : e x = v at h
 split at h
 ·split at h
  ·rename_i us ey
   obtain ⟨b, h1, h2⟩ := vEq_any _ _ _ _ _ h
   exact ⟨_, _, _, h1, Stb.same fun e' G K' he hG hk => by show vBinH P e' G n K' op t x y; unfold vBinH onV; rw [he x (by simp), he y (by simp), ex, ey]; exact h2 _ hk⟩
  ·exact h.elim
 ·split at h
  ·rename_i us ey
   obtain ⟨b, h1, h2⟩ := vEq_any _ _ _ _ _ h
   exact ⟨_, _, _, h1, Stb.same fun e' G K' he hG hk => by show vBinH P e' G n K' op t x y; unfold vBinH onV; rw [he x (by simp), he y (by simp), ex, ey]; exact h2 _ hk⟩
  ·exact h.elim
 ·exact h.elim
 ·exact h.elim
 ·rename_i n1 n4 n2 n3
  obtain ⟨v, H', n', h1, h2, h3, h4, h5⟩ := st_bin op x y h
  refine ⟨v, H', n', h1, h2, h3, h4, fun e' G K' he hG hk => ?_⟩
  have := h5 e' G K' he hG hk
  show vBinH P e' G n K' op t x y
  unfold vBinH onV
  dsimp only
  rw [he x (by simp), ex]
  split
  ·exact absurd rfl (n1 _)
  ·exact absurd rfl (n4 _)
  ·exact absurd rfl (n2 _ _)
  ·exact absurd rfl (n3 _ _)
  ·exact this
theorem vBinH_X {op : BinOp} {t : TypeId} {x y : Operand} (h : vBinH P e H n K op t x y) : vBinX P e H n K op t x y := by
 unfold vBinH onV at h
 unfold vBinX onV
 dsimp only at h ⊢
 generalize ex : e x = v at h ⊢
 cases v <;> first
  | exact h.elim
  | exact h
theorem st_max (x y : Operand) (h : vMax e H n K x y) : Out (fun e H K => vMax e H n K x y) [x, y] e H n K := by
 unfold vMax onV at h
 dsimp only at h
 split at h
 ·rename_i k i k' j ex ey
  obtain ⟨h1, h⟩ := h
  exact ⟨_, _, _, h, Stb.same fun e' G K' he hG hk => by show vMax e' G n K' x y; unfold vMax onV; rw [he x (by simp), he y (by simp), ex, ey]; exact ⟨h1, hk⟩⟩
 ·exact h.elim
theorem st_arrPtr (t : TypeId) (x : Operand) (h : vArrPtr P e H n K t x) : Out (fun e H K => vArrPtr P e H n K t x) [x] e H n K := by
 unfold vArrPtr onV at h
 dsimp only at h
 split at h
 ·rename_i s els ex
  obtain ⟨sa, hsa, h⟩ := bnd_iff.1 h
  split at h
  ·obtain ⟨h1, h⟩ := h
   exact ⟨_, _, _, h, Stb.same fun e' G K' he hG hk => by show vArrPtr P e' G n K' t x; unfold vArrPtr onV; rw [he x (by simp), ex]; exact bnd_intro hsa ⟨h1, hk⟩⟩
  ·exact h.elim
 ·rename_i m len ex
  obtain ⟨sa, hsa, h⟩ := bnd_iff.1 h
  obtain ⟨b, hb, h⟩ := bnd_iff.1 h
  split at h
  ·obtain ⟨h1, h⟩ := h
   exact ⟨_, _, _, h, Stb.same fun e' G K' he hG hk => by show vArrPtr P e' G n K' t x; unfold vArrPtr onV; rw [he x (by simp), ex]; exact bnd_intro hsa (bnd_intro (hG _ _ hb) ⟨h1, hk⟩)⟩
  ·exact h.elim
 ·exact h.elim
theorem st_field (t : TypeId) (x : Operand) (f : Nat) (h : vField P e H n K t x f) : Out (fun e H K => vField P e H n K t x f) [x] e H n K := by
 unfold vField onV at h
 dsimp only at h
 split at h
 ·rename_i vs ex
  obtain ⟨s, hs, h1, h⟩ := bnd_iff.1 h
  cases s with
  | st ls =>
   obtain ⟨u, hu, h⟩ := bnd_iff.1 h
   exact ⟨_, _, _, h, Stb.same fun e' G K' he hG hk => by show vField P e' G n K' t x f; unfold vField onV; rw [he x (by simp), ex]; exact bnd_intro hs ⟨h1, bnd_intro hu hk⟩⟩
  | cell => exact h.elim
  | arr _ _ => exact h.elim
 ·exact h.elim
theorem st_extract (x : Operand) (i : Nat) (h : vExtract e H n K x i) : Out (fun e H K => vExtract e H n K x i) [x] e H n K := by
 unfold vExtract onV at h
 dsimp only at h
 split at h
 ·rename_i vs ex
  obtain ⟨u, hu, h⟩ := bnd_iff.1 h
  exact ⟨_, _, _, h, Stb.same fun e' G K' he hG hk => by show vExtract e' G n K' x i; unfold vExtract onV; rw [he x (by simp), ex]; exact bnd_intro hu hk⟩
 ·exact h.elim
theorem st_fieldAddr (t : TypeId) (x : Operand) (f : Nat) (h : vFieldAddr P e H n K t x f) : Out (fun e H K => vFieldAddr P e H n K t x f) [x] e H n K := by
 unfold vFieldAddr onV at h
 dsimp only at h
 split at h
 ·rename_i m p ex
  obtain ⟨blk, hb, h⟩ := bnd_iff.1 h
  cases blk with
  | map es => exact h.elim
  | row s c =>
   obtain ⟨st, hst, h1, h⟩ := bnd_iff.1 h
   cases st with
   | st ls =>
    obtain ⟨sf, hsf, h2, h⟩ := bnd_iff.1 h
    exact ⟨_, _, _, h, Stb.same fun e' G K' he hG hk => by show vFieldAddr P e' G n K' t x f; unfold vFieldAddr onV; rw [he x (by simp), ex]; exact bnd_intro (hG m _ hb) (bnd_intro hst ⟨h1, bnd_intro hsf ⟨h2, hk⟩⟩)⟩
   | cell => exact h.elim
   | arr _ _ => exact h.elim
 ·rename_i s vs ex
  obtain ⟨st, hst, h1, h⟩ := bnd_iff.1 h
  cases st with
  | st ls =>
   obtain ⟨sf, hsf, h2, h⟩ := bnd_iff.1 h
   obtain ⟨u, hu, h⟩ := bnd_iff.1 h
   exact ⟨_, _, _, h, Stb.same fun e' G K' he hG hk => by show vFieldAddr P e' G n K' t x f; unfold vFieldAddr onV; rw [he x (by simp), ex]; exact bnd_intro hst ⟨h1, bnd_intro hsf ⟨h2, bnd_intro hu hk⟩⟩⟩
  | cell => exact h.elim
  | arr _ _ => exact h.elim
 ·exact h.elim
theorem st_indexAddr (t : TypeId) (x i : Operand) (h : vIndexAddr P e H n K t x i) : Out (fun e H K => vIndexAddr P e H n K t x i) [x, i] e H n K := by
 unfold vIndexAddr onV at h
 dsimp only at h
 split at h
 ·rename_i m p i0 len kk k ex ei
  obtain ⟨blk, hb, h⟩ := bnd_iff.1 h
  cases blk with
  | map es => exact h.elim
  | row s c =>
   obtain ⟨et, het, h⟩ := bnd_iff.1 h
   obtain ⟨se, hse, h⟩ := bnd_iff.1 h
   obtain ⟨sa, hsa, h⟩ := bnd_iff.1 h
   cases sa with
   | arr j s' =>
    obtain ⟨h1, h2, h⟩ := h
    exact ⟨_, _, _, h, Stb.same fun e' G K' he hG hk => by show vIndexAddr P e' G n K' t x i; unfold vIndexAddr onV; rw [he x (by simp), he i (by simp), ex, ei]; exact bnd_intro (hG m _ hb) (bnd_intro het (bnd_intro hse (bnd_intro hsa ⟨h1, h2, hk⟩)))⟩
   | cell => exact h.elim
   | st _ => exact h.elim
 ·rename_i s els kk k ex ei
  obtain ⟨et, het, h⟩ := bnd_iff.1 h
  obtain ⟨se, hse, h1, h2, h⟩ := bnd_iff.1 h
  obtain ⟨u, hu, h⟩ := bnd_iff.1 h
  exact ⟨_, _, _, h, Stb.same fun e' G K' he hG hk => by show vIndexAddr P e' G n K' t x i; unfold vIndexAddr onV; rw [he x (by simp), he i (by simp), ex, ei]; exact bnd_intro het (bnd_intro hse ⟨h1, h2, bnd_intro hu hk⟩)⟩
 ·rename_i m p kk k ex ei
  obtain ⟨blk, hb, h⟩ := bnd_iff.1 h
  cases blk with
  | map es => exact h.elim
  | row s c =>
   obtain ⟨st, hst, h1, h⟩ := bnd_iff.1 h
   cases st with
   | arr len s' =>
    obtain ⟨h2, h⟩ := h
    exact ⟨_, _, _, h, Stb.same fun e' G K' he hG hk => by show vIndexAddr P e' G n K' t x i; unfold vIndexAddr onV; rw [he x (by simp), he i (by simp), ex, ei]; exact bnd_intro (hG m _ hb) (bnd_intro hst ⟨h1, h2, hk⟩)⟩
   | cell => exact h.elim
   | st _ => exact h.elim
 ·rename_i s vs kk k ex ei
  obtain ⟨st, hst, h1, h⟩ := bnd_iff.1 h
  cases st with
  | arr len s' =>
   obtain ⟨h2, h⟩ := h
   obtain ⟨u, hu, h⟩ := bnd_iff.1 h
   exact ⟨_, _, _, h, Stb.same fun e' G K' he hG hk => by show vIndexAddr P e' G n K' t x i; unfold vIndexAddr onV; rw [he x (by simp), he i (by simp), ex, ei]; exact bnd_intro hst ⟨h1, h2, bnd_intro hu hk⟩⟩
  | cell => exact h.elim
  | st _ => exact h.elim
 ·exact h.elim
theorem st_index (t : TypeId) (x i : Operand) (h : vIndex P e H n K t x i) : Out (fun e H K => vIndex P e H n K t x i) [x, i] e H n K := by
 unfold vIndex onV at h
 dsimp only at h
 split at h
 ·rename_i s kk k ex ei
  obtain ⟨u, hu, h⟩ := bnd_iff.1 h
  cases u <;> first | exact h.elim | skip
  obtain ⟨h1, h⟩ := h
  exact ⟨_, _, _, h, Stb.same fun e' G K' he hG hk => by show vIndex P e' G n K' t x i; unfold vIndex onV; rw [he x (by simp), he i (by simp), ex, ei]; exact bnd_intro hu ⟨h1, hk⟩⟩
 ·rename_i vs kk k ex ei
  obtain ⟨st, hst, h1, h⟩ := bnd_iff.1 h
  cases st with
  | arr len s' =>
   obtain ⟨h2, h⟩ := h
   obtain ⟨u, hu, h⟩ := bnd_iff.1 h
   exact ⟨_, _, _, h, Stb.same fun e' G K' he hG hk => by show vIndex P e' G n K' t x i; unfold vIndex onV; rw [he x (by simp), he i (by simp), ex, ei]; exact bnd_intro hst ⟨h1, h2, bnd_intro hu hk⟩⟩
  | cell => exact h.elim
  | st _ => exact h.elim
 ·exact h.elim
theorem st_nilCheck (x : Operand) (h : vNilCheck e H n K x) : Out (fun e H K => vNilCheck e H n K x) [x] e H n K := by
 unfold vNilCheck onV at h
 dsimp only at h
 split at h <;> first
  | exact h.elim
  | (rename_i ex; exact ⟨_, _, _, h, Stb.same fun e' G K' he hG hk => by show vNilCheck e' G n K' x; unfold vNilCheck onV; rw [he x (by simp), ex]; exact hk⟩)
theorem st_len (ts : Array TypeId) (x : Operand) (h : vLen P e H n K ts x) : Out (fun e H K => vLen P e H n K ts x) [x] e H n K := by
 unfold vLen onV at h
 dsimp only at h
 obtain ⟨t, ht, h⟩ := bnd_iff.1 h
 obtain ⟨u, hu, h⟩ := bnd_iff.1 h
 generalize ex : e x = v at h
 split at h <;> first
  | exact h.elim
  | exact ⟨_, _, _, h, Stb.same fun e' G K' he hG hk => by show vLen P e' G n K' ts x; unfold vLen onV; rw [he x (by simp), ex]; exact bnd_intro ht (bnd_intro hu hk)⟩
theorem st_min (x y : Operand) (h : vMin e H n K x y) : Out (fun e H K => vMin e H n K x y) [x, y] e H n K := by
 unfold vMin onV at h
 dsimp only at h
 split at h
 ·rename_i k i k' j ex ey
  obtain ⟨h1, h⟩ := h
  exact ⟨_, _, _, h, Stb.same fun e' G K' he hG hk => by show vMin e' G n K' x y; unfold vMin onV; rw [he x (by simp), he y (by simp), ex, ey]; exact ⟨h1, hk⟩⟩
 ·exact h.elim
theorem lohi_any (lo hi : Option VV) (len : Nat) (k : Nat → Nat → Prop) (h : lohi lo hi len k) : ∃ i j, k i j ∧ ∀ k' : Nat → Nat → Prop, k' i j → lohi lo hi len k' := by
 unfold lohi onV at h ⊢
 split at h
 ·exact ⟨_, _, h, fun k' hk => hk⟩
 ·dsimp only at h ⊢
  split at h
  ·exact ⟨_, _, h.2, fun k' hk => ⟨h.1, hk⟩⟩
  ·exact h.elim
 ·dsimp only at h ⊢
  split at h
  ·exact ⟨_, _, h.2, fun k' hk => ⟨h.1, hk⟩⟩
  ·exact h.elim
 ·dsimp only at h ⊢
  split at h
  ·exact ⟨_, _, h.2, fun k' hk => ⟨h.1, hk⟩⟩
  ·exact h.elim
theorem map_congr (e e' : Operand → VV) (o : Option Operand) (h : ∀ x ∈ o.toList, e' x = e x) : o.map e' = o.map e := by
 cases o with
 | none => rfl
 | some x => simp only [Option.map_some]; rw [h x (by simp)]
theorem st_slice (t : TypeId) (x : Operand) (lo hi : Option Operand) (h : vSlice P e H n K t x lo hi) : Out (fun e H K => vSlice P e H n K t x lo hi) (x :: (lo.toList ++ hi.toList)) e H n K := by
 unfold vSlice onV at h
 dsimp only at h
 have hlo : ∀ e' : Operand → VV, (∀ y ∈ x :: (lo.toList ++ hi.toList), e' y = e y) → lo.map e' = lo.map e := fun e' he => map_congr e e' lo fun y hy => he y (by simp at hy ⊢; exact .inr (.inl hy))
 have hhi : ∀ e' : Operand → VV, (∀ y ∈ x :: (lo.toList ++ hi.toList), e' y = e y) → hi.map e' = hi.map e := fun e' he => map_congr e e' hi fun y hy => he y (by simp at hy ⊢; exact .inr (.inr hy))
 split at h
 ·rename_i s ex
  obtain ⟨u, hu, h⟩ := bnd_iff.1 h
  cases u <;> first | exact h.elim | skip
  obtain ⟨i, j, h1, h2⟩ := lohi_any _ _ _ _ h
  exact ⟨_, _, _, h1, Stb.same fun e' G K' he hG hk => by show vSlice P e' G n K' t x lo hi; unfold vSlice onV; rw [he x (by simp), ex]; exact bnd_intro hu (by dsimp only; rw [hlo e' he, hhi e' he]; exact h2 _ hk)⟩
 ·rename_i m p i0 len ex
  obtain ⟨blk, hb, h⟩ := bnd_iff.1 h
  cases blk with
  | map es => exact h.elim
  | row s c =>
   obtain ⟨et, het, h⟩ := bnd_iff.1 h
   obtain ⟨se, hse, h⟩ := bnd_iff.1 h
   obtain ⟨sa, hsa, h⟩ := bnd_iff.1 h
   cases sa with
   | arr j s' =>
    obtain ⟨h0, h⟩ := h
    obtain ⟨i, j, h1, h2⟩ := lohi_any _ _ _ _ h
    exact ⟨_, _, _, h1, Stb.same fun e' G K' he hG hk => by show vSlice P e' G n K' t x lo hi; unfold vSlice onV; rw [he x (by simp), ex]; exact bnd_intro (hG m _ hb) (bnd_intro het (bnd_intro hse (bnd_intro hsa ⟨h0, by rw [hlo e' he, hhi e' he]; exact h2 _ hk⟩)))⟩
   | cell => exact h.elim
   | st _ => exact h.elim
 ·rename_i s els ex
  obtain ⟨et, het, h⟩ := bnd_iff.1 h
  obtain ⟨se, hse, h0, h⟩ := bnd_iff.1 h
  obtain ⟨i, j, h1, h2⟩ := lohi_any _ _ _ _ h
  exact ⟨_, _, _, h1, Stb.same fun e' G K' he hG hk => by show vSlice P e' G n K' t x lo hi; unfold vSlice onV; rw [he x (by simp), ex]; exact bnd_intro het (bnd_intro hse ⟨h0, by rw [hlo e' he, hhi e' he]; exact h2 _ hk⟩)⟩
 ·rename_i m p ex
  obtain ⟨blk, hb, h⟩ := bnd_iff.1 h
  cases blk with
  | map es => exact h.elim
  | row s c =>
   obtain ⟨st, hst, h0, h⟩ := bnd_iff.1 h
   cases st with
   | arr len s' =>
    obtain ⟨u, hu, h⟩ := bnd_iff.1 h
    obtain ⟨i, j, h1, h2⟩ := lohi_any _ _ _ _ h
    exact ⟨_, _, _, h1, Stb.same fun e' G K' he hG hk => by show vSlice P e' G n K' t x lo hi; unfold vSlice onV; rw [he x (by simp), ex]; exact bnd_intro (hG m _ hb) (bnd_intro hst ⟨h0, bnd_intro hu (by rw [hlo e' he, hhi e' he]; exact h2 _ hk)⟩)⟩
   | cell => exact h.elim
   | st _ => exact h.elim
 ·rename_i s vs ex
  obtain ⟨st, hst, h0, h⟩ := bnd_iff.1 h
  cases st with
  | arr len s' =>
   obtain ⟨i, j, h1, h2⟩ := lohi_any _ _ _ _ h
   exact ⟨_, _, _, h1, Stb.same fun e' G K' he hG hk => by show vSlice P e' G n K' t x lo hi; unfold vSlice onV; rw [he x (by simp), ex]; exact bnd_intro hst ⟨h0, by dsimp only; rw [hlo e' he, hhi e' he]; exact h2 _ hk⟩⟩
  | cell => exact h.elim
  | st _ => exact h.elim
 ·exact h.elim
theorem srcOf_any (se : Sh) (u : TypeDesc) (v : VV) (k : List VV → Option Nat → Prop) (h : srcOf H se u v k) : ∃ news m, k news m ∧ ∀ (G : Heap) (k' : List VV → Option Nat → Prop), (∀ m b, H m = some b → G m = some b) → k' news m → srcOf G se u v k' := by
 unfold srcOf onV at h ⊢
 dsimp only at h ⊢
 split at h
 ·exact ⟨_, _, h, fun G k' hG hk => hk⟩
 ·rename_i el m p i len
  obtain ⟨blk, hb, h⟩ := bnd_iff.1 h
  cases blk with
  | map es => exact h.elim
  | row s c =>
   obtain ⟨h0, h⟩ := h
   obtain ⟨c', hc, h⟩ := bnd_iff.1 h
   cases c' <;> first | exact h.elim | skip
   exact ⟨_, _, h.2, fun G k' hG hk => bnd_intro (hG _ _ hb) ⟨h0, bnd_intro hc ⟨h.1, hk⟩⟩⟩
 ·exact ⟨_, _, h.2, fun G k' hG hk => ⟨h.1, hk⟩⟩
 ·exact ⟨_, _, h.2, fun G k' hG hk => ⟨h.1, hk⟩⟩
 ·exact h.elim
theorem st_conv (hn : H n = none) (s d : TypeId) (x : Operand) (h : vConv P e H n K s d x) : Out (fun e H K => vConv P e H n K s d x) [x] e H n K := by
 unfold vConv onV at h
 dsimp only at h
 have str : ∀ v, e x = v → (∀ (e' : Operand → VV) G K', e' x = v → vToStr P e' G n K' s d x → vConv P e' G n K' s d x) → vToStr P e H n K s d x → Out (fun e H K => vConv P e H n K s d x) [x] e H n K := by
  intro v ex hv h
  unfold vToStr at h
  obtain ⟨es, hes, h⟩ := bnd_iff.1 h
  obtain ⟨eu, heu, h⟩ := bnd_iff.1 h
  obtain ⟨ud, hud, h⟩ := bnd_iff.1 h
  split at h
  ·obtain ⟨news, m, h1, h2⟩ := srcOf_any _ _ _ _ h
   obtain ⟨l, hl, h1⟩ := bnd_iff.1 h1
   refine ⟨_, _, _, h1, Stb.same fun e' G K' he hG hk => hv e' G K' (by rw [he x (by simp), ex]) ?_⟩
   unfold vToStr
   rw [he x (by simp)]
   exact bnd_intro hes (bnd_intro heu (bnd_intro hud (h2 G _ hG (bnd_intro hl hk))))
  ·exact h.elim
 split at h
 ·rename_i kk i ex
  unfold vConvert onV at h
  rw [ex] at h
  dsimp only at h
  obtain ⟨us, hus, h⟩ := bnd_iff.1 h
  obtain ⟨ud, hud, h⟩ := bnd_iff.1 h
  cases ud <;> first | exact h.elim | skip
  exact ⟨_, _, _, h, Stb.same fun e' G K' he hG hk => by show vConv P e' G n K' s d x; unfold vConv vConvert onV; rw [he x (by simp), ex]; exact bnd_intro hus (bnd_intro hud hk)⟩
 ·rename_i l ex
  unfold vToBytes onV at h
  rw [ex] at h
  dsimp only at h
  obtain ⟨us, hus, h⟩ := bnd_iff.1 h
  obtain ⟨es, hes, h⟩ := bnd_iff.1 h
  obtain ⟨eu, heu, h⟩ := bnd_iff.1 h
  split at h
  ·exact ⟨_, _, _, h, Stb.new hn fun e' G K' he hG hk => by show vConv P e' G n K' s d x; unfold vConv vToBytes onV; rw [he x (by simp), ex]; exact bnd_intro hus (bnd_intro hes (bnd_intro heu hk))⟩
  ·exact h.elim
 ·rename_i p k ex
  exact str _ ex (fun e' G K' he h => by unfold vConv onV; rw [he]; exact h) h
 ·rename_i p k ex
  exact str _ ex (fun e' G K' he h => by unfold vConv onV; rw [he]; exact h) h
 ·exact h.elim
theorem st_append (hn : H n = none) (ts : Array TypeId) (s x : Operand) (h : vAppendH P e H n K ts s x) : Out (fun e H K => vAppendH P e H n K ts s x) [s, x] e H n K := by
 unfold vAppendH onV at h
 dsimp only at h
 split at h
 ·rename_i ex
  unfold vAppend at h
  obtain ⟨t, ht, h⟩ := bnd_iff.1 h
  obtain ⟨tx, htx, h⟩ := bnd_iff.1 h
  obtain ⟨et, het, h⟩ := bnd_iff.1 h
  obtain ⟨se, hse, h⟩ := bnd_iff.1 h
  obtain ⟨z, hz, h⟩ := bnd_iff.1 h
  obtain ⟨u, hu, h⟩ := bnd_iff.1 h
  obtain ⟨news, m, h1, h2⟩ := srcOf_any _ _ _ _ h
  unfold onV at h1
  rw [ex] at h1
  obtain ⟨h3, h1⟩ := h1
  exact ⟨_, _, _, h1, Stb.new hn fun e' G K' he hG hk => by
   show vAppendH P e' G n K' ts s x
   unfold vAppendH onV
   rw [he s (by simp), ex]
   show vAppend P e' G n K' ts s x
   unfold vAppend
   rw [he s (by simp), he x (by simp), ex]
   exact bnd_intro ht (bnd_intro htx (bnd_intro het (bnd_intro hse (bnd_intro hz (bnd_intro hu (h2 G _ hG ⟨h3, hk⟩))))))⟩
 ·rename_i m ex
  obtain ⟨hm, h⟩ := h
  unfold vAppendF at h
  obtain ⟨t, ht, h⟩ := bnd_iff.1 h
  obtain ⟨tx, htx, h⟩ := bnd_iff.1 h
  obtain ⟨et, het, h⟩ := bnd_iff.1 h
  obtain ⟨se, hse, h⟩ := bnd_iff.1 h
  obtain ⟨z, hz, h⟩ := bnd_iff.1 h
  obtain ⟨u, hu, h⟩ := bnd_iff.1 h
  obtain ⟨news, m3, ⟨h3, h1⟩, h2⟩ := srcOf_any _ _ _ _ h
  exact ⟨_, _, _, h1, Stb.new hn fun e' G K' he hG hk => by
   show vAppendH P e' G n K' ts s x
   unfold vAppendH onV
   rw [he s (by simp), ex]
   show cnd _ (vAppendF P e' G n K' ts x)
   refine ⟨hm, ?_⟩
   unfold vAppendF
   rw [he x (by simp)]
   exact bnd_intro ht (bnd_intro htx (bnd_intro het (bnd_intro hse (bnd_intro hz (bnd_intro hu (h2 G _ hG ⟨h3, hk⟩))))))⟩
 ·exact h.elim
mutual
theorem Rd.up {H G : Heap} (hG : ∀ m b, H m = some b → G m = some b) : ∀ (v d : VV), Rd H v d → Rd G v d
 | .agg vs, d, h => by
  simp only [Rd] at h ⊢
  obtain ⟨ds, h1, h2⟩ := h
  exact ⟨ds, h1, RdL.up hG vs ds h2⟩
 | .sl none n, d, h => by simpa only [Rd] using h
 | .sl (some (m, p, i)) n, d, h => by
  simp only [Rd] at h ⊢
  obtain ⟨s, c, k, e, els, h1, h2⟩ := h
  exact ⟨s, c, k, e, els, hG _ _ h1, h2⟩
 | .int _ _, _, h => by simpa only [Rd] using h
 | .bool _, _, h => by simpa only [Rd] using h
 | .str _, _, h => by simpa only [Rd] using h
 | .tup _, _, h => by simpa only [Rd] using h
 | .ptr _ _, _, h => by simpa only [Rd] using h
 | .fn _ _, _, h => by simpa only [Rd] using h
 | .map _, _, h => by simpa only [Rd] using h
 | .dat _ _, _, h => by simpa only [Rd] using h
 | .pd _ _, _, h => by simpa only [Rd] using h
 | .vec _ _, _, h => by simpa only [Rd] using h
 | .any, _, h => by simpa only [Rd] using h
 | .raw _, _, h => by simpa only [Rd] using h
theorem RdL.up {H G : Heap} (hG : ∀ m b, H m = some b → G m = some b) : ∀ (vs ds : List VV), RdL H vs ds → RdL G vs ds
 | [], _, h => by simpa only [RdL] using h
 | v :: vs, ds, h => by
  simp only [RdL] at h ⊢
  obtain ⟨d, ds', h1, h2, h3⟩ := h
  exact ⟨d, ds', h1, Rd.up hG v d h2, RdL.up hG vs ds' h3⟩
end
theorem st_call (hn : H n = none) (f : Operand) (args : List Operand) (h : vCallH P e H n K f args) : Out (fun e H K => vCallH P e H n K f args) (f :: args) e H n K := by
 unfold vCallH onV at h
 dsimp only at h
 split at h
 ·rename_i g caps ex
  obtain ⟨hc, h⟩ := h
  rcases h with ⟨r, ⟨ds, h1, h2, h3⟩, h⟩ | ⟨es, hM, h⟩
  ·refine ⟨_, _, _, h, Stb.same fun e' G K' he hG hk => ?_⟩
   show vCallH P e' G n K' f args
   unfold vCallH onV
   rw [he f (by simp), ex]
   have hm : args.map e' = args.map e := List.map_congr_left fun y hy => he y (by simp [hy])
   dsimp only
   rw [hm]
   exact ⟨hc, .inl ⟨r, ⟨ds, h1, h2, h3.imp (fun h => ⟨RdL.up hG _ _ h.1, h.2⟩) id⟩, hk⟩⟩
  ·refine ⟨_, _, _, h, Stb.new hn fun e' G K' he hG hk => ?_⟩
   show vCallH P e' G n K' f args
   unfold vCallH onV
   rw [he f (by simp), ex]
   have hm : args.map e' = args.map e := List.map_congr_left fun y hy => he y (by simp [hy])
   dsimp only
   rw [hm]
   exact ⟨hc, .inr ⟨es, hM, hk⟩⟩
 ·exact h.elim
theorem st_lookup (t : TypeId) (x i : Operand) (c : Bool) (h : vLookup P e H n K t x i c) : Out (fun e H K => vLookup P e H n K t x i c) [x, i] e H n K := by
 unfold vLookup onV at h
 dsimp only at h
 split at h
 ·rename_i m ex
  obtain ⟨b, hb, h⟩ := bnd_iff.1 h
  cases b with
  | row s c => exact h.elim
  | map es =>
   obtain ⟨d, hd, h1, h⟩ := bnd_iff.1 h
   obtain ⟨z, hz, h⟩ := bnd_iff.1 h
   exact ⟨_, _, _, h, Stb.same fun e' G K' he hG hk => by
    show vLookup P e' G n K' t x i c
    unfold vLookup onV
    rw [he x (by simp), he i (by simp), ex]
    exact bnd_intro (hG _ _ hb) (bnd_intro hd ⟨h1, bnd_intro hz hk⟩)⟩
 ·exact h.elim
theorem vopH_stable {o : Oper} (hn : H n = none) (h : vopH P e H n K o) : Out (fun e H K => vopH P e H n K o) o.op.operands.toList e H n K := by
 have lift : ∀ {F : (Operand → VV) → Heap → (VV → Heap → Nat → Prop) → Prop} {xs : List Operand}, (∀ x ∈ xs, x ∈ o.op.operands.toList) → (∀ e G K, F e G K → vopH P e G n K o) → Out F xs e H n K → Out (fun e H K => vopH P e H n K o) o.op.operands.toList e H n K := by
  intro F xs hx hF ⟨v, H', n', hk, h1, h2, h3, h4⟩
  exact ⟨v, H', n', hk, h1, h2, h3, fun e' G K' he hG hk => hF _ _ _ (h4 e' G K' (fun x hx' => he x (hx x hx')) hG hk)⟩
 unfold vopH at h
 split at h <;> rename_i ho
 ·exact lift (by rw [ho]; simp [Op.operands]) (fun e G K h => by unfold vopH; rw [ho]; exact h) (st_move _ h)
 ·exact lift (by rw [ho]; simp [Op.operands]) (fun e G K h => by unfold vopH; rw [ho]; exact h) (st_move _ h)
 ·exact lift (by rw [ho]; simp [Op.operands]) (fun e G K h => by unfold vopH; rw [ho]; exact h) (st_pick _ _ _ h)
 ·exact lift (by rw [ho]; simp [Op.operands]) (fun e G K h => by unfold vopH; rw [ho]; exact h) (st_alloc hn _ h)
 ·exact lift (by rw [ho]; simp [Op.operands]) (fun e G K h => by unfold vopH; rw [ho]; exact h) (st_box hn _ _ h)
 ·exact lift (by rw [ho]; simp [Op.operands]) (fun e G K h => by unfold vopH; rw [ho]; exact h) (st_build _ _ h)
 ·exact lift (by rw [ho]; simp [Op.operands]) (fun e G K h => by unfold vopH; rw [ho]; exact h) (st_buildSliceH hn _ _ _ h)
 ·exact lift (by rw [ho]; simp [Op.operands]) (fun e G K h => by unfold vopH; rw [ho]; exact h) (st_load _ _ h)
 ·exact lift (by rw [ho]; simp [Op.operands]) (fun e G K h => by unfold vopH; rw [ho]; exact h) (st_nilCheck _ h)
 ·exact lift (by rw [ho]; simp [Op.operands]) (fun e G K h => by unfold vopH; rw [ho]; exact h) (st_binH _ _ _ _ h)
 ·exact lift (by rw [ho]; simp [Op.operands]) (fun e G K h => by unfold vopH; rw [ho]; exact h) (st_un _ _ h)
 ·exact lift (by rw [ho]; simp [Op.operands]) (fun e G K h => by unfold vopH; rw [ho]; exact h) (st_conv hn _ _ _ h)
 ·exact lift (by rw [ho]; simp [Op.operands]) (fun e G K h => by unfold vopH; rw [ho]; exact h) (st_makeSlice hn _ _ _ h)
 ·exact lift (by rw [ho]; simp [Op.operands]) (fun e G K h => by unfold vopH; rw [ho]; exact h) (st_slice _ _ _ _ h)
 ·exact lift (by rw [ho]; simp [Op.operands]) (fun e G K h => by unfold vopH; rw [ho]; exact h) (st_fieldAddr _ _ _ h)
 ·exact lift (by rw [ho]; simp [Op.operands]) (fun e G K h => by unfold vopH; rw [ho]; exact h) (st_field _ _ _ h)
 ·exact lift (by rw [ho]; simp [Op.operands]) (fun e G K h => by unfold vopH; rw [ho]; exact h) (st_indexAddr _ _ _ h)
 ·exact lift (by rw [ho]; simp [Op.operands]) (fun e G K h => by unfold vopH; rw [ho]; exact h) (st_index _ _ _ h)
 ·exact lift (by rw [ho]; simp [Op.operands]) (fun e G K h => by unfold vopH; rw [ho]; exact h) (st_extract _ _ h)
 ·exact lift (by rw [ho]; simp [Op.operands]) (fun e G K h => by unfold vopH; rw [ho]; exact h) (st_arrPtr _ _ h)
 ·exact lift (by rw [ho]; simp [Op.operands]) (fun e G K h => by unfold vopH; rw [ho]; exact h) (st_lookup _ _ _ _ h)
 ·rename_i c
  obtain ⟨cal, xs, ts⟩ := c
  dsimp only at h
  cases cal with
  | value f => exact lift (by rw [ho]; simp [Op.operands, Call.operands]) (fun e G K h => by unfold vopH; rw [ho]; exact h) (st_call hn _ _ h)
  | invoke r m => exact h.elim
  | builtin b =>
   dsimp only at h
   split at h
   ·rename_i x hx
    exact lift (by rw [ho]; simp [Op.operands, Call.operands, args_list xs _ hx]) (fun e G K h => by unfold vopH; rw [ho]; dsimp only; rw [hx]; exact h) (st_len _ _ h)
   ·rename_i s x hx
    obtain ⟨h0, h⟩ := h
    obtain ⟨v, H', n', hk, h1, h2, h3, h4⟩ := st_append hn _ _ _ h
    exact ⟨v, H', n', hk, h1, h2, h3, fun e' G K' he hG hk => by
     show vopH P e' G n K' o
     unfold vopH
     rw [ho]
     dsimp only
     rw [hx]
     exact ⟨h0, h4 e' G K' (fun y hy => he y (by rw [ho]; simp [Op.operands, Call.operands, args_list xs _ hx]; simpa using hy)) hG hk⟩⟩
   ·rename_i x y hx
    exact lift (by rw [ho]; simp [Op.operands, Call.operands, args_list xs _ hx]) (fun e G K h => by unfold vopH; rw [ho]; dsimp only; rw [hx]; exact h) (st_min _ _ h)
   ·rename_i x y hx
    exact lift (by rw [ho]; simp [Op.operands, Call.operands, args_list xs _ hx]) (fun e G K h => by unfold vopH; rw [ho]; dsimp only; rw [hx]; exact h) (st_max _ _ h)
   ·exact h.elim
 ·exact h.elim
end
end Go.Proofs.Ytpdhdkpebbfnnaa.V
end
section
namespace Go.Proofs.Ytpdhdkpebbfnnaa.V
open Go Go.RowKit Go.MapKept

def isBS : Op → Bool
 | .buildSlice _ _ _ => true
 | _ => false
section
variable {P : Program} {Z : Nat → Nat → Prop} [Zone Z] {B : Nat} {ρ : Names} {w : World} {H : Heap} {n : Nat} {tm : Nat → VV} {a : Act} {K : VV → Heap → Nat → Prop} {o : Oper}
theorem buildSliceF_sound (hh : HR Z B ρ H n w) (t : TypeId) (len : Nat) (parts : Array (Nat × Operand)) (ho : o.op = .buildSlice t len parts) (h0 : len = 0)
  (h : bnd (EL P t) fun et => bnd (SH P et) fun s => bnd (ZE P et) fun z => cnd (parts.toList = [] ∧ s.size ≠ 0) (K (.sl (some (n + 1099511627776, [], 0)) 0) H n)) : Runs P Z B K ρ w (execOp a.eval o) := by
 subst h0
 obtain ⟨et, het, h⟩ := bnd_iff.1 h
 obtain ⟨s, hs, h⟩ := bnd_iff.1 h
 obtain ⟨z, hz, ⟨hp, hs0⟩, hK⟩ := bnd_iff.1 h
 obtain ⟨s', zv, i, hs', hi, hzv, hH, hsz, hV⟩ := ZE_spec hz
 have hul := EL_spec het
 have hpe : parts = #[] := by apply Array.ext'; simpa using hp
 subst hpe
 have hr : ∀ f : Nat → Value, (Array.range 0).map f = #[] := fun f => by apply Array.ext'; simp
 have ha := heap_alloc w (.cells #[] et)
 have hsz' : (w.alloc (.cells #[] et)).heap.size = w.heap.size + 1 := by simp
 refine .inl ⟨.slice (some ⟨w.heap.size, 0, none⟩) 0 0, w.alloc (.cells #[] et), ?_, _, _, _, ρ, hK, ?_, hh.kept (by omega) ha.2, ⟨fun _ _ h => h, by omega, fun b hb _ => ha.2 b hb, fun _ _ h => .inl h, fun _ h => h, fun _ h => .inl h⟩, (Below.refl B w).alloc hh.base _⟩
 ·simp only [execOp,ho,Instr.buildSlice,Sem.run_bind,run_underlying hul w,Result.andThen_ok,sizeOf,typeInfo,run_program,hi,Sem.run_pure]
  rw [if_neg (by simp)]
  simp only [Nat.zero_mul,if_true,Sem.run_bind,Sem.run_pure,Result.andThen_ok,hr,newRow,run_newObj,Array.foldlM_empty,List.foldlM_toArray,List.foldlM_nil,Array.foldl_empty]
  first | rfl | (simp [newRow]; rfl) | simp [newRow]
 ·simp only [VR,VR1,C1]
  exact .inl ⟨trivial, _, rfl⟩
theorem appendF_sound (hT : TM ρ w tm a) (hh : HR Z B ρ H n w) (hG : Gives Z n K) (s x : Operand) (ts : Array TypeId) (hts : ts.size = 2) (ho : o.op = .call { callee := .builtin .append, args := #[s, x], argTypes := ts }) (A : Option Addr) (hp : a.eval s = .slice A 0 0) (h : vAppendF P (ev tm) H n K ts x) : Runs P Z B K ρ w (execOp a.eval o) := by
 unfold vAppendF at h
 obtain ⟨t, ht0, h⟩ := bnd_iff.1 h
 obtain ⟨tx, ht1, h⟩ := bnd_iff.1 h
 obtain ⟨et, het, h⟩ := bnd_iff.1 h
 obtain ⟨se, hse, h⟩ := bnd_iff.1 h
 obtain ⟨z, hz, h⟩ := bnd_iff.1 h
 obtain ⟨u, hu, hS⟩ := bnd_iff.1 h
 have hts' : ts = #[t, tx] := by
  obtain ⟨l⟩ := ts
  match l, hts with
  | [p, q], _ => simp at ht0 ht1; rw [ht0, ht1]
 subst hts'
 obtain ⟨news, m2, ncs, h, hsn, hcn, hsrc, hnl, _⟩ := src_sound hh hT hu _ hS
 obtain ⟨⟨hb1, hb2⟩, hk⟩ := h
 obtain ⟨s', zv, inf, hs', hi, hzv, hH, hsz, hV⟩ := ZE_spec hz
 rw [hse] at hs'
 injection hs' with hs'
 subst hs'
 have hul := EL_spec het
 obtain ⟨inf', d, hi', hud, hisz, hrow⟩ := shOf_spec hse
 rw [hi] at hi'
 injection hi' with hi'
 subst hi'
 have hbyv : BY P et = inf.bytes := by simp [BY, hi]
 rw [hbyv] at hb1
 rw [← hisz] at hsrc
 have run : ∀ (v : Value) (w' : World), (Builtin.append_ #[t, tx] o.type #[a.eval s, a.eval x]).run P w = .ok v w' → (execOp a.eval o).run P w = .ok (.value v) w' := by
  intro v w' hr
  simp [execOp, ho, resolve, invoke, builtin, hr]
 by_cases h0 : news.length = 0
 ·have : news = [] := List.eq_nil_of_length_eq_zero h0
  subst this
  have hnc : ncs = [] := List.eq_nil_of_length_eq_zero (by simpa using hnl)
  subst hnc
  have hr := run_append_nothing (P := P) w t tx o.type et inf hul hi A 0 0 (Nat.le_refl _) (a.eval x) (by simpa using hsrc)
  rw [← hp] at hr
  exact .inl ⟨_, w, run _ _ hr, _, _, _, ρ, hk, by rw [hp]; exact VR_nil A, (hh.ghost (hh.fresh n (Zone.free n (hG.one hk))) _).more (Nat.le_succ _), Ext.refl _ _, Below.refl _ _⟩
 ·have hold : (Builtin.firstCells inf.size 0 (.slice A 0 0)).run P w.drew = .ok ([] : List Value).toArray w.drew := by
   cases A with
   | none => exact run_firstCells_none _ _ _ _ _
   | some ad => exact run_firstCells_some _ _ _ ad 0 0 [] (by simp) (by simp)
  have hr := run_append_grow_src (P := P) w t tx o.type et inf zv hul hi hzv A 0 0 [] hold (a.eval x) news.length ncs hsrc (by omega) (by omega) (growslice_fits (by omega) (by simpa using hb1))
  rw [← hp] at hr
  have hg := grown_good (K := K) (olds := []) (ocs := []) (et := et) (zc := zv.cells) (c := grownCap w (0 + news.length) 0 et) hh (hG.one hk) (by simp only [CR]) (by simp) hcn hsn hsz (by
   have := grownCap_ge w (0 + news.length) 0 et
   simpa using this) (by simpa using hk)
  exact .inl ⟨_, _, run _ _ hr, hg⟩
theorem vopH_sound (hT : TM ρ w tm a) (hh : HR Z B ρ H n w) (hG : Gives Z n K) (hfar : ∀ m, n + 549755813888 ≤ m → ρ m = none) (h : vopH P (ev tm) H n K o) : Runs P Z B K ρ w (execOp a.eval o) := by
 by_cases hc : ∃ f xs ts, o.op = .call { callee := .value f, args := xs, argTypes := ts }
 ·obtain ⟨f, xs, ts, ho⟩ := hc
  unfold vopH at h
  rw [ho] at h
  dsimp only at h
  unfold vCallH onV at h
  dsimp only at h
  have hf := ev_sound hT f
  split at h
  ·rename_i g caps e
   rw [e] at hf
   obtain ⟨cs, hp, hcv⟩ := hf.fn
   obtain ⟨hc, h⟩ := h
   refine .inr (.inr ⟨g, (xs.map a.eval) ++ cs, ?_, ?_⟩)
   ·unfold callable at hc
    split at hc
    ·rename_i fn hfn
     simp only [Bool.and_eq_true,bne_iff_ne,ne_eq] at hc
     obtain ⟨b, hb⟩ := Option.isSome_iff_exists.1 hc.2
     simp [execOp, ho, resolve, hp, Deferred.ofValue, invoke, callFunc, hfn, hc.1, hb]
    ·cases hc
   ·have hA : VRA ρ w (xs.toList.map (ev tm) ++ caps) ((xs.map a.eval).toList ++ cs.toList) := VRA_append _ _ _ _ (by have := VRA_map hT xs.toList; simpa using this) (VRA_caps _ _ hcv)
    have e : ((xs.map a.eval).toList ++ cs.toList).toArray = xs.map a.eval ++ cs := by
     apply Array.ext'
     simp
    rw [← e]
    rcases h with ⟨r, ⟨ds, h1, h2, h3⟩, hk⟩ | ⟨es, ⟨h1, h2, h3, h4⟩, hk⟩
    ·rcases h3 with ⟨h4, h5⟩ | ⟨h4, h5⟩
     ·refine (h1 _ w _ (VRA.data hh _ ds _ h4 h2 hA)).mono fun e w' ⟨x, he, hb, hv⟩ => ⟨x, he, ?_⟩
      obtain ⟨g1, g2⟩ := hh.wide hb.size hb.block
      exact ⟨r, H, n, _, hk, VR.plain h5 hv, g1, g2, hb.mono hh.base⟩
     ·subst h4
      refine (h1 _ w _ (VRA.bare _ _ h5 h2 hA)).mono fun e w' ⟨x, he, hb, hv⟩ => ⟨x, he, ?_⟩
      obtain ⟨g1, g2⟩ := hh.wide hb.size hb.block
      refine ⟨r, H, n, _, hk, VR.mono (fun m l hm => by cases hm) (fun b hlt hu => ?_) hv, g1, g2, hb.mono hh.base⟩
      obtain ⟨q3, _⟩ := hu
      rcases q3 with q3 | q3
      ·exact ⟨.inl q3.1, q3.2⟩
      ·exact ⟨.inr q3, fun m l hm e => by have := (hh.lt m l hm).2; omega⟩
    ·refine (h1 _ w _ (VRA.bare _ _ h4 h3 hA)).mono fun e w' ⟨b, he, hb, hb1, hb2, hmap⟩ => ⟨_, he, ?_⟩
     have hZ := hG.one hk
     obtain ⟨ys, clock, m1, m2⟩ := hmap.obj
     have g1 := hh.newMap (w' := w') hZ ⟨b, 0, 0, .cell⟩ hb1 hb2 hb.size hb.block ⟨⟨ys, clock, m1, ME_fn _ _ h2 m2⟩, hmap.born⟩
     refine ⟨_, _, _, _, hk, ?_, g1, ext_new (hh.fresh n (Zone.free n hZ)) _ hb.size (fun c hc' _ => hb.block c hc') (.inl hb1), hb.mono hh.base⟩
     simp only [VR,VR1,C1]
     exact ⟨_, by rw [give_ap, if_pos rfl], rfl⟩
  ·exact h.elim
 by_cases hbs : ∃ t len parts, o.op = .buildSlice t len parts
 ·obtain ⟨t, len, parts, ho⟩ := hbs
  unfold vopH at h
  rw [ho] at h
  dsimp only at h
  unfold vBuildSliceH at h
  split at h
  ·rename_i h0
   exact buildSliceF_sound hh t len parts ho h0 h
  ·refine vop_soundZ (fun f xs ts e => hc ⟨f, xs, ts, e⟩) hT hh hG ?_
   unfold vop
   rw [ho]
   exact h
 by_cases hap : ∃ s x ts, o.op = .call { callee := .builtin .append, args := #[s, x], argTypes := ts } ∧ (∃ m, ev tm s = .sl (some (m, [], 0)) 0)
 ·obtain ⟨s, x, ts, ho, m, es⟩ := hap
  unfold vopH at h
  rw [ho] at h
  obtain ⟨hts, h⟩ : ts.size = 2 ∧ vAppendH P (ev tm) H n K ts s x := h
  unfold vAppendH onV at h
  rw [es] at h
  obtain ⟨hm, h⟩ := h
  have hs := ev_sound hT s
  rw [es] at hs
  rcases hs.sl with ⟨_, A, hp⟩ | ⟨l, cap, e', j', hl, _⟩
  ·exact appendF_sound hT hh hG s x ts hts ho A hp h
  ·rw [hfar m hm] at hl; cases hl
 ·refine vop_soundZ (fun f xs ts e => hc ⟨f, xs, ts, e⟩) hT hh hG ?_
  have hbs2 : isBS o.op = false := by
   cases hb : isBS o.op with
   | false => rfl
   | true =>
    cases he : o.op <;> rw [he] at hb <;> first | (cases hb; done) | exact absurd ⟨_, _, _, he⟩ hbs
  unfold vopH at h
  unfold vop
  split at h
  all_goals first
   | exact h.elim
   | (rename_i ho; rw [ho] at hbs2; simp [isBS] at hbs2; done)
   | (rename_i ho; rw [ho]; exact h)
   | (rename_i ho; rw [ho]; exact vBinH_X h)
   | skip
  rename_i c ho
  rw [ho]
  obtain ⟨cal, xs, ts⟩ := c
  cases cal with
  | value f => exact absurd ⟨f, xs, ts, ho⟩ hc
  | invoke r m => exact h.elim
  | builtin b =>
   dsimp only at h ⊢
   unfold vBuiltin
   split at h
   ·rename_i hx; rw [hx]; exact vLenM_of h
   ·rename_i hx
    rw [hx]
    obtain ⟨h0, h⟩ := h
    unfold vAppendH onV at h
    dsimp only at h
    split at h
    ·exact ⟨h0, h⟩
    ·rename_i m es
     exact absurd ⟨_, _, _, by rw [ho]; congr 1; congr 1; apply Array.ext'; exact hx, m, es⟩ hap
    ·exact h.elim
   ·rename_i hx; rw [hx]; exact h
   ·rename_i hx; rw [hx]; exact h
   ·exact h.elim
end

def vheld (P : Program) (ops : List Oper) : List Oper → (Nat → VV) → Heap → Nat → ((Nat → VV) → Heap → Nat → Prop) → Prop
 | [], tm, H, n, K => K tm H n
 | o :: l, tm, H, n, K => match o.guard with
  | none => vopH P (ev tm) H n (fun v H' n' => cnd (n' ≤ n + 64) (vheld P ops l (put o.dst v tm) H' (n + 64) K)) o
  | some (g, want) => bnd (dstAt ops g) fun d => onV (tm d) fun v => match v with
   | .bool b => vif (b == want) (vopH P (ev (upd tm d (.bool want))) H n (fun v H' n' => cnd (n' ≤ n + 64) (vheld P ops l (put o.dst v (upd tm d (.bool want))) H' (n + 64) K)) o)
     (vheld P ops l (put o.dst (.raw undef) (upd tm d (.bool (!want)))) H (n + 64) K)
   | .raw u => cnd (u = undef) (vheld P ops l (put o.dst (.raw undef) tm) H (n + 64) K)
   | _ => False
def Does (P : Program) (tmF : Nat → VV) (G : Heap) (n : Nat) (o : Oper) : Prop :=
 ∃ v n', (∀ t, o.dst = some t → tmF t = v) ∧ n ≤ n' ∧ n' ≤ n + 64 ∧ ∀ e' K', (∀ x ∈ o.op.operands.toList, e' x = ev tmF x) → K' v G n' → vopH P e' G n K' o
def Fact (P : Program) (ops : List Oper) (tmF : Nat → VV) (G : Heap) (n : Nat) (o : Oper) : Prop :=
 (o.guard = none ∧ Does P tmF G n o) ∨ ∃ g want d, o.guard = some (g, want) ∧ dstAt ops g = some d ∧
  ((tmF d = .bool want ∧ Does P tmF G n o) ∨ ((tmF d = .bool (!want) ∨ tmF d = .raw undef) ∧ ∀ t, o.dst = some t → tmF t = .raw undef))
def Facts (P : Program) (ops : List Oper) (tmF : Nat → VV) (G : Heap) : Nat → List Oper → Prop
 | _, [] => True
 | n, o :: l => Fact P ops tmF G n o ∧ Facts P ops tmF G (n + 64) l
def wfL (ops : Array Oper) : List Oper → Bool
 | [] => true
 | o :: l => (match o.dst with | some d => l.all fun o' => o'.dst != some d | none => true) && ((o.looksAt ops).all fun t => (o :: l).all fun o' => o'.dst != some t) && wfL ops l
theorem looks_operand {ops : Array Oper} {o : Oper} {t : Nat} (h : Operand.tmp t ∈ o.op.operands.toList) : t ∈ o.looksAt ops := by
 unfold Oper.looksAt
 simp only [List.mem_append,List.mem_filterMap]
 exact .inl ⟨_, h, rfl⟩
theorem looks_guard {ops : Array Oper} {o : Oper} {g d : Nat} {want : Bool} (hg : o.guard = some (g, want)) (h : dstAt ops.toList g = some d) : d ∈ o.looksAt ops := by
 unfold Oper.looksAt
 rw [hg]
 rw [dstAt_eq, Array.getElem?_toList] at h
 simp only [List.mem_append]
 right
 rw [h]
 simp
theorem upd_same {tm : Nat → VV} {d : Nat} {v : VV} (h : tm d = v) : upd tm d v = tm := by
 funext t
 rw [upd_ap]
 split
 ·rename_i e; rw [e, h]
 ·rfl
theorem held_facts {P : Program} {ops : Array Oper} {K : (Nat → VV) → Heap → Nat → Prop} : ∀ (l : List Oper) (tm : Nat → VV) (H : Heap) (n : Nat), wfL ops l = true → (∀ m, n ≤ m → H m = none) → vheld P ops.toList l tm H n K →
  ∃ tmF G, K tmF G (n + 64 * l.length) ∧ (∀ t, (∀ o ∈ l, o.dst ≠ some t) → tmF t = tm t) ∧ ((∀ m b, H m = some b → G m = some b) ∧ ∀ m, m < n → G m = H m) ∧ Facts P ops.toList tmF G n l
 | [], tm, H, n, _, _, h => ⟨tm, H, h, fun _ _ => rfl, ⟨fun _ _ h => h, fun _ _ => rfl⟩, trivial⟩
 | o :: l, tm, H, n, hw, hn, h => by
  simp only [wfL,Bool.and_eq_true] at hw
  obtain ⟨⟨hw1, hw2⟩, hw3⟩ := hw
  have hd : ∀ d, o.dst = some d → ∀ o' ∈ l, o'.dst ≠ some d := fun d hd o' ho' => by
   rw [hd] at hw1
   simpa using (List.all_eq_true.1 hw1) o' ho'
  have hl : ∀ t ∈ o.looksAt ops, ∀ o' ∈ o :: l, o'.dst ≠ some t := fun t ht o' ho' => by
   simpa using (List.all_eq_true.1 ((List.all_eq_true.1 hw2) t ht)) o' ho'
  have hput : ∀ (tm' : Nat → VV) (v : VV) (t : Nat), o.dst ≠ some t → put o.dst v tm' t = tm' t := by
   intro tm' v t ht
   cases hod : o.dst with
   | none => rfl
   | some d => simp only [put,upd_ap]; rw [if_neg (by intro e; rw [e] at ht; exact ht hod)]
  have done : ∀ (tm' : Nat → VV), (∀ t, tm' t = tm t) → vopH P (ev tm') H n (fun v H' n' => cnd (n' ≤ n + 64) (vheld P ops.toList l (put o.dst v tm') H' (n + 64) K)) o →
    ∃ tmF G, K tmF G (n + 64 * (l.length + 1)) ∧ (∀ t, (∀ o' ∈ o :: l, o'.dst ≠ some t) → tmF t = tm t) ∧ ((∀ m b, H m = some b → G m = some b) ∧ ∀ m, m < n → G m = H m) ∧ Does P tmF G n o ∧ Facts P ops.toList tmF G (n + 64) l := by
   intro tm' htm h
   obtain ⟨v, H', n', ⟨hn', hk⟩, s1, s2, s3, s4⟩ := vopH_stable (hn n (Nat.le_refl _)) h
   obtain ⟨tmF, G, k1, k2, k3, k4⟩ := held_facts l (put o.dst v tm') H' (n + 64) hw3 (fun m hm => by rw [s3 m (.inr (by omega))]; exact hn m (by omega)) hk
   refine ⟨tmF, G, by rw [show n + 64 * (l.length + 1) = n + 64 + 64 * l.length by omega]; exact k1, fun t ht => ?_, ⟨fun m b hm => k3.1 m b (s2 m b hm), fun m hm => by rw [k3.2 m (by omega), s3 m (.inl hm)]⟩, ⟨v, n', fun t ht => ?_, s1, hn', fun e' K' he hK => s4 e' G K' (fun x hx => ?_) k3.1 hK⟩, k4⟩
   ·rw [k2 t (fun o' ho' => ht o' (by simp [ho'])), hput tm' v t (ht o (by simp)), htm]
   ·rw [k2 t (hd t ht), ht]
    simp [put, upd_ap]
   ·rw [he x hx]
    cases x with
    | tmp t =>
     have := looks_operand (ops := ops) hx
     show tmF t = tm' t
     rw [k2 t (fun o' ho' => hl t this o' (by simp [ho'])), hput tm' v t (hl t this o (by simp))]
    | _ => rfl
  have skip : ∀ (tm' : Nat → VV), (∀ t, tm' t = tm t) → vheld P ops.toList l (put o.dst (.raw undef) tm') H (n + 64) K →
    ∃ tmF G, K tmF G (n + 64 * (l.length + 1)) ∧ (∀ t, (∀ o' ∈ o :: l, o'.dst ≠ some t) → tmF t = tm t) ∧ ((∀ m b, H m = some b → G m = some b) ∧ ∀ m, m < n → G m = H m) ∧ (∀ t, o.dst = some t → tmF t = .raw undef) ∧ Facts P ops.toList tmF G (n + 64) l := by
   intro tm' htm h
   obtain ⟨tmF, G, k1, k2, k3, k4⟩ := held_facts l _ H (n + 64) hw3 (fun m hm => hn m (by omega)) h
   refine ⟨tmF, G, by rw [show n + 64 * (l.length + 1) = n + 64 + 64 * l.length by omega]; exact k1, fun t ht => ?_, ⟨k3.1, fun m hm => k3.2 m (by omega)⟩, fun t ht => ?_, k4⟩
   ·rw [k2 t (fun o' ho' => ht o' (by simp [ho'])), hput tm' _ t (ht o (by simp)), htm]
   ·rw [k2 t (hd t ht), ht]
    simp [put, upd_ap]
  simp only [vheld] at h
  split at h
  ·rename_i hg
   obtain ⟨tmF, G, k1, k2, k3, k4, k5⟩ := done tm (fun _ => rfl) h
   exact ⟨tmF, G, k1, k2, k3, .inl ⟨hg, k4⟩, k5⟩
  ·rename_i g want hg
   obtain ⟨d, hdg, h⟩ := bnd_iff.1 h
   have hdl := looks_guard hg hdg
   unfold onV at h
   dsimp only at h
   split at h
   ·rename_i b hb
    obtain ⟨h1, h2⟩ := h
    by_cases hbw : (b == want) = true
    ·have hbe : b = want := by simpa using hbw
     subst hbe
     have hu := upd_same hb
     have h1 := h1 hbw
     rw [hu] at h1
     obtain ⟨tmF, G, k1, k2, k3, k4, k5⟩ := done tm (fun _ => rfl) h1
     exact ⟨tmF, G, k1, k2, k3, .inr ⟨g, b, d, hg, hdg, .inl ⟨by rw [k2 d (hl d hdl)]; exact hb, k4⟩⟩, k5⟩
    ·have hbf : (b == want) = false := by simpa using hbw
     have hbe : b = !want := by cases b <;> cases want <;> simp_all
     subst hbe
     have hu := upd_same hb
     have h2 := h2 hbf
     rw [hu] at h2
     obtain ⟨tmF, G, k1, k2, k3, k4, k5⟩ := skip tm (fun _ => rfl) h2
     exact ⟨tmF, G, k1, k2, k3, .inr ⟨g, want, d, hg, hdg, .inr ⟨.inl (by rw [k2 d (hl d hdl)]; exact hb), k4⟩⟩, k5⟩
   ·rename_i u hb
    obtain ⟨rfl, h⟩ := h
    obtain ⟨tmF, G, k1, k2, k3, k4, k5⟩ := skip tm (fun _ => rfl) h
    exact ⟨tmF, G, k1, k2, k3, .inr ⟨g, want, d, hg, hdg, .inr ⟨.inr (by rw [k2 d (hl d hdl)]; exact hb), k4⟩⟩, k5⟩
   ·exact h.elim
theorem Facts.nth {P : Program} {ops : List Oper} {tmF : Nat → VV} {G : Heap} : ∀ (l : List Oper) (n i : Nat) (o : Oper), Facts P ops tmF G n l → l[i]? = some o → Fact P ops tmF G (n + 64 * i) o
 | [], _, _, _, _, h => by simp at h
 | x :: l, n, 0, o, hf, h => by simp at h; subst h; exact hf.1
 | x :: l, n, i + 1, o, hf, h => by
  have := Facts.nth l (n + 64) i o hf.2 (by simpa using h)
  rwa [show n + 64 * (i + 1) = n + 64 + 64 * i by omega]
def reachB (ops : Array Oper) : Nat → Oper → Nat → Bool
 | 0, _, _ => false
 | f + 1, o, j => o.after.any fun e => Region.binds .any e && (e.on == j || (match ops[e.on]? with | some o' => reachB ops f o' j | none => false))
def Closed (ops : Array Oper) (listed : Array Bool) : Prop := ∀ i o, ops[i]? = some o → listed.getD i false = true → ∀ e ∈ o.after, Region.binds .any e = true → listed.getD e.on false = true
theorem reach_listed {ops : Array Oper} {listed : Array Bool} (hc : Closed ops listed) : ∀ (f : Nat) (o : Oper) (j : Nat), reachB ops f o j = true → (∀ e ∈ o.after, Region.binds .any e = true → listed.getD e.on false = true) → listed.getD j false = true
 | 0, _, _, h, _ => by simp [reachB] at h
 | f + 1, o, j, h, hall => by
  simp only [reachB,Array.any_eq_true'] at h
  obtain ⟨e, he, h⟩ := h
  simp only [Bool.and_eq_true,Bool.or_eq_true,beq_iff_eq] at h
  obtain ⟨hb, h⟩ := h
  have hl := hall e he hb
  rcases h with h | h
  ·rw [← h]; exact hl
  ·split at h
   ·rename_i o' ho'
    exact reach_listed hc f o' j h (hc e.on o' ho' hl)
   ·cases h
def drawOk (ops : Array Oper) (k : Nat) : Bool :=
 decide (k ≤ ops.size ∧ ops.size ≤ 1000000) && wfL ops (ops.toList.take k) && (List.range k).all (fun j => match ops[j]? with | some o => o.after.all (fun e => !Region.binds .any e || decide (e.on < j)) | none => true) &&
 ((List.range k).all fun i => match ops[i]? with
  | some o => (o.looksAt ops).all fun t => (List.range k).all fun j => (match ops[j]? with | some o' => o'.dst != some t | none => true) || reachB ops ops.size o j
  | none => true) &&
 ((List.range ops.size).all fun j => decide (j < k) || (match ops[j]? with
  | some o => (List.range j).all (fun i => reachB ops ops.size o i) && o.after.all (fun e => !Region.binds .any e || decide (e.on < j))
  | none => true))
section
variable {P : Program} {N : NN} {B : Nat} {ρ0 : Names} {w0 : World} {ops : Array Oper} {k nx : Nat} {tmF : Nat → VV} {G : Heap} {K : VS → Prop} {Q : Exit → Act → World → Prop}
theorem getD_set {listed : Array Bool} {i j : Nat} (hi : i < listed.size) : (listed.setIfInBounds i true).getD j false = if j = i then true else listed.getD j false := by
 simp only [Array.getD_eq_getD_getElem?,Array.getElem?_setIfInBounds]
 by_cases h : i = j
 ·subst h; simp [hi]
 ·rw [if_neg h, if_neg (Ne.symm h)]
theorem getD_true_false {listed : Array Bool} {i : Nat} : listed.getD i true = false ↔ i < listed.size ∧ listed.getD i false = false := by
 simp only [Array.getD_eq_getD_getElem?]
 by_cases h : i < listed.size
 ·simp [h]
 ·simp [Array.getElem?_eq_none (by omega : listed.size ≤ i)]; omega
theorem tail_any (hd : ∀ o ∈ ops.toList, ∀ t, o.dst = some t → t < N) (hreach : ∀ j o, k ≤ j → ops[j]? = some o → (∀ i, i < j → reachB ops ops.size o i = true) ∧ ∀ e ∈ o.after, Region.binds .any e = true → e.on < j)
  (next : ∀ S' a' w' ρ', K S' → SR N B ρ0 w0 S' a' w' ρ' → Q .normal a' w') :
  ∀ (fuel j : Nat) (listed : Array Bool) (S : VS) (a : Act) (w : World) (ρ : Names), k ≤ j → ops.size ≤ j + fuel → listed.size = ops.size → (∀ i, listed.getD i false = decide (i < j)) → Closed ops listed →
   vlist P ops.toList (ops.toList.drop j) S K → SR N B ρ0 w0 S a w ρ → wpAny P .any ops Q fuel listed a w := by
 intro fuel
 have ready : ∀ (j : Nat) (listed : Array Bool), k ≤ j → listed.size = ops.size → (∀ i, listed.getD i false = decide (i < j)) → Closed ops listed → ∀ i, i ∈ Region.ready .any ops listed ↔ i = j ∧ j < ops.size := by
  intro j listed hkj hsz hl hc i
  rw [mem_ready, getD_true_false, hl i]
  constructor
  ·rintro ⟨⟨h1, h2⟩, o, ho, hall⟩
   have hji : j ≤ i := by simpa using h2
   refine ⟨?_, by omega⟩
   rcases Nat.eq_or_lt_of_le hji with h | h
   ·exact h.symm
   ·exfalso
    have := reach_listed hc ops.size o j ((hreach i o (by omega) ho).1 j h) hall
    rw [hl j] at this
    simp at this
  ·rintro ⟨rfl, hlt⟩
   refine ⟨⟨by omega, by simp⟩, ops[i], by simp [hlt], fun e he hb => ?_⟩
   rw [hl]
   have := (hreach i ops[i] hkj (by simp [hlt])).2 e he hb
   simpa using this
 induction fuel with
 | zero =>
  intro j listed S a w ρ hkj hj hsz hl hc h hS
  have hr : Region.ready .any ops listed = [] := List.eq_nil_iff_forall_not_mem.2 fun i hi => by have := ((ready j listed hkj hsz hl hc i).1 hi).2; omega
  refine ⟨hr, ?_⟩
  rw [List.drop_of_length_le (by simp; omega)] at h
  exact next S a w ρ h hS
 | succ fuel ih =>
  intro j listed S a w ρ hkj hj hsz hl hc h hS
  by_cases hjl : j < ops.size
  case neg =>
   have hr : Region.ready .any ops listed = [] := List.eq_nil_iff_forall_not_mem.2 fun i hi => by have := ((ready j listed hkj hsz hl hc i).1 hi).2; omega
   refine ⟨fun _ => ?_, fun i hi => by rw [hr] at hi; cases hi⟩
   rw [List.drop_of_length_le (by simp; omega)] at h
   exact next S a w ρ h hS
  refine ⟨fun hr => ?_, fun i hi => ?_⟩
  ·have := (ready j listed hkj hsz hl hc j).2 ⟨rfl, hjl⟩
   rw [hr] at this
   cases this
  ·obtain ⟨rfl, _⟩ := (ready j listed hkj hsz hl hc i).1 hi
   have ho : ops[i]? = some ops[i] := by simp [hjl]
   have hdrop : ops.toList.drop i = ops[i] :: ops.toList.drop (i + 1) := by
    rw [List.drop_eq_getElem_cons (by simpa using hjl)]
    simp
   rw [hdrop] at h
   obtain ⟨_, o, ho', hall⟩ := mem_ready.1 hi
   rw [ho] at ho'
   injection ho' with ho'
   subst ho'
   have hl' : ∀ x, (listed.setIfInBounds i true).getD x false = decide (x < i + 1) := fun x => by
    rw [getD_set (by omega), hl x]
    by_cases h : x = i
    ·simp [h]
    ·simp [h]; omega
   have hc' : Closed ops (listed.setIfInBounds i true) := fun x o hx hlx e he hb => by
    rw [hl'] at hlx ⊢
    by_cases hxi : x = i
    ·subst hxi
     rw [ho] at hx
     injection hx with hx
     subst hx
     have := hall e he hb
     rw [hl] at this
     simp at this ⊢
     omega
    ·have := hc x o hx (by rw [hl]; simp at hlx ⊢; omega) e he hb
     rw [hl] at this
     simp at this ⊢
     omega
   have hst := vstep_sound (Q := Q) (ops := ops) (Nx := wpAny P .any ops Q fuel (listed.setIfInBounds i true)) (hd ops[i] (by simp)) h hS fun S' a' w' ρ' hk hS' =>
    ih (i + 1) _ S' a' w' ρ' (by omega) (by omega) (by simpa using hsz) hl' hc' hk hS'
   unfold wpOp
   rw [ho]
   dsimp only
   split
   ·rename_i hw; rw [if_pos hw] at hst; exact .inl hst
   ·rename_i hw; rw [if_neg hw] at hst; exact hst

def Fr (nx k : Nat) (listed : Array Bool) (m : Nat) : Prop := nx ≤ m ∧ ∀ j, j < k → nx + 64 * j ≤ m → m < nx + 64 * j + 64 → listed.getD j false = false
def ZF (R : Nat → Prop) : Nat → Nat → Prop := fun _ m => R m
instance (R : Nat → Prop) : Zone (ZF R) := ⟨fun _ => False, fun _ _ _ _ h => h, fun _ _ h => h.elim, fun _ h => h.elim⟩
def ZI (R : Nat → Prop) (b : Nat) : Nat → Nat → Prop := fun n m => (max n b ≤ m ∧ m < b + 64) ∨ (R m ∧ ¬ (b ≤ m ∧ m < b + 64))
instance (R : Nat → Prop) (b : Nat) : Zone (ZI R b) := ⟨fun n => b ≤ n ∧ n < b + 64, fun n n' m h h' => by
  rcases h' with h' | h'
  ·exact .inl ⟨by omega, h'.2⟩
  ·exact .inr h', fun n m h h' e => by
  subst e
  rcases h' with h' | h'
  ·omega
  ·exact h'.2 h, fun n h => .inl ⟨by omega, h.2⟩⟩
theorem HR.zone {Z Z' : Nat → Nat → Prop} [Zone Z] [Zone Z'] {B n n' : Nat} {ρ : Names} {w : World} {H : Heap} (h : HR Z B ρ H n w) (hz : ∀ m, Z' n' m → Z n m) : HR Z' B ρ H n' w :=
 ⟨h.base, fun m hm => h.fresh m (hz m hm), h.lt, h.apart, h.row, h.map⟩
def pendB (ops : Array Oper) (listed : Array Bool) (k t : Nat) : Bool := (List.range k).any fun j => !listed.getD j false && (match ops[j]? with | some o => o.dst == some t | none => false)
theorem pendB_true {listed : Array Bool} {t : Nat} : pendB ops listed k t = true ↔ ∃ j, j < k ∧ listed.getD j false = false ∧ ∃ o, ops[j]? = some o ∧ o.dst = some t := by
 simp only [pendB,List.any_eq_true,List.mem_range,Bool.and_eq_true,Bool.not_eq_true']
 constructor
 ·rintro ⟨j, h1, h2, h3⟩
  refine ⟨j, h1, h2, ?_⟩
  split at h3
  ·rename_i o ho; exact ⟨o, ho, by simpa using h3⟩
  ·cases h3
 ·rintro ⟨j, h1, h2, o, ho, h3⟩
  exact ⟨j, h1, h2, by rw [ho]; simpa using h3⟩
def tmP (ops : Array Oper) (listed : Array Bool) (k : Nat) (tmF : Nat → VV) (t : Nat) : VV := if pendB ops listed k t = true then .any else tmF t
def cnt (listed : Array Bool) : Nat → Nat
 | 0 => 0
 | m + 1 => cnt listed m + (if listed.getD m false = true then 1 else 0)
theorem cnt_le (listed : Array Bool) : ∀ m, cnt listed m ≤ m
 | 0 => Nat.le_refl _
 | m + 1 => by have := cnt_le listed m; simp only [cnt]; split <;> omega
theorem cnt_lt {listed : Array Bool} : ∀ m j, j < m → listed.getD j false = false → cnt listed m < m
 | 0, _, h, _ => by omega
 | m + 1, j, h, hj => by
  simp only [cnt]
  by_cases e : j = m
  ·subst e; rw [hj]; have := cnt_le listed j; simp; omega
  ·have := cnt_lt m j (by omega) hj; split <;> omega
theorem cnt_set {listed : Array Bool} {i : Nat} (hi : i < listed.size) (hf : listed.getD i false = false) : ∀ m, cnt (listed.setIfInBounds i true) m = cnt listed m + (if i < m then 1 else 0)
 | 0 => by simp [cnt]
 | m + 1 => by
  simp only [cnt]
  rw [cnt_set hi hf m, getD_set hi]
  by_cases e : m = i
  ·subst e; simp [hf]
  ·rw [if_neg e]
   by_cases h : i < m
   ·rw [if_pos h, if_pos (show i < m + 1 by omega)]; omega
   ·rw [if_neg h, if_neg (show ¬ i < m + 1 by omega)]; omega
theorem exists_ready {listed : Array Bool} (hsz : listed.size = ops.size) (hk : k ≤ ops.size) (hb : ∀ j o, j < k → ops[j]? = some o → ∀ e ∈ o.after, Region.binds .any e = true → e.on < j) : ∀ m j, j ≤ m → j < k → listed.getD j false = false → Region.ready .any ops listed ≠ [] := by
 intro m
 induction m with
 | zero =>
  intro j hjm hjk hj hr
  have hlt : j < ops.size := by omega
  have : j ∈ Region.ready .any ops listed := mem_ready.2 ⟨getD_true_false.2 ⟨by omega, hj⟩, ops[j], by simp [hlt], fun e he h => by have := hb j ops[j] hjk (by simp [hlt]) e he h; omega⟩
  rw [hr] at this
  cases this
 | succ m ih =>
  intro j hjm hjk hj hr
  have hlt : j < ops.size := by omega
  by_cases hall : ∀ e ∈ ops[j].after, Region.binds .any e = true → listed.getD e.on false = true
  ·have : j ∈ Region.ready .any ops listed := mem_ready.2 ⟨getD_true_false.2 ⟨by omega, hj⟩, ops[j], by simp [hlt], hall⟩
   rw [hr] at this
   cases this
  ·simp only [Classical.not_forall] at hall
   obtain ⟨e, he, h, hl⟩ := hall
   have := hb j ops[j] hjk (by simp [hlt]) e he h
   exact ih e.on (by omega) (by omega) (by simpa using hl) hr
theorem head_any (hk9 : k ≤ ops.size ∧ ops.size ≤ 1000000) (hd : ∀ o ∈ ops.toList, ∀ t, o.dst = some t → t < N)
  (hreach : ∀ j o, k ≤ j → ops[j]? = some o → (∀ i, i < j → reachB ops ops.size o i = true) ∧ ∀ e ∈ o.after, Region.binds .any e = true → e.on < j)
  (hb : ∀ j o, j < k → ops[j]? = some o → ∀ e ∈ o.after, Region.binds .any e = true → e.on < j)
  (hlook : ∀ i o, i < k → ops[i]? = some o → ∀ t ∈ o.looksAt ops, ∀ j o', j < k → ops[j]? = some o' → o'.dst = some t → reachB ops ops.size o j = true)
  (hone : ∀ i j o o' t, i < k → j < k → i ≠ j → ops[i]? = some o → ops[j]? = some o' → o.dst = some t → o'.dst ≠ some t)
  (hF : ∀ i o, i < k → ops[i]? = some o → Fact P ops.toList tmF G (nx + 64 * i) o)
  (htail : vlist P ops.toList (ops.toList.drop k) ⟨tmF, G, nx + 64 * k⟩ K)
  (next : ∀ S' a' w' ρ', K S' → SR N B ρ0 w0 S' a' w' ρ' → Q .normal a' w') :
  ∀ (fuel : Nat) (listed : Array Bool) (a : Act) (w : World) (ρ : Names), ops.size ≤ cnt listed k + fuel → listed.size = ops.size → (∀ i, k ≤ i → listed.getD i false = false) → Closed ops listed →
   TM ρ w (tmP ops listed k tmF) a → a.defers = N.ds → a.tmps.size = N → HR (ZF (Fr nx k listed)) B ρ G 0 w → Below B w0 w → Ext ρ0 w0 ρ w → wpAny P .any ops Q fuel listed a w := by
 obtain ⟨hk, hsm⟩ := hk9
 intro fuel
 induction fuel with
 | zero =>
  intro listed a w ρ hf hsz hl hc hT hdf hts hh hbl he
  have hkz : k = ops.size := by have := cnt_le listed k; omega
  have hall : ∀ i, i < k → listed.getD i false = true := fun i hi => by
   cases hx : listed.getD i false with
   | true => rfl
   | false => have := cnt_lt k i hi hx; omega
  have hTF : TM ρ w tmF a := fun t => by
   have := hT t
   unfold tmP at this
   rw [if_neg (by intro e; obtain ⟨j, h1, h2, _⟩ := pendB_true.1 e; rw [hall j h1] at h2; cases h2)] at this
   exact this
  exact tail_any hd hreach next 0 k listed ⟨tmF, G, nx + 64 * k⟩ a w ρ (Nat.le_refl _) (by omega) hsz (fun i => by
    by_cases hi : i < k
    ·simp [hi, hall i hi]
    ·simp [hi, hl i (by omega)]) hc htail
   ⟨hTF, hdf, hts, hh.zone (fun m (hm : nx + 64 * k ≤ m) => ⟨by omega, fun j hj h1 h2 => by omega⟩), hbl, he⟩
 | succ fuel ih =>
  intro listed a w ρ hf hsz hl hc hT hdf hts hh hbl he
  by_cases hall : ∀ i, i < k → listed.getD i false = true
  ·have hTF : TM ρ w tmF a := fun t => by
    have := hT t
    unfold tmP at this
    rw [if_neg (by intro e; obtain ⟨j, h1, h2, _⟩ := pendB_true.1 e; rw [hall j h1] at h2; cases h2)] at this
    exact this
   exact tail_any hd hreach next (fuel + 1) k listed ⟨tmF, G, nx + 64 * k⟩ a w ρ (Nat.le_refl _) (by have := cnt_le listed k; omega) hsz (fun i => by
     by_cases hi : i < k
     ·simp [hi, hall i hi]
     ·simp [hi, hl i (by omega)]) hc htail
    ⟨hTF, hdf, hts, hh.zone (fun m (hm : nx + 64 * k ≤ m) => ⟨by omega, fun j hj h1 h2 => by omega⟩), hbl, he⟩
  ·simp only [Classical.not_forall] at hall
   obtain ⟨j0, hj0, hj0l⟩ := hall
   have hj0f : listed.getD j0 false = false := by simpa using hj0l
   refine ⟨fun hr => absurd hr (exists_ready hsz hk hb j0 j0 (Nat.le_refl _) hj0 hj0f), fun i hi => ?_⟩
   obtain ⟨h0, o, ho, hafter⟩ := mem_ready.1 hi
   obtain ⟨hil, hif⟩ := getD_true_false.1 h0
   have hik : i < k := by
    rcases Nat.lt_or_ge i k with h | h
    ·exact h
    ·exfalso
     have := reach_listed hc ops.size o j0 ((hreach i o h ho).1 j0 (by omega)) hafter
     rw [hj0f] at this
     cases this
   -- what it looks at is there
   have hseen : ∀ t ∈ o.looksAt ops, tmP ops listed k tmF t = tmF t := fun t ht => by
    unfold tmP
    rw [if_neg]
    intro e
    obtain ⟨j, h1, h2, o', ho', h3⟩ := pendB_true.1 e
    have := reach_listed hc ops.size o j (hlook i o hik ho t ht j o' h1 ho' h3) hafter
    rw [h2] at this
    cases this
   have hdN : ∀ t, o.dst = some t → t < a.tmps.size := fun t ht => by
    rw [hts]
    exact hd o (by obtain ⟨hlt, e⟩ := Array.getElem?_eq_some_iff.1 ho; rw [← e]; simp) t ht
   have hcl : Closed ops (listed.setIfInBounds i true) := fun x o' hx hlx e' he' hb' => by
    rw [getD_set hil] at hlx ⊢
    split
    ·rfl
    ·by_cases hxi : x = i
     ·subst hxi
      rw [ho] at hx
      injection hx with hx
      subst hx
      exact hafter e' he' hb'
     ·rw [if_neg hxi] at hlx
      exact hc x o' hx hlx e' he' hb'
   -- on behind the operation
   have go : ∀ (ρ' : Names) (x : Value) (w' : World) (v : VV) (n' : Nat), (∀ t, o.dst = some t → tmF t = v) → VR ρ' w' v x → HR (ZI (Fr nx k listed) (nx + 64 * i)) B ρ' G n' w' → n' ≤ nx + 64 * i + 64 → Ext ρ w ρ' w' → Below B w w' →
     wpAny P .any ops Q fuel (listed.setIfInBounds i true) (a.put o.dst x) w' := by
    intro ρ' x w' v n' hv hvx hh' hn' he' hb'
    have hz := put_size a o.dst x
    refine ih _ _ _ ρ' ?_ (by simpa using hsz) (fun j hj => by rw [getD_set hil, if_neg (by omega)]; exact hl j hj) hcl ?_ (by rw [hz.2]; exact hdf) (by rw [hz.1]; exact hts) (hh'.zone fun m hm => .inr ⟨⟨hm.1, fun j hj h1 h2 => ?_⟩, fun hc' => ?_⟩) (hbl.trans hb') (he.trans he')
    ·rw [cnt_set hil hif, if_pos hik]; omega
    ·intro t
     unfold tmP
     split
     ·simp [VR, VR1]
     ·rename_i hp
      have hput := (hT.ext he').put hdN hvx t
      have e : V.put o.dst v (tmP ops listed k tmF) t = tmF t := by
       cases hod : o.dst with
       | none =>
        simp only [V.put]
        unfold tmP
        rw [if_neg]
        intro e
        obtain ⟨j, h1, h2, o', ho', h3⟩ := pendB_true.1 e
        refine hp (pendB_true.2 ⟨j, h1, ?_, o', ho', h3⟩)
        rw [getD_set hil, if_neg]
        ·exact h2
        ·intro e; subst e; rw [ho] at ho'; injection ho' with ho'; subst ho'; rw [hod] at h3; cases h3
       | some d =>
        simp only [V.put,upd_ap]
        split
        ·rename_i e; rw [e]; exact (hv d hod).symm
        ·rename_i htd
         unfold tmP
         rw [if_neg]
         intro e
         obtain ⟨j, h1, h2, o', ho', h3⟩ := pendB_true.1 e
         refine hp (pendB_true.2 ⟨j, h1, ?_, o', ho', h3⟩)
         rw [getD_set hil, if_neg]
         ·exact h2
         ·intro e; subst e; rw [ho] at ho'; injection ho' with ho'; subst ho'; rw [hod] at h3; injection h3 with h3; exact htd h3.symm
      rw [e] at hput
      exact hput
    ·have := hm.2 j hj h1 h2
     rw [getD_set hil] at this
     split at this
     ·cases this
     ·exact this
    ·have := hm.2 i hik hc'.1 hc'.2
     rw [getD_set hil, if_pos rfl] at this
     cases this
   have hhI : HR (ZI (Fr nx k listed) (nx + 64 * i)) B ρ G (nx + 64 * i) w := hh.zone fun m hm => by
    rcases hm with hm | hm
    ·refine ⟨by omega, fun j hj h1 h2 => ?_⟩
     have : j = i := by omega
     subst this
     exact hif
    ·exact hm.1
   have run : Does P tmF G (nx + 64 * i) o → o.wp P a w (wpAny P .any ops Q fuel (listed.setIfInBounds i true)) Q := by
    rintro ⟨v, n', hv, hn1, hn2, hdo⟩
    have hop := hdo (ev (tmP ops listed k tmF)) (fun v' H' n'' => v' = v ∧ H' = G ∧ n'' = n') (fun x hx => by
     cases x with
     | tmp t => exact hseen t (looks_operand hx)
     | _ => rfl) ⟨rfl, rfl, rfl⟩
    have hr := vopH_sound (Z := ZI (Fr nx k listed) (nx + 64 * i)) hT hhI (fun v' H' n'' h1 h2 => (⟨Nat.le_refl _, by omega⟩ : nx + 64 * i ≤ nx + 64 * i ∧ nx + 64 * i < nx + 64 * i + 64)) (fun m hm => hh.fresh m ⟨by omega, fun j hj h1 h2 => by omega⟩) hop
    unfold Oper.wp
    rcases hr with ⟨x, w', hr, hg⟩ | ⟨w', hr, hg⟩ | ⟨f, xs, hr, hcl'⟩
    ·rw [hr]
     obtain ⟨v', H', n'', ρ', ⟨rfl, rfl, rfl⟩, h1, h2, h3, h4⟩ := hg
     exact go ρ' x w' v' n'' hv h1 h2 hn2 h3 h4
    ·rw [hr]
     obtain ⟨v', H', n'', ρ', ⟨rfl, rfl, rfl⟩, h1, h2, h3, h4⟩ := hg
     exact go ρ' undef w' v' n'' hv h1 h2 hn2 h3 h4
    ·rw [hr]
     refine Calls.mono hcl' fun e w' hee => ?_
     obtain ⟨x, rfl, v', H', n'', ρ', ⟨rfl, rfl, rfl⟩, h1, h2, h3, h4⟩ := hee
     exact go ρ' x w' v' n'' hv h1 h2 hn2 h3 h4
   have skip : (∀ t, o.dst = some t → tmF t = .raw undef) → wpAny P .any ops Q fuel (listed.setIfInBounds i true) (a.put o.dst undef) w := fun hv =>
    go ρ undef w (.raw undef) (nx + 64 * i) hv (by simp [VR, VR1, C1]) hhI (by omega) (Ext.refl _ _) (Below.refl _ _)
   have hst : if Region.wanted o (yielded ops a.tmps) = true then o.wp P a w (wpAny P .any ops Q fuel (listed.setIfInBounds i true)) Q else wpAny P .any ops Q fuel (listed.setIfInBounds i true) (a.put o.dst undef) w := by
    rcases hF i o hik ho with ⟨hg, hdo⟩ | ⟨g, want, d, hg, hdg, hrest⟩
    ·rw [if_pos (by simp [Region.wanted, hg])]
     exact run hdo
    ·have hTd := hT d
     rw [hseen d (looks_guard hg hdg)] at hTd
     have hyd : yielded ops a.tmps g = match a.tmps[d]? with | some (.bool b) => some b | _ => none := by
      unfold yielded
      rw [dstAt_eq, Array.getElem?_toList] at hdg
      rw [hdg]
      simp only [Option.bind_some]
      rfl
     have hbool : ∀ b, tmF d = .bool b → Region.wanted o (yielded ops a.tmps) = (b == want) := fun b hb2 => by
      rw [hb2] at hTd
      have hx := hTd.bool
      have hbd : a.tmps[d]? = some (.bool b) := by
       rw [Array.getD_eq_getD_getElem?] at hx
       cases hy : a.tmps[d]? with
       | none => rw [hy] at hx; simp [undef] at hx
       | some y => rw [hy] at hx; simp at hx; rw [hx]
      simp only [Region.wanted,hg,hyd,hbd]
      cases b <;> cases want <;> rfl
     rcases hrest with ⟨hdv, hdo⟩ | ⟨hdv, hu⟩
     ·rw [hbool want hdv, if_pos (by simp)]
      exact run hdo
     ·have hw : Region.wanted o (yielded ops a.tmps) = false := by
       rcases hdv with hdv | hdv
       ·rw [hbool _ hdv]; cases want <;> rfl
       ·rw [hdv] at hTd
        have hx : a.tmps.getD d undef = undef := by simpa [VR, VR1, C1] using hTd
        simp only [Region.wanted,hg,hyd]
        rw [Array.getD_eq_getD_getElem?] at hx
        cases hy : a.tmps[d]? with
        | none => cases want <;> rfl
        | some y =>
         rw [hy] at hx
         simp only [Option.getD_some] at hx
         subst hx
         cases want <;> rfl
      rw [hw, if_neg (by simp)]
      exact skip hu
   unfold wpOp
   rw [ho]
   dsimp only
   split
   ·rename_i hw; rw [if_pos hw] at hst; exact .inl hst
   ·rename_i hw; rw [if_neg hw] at hst; exact hst
theorem wfL_one {ops : Array Oper} (l : List Oper) : ∀ (i j : Nat) (o o' : Oper) (t : Nat), wfL ops l = true → i < j → l[i]? = some o → l[j]? = some o' → o.dst = some t → o'.dst ≠ some t := by
 induction l with
 | nil => intro i j o o' t _ _ h _ _; simp at h
 | cons x l ih =>
  intro i j o o' t hw hij h h' hd
  simp only [wfL,Bool.and_eq_true] at hw
  obtain ⟨⟨hw1, _⟩, hw3⟩ := hw
  cases j with
  | zero => omega
  | succ j =>
   rw [List.getElem?_cons_succ] at h'
   cases i with
   | zero =>
    rw [List.getElem?_cons_zero] at h
    injection h with h
    subst h
    rw [hd] at hw1
    simpa using (List.all_eq_true.1 hw1) o' (List.mem_of_getElem? h')
   | succ i =>
    rw [List.getElem?_cons_succ] at h
    exact ih i j o o' t hw3 (by omega) h h' hd
theorem region_intro {S : VS} (hm : P.follows .mixedOrders = true) (hfr : ∀ m, S.nx ≤ m → S.hp m = none) (k : Nat) (hok : drawOk ops k = true)
  (h : vheld P ops.toList (ops.toList.take k) S.tm S.hp S.nx fun tm H n => vlist P ops.toList (ops.toList.drop k) ⟨tm, H, n⟩ K) : vdraw P ops S K := by
 intro id N B ρ0 w0 Q a w ρ hd hT hdf hts hh hbl he next
 unfold drawOk at hok
 simp only [Bool.and_eq_true,decide_eq_true_eq] at hok
 obtain ⟨⟨⟨⟨hk9, hw⟩, ha⟩, hl⟩, ht⟩ := hok
 have hk := hk9.1
 have hlen : (ops.toList.take k).length = k := by simp [hk]
 have rep : ∀ i, (Array.replicate ops.size false).getD i false = false := fun i => by
  rw [Array.getD_eq_getD_getElem?, Array.getElem?_replicate]
  split <;> rfl
 obtain ⟨tmF, G, htail, hsame, ⟨hG1, hG2⟩, hF⟩ := held_facts (ops := ops) _ S.tm S.hp S.nx hw hfr h
 rw [hlen] at htail
 have htk : ∀ i o, i < k → ops[i]? = some o → (ops.toList.take k)[i]? = some o := fun i o hi ho => by
  rw [List.getElem?_take_of_lt hi, Array.getElem?_toList]; exact ho
 have hnamed : ∀ m l, ρ m = some l → m < S.nx := fun m l hm' => by
  rcases Nat.lt_or_ge m S.nx with h' | h'
  ·exact h'
  ·have := hh.fresh m h'
   rw [this] at hm'
   cases hm'
 refine wp_region_any hm ?_
 have hh0 : HR (ZF (Fr S.nx k (Array.replicate ops.size false))) B ρ G 0 { w with drawn := w.drawn + 1 } := by
  have hd0 := hh.drew
  refine ⟨hd0.base, fun m hm' => hh.fresh m hm'.1, hd0.lt, fun m m' l l' h1 h2 g1 g2 => ?_, fun m s v l hs hl' => ?_, fun m es l hs hl' => ?_⟩
  ·rw [hG2 m (hnamed m l h1)] at g1
   rw [hG2 m' (hnamed m' l' h2)] at g2
   exact hd0.apart m m' l l' h1 h2 g1 g2
  ·rw [hG2 m (hnamed m l hl')] at hs
   exact hd0.row m s v l hs hl'
  ·rw [hG2 m (hnamed m l hl')] at hs
   exact hd0.map m es l hs hl'
 have hext : Ext ρ w ρ { w with drawn := w.drawn + 1 } := ⟨fun _ _ h => h, Nat.le_refl _, fun _ _ _ => rfl, fun _ _ h => .inl h, fun _ h => h, fun _ h => .inl h⟩
 refine head_any (K := K) (G := G) (tmF := tmF) (nx := S.nx) (N := N) (B := B) (ρ0 := ρ0) (w0 := w0) (k := k) hk9 hd ?_ ?_ ?_ ?_ ?_ htail ?_ ops.size _ a _ ρ (by omega) (by simp) ?_ ?_ ?_ hdf hts hh0 ?_ (he.trans hext)
 ·intro j o hj ho
  have hlt : j < ops.size := (Array.getElem?_eq_some_iff.1 ho).1
  have := (List.all_eq_true.1 ht) j (List.mem_range.2 hlt)
  rw [ho] at this
  simp only [Bool.or_eq_true,decide_eq_true_eq,Bool.and_eq_true] at this
  rcases this with this | ⟨t1, t2⟩
  ·omega
  ·exact ⟨fun i hi => (List.all_eq_true.1 t1) i (List.mem_range.2 hi), fun e he' hb => by
    have := (Array.all_eq_true_iff_forall_mem.1 t2) e he'
    simpa [hb] using this⟩
 ·intro j o hj ho e he' hb
  have := (List.all_eq_true.1 ha) j (List.mem_range.2 hj)
  rw [ho] at this
  have := (Array.all_eq_true_iff_forall_mem.1 this) e he'
  simpa [hb] using this
 ·intro i o hi ho t htl j o' hj ho' hdt
  have := (List.all_eq_true.1 hl) i (List.mem_range.2 hi)
  rw [ho] at this
  have := (List.all_eq_true.1 ((List.all_eq_true.1 this) t htl)) j (List.mem_range.2 hj)
  rw [ho'] at this
  simpa [hdt] using this
 ·intro i j o o' t hi hj hij ho ho' hdt
  rcases Nat.lt_or_gt_of_ne hij with h' | h'
  ·exact wfL_one _ i j o o' t hw h' (htk i o hi ho) (htk j o' hj ho') hdt
  ·intro hdt'
   exact wfL_one _ j i o' o t hw h' (htk j o' hj ho') (htk i o hi ho) hdt' hdt
 ·intro i o hi ho
  exact Facts.nth _ _ i o hF (htk i o hi ho)
 ·intro S' a' w' ρ' hk' hS'
  exact next S' a' w' ρ' hk' hS'.tm hS'.defers hS'.size hS'.heap hS'.below hS'.ext
 ·intro i _
  exact rep i
 ·intro i o _ hli
  rw [rep i] at hli
  cases hli
 ·intro t
  unfold tmP
  split
  ·simp [VR, VR1]
  ·rename_i hp
   have hno : ∀ o ∈ ops.toList.take k, o.dst ≠ some t := fun o ho hdt => by
    obtain ⟨i, hi⟩ := List.getElem?_of_mem ho
    have hik : i < k := by
     have := (List.getElem?_eq_some_iff.1 hi).1
     omega
    rw [List.getElem?_take_of_lt hik, Array.getElem?_toList] at hi
    exact hp (pendB_true.2 ⟨i, hik, rep i, o, hi, hdt⟩)
   rw [hsame t hno]
   exact VR.ext hext _ _ (hT t)
 ·exact hbl.drew
end
end Go.Proofs.Ytpdhdkpebbfnnaa.V
end
section
namespace Go.Proofs.Ytpdhdkpebbfnnaa.V
open Go

def vcallHW (P : Program) (H : Heap) (K : VV → Heap → Nat → Prop) (h : Tag H) (h' : Tag K) (g : FuncId) (args : List VV) (n : Nat) : Prop := vcallH P g args H n K
theorem vcallH_w (P : Program) (g : FuncId) (args : List VV) (H : Heap) (n : Nat) (K : VV → Heap → Nat → Prop) : vcallH P g args H n K = vcallHW P H K () () g args n := rfl
theorem jb {P : Program} {g : FuncId} {args : List VV} {H : Heap} {n : Nat} {K : VV → Heap → Nat → Prop} {t : Tag H} {t' : Tag K} {r : VV} (h : HCall P H g args r) (hk : K r H n) : vcallHW P H K t t' g args n := .inl ⟨r, h, hk⟩
theorem jd {P : Program} {g : FuncId} {args : List VV} {H : Heap} {r : VV} (h : Spec P g args r) (h1 : args.all notTup = true) (h2 : nls args = true) : HCall P H g args r := ⟨args, h, h1, .inr ⟨rfl, h2⟩⟩
theorem get_nil (v : VV) : v.get [] = some v := by simp only [VV.get]
theorem get_cons (vs : List VV) (i : Nat) (p : List Nat) : (VV.agg vs).get (i :: p) = match vs[i]? with
  | some u => u.get p
  | none => none := by cases h : vs[i]? <;> simp only [VV.get,h]
theorem set_nil (v u : VV) : v.set [] u = u := by simp only [VV.set]
theorem set_cons (vs : List VV) (i : Nat) (p : List Nat) (u : VV) : (VV.agg vs).set (i :: p) u = match vs[i]? with
  | some v => .agg (vs.set i (v.set p u))
  | none => .agg vs := by cases h : vs[i]? <;> simp only [VV.set,h]
theorem at_nil (s : Sh) : s.at [] = some s := by simp only [Sh.at]
theorem at_st (ls : List Sh) (i : Nat) (p : List Nat) : (Sh.st ls).at (i :: p) = match ls[i]? with
  | some s => s.at p
  | none => none := by cases h : ls[i]? <;> simp only [Sh.at,h]
theorem at_arr (n : Nat) (s : Sh) (i : Nat) (p : List Nat) : (Sh.arr n s).at (i :: p) = s.at p := by simp only [Sh.at]
noncomputable def vh : (P : Program) → (ops l : List Oper) → (tm : Nat → VV) → (H : Heap) → (n : Nat) → (K : (Nat → VV) → Heap → Nat → Prop) → Prop := Classical.choose (⟨vheld, rfl⟩ : ∃ f : (P : Program) → (ops l : List Oper) → (tm : Nat → VV) → (H : Heap) → (n : Nat) → (K : (Nat → VV) → Heap → Nat → Prop) → Prop, f = vheld)
theorem vh_eq : vh = vheld := Classical.choose_spec (⟨vheld, rfl⟩ : ∃ f : (P : Program) → (ops l : List Oper) → (tm : Nat → VV) → (H : Heap) → (n : Nat) → (K : (Nat → VV) → Heap → Nat → Prop) → Prop, f = vheld)
theorem vh_def (P : Program) (ops l : List Oper) (tm : Nat → VV) (H : Heap) (n : Nat) (K : (Nat → VV) → Heap → Nat → Prop) : vh P ops l tm H n K = vheld P ops l tm H n K := by rw [vh_eq]
def eithW (k : Bool → Prop) (h : Tag k) (q : Prop) : Prop := vEither q k
theorem vEither_w (q : Prop) (k : Bool → Prop) : vEither q k = eithW k () q := rfl
section
variable (P : Program) (tm : Nat → VV) (H : Heap) (n : Nat)
theorem h_nil (ops : List Oper) (K : (Nat → VV) → Heap → Nat → Prop) : vh P ops [] tm H n K = K tm H n := by simp only [vh_def]; exact id (Eq.refl _)
theorem h_cons (ops l : List Oper) (d : Option Tmp) (op : Op) (ty : TypeId) (ps : String) (af : Array Edge) (K : (Nat → VV) → Heap → Nat → Prop) : vh P ops (⟨d, op, ty, ps, af, none⟩ :: l) tm H n K =
  vopH P (ev tm) H n (fun v H' n' => cnd (n' ≤ n + 64) (vh P ops l (put d v tm) H' (n + 64) K)) ⟨d, op, ty, ps, af, none⟩ := by simp only [vh_def]; exact id (Eq.refl _)
theorem h_guard (ops l : List Oper) (d : Option Tmp) (op : Op) (ty : TypeId) (ps : String) (af : Array Edge) (j : Nat) (want : Bool) (K : (Nat → VV) → Heap → Nat → Prop) : vh P ops (⟨d, op, ty, ps, af, some (j, want)⟩ :: l) tm H n K =
  bnd (dstAt ops j) fun t => onV (tm t) fun v => match v with
   | .bool b => vif (b == want) (vopH P (ev (upd tm t (.bool want))) H n (fun v H' n' => cnd (n' ≤ n + 64) (vh P ops l (put d v (upd tm t (.bool want))) H' (n + 64) K)) ⟨d, op, ty, ps, af, some (j, want)⟩)
     (vh P ops l (put d (.raw undef) (upd tm t (.bool (!want)))) H (n + 64) K)
   | .raw u => cnd (u = undef) (vh P ops l (put d (.raw undef) tm) H (n + 64) K)
   | _ => False := by simp only [vh_def]; exact id (Eq.refl _)
end
end Go.Proofs.Ytpdhdkpebbfnnaa.V
end
section
namespace Go.Proofs.Ytpdhdkpebbfnnaa.V
open Go Go.RowKit

def Ok (P : Program) (n0 : Nat) (c : Code) (S : VS) (K : VX → VS → Prop) : Prop :=
 ∀ (N : NN) (B : Nat) (ρ0 : Names) (w0 : World) (Q : Exit → Act → World → Prop) (a : Act) (w : World) (ρ : Names), (∀ m, n0 ≤ m → ρ0 m = none) → codeOk N c = true → SR N B ρ0 w0 S a w ρ →
  (∀ e S' a' w' ρ', K e S' → SR N B ρ0 w0 S' a' w' ρ' → Q e.x a' w') → c.wp P Q a w

def slots : List (Nat × VV) → Nat → VV
 | [], _ => .any
 | (k, v) :: l, t => if t = k then v else slots l t
def rows : List (Nat × Blk) → Heap
 | [], _ => none
 | (k, b) :: l, m => if m = k then some b else rows l m
theorem slots_cons (k : Nat) (v : VV) (l : List (Nat × VV)) (t : Nat) : slots ((k, v) :: l) t = if t = k then v else slots l t := rfl
theorem slots_nil (t : Nat) : slots [] t = .any := rfl
theorem rows_cons (k : Nat) (v : Blk) (l : List (Nat × Blk)) (t : Nat) : rows ((k, v) :: l) t = if t = k then some v else rows l t := rfl
theorem rows_nil (t : Nat) : rows [] t = none := rfl
def turn : List (Nat × Nat) → Nat → Nat
 | [], m => m
 | (k, j) :: l, m => if m = k then j else turn l m
theorem turn_cons (k j : Nat) (l : List (Nat × Nat)) (m : Nat) : turn ((k, j) :: l) m = if m = k then j else turn l m := rfl
theorem turn_nil (m : Nat) : turn [] m = m := rfl
def known (n0 : Nat) (σ : List (Nat × Nat)) (m : Nat) : Prop := m < n0 ∨ m ∈ σ.map (·.1)
mutual
inductive MR (n0 : Nat) (σ : List (Nat × Nat)) (H : Heap) (fz : Bool) : VV → VV → Prop
 | data (v : VV) (h : nl v = true) : MR n0 σ H fz v v
 | sl {m m' : Nat} {p : List Nat} {i n : Nat} (h : known n0 σ m') (h' : turn σ m' = m) : MR n0 σ H fz (.sl (some (m, p, i)) n) (.sl (some (m', p, i)) n)
 | ptr {m m' : Nat} {p : List Nat} (h : known n0 σ m') (h' : turn σ m' = m) : MR n0 σ H fz (.ptr m p) (.ptr m' p)
 | map {m m' : Nat} (h : known n0 σ m') (h' : turn σ m' = m) : MR n0 σ H fz (.map m) (.map m')
 | agg {us vs : List VV} (h : MRL n0 σ H fz us vs) : MR n0 σ H fz (.agg us) (.agg vs)
 | tup {us vs : List VV} (h : MRL n0 σ H fz us vs) : MR n0 σ H fz (.tup us) (.tup vs)
 | fn {f : FuncId} {us vs : List VV} (h : MRL n0 σ H fz us vs) : MR n0 σ H fz (.fn f us) (.fn f vs)
 | row {m k n : Nat} {e : Sh} {els : List VV} (h : fz = true) (h1 : H m = some (.row (.arr k e) (.agg els))) (h2 : n = els.length) (h3 : nls els = true) (h4 : m ∉ σ.map (·.2)) : MR n0 σ H fz (.sl (some (m, [], 0)) n) (.dat e els)
 | place {m : Nat} {s : Sh} {v : VV} (h : fz = true) (h1 : H m = some (.row s v)) (h3 : nl v = true) (h4 : m ∉ σ.map (·.2)) : MR n0 σ H fz (.ptr m []) (.pd s v)
 | nil (e : Sh) : MR n0 σ H fz (.sl none 0) (.dat e [])
 | empty {m : Nat} {p : List Nat} {i : Nat} : MR n0 σ H fz (.sl none 0) (.sl (some (m, p, i)) 0)
inductive MRL (n0 : Nat) (σ : List (Nat × Nat)) (H : Heap) (fz : Bool) : List VV → List VV → Prop
 | nil : MRL n0 σ H fz [] []
 | cons {u v : VV} {us vs : List VV} (h : MR n0 σ H fz u v) (h' : MRL n0 σ H fz us vs) : MRL n0 σ H fz (u :: us) (v :: vs)
end
section
variable {n0 : Nat} {σ : List (Nat × Nat)} {H : Heap} {fz : Bool}
theorem MR.leaf {u v : VV} (h : MR n0 σ H fz u v) : v.leaf = u.leaf := by cases h <;> rfl
theorem MR.leaf_has {u v : VV} (h : MR n0 σ H fz u v) (hl : u.leaf = true) (s : Sh) (hu : Has s u) : Has s v := by
 cases s with
 | cell => simp only [Has]; rw [h.leaf]; exact hl
 | st ls => cases u <;> simp [VV.leaf] at hl <;> simp [Has] at hu
 | arr n s => cases u <;> simp [VV.leaf] at hl <;> simp [Has] at hu
mutual
theorem MR.has : ∀ {u v : VV}, MR n0 σ H fz u v → ∀ s, Has s u → Has s v
 | _, _, .data v h, s, hu => hu
 | _, _, .sl h h', s, hu => MR.leaf_has (n0 := n0) (σ := σ) (H := H) (fz := fz) (.sl h h') rfl s hu
 | _, _, .ptr h h', s, hu => MR.leaf_has (n0 := n0) (σ := σ) (H := H) (fz := fz) (.ptr h h') rfl s hu
 | _, _, .map h h', s, hu => MR.leaf_has (n0 := n0) (σ := σ) (H := H) (fz := fz) (.map h h') rfl s hu
 | _, _, .fn h, s, hu => MR.leaf_has (n0 := n0) (σ := σ) (H := H) (fz := fz) (.fn h) rfl s hu
 | _, _, .row h h1 h2 h3 h4, s, hu => MR.leaf_has (n0 := n0) (σ := σ) (H := H) (fz := fz) (.row h h1 h2 h3 h4) rfl s hu
 | _, _, .place h h1 h3 h4, s, hu => MR.leaf_has (n0 := n0) (σ := σ) (H := H) (fz := fz) (.place h h1 h3 h4) rfl s hu
 | _, _, .nil e, s, hu => MR.leaf_has (n0 := n0) (σ := σ) (H := H) (fz := fz) (.nil e) rfl s hu
 | _, _, @MR.empty _ _ _ _ m p i, s, hu => MR.leaf_has (n0 := n0) (σ := σ) (H := H) (fz := fz) (@MR.empty n0 σ H fz m p i) rfl s hu
 | _, _, .tup h, s, hu => by cases s <;> simp [Has, VV.leaf] at hu
 | _, _, .agg h, s, hu => by
  cases s with
  | cell => simp [Has, VV.leaf] at hu
  | st ls => simp only [Has] at hu ⊢; exact MRL.hasL h ls hu
  | arr n s => simp only [Has] at hu ⊢; exact ⟨by rw [MRL.len h] at hu; exact hu.1, MRL.hasA h s hu.2⟩
theorem MRL.hasL : ∀ {us vs : List VV}, MRL n0 σ H fz us vs → ∀ ls, HasL ls us → HasL ls vs
 | _, _, .nil, ls, hu => hu
 | _, _, .cons h h', ls, hu => by
  cases ls with
  | nil => simp [HasL] at hu
  | cons s ls => simp only [HasL] at hu ⊢; exact ⟨MR.has h s hu.1, MRL.hasL h' ls hu.2⟩
theorem MRL.hasA : ∀ {us vs : List VV}, MRL n0 σ H fz us vs → ∀ s, (∀ u ∈ us, Has s u) → ∀ v ∈ vs, Has s v
 | _, _, .nil, s, hu => hu
 | _, _, .cons h h', s, hu => by
  intro v hv
  rcases List.mem_cons.1 hv with rfl | hv
  ·exact MR.has h s (hu _ (by simp))
  ·exact MRL.hasA h' s (fun u hm => hu u (by simp [hm])) v hv
theorem MRL.len : ∀ {us vs : List VV}, MRL n0 σ H fz us vs → us.length = vs.length
 | _, _, .nil => rfl
 | _, _, .cons h h' => by simp only [List.length_cons,MRL.len h']
end
end
section
variable {n0 : Nat} {σ : List (Nat × Nat)} {H : Heap} {fz : Bool} {ρ ρ' : Names} {w : World}
structure Turned (n0 : Nat) (σ : List (Nat × Nat)) (H : Heap) (fz : Bool) (ρ ρ' : Names) (w : World) : Prop where
 names : ∀ m, known n0 σ m → ρ' m = ρ (turn σ m)
 un : ∀ b, Unnamed ρ b → Unnamed ρ' b
 row : fz = true → ∀ m s v l, H m = some (.row s v) → m ∉ σ.map (·.2) → ρ m = some l → Unnamed ρ' l.block ∧ l.block < w.heap.size ∧ RowAt ρ w l s v
theorem C1.data (hU : ∀ b, Unnamed ρ b → Unnamed ρ' b) (v : VV) (cs : List Value) (hn : nl v = true) (h : C1 ρ w v cs) : C1 ρ' w v cs :=
 C1.mono (ρ := .bare (Unnamed ρ')) (fun m l h => by cases h) (fun b _ hu => hu.1) v cs (C1.bare hU v cs hn h)
theorem CR.data (hU : ∀ b, Unnamed ρ b → Unnamed ρ' b) (v : List VV) (cs : List Value) (hn : nls v = true) (h : CR ρ w v cs) : CR ρ' w v cs :=
 CR.mono (ρ := .bare (Unnamed ρ')) (fun m l h => by cases h) (fun b _ hu => hu.1) v cs (CR.bare hU v cs hn h)
mutual
theorem MR.cells (hT : Turned n0 σ H fz ρ ρ' w) : ∀ {u v : VV}, MR n0 σ H fz u v → ∀ (cs : List Value), C1 ρ w u cs → C1 ρ' w v cs
 | _, _, .data v h, cs, hc => C1.data hT.un v cs h hc
 | _, _, .sl h h', cs, hc => by simp only [C1] at hc ⊢; rw [hT.names _ h, h']; exact hc
 | _, _, .ptr h h', cs, hc => by simp only [C1] at hc ⊢; rw [hT.names _ h, h']; exact hc
 | _, _, .map h h', cs, hc => by simp only [C1] at hc ⊢; rw [hT.names _ h, h']; exact hc
 | _, _, .agg h, cs, hc => by simp only [C1] at hc ⊢; exact MRL.cells hT h cs hc
 | _, _, .tup h, cs, hc => by simp only [C1] at hc
 | _, _, .fn h, cs, hc => by
  simp only [C1] at hc ⊢
  obtain ⟨xs, h1, h2⟩ := hc
  exact ⟨xs, h1, MRL.caps hT h _ h2⟩
 | _, _, @MR.row _ _ _ _ m k n e els h h1 h2 h3 h4, cs, hc => by
  simp only [C1] at hc ⊢
  rcases hc with ⟨rfl, A, hc⟩ | ⟨l, cap, e', j', hl, hc, hcap, hat, _⟩
  ·exact ⟨A, 0, by rw [← h2]; exact hc, by omega, fun h => absurd (List.eq_nil_of_length_eq_zero h2.symm) h⟩
  ·obtain ⟨hu, hlt, hrow⟩ := hT.row h m _ _ l h1 h4 hl
   refine ⟨_, cap, by rw [← h2]; exact hc, by omega, fun _ => ?_⟩
   obtain ⟨ds, q1, q2, q3⟩ := hrow.cells
   simp only [C1] at q1
   have hh := hrow.has
   simp only [Has] at hh
   refine ⟨l.block, _, ds, rfl, CR.data hT.un _ _ h3 q1, hh.2, ?_, hu, hlt⟩
   rw [hrow.sh]
   simp only [List.nil_append,Sh.off,Nat.zero_mul,Nat.add_zero]
   exact q3
 | _, _, @MR.place _ _ _ _ m s v h h1 h3 h4, cs, hc => by
  simp only [C1] at hc ⊢
  obtain ⟨l, hl, hc⟩ := hc
  obtain ⟨hu, hlt, hrow⟩ := hT.row h m _ _ l h1 h4 hl
  obtain ⟨ds, q1, q2, q3⟩ := hrow.cells
  refine ⟨l.block, l.base, ds, ?_, C1.data hT.un _ _ h3 q1, hrow.has, q3, hu, hlt⟩
  rw [hc]
  simp [Sh.off]
 | _, _, .nil e, cs, hc => by
  simp only [C1] at hc ⊢
  exact ⟨none, 0, hc.2, Nat.le_refl _, fun h => absurd rfl h⟩
 | _, _, .empty, cs, hc => by
  simp only [C1] at hc ⊢
  exact .inl ⟨trivial, none, hc.2⟩
theorem MRL.cells (hT : Turned n0 σ H fz ρ ρ' w) : ∀ {us vs : List VV}, MRL n0 σ H fz us vs → ∀ (cs : List Value), CR ρ w us cs → CR ρ' w vs cs
 | _, _, .nil, cs, hc => by simpa only [CR] using hc
 | _, _, .cons h h', cs, hc => by
  simp only [CR] at hc ⊢
  obtain ⟨c1, c2, h1, h2, h3⟩ := hc
  exact ⟨c1, c2, h1, MR.cells hT h c1 h2, MRL.cells hT h' c2 h3⟩
theorem MRL.caps (hT : Turned n0 σ H fz ρ ρ' w) : ∀ {us vs : List VV}, MRL n0 σ H fz us vs → ∀ (cs : List Value), CV ρ w us cs → CV ρ' w vs cs
 | _, _, .nil, cs, hc => by simpa only [CV] using hc
 | _, _, .cons h h', cs, hc => by
  simp only [CV] at hc ⊢
  obtain ⟨x, c2, h1, h2, h3, h4⟩ := hc
  exact ⟨x, c2, h1, by rw [h.leaf]; exact h2, MR.cells hT h [x] h3, MRL.caps hT h' c2 h4⟩
end
theorem MR.value1 (hT : Turned n0 σ H fz ρ ρ' w) {u v : VV} {x : Value} (h : MR n0 σ H fz u v) (hx : VR1 ρ w u x) : VR1 ρ' w v x := by
 by_cases hu : ∃ us, u = .agg us
 ·obtain ⟨us, rfl⟩ := hu
  have key : ∃ vs, v = .agg vs ∧ ∀ cs, CR ρ w us cs → CR ρ' w vs cs := by
   cases h with
   | data _ h => exact ⟨us, rfl, fun cs hc => CR.data hT.un us cs (by simpa only [nl] using h) hc⟩
   | agg h => exact ⟨_, rfl, fun cs hc => MRL.cells hT h cs hc⟩
  obtain ⟨vs, rfl, hk⟩ := key
  obtain ⟨cs, h1, h2⟩ := hx
  exact ⟨cs, h1, hk _ h2⟩
 ·have h1 : C1 ρ w u [x] := by
   cases u with
   | agg us => exact absurd ⟨us, rfl⟩ hu
   | any => cases h with | data _ h => simp [nl] at h
   | _ => exact hx
  have h2 := MR.cells hT h [x] h1
  cases v with
  | agg vs => cases h with
   | data _ _ => exact absurd ⟨vs, rfl⟩ hu
   | agg _ => exact absurd ⟨_, rfl⟩ hu
  | any => trivial
  | _ => exact h2
theorem MRL.values (hT : Turned n0 σ H fz ρ ρ' w) : ∀ {us vs : List VV}, MRL n0 σ H fz us vs → ∀ (xs : List Value), VRs ρ w us xs → VRs ρ' w vs xs
 | _, _, .nil, xs, hx => hx
 | _, _, .cons h h', xs, hx => by
  obtain ⟨x, ys, h1, h2, h3⟩ := hx
  exact ⟨x, ys, h1, MR.value1 hT h h2, MRL.values hT h' ys h3⟩
theorem MRL.data : ∀ (l : List VV), nls l = true → MRL n0 σ H fz l l
 | [], _ => .nil
 | v :: l, h => by
  simp only [nls,Bool.and_eq_true] at h
  exact .cons (.data v h.1) (MRL.data l h.2)
theorem MR.value (hT : Turned n0 σ H fz ρ ρ' w) {u v : VV} {x : Value} (h : MR n0 σ H fz u v) (hx : VR ρ w u x) : VR ρ' w v x := by
 by_cases hu : ∃ us, u = .tup us
 ·obtain ⟨us, rfl⟩ := hu
  have key : ∃ vs, v = .tup vs ∧ MRL n0 σ H fz us vs := by
   cases h with
   | data _ h => exact ⟨us, rfl, MRL.data us (by simpa only [nl] using h)⟩
   | tup h => exact ⟨_, rfl, h⟩
  obtain ⟨vs, rfl, hk⟩ := key
  obtain ⟨xs, h1, h2⟩ := hx
  exact ⟨xs, h1, MRL.values hT hk _ h2⟩
 ·have h1 : VR1 ρ w u x := by cases u <;> first | exact hx | exact absurd ⟨_, rfl⟩ hu
  have h2 := MR.value1 hT h h1
  cases v with
  | tup vs => cases h with
   | data _ _ => exact absurd ⟨_, rfl⟩ hu
   | tup _ => exact absurd ⟨_, rfl⟩ hu
  | _ => exact h2
end
def Ren (n0 : Nat) (S T : VS) : Prop :=
 ∀ (N : NN) (B : Nat) (ρ0 : Names) (w0 : World) (a : Act) (w : World) (ρ : Names), (∀ m, n0 ≤ m → ρ0 m = none) → SR N B ρ0 w0 S a w ρ → ∃ ρ', SR N B ρ0 w0 T a w ρ'
theorem Ren.refl (n0 : Nat) (S : VS) : Ren n0 S S := fun _ _ _ _ _ _ ρ _ h => ⟨ρ, h⟩
theorem Ren.trans {n0 : Nat} {S T U : VS} (h : Ren n0 S T) (h' : Ren n0 T U) : Ren n0 S U := fun N B ρ0 w0 a w ρ h0 hS => by
 obtain ⟨ρ1, h1⟩ := h N B ρ0 w0 a w ρ h0 hS
 exact h' N B ρ0 w0 a w ρ1 h0 h1
def AllS (n0 : Nat) (σ : List (Nat × Nat)) (H : Heap) (fz : Bool) (tm : Nat → VV) : List (Nat × VV) → Prop
 | [] => True
 | (k, v) :: l => MR n0 σ H fz (tm k) v ∧ AllS n0 σ H fz tm l
inductive MB (n0 : Nat) (σ : List (Nat × Nat)) (H : Heap) (fz : Bool) : Blk → Blk → Prop
 | row {s : Sh} {u v : VV} (h : MR n0 σ H fz u v) : MB n0 σ H fz (.row s u) (.row s v)
 | map {es : List (VV × VV)} (h : ∀ x ∈ es, nl x.1 = true ∧ nl x.2 = true) : MB n0 σ H fz (.map es) (.map es)
def AllB (n0 : Nat) (σ : List (Nat × Nat)) (H : Heap) (fz : Bool) : List (Nat × Blk) → Prop
 | [] => True
 | (k, b) :: l => (known n0 σ k → ∃ b0, H (turn σ k) = some b0 ∧ MB n0 σ H fz b0 b) ∧ AllB n0 σ H fz l
theorem AllS.at {n0 : Nat} {σ : List (Nat × Nat)} {H : Heap} {fz : Bool} {tm : Nat → VV} : ∀ (l : List (Nat × VV)), AllS n0 σ H fz tm l → ∀ t, slots l t = .any ∨ MR n0 σ H fz (tm t) (slots l t)
 | [], _, t => .inl rfl
 | (k, v) :: l, h, t => by
  rw [slots_cons]
  split
  ·rename_i e; subst e; exact .inr h.1
  ·exact AllS.at l h.2 t
theorem AllB.at {n0 : Nat} {σ : List (Nat × Nat)} {H : Heap} {fz : Bool} : ∀ (l : List (Nat × Blk)), AllB n0 σ H fz l → ∀ m b, rows l m = some b → known n0 σ m → ∃ b0, H (turn σ m) = some b0 ∧ MB n0 σ H fz b0 b
 | [], _, m, b, h => by cases h
 | (k, v) :: l, hl, m, b, h => by
  rw [rows_cons] at h
  split at h
  ·rename_i e; subst e; injection h with h; subst h; exact hl.1
  ·exact AllB.at l hl.2 m b h
theorem turn_low : ∀ (σ : List (Nat × Nat)) (m : Nat), m ∉ σ.map (·.1) → turn σ m = m
 | [], m, _ => rfl
 | (k, j) :: l, m, h => by
  simp only [List.map_cons,List.mem_cons,not_or] at h
  rw [turn_cons, if_neg h.1, turn_low l m h.2]
theorem turn_mem : ∀ (σ : List (Nat × Nat)) (m : Nat), m ∈ σ.map (·.1) → (m, turn σ m) ∈ σ
 | [], m, h => by simp at h
 | (k, j) :: l, m, h => by
  rw [turn_cons]
  split
  ·rename_i e; subst e; simp
  ·rename_i e
   simp only [List.map_cons,List.mem_cons] at h
   exact List.mem_cons_of_mem _ (turn_mem l m (h.resolve_left e))
def jN (n0 n : Nat) (ks : List Nat) (σ : List (Nat × Nat)) : Bool :=
 (σ.all fun x => decide (n0 ≤ x.1) && decide (x.1 < n) && decide (n0 ≤ x.2) && ks.contains x.1) && decide ((σ.map (·.2)).Nodup)
theorem turn_inj {n0 n : Nat} {ks : List Nat} {σ : List (Nat × Nat)} (h : jN n0 n ks σ = true) (m m' : Nat) (h1 : known n0 σ m) (h2 : known n0 σ m') (he : turn σ m = turn σ m') : m = m' := by
 simp only [jN,Bool.and_eq_true,decide_eq_true_eq,List.all_eq_true] at h
 obtain ⟨ha, hd⟩ := h
 have low : ∀ m, m < n0 → turn σ m = m := fun m hm => turn_low σ m fun hmem => by
  obtain ⟨x, hx, rfl⟩ := List.mem_map.1 hmem
  have := (ha x hx).1.1.1
  omega
 have inj : ∀ (l : List (Nat × Nat)), (l.map (·.2)).Nodup → ∀ x y, x ∈ l → y ∈ l → x.2 = y.2 → x = y := by
  intro l
  induction l with
  | nil => intro _ x y hx; simp at hx
  | cons z l ih =>
   intro hd x y hx hy e
   simp only [List.map_cons,List.nodup_cons] at hd
   rcases List.mem_cons.1 hx with g1 | g1
   ·rcases List.mem_cons.1 hy with g2 | g2
    ·rw [g1, g2]
    ·exact (hd.1 (List.mem_map.2 ⟨y, g2, by rw [← e, g1]⟩)).elim
   ·rcases List.mem_cons.1 hy with g2 | g2
    ·exact (hd.1 (List.mem_map.2 ⟨x, g1, by rw [e, g2]⟩)).elim
    ·exact ih hd.2 x y g1 g2 e
 have mem : ∀ m, m ∈ σ.map (·.1) → (m, turn σ m) ∈ σ := turn_mem σ
 rcases h1 with h1 | h1
 ·rcases h2 with h2 | h2
  ·rw [low m h1, low m' h2] at he; exact he
  ·have := (ha _ (mem m' h2)).1.2
   rw [low m h1] at he
   dsimp only at this
   omega
 ·rcases h2 with h2 | h2
  ·have := (ha _ (mem m h1)).1.2
   rw [low m' h2] at he
   dsimp only at this
   omega
  ·have := inj σ hd _ _ (mem m h1) (mem m' h2) he
   exact congrArg Prod.fst this
theorem rows_mem : ∀ (h : List (Nat × Blk)) (k : Nat), k ∈ h.map (·.1) → ∃ b, rows h k = some b
 | [], k, hk => by simp at hk
 | (j, b) :: l, k, hk => by
  rw [rows_cons]
  split
  ·exact ⟨b, rfl⟩
  ·rename_i e
   simp only [List.map_cons,List.mem_cons] at hk
   exact rows_mem l k (hk.resolve_left e)
theorem Ren.mk {n0 n n' : Nat} {tm : Nat → VV} {H : Heap} {l : List (Nat × VV)} {h : List (Nat × Blk)} (σ : List (Nat × Nat)) (fz : Bool) (hfz : fz = true → n0 = 0) (hσ : jN n0 n' (h.map (·.1)) σ = true) (hn : n0 ≤ n')
  (h1 : AllS n0 σ H fz tm l) (h3 : AllB n0 σ H fz h) :
  Ren n0 ⟨tm, H, n⟩ ⟨slots l, rows h, n'⟩ := by
 intro N B ρ0 w0 a w ρ h0 hS
 classical
 have hinj := turn_inj hσ
 have hσ' := hσ
 simp only [jN,Bool.and_eq_true,decide_eq_true_eq,List.all_eq_true] at hσ'
 obtain ⟨ha, _⟩ := hσ'
 have hh := hS.heap
 have he := hS.ext
 dsimp only at hh
 let ρ' : Names := ⟨fun m => if known n0 σ m then ρ (turn σ m) else none, fun b => ρ.im b ∨ (fz = true ∧ w0.heap.size ≤ b)⟩
 have hρ : ∀ m, known n0 σ m → ρ' m = ρ (turn σ m) := fun m hm => if_pos hm
 have hρ2 : ∀ m l, ρ' m = some l → known n0 σ m ∧ ρ (turn σ m) = some l := fun m l hm => by
  by_cases hk : known n0 σ m
  ·exact ⟨hk, by rw [← hρ m hk]; exact hm⟩
  ·have : ρ' m = none := if_neg hk
   rw [this] at hm
   cases hm
 have hU : ∀ b, Unnamed ρ b → Unnamed ρ' b := fun b hb => ⟨.inl hb.1, fun m l hm => hb.2 _ l (hρ2 m l hm).2⟩
 have low : ∀ m, m < n0 → turn σ m = m := fun m hm => turn_low σ m fun hmem => by
  obtain ⟨x, hx, rfl⟩ := List.mem_map.1 hmem
  have := (ha x hx).1.1.1
  omega
 have live : ∀ m, m ∈ σ.map (·.1) → H (turn σ m) ≠ none := fun m hm => by
  have h5 := (ha _ (turn_mem σ m hm)).2
  dsimp only at h5
  obtain ⟨b, hb⟩ := rows_mem h m (by simpa using h5)
  obtain ⟨b0, h6, _⟩ := AllB.at h h3 m b hb (.inr hm)
  rw [h6]; simp
 have hT : Turned n0 σ H fz ρ ρ' w := by
  refine ⟨hρ, hU, fun hf m s v l' hm hk hl => ?_⟩
  have hz := hfz hf
  have hlt := hh.lt m l' hl
  refine ⟨⟨.inr ⟨hf, ?_⟩, fun m2 l2 hm2 e => ?_⟩, hlt.2, hh.row m s v l' hm hl⟩
  ·rcases he.fresh m l' hl with g | g | ⟨m0, l0, g, _⟩
   ·rw [h0 m (by omega)] at g; cases g
   ·exact g
   ·rw [h0 m0 (by omega)] at g; cases g
  ·obtain ⟨k1, k2⟩ := hρ2 m2 l2 hm2
   rcases k1 with k1 | k1
   ·omega
   ·have := hh.apart _ m l2 l' k2 hl (live m2 k1) (by rw [hm]; simp) e
    exact hk (by rw [← this]; exact List.mem_map.2 ⟨_, turn_mem σ m2 k1, rfl⟩)
 refine ⟨ρ', ⟨fun t => ?_, hS.defers, hS.size, ?_, hS.below, ?_⟩⟩
 ·dsimp only
  rcases AllS.at l h1 t with e | e
  ·rw [e]; simp [VR, VR1]
  ·have := hS.tm t
   dsimp only at this
   exact MR.value hT e this
 ·dsimp only
  refine ⟨hh.base, fun m hm => ?_, fun m l hm => hh.lt _ l (hρ2 m l hm).2, fun m m' l1 l2 g1 g2 e1 e2 hb => ?_, fun m s v l' hm hl => ?_, fun m es l' hm hl => ?_⟩
  ·have hm : n' ≤ m := hm
   refine if_neg fun hk => ?_
   rcases hk with hk | hk
   ·omega
   ·have := (ha _ (turn_mem σ m hk)).1.1.2
    dsimp only at this
    omega
  ·obtain ⟨k1, k2⟩ := hρ2 m l1 g1
   obtain ⟨k3, k4⟩ := hρ2 m' l2 g2
   have lv : ∀ m, known n0 σ m → rows h m ≠ none → H (turn σ m) ≠ none := fun m hk hm => by
    cases hr : rows h m with
    | none => exact absurd hr hm
    | some b => obtain ⟨b0, h6, _⟩ := AllB.at h h3 m b hr hk; rw [h6]; simp
   exact hinj m m' k1 k3 (hh.apart _ _ l1 l2 k2 k4 (lv m k1 e1) (lv m' k3 e2) hb)
  ·obtain ⟨k1, k2⟩ := hρ2 m l' hl
   obtain ⟨b0, hb, hm⟩ := AllB.at h h3 m _ hm k1
   cases hm with
   | row hm =>
    rename_i u
    have hrow := hh.row _ s u l' hb k2
    obtain ⟨cs, c1, c2, c3⟩ := hrow.cells
    exact ⟨hrow.sh, hm.has s hrow.has, ⟨cs, MR.cells hT hm cs c1, c2, c3⟩, hrow.room⟩
  ·obtain ⟨k1, k2⟩ := hρ2 m l' hl
   obtain ⟨b0, hb, hm⟩ := AllB.at h h3 m _ hm k1
   cases hm with
   | map hv =>
    have hmap := hh.map _ _ l' hb k2
    obtain ⟨xs, clock, c1, c2⟩ := hmap.obj
    refine ⟨⟨xs, clock, c1, ?_⟩, hmap.born⟩
    have key : ∀ (es : List (VV × VV)) (xs : List MapEntry), (∀ x ∈ es, nl x.1 = true ∧ nl x.2 = true) → ME ρ w es xs → ME ρ' w es xs := by
     intro es
     induction es with
     | nil => intro xs _ h; exact h
     | cons x es ih =>
      intro xs hq h
      obtain ⟨y, ys, g1, g2, g3, g4, g5⟩ := h
      obtain ⟨q1, q2⟩ := hq x (by simp)
      exact ⟨y, ys, g1, g2, MR.value1 hT (.data _ q1) g3, MR.value1 hT (.data _ q2) g4, ih ys (fun z hz => hq z (by simp [hz])) g5⟩
    exact key es _ hv c2
 ·refine ⟨fun m l hm => ?_, he.size, fun b hb hu => he.block b hb hu, fun m l hm => ?_, fun b hb => .inl (he.im b hb), fun b hb => ?_⟩
  ·have hlt : m < n0 := by
    rcases Nat.lt_or_ge m n0 with h | h
    ·exact h
    ·rw [h0 m h] at hm; cases hm
   rw [hρ m (.inl hlt), low m hlt]
   exact he.names m l hm
  ·obtain ⟨k1, k2⟩ := hρ2 m l hm
   rcases he.fresh _ l k2 with g | g | g
   ·exact .inr (.inr ⟨_, l, g, rfl⟩)
   ·exact .inr (.inl g)
   ·exact .inr (.inr g)
  ·rcases hb with hb | hb
   ·exact he.imb b hb
   ·exact .inr hb.2

section
variable {P : Program} {n0 : Nat} {S T : VS} {K K' : VX → VS → Prop}
theorem ok_ren {c : Code} (h : Ren n0 S T) (h' : Ok P n0 c T K) : Ok P n0 c S K := fun N B ρ0 w0 Q a w ρ h0 hok hS next => by
 obtain ⟨ρ1, h1⟩ := h N B ρ0 w0 a w ρ h0 hS
 exact h' N B ρ0 w0 Q a w ρ1 h0 hok h1 next
theorem jn (h : K .normal S) : Ok P n0 .skip S K := fun N B ρ0 w0 Q a w ρ _ _ hS next => wp_skip (next .normal S a w ρ h hS)
theorem jo {l : Nat} (h : K .normal S) : Ok P n0 (.label l) S K := fun N B ρ0 w0 Q a w ρ _ _ hS next => wp_label (next .normal S a w ρ h hS)
theorem jp {i : Nat} (h : K (.exit i) S) : Ok P n0 (.exit i) S K := fun N B ρ0 w0 Q a w ρ _ _ hS next => wp_exit (next (.exit i) S a w ρ h hS)
theorem jq (h : K .ret S) : Ok P n0 .ret S K := fun N B ρ0 w0 Q a w ρ _ _ hS next => wp_ret (next .ret S a w ρ h hS)
theorem jr {x y : Code} (h : Ok P n0 x S (VX.seq (fun S' => Ok P n0 y S' K) K)) : Ok P n0 (.seq x y) S K := fun N B ρ0 w0 Q a w ρ h0 hok hS next => by
 simp only [codeOk,Bool.and_eq_true] at hok
 refine wp_seq (h N B ρ0 w0 _ a w ρ h0 hok.1 hS fun e S' a' w' ρ' hk hS' => ?_)
 cases e with
 | normal => exact hk N B ρ0 w0 Q a' w' ρ' h0 hok.2 hS' next
 | exit i => exact next (.exit i) S' a' w' ρ' hk hS'
 | ret => exact next .ret S' a' w' ρ' hk hS'
theorem jf {c : Operand} {x y : Code} {t : Bool} (hc : ev S.tm c = .bool t) (h : vif t (Ok P n0 x S K) (Ok P n0 y S K)) : Ok P n0 (.cond c x y) S K := fun N B ρ0 w0 Q a w ρ h0 hok hS next => by
 simp only [codeOk,Bool.and_eq_true] at hok
 have hx := ev_sound hS.tm c
 rw [hc] at hx
 exact wp_cond_split hx.bool (fun ht => h.1 ht N B ρ0 w0 Q a w ρ h0 hok.1 hS next) (fun ht => h.2 ht N B ρ0 w0 Q a w ρ h0 hok.2 hS next)
theorem jl {id : Nat} {c : Code} (h : Ok P n0 c S (VX.block id K)) : Ok P n0 (.block id c) S K := fun N B ρ0 w0 Q a w ρ h0 hok hS next => by
 simp only [codeOk] at hok
 refine wp_block (h N B ρ0 w0 _ a w ρ h0 hok hS fun e S' a' w' ρ' hk hS' => ?_)
 cases e with
 | normal => exact next .normal S' a' w' ρ' hk hS'
 | ret => exact next .ret S' a' w' ρ' hk hS'
 | exit j =>
  simp only [VX.block] at hk
  show Exit.inBlock id Q (.exit j) a' w'
  unfold Exit.inBlock
  dsimp only
  split at hk
  ·rename_i e; rw [if_pos e]; exact next .normal S' a' w' ρ' hk hS'
  ·rename_i e; rw [if_neg e]; exact next (.exit j) S' a' w' ρ' hk hS'
theorem jm {c : Code} (h : Ok P n0 c S K) : Ok P n0 (.scope c) S K := fun N B ρ0 w0 Q a w ρ h0 hok hS next => by
 simp only [codeOk] at hok
 refine wp_scope_straight (h N B ρ0 w0 _ a w ρ h0 hok hS fun e S' a' w' ρ' hk hS' => ?_)
 have := next e S' a' w' ρ' hk hS'
 cases e <;> exact this
theorem jk {id : Nat} {l : List Oper} (h : ∀ M : VS → Prop, (∀ S, K .normal S → M S) → vl P l l S M) : Ok P n0 (.region id l.toArray false) S K := fun N B ρ0 w0 Q a w ρ h0 hok hS next => by
 simp only [codeOk,List.all_eq_true] at hok
 refine wp_region_list (vlist_sound (K := K .normal) l S a w ρ (fun o ho t ht => by have := hok o ho; rw [ht] at this; simpa using this) ?_ hS fun S' a' w' ρ' hk hS' => next .normal S' a' w' ρ' hk hS')
 rw [← vl_def]
 exact h _ fun _ h => h
theorem ok_draw {id : Nat} {l : List Oper} {tm : Nat → VV} {H : Heap} {n : Nat} (k : Nat) (hm : P.follows .mixedOrders = true) (hd : drawOk l.toArray k = true) (hfr : ∀ m, n ≤ m → H m = none)
  (h : ∀ M : VS → Prop, (∀ S, K .normal S → M S) → vh P l (l.take k) tm H n fun tm H n => vl P l (l.drop k) ⟨tm, H, n⟩ M) : Ok P n0 (.region id l.toArray true) ⟨tm, H, n⟩ K := fun N B ρ0 w0 Q a w ρ h0 hok hS next => by
 simp only [codeOk,List.all_eq_true] at hok
 exact region_intro (S := ⟨tm, H, n⟩) hm hfr k hd (by simpa only [vh_def,vl_def] using h _ fun _ h => h) id N B ρ0 w0 Q a w ρ (fun o ho t ht => by have := hok o ho; rw [ht] at this; simpa using this) hS.tm hS.defers hS.size hS.heap hS.below hS.ext
  fun S' a' w' ρ' hk h1 h2 h3 h4 h5 h6 => next .normal S' a' w' ρ' hk ⟨h1, h2, h3, h4, h5, h6⟩
def CX {α : Type} (n0 : Nat) (fr : α → VS) (I : α → Prop) (K : VX → VS → Prop) : VX → VS → Prop
 | .normal, S => ∃ x, Ren n0 S (fr x) ∧ I x
 | .exit i, S => K (.exit i) S
 | .ret, S => K .ret S
def LX {α : Type} (n0 : Nat) (fr : α → VS) (I : α → Prop) (μ : α → Nat) (m : Nat) (K : VX → VS → Prop) : VX → VS → Prop
 | .normal, S => ∃ x, Ren n0 S (fr x) ∧ I x ∧ μ x < m
 | .exit i, S => K (.exit i) S
 | .ret, S => K .ret S
theorem ok_loop {α : Type} {c : Code} (fr : α → VS) (I : α → Prop) (μ : α → Nat) (x0 : α) (h0 : Ren n0 S (fr x0)) (hI : I x0) (round : ∀ x, I x → Ok P n0 c (fr x) (LX n0 fr I μ (μ x) K)) : Ok P n0 (.loop c) S K := fun N B ρ0 w0 Q a w ρ hn hok hS next => by
 simp only [codeOk] at hok
 obtain ⟨ρ1, hS1⟩ := h0 N B ρ0 w0 a w ρ hn hS
 refine wp_loop_rel (fun (x : α) a w => I x ∧ ∃ ρ, SR N B ρ0 w0 (fr x) a w ρ) μ (s := x0) ⟨hI, ρ1, hS1⟩ fun x a w hs => ?_
 obtain ⟨hIx, ρx, hSx⟩ := hs
 refine round x hIx N B ρ0 w0 _ a w ρx hn hok hSx fun e S' a' w' ρ' hk hS' => ?_
 cases e with
 | normal =>
  obtain ⟨y, g1, g2, g3⟩ := hk
  obtain ⟨ρ2, hS2⟩ := g1 N B ρ0 w0 a' w' ρ' hn hS'
  exact ⟨y, ⟨g2, ρ2, hS2⟩, g3⟩
 | exit i => exact next (.exit i) S' a' w' ρ' hk hS'
 | ret => exact next .ret S' a' w' ρ' hk hS'
theorem ok_body {fn : Func} {f : FuncId} (hf : P.funcs[f]? = some fn) {c : Code} {rs : List ResultVar} (hb : fn.body = some c) (hr : fn.results.toList = rs) (hok : codeOk fn.ntmps c = true) {args : List VV} {k : Nat} (hl : args.length = k) (hlen : k ≤ fn.ntmps) {H : Heap} {n : Nat} {K : VV → Heap → Nat → Prop}
  (h : Ok P n c ⟨argsF 0 args (fun _ => .any), H, n⟩ (fin P rs K)) : vcall P f args H n K := by
 intro B ρ w xs hh ha
 have hxl := ha.len
 refine calls_of_wp hf hb ?_
 have hTM : TM ρ w (argsF 0 args (fun _ => .any)) { tmps := xs.toArray ++ Array.replicate (fn.ntmps - xs.toArray.size) undef, defers := [] } := by
  intro t
  rw [argsF_at]
  split
  ·rename_i ht
   have ht' : t < xs.length := by omega
   have key : ∀ (vs : List VV) (xs : List Value) (t : Nat), VRA ρ w vs xs → t < xs.length → VR ρ w (vs.getD t .any) (xs.getD t undef) := by
    intro vs
    induction vs with
    | nil => intro xs t h ht; have h : xs = [] := h; subst h; simp at ht
    | cons v vs ih =>
     intro xs t h ht
     obtain ⟨x, ys, rfl, h1, h2⟩ := h
     cases t with
     | zero => simpa using h1
     | succ t => simpa using ih ys t h2 (by simpa using ht)
   have := key args xs t ha ht'
   simpa [Array.getD_eq_getD_getElem?, Array.getElem?_append, ht', List.getD_eq_getElem?_getD] using this
  ·simp [VR, VR1]
 have hSR : SR ⟨fn.ntmps, []⟩ B ρ w ⟨argsF 0 args (fun _ => .any), H, n⟩ { tmps := xs.toArray ++ Array.replicate (fn.ntmps - xs.toArray.size) undef, defers := [] } w ρ :=
  ⟨hTM, rfl, by simp; omega, hh, Below.refl _ _, Ext.refl _ _⟩
 refine h ⟨fn.ntmps, []⟩ B ρ w _ _ w ρ (fun m hm => hh.fresh m hm) hok hSR fun e S' a' w' ρ' hk hS' => ?_
 cases e with
 | exit i => exact hk.elim
 | normal =>
  simp only [fin] at hk
  rw [← hr] at hk
  obtain ⟨v, x, h1, h2, h3⟩ := vres_sound hS' fn _ hk
  exact bodyPost_end h3 hS'.defers ⟨x, rfl, v, _, _, ρ', h1, h2, hS'.heap, hS'.ext, hS'.below⟩
 | ret =>
  simp only [fin] at hk
  rw [← hr] at hk
  obtain ⟨v, x, h1, h2, h3⟩ := vres_sound hS' fn _ hk
  exact bodyPost_ret h3 hS'.defers ⟨x, rfl, v, _, _, ρ', h1, h2, hS'.heap, hS'.ext, hS'.below⟩
theorem spec_ok {fn : Func} {f : FuncId} (hf : P.funcs[f]? = some fn) {c : Code} {rs : List ResultVar} (hb : fn.body = some c) (hr : fn.results.toList = rs) (hok : codeOk fn.ntmps c = true) {ds : List VV} {r : VV} {k : Nat} (hl : ds.length = k) (hlen : k ≤ fn.ntmps)
  (h : Ok P 0 c ⟨argsF 0 ds (fun _ => .any), fun _ => none, 0⟩ (fin P rs fun v H _ => RdT H v r)) : Spec P f ds r := by
 intro U w xs ha
 have hh : HR ZT w.heap.size (.bare U) (fun _ => none) 0 w := ⟨Nat.le_refl _, fun _ _ => rfl, fun m l h => (by cases h), fun m m' l l' h => (by cases h), fun m s v l h => (by cases h), fun m es l h => (by cases h)⟩
 refine (ok_body hf hb hr hok hl hlen h w.heap.size (.bare U) w xs hh ha).mono fun e w' ⟨x, he, v, H', n', ρ', hk, hv, hh', hext, hb⟩ => ⟨x, he, hb, ?_⟩
 exact hk.value hh' hext.imb (fun m l hl => .inr (hh'.lt m l hl).1) hv
end
theorem xb2 {i : Nat} {K : VX → VS → Prop} {S : VS} (h : K .normal S) : VX.block i K (.exit i) S := by rw [x_block2, if_pos rfl]; exact h
theorem xb3 {i j : Nat} {K : VX → VS → Prop} {S : VS} (hij : j ≠ i) (h : K (.exit j) S) : VX.block i K (.exit j) S := by rw [x_block2, if_neg hij]; exact h
section
variable {α : Type} {n0 : Nat} {fr : α → VS} {I : α → Prop} {μ : α → Nat} {m : Nat} {K : VX → VS → Prop} {S : VS}
theorem xl1 (x : α) (h1 : Ren n0 S (fr x)) (h2 : I x) (h3 : μ x < m) : LX n0 fr I μ m K .normal S := ⟨x, h1, h2, h3⟩
end
theorem vif_t {A B : Prop} (h : A) : vif true A B := ⟨fun _ => h, fun h => by cases h⟩
theorem vif_f {A B : Prop} (h : B) : vif false A B := ⟨fun h => (by cases h), fun _ => h⟩
theorem jJ {n0 : Nat} {σ : List (Nat × Nat)} {H : Heap} {fz : Bool} {es es' : List (VV × VV)} (e : es = es') (h : (es.all fun q => nl q.1 && nl q.2) = true) : MB n0 σ H fz (.map es) (.map es') := by
 subst e
 exact MB.map fun x hx => by
  have := List.all_eq_true.1 h x hx
  simpa using this
end Go.Proofs.Ytpdhdkpebbfnnaa.V
end
