/-
  A MACHINE OF VALUES, SEVENTEENTH PART: how simp reckons a region whose order is drawn.
-/
import Derived.Test.YtndbfphmjmhkjaaVsimp
import Derived.Test.YtndbfphmjmhkjaaVregion
set_option linter.unusedVariables false
set_option linter.unusedSectionVars false
set_option linter.unusedSimpArgs false
namespace Go.Proofs.Ytndbfphmjmhkjaa.V
open Go

def vcallHW (P : Program) (H : Heap) (K : VV → Heap → Nat → Prop) (h : Tag H) (h' : Tag K) (g : FuncId) (args : List VV) (n : Nat) : Prop := vcallH P g args H n K
theorem vcallH_w (P : Program) (g : FuncId) (args : List VV) (H : Heap) (n : Nat) (K : VV → Heap → Nat → Prop) : vcallH P g args H n K = vcallHW P H K () () g args n := rfl
theorem vcallHW_intro {P : Program} {g : FuncId} {args : List VV} {H : Heap} {n : Nat} {K : VV → Heap → Nat → Prop} {t : Tag H} {t' : Tag K} {r : VV} (h : HCall P H g args r) (hk : K r H n) : vcallHW P H K t t' g args n := ⟨r, h, hk⟩
/-- arguments that name nothing -/
theorem hcall_data {P : Program} {g : FuncId} {args : List VV} {H : Heap} {r : VV} (h : Spec P g args r) (h1 : args.all notTup = true) (h2 : nls args = true) : HCall P H g args r := ⟨args, h, h1, .inr ⟨rfl, h2⟩⟩
/-- arguments that are read, an answer that is plain -/
theorem hcall_read {P : Program} {g : FuncId} {args ds : List VV} {H : Heap} {r : VV} (h : Spec P g ds r) (h1 : args.all notTup = true) (h2 : RdL H args ds) (h3 : pl r = true) : HCall P H g args r := ⟨ds, h, h1, .inl ⟨h2, h3⟩⟩
theorem get_nil (v : VV) : v.get [] = some v := by simp only [VV.get]
theorem get_cons (vs : List VV) (i : Nat) (p : List Nat) : (VV.agg vs).get (i :: p) = match vs[i]? with
    | some u => u.get p
    | none => none := by cases h : vs[i]? <;> simp only [VV.get,h]
theorem set_nil (v u : VV) : v.set [] u = u := by simp only [VV.set]
theorem set_cons (vs : List VV) (i : Nat) (p : List Nat) (u : VV) : (VV.agg vs).set (i :: p) u = match vs[i]? with
    | some v => .agg (vs.set i (v.set p u))
    | none => .agg vs := by cases h : vs[i]? <;> simp only [VV.set,h]
theorem at_nil (s : Sh) : s.at [] = some s := by simp only [Sh.at]
theorem at_st (ls : List Sh) (i : Nat) (p : List Nat) : (Sh.st ls).at (i :: p) = match ls[i]? with
    | some s => s.at p
    | none => none := by cases h : ls[i]? <;> simp only [Sh.at,h]
theorem at_arr (n : Nat) (s : Sh) (i : Nat) (p : List Nat) : (Sh.arr n s).at (i :: p) = s.at p := by simp only [Sh.at]
noncomputable def vh : (P : Program) → (ops l : List Oper) → (tm : Nat → VV) → (H : Heap) → (n : Nat) → (K : (Nat → VV) → Heap → Nat → Prop) → Prop := Classical.choose (⟨vheld, rfl⟩ : ∃ f : (P : Program) → (ops l : List Oper) → (tm : Nat → VV) → (H : Heap) → (n : Nat) → (K : (Nat → VV) → Heap → Nat → Prop) → Prop, f = vheld)
theorem vh_eq : vh = vheld := Classical.choose_spec (⟨vheld, rfl⟩ : ∃ f : (P : Program) → (ops l : List Oper) → (tm : Nat → VV) → (H : Heap) → (n : Nat) → (K : (Nat → VV) → Heap → Nat → Prop) → Prop, f = vheld)
theorem vh_def (P : Program) (ops l : List Oper) (tm : Nat → VV) (H : Heap) (n : Nat) (K : (Nat → VV) → Heap → Nat → Prop) : vh P ops l tm H n K = vheld P ops l tm H n K := by rw [vh_eq]
def eithW (k : Bool → Prop) (h : Tag k) (q : Prop) : Prop := vEither q k
theorem vEither_w (q : Prop) (k : Bool → Prop) : vEither q k = eithW k () q := rfl
theorem eithW_intro {q : Prop} {k : Bool → Prop} {h : Tag k} (h' : ∀ b, (q → b = false) → k b) : eithW k h q := h'
theorem eithW_false {q : Prop} {k : Bool → Prop} {h : Tag k} (hq : q) (h' : k false) : eithW k h q := fun b hb => by rw [hb hq]; exact h'
section
variable (P : Program) (tm : Nat → VV) (H : Heap) (n : Nat)
theorem h_nil (ops : List Oper) (K : (Nat → VV) → Heap → Nat → Prop) : vh P ops [] tm H n K = K tm H n := by simp only [vh_def]; exact id (Eq.refl _)
theorem h_cons (ops l : List Oper) (d : Option Tmp) (op : Op) (ty : TypeId) (ps : String) (af : Array Edge) (K : (Nat → VV) → Heap → Nat → Prop) : vh P ops (⟨d, op, ty, ps, af, none⟩ :: l) tm H n K =
    vopH P (ev tm) H n (fun v H' n' => cnd (n' ≤ n + 64) (vh P ops l (put d v tm) H' (n + 64) K)) ⟨d, op, ty, ps, af, none⟩ := by simp only [vh_def]; exact id (Eq.refl _)
theorem h_guard (ops l : List Oper) (d : Option Tmp) (op : Op) (ty : TypeId) (ps : String) (af : Array Edge) (j : Nat) (want : Bool) (K : (Nat → VV) → Heap → Nat → Prop) : vh P ops (⟨d, op, ty, ps, af, some (j, want)⟩ :: l) tm H n K =
    bnd (dstAt ops j) fun t => onV (tm t) fun v => match v with
      | .bool b => vif (b == want) (vopH P (ev (upd tm t (.bool want))) H n (fun v H' n' => cnd (n' ≤ n + 64) (vh P ops l (put d v (upd tm t (.bool want))) H' (n + 64) K)) ⟨d, op, ty, ps, af, some (j, want)⟩)
          (vh P ops l (put d (.raw undef) (upd tm t (.bool (!want)))) H (n + 64) K)
      | .raw u => cnd (u = undef) (vh P ops l (put d (.raw undef) tm) H (n + 64) K)
      | _ => False := by simp only [vh_def]; exact id (Eq.refl _)
end
/-- a region whose order is drawn, its first k operations in any order -/
theorem region_go {P : Program} {l : List Oper} {tm : Nat → VV} {H : Heap} {n : Nat} {K : VS → Prop} {t : Tag (vdraw P l.toArray ⟨tm, H, n⟩ K)} (k : Nat) (hm : P.follows .mixedOrders = true) (hok : drawOk l.toArray k = true) (hfr : ∀ m, n ≤ m → H m = none)
    (h : vh P l (l.take k) tm H n fun tm H n => vl P l (l.drop k) ⟨tm, H, n⟩ K) : shown (vdraw P l.toArray ⟨tm, H, n⟩ K) t :=
  region_intro hm hfr k hok (by simpa only [vh_def,vl_def] using h)
theorem le_fresh {n k m : Nat} (h : n + k ≤ m) (j : Nat) (hj : j < k) : m ≠ n + j := by omega
end Go.Proofs.Ytndbfphmjmhkjaa.V
