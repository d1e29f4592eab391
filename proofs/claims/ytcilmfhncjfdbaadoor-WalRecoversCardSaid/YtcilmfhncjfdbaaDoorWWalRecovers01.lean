/-
  Parts of the proof of WalRecovers: Gf, Byte, Poly, Rd, Ty, Val, Vtabs, Vheap, Vop, VopB, VopC, VopD.
  Conditions: none.
-/
import Derived.WalkKit
import Derived.WalkSpells
import Derived.WalkLawsBesides
import Derived.Below
import Derived.Laws.OwnMore
import Derived.Deep.AppendLies
import Derived.Deep.Draws
import Derived.WalkSmall
import Derived.Laws.Tables
import Derived.Lib.Hide
import Derived.ProofKit
import Derived.OpenShut
import Derived.ShutString
import Derived.ChangeOld
import Derived.SizedLaws
import Derived.Scope
import Derived.RegionTactic
import Derived.Deep.MidRow
section
/-
  THE FIELD OF 256 ELEMENTS, in plain Lean: products, inverses, their laws. No program in sight.
-/
namespace Go.Proofs.YtcilmfhncjfdbaaDoor.Gf

def dbl (a : UInt8) : UInt8 := if 128 ≤ a then (a <<< 1) ^^^ 29 else a <<< 1
def pw (a : UInt8) : Nat → UInt8
  | 0 => a
  | n + 1 => dbl (pw a n)
def bit (b : UInt8) (i : Nat) : Bool := b.toNat.testBit i
def sel (c : Bool) (a : UInt8) : UInt8 := if c then a else 0
def mulTo (a b : UInt8) : Nat → UInt8
  | 0 => 0
  | k + 1 => mulTo a b k ^^^ sel (bit b k) (pw a k)
def mul (a b : UInt8) : UInt8 := mulTo a b 8

def allB (P : UInt8 → Bool) : Bool := (List.range 256).all fun n => P (UInt8.ofNat n)
theorem of_allB {P : UInt8 → Bool} (h : allB P = true) (a : UInt8) : P a = true := by
  have := List.all_eq_true.1 h a.toNat (by simp; exact a.toNat_lt)
  simpa using this

theorem xor4 (a b c d : UInt8) : (a ^^^ b) ^^^ (c ^^^ d) = (a ^^^ c) ^^^ (b ^^^ d) := by ac_rfl
theorem sel_xor (c d : Bool) (x : UInt8) : sel (c ^^ d) x = sel c x ^^^ sel d x := by
  cases c <;> cases d <;> simp [sel]
theorem sel_xor' (c : Bool) (x y : UInt8) : sel c (x ^^^ y) = sel c x ^^^ sel c y := by
  cases c <;> simp [sel]
theorem bit_xor (a b : UInt8) (i : Nat) : bit (a ^^^ b) i = (bit a i ^^ bit b i) := by simp [bit]
theorem dbl_eq (a : UInt8) : dbl a = (a <<< 1) ^^^ sel (bit a 7) 29 := by
  have := of_allB (P := fun a => dbl a == ((a <<< 1) ^^^ sel (bit a 7) 29)) (by decide +kernel) a
  simpa using this
theorem dbl_xor (a b : UInt8) : dbl (a ^^^ b) = dbl a ^^^ dbl b := by
  rw [dbl_eq, dbl_eq, dbl_eq, bit_xor, UInt8.shiftLeft_xor, sel_xor, xor4]
theorem pw_xor (a b : UInt8) (n : Nat) : pw (a ^^^ b) n = pw a n ^^^ pw b n := by
  induction n with
  | zero => rfl
  | succ n ih => simp only [pw,ih,dbl_xor]
theorem mulTo_left (a a' b : UInt8) (n : Nat) : mulTo (a ^^^ a') b n = mulTo a b n ^^^ mulTo a' b n := by
  induction n with
  | zero => simp [mulTo]
  | succ n ih => simp only [mulTo,ih,pw_xor,sel_xor',xor4]
theorem mulTo_right (a b b' : UInt8) (n : Nat) : mulTo a (b ^^^ b') n = mulTo a b n ^^^ mulTo a b' n := by
  induction n with
  | zero => simp [mulTo]
  | succ n ih => simp only [mulTo,ih,bit_xor,sel_xor,xor4]
theorem mul_left (a a' b : UInt8) : mul (a ^^^ a') b = mul a b ^^^ mul a' b := mulTo_left a a' b 8
theorem mul_right (a b b' : UInt8) : mul a (b ^^^ b') = mul a b ^^^ mul a b' := mulTo_right a b b' 8

theorem expand (a : UInt8) : a = sel (bit a 0) 1 ^^^ (sel (bit a 1) 2 ^^^ (sel (bit a 2) 4 ^^^ (sel (bit a 3) 8 ^^^ (sel (bit a 4) 16 ^^^ (sel (bit a 5) 32 ^^^ (sel (bit a 6) 64 ^^^ sel (bit a 7) 128)))))) := by
  have := of_allB (P := fun a => a == sel (bit a 0) 1 ^^^ (sel (bit a 1) 2 ^^^ (sel (bit a 2) 4 ^^^ (sel (bit a 3) 8 ^^^ (sel (bit a 4) 16 ^^^ (sel (bit a 5) 32 ^^^ (sel (bit a 6) 64 ^^^ sel (bit a 7) 128))))))) (by decide +kernel) a
  simpa using this

def basis : List UInt8 := [1, 2, 4, 8, 16, 32, 64, 128]
theorem lin_zero {f : UInt8 → UInt8} (hf : ∀ a b, f (a ^^^ b) = f a ^^^ f b) : f 0 = 0 := by
  have h := hf 0 0
  have h2 : f 0 ^^^ f 0 = 0 := UInt8.xor_self
  rw [h2] at h
  simpa using h
theorem lin_sel {f : UInt8 → UInt8} (hf : ∀ a b, f (a ^^^ b) = f a ^^^ f b) (c : Bool) (x : UInt8) : f (sel c x) = sel c (f x) := by
  cases c
  · exact lin_zero hf
  · rfl
theorem lin_ext {f g : UInt8 → UInt8} (hf : ∀ a b, f (a ^^^ b) = f a ^^^ f b) (hg : ∀ a b, g (a ^^^ b) = g a ^^^ g b)
    (h : ∀ x ∈ basis, f x = g x) (a : UInt8) : f a = g a := by
  rw [expand a]
  simp only [hf,hg,lin_sel hf,lin_sel hg]
  rw [h 1 (by decide), h 2 (by decide), h 4 (by decide), h 8 (by decide), h 16 (by decide), h 32 (by decide), h 64 (by decide), h 128 (by decide)]

theorem mul_comm (a b : UInt8) : mul a b = mul b a := by
  refine lin_ext (f := fun b => mul a b) (g := fun b => mul b a) (fun _ _ => mul_right _ _ _) (fun _ _ => mul_left _ _ _) (fun x hx => ?_) b
  refine lin_ext (f := fun a => mul a x) (g := fun a => mul x a) (fun _ _ => mul_left _ _ _) (fun _ _ => mul_right _ _ _) (fun y hy => ?_) a
  have h : basis.all (fun x => basis.all fun y => mul y x == mul x y) = true := by decide +kernel
  have := List.all_eq_true.1 (List.all_eq_true.1 h x hx) y hy
  simpa using this
theorem zero_mul (a : UInt8) : mul 0 a = 0 := lin_zero (f := fun b => mul b a) (fun _ _ => mul_left _ _ _)
theorem mul_one (a : UInt8) : mul a 1 = a := by
  have := of_allB (P := fun a => mul a 1 == a) (by decide +kernel) a
  simpa using this
theorem one_mul (a : UInt8) : mul 1 a = a := by rw [mul_comm, mul_one]

/-! the product as the document reckons it: first without the rest, in sixteen bits, then the rest -/
def sh (a : UInt8) (k : Nat) : UInt16 := a.toUInt16 <<< (UInt16.ofNat k)
end Go.Proofs.YtcilmfhncjfdbaaDoor.Gf
end
section
/-
  BYTES AS THE MODEL HAS THEM: the operations on integers of eight bits, said of UInt8.
-/
namespace Go.Proofs.YtcilmfhncjfdbaaDoor
open Go.RowKit

def B8 (x : UInt8) : Int := (x.toNat : Int)
theorem B8_of (n : Nat) (h : n < 256) : B8 (UInt8.ofNat n) = (n : Int) := by
  unfold B8
  rw [UInt8.toNat_ofNat']
  omega
end Go.Proofs.YtcilmfhncjfdbaaDoor
end
section
/-
  POLYNOMIALS over the field of 256 elements: values, roots, the one through points. No program in sight.
-/
namespace Go.Proofs.YtcilmfhncjfdbaaDoor.Gf

def eval : List UInt8 → UInt8 → UInt8
  | [], _ => 0
  | c :: t, x => mul (eval t x) x ^^^ c

/-! polynomials as functions -/
def Deg (n : Nat) (f : UInt8 → UInt8) : Prop := ∃ l : List UInt8, l.length ≤ n ∧ ∀ x, f x = eval l x
def padd : List UInt8 → List UInt8 → List UInt8
  | [], l => l
  | l, [] => l
  | a :: l, b :: m => (a ^^^ b) :: padd l m
theorem padd_length (l m : List UInt8) : (padd l m).length = max l.length m.length := by
  induction l generalizing m with
  | nil => simp [padd]
  | cons a l ih => cases m <;> simp [padd, ih] <;> omega
theorem eval_padd (l m : List UInt8) (x : UInt8) : eval (padd l m) x = eval l x ^^^ eval m x := by
  induction l generalizing m with
  | nil => simp [padd, eval]
  | cons a l ih =>
    cases m with
    | nil => simp [padd, eval]
    | cons b m => simp only [padd,eval,ih,mul_left]; ac_rfl
theorem Deg.mono {n m : Nat} {f : UInt8 → UInt8} (h : Deg n f) (hm : n ≤ m) : Deg m f := let ⟨l, h1, h2⟩ := h; ⟨l, by omega, h2⟩
theorem Deg.add {n : Nat} {f g : UInt8 → UInt8} (hf : Deg n f) (hg : Deg n g) : Deg n (fun x => f x ^^^ g x) := by
  obtain ⟨l, hl, h⟩ := hf
  obtain ⟨m, hm, k⟩ := hg
  exact ⟨padd l m, by rw [padd_length]; omega, fun x => by show f x ^^^ g x = _; rw [eval_padd, h, k]⟩
/-! the polynomial through points, as the program reckons its value -/
def nth (l : List UInt8) (i : Nat) : UInt8 := l.getD i 0
theorem nth_lt {l : List UInt8} {i : Nat} (h : i < l.length) : nth l i = l[i] := by simp [nth, h]
end Go.Proofs.YtcilmfhncjfdbaaDoor.Gf
end
section
/-
  WORDS FOR MEMORY: a slice that reads as so many cells; bytes; what is kept.
-/
namespace Go.Proofs.YtcilmfhncjfdbaaDoor
open Go.RowKit

def Rd (w : World) (A : Option Addr) (n : Nat) (f : Nat → Value) : Prop :=
  0 < n → ∃ b o, A = some ⟨b, o, none⟩ ∧ ∀ j, j < n → w.cell? ⟨b, o + j, none⟩ = some (f j)
def RdB (w : World) (A : Option Addr) (l : List UInt8) : Prop := Rd w A l.length (fun j => .int .u8 (B8 (Gf.nth l j)))

def Kept (w w' : World) : Prop := Below w.heap.size w w'

theorem cell_lt {w : World} {p : Addr} {v : Value} (h : w.cell? p = some v) : p.block < w.heap.size := by
  unfold World.cell? at h
  rcases Nat.lt_or_ge p.block w.heap.size with hlt | hge
  · exact hlt
  · rw [Array.getElem?_eq_none hge] at h
    cases h
theorem Kept.refl (w : World) : Kept w w := Below.refl _ _
theorem Kept.drewN (w : World) (n : Nat) : Kept w (w.drewN n) := by
  have h := below_drewN (Below.refl w.heap.size w) n
  exact h
theorem Kept.cell {w w' : World} (h : Kept w w') {p : Addr} {v : Value} (hc : w.cell? p = some v) : w'.cell? p = some v :=
  (Below.cell h (cell_lt hc)).trans hc
def Drawn (w w' : World) : Prop := ∃ n, w' = w.drewN n
theorem Drawn.refl (w : World) : Drawn w w := ⟨0, rfl⟩
theorem Drawn.drewN {w w' : World} (h : Drawn w w') (n : Nat) : Drawn w (w'.drewN n) := by
  obtain ⟨m, rfl⟩ := h
  exact ⟨m + n, World.drewN_drewN _ _ _⟩
section
variable {P : Program} {f : FuncId} {args : Array Value} {w : World} {n : Nat} {v : Value}
end
theorem RdB.op {w : World} {A : Option Addr} {l : List UInt8} (h : RdB w A l) (h0 : 0 < l.length) :
    ∃ b o, A = some ⟨b, o, none⟩ ∧ ∀ j, j < l.length → w.cell? ⟨b, o + j, none⟩ = some (.int .u8 (B8 (Gf.nth l j))) := h h0
theorem Kept.alloc {w w' : World} (h : Kept w w') (o : Obj) : Kept w (w'.alloc o) := Below.alloc h (Below.size h) o
def bvs (l : List UInt8) : List Value := l.map fun x => .int .u8 (B8 x)
theorem Rd.setCell {w : World} {b o n : Nat} {f : Nat → Value} (h : Rd w (some ⟨b, o, none⟩) n f) {p : Addr} (hne : p.block ≠ b) (v : Value) : Rd (w.setCell p v) (some ⟨b, o, none⟩) n f := fun hn => by
  obtain ⟨b', o', e, hc⟩ := h hn
  injection e with e
  injection e with e1 e2
  subst e1 e2
  exact ⟨b, o, rfl, fun j hj => (World.cell?_setCell_other w p _ v (fun e => hne (by rw [e]))).trans (hc j hj)⟩
theorem RdB.setCell {w : World} {b o : Nat} {l : List UInt8} (h : RdB w (some ⟨b, o, none⟩) l) {p : Addr} (hne : p.block ≠ b) (v : Value) : RdB (w.setCell p v) (some ⟨b, o, none⟩) l := Rd.setCell h hne v

/-! ### a block that is known whole -/
def Bk (w : World) (g : Nat) (T : TypeId) (cs : Array Value) : Prop := w.heap[g]? = some (.cells cs T (0, 0))
section
variable {w w' : World} {g : Nat} {T : TypeId} {cs : Array Value}
theorem Bk.lt (h : Bk w g T cs) : g < w.heap.size := (Array.getElem?_eq_some_iff.1 h).1
theorem Bk.cell (h : Bk w g T cs) {i : Nat} {v : Value} (hv : cs[i]? = some v) : w.cell? ⟨g, i, none⟩ = some v := by
  rw [cell_of_row w g i cs _ _ h]; exact hv
theorem Bk.new (w : World) (T : TypeId) (cs : Array Value) : Bk (w.alloc (.cells cs T)) w.heap.size T cs := heap_alloc_new w _
theorem Bk.drewN (h : Bk w g T cs) (n : Nat) : Bk (w.drewN n) g T cs := h
theorem Bk.put (h : Bk w g T cs) (i : Nat) (v : Value) : Bk (w.setCell ⟨g, i, none⟩ v) g T (cs.setIfInBounds i v) := heap_setCell_same w g i cs T v h
theorem Bk.row (h : Bk w g T cs) (cs' : Array Value) : Bk (w.setRow g cs') g T cs' := setRow_heap w g cs cs' T _ h
end
theorem Kept.put {w0 w : World} (h : Kept w0 w) {p : Addr} (hp : w0.heap.size ≤ p.block) (v : Value) : Kept w0 (w.setCell p v) := Below.setCell h hp v
theorem Kept.row {w0 w : World} (h : Kept w0 w) {g : Nat} (hg : w0.heap.size ≤ g) (cs : Array Value) : Kept w0 (w.setRow g cs) :=
  Below.trans h ⟨rfl, rfl, rfl, by simp, fun k hk => setRow_other w g k cs (by omega)⟩
end Go.Proofs.YtcilmfhncjfdbaaDoor
end
section
/-
  ARGUMENTS OPENED BY THEIR TYPE: a small language of types; what a value of such a type says, in plain Lean data; and that every argument that the form's reader reads says something.
-/
namespace Go.Proofs.YtcilmfhncjfdbaaDoor
open Go.RowKit Go.WideShapes Go.ChangeShapes Go.ChangeAt

inductive Ty where
  | int (k : IntKind)
  | u8
  | bool
  | str
  | arr (n : Nat) (t : Ty)
  | sl (t : Ty)
  | fnil
  | fcons (a b : Ty)

namespace Ty
def size : Ty → Nat
  | int _ | u8 | bool | str | sl _ => 1
  | arr n t => n * t.size
  | fnil => 0
  | fcons a b => a.size + b.size
def D : Ty → Type
  | int _ => Int
  | u8 => UInt8
  | bool => Bool
  | str => List UInt8
  | arr _ t => List t.D
  | sl t => List t.D
  | fnil => Unit
  | fcons a b => a.D × b.D
def isAgg : Ty → Bool
  | arr _ _ | fnil | fcons _ _ => true
  | _ => false

def fits (P : Program) : Ty → Bool → TypeId → List Field → Nat → Bool
  | int k, false, tid, _, _ => (match P.underlying tid with | some (.int j) => decide (j = k) | _ => false)
  | u8, false, tid, _, _ => (match P.underlying tid with | some (.int j) => decide (j = .u8) | _ => false)
  | bool, false, tid, _, _ => (match P.underlying tid with | some .bool => true | _ => false)
  | str, false, tid, _, _ => (match P.underlying tid with | some .string => true | _ => false)
  | arr n t, false, tid, _, _ => match P.underlying tid with
    | some (.array m e) => m == n && fits P t false e [] 0 && P.cellsOf tid == n * t.size && P.cellsOf e == t.size
    | _ => false
  | sl t, false, tid, _, _ => match P.underlying tid with
    | some (.slice e) => fits P t false e [] 0 && P.cellsOf e == t.size && decide (0 < P.bytesOf e)
    | _ => false
  | fnil, false, tid, _, _ => match P.underlying tid with
    | some (.struct fs) => fs.toList.isEmpty && P.cellsOf tid == 0
    | _ => false
  | fcons a b, false, tid, _, _ => match P.underlying tid with
    | some (.struct fs) => (match fs.toList with
      | f :: fs => f.offset == 0 && fits P a false f.type [] 0 && P.cellsOf f.type == a.size && fits P b true 0 fs a.size
      | [] => false) && P.cellsOf tid == a.size + b.size
    | _ => false
  | fnil, true, _, fs, _ => fs.isEmpty
  | fcons a b, true, _, fs, off => match fs with
    | f :: fs => f.offset == off && fits P a false f.type [] 0 && P.cellsOf f.type == a.size && fits P b true 0 fs (off + a.size)
    | [] => false
  | _, true, _, _, _ => false

def lite : (t : Ty) → t.D → Prop
  | str, (s : List UInt8) => s.length ≤ reachBytes
  | arr _ t, (l : List t.D) => ∀ x ∈ l, lite t x
  | sl t, (l : List t.D) => l.length ≤ reachBytes ∧ ∀ x ∈ l, lite t x
  | fcons a b, (x : a.D × b.D) => lite a x.1 ∧ lite b x.2
  | _, _ => True
def Is (w : World) : (t : Ty) → List Value → t.D → Prop
  | int k, cs, (x : Int) => cs = [.int k x] ∧ (Lit.int k x).wf = true
  | u8, cs, (x : UInt8) => cs = [.int .u8 (B8 x)]
  | bool, cs, (b : Bool) => cs = [.bool b]
  | str, cs, (s : List UInt8) => cs = [.string ⟨s.toArray⟩] ∧ s.length ≤ maxLen
  | arr n t, cs, (l : List t.D) => l.length = n ∧ cs.length = n * t.size ∧ ∀ i (h : i < l.length), Is w t ((cs.drop (i * t.size)).take t.size) l[i]
  | sl t, cs, (l : List t.D) => ∃ A c, cs = [.slice A l.length c] ∧ l.length ≤ maxLen ∧ l.length ≤ c ∧ ∃ ccs : List Value, ccs.length = l.length * t.size ∧
      Rd w A ccs.length (fun j => ccs.getD j undef) ∧ ∀ i (h : i < l.length), Is w t ((ccs.drop (i * t.size)).take t.size) l[i]
  | fnil, cs, _ => cs = []
  | fcons a b, cs, (x : a.D × b.D) => cs.length = a.size + b.size ∧ Is w a (cs.take a.size) x.1 ∧ Is w b (cs.drop a.size) x.2

theorem choose_list {α β : Type} (l : List α) (R : Nat → β → Prop) (h : ∀ i, i < l.length → ∃ y, R i y) : ∃ ys : List β, ys.length = l.length ∧ ∀ i (hi : i < ys.length), R i ys[i] := by
  have : ∀ n, (∀ i, i < n → ∃ y, R i y) → ∃ ys : List β, ys.length = n ∧ ∀ i (hi : i < ys.length), R i ys[i] := by
    intro n
    induction n with
    | zero => intro _; exact ⟨[], rfl, fun i hi => by simp at hi⟩
    | succ n ih =>
      intro hn
      obtain ⟨ys, hl, hy⟩ := ih (fun i hi => hn i (by omega))
      obtain ⟨y, hyn⟩ := hn n (by omega)
      refine ⟨ys ++ [y], by simp [hl], fun i hi => ?_⟩
      by_cases hin : i < ys.length
      · rw [List.getElem_append_left hin]; exact hy i hin
      · have : i = n := by simp at hi; omega
        subst this
        simp [hl, hyn]
  exact this _ h
theorem choose_n {β : Type} (n : Nat) (R : Nat → β → Prop) (h : ∀ i, i < n → ∃ y, R i y) : ∃ ys : List β, ys.length = n ∧ ∀ i (hi : i < ys.length), R i ys[i] := by
  have := choose_list (List.range n) R (by simpa using h)
  simpa using this

theorem flatten_length {α : Type} (css : List (List α)) (n : Nat) (h : ∀ c ∈ css, c.length = n) : css.flatten.length = css.length * n := by
  induction css with
  | nil => simp
  | cons c css ih =>
    rw [List.flatten_cons, List.length_append, ih (fun d hd => h d (by simp [hd])), h c (by simp), List.length_cons, Nat.add_mul]
    omega
theorem flatten_row {α : Type} (css : List (List α)) (n : Nat) (h : ∀ c ∈ css, c.length = n) (i : Nat) (hi : i < css.length) : (css.flatten.drop (i * n)).take n = css[i] := by
  induction css generalizing i with
  | nil => simp at hi
  | cons c css ih =>
    have hc := h c (by simp)
    cases i with
    | zero => simp [← hc]
    | succ i =>
      rw [List.flatten_cons, List.getElem_cons_succ, Nat.add_mul, Nat.one_mul, Nat.add_comm, ← hc, List.drop_length_add_append, hc]
      exact ih (fun d hd => h d (by simp [hd])) i (by simpa using hi)
theorem flatten_get {α : Type} (css : List (List α)) (n : Nat) (h : ∀ c ∈ css, c.length = n) (j : Nat) (hj : j < css.length * n) : css.flatten[j]? = css[j / n]?.bind (·[j % n]?) := by
  have hn : 0 < n := by
    rcases Nat.eq_zero_or_pos n with h0 | h0
    · rw [h0] at hj; simp at hj
    · exact h0
  have hq : j / n < css.length := Nat.div_lt_of_lt_mul (by rw [Nat.mul_comm]; exact hj)
  have hr := flatten_row css n h (j / n) hq
  rw [List.getElem?_eq_getElem hq, Option.bind_some, ← hr, List.getElem?_take_of_lt (Nat.mod_lt _ hn), List.getElem?_drop]
  congr 1
  have := Nat.div_add_mod j n
  rw [Nat.mul_comm] at this
  exact this.symm

section
variable {H : Type} {enc : TypeId × Value → H} {P : Program} {w : World}

theorem spotless {w : World} {a : Addr} {v : Value} (h : w.cell? (a.add 0) = some v) : a = ⟨a.block, a.off, none⟩ := by
  obtain ⟨b, o, s⟩ := a
  cases s with
  | none => rfl
  | some x =>
    simp only [Addr.add,if_true,World.cell?] at h
    split at h <;> simp at h
theorem add_none (b o j : Nat) : (Addr.mk b o none).add j = ⟨b, o + j, none⟩ := by
  unfold Addr.add
  split
  · subst_vars; rfl
  · rfl

def flds (enc : TypeId × Value → H) (P : Program) (w : World) (n : Nat) (cs : List Value) (fs : List Field) : Prop :=
  ∀ f ∈ fs, ∃ y, DataW.trod enc P w 0 (fun _ => true) true n f.type ((cs.drop f.offset).take (P.cellsOf f.type)) = some y

theorem fits_int {k : IntKind} {tid : TypeId} (h : fits P (int k) false tid [] 0 = true) : P.underlying tid = some (.int k) := by
  unfold fits at h
  split at h
  · rename_i j e; rw [e]; simp at h; rw [h]
  · cases h
theorem fits_u8 {tid : TypeId} (h : fits P u8 false tid [] 0 = true) : P.underlying tid = some (.int .u8) := by
  unfold fits at h
  split at h
  · rename_i j e; rw [e]; simp at h; rw [h]
  · cases h
theorem fits_bool {tid : TypeId} (h : fits P bool false tid [] 0 = true) : P.underlying tid = some .bool := by
  unfold fits at h
  split at h
  · assumption
  · cases h
theorem fits_str {tid : TypeId} (h : fits P str false tid [] 0 = true) : P.underlying tid = some .string := by
  unfold fits at h
  split at h
  · assumption
  · cases h
theorem fits_arr {n : Nat} {t : Ty} {tid : TypeId} (h : fits P (arr n t) false tid [] 0 = true) :
    ∃ e, P.underlying tid = some (.array n e) ∧ fits P t false e [] 0 = true ∧ P.cellsOf tid = n * t.size ∧ P.cellsOf e = t.size := by
  unfold fits at h
  split at h
  · rename_i m e he
    simp at h
    obtain ⟨⟨⟨rfl, h2⟩, h3⟩, h4⟩ := h
    exact ⟨e, he, h2, h3, h4⟩
  · cases h
theorem fits_sl {t : Ty} {tid : TypeId} (h : fits P (sl t) false tid [] 0 = true) :
    ∃ e, P.underlying tid = some (.slice e) ∧ fits P t false e [] 0 = true ∧ P.cellsOf e = t.size ∧ 0 < P.bytesOf e := by
  unfold fits at h
  split at h
  · rename_i e he
    simp at h
    exact ⟨e, he, h.1.1, h.1.2, h.2⟩
  · cases h
theorem fits_fnil {tid : TypeId} (h : fits P fnil false tid [] 0 = true) : ∃ fs, P.underlying tid = some (.struct fs) ∧ P.cellsOf tid = 0 := by
  unfold fits at h
  split at h
  · rename_i fs he
    simp at h
    exact ⟨fs, he, h.2⟩
  · cases h
theorem fits_fcons {a b : Ty} {tid : TypeId} (h : fits P (fcons a b) false tid [] 0 = true) :
    ∃ fs f l, P.underlying tid = some (.struct fs) ∧ fs.toList = f :: l ∧ f.offset = 0 ∧ fits P a false f.type [] 0 = true ∧ P.cellsOf f.type = a.size ∧ fits P b true 0 l a.size = true ∧ P.cellsOf tid = a.size + b.size := by
  unfold fits at h
  split at h
  · rename_i fs he
    split at h
    · rename_i f l hl
      simp at h
      exact ⟨fs, f, l, he, hl, h.1.1.1.1, h.1.1.1.2, h.1.1.2, h.1.2, h.2⟩
    · simp at h
  · cases h
theorem fits_more {a b : Ty} {fs : List Field} {off : Nat} (h : fits P (fcons a b) true 0 fs off = true) :
    ∃ f l, fs = f :: l ∧ f.offset = off ∧ fits P a false f.type [] 0 = true ∧ P.cellsOf f.type = a.size ∧ fits P b true 0 l (off + a.size) = true := by
  unfold fits at h
  split at h
  · rename_i f l
    simp at h
    exact ⟨f, l, rfl, h.1.1.1, h.1.1.2, h.1.2, h.2⟩
  · cases h

theorem wf_u8' {x : Int} (h : (Lit.int .u8 x).wf = true) : 0 ≤ x ∧ x < 256 := by
  have := bounds_u8 h
  omega
theorem weights_all {e : TypeId} {m : Nat} : ∀ {l : List (DataW H)} {d : DataW H}, d ∈ l → m ∈ d.weights P e → m ∈ DataW.weightsAll P e l
  | x :: l, d, h, hm => by
    simp only [DataW.weightsAll,List.mem_append]
    rcases List.mem_cons.1 h with rfl | h
    · exact .inl hm
    · exact .inr (weights_all h hm)
theorem read (t : Ty) : (∀ (tid : TypeId) (cs : List Value) (fuel : Nat) (y : DataW H × List MemPlace), fits P t false tid [] 0 = true → DataW.trod enc P w 0 (fun _ => true) true fuel tid cs = some y → ∃ x, Is w t cs x ∧ ((∀ m ∈ y.1.weights P tid, m ≤ reachBytes) → lite t x)) ∧
    (∀ (fs : List Field) (off n : Nat) (cs : List Value), fits P t true 0 fs off = true → cs.length = off + t.size → flds enc P w n cs fs → ∃ x, Is w t (cs.drop off) x ∧
      ((∀ f ∈ fs, ∀ y, DataW.trod enc P w 0 (fun _ => true) true n f.type ((cs.drop f.offset).take (P.cellsOf f.type)) = some y → ∀ m ∈ y.1.weights P f.type, m ≤ reachBytes) → lite t x)) := by
  induction t with
  | int k =>
    refine ⟨fun tid cs fuel y hf h => ?_, fun fs off n cs hf => by simp [fits] at hf⟩
    obtain ⟨x, hx, _, hw⟩ := DataW.trod_int (fits_int hf) h
    exact ⟨x, ⟨hx, hw⟩, fun _ => trivial⟩
  | u8 =>
    refine ⟨fun tid cs fuel y hf h => ?_, fun fs off n cs hf => by simp [fits] at hf⟩
    obtain ⟨x, hx, _, hw⟩ := DataW.trod_int (fits_u8 hf) h
    refine ⟨UInt8.ofNat x.toNat, ?_, fun _ => trivial⟩
    have hb : 0 ≤ x ∧ x < 256 := by
      exact wf_u8' hw
    show cs = [.int .u8 (B8 (UInt8.ofNat x.toNat))]
    rw [hx, B8_of _ (by omega), Int.toNat_of_nonneg hb.1]
  | bool =>
    refine ⟨fun tid cs fuel y hf h => ?_, fun fs off n cs hf => by simp [fits] at hf⟩
    obtain ⟨x, hx, _⟩ := DataW.trod_bool (fits_bool hf) h
    exact ⟨x, hx, fun _ => trivial⟩
  | str =>
    refine ⟨fun tid cs fuel y hf h => ?_, fun fs off n cs hf => by simp [fits] at hf⟩
    obtain ⟨s, hx, hy, hs⟩ := DataW.trod_string (fits_str hf) h
    refine ⟨s.data.toList, ⟨?_, ?_⟩, fun hm => hm _ (by rw [hy]; simp [DataW.weights])⟩
    · rw [hx]
    · have hl : s.data.toList.length = s.size := Array.length_toList
      rw [hl]
      exact hs
  | arr n t ih =>
    refine ⟨fun tid cs fuel y hf h => ?_, fun fs off n cs hf => by simp [fits] at hf⟩
    obtain ⟨e, he, hfe, hc, hce⟩ := fits_arr hf
    obtain ⟨xs, m, _, hyx, hlen, hxl, hi⟩ := DataW.trod_array he h
    rw [hce] at hi
    obtain ⟨l, hl, hy⟩ := choose_n n (fun i x => Is w t ((cs.drop (i * t.size)).take t.size) x ∧ ((∀ m ∈ y.1.weights P tid, m ≤ reachBytes) → lite t x)) (fun i hin => by
      have h1 := hi i hin
      rw [List.getElem?_eq_getElem (by omega)] at h1
      obtain ⟨x, hx, hx2⟩ := ih.1 e _ m _ hfe h1
      refine ⟨x, hx, fun hm => hx2 fun k hk => hm k ?_⟩
      rw [hyx]
      simp only [DataW.weights,he]
      exact weights_all (List.mem_map.2 ⟨_, List.getElem_mem _, rfl⟩) hk)
    refine ⟨l, ⟨hl, by rw [hlen, hc], fun i h => (hy i h).1⟩, fun hm x hx => ?_⟩
    obtain ⟨i, hi, rfl⟩ := List.mem_iff_getElem.1 hx
    exact (hy i hi).2 hm
  | sl t ih =>
    refine ⟨fun tid cs fuel y hf h => ?_, fun fs off n cs hf => by simp [fits] at hf⟩
    obtain ⟨e, he, hfe, hce, hbe⟩ := fits_sl hf
    rcases DataW.trod_slice he h with ⟨rfl, _⟩ | ⟨a, len, cap, elems, rest, n, _, rfl, hyx, _, hlc, hcm, hel, hi, _⟩
    · exact ⟨[], ⟨none, 0, rfl, Nat.zero_le _, Nat.zero_le _, [], (Nat.zero_mul _).symm, fun h => absurd h (Nat.lt_irrefl _), fun i h => absurd h (Nat.not_lt_zero _)⟩, fun _ => ⟨Nat.zero_le _, fun x hx => by cases hx⟩⟩
    · rw [hce] at hi
      -- the cells, and the elements
      have hall : ∀ i, i < len → ∃ c : List Value, c.length = t.size ∧ (∀ j, j < t.size → w.cell? (a.add (i * t.size) |>.add j) = c[j]?) ∧ ∃ x, Is w t c x ∧ ((∀ m ∈ y.1.weights P tid, m ≤ reachBytes) → lite t x) := by
        intro i hil
        have h1 := hi i hil
        rw [List.getElem?_eq_getElem (by omega)] at h1
        obtain ⟨c, hc, ht⟩ := Option.bind_eq_some_iff.1 h1
        obtain ⟨_, hcl, hat⟩ := World.cells?_some hc
        obtain ⟨x, hx, hx2⟩ := ih.1 e c n _ hfe ht
        refine ⟨c, hcl, hat, x, hx, fun hm => hx2 fun k hk => hm k ?_⟩
        rw [hyx]
        simp only [DataW.weights,he,List.mem_cons,List.mem_append]
        exact .inr (.inl (weights_all (List.mem_map.2 ⟨_, List.getElem_mem _, rfl⟩) hk))
      obtain ⟨css, hcssl, hcss⟩ := choose_n len (fun i c => c.length = t.size ∧ (∀ j, j < t.size → w.cell? (a.add (i * t.size) |>.add j) = c[j]?) ∧ ∃ x, Is w t c x ∧ ((∀ m ∈ y.1.weights P tid, m ≤ reachBytes) → lite t x)) hall
      obtain ⟨l, hl, hy⟩ := choose_n len (fun i x => ∃ h : i < css.length, Is w t css[i] x ∧ ((∀ m ∈ y.1.weights P tid, m ≤ reachBytes) → lite t x)) (fun i hil => by
        obtain ⟨_, _, x, hx⟩ := hcss i (by omega)
        exact ⟨x, by omega, hx⟩)
      have hlens : ∀ c ∈ css, c.length = t.size := fun c hc => by
        obtain ⟨i, hi, rfl⟩ := List.mem_iff_getElem.1 hc
        exact (hcss i hi).1
      have hfl : css.flatten.length = css.length * t.size := flatten_length css t.size hlens
      subst hl
      refine ⟨l, ⟨some a, cap, rfl, by omega, hlc, css.flatten, by rw [hfl, hcssl], ?_, fun i h => ?_⟩, fun hm => ⟨?_, fun x hx => ?_⟩⟩
      rotate_left 2
      · have hk := hm ((elems.length + rest.length) * P.bytesOf e) (by rw [hyx]; simp [DataW.weights, he])
        have : elems.length + rest.length ≤ (elems.length + rest.length) * P.bytesOf e := Nat.le_mul_of_pos_right _ hbe
        omega
      · obtain ⟨i, hi, rfl⟩ := List.mem_iff_getElem.1 hx
        obtain ⟨_, _, h2⟩ := hy i hi
        exact h2 hm
      · intro h0
        have hs0 : 0 < t.size := by
          rcases Nat.eq_zero_or_pos t.size with h | h
          · rw [hfl, h] at h0; simp at h0
          · exact h
        have hc0 : 0 < css.length := by
          rcases Nat.eq_zero_or_pos css.length with h | h
          · rw [hfl, h] at h0; simp at h0
          · exact h
        have hfirst := (hcss 0 hc0).2.1 0 hs0
        rw [Nat.zero_mul, List.getElem?_eq_getElem (by rw [(hcss 0 hc0).1]; exact hs0)] at hfirst
        have hfirst' : w.cell? (a.add 0) = some ((css[0])[0]'(by rw [(hcss 0 hc0).1]; exact hs0)) := by simpa [Addr.add] using hfirst
        have hsp := spotless hfirst'
        refine ⟨a.block, a.off, by rw [← hsp], fun j hj => ?_⟩
        rw [hfl] at hj
        have hq : j / t.size < css.length := Nat.div_lt_of_lt_mul (by rw [Nat.mul_comm]; exact hj)
        have hr : j % t.size < t.size := Nat.mod_lt _ hs0
        have hcell := (hcss (j / t.size) hq).2.1 (j % t.size) hr
        have haddr : (a.add (j / t.size * t.size)).add (j % t.size) = ⟨a.block, a.off + j, none⟩ := by
          rw [hsp, add_none, add_none]
          have := Nat.div_add_mod j t.size
          rw [Nat.mul_comm] at this
          congr 1
          show a.off + _ + _ = a.off + j
          omega
        rw [haddr] at hcell
        rw [hcell]
        show _ = some (css.flatten.getD j undef)
        have hg := flatten_get css t.size hlens j (by omega)
        rw [List.getD_eq_getElem?_getD, hg]
        rw [List.getElem?_eq_getElem hq]
        simp only [Option.bind_some]
        rw [List.getElem?_eq_getElem (by rw [(hcss _ hq).1]; exact hr)]
        rfl
      · obtain ⟨hic, hx, _⟩ := hy i h
        rw [flatten_row css t.size hlens i hic]
        exact hx
  | fnil =>
    refine ⟨fun tid cs fuel y hf h => ?_, fun fs off n cs hf hl _ => ?_⟩
    · obtain ⟨fs, he, hc⟩ := fits_fnil hf
      obtain ⟨xs, n, _, _, hlen, _⟩ := DataW.trod_struct he h
      exact ⟨(), List.eq_nil_of_length_eq_zero (by omega), fun _ => trivial⟩
    · refine ⟨(), ?_, fun _ => trivial⟩
      show cs.drop off = []
      rw [List.drop_eq_nil_iff]
      simp only [size] at hl
      omega
  | fcons a b iha ihb =>
    refine ⟨fun tid cs fuel y hf h => ?_, fun fs off n cs hf hl hfl => ?_⟩
    · obtain ⟨fs, f, l, he, hfs, hoff, hfa, hca, hfb, hct⟩ := fits_fcons hf
      obtain ⟨xs, n, _, hyx, hlen, hxl, hg⟩ := DataW.trod_struct he h
      have hall : flds enc P w n cs fs.toList := by
        intro g hgm
        obtain ⟨i, hi, rfl⟩ := List.mem_iff_getElem.1 hgm
        have hi' : i < fs.size := by simpa using hi
        have h1 := hg i fs[i] (Array.getElem?_eq_getElem hi')
        rw [List.getElem?_eq_getElem (by omega)] at h1
        exact ⟨_, by simpa using h1⟩
      have hwt : (∀ m ∈ y.1.weights P tid, m ≤ reachBytes) → ∀ g ∈ fs.toList, ∀ z, DataW.trod enc P w 0 (fun _ => true) true n g.type ((cs.drop g.offset).take (P.cellsOf g.type)) = some z → ∀ m ∈ z.1.weights P g.type, m ≤ reachBytes := by
        intro hm g hgm z hz k hk
        obtain ⟨i, hi, rfl⟩ := List.mem_iff_getElem.1 hgm
        have hi' : i < fs.size := by simpa using hi
        have h1 := hg i fs[i] (Array.getElem?_eq_getElem hi')
        have e1 : fs.toList[i] = fs[i] := by simp
        rw [e1] at hz hk
        rw [hz] at h1
        refine hm k ?_
        rw [hyx]
        simp only [DataW.weights,he]
        exact DataW.weights_mem_each (j := i) (t := fs[i].type) (d := z.1) (by simp [hi']) (by rw [List.getElem?_map, ← h1]; rfl) k hk
      rw [hfs] at hall hwt
      obtain ⟨y1, hy1⟩ := hall f (by simp)
      have hy1' := hy1
      rw [hoff, List.drop_zero, hca] at hy1
      obtain ⟨x1, hx1, hw1⟩ := iha.1 f.type _ n y1 hfa hy1
      obtain ⟨x2, hx2, hw2⟩ := ihb.2 l a.size n cs hfb (by omega) (fun g hgm => hall g (by simp [hgm]))
      exact ⟨(x1, x2), ⟨by omega, hx1, hx2⟩, fun hm => ⟨hw1 (hwt hm f (by simp) y1 hy1'), hw2 fun g hgm => hwt hm g (by simp [hgm])⟩⟩
    · obtain ⟨f, l, rfl, hoff, hfa, hca, hfb⟩ := fits_more hf
      obtain ⟨y1, hy1⟩ := hfl f (by simp)
      have hy1' := hy1
      rw [hoff, hca] at hy1
      obtain ⟨x1, hx1, hw1⟩ := iha.1 f.type _ n y1 hfa hy1
      obtain ⟨x2, hx2, hw2⟩ := ihb.2 l (off + a.size) n cs hfb (by simp only [size] at hl; omega) (fun g hgm => hfl g (by simp [hgm]))
      refine ⟨(x1, x2), ⟨by simp only [size] at hl; simp; omega, hx1, ?_⟩, fun hm => ⟨hw1 (hm f (by simp) y1 hy1'), hw2 fun g hgm => hm g (by simp [hgm])⟩⟩
      rw [List.drop_drop]
      exact hx2
end
def Val (w : World) (t : Ty) (v : Value) (x : t.D) : Prop :=
  match t.isAgg with
  | true => ∃ cs : Array Value, v = .agg cs ∧ Is w t cs.toList x
  | false => Is w t [v] x

theorem opened {H : Type} {enc : TypeId × Value → H} {P : Program} {w : World} {b0 : Nat} (t : Ty) {tid : TypeId} {v : Value} {d : DataW H} {p : List MemPlace} (hm : fits P t false tid [] 0 = true)
    (hv : Value.okWide P w .any b0 tid v) (h : DataW.Trod enc P w 0 (fun _ => true) true tid v d p) : ∃ x, Val w t v x ∧ ((∀ m ∈ d.weights P tid, m ≤ reachBytes) → lite t x) := by
  obtain ⟨fuel, hf⟩ := h
  obtain ⟨x, hx, hw⟩ := (read (enc := enc) (P := P) (w := w) t).1 tid _ fuel _ hm hf
  refine ⟨x, ?_, hw⟩
  cases t with
  | int k =>
    obtain ⟨y, rfl⟩ := okWide_int (fits_int hm) hv
    exact hx
  | u8 =>
    obtain ⟨y, rfl⟩ := okWide_int (fits_u8 hm) hv
    exact hx
  | bool =>
    obtain ⟨y, rfl⟩ := okWide_bool (fits_bool hm) hv
    exact hx
  | str =>
    obtain ⟨y, rfl⟩ := okWide_string (fits_str hm) hv
    exact hx
  | sl t =>
    obtain ⟨e, he, _⟩ := fits_sl hm
    obtain ⟨a, len, cap, rfl⟩ := okWide_slice he hv
    exact hx
  | arr n t =>
    obtain ⟨e, he, _⟩ := fits_arr hm
    obtain ⟨cs, rfl, _⟩ : ∃ cs, v = .agg cs ∧ cs.size = P.cellsOf tid := by
      simp only [Value.okWide,he] at hv
      obtain ⟨cs, h1, h2, _⟩ := hv
      exact ⟨cs, h1, h2⟩
    exact ⟨cs, rfl, hx⟩
  | fnil =>
    obtain ⟨fs, he, _⟩ := fits_fnil hm
    obtain ⟨cs, rfl, _⟩ := okWide_struct he hv
    exact ⟨cs, rfl, hx⟩
  | fcons a b =>
    obtain ⟨fs, f, l, he, _⟩ := fits_fcons hm
    obtain ⟨cs, rfl, _⟩ := okWide_struct he hv
    exact ⟨cs, rfl, hx⟩
end Ty

theorem trodAll_below {H : Type} {enc : TypeId × Value → H} {P : Program} (hl : laidOutB P = true) {W W' : World} (hb : Below W.heap.size W W') :
    ∀ (ts : List TypeId) (vs : List Value) (ds : List (DataW H)) (ps : List MemPlace), (ts.all fun t => P.readableRec t && decide (t < P.types.size)) = true →
      DataW.TrodAll enc P W 0 (fun _ => true) true ts vs ds ps → DataW.TrodAll enc P W' 0 (fun b => decide (b < W.heap.size)) true ts vs ds ps
  | [], [], [], _, _, h => h
  | [], [], _ :: _, _, _, h => h.elim
  | [], _ :: _, _, _, _, h => h.elim
  | _ :: _, [], _, _, _, h => h.elim
  | _ :: _, _ :: _, [], _, _, h => h.elim
  | t :: ts, v :: vs, d :: ds, ps, hr, h => by
    obtain ⟨p, q, h1, h2, e⟩ := h
    simp only [List.all_cons,Bool.and_eq_true] at hr
    have hlt : ∀ x ∈ p, x.block < W.heap.size := by obtain ⟨m, hm⟩ := h1; exact DataW.trod_lt m _ _ _ hm
    exact ⟨p, q, Below.trod hl hr.1.1 (of_decide_eq_true hr.1.2) h1 hb hlt, trodAll_below hl hb ts vs ds q hr.2 h2, e⟩
end Go.Proofs.YtcilmfhncjfdbaaDoor
end
section
/-
  A MACHINE OF VALUES, FIRST PART: values with named blocks in place of addresses; contents of blocks as trees; what it means that a value of the model is one of these.
-/
set_option linter.unusedVariables false
set_option linter.unusedSectionVars false
set_option linter.unusedSimpArgs false
namespace Go.Proofs.YtcilmfhncjfdbaaDoor.V
open Go

inductive Sh where
  | cell
  | st (ls : List Sh)
  | arr (n : Nat) (s : Sh)
mutual
def Sh.size : Sh → Nat
  | .cell => 1
  | .st ls => Sh.sizes ls
  | .arr n s => n * s.size
def Sh.sizes : List Sh → Nat
  | [] => 0
  | s :: l => s.size + Sh.sizes l
end
def Sh.at : Sh → List Nat → Option Sh
  | s, [] => some s
  | .st ls, i :: p => match ls[i]? with
    | some s => s.at p
    | none => none
  | .arr _ s, _ :: p => s.at p
  | .cell, _ :: _ => none
def Sh.off : Sh → List Nat → Nat
  | _, [] => 0
  | .st ls, i :: p => Sh.sizes (ls.take i) + (match ls[i]? with
    | some s => s.off p
    | none => 0)
  | .arr _ s, i :: p => i * s.size + s.off p
  | .cell, _ :: _ => 0

inductive VV where
  | int (k : IntKind) (n : Int)
  | bool (b : Bool)
  | str (s : List UInt8)
  | agg (vs : List VV)
  | tup (vs : List VV)
  /-- a slice of the call's own: block, path in the block, first place, length -/
  | sl (p : Option (Nat × List Nat × Nat)) (len : Nat)
  | ptr (m : Nat) (p : List Nat)
  | fn (f : FuncId) (caps : List VV)
  | map (m : Nat)
  /-- a slice that nobody writes to, by what it holds -/
  | dat (s : Sh) (els : List VV)
  /-- a place that nobody writes to, by what it holds -/
  | pd (s : Sh) (v : VV)
  /-- a new slice, in an answer -/
  | vec (s : Sh) (els : List VV)
  | any
  | raw (v : Value)

def VV.get : VV → List Nat → Option VV
  | v, [] => some v
  | .agg vs, i :: p => match vs[i]? with
    | some u => u.get p
    | none => none
  | _, _ :: _ => none
def VV.set : VV → List Nat → VV → VV
  | _, [], u => u
  | .agg vs, i :: p, u => match vs[i]? with
    | some v => .agg (vs.set i (v.set p u))
    | none => .agg vs
  | v, _ :: _, _ => v
def VV.leaf : VV → Bool
  | .agg _ | .tup _ | .vec _ _ | .any => false
  | .raw v => v.oneCell'
  | _ => true
mutual
def Has : Sh → VV → Prop
  | .cell, v => v.leaf = true
  | .st ls, .agg vs => HasL ls vs
  | .arr n s, .agg vs => vs.length = n ∧ ∀ v ∈ vs, Has s v
  | _, _ => False
def HasL : List Sh → List VV → Prop
  | [], vs => vs = []
  | s :: ls, v :: vs => Has s v ∧ HasL ls vs
  | _ :: _, [] => False
end

structure Loc where
  block : Nat
  base : Nat
  room : Nat
  sh : Sh
structure Names where
  nm : Nat → Option Loc
  im : Nat → Prop
instance : CoeFun Names fun _ => Nat → Option Loc := ⟨Names.nm⟩
def Names.give (ρ : Names) (n : Nat) (l : Loc) : Names := { ρ with nm := fun m => if m = n then some l else ρ.nm m }
theorem give_ap (ρ : Names) (n : Nat) (l : Loc) (m : Nat) : (ρ.give n l) m = if m = n then some l else ρ m := rfl
def Unnamed (ρ : Names) (b : Nat) : Prop := ρ.im b ∧ ∀ n l, ρ n = some l → l.block ≠ b

mutual
def C1 (ρ : Names) (w : World) : VV → List Value → Prop
  | .int k n, cs => cs = [.int k n]
  | .bool b, cs => cs = [.bool b]
  | .str s, cs => cs = [.string ⟨s.toArray⟩]
  | .agg vs, cs => CR ρ w vs cs
  | .tup _, _ => False
  | .sl none n, cs => n = 0 ∧ cs = [.slice none 0 0]
  | .sl (some (m, p, i)) n, cs => (n = 0 ∧ ∃ A, cs = [.slice A 0 0]) ∨ ∃ l c e k, ρ m = some l ∧ cs = [.slice (some ⟨l.block, l.base + l.sh.off (p ++ [i]), none⟩) n c] ∧ n ≤ c ∧
      l.sh.at p = some (.arr k e) ∧ l.sh.off (p ++ [i]) + c * e.size ≤ l.room
  | .ptr m p, cs => ∃ l, ρ m = some l ∧ cs = [.pointer (some ⟨l.block, l.base + l.sh.off p, none⟩)]
  | .fn f caps, cs => ∃ xs, cs = [.func (.func f) #[] xs] ∧ CV ρ w caps xs.toList
  | .map m, cs => ∃ l, ρ m = some l ∧ cs = [.map (some l.block)]
  | .dat s els, cs => ∃ A c, cs = [.slice A els.length c] ∧ els.length ≤ c ∧ (els ≠ [] → ∃ b o ecs, A = some ⟨b, o, none⟩ ∧ CR ρ w els ecs ∧ (∀ e ∈ els, Has s e) ∧
      w.rangeAt b o ecs ∧ Unnamed ρ b ∧ b < w.heap.size)
  | .pd s v, cs => ∃ b o ecs, cs = [.pointer (some ⟨b, o, none⟩)] ∧ C1 ρ w v ecs ∧ Has s v ∧ w.rangeAt b o ecs ∧ Unnamed ρ b ∧ b < w.heap.size
  | .vec _ _, _ => False
  | .any, cs => ∃ x, cs = [x]
  | .raw v, cs => cs = [v]
def CR (ρ : Names) (w : World) : List VV → List Value → Prop
  | [], cs => cs = []
  | v :: vs, cs => ∃ c1 c2, cs = c1 ++ c2 ∧ C1 ρ w v c1 ∧ CR ρ w vs c2
def CV (ρ : Names) (w : World) : List VV → List Value → Prop
  | [], cs => cs = []
  | v :: vs, cs => ∃ x c2, cs = x :: c2 ∧ v.leaf = true ∧ C1 ρ w v [x] ∧ CV ρ w vs c2
end

def VR1 (ρ : Names) (w : World) : VV → Value → Prop
  | .agg vs, x => ∃ cs, x = .agg cs ∧ CR ρ w vs cs.toList
  | .any, _ => True
  | v, x => C1 ρ w v [x]
def VRs (ρ : Names) (w : World) : List VV → List Value → Prop
  | [], xs => xs = []
  | v :: vs, xs => ∃ x ys, xs = x :: ys ∧ VR1 ρ w v x ∧ VRs ρ w vs ys
def VR (ρ : Names) (w : World) : VV → Value → Prop
  | .tup vs, x => ∃ xs, x = .tuple xs ∧ VRs ρ w vs xs.toList
  | v, x => VR1 ρ w v x

structure Ext (ρ : Names) (w : World) (ρ' : Names) (w' : World) : Prop where
  names : ∀ m l, ρ m = some l → ρ' m = some l
  size : w.heap.size ≤ w'.heap.size
  block : ∀ b, b < w.heap.size → Unnamed ρ b → w'.heap[b]? = w.heap[b]?
  fresh : ∀ m l, ρ' m = some l → ρ m = some l ∨ w.heap.size ≤ l.block ∨ ∃ m0 l0, ρ m0 = some l0 ∧ l0.block = l.block
  im : ∀ b, ρ.im b → ρ'.im b
  imb : ∀ b, ρ'.im b → ρ.im b ∨ w.heap.size ≤ b

theorem Ext.refl (ρ : Names) (w : World) : Ext ρ w ρ w := ⟨fun _ _ h => h, Nat.le_refl _, fun _ _ _ => rfl, fun _ _ h => .inl h, fun _ h => h, fun _ h => .inl h⟩
theorem Ext.unnamed {ρ ρ' : Names} {w w' : World} (h : Ext ρ w ρ' w') {b : Nat} (hb : b < w.heap.size) (hu : Unnamed ρ b) : Unnamed ρ' b := ⟨h.im b hu.1, fun n l hn => by
  rcases h.fresh n l hn with h1 | h1 | ⟨m0, l0, h1, h2⟩
  · exact hu.2 n l h1
  · omega
  · rw [← h2]; exact hu.2 m0 l0 h1⟩
theorem cell_of_block {w w' : World} {b : Nat} (h : w'.heap[b]? = w.heap[b]?) (o : Nat) : w'.cell? ⟨b, o, none⟩ = w.cell? ⟨b, o, none⟩ := by
  unfold World.cell?
  simp only [h]
theorem Ext.range {ρ ρ' : Names} {w w' : World} (h : Ext ρ w ρ' w') {b o : Nat} {cs : List Value} (hb : b < w.heap.size) (hu : Unnamed ρ b) (hr : w.rangeAt b o cs) : w'.rangeAt b o cs := fun j v hv => by
  rw [cell_of_block (h.block b hb hu)]
  exact hr j v hv
theorem Ext.trans {ρ ρ1 ρ2 : Names} {w w1 w2 : World} (h : Ext ρ w ρ1 w1) (h' : Ext ρ1 w1 ρ2 w2) : Ext ρ w ρ2 w2 := by
  refine ⟨fun m l hm => h'.names m l (h.names m l hm), Nat.le_trans h.size h'.size, fun b hb hu => ?_, fun m l hm => ?_, fun b hb => h'.im b (h.im b hb), fun b hb => (h'.imb b hb).elim (h.imb b) fun h2 => .inr (Nat.le_trans h.size h2)⟩
  · rw [h'.block b (Nat.lt_of_lt_of_le hb h.size) (h.unnamed hb hu)]
    exact h.block b hb hu
  · rcases h'.fresh m l hm with h1 | h1 | ⟨m0, l0, h1, h2⟩
    · exact h.fresh m l h1
    · exact .inr (.inl (Nat.le_trans h.size h1))
    · rcases h.fresh m0 l0 h1 with h3 | h3 | ⟨m1, l1, h3, h4⟩
      · exact .inr (.inr ⟨m0, l0, h3, h2⟩)
      · exact .inr (.inl (by omega))
      · exact .inr (.inr ⟨m1, l1, h3, h4.trans h2⟩)

section
variable {ρ ρ' : Names} {w w' : World}
mutual
theorem C1.ext (h : Ext ρ w ρ' w') : ∀ (v : VV) (cs : List Value), C1 ρ w v cs → C1 ρ' w' v cs
  | .int _ _, _, hc => by simpa only [C1] using hc
  | .bool _, _, hc => by simpa only [C1] using hc
  | .str _, _, hc => by simpa only [C1] using hc
  | .agg vs, cs, hc => by simp only [C1] at hc ⊢; exact CR.ext h vs cs hc
  | .tup _, _, hc => by simp only [C1] at hc
  | .sl none _, _, hc => by simpa only [C1] using hc
  | .sl (some (m, p, i)) n, cs, hc => by
    simp only [C1] at hc ⊢
    rcases hc with hc | ⟨l, c, e, k, h1, h2⟩
    · exact .inl hc
    · exact .inr ⟨l, c, e, k, h.names _ _ h1, h2⟩
  | .ptr m p, cs, hc => by
    simp only [C1] at hc ⊢
    obtain ⟨l, h1, h2⟩ := hc
    exact ⟨l, h.names _ _ h1, h2⟩
  | .fn f caps, cs, hc => by
    simp only [C1] at hc ⊢
    obtain ⟨xs, h1, h2⟩ := hc
    exact ⟨xs, h1, CV.ext h caps _ h2⟩
  | .map m, cs, hc => by
    simp only [C1] at hc ⊢
    obtain ⟨l, h1, h2⟩ := hc
    exact ⟨l, h.names _ _ h1, h2⟩
  | .dat s els, cs, hc => by
    simp only [C1] at hc ⊢
    obtain ⟨A, c, h1, h2, h3⟩ := hc
    refine ⟨A, c, h1, h2, fun hne => ?_⟩
    obtain ⟨b, o, ecs, g1, g2, g3, g4, g5, g6⟩ := h3 hne
    exact ⟨b, o, ecs, g1, CR.ext h els ecs g2, g3, h.range g6 g5 g4, h.unnamed g6 g5, Nat.lt_of_lt_of_le g6 h.size⟩
  | .pd s v, cs, hc => by
    simp only [C1] at hc ⊢
    obtain ⟨b, o, ecs, g1, g2, g3, g4, g5, g6⟩ := hc
    exact ⟨b, o, ecs, g1, C1.ext h v ecs g2, g3, h.range g6 g5 g4, h.unnamed g6 g5, Nat.lt_of_lt_of_le g6 h.size⟩
  | .vec _ _, _, hc => by simp only [C1] at hc
  | .any, _, hc => by simpa only [C1] using hc
  | .raw _, _, hc => by simpa only [C1] using hc
theorem CR.ext (h : Ext ρ w ρ' w') : ∀ (vs : List VV) (cs : List Value), CR ρ w vs cs → CR ρ' w' vs cs
  | [], _, hc => by simpa only [CR] using hc
  | v :: vs, cs, hc => by
    simp only [CR] at hc ⊢
    obtain ⟨c1, c2, h1, h2, h3⟩ := hc
    exact ⟨c1, c2, h1, C1.ext h v c1 h2, CR.ext h vs c2 h3⟩
theorem CV.ext (h : Ext ρ w ρ' w') : ∀ (vs : List VV) (cs : List Value), CV ρ w vs cs → CV ρ' w' vs cs
  | [], _, hc => by simpa only [CV] using hc
  | v :: vs, cs, hc => by
    simp only [CV] at hc ⊢
    obtain ⟨c1, c2, h1, h2, h3, h4⟩ := hc
    exact ⟨c1, c2, h1, h2, C1.ext h v [c1] h3, CV.ext h vs c2 h4⟩
end
theorem VR1.ext (h : Ext ρ w ρ' w') (v : VV) (x : Value) (hc : VR1 ρ w v x) : VR1 ρ' w' v x := by
  cases v with
  | agg vs => obtain ⟨cs, h1, h2⟩ := hc; exact ⟨cs, h1, CR.ext h vs _ h2⟩
  | any => trivial
  | _ => exact C1.ext h _ _ hc
theorem VRs.ext (h : Ext ρ w ρ' w') : ∀ (vs : List VV) (xs : List Value), VRs ρ w vs xs → VRs ρ' w' vs xs
  | [], _, hc => hc
  | v :: vs, xs, hc => by
    obtain ⟨x, ys, h1, h2, h3⟩ := hc
    exact ⟨x, ys, h1, VR1.ext h v x h2, VRs.ext h vs ys h3⟩
theorem VR.ext (h : Ext ρ w ρ' w') (v : VV) (x : Value) (hc : VR ρ w v x) : VR ρ' w' v x := by
  cases v with
  | tup vs => obtain ⟨cs, h1, h2⟩ := hc; exact ⟨cs, h1, VRs.ext h vs _ h2⟩
  | _ => simp only [VR] at hc ⊢; exact VR1.ext h _ _ hc
end

/-! ### cells of a shape -/
section
variable {ρ : Names} {w : World}
theorem leaf_one {v : VV} {cs : List Value} (hl : v.leaf = true) (h : C1 ρ w v cs) : ∃ x, cs = [x] := by
  cases v with
  | agg _ | tup _ | vec _ _ | any => simp [VV.leaf] at hl
  | sl p n => cases p with
    | none => simp only [C1] at h; exact ⟨_, h.2⟩
    | some q => obtain ⟨m, p, i⟩ := q; simp only [C1] at h; rcases h with ⟨_, A, h⟩ | ⟨l, c, e, k, _, h, _⟩; exact ⟨_, h⟩; exact ⟨_, h⟩
  | ptr m p => simp only [C1] at h; obtain ⟨l, _, h⟩ := h; exact ⟨_, h⟩
  | fn f c => simp only [C1] at h; obtain ⟨l, h, _⟩ := h; exact ⟨_, h⟩
  | map m => simp only [C1] at h; obtain ⟨l, _, h⟩ := h; exact ⟨_, h⟩
  | dat s e => simp only [C1] at h; obtain ⟨A, c, h, _⟩ := h; exact ⟨_, h⟩
  | pd s e => simp only [C1] at h; obtain ⟨b, o, c, h, _⟩ := h; exact ⟨_, h⟩
  | _ => simp only [C1] at h; exact ⟨_, h⟩
mutual
theorem Has.len : ∀ (s : Sh) (v : VV) (cs : List Value), Has s v → C1 ρ w v cs → cs.length = s.size
  | .cell, v, cs, h, hc => by
    simp only [Has] at h
    obtain ⟨x, rfl⟩ := leaf_one h hc
    simp [Sh.size]
  | .st ls, .agg vs, cs, h, hc => by
    simp only [Has] at h
    simp only [C1] at hc
    simp only [Sh.size]
    exact HasL.len ls vs cs h hc
  | .arr n s, .agg vs, cs, h, hc => by
    simp only [Has] at h
    simp only [C1] at hc
    obtain ⟨rfl, h⟩ := h
    simp only [Sh.size]
    induction vs generalizing cs with
    | nil => simp only [CR] at hc; simp [hc]
    | cons v vs ih =>
      simp only [CR] at hc
      obtain ⟨c1, c2, rfl, h1, h2⟩ := hc
      have e1 := Has.len s v c1 (h v (by simp)) h1
      have e2 := ih c2 h2 (fun u hu => h u (by simp [hu]))
      rw [List.length_append, e1, e2, List.length_cons, Nat.add_mul]
      omega
  | .st _, .int _ _, _, h, _ | .st _, .bool _, _, h, _ | .st _, .str _, _, h, _ | .st _, .tup _, _, h, _ | .st _, .sl _ _, _, h, _ | .st _, .ptr _ _, _, h, _ | .st _, .fn _ _, _, h, _
  | .st _, .map _, _, h, _ | .st _, .dat _ _, _, h, _ | .st _, .pd _ _, _, h, _ | .st _, .vec _ _, _, h, _ | .st _, .any, _, h, _ | .st _, .raw _, _, h, _ => by simp [Has] at h
  | .arr _ _, .int _ _, _, h, _ | .arr _ _, .bool _, _, h, _ | .arr _ _, .str _, _, h, _ | .arr _ _, .tup _, _, h, _ | .arr _ _, .sl _ _, _, h, _ | .arr _ _, .ptr _ _, _, h, _ | .arr _ _, .fn _ _, _, h, _
  | .arr _ _, .map _, _, h, _ | .arr _ _, .dat _ _, _, h, _ | .arr _ _, .pd _ _, _, h, _ | .arr _ _, .vec _ _, _, h, _ | .arr _ _, .any, _, h, _ | .arr _ _, .raw _, _, h, _ => by simp [Has] at h
theorem HasL.len : ∀ (ls : List Sh) (vs : List VV) (cs : List Value), HasL ls vs → CR ρ w vs cs → cs.length = Sh.sizes ls
  | [], vs, cs, h, hc => by
    simp only [HasL] at h
    subst h
    simp only [CR] at hc
    simp [hc, Sh.sizes]
  | s :: ls, v :: vs, cs, h, hc => by
    simp only [HasL] at h
    simp only [CR] at hc
    obtain ⟨c1, c2, rfl, h1, h2⟩ := hc
    rw [List.length_append, Has.len s v c1 h.1 h1, HasL.len ls vs c2 h.2 h2]
    simp [Sh.sizes]
  | _ :: _, [], _, h, _ => by simp [HasL] at h
end
end

section
variable {ρ : Names} {w : World}
theorem CR.split : ∀ (a : List VV) (b : List VV) (cs : List Value), CR ρ w (a ++ b) cs → ∃ c1 c2, cs = c1 ++ c2 ∧ CR ρ w a c1 ∧ CR ρ w b c2
  | [], b, cs, h => ⟨[], cs, rfl, by simp only [CR], h⟩
  | v :: a, b, cs, h => by
    rw [List.cons_append] at h
    simp only [CR] at h
    obtain ⟨c1, c2, rfl, h1, h2⟩ := h
    obtain ⟨d1, d2, rfl, h3, h4⟩ := CR.split a b c2 h2
    exact ⟨c1 ++ d1, d2, by simp, by simp only [CR]; exact ⟨c1, d1, rfl, h1, h3⟩, h4⟩
theorem CR.join : ∀ (a : List VV) (b : List VV) (c1 c2 : List Value), CR ρ w a c1 → CR ρ w b c2 → CR ρ w (a ++ b) (c1 ++ c2)
  | [], b, c1, c2, h, h' => by
    simp only [CR] at h
    subst h
    exact h'
  | v :: a, b, c1, c2, h, h' => by
    simp only [CR] at h
    obtain ⟨d1, d2, rfl, h1, h2⟩ := h
    rw [List.cons_append]
    simp only [CR]
    exact ⟨d1, d2 ++ c2, by simp, h1, CR.join a b d2 c2 h2 h'⟩
theorem CR.one {v : VV} {cs : List Value} (h : C1 ρ w v cs) : CR ρ w [v] cs := by
  simp only [CR]
  exact ⟨cs, [], by simp, h, rfl⟩
theorem HasL.take : ∀ (ls : List Sh) (vs : List VV) (i : Nat), HasL ls vs → HasL (ls.take i) (vs.take i)
  | _, _, 0, _ => by simp [HasL]
  | [], vs, i + 1, h => by simp only [HasL] at h; subst h; simp [HasL]
  | s :: ls, v :: vs, i + 1, h => by
    simp only [HasL] at h
    simp only [List.take_succ_cons,HasL]
    exact ⟨h.1, HasL.take ls vs i h.2⟩
  | _ :: _, [], _ + 1, h => by simp [HasL] at h
theorem HasL.nth : ∀ (ls : List Sh) (vs : List VV) (i : Nat) (u : VV), HasL ls vs → vs[i]? = some u → ∃ s, ls[i]? = some s ∧ Has s u
  | [], vs, i, u, h, hu => by simp only [HasL] at h; subst h; simp at hu
  | s :: ls, v :: vs, 0, u, h, hu => by
    simp only [HasL] at h
    simp at hu
    subst hu
    exact ⟨s, by simp, h.1⟩
  | s :: ls, v :: vs, i + 1, u, h, hu => by
    simp only [HasL] at h
    simp at hu
    obtain ⟨s', h1, h2⟩ := HasL.nth ls vs i u h.2 hu
    exact ⟨s', by simpa using h1, h2⟩
  | _ :: _, [], _, _, h, _ => by simp [HasL] at h
theorem HasL.put : ∀ (ls : List Sh) (vs : List VV) (i : Nat) (s : Sh) (u : VV), HasL ls vs → ls[i]? = some s → Has s u → HasL ls (vs.set i u)
  | [], _, _, _, _, _, hs, _ => by simp at hs
  | s :: ls, v :: vs, 0, s', u, h, hs, hu => by
    simp only [HasL] at h
    simp at hs
    subst hs
    simp only [List.set_cons_zero,HasL]
    exact ⟨hu, h.2⟩
  | s :: ls, v :: vs, i + 1, s', u, h, hs, hu => by
    simp only [HasL] at h
    simp only [List.set_cons_succ,HasL]
    exact ⟨h.1, HasL.put ls vs i s' u h.2 (by simpa using hs) hu⟩
  | _ :: _, [], _, _, _, h, _, _ => by simp [HasL] at h
theorem split_at {α : Type} {vs : List α} {i : Nat} {u : α} (h : vs[i]? = some u) : vs = vs.take i ++ u :: vs.drop (i + 1) := by
  obtain ⟨hi, rfl⟩ := List.getElem?_eq_some_iff.1 h
  simp
theorem set_at {α : Type} {vs : List α} {i : Nat} {u : α} (h : vs[i]? = some u) (u' : α) : vs.set i u' = vs.take i ++ u' :: vs.drop (i + 1) := by
  obtain ⟨hi, rfl⟩ := List.getElem?_eq_some_iff.1 h
  exact List.set_eq_take_append_cons_drop.trans (by simp [hi])
theorem HasA.len {s : Sh} : ∀ (vs : List VV) (cs : List Value), (∀ v ∈ vs, Has s v) → CR ρ w vs cs → cs.length = vs.length * s.size
  | [], cs, _, h => by simp only [CR] at h; simp [h]
  | v :: vs, cs, h, hc => by
    simp only [CR] at hc
    obtain ⟨c1, c2, rfl, h1, h2⟩ := hc
    rw [List.length_append, Has.len s v c1 (h v (by simp)) h1, HasA.len vs c2 (fun u hu => h u (by simp [hu])) h2, List.length_cons, Nat.add_mul]
    omega
theorem focus : ∀ (p : List Nat) (s : Sh) (v u : VV) (cs : List Value), Has s v → v.get p = some u → C1 ρ w v cs →
    ∃ su pre mid post, s.at p = some su ∧ Has su u ∧ cs = pre ++ mid ++ post ∧ pre.length = s.off p ∧ C1 ρ w u mid ∧
      (∀ u', Has su u' → Has s (v.set p u')) ∧ ∀ ρ' w' u' mid', Ext ρ w ρ' w' → C1 ρ' w' u' mid' → C1 ρ' w' (v.set p u') (pre ++ mid' ++ post)
  | [], s, v, u, cs, hs, hg, hc => by
    simp only [VV.get,Option.some.injEq] at hg
    subst hg
    exact ⟨s, [], cs, [], by simp [Sh.at], hs, by simp, by simp [Sh.off], hc, fun u' hu' => by simpa [VV.set] using hu', fun ρ' w' u' mid' _ hu' => by simpa [VV.set] using hu'⟩
  | i :: p, s, v, u, cs, hs, hg, hc => by
    cases v with
    | agg vs =>
      simp only [VV.get] at hg
      cases hi : vs[i]? with
      | none => simp [hi] at hg
      | some x =>
        simp only [hi] at hg
        simp only [C1] at hc
        have hsp := split_at hi
        rw [hsp] at hc
        obtain ⟨c1, c2, rfl, g1, g2⟩ := CR.split _ _ _ hc
        simp only [CR] at g2
        obtain ⟨c3, c4, rfl, g3, g4⟩ := g2
        have key : ∀ (sx : Sh), Has sx x → (∀ x', Has sx x' → Has s (.agg (vs.set i x'))) → s.at (i :: p) = sx.at p → s.off (i :: p) = c1.length + sx.off p →
            ∃ su pre mid post, s.at (i :: p) = some su ∧ Has su u ∧ c1 ++ (c3 ++ c4) = pre ++ mid ++ post ∧ pre.length = s.off (i :: p) ∧ C1 ρ w u mid ∧
            (∀ u', Has su u' → Has s ((VV.agg vs).set (i :: p) u')) ∧ ∀ ρ' w' u' mid', Ext ρ w ρ' w' → C1 ρ' w' u' mid' → C1 ρ' w' ((VV.agg vs).set (i :: p) u') (pre ++ mid' ++ post) := by
          intro sx hx hset hat hoff
          obtain ⟨su, pre, mid, post, k1, k2, rfl, k4, k5, k6, k7⟩ := focus p sx x u c3 hx hg g3
          refine ⟨su, c1 ++ pre, mid, post ++ c4, by rw [hat]; exact k1, k2, by simp, by rw [hoff, List.length_append, k4], k5, fun u' hu' => ?_, fun ρ' w' u' mid' he hu' => ?_⟩
          · simp only [VV.set,hi]
            exact hset _ (k6 u' hu')
          · simp only [VV.set,hi,C1]
            rw [set_at hi]
            have e1 := k7 ρ' w' u' mid' he hu'
            have e2 : CR ρ' w' (x.set p u' :: vs.drop (i + 1)) ((pre ++ mid' ++ post) ++ c4) := by
              simp only [CR]
              exact ⟨_, _, rfl, e1, CR.ext he _ _ g4⟩
            have e3 := CR.join _ _ _ _ (CR.ext he _ _ g1) e2
            have e4 : c1 ++ pre ++ mid' ++ (post ++ c4) = c1 ++ ((pre ++ mid' ++ post) ++ c4) := by simp
            rw [e4]
            exact e3
        cases s with
        | cell => simp [Has, VV.leaf] at hs
        | st ls =>
          simp only [Has] at hs
          obtain ⟨sx, hsx, hx⟩ := HasL.nth ls vs i x hs hi
          refine key sx hx (fun x' hx' => by simp only [Has]; exact HasL.put ls vs i sx x' hs hsx hx') (by simp [Sh.at, hsx]) ?_
          simp only [Sh.off,hsx]
          rw [HasL.len (ls.take i) (vs.take i) c1 (HasL.take ls vs i hs) g1]
        | arr n sx =>
          simp only [Has] at hs
          obtain ⟨hn, hall⟩ := hs
          have hx : Has sx x := hall x (List.mem_of_getElem? hi)
          refine key sx hx (fun x' hx' => ?_) (by simp [Sh.at]) ?_
          · simp only [Has]
            refine ⟨by simpa using hn, fun v hv => ?_⟩
            rcases List.mem_or_eq_of_mem_set hv with h | h
            · exact hall v h
            · rw [h]; exact hx'
          · simp only [Sh.off]
            have := HasA.len (ρ := ρ) (w := w) (s := sx) (vs.take i) c1 (fun v hv => hall v (List.mem_of_mem_take hv)) g1
            have hil : i < vs.length := (List.getElem?_eq_some_iff.1 hi).1
            rw [this, List.length_take, Nat.min_eq_left (by omega)]
    | _ => simp [VV.get] at hg
end
end Go.Proofs.YtcilmfhncjfdbaaDoor.V
end
section
/-
  A MACHINE OF VALUES: the package variables that are tables: where each lies, its shape, and what it holds.
-/
namespace Go.Proofs.YtcilmfhncjfdbaaDoor.V
open Go
def eightL : List Int := [1779033703, 3144134277, 1013904242, 2773480762, 1359893119, 2600822924, 528734635, 1541459225]
def rowsL : List (List Int) := [[0, 1, 2, 3, 4, 5, 6, 7, 8, 9, 10, 11, 12, 13, 14, 15], [14, 10, 4, 8, 9, 15, 13, 6, 1, 12, 0, 2, 11, 7, 5, 3], [11, 8, 12, 0, 5, 2, 15, 13, 10, 14, 3, 6, 7, 1, 9, 4], [7, 9, 3, 1, 13, 12, 11, 14, 2, 6, 5, 10, 4, 0, 15, 8], [9, 0, 5, 7, 2, 4, 10, 15, 14, 1, 11, 12, 6, 8, 3, 13], [2, 12, 6, 10, 0, 11, 8, 3, 4, 13, 7, 5, 15, 14, 1, 9], [12, 5, 1, 15, 14, 13, 4, 10, 0, 7, 6, 3, 9, 2, 8, 11], [13, 11, 7, 14, 12, 1, 3, 9, 5, 0, 15, 4, 8, 6, 2, 10], [6, 15, 14, 9, 11, 3, 0, 8, 12, 2, 13, 7, 1, 4, 10, 5], [10, 2, 8, 4, 7, 6, 1, 5, 15, 11, 9, 14, 3, 12, 13, 0]]
def tabs : List (Nat × Sh × VV) := [(0, .arr 8 .cell, .agg (eightL.map (.int .u32))), (1, .arr 10 (.arr 16 .cell), .agg (rowsL.map fun l => .agg (l.map (.int .u8))))]
end Go.Proofs.YtcilmfhncjfdbaaDoor.V
end
section
/-
  A MACHINE OF VALUES, SECOND PART: named blocks and the model's heap; types; zero values.
-/
set_option linter.unusedVariables false
set_option linter.unusedSectionVars false
set_option linter.unusedSimpArgs false
namespace Go.Proofs.YtcilmfhncjfdbaaDoor.V
open Go Go.RowKit

inductive Blk where
  | row (s : Sh) (v : VV)
  | map (es : List (VV × VV))
abbrev Heap := Nat → Option Blk
def upd {α : Type} (f : Nat → α) (n : Nat) (a : α) : Nat → α := fun m => if m = n then a else f m
theorem upd_ap {α : Type} (f : Nat → α) (n : Nat) (a : α) (m : Nat) : upd f n a m = if m = n then a else f m := rfl

structure RowAt (ρ : Names) (w : World) (l : Loc) (s : Sh) (v : VV) : Prop where
  sh : l.sh = s
  has : Has s v
  cells : ∃ cs, C1 ρ w v cs ∧ cs.length ≤ l.room ∧ w.rangeAt l.block l.base cs
  room : w.there l.block l.base l.room
def ME (ρ : Names) (w : World) : List (VV × VV) → List MapEntry → Prop
  | [], xs => xs = []
  | (k, v) :: es, xs => ∃ x ys, xs = x :: ys ∧ k.leaf = true ∧ VR1 ρ w k x.key ∧ VR1 ρ w v x.val ∧ ME ρ w es ys
def Stamp (xs : Array MapEntry) (clock : Nat) : Prop := ∀ x ∈ xs.toList, x.born < clock
structure MapAt (ρ : Names) (w : World) (l : Loc) (es : List (VV × VV)) : Prop where
  obj : ∃ xs clock, w.heap[l.block]? = some (.map xs clock) ∧ ME ρ w es xs.toList
  born : ∀ xs clock, w.heap[l.block]? = some (.map xs clock) → Stamp xs clock

class Zone (Z : Nat → Nat → Prop) where
  ok : Nat → Prop
  mono : ∀ n n' m, n ≤ n' → Z n' m → Z n m
  next : ∀ n m, ok n → Z (n + 1) m → m ≠ n
  free : ∀ n, ok n → Z n n
def ZT : Nat → Nat → Prop := fun n m => n ≤ m
instance : Zone ZT := ⟨fun _ => True, fun n n' m h h' => Nat.le_trans h h', fun n m _ h e => (by have : n + 1 ≤ m := h; omega), fun n _ => Nat.le_refl n⟩
structure Base (B : Nat) (ρ : Names) (w : World) : Prop where
  le : B ≤ w.heap.size
  tab : ∀ g s v, (g, s, v) ∈ tabs → g < B ∧ ρ.im g ∧ ∃ cs, (∀ ρ w, C1 ρ w v cs) ∧ Has s v ∧ w.rangeAt g 0 cs
theorem Base.next {B : Nat} {ρ ρ' : Names} {w w' : World} (h : Base B ρ w) (hsz : w.heap.size ≤ w'.heap.size) (hi : ∀ b, ρ.im b → ρ'.im b) (hb : ∀ b, b < B → w'.heap[b]? = w.heap[b]?) : Base B ρ' w' :=
  ⟨Nat.le_trans h.le hsz, fun g s v hg => by
    obtain ⟨h1, h2, cs, h3, h4, h5⟩ := h.tab g s v hg
    exact ⟨h1, hi g h2, cs, h3, h4, fun j x hx => by rw [cell_of_block (hb g h1)]; exact h5 j x hx⟩⟩
theorem Base.im {B : Nat} {ρ ρ' : Names} {w : World} (h : Base B ρ w) (hi : ∀ b, ρ.im b → ρ'.im b) : Base B ρ' w := h.next (Nat.le_refl _) hi fun _ _ => rfl
theorem Base.up {B B' : Nat} {ρ ρ' : Names} {w : World} (h : Base B ρ w) (h1 : B ≤ B') (h2 : B' ≤ w.heap.size) (hi : ∀ g s v, (g, s, v) ∈ tabs → ρ'.im g) : Base B' ρ' w :=
  ⟨h2, fun g s v hg => by
    obtain ⟨k1, k2, k3⟩ := h.tab g s v hg
    exact ⟨Nat.lt_of_lt_of_le k1 h1, hi g s v hg, k3⟩⟩
structure HR (Z : Nat → Nat → Prop) (B : Nat) (ρ : Names) (H : Heap) (n : Nat) (w : World) : Prop where
  bas : Base B ρ w
  fresh : ∀ m, Z n m → ρ m = none
  lt : ∀ m l, ρ m = some l → B ≤ l.block ∧ l.block < w.heap.size
  apart : ∀ m m' l l', ρ m = some l → ρ m' = some l' → H m ≠ none → H m' ≠ none → l.block = l'.block → m = m'
  row : ∀ m s v l, H m = some (.row s v) → ρ m = some l → RowAt ρ w l s v
  map : ∀ m es l, H m = some (.map es) → ρ m = some l → MapAt ρ w l es

theorem HR.base {Z : Nat → Nat → Prop} {B : Nat} {ρ : Names} {H : Heap} {n : Nat} {w : World} (h : HR Z B ρ H n w) : B ≤ w.heap.size := h.bas.le
theorem range_same {w w' : World} {b o : Nat} {cs : List Value} (h : w'.heap[b]? = w.heap[b]?) (hr : w.rangeAt b o cs) : w'.rangeAt b o cs := fun j v hv => by
  rw [cell_of_block h]; exact hr j v hv
theorem frozen_of_block {w w' : World} {b : Nat} (h : w'.heap[b]? = w.heap[b]?) (o : Nat) : w'.frozen? ⟨b, o, none⟩ = w.frozen? ⟨b, o, none⟩ := by
  unfold World.frozen?
  simp only [h]
theorem there_same {w w' : World} {b o n : Nat} (h : w'.heap[b]? = w.heap[b]?) (hr : w.there b o n) : w'.there b o n := fun j hj => by
  rw [cell_of_block h, frozen_of_block h]; exact hr j hj
section
variable {Z : Nat → Nat → Prop} [Zone Z] {B : Nat} {ρ ρ' : Names} {w w' : World} {H : Heap} {n : Nat}
theorem RowAt.same {l : Loc} {s : Sh} {v : VV} (h : RowAt ρ w l s v) (he : Ext ρ w ρ' w') (hb : w'.heap[l.block]? = w.heap[l.block]?) : RowAt ρ' w' l s v := by
  obtain ⟨cs, h1, h2, h3⟩ := h.cells
  exact ⟨h.sh, h.has, ⟨cs, C1.ext he v cs h1, h2, range_same hb h3⟩, there_same hb h.room⟩
theorem ME.ext (he : Ext ρ w ρ' w') : ∀ (es : List (VV × VV)) (xs : List MapEntry), ME ρ w es xs → ME ρ' w' es xs
  | [], _, h => h
  | (k, v) :: es, xs, h => by
    obtain ⟨x, ys, h1, h2, h3, h4, h5⟩ := h
    exact ⟨x, ys, h1, h2, VR1.ext he _ _ h3, VR1.ext he _ _ h4, ME.ext he es ys h5⟩
theorem MapAt.same {l : Loc} {es : List (VV × VV)} (h : MapAt ρ w l es) (he : Ext ρ w ρ' w') (hb : w'.heap[l.block]? = w.heap[l.block]?) : MapAt ρ' w' l es := by
  obtain ⟨xs, c, h1, h2⟩ := h.obj
  exact ⟨⟨xs, c, by rw [hb]; exact h1, ME.ext he es _ h2⟩, fun ys c' hy => h.born ys c' (by rw [← hb]; exact hy)⟩
theorem HR.kept (h : HR Z B ρ H n w) (hsz : w.heap.size ≤ w'.heap.size) (hb : ∀ b, b < w.heap.size → w'.heap[b]? = w.heap[b]?) : HR Z B ρ H n w' := by
  have he : Ext ρ w ρ w' := ⟨fun _ _ h => h, hsz, fun b hb' _ => hb b hb', fun _ _ h => .inl h, fun _ h => h, fun _ h => .inl h⟩
  refine ⟨h.bas.next hsz (fun _ h => h) (fun b hb1 => hb b (Nat.lt_of_lt_of_le hb1 h.base)), h.fresh, fun m l hm => ?_, h.apart, fun m s v l hm h1 => ?_, fun m es l hm h1 => ?_⟩
  · obtain ⟨h2, h3⟩ := h.lt m l hm
    exact ⟨h2, Nat.lt_of_lt_of_le h3 hsz⟩
  · exact (h.row m s v l hm h1).same he (hb _ (h.lt m l h1).2)
  · exact (h.map m es l hm h1).same he (hb _ (h.lt m l h1).2)
theorem HR.more (h : HR Z B ρ H n w) {n' : Nat} (hn : n ≤ n') : HR Z B ρ H n' w :=
  ⟨h.bas, fun m hz => h.fresh m (Zone.mono _ _ _ hn hz), h.lt, h.apart, h.row, h.map⟩
theorem ext_new (hn : ρ n = none) (l : Loc) (hsz : w.heap.size ≤ w'.heap.size) (hb : ∀ b, b < w.heap.size → b ≠ l.block → w'.heap[b]? = w.heap[b]?)
    (hl : w.heap.size ≤ l.block ∨ ∃ m0 l0, ρ m0 = some l0 ∧ l0.block = l.block) : Ext ρ w (ρ.give n l) w' := by
  refine ⟨fun m l' hm => ?_, hsz, fun b hb' hu => hb b hb' ?_, fun m l' hm => ?_, fun _ h => h, fun _ h => .inl h⟩
  · rw [give_ap, if_neg (by intro e; rw [e, hn] at hm; cases hm)]; exact hm
  · intro e
    rcases hl with h1 | ⟨m0, l0, h1, h2⟩
    · omega
    · exact hu.2 m0 l0 h1 (by rw [h2, e])
  · rw [give_ap] at hm
    split at hm
    · injection hm with hm
      subst hm
      exact .inr (hl.imp id id)
    · exact .inl hm
theorem HR.new (h : HR Z B ρ H n w) (hZ : Zone.ok Z n) {s : Sh} {v : VV} (l : Loc) (hl0 : w.heap.size ≤ l.block) (hl1 : l.block < w'.heap.size) (hsz : w.heap.size ≤ w'.heap.size) (hb : ∀ b, b < w.heap.size → w'.heap[b]? = w.heap[b]?)
    (hr : RowAt (ρ.give n l) w' l s v) : HR Z B (ρ.give n l) (upd H n (some (.row s v))) (n + 1) w' := by
  have he : Ext ρ w (ρ.give n l) w' := ext_new (h.fresh n (Zone.free n hZ)) l hsz (fun b hb' _ => hb b hb') (.inl hl0)
  have hbase := h.base
  refine ⟨h.bas.next hsz (fun _ h => h) (fun b hb1 => hb b (Nat.lt_of_lt_of_le hb1 h.base)), fun m hz => ?_, fun m l' hm => ?_, fun m m' l1 l2 h1 h2 g1 g2 heq => ?_, fun m s' v' l' hm h1 => ?_, fun m es l' hm h1 => ?_⟩
  · rw [give_ap, if_neg (Zone.next _ _ hZ hz)]
    exact h.fresh m (Zone.mono _ _ _ (Nat.le_succ _) hz)
  · rw [give_ap] at hm
    split at hm
    · injection hm with hm
      subst hm
      exact ⟨by omega, hl1⟩
    · obtain ⟨g2, g3⟩ := h.lt m l' hm
      exact ⟨g2, by omega⟩
  · simp only [upd_ap,give_ap] at h1 h2 g1 g2
    by_cases e1 : m = n
    · by_cases e2 : m' = n
      · omega
      · rw [if_pos e1] at h1
        rw [if_neg e2] at h2
        injection h1 with h1
        subst h1
        have := (h.lt m' l2 h2).2
        omega
    · by_cases e2 : m' = n
      · rw [if_neg e1] at h1
        rw [if_pos e2] at h2
        injection h2 with h2
        subst h2
        have := (h.lt m l1 h1).2
        omega
      · rw [if_neg e1] at h1 g1
        rw [if_neg e2] at h2 g2
        exact h.apart m m' l1 l2 h1 h2 g1 g2 heq
  · rw [upd_ap] at hm
    by_cases e : m = n
    · rw [if_pos e] at hm
      injection hm with hm
      injection hm with hm1 hm2
      subst hm1 hm2 e
      rw [give_ap, if_pos rfl] at h1
      injection h1 with h1
      subst h1
      exact hr
    · rw [if_neg e] at hm
      rw [give_ap, if_neg e] at h1
      exact (h.row m s' v' l' hm h1).same he (hb _ (h.lt m l' h1).2)
  · rw [upd_ap] at hm
    by_cases e : m = n
    · rw [if_pos e] at hm
      cases hm
    · rw [if_neg e] at hm
      rw [give_ap, if_neg e] at h1
      exact (h.map m es l' hm h1).same he (hb _ (h.lt m l' h1).2)
theorem HR.put (h : HR Z B ρ H n w) {m : Nat} {l : Loc} {s : Sh} {v : VV} (hm : ρ m = some l) (hlive : H m ≠ none) (hsz : w'.heap.size = w.heap.size) (hb : ∀ b, b ≠ l.block → w'.heap[b]? = w.heap[b]?)
    (hr : RowAt ρ w' l s v) : HR Z B ρ (upd H m (some (.row s v))) n w' ∧ Ext ρ w ρ w' := by
  have he : Ext ρ w ρ w' := ⟨fun _ _ h => h, by omega, fun b hb' hu => hb b (fun e => hu.2 m l hm e.symm), fun _ _ h => .inl h, fun _ h => h, fun _ h => .inl h⟩
  refine ⟨⟨h.bas.next (by omega) (fun _ h => h) (fun b hb1 => hb b fun e => by have := (h.lt m l hm).1; omega), h.fresh, fun m l hm => by rw [hsz]; exact h.lt m l hm, fun m1 m2 l1 l2 h1 h2 g1 g2 heq => ?_, fun m1 s1 v1 l' hm1 h1 => ?_, fun m1 es l' hm1 h1 => ?_⟩, he⟩
  · refine h.apart m1 m2 l1 l2 h1 h2 ?_ ?_ heq
    · rw [upd_ap] at g1; split at g1
      · rename_i e; rw [e]; exact hlive
      · exact g1
    · rw [upd_ap] at g2; split at g2
      · rename_i e; rw [e]; exact hlive
      · exact g2
  · rw [upd_ap] at hm1
    by_cases e : m1 = m
    · rw [if_pos e] at hm1
      injection hm1 with hm1
      injection hm1 with e1 e2
      subst e1 e2 e
      rw [hm] at h1
      injection h1 with h1
      subst h1
      exact hr
    · rw [if_neg e] at hm1
      exact (h.row m1 s1 v1 l' hm1 h1).same he (hb _ fun eq => e (h.apart m1 m l' l h1 hm (by rw [hm1]; simp) hlive eq))
  · rw [upd_ap] at hm1
    by_cases e : m1 = m
    · rw [if_pos e] at hm1; cases hm1
    · rw [if_neg e] at hm1
      exact (h.map m1 es l' hm1 h1).same he (hb _ fun eq => e (h.apart m1 m l' l h1 hm (by rw [hm1]; simp) hlive eq))
end

/-! ### types -/
def shOf (P : Program) : Nat → TypeId → Option Sh
  | 0, _ => none
  | n + 1, t => match P.info? t, P.underlying t with
    | some i, some (.struct fs) =>
      match fs.toList.foldr (fun f acc => match acc, shOf P n f.type with
          | some l, some s => some (s :: l)
          | _, _ => none) (some []) with
      | some ls => if i.size = Sh.sizes ls ∧ (fs.toList.map (·.offset)) = (List.range ls.length).map (fun k => Sh.sizes (ls.take k)) then some (.st ls) else none
      | none => none
    | some i, some (.array k e) => match shOf P n e with
      | some s => if i.size = k * s.size then some (.arr k s) else none
      | none => none
    | some i, some _ => if i.size = 1 then some .cell else none
    | _, _ => none
def SH (P : Program) (t : TypeId) : Option Sh := shOf P 10 t
def EL (P : Program) (t : TypeId) : Option TypeId := match P.underlying t with
  | some (.slice e) => some e
  | _ => none
theorem EL_spec {P : Program} {t e : TypeId} (h : EL P t = some e) : P.underlying t = some (.slice e) := by
  unfold EL at h
  split at h
  · rename_i e' he; injection h with h; rw [he, h]
  · cases h
theorem shOf_spec {P : Program} {n : Nat} {t : TypeId} {s : Sh} (h : shOf P n t = some s) :
    ∃ i d, P.info? t = some i ∧ P.underlying t = some d ∧ i.size = s.size ∧ (d.isRow = true ↔ s ≠ .cell) := by
  cases n with
  | zero => simp [shOf] at h
  | succ n =>
    unfold shOf at h
    split at h
    · rename_i i fs hi hu
      split at h
      · rename_i ls hl
        split at h
        · rename_i hc
          injection h with h
          subst h
          exact ⟨i, _, hi, hu, by rw [hc.1]; rfl, by simp⟩
        · cases h
      · cases h
    · rename_i i k e hi hu
      split at h
      · rename_i s' hs
        split at h
        · rename_i hc
          injection h with h
          subst h
          exact ⟨i, _, hi, hu, by rw [hc]; rfl, by simp⟩
        · cases h
      · cases h
    · rename_i i d hns hna hi hu
      split at h
      · rename_i hc
        injection h with h
        subst h
        refine ⟨i, d, hi, hu, by rw [hc]; rfl, ?_⟩
        constructor
        · intro hr
          cases d <;> simp_all
        · intro hr
          exact absurd rfl hr
      · cases h
    · cases h
theorem foldr_fields {P : Program} {n : Nat} : ∀ (fs : List Field) (ls : List Sh), fs.foldr (fun f acc => match acc, shOf P n f.type with
          | some l, some s => some (s :: l)
          | _, _ => none) (some []) = some ls → ls.length = fs.length ∧ ∀ (i : Nat) (f : Field), fs[i]? = some f → ∃ s, ls[i]? = some s ∧ shOf P n f.type = some s
  | [], ls, h => by
    simp at h
    subst h
    exact ⟨rfl, fun i f hf => by simp at hf⟩
  | f :: fs, ls, h => by
    simp only [List.foldr_cons] at h
    split at h
    · rename_i l s hl hs
      injection h with h
      subst h
      obtain ⟨h1, h2⟩ := foldr_fields fs l hl
      refine ⟨by simp [h1], fun i g hg => ?_⟩
      cases i with
      | zero => simp at hg; subst hg; exact ⟨s, by simp, hs⟩
      | succ i => simp at hg; obtain ⟨s', g1, g2⟩ := h2 i g hg; exact ⟨s', by simpa using g1, g2⟩
    · cases h
theorem SH_struct {P : Program} {t : TypeId} {ls : List Sh} (h : SH P t = some (.st ls)) :
    ∃ fs, P.underlying t = some (.struct fs) ∧ fs.size = ls.length ∧ ∀ i s, ls[i]? = some s → ∃ f, fs[i]? = some f ∧ f.offset = Sh.sizes (ls.take i) ∧ shOf P 9 f.type = some s := by
  unfold SH shOf at h
  split at h
  · rename_i i fs hi hu
    split at h
    · rename_i l hl
      split at h
      · rename_i hc
        injection h with h
        injection h with h
        subst h
        obtain ⟨h1, h2⟩ := foldr_fields fs.toList l hl
        refine ⟨fs, hu, by rw [h1]; simp, fun i s hs => ?_⟩
        have hil : i < l.length := (List.getElem?_eq_some_iff.1 hs).1
        have hif : i < fs.toList.length := by omega
        obtain ⟨s', g1, g2⟩ := h2 i fs.toList[i] (List.getElem?_eq_getElem hif)
        rw [g1] at hs
        injection hs with hs
        subst hs
        refine ⟨fs.toList[i], by rw [← Array.getElem?_toList]; exact List.getElem?_eq_getElem hif, ?_, g2⟩
        have := congrArg (fun x => x[i]?) hc.2
        simp only [List.getElem?_map,List.getElem?_eq_getElem hif,Option.map_some,List.getElem?_range hil,Option.some.injEq] at this
        exact this
      · cases h
    · cases h
  · split at h
    · split at h <;> cases h
    · cases h
  · split at h <;> cases h
  · cases h
theorem SH_array {P : Program} {t : TypeId} {k : Nat} {s : Sh} (h : SH P t = some (.arr k s)) : ∃ e, P.underlying t = some (.array k e) ∧ shOf P 9 e = some s := by
  unfold SH shOf at h
  split at h
  · split at h
    · split at h <;> cases h
    · cases h
  · rename_i i k' e hi hu
    split at h
    · rename_i s' hs
      split at h
      · injection h with h
        injection h with h1 h2
        subst h1 h2
        exact ⟨e, hu, hs⟩
      · cases h
    · cases h
  · split at h <;> cases h
  · cases h
end Go.Proofs.YtcilmfhncjfdbaaDoor.V
end
section
/-
  A MACHINE OF VALUES, THIRD PART: what each operation does, as a condition that simp can reckon.
-/
set_option linter.unusedVariables false
set_option linter.unusedSectionVars false
set_option linter.unusedSimpArgs false
namespace Go.Proofs.YtcilmfhncjfdbaaDoor.V
open Go Go.RowKit

/-! ### words whose later parts simp leaves alone till the earlier ones are reckoned -/
def onV (v : VV) (k : VV → Prop) : Prop := k v
@[congr] theorem onV_congr {v v' : VV} {k : VV → Prop} (h : v = v') : onV v k = onV v' k := by rw [h]
def bndRaw {α : Type} (o : Option α) (k : α → Prop) : Prop := match o with
  | some a => k a
  | none => False
noncomputable def bnd {α : Type} : Option α → (α → Prop) → Prop := Classical.choose (⟨bndRaw, rfl⟩ : ∃ f : Option α → (α → Prop) → Prop, f = bndRaw)
theorem bnd_def {α : Type} (o : Option α) (k : α → Prop) : bnd o k = bndRaw o k := by rw [bnd, Classical.choose_spec (⟨bndRaw, rfl⟩ : ∃ f : Option α → (α → Prop) → Prop, f = bndRaw)]
@[congr] theorem bnd_congr {α : Type} {o o' : Option α} {k : α → Prop} (h : o = o') : bnd o k = bnd o' k := by rw [h]
def cnd (p q : Prop) : Prop := p ∧ q
@[congr] theorem cnd_congr {p p' q : Prop} (h : p = p') : cnd p q = cnd p' q := by rw [h]
def vif (b : Bool) (A B : Prop) : Prop := (b = true → A) ∧ (b = false → B)
@[congr] theorem vif_congr {b b' : Bool} {A B : Prop} (h : b = b') : vif b A B = vif b' A B := by rw [h]
theorem jg {b : Bool} {A B : Prop} (h1 : b = true → A) (h2 : b = false → B) : vif b A B := ⟨h1, h2⟩
theorem bnd_some {α : Type} (a : α) (k : α → Prop) : bnd (some a) k = k a := by rw [bnd_def]; rfl
theorem bnd_iff {α : Type} {o : Option α} {k : α → Prop} : bnd o k ↔ ∃ a, o = some a ∧ k a := by
  rw [bnd_def]; cases o <;> simp [bndRaw]
theorem bnd_intro {α : Type} {o : Option α} {a : α} {k : α → Prop} (h : o = some a) (h' : k a) : bnd o k := by rw [h, bnd_some]; exact h'
section
variable (k : VV → Prop)
end

/-! ### frames -/
structure VS where
  tm : Nat → VV
  hp : Heap
  nx : Nat
def put (d : Option Nat) (v : VV) (t : Nat → VV) : Nat → VV := match d with
  | some d => upd t d v
  | none => t
def ofV : Value → VV
  | .int k n => .int k n
  | .bool b => .bool b
  | .string s => .str s.data.toList
  | .slice none 0 0 => .sl none 0
  | .func (.func f) first caps => if first.isEmpty && caps.isEmpty then .fn f [] else .any
  | .pointer none => .raw (.pointer none)
  | .map none => .raw (.map none)
  | .nilFunc => .raw .nilFunc
  | .nilIface => .raw .nilIface
  | v => .any
def ev (tm : Nat → VV) : Operand → VV
  | .tmp t => tm t
  | .const v => ofV v
  | .global g => .raw (.pointer (some ⟨g, 0, none⟩))
  | .func f => .fn f []

theorem ofV_sound (ρ : Names) (w : World) (v : Value) : VR ρ w (ofV v) v := by
  unfold ofV
  split
  · simp [VR, VR1, C1]
  · simp [VR, VR1, C1]
  · rename_i s; obtain ⟨d⟩ := s; simp [VR, VR1, C1]
  · simp [VR, VR1, C1]
  · split
    · rename_i f first caps h
      simp only [Bool.and_eq_true,Array.isEmpty_iff] at h
      obtain ⟨rfl, rfl⟩ := h
      simp [VR, VR1, C1, CV]
    · simp [VR, VR1]
  · simp [VR, VR1, C1]
  · simp [VR, VR1, C1]
  · simp [VR, VR1, C1]
  · simp [VR, VR1, C1]
  · simp [VR, VR1]

def TM (ρ : Names) (w : World) (tm : Nat → VV) (a : Act) : Prop := ∀ t, VR ρ w (tm t) (a.tmps.getD t undef)
theorem ev_sound {ρ : Names} {w : World} {tm : Nat → VV} {a : Act} (h : TM ρ w tm a) (x : Operand) : VR ρ w (ev tm x) (a.eval x) := by
  cases x with
  | tmp t => exact h t
  | const v => exact ofV_sound ρ w v
  | global g => simp [ev, Act.eval, VR, VR1, C1]
  | func f => simp [ev, Act.eval, VR, VR1, C1, CV]

def Good (Z : Nat → Nat → Prop) (B : Nat) (K : VV → Heap → Nat → Prop) (ρ : Names) (w : World) (x : Value) (w' : World) : Prop :=
  ∃ v H' n' ρ', K v H' n' ∧ VR ρ' w' v x ∧ HR Z B ρ' H' n' w' ∧ Ext ρ w ρ' w' ∧ Below B w w'
theorem Good.same {Z : Nat → Nat → Prop} {B : Nat} {K : VV → Heap → Nat → Prop} {ρ : Names} {w : World} {x : Value} {v : VV} {H : Heap} {n : Nat} (hk : K v H n) (hv : VR ρ w v x) (hh : HR Z B ρ H n w) : Good Z B K ρ w x w :=
  ⟨v, H, n, ρ, hk, hv, hh, Ext.refl _ _, Below.refl _ _⟩
def Runs (P : Program) (Z : Nat → Nat → Prop) (B : Nat) (K : VV → Heap → Nat → Prop) (ρ : Names) (w : World) (s : Sem Next) : Prop :=
  (∃ x w', s.run P w = .ok (.value x) w' ∧ Good Z B K ρ w x w') ∨ (∃ w', s.run P w = .ok .skip w' ∧ Good Z B K ρ w undef w') ∨
  (∃ f xs, s.run P w = .ok (.enter f xs) w ∧ Calls P f xs w (fun e w' => ∃ x, e = .returned x ∧ Good Z B K ρ w x w'))

def Gives (Z : Nat → Nat → Prop) [Zone Z] (n : Nat) (K : VV → Heap → Nat → Prop) : Prop := ∀ v H n', K v H n' → n < n' → Zone.ok Z n
theorem Gives.one {Z : Nat → Nat → Prop} [Zone Z] {n : Nat} {K : VV → Heap → Nat → Prop} (h : Gives Z n K) {v : VV} {H : Heap} (hk : K v H (n + 1)) : Zone.ok Z n := h v H (n + 1) hk (Nat.lt_succ_self _)
def VRA (ρ : Names) (w : World) : List VV → List Value → Prop
  | [], xs => xs = []
  | v :: vs, xs => ∃ x ys, xs = x :: ys ∧ VR ρ w v x ∧ VRA ρ w vs ys
def vcall (P : Program) (f : FuncId) (args : List VV) (H : Heap) (n : Nat) (K : VV → Heap → Nat → Prop) : Prop :=
  ∀ B ρ w xs, HR ZT B ρ H n w → VRA ρ w args xs → Calls P f xs.toArray w (fun e w' => ∃ x, e = .returned x ∧ Good ZT B K ρ w x w')
@[congr] theorem vcall_congr {P : Program} {f f' : FuncId} {args args' : List VV} {H : Heap} {n n' : Nat} {K : VV → Heap → Nat → Prop} (h1 : f = f') (h2 : args = args') (h3 : n = n') : vcall P f args H n K = vcall P f' args' H n' K := by rw [h1, h2, h3]
def callable (P : Program) (f : FuncId) : Bool := match P.funcs[f]? with
  | some fn => fn.name != "runtime.NumGoroutine" && fn.body.isSome
  | none => false

/-! ### the operations -/
def tabOf : Value → Option (Sh × VV)
  | .pointer (some ⟨g, 0, none⟩) => tabs.lookup g
  | _ => none
section
variable (P : Program) (e : Operand → VV) (H : Heap) (n : Nat) (K : VV → Heap → Nat → Prop)
def vPick (c a b : Operand) : Prop := onV (e c) fun v => match v with
  | .bool t => vif t (K (e a) H n) (K (e b) H n)
  | _ => False
def vLoad (t : TypeId) (a : Operand) : Prop := onV (e a) fun v => match v with
  | .ptr m p => bnd (H m) fun b => match b with
    | .row s c => cnd (s.at p = SH P t) (bnd (c.get p) fun u => K u H n)
    | _ => False
  | .pd s u => cnd (SH P t = some s) (K u H n)
  | .raw x => bnd (tabOf x) fun su => cnd (SH P t = some su.1) (K su.2 H n)
  | _ => False
def vStore (t : TypeId) (a x : Operand) : Prop := onV (e a) fun v => match v with
  | .ptr m p => bnd (H m) fun b => match b with
    | .row s c => bnd (SH P t) fun st => cnd (s.at p = some st ∧ Has st (e x)) (bnd (c.get p) fun _ => K .any (upd H m (some (.row s (c.set p (e x))))) n)
    | _ => False
  | _ => False
def vBox (t : TypeId) (x : Operand) : Prop := bnd (SH P t) fun s => cnd (Has s (e x)) (K (.ptr n []) (upd H n (some (.row s (e x)))) (n + 1))
def vNilCheck (x : Operand) : Prop := onV (e x) fun v => match v with
  | .ptr m p => K (.ptr m p) H n
  | .pd s u => K (.pd s u) H n
  | .fn f cs => K (.fn f cs) H n
  | _ => False
def vUn (op : UnOp) (x : Operand) : Prop := onV (e x) fun v => match op, v with
  | .not, .bool b => K (.bool (!b)) H n
  | .neg, .int k a => K (.int k (k.wrap (0 - a))) H n
  | .xor, .int .u32 a => K (.int .u32 (bits .xor .u32 4294967295 a)) H n
  | _, _ => False
def vField (t : TypeId) (x : Operand) (f : Nat) : Prop := onV (e x) fun v => match v with
  | .agg vs => bnd (SH P t) fun s => cnd (Has s (.agg vs)) (match s with
    | .st ls => bnd (vs[f]?) fun u => K u H n
    | _ => False)
  | _ => False
def vFieldAddr (t : TypeId) (x : Operand) (f : Nat) : Prop := onV (e x) fun v => match v with
  | .ptr m p => bnd (H m) fun b => match b with
    | .row s _ => bnd (SH P t) fun st => cnd (s.at p = some st) (match st with
      | .st ls => bnd (ls[f]?) fun sf => cnd (sf.size ≠ 0) (K (.ptr m (p ++ [f])) H n)
      | _ => False)
    | _ => False
  | .pd s (.agg vs) => bnd (SH P t) fun st => cnd (s = st) (match st with
      | .st ls => bnd (ls[f]?) fun sf => cnd (sf.size ≠ 0) (bnd (vs[f]?) fun u => K (.pd sf u) H n)
      | _ => False)
  | _ => False
def vIndexAddr (t : TypeId) (x i : Operand) : Prop := onV (e x) fun v => onV (e i) fun j => match v, j with
  | .sl (some (m, p, i0)) len, .int _ k => bnd (H m) fun b => match b with
    | .row s _ => bnd (EL P t) fun et => bnd (SH P et) fun se => bnd (s.at p) fun sa => match sa with
      | .arr _ s' => cnd (s' = se) (cnd (0 ≤ k ∧ k < len) (K (.ptr m (p ++ [i0 + k.toNat])) H n))
      | _ => False
    | _ => False
  | .dat s els, .int _ k => bnd (EL P t) fun et => bnd (SH P et) fun se => cnd (s = se) (cnd (0 ≤ k ∧ k < els.length) (bnd (els[k.toNat]?) fun u => K (.pd s u) H n))
  | .ptr m p, .int _ k => bnd (H m) fun b => match b with
    | .row s _ => bnd (SH P t) fun st => cnd (s.at p = some st) (match st with
      | .arr len _ => cnd (0 ≤ k ∧ k < len) (K (.ptr m (p ++ [k.toNat])) H n)
      | _ => False)
    | _ => False
  | .pd s (.agg vs), .int _ k => bnd (SH P t) fun st => cnd (s = st) (match st with
      | .arr len s' => cnd (0 ≤ k ∧ k < len) (bnd (vs[k.toNat]?) fun u => K (.pd s' u) H n)
      | _ => False)
  | .raw y, .int _ k => bnd (tabOf y) fun su => match su.2 with
    | .agg vs => bnd (SH P t) fun st => cnd (su.1 = st) (match st with
      | .arr len s' => cnd (0 ≤ k ∧ k < len) (bnd (vs[k.toNat]?) fun u => K (.pd s' u) H n)
      | _ => False)
    | _ => False
  | _, _ => False
def vExtract (x : Operand) (i : Nat) : Prop := onV (e x) fun v => match v with
  | .tup vs => bnd (vs[i]?) fun u => K u H n
  | _ => False
def vbin (op : BinOp) (x y : VV) (K : VV → Prop) : Prop := match x, y with
  | .int k a, .int k' b => match op with
    | .add => cnd (k = k') (K (.int k (k.wrap (a + b))))
    | .sub => cnd (k = k') (K (.int k (k.wrap (a - b))))
    | .mul => cnd (k = k') (K (.int k (k.wrap (a * b))))
    | .quo => cnd (k = k' ∧ b ≠ 0) (K (.int k (k.wrap (a.tdiv b))))
    | .rem => cnd (k = k' ∧ b ≠ 0) (K (.int k (a.tmod b)))
    | .eql => cnd (k = k') (K (.bool (a == b)))
    | .neq => cnd (k = k') (K (.bool (a != b)))
    | .lss => cnd (k = k') (K (.bool (decide (a < b))))
    | .leq => cnd (k = k') (K (.bool (decide (a ≤ b))))
    | .gtr => cnd (k = k') (K (.bool (decide (a > b))))
    | .geq => cnd (k = k') (K (.bool (decide (a ≥ b))))
    | .shl => cnd (0 ≤ b) (K (.int k (k.wrap (a * 2 ^ (min b.toNat k.bits)))))
    | .shr => cnd (0 ≤ b) (K (.int k (a.fdiv (2 ^ (min b.toNat k.bits)))))
    | op => cnd (k = k') (K (.int k (bits op k a b)))
  | .str a, .str b => match op with
    | .add => cnd (a.length + b.length ≤ 9223372036854775807) (K (.str (a ++ b)))
    | .eql => K (.bool (a == b))
    | .neq => K (.bool (a != b))
    | _ => False
  | _, _ => False
def vBin (op : BinOp) (x y : Operand) : Prop := onV (e x) fun v => onV (e y) fun u => vbin op v u fun r => K r H n
def vConvert (s d : TypeId) (x : Operand) : Prop := onV (e x) fun v => match v with
  | .int _ a => bnd (P.underlying s) fun _ => bnd (P.underlying d) fun u => match u with
    | .int k => K (.int k (k.wrap a)) H n
    | _ => False
  | _ => False
def vLen (ts : Array TypeId) (x : Operand) : Prop := onV (e x) fun v => bnd (ts[0]?) fun t => bnd (P.underlying t) fun u => match u, v with
  | .string, .str s => K (.int .i64 s.length) H n
  | .slice _, .sl _ k => K (.int .i64 k) H n
  | .slice _, .dat _ els => K (.int .i64 els.length) H n
  | _, _ => False
def vCall (f : Operand) (args : List Operand) : Prop := onV (e f) fun v => match v with
  | .fn g caps => cnd (callable P g = true) (vcall P g (args.map e ++ caps) H n K)
  | _ => False
def vIndex (t : TypeId) (x i : Operand) : Prop := onV (e x) fun v => onV (e i) fun j => match v, j with
  | .str s, .int _ k => bnd (P.underlying t) fun u => match u with
    | .string => cnd (0 ≤ k ∧ k < s.length) (K (.int .u8 (((s.getD k.toNat 0).toNat : Nat) : Int)) H n)
    | _ => False
  | .agg vs, .int _ k => bnd (SH P t) fun s => cnd (Has s (.agg vs)) (match s with
    | .arr len _ => cnd (0 ≤ k ∧ k < len) (bnd (vs[k.toNat]?) fun u => K u H n)
    | _ => False)
  | _, _ => False
def vMakeFunc (f : FuncId) (first : Array Operand) (caps : List Operand) : Prop := cnd (first = #[] ∧ (∀ c ∈ caps, (e c).leaf = true)) (K (.fn f (caps.map e)) H n)
end

section
variable {P : Program} {Z : Nat → Nat → Prop} [Zone Z] {B : Nat} {ρ : Names} {w : World} {H : Heap} {n : Nat} {tm : Nat → VV} {a : Act} {K : VV → Heap → Nat → Prop} {o : Oper}
theorem runs_value {x : Value} {s : Sem Next} (hr : s.run P w = .ok (.value x) w) {v : VV} (hk : K v H n) (hv : VR ρ w v x) (hh : HR Z B ρ H n w) : Runs P Z B K ρ w s :=
  .inl ⟨x, w, hr, Good.same hk hv hh⟩
theorem VR.of_leaf {v : VV} {x : Value} (hl : v.leaf = true) (h : C1 ρ w v [x]) : VR ρ w v x := by
  cases v <;> first | exact h | simp [VV.leaf] at hl
theorem VR.leaf_cells {v : VV} {x : Value} (hl : v.leaf = true) (h : VR ρ w v x) : C1 ρ w v [x] := by
  cases v <;> first | exact h | simp [VV.leaf] at hl
theorem VR.bool {b : Bool} {x : Value} (h : VR ρ w (.bool b) x) : x = .bool b := by simpa [VR, VR1, C1] using h
theorem VR.int {k : IntKind} {i : Int} {x : Value} (h : VR ρ w (.int k i) x) : x = .int k i := by simpa [VR, VR1, C1] using h
theorem VR.str {s : List UInt8} {x : Value} (h : VR ρ w (.str s) x) : x = .string ⟨s.toArray⟩ := by simpa [VR, VR1, C1] using h
theorem VR.ptr {m : Nat} {p : List Nat} {x : Value} (h : VR ρ w (.ptr m p) x) : ∃ l, ρ m = some l ∧ x = .pointer (some ⟨l.block, l.base + l.sh.off p, none⟩) := by simpa [VR, VR1, C1] using h
theorem VR.pd {s : Sh} {v : VV} {x : Value} (h : VR ρ w (.pd s v) x) : ∃ b o ecs, x = .pointer (some ⟨b, o, none⟩) ∧ C1 ρ w v ecs ∧ Has s v ∧ w.rangeAt b o ecs ∧ Unnamed ρ b ∧ b < w.heap.size := by
  simp only [VR,VR1,C1] at h
  obtain ⟨b, o, ecs, h1, h2⟩ := h
  exact ⟨b, o, ecs, by simpa using h1, h2⟩
theorem look_mem {α : Type} {g : Nat} {v : α} : ∀ {l : List (Nat × α)}, l.lookup g = some v → (g, v) ∈ l
  | [], h => by cases h
  | (k, u) :: l, h => by
    rw [List.lookup_cons] at h
    by_cases e : g = k
    · subst e
      rw [beq_self_eq_true] at h
      injection h with h
      subst h
      exact List.mem_cons_self ..
    · rw [beq_eq_false_iff_ne.2 e] at h
      exact List.mem_cons_of_mem _ (look_mem h)
theorem HR.tabV {Z : Nat → Nat → Prop} {B n : Nat} {ρ : Names} {w : World} {H : Heap} (hh : HR Z B ρ H n w) {y x : Value} (hx : VR ρ w (.raw y) x) {su : Sh × VV} (h : tabOf y = some su) : VR ρ w (.pd su.1 su.2) x := by
  have e : x = y := by simpa [VR, VR1, C1] using hx
  subst e
  unfold tabOf at h
  split at h
  · rename_i g
    obtain ⟨h1, h2, cs, h3, h4, h5⟩ := hh.bas.tab g su.1 su.2 (look_mem h)
    simp only [VR,VR1,C1]
    exact ⟨g, 0, cs, rfl, h3 _ _, h4, h5, ⟨h2, fun m l hm e => by have := (hh.lt m l hm).1; omega⟩, Nat.lt_of_lt_of_le h1 hh.base⟩
  · cases h
theorem VR.tup {vs : List VV} {x : Value} (h : VR ρ w (.tup vs) x) : ∃ xs, x = .tuple xs ∧ VRs ρ w vs xs.toList := h
theorem VR.agg {vs : List VV} {x : Value} (h : VR ρ w (.agg vs) x) : ∃ cs, x = .agg cs ∧ CR ρ w vs cs.toList := h
theorem VR.fn {f : FuncId} {caps : List VV} {x : Value} (h : VR ρ w (.fn f caps) x) : ∃ cs, x = .func (.func f) #[] cs ∧ CV ρ w caps cs.toList := by
  simp only [VR,VR1,C1] at h
  obtain ⟨cs, h1, h2⟩ := h
  exact ⟨cs, by simpa using h1, h2⟩
theorem VR.of1 {v : VV} {x : Value} (h : VR1 ρ w v x) : VR ρ w v x := by
  cases v with
  | tup vs => simp [VR1, C1] at h
  | _ => exact h

theorem pick_sound (hT : TM ρ w tm a) (hh : HR Z B ρ H n w) (c x y : Operand) (ho : o.op = .pick c x y) (h : vPick (ev tm) H n K c x y) : Runs P Z B K ρ w (execOp a.eval o) := by
  unfold vPick onV at h
  dsimp only at h
  have hc := ev_sound hT c
  split at h
  · rename_i t e
    rw [e] at hc
    have := hc.bool
    cases t with
    | true =>
      refine runs_value (x := a.eval x) ?_ (h.1 rfl) (ev_sound hT x) hh
      simp [execOp, ho, this, asBool]
    | false =>
      refine runs_value (x := a.eval y) ?_ (h.2 rfl) (ev_sound hT y) hh
      simp [execOp, ho, this, asBool]
  · exact h.elim

theorem part_value {s : Sh} {u : VV} {mid : List Value} (hs : Has s u) (hc : C1 ρ w u mid) : (s = .cell ∧ ∃ x, mid = [x] ∧ VR ρ w u x) ∨ (s ≠ .cell ∧ VR ρ w u (.agg mid.toArray)) := by
  cases s with
  | cell =>
    simp only [Has] at hs
    obtain ⟨x, rfl⟩ := leaf_one hs hc
    exact .inl ⟨rfl, x, rfl, VR.of_leaf hs hc⟩
  | st ls =>
    cases u <;> simp only [Has] at hs <;> first | exact hs.elim | skip
    simp only [C1] at hc
    exact .inr ⟨by simp, _, rfl, by simpa using hc⟩
  | arr k s =>
    cases u <;> simp only [Has] at hs <;> first | exact hs.elim | skip
    simp only [C1] at hc
    exact .inr ⟨by simp, _, rfl, by simpa using hc⟩
theorem load_run {t : TypeId} {s : Sh} {u : VV} {mid : List Value} {b f : Nat} (ht : SH P t = some s) (hs : Has s u) (hc : C1 ρ w u mid) (hr : w.rangeAt b f mid) :
    ∃ x, (loadVar t ⟨b, f, none⟩).run P w = .ok x w ∧ VR ρ w u x := by
  obtain ⟨i, d, hi, hu, hsz, hrow⟩ := shOf_spec ht
  have hlen := Has.len s u mid hs hc
  rcases part_value hs hc with ⟨rfl, x, rfl, hv⟩ | ⟨hne, hv⟩
  · refine ⟨x, ?_, hv⟩
    have hd : d.isRow = false := by
      cases hd : d.isRow with
      | false => rfl
      | true => exact absurd rfl (hrow.1 hd)
    have hagg : (isAgg t).run P w = .ok false w := by
      unfold isAgg
      rw [Sem.run_bind, run_underlying hu w]
      cases d <;> simp_all
    have h0 := hr 0 x rfl
    simp only [loadVar,Sem.run_bind,hagg,Result.andThen_ok,Bool.false_eq_true,if_false]
    simp only [Nat.add_zero] at h0
    simp [h0]
  · refine ⟨_, run_loadVar_mid w b f t mid d hr hu (hrow.2 hne) (by rw [hi, hlen]; simp [hsz]), hv⟩
theorem range_part {b f : Nat} {pre mid post : List Value} (h : w.rangeAt b f (pre ++ mid ++ post)) : w.rangeAt b (f + pre.length) mid := fun j v hv => by
  have hj : j < mid.length := (List.getElem?_eq_some_iff.1 hv).1
  have := h (pre.length + j) v (by rw [List.append_assoc, List.getElem?_append_right (by omega), List.getElem?_append_left (by omega)]; simpa using hv)
  rwa [← Nat.add_assoc] at this
theorem load_sound (hT : TM ρ w tm a) (hh : HR Z B ρ H n w) (t : TypeId) (x : Operand) (ho : o.op = .load t x) (h : vLoad P (ev tm) H n K t x) : Runs P Z B K ρ w (execOp a.eval o) := by
  unfold vLoad onV at h
  dsimp only at h
  have hx := ev_sound hT x
  split at h
  · rename_i m p e
    rw [e] at hx
    obtain ⟨l, hl, hp⟩ := hx.ptr
    obtain ⟨blk, hb, h⟩ := bnd_iff.1 h
    split at h
    · rename_i s c
      obtain ⟨h1, h2⟩ := h
      obtain ⟨u, hu, h2⟩ := bnd_iff.1 h2
      have hrow := hh.row m s c l hb hl
      obtain ⟨cs, g1, g2, g3⟩ := hrow.cells
      obtain ⟨su, pre, mid, post, k1, k2, rfl, k4, k5, _, _⟩ := focus p s c u cs hrow.has hu g1
      rw [k1] at h1
      have hr := range_part g3
      obtain ⟨y, hy1, hy2⟩ := load_run (P := P) h1.symm k2 k5 hr
      refine runs_value (x := y) ?_ h2 hy2 hh
      simp only [execOp,ho,hp,Instr.loadAt,Instr.sureAddr,Sem.run_bind,Sem.run_pure,Result.andThen_ok]
      rw [hrow.sh, ← k4, hy1]
      rfl
    · exact h.elim
  · rename_i s u e
    rw [e] at hx
    obtain ⟨b, f, ecs, rfl', g1, g2, g3, _⟩ := hx.pd
    obtain ⟨h1, h2⟩ := h
    obtain ⟨y, hy1, hy2⟩ := load_run (P := P) h1 g2 g1 g3
    refine runs_value (x := y) ?_ h2 hy2 hh
    simp only [execOp,ho,rfl',Instr.loadAt,Instr.sureAddr,Sem.run_bind,Sem.run_pure,Result.andThen_ok,hy1]
  · rename_i y e
    rw [e] at hx
    obtain ⟨su, hsu, h⟩ := bnd_iff.1 h
    obtain ⟨b, f, ecs, rfl', g1, g2, g3, _⟩ := (hh.tabV hx hsu).pd
    obtain ⟨h1, h2⟩ := h
    obtain ⟨y, hy1, hy2⟩ := load_run (P := P) h1 g2 g1 g3
    refine runs_value (x := y) ?_ h2 hy2 hh
    simp only [execOp,ho,rfl',Instr.loadAt,Instr.sureAddr,Sem.run_bind,Sem.run_pure,Result.andThen_ok,hy1]
  · exact h.elim
end
end Go.Proofs.YtcilmfhncjfdbaaDoor.V
end
section
/-
  A MACHINE OF VALUES, FOURTH PART: stores, new blocks, addresses.
-/
set_option linter.unusedVariables false
set_option linter.unusedSectionVars false
set_option linter.unusedSimpArgs false
namespace Go.Proofs.YtcilmfhncjfdbaaDoor.V
open Go Go.RowKit

section
variable {P : Program} {Z : Nat → Nat → Prop} [Zone Z] {B : Nat} {ρ : Names} {w : World} {H : Heap} {n : Nat} {tm : Nat → VV} {a : Act} {K : VV → Heap → Nat → Prop} {o : Oper}
theorem leaf_cell {v : VV} {x : Value} (hl : v.leaf = true) (h : C1 ρ w v [x]) : x.oneCell' = true := by
  cases v with
  | agg _ | tup _ | vec _ _ | any => simp [VV.leaf] at hl
  | sl p n => cases p with
    | none => simp only [C1] at h; have := h.2; simp at this; subst this; rfl
    | some q => obtain ⟨m, p, i⟩ := q; simp only [C1] at h; rcases h with ⟨_, A, h⟩ | ⟨l, c, e, k, _, h, _⟩ <;> simp at h
                · rw [h]; rfl
                · rw [h]; rfl
  | ptr m p => simp only [C1] at h; obtain ⟨l, _, h⟩ := h; simp at h; subst h; rfl
  | fn f c => simp only [C1] at h; obtain ⟨l, h, _⟩ := h; simp at h; subst h; rfl
  | map m => simp only [C1] at h; obtain ⟨l, _, h⟩ := h; simp at h; subst h; rfl
  | dat s e => simp only [C1] at h; obtain ⟨A, c, h, _⟩ := h; simp at h; subst h; rfl
  | pd s e => simp only [C1] at h; obtain ⟨b, o, c, h, _⟩ := h; simp at h; subst h; rfl
  | raw v => simp only [C1] at h; simp at h; subst h; simpa [VV.leaf] using hl
  | _ => simp only [C1] at h; simp at h; subst h; rfl
theorem one_cells {x : Value} (h : x.oneCell' = true) : x.cells = #[x] := by
  cases x <;> first | rfl | simp [Value.oneCell'] at h
mutual
theorem Has.one : ∀ (s : Sh) (v : VV) (cs : List Value), Has s v → C1 ρ w v cs → ∀ c ∈ cs, c.oneCell' = true
  | .cell, v, cs, h, hc => by
    simp only [Has] at h
    obtain ⟨x, rfl⟩ := leaf_one h hc
    intro c hcm
    simp at hcm
    subst hcm
    exact leaf_cell h hc
  | .st ls, v, cs, h, hc => by
    cases v <;> simp only [Has] at h <;> first | exact h.elim | skip
    rename_i vs
    simp only [C1] at hc
    exact HasL.one ls vs cs h hc
  | .arr n s, v, cs, h, hc => by
    cases v <;> simp only [Has] at h <;> first | exact h.elim | skip
    rename_i vs
    simp only [C1] at hc
    obtain ⟨rfl, h⟩ := h
    induction vs generalizing cs with
    | nil => simp only [CR] at hc; simp [hc]
    | cons v vs ih =>
      simp only [CR] at hc
      obtain ⟨c1, c2, rfl, h1, h2⟩ := hc
      intro c hcm
      rcases List.mem_append.1 hcm with hcm | hcm
      · exact Has.one s v c1 (h v (by simp)) h1 c hcm
      · exact ih c2 h2 (fun u hu => h u (by simp [hu])) c hcm
theorem HasL.one : ∀ (ls : List Sh) (vs : List VV) (cs : List Value), HasL ls vs → CR ρ w vs cs → ∀ c ∈ cs, c.oneCell' = true
  | [], vs, cs, h, hc => by
    simp only [HasL] at h
    subst h
    simp only [CR] at hc
    simp [hc]
  | s :: ls, [], _, h, _ => by simp [HasL] at h
  | s :: ls, v :: vs, cs, h, hc => by
    simp only [HasL] at h
    simp only [CR] at hc
    obtain ⟨c1, c2, rfl, h1, h2⟩ := hc
    intro c hcm
    rcases List.mem_append.1 hcm with hcm | hcm
    · exact Has.one s v c1 h.1 h1 c hcm
    · exact HasL.one ls vs c2 h.2 h2 c hcm
end
theorem HasA.one {s : Sh} : ∀ (vs : List VV) (cs : List Value), (∀ v ∈ vs, Has s v) → CR ρ w vs cs → ∀ c ∈ cs, c.oneCell' = true
  | [], cs, _, h => by simp only [CR] at h; simp [h]
  | v :: vs, cs, h, hc => by
    simp only [CR] at hc
    obtain ⟨c1, c2, rfl, h1, h2⟩ := hc
    intro c hcm
    rcases List.mem_append.1 hcm with hcm | hcm
    · exact Has.one s v c1 (h v (by simp)) h1 c hcm
    · exact HasA.one vs c2 (fun u hu => h u (by simp [hu])) h2 c hcm
theorem val_cells {s : Sh} {v : VV} {x : Value} (hs : Has s v) (h : VR ρ w v x) : C1 ρ w v x.cells.toList := by
  cases s with
  | cell =>
    simp only [Has] at hs
    have := VR.leaf_cells hs h
    rw [one_cells (leaf_cell hs this)]
    exact this
  | st ls =>
    cases v <;> simp only [Has] at hs <;> first | exact hs.elim | skip
    obtain ⟨cs, rfl, hc⟩ := h.agg
    simp only [C1]; exact hc
  | arr k s =>
    cases v <;> simp only [Has] at hs <;> first | exact hs.elim | skip
    obtain ⟨cs, rfl, hc⟩ := h.agg
    simp only [C1]; exact hc
theorem setCells_size (b : Nat) : ∀ (vs : List Value) (o : Nat) (w : World), (w.setCells b o vs).heap.size = w.heap.size
  | [], _, _ => rfl
  | v :: vs, o, w => by
    rw [World.setCells, setCells_size b vs (o + 1)]
    simp [World.setCell]
theorem setCells_other (b : Nat) {k : Nat} (hk : k ≠ b) : ∀ (vs : List Value) (o : Nat) (w : World), (w.setCells b o vs).heap[k]? = w.heap[k]?
  | [], _, _ => rfl
  | v :: vs, o, w => by
    rw [World.setCells, setCells_other b hk vs (o + 1)]
    exact Below.heap_setCell _ _ _ _ hk
theorem setCells_below {b : Nat} (hb : B ≤ b) {w0 : World} : ∀ (vs : List Value) (o : Nat) (w : World), Below B w0 w → Below B w0 (w.setCells b o vs)
  | [], _, _, h => h
  | v :: vs, o, w, h => setCells_below hb vs (o + 1) _ (h.setCell (p := ⟨b, o, none⟩) hb v)
theorem range_append {b f : Nat} {xs ys : List Value} : w.rangeAt b f (xs ++ ys) ↔ w.rangeAt b f xs ∧ w.rangeAt b (f + xs.length) ys := by
  constructor
  · intro h
    refine ⟨fun j v hv => h j v ?_, fun j v hv => ?_⟩
    · have hj : j < xs.length := (List.getElem?_eq_some_iff.1 hv).1
      rw [List.getElem?_append_left hj]; exact hv
    · have := h (xs.length + j) v (by rw [List.getElem?_append_right (by omega)]; simpa using hv)
      rwa [← Nat.add_assoc] at this
  · rintro ⟨h1, h2⟩ j v hv
    rcases Nat.lt_or_ge j xs.length with hj | hj
    · rw [List.getElem?_append_left hj] at hv
      exact h1 j v hv
    · rw [List.getElem?_append_right hj] at hv
      have := h2 (j - xs.length) v hv
      rwa [show f + xs.length + (j - xs.length) = f + j by omega] at this
theorem there_part {b f n g k : Nat} (h : w.there b f n) (hk : g + k ≤ n) : w.there b (f + g) k := fun j hj => by
  have := h (g + j) (by omega)
  rwa [← Nat.add_assoc] at this
theorem run_storeVar_any {t : TypeId} {b f : Nat} {x : Value} (ht : w.there b f x.cells.size) (hi : (P.info? t).map (·.size) = some x.cells.size) (h1 : ∀ c ∈ x.cells.toList, c.oneCell' = true) :
    (storeVar t ⟨b, f, none⟩ x).run P w = .ok () (w.setCells b f x.cells.toList) := by
  have := run_storeCells_cells (P := P) b f x.cells.toList 0 w (fun j hj => by simpa using (ht j (by simpa using hj)).1) (fun j hj => by simpa using (ht j (by simpa using hj)).2) h1
  cases hq : P.info? t with
  | none => simp [hq] at hi
  | some i =>
    have hs : x.cells.size = i.size := by simp [hq] at hi; omega
    simp only [Nat.add_zero] at this
    simp [storeVar, sizeOf, typeInfo, hq, hs, this]
theorem store_part (hh : HR Z B ρ H n w) {m : Nat} {p : List Nat} {s st : Sh} {c u v : VV} {l : Loc} (hb : H m = some (.row s c)) (hl : ρ m = some l) (hu : c.get p = some u) (hat : s.at p = some st) (hv : Has st v) {cs : List Value} (hc : C1 ρ w v cs) :
    w.there l.block (l.base + l.sh.off p) cs.length ∧ HR Z B ρ (upd H m (some (.row s (c.set p v)))) n (w.setCells l.block (l.base + l.sh.off p) cs) ∧ Ext ρ w ρ (w.setCells l.block (l.base + l.sh.off p) cs) ∧ Below B w (w.setCells l.block (l.base + l.sh.off p) cs) := by
  have hrow := hh.row m s c l hb hl
  obtain ⟨ds, g1, g2, g3⟩ := hrow.cells
  obtain ⟨su, pre, mid, post, k1, k2, rfl, k4, k5, k6, k7⟩ := focus p s c u ds hrow.has hu g1
  rw [k1] at hat
  injection hat with hat
  subst hat
  rw [hrow.sh, ← k4]
  have e1 := Has.len su v cs hv hc
  have e2 := Has.len su u mid k2 k5
  simp only [List.length_append] at g2
  have hth : w.there l.block (l.base + pre.length) cs.length := there_part hrow.room (by omega)
  have hsz := setCells_size l.block cs (l.base + pre.length) w
  have hot : ∀ b, b ≠ l.block → (w.setCells l.block (l.base + pre.length) cs).heap[b]? = w.heap[b]? := fun b hb' => setCells_other l.block hb' cs _ w
  have he : Ext ρ w ρ (w.setCells l.block (l.base + pre.length) cs) := ⟨fun _ _ h => h, by omega, fun b hb' hu' => hot b (fun e => hu'.2 m l hl e.symm), fun _ _ h => .inl h, fun _ h => h, fun _ h => .inl h⟩
  have hrow' : RowAt ρ (w.setCells l.block (l.base + pre.length) cs) l s (c.set p v) := by
    refine ⟨hrow.sh, k6 v hv, ⟨pre ++ cs ++ post, k7 _ _ v cs he (C1.ext he v cs hc), by simp only [List.length_append]; omega, ?_⟩, World.there_setCells hrow.room _ _ _⟩
    rw [range_append, range_append] at g3 ⊢
    obtain ⟨⟨r1, r2⟩, r3⟩ := g3
    refine ⟨⟨World.rangeAt_setCells_apart r1 _ _ _ (.inr (.inl (by omega))), World.rangeAt_setCells_same w _ _ _ hth⟩, ?_⟩
    have : (pre ++ cs).length = (pre ++ mid).length := by simp only [List.length_append]; omega
    rw [this]
    exact World.rangeAt_setCells_apart r3 _ _ _ (.inr (.inr (by simp only [List.length_append]; omega)))
  exact ⟨hth, (hh.put hl (by rw [hb]; simp) hsz hot hrow').1, he, setCells_below (hh.lt m l hl).1 cs _ w (Below.refl _ _)⟩
theorem store_sound (hT : TM ρ w tm a) (hh : HR Z B ρ H n w) (t : TypeId) (y x : Operand) (ho : o.op = .store t y x) (h : vStore P (ev tm) H n K t y x) : Runs P Z B K ρ w (execOp a.eval o) := by
  unfold vStore onV at h
  dsimp only at h
  have hy := ev_sound hT y
  split at h
  · rename_i m p e
    rw [e] at hy
    obtain ⟨l, hl, hp⟩ := hy.ptr
    obtain ⟨blk, hb, h⟩ := bnd_iff.1 h
    split at h
    · rename_i s c
      obtain ⟨st, hst, h⟩ := bnd_iff.1 h
      obtain ⟨⟨hat, hx⟩, h⟩ := h
      obtain ⟨u, hu, h⟩ := bnd_iff.1 h
      have hxv := ev_sound hT x
      have hc := val_cells hx hxv
      obtain ⟨h1, h2, h3, h4⟩ := store_part hh hb hl hu hat hx hc
      obtain ⟨i, d, hi, _, hsz, _⟩ := shOf_spec hst
      have hlen := Has.len _ _ _ hx hc
      rw [Array.length_toList] at h1 hlen
      have hrun := run_storeVar_any (P := P) (t := t) h1 (by rw [hi, hlen]; simp [hsz]) (Has.one _ _ _ hx hc)
      refine .inr (.inl ⟨_, ?_, .any, _, _, ρ, h, by simp [VR, VR1], h2, h3, h4⟩)
      simp only [execOp,ho,hp,Instr.storeAt,Instr.sureAddr,Sem.run_bind,Sem.run_pure,Result.andThen_ok,hrun]
    · exact h.elim
  · exact h.elim

theorem new_blockF (hh : HR Z B ρ H n w) (hZ : Zone.ok Z n) {s : Sh} {v : VV} {cs : List Value} (hs : Has s v) (hc : C1 ρ w v cs) {cells : Array Value} {t : TypeId} {tail : List Value} (hcells : cells.toList = cs ++ tail) (fz : Nat × Nat) (hfz : ∀ j, j < cells.size → ¬ (fz.1 ≤ j ∧ j < fz.2)) :
    ∃ l : Loc, l.block = w.heap.size ∧ l.base = 0 ∧ l.room = cells.size ∧ l.sh = s ∧ HR Z B (ρ.give n l) (upd H n (some (.row s v))) (n + 1) (w.alloc (.cells cells t fz)) ∧
      Ext ρ w (ρ.give n l) (w.alloc (.cells cells t fz)) ∧ Below B w (w.alloc (.cells cells t fz)) := by
  have hsz : (w.alloc (.cells cells t fz)).heap.size = w.heap.size + 1 := by simp
  have hot : ∀ b, b < w.heap.size → (w.alloc (.cells cells t fz)).heap[b]? = w.heap[b]? := fun b hb => Below.heap_alloc w _ b hb
  have hnew : (w.alloc (.cells cells t fz)).heap[w.heap.size]? = some (.cells cells t fz) := by
    show (w.heap.push _)[w.heap.size]? = _
    simp
  have hcell : ∀ j, (w.alloc (.cells cells t fz)).cell? ⟨w.heap.size, j, none⟩ = cells[j]? := fun j => by
    unfold World.cell?
    simp only [hnew]
    simp
  have he := ext_new (w' := w.alloc (.cells cells t fz)) (hh.fresh n (Zone.free n hZ)) ⟨w.heap.size, 0, cells.size, s⟩ (by omega) (fun b hb _ => hot b hb) (.inl (Nat.le_refl _))
  refine ⟨⟨w.heap.size, 0, cells.size, s⟩, rfl, rfl, rfl, rfl, ?_, he, (Below.refl _ _).alloc hh.base _⟩
  refine hh.new hZ ⟨w.heap.size, 0, cells.size, s⟩ (Nat.le_refl _) (by show w.heap.size < _; omega) (by omega) hot ⟨rfl, hs, ⟨cs, C1.ext he v cs hc, ?_, fun j x hx => ?_⟩, fun j hj => ⟨?_, ?_⟩⟩
  · have := congrArg List.length hcells
    simp only [Array.length_toList,List.length_append] at this
    show cs.length ≤ cells.size
    omega
  · have hj : j < cs.length := (List.getElem?_eq_some_iff.1 hx).1
    rw [Nat.zero_add, hcell, ← Array.getElem?_toList, hcells, List.getElem?_append_left hj]
    exact hx
  · rw [Nat.zero_add, hcell]
    have : j < cells.size := hj
    simp [this]
  · unfold World.frozen?
    simp only [hnew]
    have hf := hfz j hj
    obtain ⟨f1, f2⟩ := fz
    simp only [Nat.zero_add,Bool.and_eq_false_iff,decide_eq_false_iff_not] at hf ⊢
    omega
theorem new_block (hh : HR Z B ρ H n w) (hZ : Zone.ok Z n) {s : Sh} {v : VV} {cs : List Value} (hs : Has s v) (hc : C1 ρ w v cs) {cells : Array Value} {t : TypeId} {tail : List Value} (hcells : cells.toList = cs ++ tail) :
    ∃ l : Loc, l.block = w.heap.size ∧ l.base = 0 ∧ l.room = cells.size ∧ l.sh = s ∧ HR Z B (ρ.give n l) (upd H n (some (.row s v))) (n + 1) (w.alloc (.cells cells t)) ∧
      Ext ρ w (ρ.give n l) (w.alloc (.cells cells t)) ∧ Below B w (w.alloc (.cells cells t)) :=
  new_blockF hh hZ hs hc hcells (0, 0) (fun j _ h => by omega)
theorem box_sound (hT : TM ρ w tm a) (hh : HR Z B ρ H n w) (hG : Gives Z n K) (t : TypeId) (x : Operand) (ho : o.op = .box t x) (h : vBox P (ev tm) H n K t x) : Runs P Z B K ρ w (execOp a.eval o) := by
  unfold vBox at h
  obtain ⟨s, hs, hx, h⟩ := bnd_iff.1 h
  have hc := val_cells hx (ev_sound hT x)
  obtain ⟨l, e1, e2, e3, e4, h1, h2, h3⟩ := new_block hh (hG.one h) (t := t) (cells := (a.eval x).cells) (tail := []) hx hc (by simp)
  refine .inl ⟨.pointer (some ⟨w.heap.size, 0, none⟩), _, ?_, _, _, _, _, h, ?_, h1, h2, h3⟩
  · simp [execOp, ho, Instr.box, newVar, newRow]
  · simp only [VR,VR1,C1]
    exact ⟨l, by rw [give_ap, if_pos rfl], by rw [e1, e2]; simp [Sh.off]⟩
end
end Go.Proofs.YtcilmfhncjfdbaaDoor.V
end
section
/-
  A MACHINE OF VALUES, FIFTH PART: fields, places, numbers, calls.
-/
set_option linter.unusedVariables false
set_option linter.unusedSectionVars false
set_option linter.unusedSimpArgs false
namespace Go.Proofs.YtcilmfhncjfdbaaDoor.V
open Go Go.RowKit

theorem at_append : ∀ (p : List Nat) (s st : Sh) (q : List Nat), s.at p = some st → s.at (p ++ q) = st.at q ∧ s.off (p ++ q) = s.off p + st.off q
  | [], s, st, q, h => by
    simp only [Sh.at,Option.some.injEq] at h
    subst h
    simp [Sh.off]
  | i :: p, s, st, q, h => by
    cases s with
    | cell => simp [Sh.at] at h
    | st ls =>
      simp only [Sh.at] at h
      cases hi : ls[i]? with
      | none => simp [hi] at h
      | some s' =>
        simp only [hi] at h
        obtain ⟨h1, h2⟩ := at_append p s' st q h
        simp only [List.cons_append,Sh.at,Sh.off,hi,h1,h2]
        exact ⟨trivial, (Nat.add_assoc _ _ _).symm⟩
    | arr k s' =>
      simp only [Sh.at] at h
      obtain ⟨h1, h2⟩ := at_append p s' st q h
      simp only [List.cons_append,Sh.at,Sh.off,h1,h2]
      exact ⟨trivial, (Nat.add_assoc _ _ _).symm⟩
section
variable {P : Program} {Z : Nat → Nat → Prop} [Zone Z] {B : Nat} {ρ : Names} {w : World} {H : Heap} {n : Nat} {tm : Nat → VV} {a : Act} {K : VV → Heap → Nat → Prop} {o : Oper}
theorem part_run {t : TypeId} {k : Nat} {s : Sh} {u : VV} {cs : Array Value} {pre mid post : List Value} (ht : shOf P k t = some s) (hs : Has s u) (hc : C1 ρ w u mid) (he : cs.toList = pre ++ mid ++ post) :
    ∃ x, (part t cs pre.length).run P w = .ok x w ∧ VR ρ w u x := by
  obtain ⟨i, d, hi, hu, hsz, hrow⟩ := shOf_spec ht
  have hlen := Has.len s u mid hs hc
  rcases part_value hs hc with ⟨rfl, x, rfl, hv⟩ | ⟨hne, hv⟩
  · refine ⟨x, ?_, hv⟩
    have hd : d.isRow = false := by
      cases hd : d.isRow with
      | false => rfl
      | true => exact absurd rfl (hrow.1 hd)
    have hagg : (isAgg t).run P w = .ok false w := by
      unfold isAgg
      rw [Sem.run_bind, run_underlying hu w]
      cases d <;> simp_all
    have h0 : cs[pre.length]? = some x := by
      rw [← Array.getElem?_toList, he, List.append_assoc, List.getElem?_append_right (Nat.le_refl _)]
      simp
    simp only [part,Sem.run_bind,hagg,Result.andThen_ok,Bool.false_eq_true,if_false,h0]
    rfl
  · refine ⟨_, ?_, hv⟩
    have hagg : (isAgg t).run P w = .ok true w := by
      unfold isAgg
      rw [Sem.run_bind, run_underlying hu w]
      have := hrow.2 hne
      cases d <;> simp_all
    have hext : cs.extract pre.length (pre.length + i.size) = mid.toArray := by
      apply Array.ext'
      rw [Array.toList_extract, he, List.append_assoc, List.extract_eq_take_drop]
      simp only [List.drop_left]
      rw [show pre.length + i.size - pre.length = mid.length by omega, List.take_left]
    simp [part, Sem.run_bind, hagg, sizeOf, typeInfo, hi, hext]
theorem field_sound (hT : TM ρ w tm a) (hh : HR Z B ρ H n w) (t : TypeId) (x : Operand) (f : Nat) (ho : o.op = .field t x f) (h : vField P (ev tm) H n K t x f) : Runs P Z B K ρ w (execOp a.eval o) := by
  unfold vField onV at h
  dsimp only at h
  have hx := ev_sound hT x
  split at h
  · rename_i vs e
    rw [e] at hx
    obtain ⟨cs, hp, hcr⟩ := hx.agg
    obtain ⟨s, hs, hhas, h⟩ := bnd_iff.1 h
    split at h
    · rename_i ls
      obtain ⟨u, hu, h⟩ := bnd_iff.1 h
      obtain ⟨fs, h1, h2, h3⟩ := SH_struct hs
      obtain ⟨su, pre, mid, post, k1, k2, k3, k4, k5, _, _⟩ := focus [f] (.st ls) (.agg vs) u cs.toList hhas (by simp [VV.get, hu]) (by simp only [C1]; exact hcr)
      simp only [Sh.at] at k1
      cases hl : ls[f]? with
      | none => simp [hl] at k1
      | some sf =>
        simp only [hl,Option.some.injEq] at k1
        subst k1
        obtain ⟨g, g1, g2, g3⟩ := h3 f sf hl
        simp only [Sh.off,hl,Nat.add_zero] at k4
        obtain ⟨y, y1, y2⟩ := part_run (P := P) g3 k2 k5 k3
        refine runs_value (x := y) ?_ h y2 hh
        simp only [execOp,ho,hp,Instr.field,Sem.run_bind,run_underlying h1 w,Result.andThen_ok,g1,asAgg,Sem.run_pure]
        rw [g2, ← k4, y1]
        rfl
    · exact h.elim
  · exact h.elim
theorem fieldAddr_sound (hT : TM ρ w tm a) (hh : HR Z B ρ H n w) (t : TypeId) (x : Operand) (f : Nat) (ho : o.op = .fieldAddr t x f) (h : vFieldAddr P (ev tm) H n K t x f) : Runs P Z B K ρ w (execOp a.eval o) := by
  unfold vFieldAddr onV at h
  dsimp only at h
  have hx := ev_sound hT x
  have key : ∀ (ls : List Sh) (sf : Sh) (b g : Nat), SH P t = some (.st ls) → ls[f]? = some sf → sf.size ≠ 0 → a.eval x = .pointer (some ⟨b, g, none⟩) →
      (execOp a.eval o).run P w = .ok (.value (.pointer (some ⟨b, g + Sh.sizes (ls.take f), none⟩))) w := by
    intro ls sf b g hs hl hne hp
    obtain ⟨fs, h1, h2, h3⟩ := SH_struct hs
    obtain ⟨fd, g1, g2, g3⟩ := h3 f sf hl
    obtain ⟨i, d, hi, hu, hsz, hrow⟩ := shOf_spec g3
    have : ¬ i.size = 0 := by omega
    simp only [execOp,ho,hp,Instr.fieldAt,Sem.run_bind,run_underlying h1 w,Result.andThen_ok,g1,Instr.sureAddr,Sem.run_pure,fieldPlace,sizeOf,typeInfo]
    simp [hi, this, g2, Addr.add_mid]
  split at h
  · rename_i m p e
    rw [e] at hx
    obtain ⟨l, hl, hp⟩ := hx.ptr
    obtain ⟨blk, hb, h⟩ := bnd_iff.1 h
    split at h
    · rename_i s c
      obtain ⟨st, hst, hat, h⟩ := bnd_iff.1 h
      split at h
      · rename_i ls
        obtain ⟨sf, hsf, hne, h⟩ := bnd_iff.1 h
        have hrow := hh.row m s c l hb hl
        refine runs_value (key ls sf _ _ hst hsf hne hp) h ?_ hh
        simp only [VR,VR1,C1]
        refine ⟨l, hl, ?_⟩
        rw [hrow.sh, (at_append p s (.st ls) [f] hat).2]
        simp [Sh.off, hsf, Nat.add_assoc]
      · exact h.elim
    · exact h.elim
  · rename_i s vs e
    rw [e] at hx
    obtain ⟨b, g, ecs, hp, g1, g2, g3, g4, g5⟩ := hx.pd
    replace h := bnd_iff.1 h
    obtain ⟨st, hst, hat, h⟩ := h
    cases st with
    | st ls =>
      subst hat
      replace h := bnd_iff.1 h
      obtain ⟨sf, hsf, hne, h⟩ := h
      replace h := bnd_iff.1 h
      obtain ⟨u, hu, h⟩ := h
      refine runs_value (key ls sf _ _ hst hsf hne hp) h ?_ hh
      obtain ⟨su, pre, mid, post, k1, k2, rfl, k4, k5, _, _⟩ := focus [f] (.st ls) (.agg vs) u ecs g2 (by simp [VV.get, hu]) g1
      simp only [Sh.at,hsf,Option.some.injEq] at k1
      subst k1
      simp only [Sh.off,hsf,Nat.add_zero] at k4
      simp only [VR,VR1,C1]
      exact ⟨b, _, mid, rfl, k5, k2, by rw [← k4]; exact range_part g3, g4, g5⟩
    | cell => exact h.elim
    | arr _ _ => exact h.elim
  · exact h.elim
theorem VR.sl {m i k : Nat} {p : List Nat} {x : Value} (h : VR ρ w (.sl (some (m, p, i)) k) x) : (k = 0 ∧ ∃ A, x = .slice A 0 0) ∨ ∃ l c e j, ρ m = some l ∧ x = .slice (some ⟨l.block, l.base + l.sh.off (p ++ [i]), none⟩) k c ∧ k ≤ c ∧
      l.sh.at p = some (.arr j e) ∧ l.sh.off (p ++ [i]) + c * e.size ≤ l.room := by
  simp only [VR,VR1,C1] at h
  rcases h with ⟨h2, A, h3⟩ | ⟨l, c, e, j, h1, h2, h3⟩
  · exact .inl ⟨h2, A, by simpa using h3⟩
  · exact .inr ⟨l, c, e, j, h1, by simpa using h2, h3⟩
theorem VR.dat {s : Sh} {els : List VV} {x : Value} (h : VR ρ w (.dat s els) x) : ∃ A c, x = .slice A els.length c ∧ els.length ≤ c ∧ (els ≠ [] → ∃ b o ecs, A = some ⟨b, o, none⟩ ∧ CR ρ w els ecs ∧ (∀ e ∈ els, Has s e) ∧
      w.rangeAt b o ecs ∧ Unnamed ρ b ∧ b < w.heap.size) := by
  simp only [VR,VR1,C1] at h
  obtain ⟨A, c, h1, h2⟩ := h
  exact ⟨A, c, by simpa using h1, h2⟩
theorem arr_part {s : Sh} {els : List VV} {ecs : List Value} {k : Nat} {u : VV} (h : CR ρ w els ecs) (hs : ∀ e ∈ els, Has s e) (hu : els[k]? = some u) :
    ∃ pre mid post, ecs = pre ++ mid ++ post ∧ pre.length = k * s.size ∧ C1 ρ w u mid ∧ Has s u := by
  obtain ⟨su, pre, mid, post, k1, k2, k3, k4, k5, _, _⟩ := focus [k] (.arr els.length s) (.agg els) u ecs (by simp only [Has,true_and]; exact hs) (by simp [VV.get, hu]) (by simp only [C1]; exact h)
  simp only [Sh.at,Option.some.injEq] at k1
  subst k1
  exact ⟨pre, mid, post, k3, by simpa [Sh.off] using k4, k5, k2⟩
theorem indexAddr_sound (hT : TM ρ w tm a) (hh : HR Z B ρ H n w) (t : TypeId) (x i : Operand) (ho : o.op = .indexAddr t x i) (h : vIndexAddr P (ev tm) H n K t x i) : Runs P Z B K ρ w (execOp a.eval o) := by
  unfold vIndexAddr onV at h
  dsimp only at h
  have hx := ev_sound hT x
  have hi := ev_sound hT i
  have keyS : ∀ (et : TypeId) (se : Sh) (b g len c : Nat) (kk : IntKind) (k : Int), EL P t = some et → SH P et = some se → a.eval x = .slice (some ⟨b, g, none⟩) len c → a.eval i = .int kk k → 0 ≤ k ∧ k < len →
      (execOp a.eval o).run P w = .ok (.value (.pointer (some ⟨b, g + k.toNat * se.size, none⟩))) w := by
    intro et se b g len c kk k h1 h2 h3 h4 h5
    obtain ⟨inf, d, hinf, hu, hsz, hrow⟩ := shOf_spec h2
    have hul := EL_spec h1
    simp only [execOp,ho,h3,h4,Instr.indexAt,Sem.run_bind,run_underlying hul w,Result.andThen_ok,asIntOf,Sem.run_pure]
    simp [h5, sizeOf, typeInfo, hinf, hsz, Addr.add_mid]
  have keyA : ∀ (len : Nat) (se : Sh) (b g : Nat) (kk : IntKind) (k : Int), SH P t = some (.arr len se) → a.eval x = .pointer (some ⟨b, g, none⟩) → a.eval i = .int kk k → 0 ≤ k ∧ k < len →
      (execOp a.eval o).run P w = .ok (.value (.pointer (some ⟨b, g + k.toNat * se.size, none⟩))) w := by
    intro len se b g kk k h1 h3 h4 h5
    obtain ⟨e, hul, hse⟩ := SH_array h1
    obtain ⟨inf, d, hinf, hu, hsz, hrow⟩ := shOf_spec hse
    simp only [execOp,ho,h3,h4,Instr.indexAt,Sem.run_bind,run_underlying hul w,Result.andThen_ok,asIntOf,Sem.run_pure,Instr.sureAddr]
    simp [h5, sizeOf, typeInfo, hinf, hsz, Addr.add_mid]
  split at h
  · rename_i m p i0 len kk k e1 e2
    rw [e1] at hx
    rw [e2] at hi
    have hi := hi.int
    obtain ⟨blk, hb, h⟩ := bnd_iff.1 h
    split at h
    · rename_i s c
      obtain ⟨et, het, h⟩ := bnd_iff.1 h
      obtain ⟨se, hse, h⟩ := bnd_iff.1 h
      obtain ⟨sa, hsa, h⟩ := bnd_iff.1 h
      split at h
      · rename_i j s'
        obtain ⟨rfl, hk, h⟩ := h
        rcases hx.sl with ⟨h0, _⟩ | ⟨l, cap, e, j', hl, hp, hcap, hate, hroom⟩
        · omega
        · have hrow := hh.row m s c l hb hl
          refine runs_value (keyS et s' _ _ len cap kk k het hse hp hi hk) h ?_ hh
          simp only [VR,VR1,C1]
          refine ⟨l, hl, ?_⟩
          rw [hrow.sh, (at_append p s (.arr j s') [i0 + k.toNat] hsa).2, (at_append p s (.arr j s') [i0] hsa).2]
          simp only [Sh.off,Nat.add_zero,Nat.add_mul]
          rw [Nat.add_assoc, Nat.add_assoc]
      · exact h.elim
    · exact h.elim
  · rename_i s els kk k e1 e2
    rw [e1] at hx
    rw [e2] at hi
    have hi := hi.int
    obtain ⟨et, het, h⟩ := bnd_iff.1 h
    obtain ⟨se, hse, h⟩ := bnd_iff.1 h
    obtain ⟨rfl, hk, h⟩ := h
    obtain ⟨u, hu, h⟩ := bnd_iff.1 h
    obtain ⟨A, c, hp, hc, hne⟩ := hx.dat
    obtain ⟨b, g, ecs, rfl, g1, g2, g3, g4, g5⟩ := hne (by intro e; rw [e] at hu; simp at hu)
    refine runs_value (keyS et s _ _ _ c kk k het hse hp hi hk) h ?_ hh
    obtain ⟨pre, mid, post, rfl, k4, k5, k2⟩ := arr_part g1 g2 hu
    simp only [VR,VR1,C1]
    exact ⟨b, _, mid, rfl, k5, k2, by rw [← k4]; exact range_part g3, g4, g5⟩
  · rename_i m p kk k e1 e2
    rw [e1] at hx
    rw [e2] at hi
    have hi := hi.int
    obtain ⟨l, hl, hp⟩ := hx.ptr
    obtain ⟨blk, hb, h⟩ := bnd_iff.1 h
    split at h
    · rename_i s c
      obtain ⟨st, hst, hat, h⟩ := bnd_iff.1 h
      split at h
      · rename_i len s'
        obtain ⟨hk, h⟩ := h
        have hrow := hh.row m s c l hb hl
        refine runs_value (keyA len s' _ _ kk k hst hp hi hk) h ?_ hh
        simp only [VR,VR1,C1]
        refine ⟨l, hl, ?_⟩
        rw [hrow.sh, (at_append p s (.arr len s') [k.toNat] hat).2]
        simp only [Sh.off,Nat.add_zero,Nat.add_assoc]
      · exact h.elim
    · exact h.elim
  · rename_i s vs kk k e1 e2
    rw [e1] at hx
    rw [e2] at hi
    have hi := hi.int
    obtain ⟨b, g, ecs, hp, g1, g2, g3, g4, g5⟩ := hx.pd
    replace h := bnd_iff.1 h
    obtain ⟨st, hst, hat, h⟩ := h
    cases st with
    | arr len s' =>
      subst hat
      obtain ⟨hk, h⟩ := h
      replace h := bnd_iff.1 h
      obtain ⟨u, hu, h⟩ := h
      refine runs_value (keyA len s' _ _ kk k hst hp hi hk) h ?_ hh
      simp only [Has] at g2
      simp only [C1] at g1
      obtain ⟨pre, mid, post, rfl, k4, k5, k2⟩ := arr_part g1 g2.2 hu
      simp only [VR,VR1,C1]
      exact ⟨b, _, mid, rfl, k5, k2, by rw [← k4]; exact range_part g3, g4, g5⟩
    | cell => exact h.elim
    | st _ => exact h.elim
  · rename_i y kk k e1 e2
    rw [e1] at hx
    rw [e2] at hi
    have hi := hi.int
    obtain ⟨su, hsu, h⟩ := bnd_iff.1 h
    have hx := hh.tabV hx hsu
    obtain ⟨s, v⟩ := su
    dsimp only at h hx
    cases v <;> try exact h.elim
    rename_i vs
    dsimp only at h
    obtain ⟨b, g, ecs, hp, g1, g2, g3, g4, g5⟩ := hx.pd
    replace h := bnd_iff.1 h
    obtain ⟨st, hst, hat, h⟩ := h
    cases st with
    | arr len s' =>
      subst hat
      obtain ⟨hk, h⟩ := h
      replace h := bnd_iff.1 h
      obtain ⟨u, hu, h⟩ := h
      refine runs_value (keyA len s' _ _ kk k hst hp hi hk) h ?_ hh
      simp only [Has] at g2
      simp only [C1] at g1
      obtain ⟨pre, mid, post, rfl, k4, k5, k2⟩ := arr_part g1 g2.2 hu
      simp only [VR,VR1,C1]
      exact ⟨b, _, mid, rfl, k5, k2, by rw [← k4]; exact range_part g3, g4, g5⟩
    | cell => exact h.elim
    | st _ => exact h.elim
  · exact h.elim
end
end Go.Proofs.YtcilmfhncjfdbaaDoor.V
end
section
/-
  A MACHINE OF VALUES, SIXTH PART: numbers, strings, calls.
-/
set_option linter.unusedVariables false
set_option linter.unusedSectionVars false
set_option linter.unusedSimpArgs false
namespace Go.Proofs.YtcilmfhncjfdbaaDoor.V
open Go Go.RowKit

section
variable {P : Program} {Z : Nat → Nat → Prop} [Zone Z] {B : Nat} {ρ : Names} {w : World} {H : Heap} {n : Nat} {tm : Nat → VV} {a : Act} {K : VV → Heap → Nat → Prop} {o : Oper}
theorem move_sound (hT : TM ρ w tm a) (hh : HR Z B ρ H n w) (x : Operand) (ho : o.op = .move x ∨ o.op = .assign x) (h : K (ev tm x) H n) : Runs P Z B K ρ w (execOp a.eval o) := by
  refine runs_value (x := a.eval x) ?_ h (ev_sound hT x) hh
  rcases ho with ho | ho <;> simp [execOp, ho]
theorem nilCheck_sound (hT : TM ρ w tm a) (hh : HR Z B ρ H n w) (x : Operand) (ho : o.op = .nilCheck x) (h : vNilCheck (ev tm) H n K x) : Runs P Z B K ρ w (execOp a.eval o) := by
  unfold vNilCheck onV at h
  dsimp only at h
  have hx := ev_sound hT x
  split at h
  · rename_i m p e
    rw [e] at hx
    obtain ⟨l, hl, hp⟩ := hx.ptr
    refine runs_value (x := a.eval x) ?_ h hx hh
    simp [execOp, ho, hp]
  · rename_i s u e
    rw [e] at hx
    obtain ⟨b, g, ecs, hp, _⟩ := hx.pd
    refine runs_value (x := a.eval x) ?_ h hx hh
    simp [execOp, ho, hp]
  · rename_i f cs e
    rw [e] at hx
    obtain ⟨xs, hp, _⟩ := hx.fn
    refine runs_value (x := a.eval x) ?_ h hx hh
    simp [execOp, ho, hp]
  · exact h.elim
theorem un_sound (hT : TM ρ w tm a) (hh : HR Z B ρ H n w) (op : UnOp) (t : TypeId) (x : Operand) (ho : o.op = .unOp op t x) (h : vUn (ev tm) H n K op x) : Runs P Z B K ρ w (execOp a.eval o) := by
  unfold vUn onV at h
  dsimp only at h
  have hx := ev_sound hT x
  split at h
  · rename_i b e
    rw [e] at hx
    refine runs_value (x := .bool (!b)) ?_ h (by simp [VR, VR1, C1]) hh
    simp [execOp, ho, hx.bool, Op.unary]
  · rename_i k i e
    rw [e] at hx
    refine runs_value (x := .int k (k.wrap (0 - i))) ?_ h (by simp [VR, VR1, C1]) hh
    simp [execOp, ho, hx.int, Op.unary, Op.intArith]
  · rename_i i e
    rw [e] at hx
    refine runs_value (x := .int .u32 (bits .xor .u32 4294967295 i)) ?_ h (by simp [VR, VR1, C1]) hh
    simp [execOp, ho, hx.int, Op.unary, Op.intBits, bits, IntKind.signed, IntKind.max, IntKind.bits]
  · exact h.elim
theorem VRs.nth : ∀ (vs : List VV) (xs : List Value) (i : Nat) (u : VV), VRs ρ w vs xs → vs[i]? = some u → ∃ x, xs[i]? = some x ∧ VR1 ρ w u x
  | [], _, _, _, _, hu => by simp at hu
  | v :: vs, xs, 0, u, h, hu => by
    obtain ⟨x, ys, rfl, h1, h2⟩ := h
    simp at hu
    subst hu
    exact ⟨x, by simp, h1⟩
  | v :: vs, xs, i + 1, u, h, hu => by
    obtain ⟨x, ys, rfl, h1, h2⟩ := h
    simp at hu
    obtain ⟨y, g1, g2⟩ := VRs.nth vs ys i u h2 hu
    exact ⟨y, by simpa using g1, g2⟩
theorem extract_sound (hT : TM ρ w tm a) (hh : HR Z B ρ H n w) (x : Operand) (i : Nat) (ho : o.op = .extract x i) (h : vExtract (ev tm) H n K x i) : Runs P Z B K ρ w (execOp a.eval o) := by
  unfold vExtract onV at h
  dsimp only at h
  have hx := ev_sound hT x
  split at h
  · rename_i vs e
    rw [e] at hx
    obtain ⟨xs, hp, hr⟩ := hx.tup
    replace h := bnd_iff.1 h
    obtain ⟨u, hu, h⟩ := h
    obtain ⟨y, h1, h2⟩ := VRs.nth vs xs.toList i u hr hu
    refine runs_value (x := y) ?_ h (VR.of1 h2) hh
    rw [Array.getElem?_toList] at h1
    simp [execOp, ho, hp, Instr.extract, h1]
  · exact h.elim
theorem index_sound (hT : TM ρ w tm a) (hh : HR Z B ρ H n w) (t : TypeId) (x i : Operand) (ho : o.op = .index t x i) (h : vIndex P (ev tm) H n K t x i) : Runs P Z B K ρ w (execOp a.eval o) := by
  unfold vIndex onV at h
  dsimp only at h
  have hx := ev_sound hT x
  have hi := ev_sound hT i
  split at h
  · rename_i s kk k e1 e2
    rw [e1] at hx
    rw [e2] at hi
    replace h := bnd_iff.1 h
    obtain ⟨u, hu, h⟩ := h
    cases u <;> first | exact h.elim | skip
    obtain ⟨⟨h1, h2⟩, h⟩ := h
    have hk : k.toNat < s.length := by omega
    have hget : (ByteArray.mk s.toArray)[k.toNat]? = some (s.getD k.toNat 0) := by
      show (if h : k.toNat < s.toArray.size then some (ByteArray.get _ _) else none) = _
      rw [dif_pos (by simpa using hk)]
      simp [ByteArray.get, List.getD_eq_getElem?_getD, hk]
    refine runs_value (x := .int .u8 (((s.getD k.toNat 0).toNat : Nat) : Int)) ?_ h (by simp [VR, VR1, C1]) hh
    simp only [execOp,ho,hx.str,hi.int,Instr.index,Sem.run_bind,run_underlying hu w,Result.andThen_ok,asIntOf,Sem.run_pure]
    rw [if_pos h1, hget]
    rfl
  · rename_i vs kk k e1 e2
    rw [e1] at hx
    rw [e2] at hi
    obtain ⟨cs, hp, hcr⟩ := hx.agg
    obtain ⟨s, hs, hhas, h⟩ := bnd_iff.1 h
    split at h
    · rename_i len s'
      obtain ⟨hk, h⟩ := h
      obtain ⟨u, hu, h⟩ := bnd_iff.1 h
      obtain ⟨et, h1, h3⟩ := SH_array hs
      obtain ⟨inf, d, hinf, hud, hsz, hrow⟩ := shOf_spec h3
      obtain ⟨su, pre, mid, post, k1, k2, k3, k4, k5, _, _⟩ := focus [k.toNat] (.arr len s') (.agg vs) u cs.toList hhas (by simp [VV.get, hu]) (by simp only [C1]; exact hcr)
      simp only [Sh.at,Option.some.injEq] at k1
      subst k1
      simp only [Sh.off,Nat.add_zero] at k4
      obtain ⟨y, y1, y2⟩ := part_run (P := P) h3 k2 k5 k3
      refine runs_value (x := y) ?_ h y2 hh
      have hs2 : (sizeOf et).run P w = .ok s'.size w := by simp [sizeOf, typeInfo, Sem.run_bind, hinf, hsz]
      simp only [execOp,ho,hp,hi.int,Instr.index,Sem.run_bind,run_underlying h1 w,Result.andThen_ok,asIntOf,Sem.run_pure]
      rw [if_pos hk, Sem.run_bind, hs2]
      simp only [Result.andThen_ok]
      rw [← k4, y1]
      rfl
    · exact h.elim
  · exact h.elim
theorem len_sound (hT : TM ρ w tm a) (hh : HR Z B ρ H n w) (x : Operand) (ts : Array TypeId) (ho : o.op = .call { callee := .builtin .len, args := #[x], argTypes := ts }) (h : vLen P (ev tm) H n K ts x) : Runs P Z B K ρ w (execOp a.eval o) := by
  unfold vLen onV at h
  dsimp only at h
  have hx := ev_sound hT x
  replace h := bnd_iff.1 h
  obtain ⟨t, ht, h⟩ := h
  replace h := bnd_iff.1 h
  obtain ⟨d, hu, h⟩ := h
  have hrun : ∀ (v : Value) (k : Int), (∀ w : World, (Builtin.len_ ts o.type #[v]).run P w = .ok (.int .i64 k) w) → a.eval x = v → (execOp a.eval o).run P w = .ok (.value (.int .i64 k)) w := by
    intro v k hr hv
    simp [execOp, ho, resolve, invoke, builtin, hv, hr w]
  generalize he : ev tm x = v at h hx
  split at h
  · rename_i s
    refine runs_value (hrun _ s.length (fun w => ?_) hx.str) h (by simp [VR, VR1, C1]) hh
    simp [Builtin.len_, run_underlying hu w, goInt, ht]
    rfl
  · rename_i p k
    refine runs_value (hrun (a.eval x) k (fun w => ?_) rfl) h (by simp [VR, VR1, C1]) hh
    cases p with
    | none =>
      simp only [VR,VR1,C1] at hx
      obtain ⟨rfl, hx⟩ := hx
      simp at hx
      simp [Builtin.len_, run_underlying hu w, goInt, ht, hx]
    | some q =>
      obtain ⟨m, p, i⟩ := q
      rcases hx.sl with ⟨rfl, A, hp⟩ | ⟨l, c, e', j, hl, hp, _⟩
      · simp [Builtin.len_, run_underlying hu w, goInt, ht, hp]
      · simp [Builtin.len_, run_underlying hu w, goInt, ht, hp]
  · rename_i s els
    obtain ⟨A, c, hp, _⟩ := hx.dat
    refine runs_value (hrun _ els.length (fun w => ?_) hp) h (by simp [VR, VR1, C1]) hh
    simp [Builtin.len_, run_underlying hu w, goInt, ht]
  · exact h.elim
theorem convert_sound (hT : TM ρ w tm a) (hh : HR Z B ρ H n w) (s d : TypeId) (x : Operand) (ho : o.op = .convert s d x) (h : vConvert P (ev tm) H n K s d x) : Runs P Z B K ρ w (execOp a.eval o) := by
  unfold vConvert onV at h
  dsimp only at h
  have hx := ev_sound hT x
  split at h
  · rename_i kk i e
    rw [e] at hx
    replace h := bnd_iff.1 h
    obtain ⟨su, hsu, h⟩ := h
    replace h := bnd_iff.1 h
    obtain ⟨du, hdu, h⟩ := h
    cases du <;> first | exact h.elim | skip
    rename_i k
    refine runs_value (x := .int k (k.wrap i)) ?_ h (by simp [VR, VR1, C1]) hh
    simp [execOp, ho, hx.int, convert, run_underlying hsu w, run_underlying hdu w, Conv.intToInt]
  · exact h.elim
theorem VR_int {k : IntKind} {i : Int} : VR ρ w (.int k i) (.int k i) := by simp [VR, VR1, C1]
theorem VR_bool {b : Bool} : VR ρ w (.bool b) (.bool b) := by simp [VR, VR1, C1]
theorem VR_str {s : List UInt8} : VR ρ w (.str s) (.string ⟨s.toArray⟩) := by simp [VR, VR1, C1]
theorem bin_sound (hT : TM ρ w tm a) (hh : HR Z B ρ H n w) (op : BinOp) (t t' : TypeId) (x y : Operand) (ho : o.op = .binOp op t x y t') (h : vBin (ev tm) H n K op x y) : Runs P Z B K ρ w (execOp a.eval o) := by
  unfold vBin onV at h
  dsimp only at h
  have hx := ev_sound hT x
  have hy := ev_sound hT y
  unfold vbin at h
  split at h
  · rename_i k i k' j e1 e2
    rw [e1] at hx
    rw [e2] at hy
    have hx := hx.int
    have hy := hy.int
    cases op <;> dsimp only at h
    case shl => exact runs_value (by simp [execOp, ho, hx, hy, eqGuard, binOp, Op.shift, show ¬ j < 0 by have := h.1; omega]) h.2 VR_int hh
    case shr => exact runs_value (by simp [execOp, ho, hx, hy, eqGuard, binOp, Op.shift, show ¬ j < 0 by have := h.1; omega]) h.2 VR_int hh
    case quo => obtain ⟨⟨rfl, hne⟩, h⟩ := h; exact runs_value (by simp [execOp, ho, hx, hy, eqGuard, binOp, Op.intDiv, hne]) h VR_int hh
    case rem => obtain ⟨⟨rfl, hne⟩, h⟩ := h; exact runs_value (by simp [execOp, ho, hx, hy, eqGuard, binOp, Op.intDiv, hne]) h VR_int hh
    case add => obtain ⟨rfl, h⟩ := h; exact runs_value (by simp [execOp, ho, hx, hy, eqGuard, binOp, Op.intArith]) h VR_int hh
    case sub => obtain ⟨rfl, h⟩ := h; exact runs_value (by simp [execOp, ho, hx, hy, eqGuard, binOp, Op.intArith]) h VR_int hh
    case mul => obtain ⟨rfl, h⟩ := h; exact runs_value (by simp [execOp, ho, hx, hy, eqGuard, binOp, Op.intArith]) h VR_int hh
    case and => obtain ⟨rfl, h⟩ := h; exact runs_value (by simp [execOp, ho, hx, hy, eqGuard, binOp, Op.intBits, bits]) h VR_int hh
    case or => obtain ⟨rfl, h⟩ := h; exact runs_value (by simp [execOp, ho, hx, hy, eqGuard, binOp, Op.intBits, bits]) h VR_int hh
    case xor => obtain ⟨rfl, h⟩ := h; exact runs_value (by simp [execOp, ho, hx, hy, eqGuard, binOp, Op.intBits, bits]) h VR_int hh
    case andNot => obtain ⟨rfl, h⟩ := h; exact runs_value (by simp [execOp, ho, hx, hy, eqGuard, binOp, Op.intBits, bits]) h VR_int hh
    all_goals (obtain ⟨rfl, h⟩ := h; exact runs_value (by simp [execOp, ho, hx, hy, eqGuard, binOp, Op.intCmp]) h VR_bool hh)
  · rename_i s s' e1 e2
    rw [e1] at hx
    rw [e2] at hy
    have hx := hx.str
    have hy := hy.str
    have hl : ∀ s : List UInt8, (ByteArray.mk s.toArray).toList = s := fun s => by simp
    split at h
    · obtain ⟨hl, h⟩ := h
      refine runs_value (x := .string ⟨(s ++ s').toArray⟩) ?_ h VR_str hh
      have hz : ¬ (9223372036854775807 : Int) < (s.length : Int) + (s'.length : Int) := by omega
      simp only [execOp,ho,hx,hy,eqGuard,binOp,Op.stringOp]
      have e3 : (ByteArray.mk s.toArray).size = s.length := by show s.toArray.size = _; simp
      have e4 : (ByteArray.mk s'.toArray).size = s'.length := by show s'.toArray.size = _; simp
      have e5 : ByteArray.mk s.toArray ++ ByteArray.mk s'.toArray = ByteArray.mk (s ++ s').toArray := by
        apply ByteArray.ext
        simp
      have e6 : ¬ (((s.length + s'.length : Nat) : Int) > IntKind.i64.max) := by
        have : IntKind.i64.max = 9223372036854775807 := by decide
        omega
      rw [e3, e4, if_neg e6, e5]
      simp
    · refine runs_value (x := .bool (s == s')) ?_ h VR_bool hh
      simp [execOp, ho, hx, hy, eqGuard, binOp, Op.stringOp, hl]
    · refine runs_value (x := .bool (s != s')) ?_ h VR_bool hh
      simp [execOp, ho, hx, hy, eqGuard, binOp, Op.stringOp, hl, bne]
    · exact h.elim
  · exact h.elim
theorem VRA_append : ∀ (vs us : List VV) (xs ys : List Value), VRA ρ w vs xs → VRA ρ w us ys → VRA ρ w (vs ++ us) (xs ++ ys)
  | [], us, xs, ys, h, h' => by obtain rfl : xs = [] := h; exact h'
  | v :: vs, us, xs, ys, h, h' => by
    obtain ⟨x, zs, rfl, h1, h2⟩ := h
    exact ⟨x, zs ++ ys, rfl, h1, VRA_append vs us zs ys h2 h'⟩
theorem VRA_caps : ∀ (vs : List VV) (xs : List Value), CV ρ w vs xs → VRA ρ w vs xs
  | [], xs, h => by simp only [CV] at h; exact h
  | v :: vs, xs, h => by
    simp only [CV] at h
    obtain ⟨x, c2, rfl, h1, h2, h3⟩ := h
    exact ⟨x, c2, rfl, VR.of_leaf h1 h2, VRA_caps vs c2 h3⟩
theorem VRA_map (hT : TM ρ w tm a) : ∀ (xs : List Operand), VRA ρ w (xs.map (ev tm)) (xs.map a.eval)
  | [] => rfl
  | x :: xs => ⟨a.eval x, _, rfl, ev_sound hT x, VRA_map hT xs⟩
theorem call_sound (hT : TM ρ w tm a) (hh : HR ZT B ρ H n w) (f : Operand) (xs : Array Operand) (ts : Array TypeId) (ho : o.op = .call { callee := .value f, args := xs, argTypes := ts }) (h : vCall P (ev tm) H n K f xs.toList) : Runs P ZT B K ρ w (execOp a.eval o) := by
  unfold vCall onV at h
  dsimp only at h
  have hf := ev_sound hT f
  split at h
  · rename_i g caps e
    rw [e] at hf
    obtain ⟨cs, hp, hcv⟩ := hf.fn
    obtain ⟨hc, h⟩ := h
    refine .inr (.inr ⟨g, (xs.map a.eval) ++ cs, ?_, ?_⟩)
    · unfold callable at hc
      split at hc
      · rename_i fn hfn
        simp only [Bool.and_eq_true,bne_iff_ne,ne_eq] at hc
        obtain ⟨b, hb⟩ := Option.isSome_iff_exists.1 hc.2
        simp [execOp, ho, resolve, hp, Deferred.ofValue, invoke, callFunc, hfn, hc.1, hb]
      · cases hc
    · have := h B ρ w ((xs.map a.eval).toList ++ cs.toList) hh (VRA_append _ _ _ _ (by have := VRA_map hT xs.toList; simpa using this) (VRA_caps _ _ hcv))
      have e : ((xs.map a.eval).toList ++ cs.toList).toArray = xs.map a.eval ++ cs := by
        apply Array.ext'
        simp
      rw [e] at this
      exact this
  · exact h.elim
theorem CV_map (hT : TM ρ w tm a) : ∀ (xs : List Operand), (∀ c ∈ xs, (ev tm c).leaf = true) → CV ρ w (xs.map (ev tm)) (xs.map a.eval)
  | [], _ => by simp only [CV,List.map_nil]
  | x :: xs, h => by
    simp only [CV,List.map_cons]
    exact ⟨_, _, rfl, h x (by simp), VR.leaf_cells (h x (by simp)) (ev_sound hT x), CV_map hT xs fun c hc => h c (by simp [hc])⟩
theorem makeFunc_sound (hT : TM ρ w tm a) (hh : HR Z B ρ H n w) (f : FuncId) (first caps : Array Operand) (ho : o.op = .makeFunc (.func f) first caps) (h : vMakeFunc (ev tm) H n K f first caps.toList) : Runs P Z B K ρ w (execOp a.eval o) := by
  obtain ⟨⟨rfl, h1⟩, h⟩ := h
  refine runs_value (x := .func (.func f) #[] (caps.map a.eval)) ?_ h ?_ hh
  · simp [execOp, ho, Instr.makeFunc]
  · simp only [VR,VR1,C1]
    exact ⟨_, rfl, by have := CV_map hT caps.toList h1; simpa using this⟩
end
end Go.Proofs.YtcilmfhncjfdbaaDoor.V
end
