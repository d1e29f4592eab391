/-
  WORDS FOR MEMORY: a slice that reads as so many cells; bytes; what is kept.
-/
import Derived.Below
import Derived.Laws.OwnMore
import Derived.Deep.AppendLies
import Derived.Deep.Draws
import Derived.WalkSmall
import Derived.Laws.Tables
import Derived.Lib.Hide
import Derived.Test.YtndbfphmjmhkjaaByte
import Derived.Test.YtndbfphmjmhkjaaPoly
namespace Go.Proofs.Ytndbfphmjmhkjaa
open Go.RowKit

/-- a slice's address A, behind which n cells hold f 0, f 1, .. -/
def Rd (w : World) (A : Option Addr) (n : Nat) (f : Nat → Value) : Prop :=
  0 < n → ∃ b o, A = some ⟨b, o, none⟩ ∧ ∀ j, j < n → w.cell? ⟨b, o + j, none⟩ = some (f j)
/-- .. bytes -/
def RdB (w : World) (A : Option Addr) (l : List UInt8) : Prop := Rd w A l.length (fun j => .int .u8 (B8 (Gf.nth l j)))

/-- nothing that was there is another one -/
def Kept (w w' : World) : Prop := Below w.heap.size w w'

theorem cell_lt {w : World} {p : Addr} {v : Value} (h : w.cell? p = some v) : p.block < w.heap.size := by
  unfold World.cell? at h
  rcases Nat.lt_or_ge p.block w.heap.size with hlt | hge
  · exact hlt
  · rw [Array.getElem?_eq_none hge] at h
    cases h
theorem Kept.refl (w : World) : Kept w w := Below.refl _ _
theorem Kept.trans {w w1 w2 : World} (h1 : Kept w w1) (h2 : Kept w1 w2) : Kept w w2 :=
  Below.trans h1 (Below.mono h2 (Below.size h1))
theorem Kept.drewN (w : World) (n : Nat) : Kept w (w.drewN n) := by
  have h := below_drewN (Below.refl w.heap.size w) n
  exact h
theorem Kept.cell {w w' : World} (h : Kept w w') {p : Addr} {v : Value} (hc : w.cell? p = some v) : w'.cell? p = some v :=
  (Below.cell h (cell_lt hc)).trans hc
theorem Rd.kept {w w' : World} {A : Option Addr} {n : Nat} {f : Nat → Value} (h : Rd w A n f) (hk : Kept w w') : Rd w' A n f := fun hn =>
  let ⟨b, o, e, hc⟩ := h hn
  ⟨b, o, e, fun j hj => hk.cell (hc j hj)⟩
theorem RdB.kept {w w' : World} {A : Option Addr} {l : List UInt8} (h : RdB w A l) (hk : Kept w w') : RdB w' A l := Rd.kept h hk

/-- only answers have been drawn -/
def Drawn (w w' : World) : Prop := ∃ n, w' = w.drewN n
theorem Drawn.refl (w : World) : Drawn w w := ⟨0, rfl⟩
theorem Drawn.of_eq {w w' : World} (h : w = w') : Drawn w w' := ⟨0, h.symm⟩
theorem Drawn.drewN {w w' : World} (h : Drawn w w') (n : Nat) : Drawn w (w'.drewN n) := by
  obtain ⟨m, rfl⟩ := h
  exact ⟨m + n, World.drewN_drewN _ _ _⟩
theorem Drawn.trans {w w1 w2 : World} (h1 : Drawn w w1) (h2 : Drawn w1 w2) : Drawn w w2 := by
  obtain ⟨m, rfl⟩ := h2
  exact h1.drewN m
theorem Drawn.kept {w w' : World} (h : Drawn w w') : Kept w w' := by
  obtain ⟨n, rfl⟩ := h
  exact Kept.drewN _ _
theorem Rd.drawn {w w' : World} {A : Option Addr} {n : Nat} {f : Nat → Value} (h : Rd w A n f) (hk : Drawn w w') : Rd w' A n f := h.kept hk.kept
theorem RdB.drawn {w w' : World} {A : Option Addr} {l : List UInt8} (h : RdB w A l) (hk : Drawn w w') : RdB w' A l := Rd.kept h hk.kept

section
variable {P : Program} {f : FuncId} {args : Array Value} {w : World} {n : Nat} {v : Value}
theorem quiet_same (h : Calls P f args (w.drewN n) fun e w' => e = .returned v ∧ w.drewN n = w') : Calls P f args (w.drewN n) fun e w'' => e = .returned v ∧ ∃ m, w'' = w.drewN m :=
  h.mono fun _ _ ⟨he, hm⟩ => ⟨he, n, hm.symm⟩
theorem quiet_drawn (h : Calls P f args (w.drewN n) fun e w' => e = .returned v ∧ Drawn (w.drewN n) w') : Calls P f args (w.drewN n) fun e w'' => e = .returned v ∧ ∃ m, w'' = w.drewN m :=
  h.mono fun _ _ ⟨he, hm⟩ => ⟨he, by obtain ⟨m, hm⟩ := hm; exact ⟨n + m, by rw [hm, World.drewN_drewN]⟩⟩
theorem quiet_same2 {a : Nat} (h : Calls P f args (w.drewN (a + n)) fun e w' => e = .returned v ∧ w.drewN (a + n) = w') :
    Calls P f args (w.drewN (a + n)) fun e w'' => e = .returned v ∧ ∃ m, w'' = w.drewN (a + m) :=
  h.mono fun _ _ ⟨he, hm⟩ => ⟨he, n, hm.symm⟩
theorem quiet_drawn2 {a : Nat} (h : Calls P f args (w.drewN (a + n)) fun e w' => e = .returned v ∧ Drawn (w.drewN (a + n)) w') :
    Calls P f args (w.drewN (a + n)) fun e w'' => e = .returned v ∧ ∃ m, w'' = w.drewN (a + m) :=
  h.mono fun _ _ ⟨he, hm⟩ => ⟨he, by obtain ⟨m, hm⟩ := hm; exact ⟨n + m, by rw [hm, World.drewN_drewN, Nat.add_assoc]⟩⟩
end
theorem RdB.op {w : World} {A : Option Addr} {l : List UInt8} (h : RdB w A l) (h0 : 0 < l.length) :
    ∃ b o, A = some ⟨b, o, none⟩ ∧ ∀ j, j < l.length → w.cell? ⟨b, o + j, none⟩ = some (.int .u8 (B8 (Gf.nth l j))) := h h0
theorem Kept.alloc {w w' : World} (h : Kept w w') (o : Obj) : Kept w (w'.alloc o) := Below.alloc h (Below.size h) o
theorem small_len {n : Nat} (h : n ≤ 1000000) : n ≤ maxLen := by unfold maxLen; omega
/-- bytes laid in a new block -/
def bvs (l : List UInt8) : List Value := l.map fun x => .int .u8 (B8 x)
theorem RdB.new (w : World) (l : List UInt8) (T : TypeId) : RdB (w.alloc (.cells (bvs l).toArray T)) (some ⟨w.heap.size, 0, none⟩) l := by
  intro _
  refine ⟨_, _, rfl, fun j hj => ?_⟩
  rw [cell_of_row _ _ _ _ _ _ (heap_alloc_new w _)]
  simp [bvs, hj, Gf.nth]
theorem Rd.setCell {w : World} {b o n : Nat} {f : Nat → Value} (h : Rd w (some ⟨b, o, none⟩) n f) {p : Addr} (hne : p.block ≠ b) (v : Value) : Rd (w.setCell p v) (some ⟨b, o, none⟩) n f := fun hn => by
  obtain ⟨b', o', e, hc⟩ := h hn
  injection e with e
  injection e with e1 e2
  subst e1 e2
  exact ⟨b, o, rfl, fun j hj => (World.cell?_setCell_other w p _ v (fun e => hne (by rw [e]))).trans (hc j hj)⟩
theorem RdB.setCell {w : World} {b o : Nat} {l : List UInt8} (h : RdB w (some ⟨b, o, none⟩) l) {p : Addr} (hne : p.block ≠ b) (v : Value) : RdB (w.setCell p v) (some ⟨b, o, none⟩) l := Rd.setCell h hne v

/-! ### a block that is known whole -/
def Bk (w : World) (g : Nat) (T : TypeId) (cs : Array Value) : Prop := w.heap[g]? = some (.cells cs T (0, 0))
section
variable {w w' : World} {g : Nat} {T : TypeId} {cs : Array Value}
theorem Bk.lt (h : Bk w g T cs) : g < w.heap.size := (Array.getElem?_eq_some_iff.1 h).1
theorem Bk.kept (h : Bk w g T cs) (hk : Kept w w') : Bk w' g T cs := (hk.block g h.lt).trans h
theorem Bk.cell (h : Bk w g T cs) {i : Nat} {v : Value} (hv : cs[i]? = some v) : w.cell? ⟨g, i, none⟩ = some v := by
  rw [cell_of_row w g i cs _ _ h]; exact hv
theorem Bk.frozen (h : Bk w g T cs) (i : Nat) : w.frozen? ⟨g, i, none⟩ = false := frozen_of_row w g i cs _ h
theorem Bk.new (w : World) (T : TypeId) (cs : Array Value) : Bk (w.alloc (.cells cs T)) w.heap.size T cs := heap_alloc_new w _
theorem Bk.alloc (h : Bk w g T cs) (o : Obj) : Bk (w.alloc o) g T cs := (Below.heap_alloc w o g h.lt).trans h
theorem Bk.drewN (h : Bk w g T cs) (n : Nat) : Bk (w.drewN n) g T cs := h
theorem Bk.drew (h : Bk w g T cs) : Bk w.drew g T cs := h
theorem Bk.put (h : Bk w g T cs) (i : Nat) (v : Value) : Bk (w.setCell ⟨g, i, none⟩ v) g T (cs.setIfInBounds i v) := heap_setCell_same w g i cs T v h
theorem Bk.other (h : Bk w g T cs) {p : Addr} (hp : p.block ≠ g) (v : Value) : Bk (w.setCell p v) g T cs := (Below.heap_setCell w p v g (fun e => hp e.symm)).trans h
theorem Bk.row (h : Bk w g T cs) (cs' : Array Value) : Bk (w.setRow g cs') g T cs' := setRow_heap w g cs cs' T _ h
theorem Bk.otherRow (h : Bk w g T cs) {k : Nat} (hk : k ≠ g) (cs' : Array Value) : Bk (w.setRow k cs') g T cs := (setRow_other w k g cs' (fun e => hk e.symm)).trans h
end
theorem Kept.put {w0 w : World} (h : Kept w0 w) {p : Addr} (hp : w0.heap.size ≤ p.block) (v : Value) : Kept w0 (w.setCell p v) := Below.setCell h hp v
theorem Kept.row {w0 w : World} (h : Kept w0 w) {g : Nat} (hg : w0.heap.size ≤ g) (cs : Array Value) : Kept w0 (w.setRow g cs) :=
  Below.trans h ⟨rfl, rfl, rfl, by simp, fun k hk => setRow_other w g k cs (by omega)⟩
theorem Kept.drew {w0 w : World} (h : Kept w0 w) : Kept w0 w.drew := Below.drew h
theorem RdB.new1 (w : World) (l : List UInt8) (T : TypeId) (o : Obj) : RdB ((w.alloc (.cells (bvs l).toArray T)).alloc o).drew (some ⟨w.heap.size, 0, none⟩) l :=
  (RdB.new w l T).kept ((Kept.refl _).alloc o).drew
theorem RdB.new2 (w : World) (l : List UInt8) (T : TypeId) (o : Obj) : RdB ((w.alloc o).alloc (.cells (bvs l).toArray T)).drew (some ⟨w.heap.size + 1, 0, none⟩) l := by
  have := (RdB.new (w.alloc o) l T).kept (Kept.refl _).drew
  rw [World.size_alloc] at this
  exact this
end Go.Proofs.Ytndbfphmjmhkjaa
