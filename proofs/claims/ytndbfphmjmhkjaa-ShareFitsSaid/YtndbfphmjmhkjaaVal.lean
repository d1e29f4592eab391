/-
  A MACHINE OF VALUES, FIRST PART: values with named blocks in place of addresses; contents of blocks as trees; what it means that a value of the model is one of these.
-/
import Derived.WalkKit
import Derived.WalkSpells
import Derived.WalkLawsBesides
import Derived.Scope
import Derived.RegionTactic
import Derived.Below
import Derived.Deep.MidRow
set_option linter.unusedVariables false
set_option linter.unusedSectionVars false
set_option linter.unusedSimpArgs false
namespace Go.Proofs.Ytndbfphmjmhkjaa.V
open Go

/-- the shape of a type: one cell, a struct's fields, an array -/
inductive Sh where
  | cell
  | st (ls : List Sh)
  | arr (n : Nat) (s : Sh)
mutual
def Sh.size : Sh → Nat
  | .cell => 1
  | .st ls => Sh.sizes ls
  | .arr n s => n * s.size
def Sh.sizes : List Sh → Nat
  | [] => 0
  | s :: l => s.size + Sh.sizes l
end
def Sh.at : Sh → List Nat → Option Sh
  | s, [] => some s
  | .st ls, i :: p => match ls[i]? with
    | some s => s.at p
    | none => none
  | .arr _ s, _ :: p => s.at p
  | .cell, _ :: _ => none
def Sh.off : Sh → List Nat → Nat
  | _, [] => 0
  | .st ls, i :: p => Sh.sizes (ls.take i) + (match ls[i]? with
    | some s => s.off p
    | none => 0)
  | .arr _ s, i :: p => i * s.size + s.off p
  | .cell, _ :: _ => 0

inductive VV where
  | int (k : IntKind) (n : Int)
  | bool (b : Bool)
  | str (s : List UInt8)
  | agg (vs : List VV)
  | tup (vs : List VV)
  /-- a slice of the call's own: block, path in the block, first place, length -/
  | sl (p : Option (Nat × List Nat × Nat)) (len : Nat)
  | ptr (m : Nat) (p : List Nat)
  | fn (f : FuncId) (caps : List VV)
  | map (m : Nat)
  /-- a slice that nobody writes to, by what it holds -/
  | dat (s : Sh) (els : List VV)
  /-- a place that nobody writes to, by what it holds -/
  | pd (s : Sh) (v : VV)
  /-- a new slice, in an answer -/
  | vec (s : Sh) (els : List VV)
  | any
  | raw (v : Value)

def VV.get : VV → List Nat → Option VV
  | v, [] => some v
  | .agg vs, i :: p => match vs[i]? with
    | some u => u.get p
    | none => none
  | _, _ :: _ => none
def VV.set : VV → List Nat → VV → VV
  | _, [], u => u
  | .agg vs, i :: p, u => match vs[i]? with
    | some v => .agg (vs.set i (v.set p u))
    | none => .agg vs
  | v, _ :: _, _ => v
def VV.leaf : VV → Bool
  | .agg _ | .tup _ | .vec _ _ | .any => false
  | .raw v => v.oneCell'
  | _ => true
mutual
/-- a value of such a shape -/
def Has : Sh → VV → Prop
  | .cell, v => v.leaf = true
  | .st ls, .agg vs => HasL ls vs
  | .arr n s, .agg vs => vs.length = n ∧ ∀ v ∈ vs, Has s v
  | _, _ => False
def HasL : List Sh → List VV → Prop
  | [], vs => vs = []
  | s :: ls, v :: vs => Has s v ∧ HasL ls vs
  | _ :: _, [] => False
end

/-- where a named block lies -/
structure Loc where
  block : Nat
  base : Nat
  room : Nat
  sh : Sh
/-- names, and the blocks of which data may be that nobody writes to -/
structure Names where
  nm : Nat → Option Loc
  im : Nat → Prop
instance : CoeFun Names fun _ => Nat → Option Loc := ⟨Names.nm⟩
def Names.give (ρ : Names) (n : Nat) (l : Loc) : Names := { ρ with nm := fun m => if m = n then some l else ρ.nm m }
theorem give_ap (ρ : Names) (n : Nat) (l : Loc) (m : Nat) : (ρ.give n l) m = if m = n then some l else ρ m := rfl
def Unnamed (ρ : Names) (b : Nat) : Prop := ρ.im b ∧ ∀ n l, ρ n = some l → l.block ≠ b

mutual
/-- cells that are this value -/
def C1 (ρ : Names) (w : World) : VV → List Value → Prop
  | .int k n, cs => cs = [.int k n]
  | .bool b, cs => cs = [.bool b]
  | .str s, cs => cs = [.string ⟨s.toArray⟩]
  | .agg vs, cs => CR ρ w vs cs
  | .tup _, _ => False
  | .sl none n, cs => n = 0 ∧ cs = [.slice none 0 0]
  | .sl (some (m, p, i)) n, cs => (n = 0 ∧ ∃ A, cs = [.slice A 0 0]) ∨ ∃ l c e k, ρ m = some l ∧ cs = [.slice (some ⟨l.block, l.base + l.sh.off (p ++ [i]), none⟩) n c] ∧ n ≤ c ∧
      l.sh.at p = some (.arr k e) ∧ l.sh.off (p ++ [i]) + c * e.size ≤ l.room
  | .ptr m p, cs => ∃ l, ρ m = some l ∧ cs = [.pointer (some ⟨l.block, l.base + l.sh.off p, none⟩)]
  | .fn f caps, cs => ∃ xs, cs = [.func (.func f) #[] xs] ∧ CV ρ w caps xs.toList
  | .map m, cs => ∃ l, ρ m = some l ∧ cs = [.map (some l.block)]
  | .dat s els, cs => ∃ A c, cs = [.slice A els.length c] ∧ els.length ≤ c ∧ (els ≠ [] → ∃ b o ecs, A = some ⟨b, o, none⟩ ∧ CR ρ w els ecs ∧ (∀ e ∈ els, Has s e) ∧
      w.rangeAt b o ecs ∧ Unnamed ρ b ∧ b < w.heap.size)
  | .pd s v, cs => ∃ b o ecs, cs = [.pointer (some ⟨b, o, none⟩)] ∧ C1 ρ w v ecs ∧ Has s v ∧ w.rangeAt b o ecs ∧ Unnamed ρ b ∧ b < w.heap.size
  | .vec _ _, _ => False
  | .any, cs => ∃ x, cs = [x]
  | .raw v, cs => cs = [v]
def CR (ρ : Names) (w : World) : List VV → List Value → Prop
  | [], cs => cs = []
  | v :: vs, cs => ∃ c1 c2, cs = c1 ++ c2 ∧ C1 ρ w v c1 ∧ CR ρ w vs c2
/-- what a function value holds: one-cell values -/
def CV (ρ : Names) (w : World) : List VV → List Value → Prop
  | [], cs => cs = []
  | v :: vs, cs => ∃ x c2, cs = x :: c2 ∧ v.leaf = true ∧ C1 ρ w v [x] ∧ CV ρ w vs c2
end

/-- a value of the model that is this value -/
def VR1 (ρ : Names) (w : World) : VV → Value → Prop
  | .agg vs, x => ∃ cs, x = .agg cs ∧ CR ρ w vs cs.toList
  | .any, _ => True
  | v, x => C1 ρ w v [x]
def VRs (ρ : Names) (w : World) : List VV → List Value → Prop
  | [], xs => xs = []
  | v :: vs, xs => ∃ x ys, xs = x :: ys ∧ VR1 ρ w v x ∧ VRs ρ w vs ys
def VR (ρ : Names) (w : World) : VV → Value → Prop
  | .tup vs, x => ∃ xs, x = .tuple xs ∧ VRs ρ w vs xs.toList
  | v, x => VR1 ρ w v x

/-- names stay, worlds turn in named blocks alone -/
structure Ext (ρ : Names) (w : World) (ρ' : Names) (w' : World) : Prop where
  names : ∀ m l, ρ m = some l → ρ' m = some l
  size : w.heap.size ≤ w'.heap.size
  block : ∀ b, b < w.heap.size → Unnamed ρ b → w'.heap[b]? = w.heap[b]?
  fresh : ∀ m l, ρ' m = some l → ρ m = some l ∨ w.heap.size ≤ l.block ∨ ∃ m0 l0, ρ m0 = some l0 ∧ l0.block = l.block
  im : ∀ b, ρ.im b → ρ'.im b
  imb : ∀ b, ρ'.im b → ρ.im b ∨ w.heap.size ≤ b

theorem Ext.refl (ρ : Names) (w : World) : Ext ρ w ρ w := ⟨fun _ _ h => h, Nat.le_refl _, fun _ _ _ => rfl, fun _ _ h => .inl h, fun _ h => h, fun _ h => .inl h⟩
theorem Ext.unnamed {ρ ρ' : Names} {w w' : World} (h : Ext ρ w ρ' w') {b : Nat} (hb : b < w.heap.size) (hu : Unnamed ρ b) : Unnamed ρ' b := ⟨h.im b hu.1, fun n l hn => by
  rcases h.fresh n l hn with h1 | h1 | ⟨m0, l0, h1, h2⟩
  · exact hu.2 n l h1
  · omega
  · rw [← h2]; exact hu.2 m0 l0 h1⟩
theorem cell_of_block {w w' : World} {b : Nat} (h : w'.heap[b]? = w.heap[b]?) (o : Nat) : w'.cell? ⟨b, o, none⟩ = w.cell? ⟨b, o, none⟩ := by
  unfold World.cell?
  simp only [h]
theorem Ext.range {ρ ρ' : Names} {w w' : World} (h : Ext ρ w ρ' w') {b o : Nat} {cs : List Value} (hb : b < w.heap.size) (hu : Unnamed ρ b) (hr : w.rangeAt b o cs) : w'.rangeAt b o cs := fun j v hv => by
  rw [cell_of_block (h.block b hb hu)]
  exact hr j v hv
theorem Ext.trans {ρ ρ1 ρ2 : Names} {w w1 w2 : World} (h : Ext ρ w ρ1 w1) (h' : Ext ρ1 w1 ρ2 w2) : Ext ρ w ρ2 w2 := by
  refine ⟨fun m l hm => h'.names m l (h.names m l hm), Nat.le_trans h.size h'.size, fun b hb hu => ?_, fun m l hm => ?_, fun b hb => h'.im b (h.im b hb), fun b hb => (h'.imb b hb).elim (h.imb b) fun h2 => .inr (Nat.le_trans h.size h2)⟩
  · rw [h'.block b (Nat.lt_of_lt_of_le hb h.size) (h.unnamed hb hu)]
    exact h.block b hb hu
  · rcases h'.fresh m l hm with h1 | h1 | ⟨m0, l0, h1, h2⟩
    · exact h.fresh m l h1
    · exact .inr (.inl (Nat.le_trans h.size h1))
    · rcases h.fresh m0 l0 h1 with h3 | h3 | ⟨m1, l1, h3, h4⟩
      · exact .inr (.inr ⟨m0, l0, h3, h2⟩)
      · exact .inr (.inl (by omega))
      · exact .inr (.inr ⟨m1, l1, h3, h4.trans h2⟩)

section
variable {ρ ρ' : Names} {w w' : World}
mutual
theorem C1.ext (h : Ext ρ w ρ' w') : ∀ (v : VV) (cs : List Value), C1 ρ w v cs → C1 ρ' w' v cs
  | .int _ _, _, hc => by simpa only [C1] using hc
  | .bool _, _, hc => by simpa only [C1] using hc
  | .str _, _, hc => by simpa only [C1] using hc
  | .agg vs, cs, hc => by simp only [C1] at hc ⊢; exact CR.ext h vs cs hc
  | .tup _, _, hc => by simp only [C1] at hc
  | .sl none _, _, hc => by simpa only [C1] using hc
  | .sl (some (m, p, i)) n, cs, hc => by
    simp only [C1] at hc ⊢
    rcases hc with hc | ⟨l, c, e, k, h1, h2⟩
    · exact .inl hc
    · exact .inr ⟨l, c, e, k, h.names _ _ h1, h2⟩
  | .ptr m p, cs, hc => by
    simp only [C1] at hc ⊢
    obtain ⟨l, h1, h2⟩ := hc
    exact ⟨l, h.names _ _ h1, h2⟩
  | .fn f caps, cs, hc => by
    simp only [C1] at hc ⊢
    obtain ⟨xs, h1, h2⟩ := hc
    exact ⟨xs, h1, CV.ext h caps _ h2⟩
  | .map m, cs, hc => by
    simp only [C1] at hc ⊢
    obtain ⟨l, h1, h2⟩ := hc
    exact ⟨l, h.names _ _ h1, h2⟩
  | .dat s els, cs, hc => by
    simp only [C1] at hc ⊢
    obtain ⟨A, c, h1, h2, h3⟩ := hc
    refine ⟨A, c, h1, h2, fun hne => ?_⟩
    obtain ⟨b, o, ecs, g1, g2, g3, g4, g5, g6⟩ := h3 hne
    exact ⟨b, o, ecs, g1, CR.ext h els ecs g2, g3, h.range g6 g5 g4, h.unnamed g6 g5, Nat.lt_of_lt_of_le g6 h.size⟩
  | .pd s v, cs, hc => by
    simp only [C1] at hc ⊢
    obtain ⟨b, o, ecs, g1, g2, g3, g4, g5, g6⟩ := hc
    exact ⟨b, o, ecs, g1, C1.ext h v ecs g2, g3, h.range g6 g5 g4, h.unnamed g6 g5, Nat.lt_of_lt_of_le g6 h.size⟩
  | .vec _ _, _, hc => by simp only [C1] at hc
  | .any, _, hc => by simpa only [C1] using hc
  | .raw _, _, hc => by simpa only [C1] using hc
theorem CR.ext (h : Ext ρ w ρ' w') : ∀ (vs : List VV) (cs : List Value), CR ρ w vs cs → CR ρ' w' vs cs
  | [], _, hc => by simpa only [CR] using hc
  | v :: vs, cs, hc => by
    simp only [CR] at hc ⊢
    obtain ⟨c1, c2, h1, h2, h3⟩ := hc
    exact ⟨c1, c2, h1, C1.ext h v c1 h2, CR.ext h vs c2 h3⟩
theorem CV.ext (h : Ext ρ w ρ' w') : ∀ (vs : List VV) (cs : List Value), CV ρ w vs cs → CV ρ' w' vs cs
  | [], _, hc => by simpa only [CV] using hc
  | v :: vs, cs, hc => by
    simp only [CV] at hc ⊢
    obtain ⟨c1, c2, h1, h2, h3, h4⟩ := hc
    exact ⟨c1, c2, h1, h2, C1.ext h v [c1] h3, CV.ext h vs c2 h4⟩
end
theorem VR1.ext (h : Ext ρ w ρ' w') (v : VV) (x : Value) (hc : VR1 ρ w v x) : VR1 ρ' w' v x := by
  cases v with
  | agg vs => obtain ⟨cs, h1, h2⟩ := hc; exact ⟨cs, h1, CR.ext h vs _ h2⟩
  | any => trivial
  | _ => exact C1.ext h _ _ hc
theorem VRs.ext (h : Ext ρ w ρ' w') : ∀ (vs : List VV) (xs : List Value), VRs ρ w vs xs → VRs ρ' w' vs xs
  | [], _, hc => hc
  | v :: vs, xs, hc => by
    obtain ⟨x, ys, h1, h2, h3⟩ := hc
    exact ⟨x, ys, h1, VR1.ext h v x h2, VRs.ext h vs ys h3⟩
theorem VR.ext (h : Ext ρ w ρ' w') (v : VV) (x : Value) (hc : VR ρ w v x) : VR ρ' w' v x := by
  cases v with
  | tup vs => obtain ⟨cs, h1, h2⟩ := hc; exact ⟨cs, h1, VRs.ext h vs _ h2⟩
  | _ => simp only [VR] at hc ⊢; exact VR1.ext h _ _ hc
end

/-! ### cells of a shape -/
section
variable {ρ : Names} {w : World}
theorem leaf_one {v : VV} {cs : List Value} (hl : v.leaf = true) (h : C1 ρ w v cs) : ∃ x, cs = [x] := by
  cases v with
  | agg _ | tup _ | vec _ _ | any => simp [VV.leaf] at hl
  | sl p n => cases p with
    | none => simp only [C1] at h; exact ⟨_, h.2⟩
    | some q => obtain ⟨m, p, i⟩ := q; simp only [C1] at h; rcases h with ⟨_, A, h⟩ | ⟨l, c, e, k, _, h, _⟩; exact ⟨_, h⟩; exact ⟨_, h⟩
  | ptr m p => simp only [C1] at h; obtain ⟨l, _, h⟩ := h; exact ⟨_, h⟩
  | fn f c => simp only [C1] at h; obtain ⟨l, h, _⟩ := h; exact ⟨_, h⟩
  | map m => simp only [C1] at h; obtain ⟨l, _, h⟩ := h; exact ⟨_, h⟩
  | dat s e => simp only [C1] at h; obtain ⟨A, c, h, _⟩ := h; exact ⟨_, h⟩
  | pd s e => simp only [C1] at h; obtain ⟨b, o, c, h, _⟩ := h; exact ⟨_, h⟩
  | _ => simp only [C1] at h; exact ⟨_, h⟩
mutual
theorem Has.len : ∀ (s : Sh) (v : VV) (cs : List Value), Has s v → C1 ρ w v cs → cs.length = s.size
  | .cell, v, cs, h, hc => by
    simp only [Has] at h
    obtain ⟨x, rfl⟩ := leaf_one h hc
    simp [Sh.size]
  | .st ls, .agg vs, cs, h, hc => by
    simp only [Has] at h
    simp only [C1] at hc
    simp only [Sh.size]
    exact HasL.len ls vs cs h hc
  | .arr n s, .agg vs, cs, h, hc => by
    simp only [Has] at h
    simp only [C1] at hc
    obtain ⟨rfl, h⟩ := h
    simp only [Sh.size]
    induction vs generalizing cs with
    | nil => simp only [CR] at hc; simp [hc]
    | cons v vs ih =>
      simp only [CR] at hc
      obtain ⟨c1, c2, rfl, h1, h2⟩ := hc
      have e1 := Has.len s v c1 (h v (by simp)) h1
      have e2 := ih c2 h2 (fun u hu => h u (by simp [hu]))
      rw [List.length_append, e1, e2, List.length_cons, Nat.add_mul]
      omega
  | .st _, .int _ _, _, h, _ | .st _, .bool _, _, h, _ | .st _, .str _, _, h, _ | .st _, .tup _, _, h, _ | .st _, .sl _ _, _, h, _ | .st _, .ptr _ _, _, h, _ | .st _, .fn _ _, _, h, _
  | .st _, .map _, _, h, _ | .st _, .dat _ _, _, h, _ | .st _, .pd _ _, _, h, _ | .st _, .vec _ _, _, h, _ | .st _, .any, _, h, _ | .st _, .raw _, _, h, _ => by simp [Has] at h
  | .arr _ _, .int _ _, _, h, _ | .arr _ _, .bool _, _, h, _ | .arr _ _, .str _, _, h, _ | .arr _ _, .tup _, _, h, _ | .arr _ _, .sl _ _, _, h, _ | .arr _ _, .ptr _ _, _, h, _ | .arr _ _, .fn _ _, _, h, _
  | .arr _ _, .map _, _, h, _ | .arr _ _, .dat _ _, _, h, _ | .arr _ _, .pd _ _, _, h, _ | .arr _ _, .vec _ _, _, h, _ | .arr _ _, .any, _, h, _ | .arr _ _, .raw _, _, h, _ => by simp [Has] at h
theorem HasL.len : ∀ (ls : List Sh) (vs : List VV) (cs : List Value), HasL ls vs → CR ρ w vs cs → cs.length = Sh.sizes ls
  | [], vs, cs, h, hc => by
    simp only [HasL] at h
    subst h
    simp only [CR] at hc
    simp [hc, Sh.sizes]
  | s :: ls, v :: vs, cs, h, hc => by
    simp only [HasL] at h
    simp only [CR] at hc
    obtain ⟨c1, c2, rfl, h1, h2⟩ := hc
    rw [List.length_append, Has.len s v c1 h.1 h1, HasL.len ls vs c2 h.2 h2]
    simp [Sh.sizes]
  | _ :: _, [], _, h, _ => by simp [HasL] at h
end
end

section
variable {ρ : Names} {w : World}
theorem Sh.sizes_append : ∀ (a b : List Sh), Sh.sizes (a ++ b) = Sh.sizes a + Sh.sizes b
  | [], b => by simp [Sh.sizes]
  | s :: a, b => by simp [Sh.sizes, Sh.sizes_append a b]; omega
theorem CR.split : ∀ (a : List VV) (b : List VV) (cs : List Value), CR ρ w (a ++ b) cs → ∃ c1 c2, cs = c1 ++ c2 ∧ CR ρ w a c1 ∧ CR ρ w b c2
  | [], b, cs, h => ⟨[], cs, rfl, by simp only [CR], h⟩
  | v :: a, b, cs, h => by
    rw [List.cons_append] at h
    simp only [CR] at h
    obtain ⟨c1, c2, rfl, h1, h2⟩ := h
    obtain ⟨d1, d2, rfl, h3, h4⟩ := CR.split a b c2 h2
    exact ⟨c1 ++ d1, d2, by simp, by simp only [CR]; exact ⟨c1, d1, rfl, h1, h3⟩, h4⟩
theorem CR.join : ∀ (a : List VV) (b : List VV) (c1 c2 : List Value), CR ρ w a c1 → CR ρ w b c2 → CR ρ w (a ++ b) (c1 ++ c2)
  | [], b, c1, c2, h, h' => by
    simp only [CR] at h
    subst h
    exact h'
  | v :: a, b, c1, c2, h, h' => by
    simp only [CR] at h
    obtain ⟨d1, d2, rfl, h1, h2⟩ := h
    rw [List.cons_append]
    simp only [CR]
    exact ⟨d1, d2 ++ c2, by simp, h1, CR.join a b d2 c2 h2 h'⟩
theorem CR.one {v : VV} {cs : List Value} (h : C1 ρ w v cs) : CR ρ w [v] cs := by
  simp only [CR]
  exact ⟨cs, [], by simp, h, rfl⟩
theorem HasL.take : ∀ (ls : List Sh) (vs : List VV) (i : Nat), HasL ls vs → HasL (ls.take i) (vs.take i)
  | _, _, 0, _ => by simp [HasL]
  | [], vs, i + 1, h => by simp only [HasL] at h; subst h; simp [HasL]
  | s :: ls, v :: vs, i + 1, h => by
    simp only [HasL] at h
    simp only [List.take_succ_cons,HasL]
    exact ⟨h.1, HasL.take ls vs i h.2⟩
  | _ :: _, [], _ + 1, h => by simp [HasL] at h
theorem HasL.nth : ∀ (ls : List Sh) (vs : List VV) (i : Nat) (u : VV), HasL ls vs → vs[i]? = some u → ∃ s, ls[i]? = some s ∧ Has s u
  | [], vs, i, u, h, hu => by simp only [HasL] at h; subst h; simp at hu
  | s :: ls, v :: vs, 0, u, h, hu => by
    simp only [HasL] at h
    simp at hu
    subst hu
    exact ⟨s, by simp, h.1⟩
  | s :: ls, v :: vs, i + 1, u, h, hu => by
    simp only [HasL] at h
    simp at hu
    obtain ⟨s', h1, h2⟩ := HasL.nth ls vs i u h.2 hu
    exact ⟨s', by simpa using h1, h2⟩
  | _ :: _, [], _, _, h, _ => by simp [HasL] at h
theorem HasL.put : ∀ (ls : List Sh) (vs : List VV) (i : Nat) (s : Sh) (u : VV), HasL ls vs → ls[i]? = some s → Has s u → HasL ls (vs.set i u)
  | [], _, _, _, _, _, hs, _ => by simp at hs
  | s :: ls, v :: vs, 0, s', u, h, hs, hu => by
    simp only [HasL] at h
    simp at hs
    subst hs
    simp only [List.set_cons_zero,HasL]
    exact ⟨hu, h.2⟩
  | s :: ls, v :: vs, i + 1, s', u, h, hs, hu => by
    simp only [HasL] at h
    simp only [List.set_cons_succ,HasL]
    exact ⟨h.1, HasL.put ls vs i s' u h.2 (by simpa using hs) hu⟩
  | _ :: _, [], _, _, _, h, _, _ => by simp [HasL] at h
theorem split_at {α : Type} {vs : List α} {i : Nat} {u : α} (h : vs[i]? = some u) : vs = vs.take i ++ u :: vs.drop (i + 1) := by
  obtain ⟨hi, rfl⟩ := List.getElem?_eq_some_iff.1 h
  simp
theorem set_at {α : Type} {vs : List α} {i : Nat} {u : α} (h : vs[i]? = some u) (u' : α) : vs.set i u' = vs.take i ++ u' :: vs.drop (i + 1) := by
  obtain ⟨hi, rfl⟩ := List.getElem?_eq_some_iff.1 h
  exact List.set_eq_take_append_cons_drop.trans (by simp [hi])
theorem HasA.len {s : Sh} : ∀ (vs : List VV) (cs : List Value), (∀ v ∈ vs, Has s v) → CR ρ w vs cs → cs.length = vs.length * s.size
  | [], cs, _, h => by simp only [CR] at h; simp [h]
  | v :: vs, cs, h, hc => by
    simp only [CR] at hc
    obtain ⟨c1, c2, rfl, h1, h2⟩ := hc
    rw [List.length_append, Has.len s v c1 (h v (by simp)) h1, HasA.len vs c2 (fun u hu => h u (by simp [hu])) h2, List.length_cons, Nat.add_mul]
    omega
/-- a part of a value, and the value with another part -/
theorem focus : ∀ (p : List Nat) (s : Sh) (v u : VV) (cs : List Value), Has s v → v.get p = some u → C1 ρ w v cs →
    ∃ su pre mid post, s.at p = some su ∧ Has su u ∧ cs = pre ++ mid ++ post ∧ pre.length = s.off p ∧ C1 ρ w u mid ∧
      (∀ u', Has su u' → Has s (v.set p u')) ∧ ∀ ρ' w' u' mid', Ext ρ w ρ' w' → C1 ρ' w' u' mid' → C1 ρ' w' (v.set p u') (pre ++ mid' ++ post)
  | [], s, v, u, cs, hs, hg, hc => by
    simp only [VV.get,Option.some.injEq] at hg
    subst hg
    exact ⟨s, [], cs, [], by simp [Sh.at], hs, by simp, by simp [Sh.off], hc, fun u' hu' => by simpa [VV.set] using hu', fun ρ' w' u' mid' _ hu' => by simpa [VV.set] using hu'⟩
  | i :: p, s, v, u, cs, hs, hg, hc => by
    cases v with
    | agg vs =>
      simp only [VV.get] at hg
      cases hi : vs[i]? with
      | none => simp [hi] at hg
      | some x =>
        simp only [hi] at hg
        simp only [C1] at hc
        have hsp := split_at hi
        rw [hsp] at hc
        obtain ⟨c1, c2, rfl, g1, g2⟩ := CR.split _ _ _ hc
        simp only [CR] at g2
        obtain ⟨c3, c4, rfl, g3, g4⟩ := g2
        have key : ∀ (sx : Sh), Has sx x → (∀ x', Has sx x' → Has s (.agg (vs.set i x'))) → s.at (i :: p) = sx.at p → s.off (i :: p) = c1.length + sx.off p →
            ∃ su pre mid post, s.at (i :: p) = some su ∧ Has su u ∧ c1 ++ (c3 ++ c4) = pre ++ mid ++ post ∧ pre.length = s.off (i :: p) ∧ C1 ρ w u mid ∧
            (∀ u', Has su u' → Has s ((VV.agg vs).set (i :: p) u')) ∧ ∀ ρ' w' u' mid', Ext ρ w ρ' w' → C1 ρ' w' u' mid' → C1 ρ' w' ((VV.agg vs).set (i :: p) u') (pre ++ mid' ++ post) := by
          intro sx hx hset hat hoff
          obtain ⟨su, pre, mid, post, k1, k2, rfl, k4, k5, k6, k7⟩ := focus p sx x u c3 hx hg g3
          refine ⟨su, c1 ++ pre, mid, post ++ c4, by rw [hat]; exact k1, k2, by simp, by rw [hoff, List.length_append, k4], k5, fun u' hu' => ?_, fun ρ' w' u' mid' he hu' => ?_⟩
          · simp only [VV.set,hi]
            exact hset _ (k6 u' hu')
          · simp only [VV.set,hi,C1]
            rw [set_at hi]
            have e1 := k7 ρ' w' u' mid' he hu'
            have e2 : CR ρ' w' (x.set p u' :: vs.drop (i + 1)) ((pre ++ mid' ++ post) ++ c4) := by
              simp only [CR]
              exact ⟨_, _, rfl, e1, CR.ext he _ _ g4⟩
            have e3 := CR.join _ _ _ _ (CR.ext he _ _ g1) e2
            have e4 : c1 ++ pre ++ mid' ++ (post ++ c4) = c1 ++ ((pre ++ mid' ++ post) ++ c4) := by simp
            rw [e4]
            exact e3
        cases s with
        | cell => simp [Has, VV.leaf] at hs
        | st ls =>
          simp only [Has] at hs
          obtain ⟨sx, hsx, hx⟩ := HasL.nth ls vs i x hs hi
          refine key sx hx (fun x' hx' => by simp only [Has]; exact HasL.put ls vs i sx x' hs hsx hx') (by simp [Sh.at, hsx]) ?_
          simp only [Sh.off,hsx]
          rw [HasL.len (ls.take i) (vs.take i) c1 (HasL.take ls vs i hs) g1]
        | arr n sx =>
          simp only [Has] at hs
          obtain ⟨hn, hall⟩ := hs
          have hx : Has sx x := hall x (List.mem_of_getElem? hi)
          refine key sx hx (fun x' hx' => ?_) (by simp [Sh.at]) ?_
          · simp only [Has]
            refine ⟨by simpa using hn, fun v hv => ?_⟩
            rcases List.mem_or_eq_of_mem_set hv with h | h
            · exact hall v h
            · rw [h]; exact hx'
          · simp only [Sh.off]
            have := HasA.len (ρ := ρ) (w := w) (s := sx) (vs.take i) c1 (fun v hv => hall v (List.mem_of_mem_take hv)) g1
            have hil : i < vs.length := (List.getElem?_eq_some_iff.1 hi).1
            rw [this, List.length_take, Nat.min_eq_left (by omega)]
    | _ => simp [VV.get] at hg
end
end Go.Proofs.Ytndbfphmjmhkjaa.V
