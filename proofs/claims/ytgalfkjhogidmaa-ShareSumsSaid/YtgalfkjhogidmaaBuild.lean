/-
  A SLICE OF ONE ELEMENT THAT FILLS MANY CELLS: what an append of a struct hands on.
-/
import Derived.Great.BuildSlice
import Derived.Test.YtgalfkjhogidmaaOwn
namespace Go.Proofs.Ytgalfkjhogidmaa
open Go.RowKit

/-- a slice of one element that fills so many cells -/
theorem wpList_build_one {P : Program} {ops : Array Oper} {rest : List Oper} {o : Oper} {a : Act} {w : World} {Q : Exit → Act → World → Prop} (hg : o.guard = none) (t : TypeId) (x : Operand)
    (ho : o.op = .buildSlice t 1 #[(0, x)]) {T : TypeId} {z : Value} {sz bytes : Nat} (ht : P.underlying t = some (.slice T)) (hi : (P.info? T).map (fun i => (i.zero, i.size, i.bytes)) = some (some z, sz, bytes))
    (cs : Array Value) (hx : a.eval x = .agg cs) (hc : cs.size = sz) (hsz : 0 < sz) (hsm : sz ≤ 2 ^ 24)
    (h : wpList P ops Q rest (a.put o.dst (.slice (some ⟨w.heap.size, 0, none⟩) 1 1)) (w.alloc (.cells cs T))) : wpList P ops Q (o :: rest) a w := by
  cases hie : P.info? T with
  | none => simp [hie] at hi
  | some ie =>
    simp only [hie, Option.map_some, Option.some.injEq, Prod.mk.injEq] at hi
    obtain ⟨h1, h2, h3⟩ := hi
    refine wpList_buildSlice hg t T 1 _ ho cs ie z ht hie h1 (by omega) (by omega) ?_ h
    have e := Great.fill_whole (s := sz) hsz [a.eval x] ((Array.range (1 * ie.size)).map (z.cells[· % z.cells.size]!)) (by intro v hv; simp at hv; subst hv; rw [hx]; exact hc) (by simp [h2])
    rw [h2] at e ⊢
    have hm : (#[(0, x)].map fun (y : Nat × Operand) => (y.1, a.eval y.2)).toList = (([a.eval x].zipIdx 0).map fun x => (x.2, x.1)) := by simp
    refine (congrArg _ hm).trans (e.trans ?_)
    rw [hx]
    simp [Value.cells]
end Go.Proofs.Ytgalfkjhogidmaa
