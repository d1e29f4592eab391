/-
  A MACHINE OF VALUES, EIGHTH PART: slices: literals, made, cut, grown.
-/
import Derived.Test.YtndbfphmjmhkjaaVopE
import Derived.Deep.AppendSrc
set_option linter.unusedVariables false
set_option linter.unusedSectionVars false
set_option linter.unusedSimpArgs false
namespace Go.Proofs.Ytndbfphmjmhkjaa.V
open Go Go.RowKit

/-! ### many zero values -/
theorem zeros_flat (z : Array Value) : ∀ (c : Nat), ((Array.range (c * z.size)).map (fun j => z[j % z.size]!)).toList = (List.replicate c z.toList).flatten := by
  intro c
  induction c with
  | zero => simp
  | succ c ih =>
    rw [List.replicate_succ', List.flatten_append, ← ih]
    simp only [Array.toList_map,Array.toList_range,List.flatten_cons,List.flatten_nil,List.append_nil]
    rw [Nat.succ_mul, List.range_add, List.map_append, List.map_map]
    congr 1
    apply List.ext_getElem (by simp)
    intro i h1 h2
    simp only [List.getElem_map,List.getElem_range,Function.comp_apply]
    have hi : i < z.size := by simpa using h2
    rw [Nat.mul_add_mod_self_right, Nat.mod_eq_of_lt hi]
    simp [hi]
section
variable {P : Program} {Z : Nat → Nat → Prop} [Zone Z] {B : Nat} {ρ : Names} {w : World} {H : Heap} {n : Nat} {tm : Nat → VV} {a : Act} {K : VV → Heap → Nat → Prop} {o : Oper}
theorem CR.zeros {z : VV} {zc : List Value} (h : C1 ρ w z zc) : ∀ (c : Nat), CR ρ w (List.replicate c z) (List.replicate c zc).flatten
  | 0 => by simp only [CR,List.replicate_zero,List.flatten_nil]
  | c + 1 => by
    simp only [List.replicate_succ,List.flatten_cons,CR]
    exact ⟨_, _, rfl, h, CR.zeros h c⟩
theorem buildSlice_sound (hT : TM ρ w tm a) (hh : HR Z B ρ H n w) (hG : Gives Z n K) (t : TypeId) (len : Nat) (parts : Array (Nat × Operand)) (ho : o.op = .buildSlice t len parts) (h : vBuildSlice P (ev tm) H n K t len parts.toList) : Runs P Z B K ρ w (execOp a.eval o) := by
  unfold vBuildSlice at h
  replace h := bnd_iff.1 h
  obtain ⟨et, het, h⟩ := h
  replace h := bnd_iff.1 h
  obtain ⟨s, hs, h⟩ := h
  replace h := bnd_iff.1 h
  obtain ⟨z, hz, ⟨hp, hlim, hs0⟩, h⟩ := h
  obtain ⟨s', zv, i, hs', hi, hzv, hH, hsz, hV⟩ := ZE_spec hz
  rw [hs] at hs'
  injection hs' with hs'
  subst hs'
  have hul := EL_spec het
  obtain ⟨i', d, hi', hu, hisz, hrow⟩ := shOf_spec hs
  rw [hi] at hi'
  injection hi' with hi'
  subst hi'
  have hcells : ((Array.range (len * i.size)).map (fun j => zv.cells[j % zv.cells.size]!)).toList = (List.replicate len zv.cells.toList).flatten := by
    rw [hisz, ← hsz]; exact zeros_flat zv.cells len
  have hz0 := CR.zeros (hV ρ w).2 len
  rw [← hcells] at hz0
  obtain ⟨cells', f1, f2, f3⟩ := fill_parts hT (fun j => some (j * i.size, i.size)) (fun j => if j < len then some s else none) (.arr len s) (by simp) (fun j s' hj => by
      split at hj
      · injection hj with hj
        subst hj
        exact ⟨by simp [Sh.at], by simp [hisz, Sh.off]⟩
      · cases hj) (fun vs hvs j s' hj => by
      simp only [Has] at hvs
      split at hj
      · omega
      · cases hj) parts.toList (List.replicate len z) _ (by simp only [Has]; exact ⟨by simp, fun v hv => by rw [List.eq_of_mem_replicate hv]; exact hH⟩) hz0 hp
  obtain ⟨l, e1, e2, e3, e4, h1, h2, h3⟩ := new_block (s := .arr len s) (v := .agg (setParts (ev tm) parts.toList (List.replicate len z))) (cs := cells'.toList) hh (hG.one h) (t := et) (cells := cells') (tail := []) f2 (by simp only [C1]; exact f3) (by simp)
  refine .inl ⟨.slice (some ⟨w.heap.size, 0, none⟩) len len, _, ?_, _, _, _, _, h, ?_, h1, h2, h3⟩
  · rw [← map_parts parts] at f1
    have hlim' : ¬ (len * i.size > 2 ^ 24) := by rw [hisz]; omega
    simp only [execOp,ho,Instr.buildSlice,Sem.run_bind,run_underlying hul w,Result.andThen_ok,sizeOf,typeInfo,run_program,hi,Sem.run_pure]
    rw [if_neg hlim']
    by_cases h0 : len * i.size = 0
    · have hl0 : len = 0 := by
        rcases Nat.mul_eq_zero.1 h0 with h0 | h0
        · exact h0
        · omega
      subst hl0
      have hr : ∀ f : Nat → Value, (Array.range 0).map f = #[] := fun f => by apply Array.ext'; simp
      simp only [Nat.zero_mul,hr] at f1
      simp only [Nat.zero_mul,if_true,Sem.run_bind,Sem.run_pure,Result.andThen_ok,hr]
      rw [f1]
      simp only [newRow,Sem.run_bind,Sem.run_pure,run_newObj,Result.andThen_ok]
      rfl
    · rw [if_neg h0]
      simp only [Sem.run_bind,zeroValue,typeInfo,run_program,hi,hzv,Sem.run_pure,Result.andThen_ok]
      rw [f1]
      simp only [newRow,Sem.run_bind,Sem.run_pure,run_newObj,Result.andThen_ok]
      rfl
  · simp only [VR,VR1,C1]
    have hlen := HasA.len (ρ := ρ) (w := w) (s := s) _ _ (by simp only [Has] at f2; exact f2.2) f3
    simp only [Has] at f2
    rw [f2.1, Array.length_toList] at hlen
    refine .inr ⟨l, len, s, len, by rw [give_ap, if_pos rfl], by rw [e1, e2, e4]; simp [Sh.off], Nat.le_refl _, by rw [e4]; rfl, ?_⟩
    rw [e4, e3, hlen]
    simp [Sh.off]
theorem makeSlice_sound (hT : TM ρ w tm a) (hh : HR Z B ρ H n w) (hG : Gives Z n K) (t : TypeId) (l c : Operand) (ho : o.op = .makeSlice t l c) (h : vMakeSlice P (ev tm) H n K t l c) : Runs P Z B K ρ w (execOp a.eval o) := by
  unfold vMakeSlice onV at h
  dsimp only at h
  have hl := ev_sound hT l
  have hc := ev_sound hT c
  split at h
  · rename_i k1 i k2 j e1 e2
    rw [e1] at hl
    rw [e2] at hc
    replace h := bnd_iff.1 h
    obtain ⟨et, het, h⟩ := h
    replace h := bnd_iff.1 h
    obtain ⟨s, hs, h⟩ := h
    replace h := bnd_iff.1 h
    obtain ⟨z, hz, ⟨hi0, hij, hj, hby⟩, h⟩ := h
    obtain ⟨s', zv, inf, hs', hi, hzv, hH, hsz, hV⟩ := ZE_spec hz
    rw [hs] at hs'
    injection hs' with hs'
    subst hs'
    have hul := EL_spec het
    obtain ⟨inf', d, hi', hu, hisz, hrow⟩ := shOf_spec hs
    rw [hi] at hi'
    injection hi' with hi'
    subst hi'
    have hcells : ((Array.range (j.toNat * inf.size)).map (fun j => zv.cells[j % zv.cells.size]!)).toList = (List.replicate j.toNat zv.cells.toList).flatten := by
      rw [hisz, ← hsz]; exact zeros_flat zv.cells _
    have hsplit : (List.replicate j.toNat zv.cells.toList).flatten = (List.replicate i.toNat zv.cells.toList).flatten ++ (List.replicate (j.toNat - i.toNat) zv.cells.toList).flatten := by
      rw [← List.flatten_append, List.replicate_append_replicate]
      congr 2
      omega
    have hHas : Has (.arr i.toNat s) (.agg (List.replicate i.toNat z)) := by
      simp only [Has]; exact ⟨by simp, fun v hv => by rw [List.eq_of_mem_replicate hv]; exact hH⟩
    obtain ⟨lo, g1, g2, g3, g4, h1, h2, h3⟩ := new_block (s := .arr i.toNat s) (v := .agg (List.replicate i.toNat z)) hh (hG.one h) (t := et) hHas (by simp only [C1]; exact CR.zeros (hV ρ w).2 i.toNat) (hcells.trans hsplit)
    refine .inl ⟨.slice (some ⟨w.heap.size, 0, none⟩) i.toNat j.toNat, _, ?_, _, _, _, _, h, ?_, h1, h2, h3⟩
    · have hw1 : IntKind.i64.wrap i = i := by simp [IntKind.wrap, IntKind.bits, IntKind.signed]; omega
      have hw2 : IntKind.i64.wrap j = j := by simp [IntKind.wrap, IntKind.bits, IntKind.signed]; omega
      have hbyv : inf.bytes ≤ 200 := by simpa [BY, hi] using hby
      have hbj : (inf.bytes : Int) * j ≤ 2 ^ 48 := by
        have : (inf.bytes : Int) * j ≤ 200 * 1000000000000 := Int.mul_le_mul (by omega) hj (by omega) (by omega)
        omega
      have hf : (decide (j < 0) || decide ((inf.bytes : Int) * j > 2 ^ 48) || decide (i < 0) || decide (i > j)) = false := by
        simp only [Bool.or_eq_false_iff,decide_eq_false_iff_not]
        omega
      have ht : (askRoom (j.toNat * inf.bytes)).run P w = .ok () w := by
        unfold askRoom
        split <;> simp
      simp only [execOp,ho,Instr.makeSlice,hl.int,hc.int,Sem.run_bind,run_underlying hul w,Result.andThen_ok,sizeOf,typeInfo,run_program,hi,Sem.run_pure,asInt,asIntOf,hw1,hw2]
      rw [if_neg (by rw [hf]; simp)]
      simp only [Sem.run_bind,ht,Result.andThen_ok,Sem.run_pure,run_program,hi]
      by_cases h0 : j.toNat * inf.size = 0
      · have hr : ∀ f : Nat → Value, (Array.range 0).map f = #[] := fun f => by apply Array.ext'; simp
        simp only [h0,if_true,Sem.run_bind,Sem.run_pure,Result.andThen_ok,newRow,run_newObj,hr]
        rfl
      · rw [if_neg h0]
        simp only [Sem.run_bind,zeroValue,typeInfo,run_program,hi,hzv,Sem.run_pure,Result.andThen_ok,newRow,run_newObj]
        rfl
    · simp only [VR,VR1,C1]
      refine .inr ⟨lo, j.toNat, s, i.toNat, by rw [give_ap, if_pos rfl], by rw [g1, g2, g4]; simp [Sh.off], by omega, by rw [g4]; rfl, ?_⟩
      rw [g4, g3]
      simp [Sh.off, hisz]
  · exact h.elim
end
end Go.Proofs.Ytndbfphmjmhkjaa.V
