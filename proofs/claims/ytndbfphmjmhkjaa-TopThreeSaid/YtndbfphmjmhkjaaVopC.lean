/-
  A MACHINE OF VALUES, FIFTH PART: fields, places, numbers, calls.
-/
import Derived.Test.YtndbfphmjmhkjaaVopB
set_option linter.unusedVariables false
set_option linter.unusedSectionVars false
set_option linter.unusedSimpArgs false
namespace Go.Proofs.Ytndbfphmjmhkjaa.V
open Go Go.RowKit

theorem at_append : ∀ (p : List Nat) (s st : Sh) (q : List Nat), s.at p = some st → s.at (p ++ q) = st.at q ∧ s.off (p ++ q) = s.off p + st.off q
  | [], s, st, q, h => by
    simp only [Sh.at,Option.some.injEq] at h
    subst h
    simp [Sh.off]
  | i :: p, s, st, q, h => by
    cases s with
    | cell => simp [Sh.at] at h
    | st ls =>
      simp only [Sh.at] at h
      cases hi : ls[i]? with
      | none => simp [hi] at h
      | some s' =>
        simp only [hi] at h
        obtain ⟨h1, h2⟩ := at_append p s' st q h
        simp only [List.cons_append,Sh.at,Sh.off,hi,h1,h2]
        exact ⟨trivial, (Nat.add_assoc _ _ _).symm⟩
    | arr k s' =>
      simp only [Sh.at] at h
      obtain ⟨h1, h2⟩ := at_append p s' st q h
      simp only [List.cons_append,Sh.at,Sh.off,h1,h2]
      exact ⟨trivial, (Nat.add_assoc _ _ _).symm⟩
section
variable {P : Program} {Z : Nat → Nat → Prop} [Zone Z] {B : Nat} {ρ : Names} {w : World} {H : Heap} {n : Nat} {tm : Nat → VV} {a : Act} {K : VV → Heap → Nat → Prop} {o : Oper}
theorem part_run {t : TypeId} {k : Nat} {s : Sh} {u : VV} {cs : Array Value} {pre mid post : List Value} (ht : shOf P k t = some s) (hs : Has s u) (hc : C1 ρ w u mid) (he : cs.toList = pre ++ mid ++ post) :
    ∃ x, (part t cs pre.length).run P w = .ok x w ∧ VR ρ w u x := by
  obtain ⟨i, d, hi, hu, hsz, hrow⟩ := shOf_spec ht
  have hlen := Has.len s u mid hs hc
  rcases part_value hs hc with ⟨rfl, x, rfl, hv⟩ | ⟨hne, hv⟩
  · refine ⟨x, ?_, hv⟩
    have hd : d.isRow = false := by
      cases hd : d.isRow with
      | false => rfl
      | true => exact absurd rfl (hrow.1 hd)
    have hagg : (isAgg t).run P w = .ok false w := by
      unfold isAgg
      rw [Sem.run_bind, run_underlying hu w]
      cases d <;> simp_all
    have h0 : cs[pre.length]? = some x := by
      rw [← Array.getElem?_toList, he, List.append_assoc, List.getElem?_append_right (Nat.le_refl _)]
      simp
    simp only [part,Sem.run_bind,hagg,Result.andThen_ok,Bool.false_eq_true,if_false,h0]
    rfl
  · refine ⟨_, ?_, hv⟩
    have hagg : (isAgg t).run P w = .ok true w := by
      unfold isAgg
      rw [Sem.run_bind, run_underlying hu w]
      have := hrow.2 hne
      cases d <;> simp_all
    have hext : cs.extract pre.length (pre.length + i.size) = mid.toArray := by
      apply Array.ext'
      rw [Array.toList_extract, he, List.append_assoc, List.extract_eq_take_drop]
      simp only [List.drop_left]
      rw [show pre.length + i.size - pre.length = mid.length by omega, List.take_left]
    simp [part, Sem.run_bind, hagg, sizeOf, typeInfo, hi, hext]
theorem field_sound (hT : TM ρ w tm a) (hh : HR Z B ρ H n w) (t : TypeId) (x : Operand) (f : Nat) (ho : o.op = .field t x f) (h : vField P (ev tm) H n K t x f) : Runs P Z B K ρ w (execOp a.eval o) := by
  unfold vField onV at h
  dsimp only at h
  have hx := ev_sound hT x
  split at h
  · rename_i vs e
    rw [e] at hx
    obtain ⟨cs, hp, hcr⟩ := hx.agg
    obtain ⟨s, hs, hhas, h⟩ := bnd_iff.1 h
    split at h
    · rename_i ls
      obtain ⟨u, hu, h⟩ := bnd_iff.1 h
      obtain ⟨fs, h1, h2, h3⟩ := SH_struct hs
      obtain ⟨su, pre, mid, post, k1, k2, k3, k4, k5, _, _⟩ := focus [f] (.st ls) (.agg vs) u cs.toList hhas (by simp [VV.get, hu]) (by simp only [C1]; exact hcr)
      simp only [Sh.at] at k1
      cases hl : ls[f]? with
      | none => simp [hl] at k1
      | some sf =>
        simp only [hl,Option.some.injEq] at k1
        subst k1
        obtain ⟨g, g1, g2, g3⟩ := h3 f sf hl
        simp only [Sh.off,hl,Nat.add_zero] at k4
        obtain ⟨y, y1, y2⟩ := part_run (P := P) g3 k2 k5 k3
        refine runs_value (x := y) ?_ h y2 hh
        simp only [execOp,ho,hp,Instr.field,Sem.run_bind,run_underlying h1 w,Result.andThen_ok,g1,asAgg,Sem.run_pure]
        rw [g2, ← k4, y1]
        rfl
    · exact h.elim
  · exact h.elim
theorem fieldAddr_sound (hT : TM ρ w tm a) (hh : HR Z B ρ H n w) (t : TypeId) (x : Operand) (f : Nat) (ho : o.op = .fieldAddr t x f) (h : vFieldAddr P (ev tm) H n K t x f) : Runs P Z B K ρ w (execOp a.eval o) := by
  unfold vFieldAddr onV at h
  dsimp only at h
  have hx := ev_sound hT x
  have key : ∀ (ls : List Sh) (sf : Sh) (b g : Nat), SH P t = some (.st ls) → ls[f]? = some sf → sf.size ≠ 0 → a.eval x = .pointer (some ⟨b, g, none⟩) →
      (execOp a.eval o).run P w = .ok (.value (.pointer (some ⟨b, g + Sh.sizes (ls.take f), none⟩))) w := by
    intro ls sf b g hs hl hne hp
    obtain ⟨fs, h1, h2, h3⟩ := SH_struct hs
    obtain ⟨fd, g1, g2, g3⟩ := h3 f sf hl
    obtain ⟨i, d, hi, hu, hsz, hrow⟩ := shOf_spec g3
    have : ¬ i.size = 0 := by omega
    simp only [execOp,ho,hp,Instr.fieldAt,Sem.run_bind,run_underlying h1 w,Result.andThen_ok,g1,Instr.sureAddr,Sem.run_pure,fieldPlace,sizeOf,typeInfo]
    simp [hi, this, g2, Addr.add_mid]
  split at h
  · rename_i m p e
    rw [e] at hx
    obtain ⟨l, hl, hp⟩ := hx.ptr
    obtain ⟨blk, hb, h⟩ := bnd_iff.1 h
    split at h
    · rename_i s c
      obtain ⟨st, hst, hat, h⟩ := bnd_iff.1 h
      split at h
      · rename_i ls
        obtain ⟨sf, hsf, hne, h⟩ := bnd_iff.1 h
        have hrow := hh.row m s c l hb hl
        refine runs_value (key ls sf _ _ hst hsf hne hp) h ?_ hh
        simp only [VR,VR1,C1]
        refine ⟨l, hl, ?_⟩
        rw [hrow.sh, (at_append p s (.st ls) [f] hat).2]
        simp [Sh.off, hsf, Nat.add_assoc]
      · exact h.elim
    · exact h.elim
  · rename_i s vs e
    rw [e] at hx
    obtain ⟨b, g, ecs, hp, g1, g2, g3, g4, g5⟩ := hx.pd
    replace h := bnd_iff.1 h
    obtain ⟨st, hst, hat, h⟩ := h
    cases st with
    | st ls =>
      subst hat
      replace h := bnd_iff.1 h
      obtain ⟨sf, hsf, hne, h⟩ := h
      replace h := bnd_iff.1 h
      obtain ⟨u, hu, h⟩ := h
      refine runs_value (key ls sf _ _ hst hsf hne hp) h ?_ hh
      obtain ⟨su, pre, mid, post, k1, k2, rfl, k4, k5, _, _⟩ := focus [f] (.st ls) (.agg vs) u ecs g2 (by simp [VV.get, hu]) g1
      simp only [Sh.at,hsf,Option.some.injEq] at k1
      subst k1
      simp only [Sh.off,hsf,Nat.add_zero] at k4
      simp only [VR,VR1,C1]
      exact ⟨b, _, mid, rfl, k5, k2, by rw [← k4]; exact range_part g3, g4, g5⟩
    | cell => exact h.elim
    | arr _ _ => exact h.elim
  · exact h.elim
theorem VR.sl {m i k : Nat} {p : List Nat} {x : Value} (h : VR ρ w (.sl (some (m, p, i)) k) x) : (k = 0 ∧ ∃ A, x = .slice A 0 0) ∨ ∃ l c e j, ρ m = some l ∧ x = .slice (some ⟨l.block, l.base + l.sh.off (p ++ [i]), none⟩) k c ∧ k ≤ c ∧
      l.sh.at p = some (.arr j e) ∧ l.sh.off (p ++ [i]) + c * e.size ≤ l.room := by
  simp only [VR,VR1,C1] at h
  rcases h with ⟨h2, A, h3⟩ | ⟨l, c, e, j, h1, h2, h3⟩
  · exact .inl ⟨h2, A, by simpa using h3⟩
  · exact .inr ⟨l, c, e, j, h1, by simpa using h2, h3⟩
theorem VR.dat {s : Sh} {els : List VV} {x : Value} (h : VR ρ w (.dat s els) x) : ∃ A c, x = .slice A els.length c ∧ els.length ≤ c ∧ (els ≠ [] → ∃ b o ecs, A = some ⟨b, o, none⟩ ∧ CR ρ w els ecs ∧ (∀ e ∈ els, Has s e) ∧
      w.rangeAt b o ecs ∧ Unnamed ρ b ∧ b < w.heap.size) := by
  simp only [VR,VR1,C1] at h
  obtain ⟨A, c, h1, h2⟩ := h
  exact ⟨A, c, by simpa using h1, h2⟩
theorem arr_part {s : Sh} {els : List VV} {ecs : List Value} {k : Nat} {u : VV} (h : CR ρ w els ecs) (hs : ∀ e ∈ els, Has s e) (hu : els[k]? = some u) :
    ∃ pre mid post, ecs = pre ++ mid ++ post ∧ pre.length = k * s.size ∧ C1 ρ w u mid ∧ Has s u := by
  obtain ⟨su, pre, mid, post, k1, k2, k3, k4, k5, _, _⟩ := focus [k] (.arr els.length s) (.agg els) u ecs (by simp only [Has,true_and]; exact hs) (by simp [VV.get, hu]) (by simp only [C1]; exact h)
  simp only [Sh.at,Option.some.injEq] at k1
  subst k1
  exact ⟨pre, mid, post, k3, by simpa [Sh.off] using k4, k5, k2⟩
theorem indexAddr_sound (hT : TM ρ w tm a) (hh : HR Z B ρ H n w) (t : TypeId) (x i : Operand) (ho : o.op = .indexAddr t x i) (h : vIndexAddr P (ev tm) H n K t x i) : Runs P Z B K ρ w (execOp a.eval o) := by
  unfold vIndexAddr onV at h
  dsimp only at h
  have hx := ev_sound hT x
  have hi := ev_sound hT i
  have keyS : ∀ (et : TypeId) (se : Sh) (b g len c : Nat) (kk : IntKind) (k : Int), EL P t = some et → SH P et = some se → a.eval x = .slice (some ⟨b, g, none⟩) len c → a.eval i = .int kk k → 0 ≤ k ∧ k < len →
      (execOp a.eval o).run P w = .ok (.value (.pointer (some ⟨b, g + k.toNat * se.size, none⟩))) w := by
    intro et se b g len c kk k h1 h2 h3 h4 h5
    obtain ⟨inf, d, hinf, hu, hsz, hrow⟩ := shOf_spec h2
    have hul := EL_spec h1
    simp only [execOp,ho,h3,h4,Instr.indexAt,Sem.run_bind,run_underlying hul w,Result.andThen_ok,asIntOf,Sem.run_pure]
    simp [h5, sizeOf, typeInfo, hinf, hsz, Addr.add_mid]
  have keyA : ∀ (len : Nat) (se : Sh) (b g : Nat) (kk : IntKind) (k : Int), SH P t = some (.arr len se) → a.eval x = .pointer (some ⟨b, g, none⟩) → a.eval i = .int kk k → 0 ≤ k ∧ k < len →
      (execOp a.eval o).run P w = .ok (.value (.pointer (some ⟨b, g + k.toNat * se.size, none⟩))) w := by
    intro len se b g kk k h1 h3 h4 h5
    obtain ⟨e, hul, hse⟩ := SH_array h1
    obtain ⟨inf, d, hinf, hu, hsz, hrow⟩ := shOf_spec hse
    simp only [execOp,ho,h3,h4,Instr.indexAt,Sem.run_bind,run_underlying hul w,Result.andThen_ok,asIntOf,Sem.run_pure,Instr.sureAddr]
    simp [h5, sizeOf, typeInfo, hinf, hsz, Addr.add_mid]
  split at h
  · rename_i m p i0 len kk k e1 e2
    rw [e1] at hx
    rw [e2] at hi
    have hi := hi.int
    obtain ⟨blk, hb, h⟩ := bnd_iff.1 h
    split at h
    · rename_i s c
      obtain ⟨et, het, h⟩ := bnd_iff.1 h
      obtain ⟨se, hse, h⟩ := bnd_iff.1 h
      obtain ⟨sa, hsa, h⟩ := bnd_iff.1 h
      split at h
      · rename_i j s'
        obtain ⟨rfl, hk, h⟩ := h
        rcases hx.sl with ⟨h0, _⟩ | ⟨l, cap, e, j', hl, hp, hcap, hate, hroom⟩
        · omega
        · have hrow := hh.row m s c l hb hl
          refine runs_value (keyS et s' _ _ len cap kk k het hse hp hi hk) h ?_ hh
          simp only [VR,VR1,C1]
          refine ⟨l, hl, ?_⟩
          rw [hrow.sh, (at_append p s (.arr j s') [i0 + k.toNat] hsa).2, (at_append p s (.arr j s') [i0] hsa).2]
          simp only [Sh.off,Nat.add_zero,Nat.add_mul]
          rw [Nat.add_assoc, Nat.add_assoc]
      · exact h.elim
    · exact h.elim
  · rename_i s els kk k e1 e2
    rw [e1] at hx
    rw [e2] at hi
    have hi := hi.int
    obtain ⟨et, het, h⟩ := bnd_iff.1 h
    obtain ⟨se, hse, h⟩ := bnd_iff.1 h
    obtain ⟨rfl, hk, h⟩ := h
    obtain ⟨u, hu, h⟩ := bnd_iff.1 h
    obtain ⟨A, c, hp, hc, hne⟩ := hx.dat
    obtain ⟨b, g, ecs, rfl, g1, g2, g3, g4, g5⟩ := hne (by intro e; rw [e] at hu; simp at hu)
    refine runs_value (keyS et s _ _ _ c kk k het hse hp hi hk) h ?_ hh
    obtain ⟨pre, mid, post, rfl, k4, k5, k2⟩ := arr_part g1 g2 hu
    simp only [VR,VR1,C1]
    exact ⟨b, _, mid, rfl, k5, k2, by rw [← k4]; exact range_part g3, g4, g5⟩
  · rename_i m p kk k e1 e2
    rw [e1] at hx
    rw [e2] at hi
    have hi := hi.int
    obtain ⟨l, hl, hp⟩ := hx.ptr
    obtain ⟨blk, hb, h⟩ := bnd_iff.1 h
    split at h
    · rename_i s c
      obtain ⟨st, hst, hat, h⟩ := bnd_iff.1 h
      split at h
      · rename_i len s'
        obtain ⟨hk, h⟩ := h
        have hrow := hh.row m s c l hb hl
        refine runs_value (keyA len s' _ _ kk k hst hp hi hk) h ?_ hh
        simp only [VR,VR1,C1]
        refine ⟨l, hl, ?_⟩
        rw [hrow.sh, (at_append p s (.arr len s') [k.toNat] hat).2]
        simp only [Sh.off,Nat.add_zero,Nat.add_assoc]
      · exact h.elim
    · exact h.elim
  · rename_i s vs kk k e1 e2
    rw [e1] at hx
    rw [e2] at hi
    have hi := hi.int
    obtain ⟨b, g, ecs, hp, g1, g2, g3, g4, g5⟩ := hx.pd
    replace h := bnd_iff.1 h
    obtain ⟨st, hst, hat, h⟩ := h
    cases st with
    | arr len s' =>
      subst hat
      obtain ⟨hk, h⟩ := h
      replace h := bnd_iff.1 h
      obtain ⟨u, hu, h⟩ := h
      refine runs_value (keyA len s' _ _ kk k hst hp hi hk) h ?_ hh
      simp only [Has] at g2
      simp only [C1] at g1
      obtain ⟨pre, mid, post, rfl, k4, k5, k2⟩ := arr_part g1 g2.2 hu
      simp only [VR,VR1,C1]
      exact ⟨b, _, mid, rfl, k5, k2, by rw [← k4]; exact range_part g3, g4, g5⟩
    | cell => exact h.elim
    | st _ => exact h.elim
  · exact h.elim
end
end Go.Proofs.Ytndbfphmjmhkjaa.V
