/-
  Parts of the proof of StateFlows: VopC, VopD, VopE, VopF, VopG, VopH, VopI.
  Conditions: none.
-/
import Derived.Test.YtlgldkjjbbbapaaWStateFlows01
import Derived.Deep.AppendSrc
import Derived.Deep.Upon
section
/-
  A MACHINE OF VALUES, FIFTH PART: fields, places, numbers, calls.
-/
set_option linter.unusedVariables false
set_option linter.unusedSectionVars false
set_option linter.unusedSimpArgs false
namespace Go.Proofs.Ytlgldkjjbbbapaa.V
open Go Go.RowKit

theorem at_append : ∀ (p : List Nat) (s st : Sh) (q : List Nat), s.at p = some st → s.at (p ++ q) = st.at q ∧ s.off (p ++ q) = s.off p + st.off q
  | [], s, st, q, h => by
    simp only [Sh.at,Option.some.injEq] at h
    subst h
    simp [Sh.off]
  | i :: p, s, st, q, h => by
    cases s with
    | cell => simp [Sh.at] at h
    | st ls =>
      simp only [Sh.at] at h
      cases hi : ls[i]? with
      | none => simp [hi] at h
      | some s' =>
        simp only [hi] at h
        obtain ⟨h1, h2⟩ := at_append p s' st q h
        simp only [List.cons_append,Sh.at,Sh.off,hi,h1,h2]
        exact ⟨trivial, (Nat.add_assoc _ _ _).symm⟩
    | arr k s' =>
      simp only [Sh.at] at h
      obtain ⟨h1, h2⟩ := at_append p s' st q h
      simp only [List.cons_append,Sh.at,Sh.off,h1,h2]
      exact ⟨trivial, (Nat.add_assoc _ _ _).symm⟩
section
variable {P : Program} {Z : Nat → Nat → Prop} [Zone Z] {B : Nat} {ρ : Names} {w : World} {H : Heap} {n : Nat} {tm : Nat → VV} {a : Act} {K : VV → Heap → Nat → Prop} {o : Oper}
theorem part_run {t : TypeId} {k : Nat} {s : Sh} {u : VV} {cs : Array Value} {pre mid post : List Value} (ht : shOf P k t = some s) (hs : Has s u) (hc : C1 ρ w u mid) (he : cs.toList = pre ++ mid ++ post) :
    ∃ x, (part t cs pre.length).run P w = .ok x w ∧ VR ρ w u x := by
  obtain ⟨i, d, hi, hu, hsz, hrow⟩ := shOf_spec ht
  have hlen := Has.len s u mid hs hc
  rcases part_value hs hc with ⟨rfl, x, rfl, hv⟩ | ⟨hne, hv⟩
  · refine ⟨x, ?_, hv⟩
    have hd : d.isRow = false := by
      cases hd : d.isRow with
      | false => rfl
      | true => exact absurd rfl (hrow.1 hd)
    have hagg : (isAgg t).run P w = .ok false w := by
      unfold isAgg
      rw [Sem.run_bind, run_underlying hu w]
      cases d <;> simp_all
    have h0 : cs[pre.length]? = some x := by
      rw [← Array.getElem?_toList, he, List.append_assoc, List.getElem?_append_right (Nat.le_refl _)]
      simp
    simp only [part,Sem.run_bind,hagg,Result.andThen_ok,Bool.false_eq_true,if_false,h0]
    rfl
  · refine ⟨_, ?_, hv⟩
    have hagg : (isAgg t).run P w = .ok true w := by
      unfold isAgg
      rw [Sem.run_bind, run_underlying hu w]
      have := hrow.2 hne
      cases d <;> simp_all
    have hext : cs.extract pre.length (pre.length + i.size) = mid.toArray := by
      apply Array.ext'
      rw [Array.toList_extract, he, List.append_assoc, List.extract_eq_take_drop]
      simp only [List.drop_left]
      rw [show pre.length + i.size - pre.length = mid.length by omega, List.take_left]
    simp [part, Sem.run_bind, hagg, sizeOf, typeInfo, hi, hext]
theorem field_sound (hT : TM ρ w tm a) (hh : HR Z B ρ H n w) (t : TypeId) (x : Operand) (f : Nat) (ho : o.op = .field t x f) (h : vField P (ev tm) H n K t x f) : Runs P Z B K ρ w (execOp a.eval o) := by
  unfold vField onV at h
  dsimp only at h
  have hx := ev_sound hT x
  split at h
  · rename_i vs e
    rw [e] at hx
    obtain ⟨cs, hp, hcr⟩ := hx.agg
    obtain ⟨s, hs, hhas, h⟩ := bnd_iff.1 h
    split at h
    · rename_i ls
      obtain ⟨u, hu, h⟩ := bnd_iff.1 h
      obtain ⟨fs, h1, h2, h3⟩ := SH_struct hs
      obtain ⟨su, pre, mid, post, k1, k2, k3, k4, k5, _, _⟩ := focus [f] (.st ls) (.agg vs) u cs.toList hhas (by simp [VV.get, hu]) (by simp only [C1]; exact hcr)
      simp only [Sh.at] at k1
      cases hl : ls[f]? with
      | none => simp [hl] at k1
      | some sf =>
        simp only [hl,Option.some.injEq] at k1
        subst k1
        obtain ⟨g, g1, g2, g3⟩ := h3 f sf hl
        simp only [Sh.off,hl,Nat.add_zero] at k4
        obtain ⟨y, y1, y2⟩ := part_run (P := P) g3 k2 k5 k3
        refine runs_value (x := y) ?_ h y2 hh
        simp only [execOp,ho,hp,Instr.field,Sem.run_bind,run_underlying h1 w,Result.andThen_ok,g1,asAgg,Sem.run_pure]
        rw [g2, ← k4, y1]
        rfl
    · exact h.elim
  · exact h.elim
theorem fieldAddr_sound (hT : TM ρ w tm a) (hh : HR Z B ρ H n w) (t : TypeId) (x : Operand) (f : Nat) (ho : o.op = .fieldAddr t x f) (h : vFieldAddr P (ev tm) H n K t x f) : Runs P Z B K ρ w (execOp a.eval o) := by
  unfold vFieldAddr onV at h
  dsimp only at h
  have hx := ev_sound hT x
  have key : ∀ (ls : List Sh) (sf : Sh) (b g : Nat), SH P t = some (.st ls) → ls[f]? = some sf → sf.size ≠ 0 → a.eval x = .pointer (some ⟨b, g, none⟩) →
      (execOp a.eval o).run P w = .ok (.value (.pointer (some ⟨b, g + Sh.sizes (ls.take f), none⟩))) w := by
    intro ls sf b g hs hl hne hp
    obtain ⟨fs, h1, h2, h3⟩ := SH_struct hs
    obtain ⟨fd, g1, g2, g3⟩ := h3 f sf hl
    obtain ⟨i, d, hi, hu, hsz, hrow⟩ := shOf_spec g3
    have : ¬ i.size = 0 := by omega
    simp only [execOp,ho,hp,Instr.fieldAt,Sem.run_bind,run_underlying h1 w,Result.andThen_ok,g1,Instr.sureAddr,Sem.run_pure,fieldPlace,sizeOf,typeInfo]
    simp [hi, this, g2, Addr.add_mid]
  split at h
  · rename_i m p e
    rw [e] at hx
    obtain ⟨l, hl, hp⟩ := hx.ptr
    obtain ⟨blk, hb, h⟩ := bnd_iff.1 h
    split at h
    · rename_i s c
      obtain ⟨st, hst, hat, h⟩ := bnd_iff.1 h
      split at h
      · rename_i ls
        obtain ⟨sf, hsf, hne, h⟩ := bnd_iff.1 h
        have hrow := hh.row m s c l hb hl
        refine runs_value (key ls sf _ _ hst hsf hne hp) h ?_ hh
        simp only [VR,VR1,C1]
        refine ⟨l, hl, ?_⟩
        rw [hrow.sh, (at_append p s (.st ls) [f] hat).2]
        simp [Sh.off, hsf, Nat.add_assoc]
      · exact h.elim
    · exact h.elim
  · rename_i s vs e
    rw [e] at hx
    obtain ⟨b, g, ecs, hp, g1, g2, g3, g4, g5⟩ := hx.pd
    replace h := bnd_iff.1 h
    obtain ⟨st, hst, hat, h⟩ := h
    cases st with
    | st ls =>
      subst hat
      replace h := bnd_iff.1 h
      obtain ⟨sf, hsf, hne, h⟩ := h
      replace h := bnd_iff.1 h
      obtain ⟨u, hu, h⟩ := h
      refine runs_value (key ls sf _ _ hst hsf hne hp) h ?_ hh
      obtain ⟨su, pre, mid, post, k1, k2, rfl, k4, k5, _, _⟩ := focus [f] (.st ls) (.agg vs) u ecs g2 (by simp [VV.get, hu]) g1
      simp only [Sh.at,hsf,Option.some.injEq] at k1
      subst k1
      simp only [Sh.off,hsf,Nat.add_zero] at k4
      simp only [VR,VR1,C1]
      exact ⟨b, _, mid, rfl, k5, k2, by rw [← k4]; exact range_part g3, g4, g5⟩
    | cell => exact h.elim
    | arr _ _ => exact h.elim
  · exact h.elim
theorem VR.sl {m i k : Nat} {p : List Nat} {x : Value} (h : VR ρ w (.sl (some (m, p, i)) k) x) : (k = 0 ∧ ∃ A, x = .slice A 0 0) ∨ ∃ l c e j, ρ m = some l ∧ x = .slice (some ⟨l.block, l.base + l.sh.off (p ++ [i]), none⟩) k c ∧ k ≤ c ∧
      l.sh.at p = some (.arr j e) ∧ l.sh.off (p ++ [i]) + c * e.size ≤ l.room := by
  simp only [VR,VR1,C1] at h
  rcases h with ⟨h2, A, h3⟩ | ⟨l, c, e, j, h1, h2, h3⟩
  · exact .inl ⟨h2, A, by simpa using h3⟩
  · exact .inr ⟨l, c, e, j, h1, by simpa using h2, h3⟩
theorem VR.dat {s : Sh} {els : List VV} {x : Value} (h : VR ρ w (.dat s els) x) : ∃ A c, x = .slice A els.length c ∧ els.length ≤ c ∧ (els ≠ [] → ∃ b o ecs, A = some ⟨b, o, none⟩ ∧ CR ρ w els ecs ∧ (∀ e ∈ els, Has s e) ∧
      w.rangeAt b o ecs ∧ Unnamed ρ b ∧ b < w.heap.size) := by
  simp only [VR,VR1,C1] at h
  obtain ⟨A, c, h1, h2⟩ := h
  exact ⟨A, c, by simpa using h1, h2⟩
theorem arr_part {s : Sh} {els : List VV} {ecs : List Value} {k : Nat} {u : VV} (h : CR ρ w els ecs) (hs : ∀ e ∈ els, Has s e) (hu : els[k]? = some u) :
    ∃ pre mid post, ecs = pre ++ mid ++ post ∧ pre.length = k * s.size ∧ C1 ρ w u mid ∧ Has s u := by
  obtain ⟨su, pre, mid, post, k1, k2, k3, k4, k5, _, _⟩ := focus [k] (.arr els.length s) (.agg els) u ecs (by simp only [Has,true_and]; exact hs) (by simp [VV.get, hu]) (by simp only [C1]; exact h)
  simp only [Sh.at,Option.some.injEq] at k1
  subst k1
  exact ⟨pre, mid, post, k3, by simpa [Sh.off] using k4, k5, k2⟩
theorem indexAddr_sound (hT : TM ρ w tm a) (hh : HR Z B ρ H n w) (t : TypeId) (x i : Operand) (ho : o.op = .indexAddr t x i) (h : vIndexAddr P (ev tm) H n K t x i) : Runs P Z B K ρ w (execOp a.eval o) := by
  unfold vIndexAddr onV at h
  dsimp only at h
  have hx := ev_sound hT x
  have hi := ev_sound hT i
  have keyS : ∀ (et : TypeId) (se : Sh) (b g len c : Nat) (kk : IntKind) (k : Int), EL P t = some et → SH P et = some se → a.eval x = .slice (some ⟨b, g, none⟩) len c → a.eval i = .int kk k → 0 ≤ k ∧ k < len →
      (execOp a.eval o).run P w = .ok (.value (.pointer (some ⟨b, g + k.toNat * se.size, none⟩))) w := by
    intro et se b g len c kk k h1 h2 h3 h4 h5
    obtain ⟨inf, d, hinf, hu, hsz, hrow⟩ := shOf_spec h2
    have hul := EL_spec h1
    simp only [execOp,ho,h3,h4,Instr.indexAt,Sem.run_bind,run_underlying hul w,Result.andThen_ok,asIntOf,Sem.run_pure]
    simp [h5, sizeOf, typeInfo, hinf, hsz, Addr.add_mid]
  have keyA : ∀ (len : Nat) (se : Sh) (b g : Nat) (kk : IntKind) (k : Int), SH P t = some (.arr len se) → a.eval x = .pointer (some ⟨b, g, none⟩) → a.eval i = .int kk k → 0 ≤ k ∧ k < len →
      (execOp a.eval o).run P w = .ok (.value (.pointer (some ⟨b, g + k.toNat * se.size, none⟩))) w := by
    intro len se b g kk k h1 h3 h4 h5
    obtain ⟨e, hul, hse⟩ := SH_array h1
    obtain ⟨inf, d, hinf, hu, hsz, hrow⟩ := shOf_spec hse
    simp only [execOp,ho,h3,h4,Instr.indexAt,Sem.run_bind,run_underlying hul w,Result.andThen_ok,asIntOf,Sem.run_pure,Instr.sureAddr]
    simp [h5, sizeOf, typeInfo, hinf, hsz, Addr.add_mid]
  split at h
  · rename_i m p i0 len kk k e1 e2
    rw [e1] at hx
    rw [e2] at hi
    have hi := hi.int
    obtain ⟨blk, hb, h⟩ := bnd_iff.1 h
    split at h
    · rename_i s c
      obtain ⟨et, het, h⟩ := bnd_iff.1 h
      obtain ⟨se, hse, h⟩ := bnd_iff.1 h
      obtain ⟨sa, hsa, h⟩ := bnd_iff.1 h
      split at h
      · rename_i j s'
        obtain ⟨rfl, hk, h⟩ := h
        rcases hx.sl with ⟨h0, _⟩ | ⟨l, cap, e, j', hl, hp, hcap, hate, hroom⟩
        · omega
        · have hrow := hh.row m s c l hb hl
          refine runs_value (keyS et s' _ _ len cap kk k het hse hp hi hk) h ?_ hh
          simp only [VR,VR1,C1]
          refine ⟨l, hl, ?_⟩
          rw [hrow.sh, (at_append p s (.arr j s') [i0 + k.toNat] hsa).2, (at_append p s (.arr j s') [i0] hsa).2]
          simp only [Sh.off,Nat.add_zero,Nat.add_mul]
          rw [Nat.add_assoc, Nat.add_assoc]
      · exact h.elim
    · exact h.elim
  · rename_i s els kk k e1 e2
    rw [e1] at hx
    rw [e2] at hi
    have hi := hi.int
    obtain ⟨et, het, h⟩ := bnd_iff.1 h
    obtain ⟨se, hse, h⟩ := bnd_iff.1 h
    obtain ⟨rfl, hk, h⟩ := h
    obtain ⟨u, hu, h⟩ := bnd_iff.1 h
    obtain ⟨A, c, hp, hc, hne⟩ := hx.dat
    obtain ⟨b, g, ecs, rfl, g1, g2, g3, g4, g5⟩ := hne (by intro e; rw [e] at hu; simp at hu)
    refine runs_value (keyS et s _ _ _ c kk k het hse hp hi hk) h ?_ hh
    obtain ⟨pre, mid, post, rfl, k4, k5, k2⟩ := arr_part g1 g2 hu
    simp only [VR,VR1,C1]
    exact ⟨b, _, mid, rfl, k5, k2, by rw [← k4]; exact range_part g3, g4, g5⟩
  · rename_i m p kk k e1 e2
    rw [e1] at hx
    rw [e2] at hi
    have hi := hi.int
    obtain ⟨l, hl, hp⟩ := hx.ptr
    obtain ⟨blk, hb, h⟩ := bnd_iff.1 h
    split at h
    · rename_i s c
      obtain ⟨st, hst, hat, h⟩ := bnd_iff.1 h
      split at h
      · rename_i len s'
        obtain ⟨hk, h⟩ := h
        have hrow := hh.row m s c l hb hl
        refine runs_value (keyA len s' _ _ kk k hst hp hi hk) h ?_ hh
        simp only [VR,VR1,C1]
        refine ⟨l, hl, ?_⟩
        rw [hrow.sh, (at_append p s (.arr len s') [k.toNat] hat).2]
        simp only [Sh.off,Nat.add_zero,Nat.add_assoc]
      · exact h.elim
    · exact h.elim
  · rename_i s vs kk k e1 e2
    rw [e1] at hx
    rw [e2] at hi
    have hi := hi.int
    obtain ⟨b, g, ecs, hp, g1, g2, g3, g4, g5⟩ := hx.pd
    replace h := bnd_iff.1 h
    obtain ⟨st, hst, hat, h⟩ := h
    cases st with
    | arr len s' =>
      subst hat
      obtain ⟨hk, h⟩ := h
      replace h := bnd_iff.1 h
      obtain ⟨u, hu, h⟩ := h
      refine runs_value (keyA len s' _ _ kk k hst hp hi hk) h ?_ hh
      simp only [Has] at g2
      simp only [C1] at g1
      obtain ⟨pre, mid, post, rfl, k4, k5, k2⟩ := arr_part g1 g2.2 hu
      simp only [VR,VR1,C1]
      exact ⟨b, _, mid, rfl, k5, k2, by rw [← k4]; exact range_part g3, g4, g5⟩
    | cell => exact h.elim
    | st _ => exact h.elim
  · exact h.elim
end
end Go.Proofs.Ytlgldkjjbbbapaa.V
end
section
/-
  A MACHINE OF VALUES, SIXTH PART: numbers, strings, calls.
-/
set_option linter.unusedVariables false
set_option linter.unusedSectionVars false
set_option linter.unusedSimpArgs false
namespace Go.Proofs.Ytlgldkjjbbbapaa.V
open Go Go.RowKit

section
variable {P : Program} {Z : Nat → Nat → Prop} [Zone Z] {B : Nat} {ρ : Names} {w : World} {H : Heap} {n : Nat} {tm : Nat → VV} {a : Act} {K : VV → Heap → Nat → Prop} {o : Oper}
theorem move_sound (hT : TM ρ w tm a) (hh : HR Z B ρ H n w) (x : Operand) (ho : o.op = .move x ∨ o.op = .assign x) (h : K (ev tm x) H n) : Runs P Z B K ρ w (execOp a.eval o) := by
  refine runs_value (x := a.eval x) ?_ h (ev_sound hT x) hh
  rcases ho with ho | ho <;> simp [execOp, ho]
theorem nilCheck_sound (hT : TM ρ w tm a) (hh : HR Z B ρ H n w) (x : Operand) (ho : o.op = .nilCheck x) (h : vNilCheck (ev tm) H n K x) : Runs P Z B K ρ w (execOp a.eval o) := by
  unfold vNilCheck onV at h
  dsimp only at h
  have hx := ev_sound hT x
  split at h
  · rename_i m p e
    rw [e] at hx
    obtain ⟨l, hl, hp⟩ := hx.ptr
    refine runs_value (x := a.eval x) ?_ h hx hh
    simp [execOp, ho, hp]
  · rename_i s u e
    rw [e] at hx
    obtain ⟨b, g, ecs, hp, _⟩ := hx.pd
    refine runs_value (x := a.eval x) ?_ h hx hh
    simp [execOp, ho, hp]
  · rename_i f cs e
    rw [e] at hx
    obtain ⟨xs, hp, _⟩ := hx.fn
    refine runs_value (x := a.eval x) ?_ h hx hh
    simp [execOp, ho, hp]
  · exact h.elim
theorem un_sound (hT : TM ρ w tm a) (hh : HR Z B ρ H n w) (op : UnOp) (t : TypeId) (x : Operand) (ho : o.op = .unOp op t x) (h : vUn (ev tm) H n K op x) : Runs P Z B K ρ w (execOp a.eval o) := by
  unfold vUn onV at h
  dsimp only at h
  have hx := ev_sound hT x
  split at h
  · rename_i b e
    rw [e] at hx
    refine runs_value (x := .bool (!b)) ?_ h (by simp [VR, VR1, C1]) hh
    simp [execOp, ho, hx.bool, Op.unary]
  · rename_i k i e
    rw [e] at hx
    refine runs_value (x := .int k (k.wrap (0 - i))) ?_ h (by simp [VR, VR1, C1]) hh
    simp [execOp, ho, hx.int, Op.unary, Op.intArith]
  · exact h.elim
theorem VRs.nth : ∀ (vs : List VV) (xs : List Value) (i : Nat) (u : VV), VRs ρ w vs xs → vs[i]? = some u → ∃ x, xs[i]? = some x ∧ VR1 ρ w u x
  | [], _, _, _, _, hu => by simp at hu
  | v :: vs, xs, 0, u, h, hu => by
    obtain ⟨x, ys, rfl, h1, h2⟩ := h
    simp at hu
    subst hu
    exact ⟨x, by simp, h1⟩
  | v :: vs, xs, i + 1, u, h, hu => by
    obtain ⟨x, ys, rfl, h1, h2⟩ := h
    simp at hu
    obtain ⟨y, g1, g2⟩ := VRs.nth vs ys i u h2 hu
    exact ⟨y, by simpa using g1, g2⟩
theorem extract_sound (hT : TM ρ w tm a) (hh : HR Z B ρ H n w) (x : Operand) (i : Nat) (ho : o.op = .extract x i) (h : vExtract (ev tm) H n K x i) : Runs P Z B K ρ w (execOp a.eval o) := by
  unfold vExtract onV at h
  dsimp only at h
  have hx := ev_sound hT x
  split at h
  · rename_i vs e
    rw [e] at hx
    obtain ⟨xs, hp, hr⟩ := hx.tup
    replace h := bnd_iff.1 h
    obtain ⟨u, hu, h⟩ := h
    obtain ⟨y, h1, h2⟩ := VRs.nth vs xs.toList i u hr hu
    refine runs_value (x := y) ?_ h (VR.of1 h2) hh
    rw [Array.getElem?_toList] at h1
    simp [execOp, ho, hp, Instr.extract, h1]
  · exact h.elim
theorem index_sound (hT : TM ρ w tm a) (hh : HR Z B ρ H n w) (t : TypeId) (x i : Operand) (ho : o.op = .index t x i) (h : vIndex P (ev tm) H n K t x i) : Runs P Z B K ρ w (execOp a.eval o) := by
  unfold vIndex onV at h
  dsimp only at h
  have hx := ev_sound hT x
  have hi := ev_sound hT i
  split at h
  · rename_i s kk k e1 e2
    rw [e1] at hx
    rw [e2] at hi
    replace h := bnd_iff.1 h
    obtain ⟨u, hu, h⟩ := h
    cases u <;> first | exact h.elim | skip
    obtain ⟨⟨h1, h2⟩, h⟩ := h
    have hk : k.toNat < s.length := by omega
    have hget : (ByteArray.mk s.toArray)[k.toNat]? = some (s.getD k.toNat 0) := by
      show (if h : k.toNat < s.toArray.size then some (ByteArray.get _ _) else none) = _
      rw [dif_pos (by simpa using hk)]
      simp [ByteArray.get, List.getD_eq_getElem?_getD, hk]
    refine runs_value (x := .int .u8 (((s.getD k.toNat 0).toNat : Nat) : Int)) ?_ h (by simp [VR, VR1, C1]) hh
    simp only [execOp,ho,hx.str,hi.int,Instr.index,Sem.run_bind,run_underlying hu w,Result.andThen_ok,asIntOf,Sem.run_pure]
    rw [if_pos h1, hget]
    rfl
  · rename_i vs kk k e1 e2
    rw [e1] at hx
    rw [e2] at hi
    obtain ⟨cs, hp, hcr⟩ := hx.agg
    obtain ⟨s, hs, hhas, h⟩ := bnd_iff.1 h
    split at h
    · rename_i len s'
      obtain ⟨hk, h⟩ := h
      obtain ⟨u, hu, h⟩ := bnd_iff.1 h
      obtain ⟨et, h1, h3⟩ := SH_array hs
      obtain ⟨inf, d, hinf, hud, hsz, hrow⟩ := shOf_spec h3
      obtain ⟨su, pre, mid, post, k1, k2, k3, k4, k5, _, _⟩ := focus [k.toNat] (.arr len s') (.agg vs) u cs.toList hhas (by simp [VV.get, hu]) (by simp only [C1]; exact hcr)
      simp only [Sh.at,Option.some.injEq] at k1
      subst k1
      simp only [Sh.off,Nat.add_zero] at k4
      obtain ⟨y, y1, y2⟩ := part_run (P := P) h3 k2 k5 k3
      refine runs_value (x := y) ?_ h y2 hh
      have hs2 : (sizeOf et).run P w = .ok s'.size w := by simp [sizeOf, typeInfo, Sem.run_bind, hinf, hsz]
      simp only [execOp,ho,hp,hi.int,Instr.index,Sem.run_bind,run_underlying h1 w,Result.andThen_ok,asIntOf,Sem.run_pure]
      rw [if_pos hk, Sem.run_bind, hs2]
      simp only [Result.andThen_ok]
      rw [← k4, y1]
      rfl
    · exact h.elim
  · exact h.elim
theorem len_sound (hT : TM ρ w tm a) (hh : HR Z B ρ H n w) (x : Operand) (ts : Array TypeId) (ho : o.op = .call { callee := .builtin .len, args := #[x], argTypes := ts }) (h : vLen P (ev tm) H n K ts x) : Runs P Z B K ρ w (execOp a.eval o) := by
  unfold vLen onV at h
  dsimp only at h
  have hx := ev_sound hT x
  replace h := bnd_iff.1 h
  obtain ⟨t, ht, h⟩ := h
  replace h := bnd_iff.1 h
  obtain ⟨d, hu, h⟩ := h
  have hrun : ∀ (v : Value) (k : Int), (∀ w : World, (Builtin.len_ ts o.type #[v]).run P w = .ok (.int .i64 k) w) → a.eval x = v → (execOp a.eval o).run P w = .ok (.value (.int .i64 k)) w := by
    intro v k hr hv
    simp [execOp, ho, resolve, invoke, builtin, hv, hr w]
  generalize he : ev tm x = v at h hx
  split at h
  · rename_i s
    refine runs_value (hrun _ s.length (fun w => ?_) hx.str) h (by simp [VR, VR1, C1]) hh
    simp [Builtin.len_, run_underlying hu w, goInt, ht]
    rfl
  · rename_i p k
    refine runs_value (hrun (a.eval x) k (fun w => ?_) rfl) h (by simp [VR, VR1, C1]) hh
    cases p with
    | none =>
      simp only [VR,VR1,C1] at hx
      obtain ⟨rfl, hx⟩ := hx
      simp at hx
      simp [Builtin.len_, run_underlying hu w, goInt, ht, hx]
    | some q =>
      obtain ⟨m, p, i⟩ := q
      rcases hx.sl with ⟨rfl, A, hp⟩ | ⟨l, c, e', j, hl, hp, _⟩
      · simp [Builtin.len_, run_underlying hu w, goInt, ht, hp]
      · simp [Builtin.len_, run_underlying hu w, goInt, ht, hp]
  · rename_i s els
    obtain ⟨A, c, hp, _⟩ := hx.dat
    refine runs_value (hrun _ els.length (fun w => ?_) hp) h (by simp [VR, VR1, C1]) hh
    simp [Builtin.len_, run_underlying hu w, goInt, ht]
  · exact h.elim
theorem convert_sound (hT : TM ρ w tm a) (hh : HR Z B ρ H n w) (s d : TypeId) (x : Operand) (ho : o.op = .convert s d x) (h : vConvert P (ev tm) H n K s d x) : Runs P Z B K ρ w (execOp a.eval o) := by
  unfold vConvert onV at h
  dsimp only at h
  have hx := ev_sound hT x
  split at h
  · rename_i kk i e
    rw [e] at hx
    replace h := bnd_iff.1 h
    obtain ⟨su, hsu, h⟩ := h
    replace h := bnd_iff.1 h
    obtain ⟨du, hdu, h⟩ := h
    cases du <;> first | exact h.elim | skip
    rename_i k
    refine runs_value (x := .int k (k.wrap i)) ?_ h (by simp [VR, VR1, C1]) hh
    simp [execOp, ho, hx.int, convert, run_underlying hsu w, run_underlying hdu w, Conv.intToInt]
  · exact h.elim
theorem VR_int {k : IntKind} {i : Int} : VR ρ w (.int k i) (.int k i) := by simp [VR, VR1, C1]
theorem VR_bool {b : Bool} : VR ρ w (.bool b) (.bool b) := by simp [VR, VR1, C1]
theorem VR_str {s : List UInt8} : VR ρ w (.str s) (.string ⟨s.toArray⟩) := by simp [VR, VR1, C1]
theorem bin_sound (hT : TM ρ w tm a) (hh : HR Z B ρ H n w) (op : BinOp) (t t' : TypeId) (x y : Operand) (ho : o.op = .binOp op t x y t') (h : vBin (ev tm) H n K op x y) : Runs P Z B K ρ w (execOp a.eval o) := by
  unfold vBin onV at h
  dsimp only at h
  have hx := ev_sound hT x
  have hy := ev_sound hT y
  unfold vbin at h
  split at h
  · rename_i k i k' j e1 e2
    rw [e1] at hx
    rw [e2] at hy
    have hx := hx.int
    have hy := hy.int
    cases op <;> dsimp only at h
    case shl => exact runs_value (by simp [execOp, ho, hx, hy, eqGuard, binOp, Op.shift, show ¬ j < 0 by have := h.1; omega]) h.2 VR_int hh
    case shr => exact runs_value (by simp [execOp, ho, hx, hy, eqGuard, binOp, Op.shift, show ¬ j < 0 by have := h.1; omega]) h.2 VR_int hh
    case quo => obtain ⟨⟨rfl, hne⟩, h⟩ := h; exact runs_value (by simp [execOp, ho, hx, hy, eqGuard, binOp, Op.intDiv, hne]) h VR_int hh
    case rem => obtain ⟨⟨rfl, hne⟩, h⟩ := h; exact runs_value (by simp [execOp, ho, hx, hy, eqGuard, binOp, Op.intDiv, hne]) h VR_int hh
    case add => obtain ⟨rfl, h⟩ := h; exact runs_value (by simp [execOp, ho, hx, hy, eqGuard, binOp, Op.intArith]) h VR_int hh
    case sub => obtain ⟨rfl, h⟩ := h; exact runs_value (by simp [execOp, ho, hx, hy, eqGuard, binOp, Op.intArith]) h VR_int hh
    case mul => obtain ⟨rfl, h⟩ := h; exact runs_value (by simp [execOp, ho, hx, hy, eqGuard, binOp, Op.intArith]) h VR_int hh
    case and => obtain ⟨rfl, h⟩ := h; exact runs_value (by simp [execOp, ho, hx, hy, eqGuard, binOp, Op.intBits, bits]) h VR_int hh
    case or => obtain ⟨rfl, h⟩ := h; exact runs_value (by simp [execOp, ho, hx, hy, eqGuard, binOp, Op.intBits, bits]) h VR_int hh
    case xor => obtain ⟨rfl, h⟩ := h; exact runs_value (by simp [execOp, ho, hx, hy, eqGuard, binOp, Op.intBits, bits]) h VR_int hh
    case andNot => obtain ⟨rfl, h⟩ := h; exact runs_value (by simp [execOp, ho, hx, hy, eqGuard, binOp, Op.intBits, bits]) h VR_int hh
    all_goals (obtain ⟨rfl, h⟩ := h; exact runs_value (by simp [execOp, ho, hx, hy, eqGuard, binOp, Op.intCmp]) h VR_bool hh)
  · rename_i s s' e1 e2
    rw [e1] at hx
    rw [e2] at hy
    have hx := hx.str
    have hy := hy.str
    have hl : ∀ s : List UInt8, (ByteArray.mk s.toArray).toList = s := fun s => by simp
    split at h
    · obtain ⟨hl, h⟩ := h
      refine runs_value (x := .string ⟨(s ++ s').toArray⟩) ?_ h VR_str hh
      have hz : ¬ (9223372036854775807 : Int) < (s.length : Int) + (s'.length : Int) := by omega
      simp only [execOp,ho,hx,hy,eqGuard,binOp,Op.stringOp]
      have e3 : (ByteArray.mk s.toArray).size = s.length := by show s.toArray.size = _; simp
      have e4 : (ByteArray.mk s'.toArray).size = s'.length := by show s'.toArray.size = _; simp
      have e5 : ByteArray.mk s.toArray ++ ByteArray.mk s'.toArray = ByteArray.mk (s ++ s').toArray := by
        apply ByteArray.ext
        simp
      have e6 : ¬ (((s.length + s'.length : Nat) : Int) > IntKind.i64.max) := by
        have : IntKind.i64.max = 9223372036854775807 := by decide
        omega
      rw [e3, e4, if_neg e6, e5]
      simp
    · refine runs_value (x := .bool (s == s')) ?_ h VR_bool hh
      simp [execOp, ho, hx, hy, eqGuard, binOp, Op.stringOp, hl]
    · refine runs_value (x := .bool (s != s')) ?_ h VR_bool hh
      simp [execOp, ho, hx, hy, eqGuard, binOp, Op.stringOp, hl, bne]
    · exact h.elim
  · exact h.elim
theorem VRA_append : ∀ (vs us : List VV) (xs ys : List Value), VRA ρ w vs xs → VRA ρ w us ys → VRA ρ w (vs ++ us) (xs ++ ys)
  | [], us, xs, ys, h, h' => by obtain rfl : xs = [] := h; exact h'
  | v :: vs, us, xs, ys, h, h' => by
    obtain ⟨x, zs, rfl, h1, h2⟩ := h
    exact ⟨x, zs ++ ys, rfl, h1, VRA_append vs us zs ys h2 h'⟩
theorem VRA_caps : ∀ (vs : List VV) (xs : List Value), CV ρ w vs xs → VRA ρ w vs xs
  | [], xs, h => by simp only [CV] at h; exact h
  | v :: vs, xs, h => by
    simp only [CV] at h
    obtain ⟨x, c2, rfl, h1, h2, h3⟩ := h
    exact ⟨x, c2, rfl, VR.of_leaf h1 h2, VRA_caps vs c2 h3⟩
theorem VRA_map (hT : TM ρ w tm a) : ∀ (xs : List Operand), VRA ρ w (xs.map (ev tm)) (xs.map a.eval)
  | [] => rfl
  | x :: xs => ⟨a.eval x, _, rfl, ev_sound hT x, VRA_map hT xs⟩
theorem call_sound (hT : TM ρ w tm a) (hh : HR ZT B ρ H n w) (f : Operand) (xs : Array Operand) (ts : Array TypeId) (ho : o.op = .call { callee := .value f, args := xs, argTypes := ts }) (h : vCall P (ev tm) H n K f xs.toList) : Runs P ZT B K ρ w (execOp a.eval o) := by
  unfold vCall onV at h
  dsimp only at h
  have hf := ev_sound hT f
  split at h
  · rename_i g caps e
    rw [e] at hf
    obtain ⟨cs, hp, hcv⟩ := hf.fn
    obtain ⟨hc, h⟩ := h
    refine .inr (.inr ⟨g, (xs.map a.eval) ++ cs, ?_, ?_⟩)
    · unfold callable at hc
      split at hc
      · rename_i fn hfn
        simp only [Bool.and_eq_true,bne_iff_ne,ne_eq] at hc
        obtain ⟨b, hb⟩ := Option.isSome_iff_exists.1 hc.2
        simp [execOp, ho, resolve, hp, Deferred.ofValue, invoke, callFunc, hfn, hc.1, hb]
      · cases hc
    · have := h B ρ w ((xs.map a.eval).toList ++ cs.toList) hh (VRA_append _ _ _ _ (by have := VRA_map hT xs.toList; simpa using this) (VRA_caps _ _ hcv))
      have e : ((xs.map a.eval).toList ++ cs.toList).toArray = xs.map a.eval ++ cs := by
        apply Array.ext'
        simp
      rw [e] at this
      exact this
  · exact h.elim
theorem CV_map (hT : TM ρ w tm a) : ∀ (xs : List Operand), (∀ c ∈ xs, (ev tm c).leaf = true) → CV ρ w (xs.map (ev tm)) (xs.map a.eval)
  | [], _ => by simp only [CV,List.map_nil]
  | x :: xs, h => by
    simp only [CV,List.map_cons]
    exact ⟨_, _, rfl, h x (by simp), VR.leaf_cells (h x (by simp)) (ev_sound hT x), CV_map hT xs fun c hc => h c (by simp [hc])⟩
theorem makeFunc_sound (hT : TM ρ w tm a) (hh : HR Z B ρ H n w) (f : FuncId) (first caps : Array Operand) (ho : o.op = .makeFunc (.func f) first caps) (h : vMakeFunc (ev tm) H n K f first caps.toList) : Runs P Z B K ρ w (execOp a.eval o) := by
  obtain ⟨⟨rfl, h1⟩, h⟩ := h
  refine runs_value (x := .func (.func f) #[] (caps.map a.eval)) ?_ h ?_ hh
  · simp [execOp, ho, Instr.makeFunc]
  · simp only [VR,VR1,C1]
    exact ⟨_, rfl, by have := CV_map hT caps.toList h1; simpa using this⟩
end
end Go.Proofs.Ytlgldkjjbbbapaa.V
end
section
/-
  A MACHINE OF VALUES, SEVENTH PART: zero values, new variables, literals, new slices.
-/
set_option linter.unusedVariables false
set_option linter.unusedSectionVars false
set_option linter.unusedSimpArgs false
namespace Go.Proofs.Ytlgldkjjbbbapaa.V
open Go Go.RowKit

/-! ### zero values -/
mutual
def flatz : VV → Option (List Value)
  | .int k n => some [.int k n]
  | .bool b => some [.bool b]
  | .str s => some [.string ⟨s.toArray⟩]
  | .sl none 0 => some [.slice none 0 0]
  | .raw v => if v.oneCell' then some [v] else none
  | .agg vs => flatzs vs
  | _ => none
def flatzs : List VV → Option (List Value)
  | [] => some []
  | v :: vs => match flatz v, flatzs vs with
    | some a, some b => some (a ++ b)
    | _, _ => none
end
mutual
theorem flatz_sound (ρ : Names) (w : World) : ∀ (v : VV) (cs : List Value), flatz v = some cs → C1 ρ w v cs
  | .int k n, cs, h => by simp only [flatz,Option.some.injEq] at h; simp only [C1]; exact h.symm
  | .bool b, cs, h => by simp only [flatz,Option.some.injEq] at h; simp only [C1]; exact h.symm
  | .str s, cs, h => by simp only [flatz,Option.some.injEq] at h; simp only [C1]; exact h.symm
  | .sl none 0, cs, h => by simp only [flatz,Option.some.injEq] at h; simp only [C1,true_and]; exact h.symm
  | .raw v, cs, h => by
    simp only [flatz] at h
    split at h
    · injection h with h; simp only [C1]; exact h.symm
    · cases h
  | .agg vs, cs, h => by simp only [flatz] at h; simp only [C1]; exact flatzs_sound ρ w vs cs h
  | .sl (some _) _, _, h => by simp [flatz] at h
  | .sl none (_ + 1), _, h => by simp [flatz] at h
  | .tup _, _, h | .ptr _ _, _, h | .fn _ _, _, h | .map _, _, h | .dat _ _, _, h | .pd _ _, _, h | .vec _ _, _, h | .any, _, h => by simp [flatz] at h
theorem flatzs_sound (ρ : Names) (w : World) : ∀ (vs : List VV) (cs : List Value), flatzs vs = some cs → CR ρ w vs cs
  | [], cs, h => by simp only [flatzs,Option.some.injEq] at h; simp only [CR]; exact h.symm
  | v :: vs, cs, h => by
    simp only [flatzs] at h
    split at h
    · rename_i a b ha hb
      injection h with h
      simp only [CR]
      exact ⟨a, b, h.symm, flatz_sound ρ w v a ha, flatzs_sound ρ w vs b hb⟩
    · cases h
end
mutual
def hasB : Sh → VV → Bool
  | .cell, v => v.leaf
  | .st ls, .agg vs => hasLB ls vs
  | .arr n s, .agg vs => vs.length == n && vs.all (hasB s)
  | _, _ => false
def hasLB : List Sh → List VV → Bool
  | [], vs => vs.isEmpty
  | s :: ls, v :: vs => hasB s v && hasLB ls vs
  | _ :: _, [] => false
end
mutual
theorem hasB_sound : ∀ (s : Sh) (v : VV), hasB s v = true → Has s v
  | .cell, v, h => by simp only [hasB] at h; simp only [Has]; exact h
  | .st ls, v, h => by
    cases v <;> simp only [hasB] at h <;> first | exact (Bool.false_ne_true h).elim | skip
    simp only [Has]
    exact hasLB_sound ls _ h
  | .arr n s, v, h => by
    cases v <;> simp only [hasB] at h <;> first | exact (Bool.false_ne_true h).elim | skip
    simp only [Bool.and_eq_true,beq_iff_eq,List.all_eq_true] at h
    simp only [Has]
    exact ⟨h.1, fun v hv => hasB_sound s v (h.2 v hv)⟩
theorem hasLB_sound : ∀ (ls : List Sh) (vs : List VV), hasLB ls vs = true → HasL ls vs
  | [], vs, h => by simp only [hasLB,List.isEmpty_iff] at h; simp only [HasL]; exact h
  | s :: ls, v :: vs, h => by
    simp only [hasLB,Bool.and_eq_true] at h
    simp only [HasL]
    exact ⟨hasB_sound s v h.1, hasLB_sound ls vs h.2⟩
  | _ :: _, [], h => by simp [hasLB] at h
end
def beqCell : Value → Value → Bool
  | .int k a, .int k' b => k == k' && a == b
  | .bool a, .bool b => a == b
  | .string a, .string b => a.data.toList == b.data.toList
  | .slice none 0 0, .slice none 0 0 => true
  | .pointer none, .pointer none => true
  | .map none, .map none => true
  | .nilFunc, .nilFunc => true
  | .nilIface, .nilIface => true
  | _, _ => false
theorem beqCell_sound {a b : Value} (h : beqCell a b = true) : a = b := by
  unfold beqCell at h
  split at h <;> try rfl
  · simp only [Bool.and_eq_true,beq_iff_eq] at h; rw [h.1, h.2]
  · simp only [beq_iff_eq] at h; rw [h]
  · rename_i x y
    simp only [beq_iff_eq] at h
    obtain ⟨x⟩ := x
    obtain ⟨y⟩ := y
    have : x = y := Array.ext' h
    rw [this]
  · cases h
def beqCells : List Value → List Value → Bool
  | [], [] => true
  | a :: l, b :: m => beqCell a b && beqCells l m
  | _, _ => false
theorem beqCells_sound : ∀ (a b : List Value), beqCells a b = true → a = b
  | [], [], _ => rfl
  | a :: l, b :: m, h => by
    simp only [beqCells,Bool.and_eq_true] at h
    rw [beqCell_sound h.1, beqCells_sound l m h.2]
  | [], _ :: _, h => by simp [beqCells] at h
  | _ :: _, [], h => by simp [beqCells] at h
def zeroOf (P : Program) : Nat → TypeId → Option VV
  | 0, _ => none
  | n + 1, t => match P.underlying t with
    | some (.int k) => some (.int k 0)
    | some .bool => some (.bool false)
    | some .string => some (.str [])
    | some (.slice _) => some (.sl none 0)
    | some (.pointer _) => some (.raw (.pointer none))
    | some (.map _ _) => some (.raw (.map none))
    | some (.func _ _ _) => some (.raw .nilFunc)
    | some (.interface _) => some (.raw .nilIface)
    | some (.struct fs) => match fs.toList.foldr (fun f acc => match acc, zeroOf P n f.type with
          | some l, some s => some (s :: l)
          | _, _ => none) (some []) with
      | some l => some (.agg l)
      | none => none
    | some (.array k e) => match zeroOf P n e with
      | some z => some (.agg (List.replicate k z))
      | none => none
    | _ => none
def isAggV : Value → Bool
  | .agg _ => true
  | _ => false
def VV.isAgg : VV → Bool
  | .agg _ => true
  | _ => false
def ZE (P : Program) (t : TypeId) : Option VV := match SH P t, zeroOf P 10 t, (P.info? t).bind (·.zero) with
  | some s, some z, some zv => match flatz z with
    | some cs => if hasB s z && beqCells cs zv.cells.toList && (z.isAgg == isAggV zv) && (zv.cells.size == s.size) then some z else none
    | none => none
  | _, _, _ => none
theorem ZE_spec {P : Program} {t : TypeId} {z : VV} (h : ZE P t = some z) :
    ∃ s zv i, SH P t = some s ∧ P.info? t = some i ∧ i.zero = some zv ∧ Has s z ∧ zv.cells.size = s.size ∧ ∀ ρ w, VR ρ w z zv ∧ C1 ρ w z zv.cells.toList := by
  unfold ZE at h
  split at h
  · rename_i s z' zv hs hz hi
    split at h
    · rename_i cs hf
      split at h
      · rename_i hc
        injection h with h
        subst h
        simp only [Bool.and_eq_true,beq_iff_eq] at hc
        obtain ⟨⟨⟨h1, h2⟩, h3⟩, h4⟩ := hc
        obtain ⟨i, hi1, hi2⟩ := Option.bind_eq_some_iff.1 hi
        have he := beqCells_sound _ _ h2
        have hH := hasB_sound s z' h1
        refine ⟨s, zv, i, hs, hi1, hi2, hH, h4, fun ρ w => ?_⟩
        have hC := flatz_sound ρ w z' cs hf
        rw [he] at hC
        refine ⟨?_, hC⟩
        cases z' with
        | agg vs =>
          cases zv <;> simp [isAggV, VV.isAgg] at h3
          simp only [C1] at hC
          exact ⟨_, rfl, hC⟩
        | _ =>
          have hl : ∀ zv : Value, isAggV zv = false → zv.cells = #[zv] := fun zv hz => by cases zv <;> first | rfl | simp [isAggV] at hz
          rw [hl zv (by simpa [VV.isAgg] using h3.symm)] at hC
          first | exact hC | (simp [flatz] at hf)
      · cases h
    · cases h
  · cases h

section
variable (P : Program) (e : Operand → VV) (H : Heap) (n : Nat) (K : VV → Heap → Nat → Prop)
def vAlloc (t : TypeId) : Prop := bnd (SH P t) fun s => bnd (ZE P t) fun z => K (.ptr n []) (upd H n (some (.row s z))) (n + 1)
def setParts : List (Nat × Operand) → List VV → List VV
  | [], zs => zs
  | (i, x) :: ps, zs => setParts ps (zs.set i (e x))
def HasParts (f : Nat → Option Sh) : List (Nat × Operand) → Prop
  | [] => True
  | (i, x) :: ps => (match f i with | some s => Has s (e x) | none => False) ∧ HasParts f ps
def vBuild (t : TypeId) (parts : List (Nat × Operand)) : Prop := bnd (SH P t) fun s => bnd (ZE P t) fun z => match s, z with
  | .st ls, .agg zs => cnd (HasParts e (fun i => ls[i]?) parts) (K (.agg (setParts e parts zs)) H n)
  | .arr k s, .agg zs => cnd (HasParts e (fun i => if i < k then some s else none) parts) (K (.agg (setParts e parts zs)) H n)
  | _, _ => False
def vBuildSlice (t : TypeId) (len : Nat) (parts : List (Nat × Operand)) : Prop := bnd (EL P t) fun et => bnd (SH P et) fun s => bnd (ZE P et) fun z =>
  cnd (HasParts e (fun i => if i < len then some s else none) parts ∧ len * s.size ≤ 16777216 ∧ s.size ≠ 0)
    (K (.sl (some (n, [], 0)) len) (upd H n (some (.row (.arr len s) (.agg (setParts e parts (List.replicate len z)))))) (n + 1))
def BY (t : TypeId) : Nat := ((P.info? t).map (·.bytes)).getD 0
def vMakeSlice (t : TypeId) (l c : Operand) : Prop := onV (e l) fun u => onV (e c) fun v => match u, v with
  | .int _ i, .int _ j => bnd (EL P t) fun et => bnd (SH P et) fun s => bnd (ZE P et) fun z =>
    cnd (0 ≤ i ∧ i ≤ j ∧ j ≤ 1000000000000 ∧ BY P et ≤ 200) (K (.sl (some (n, [], 0)) i.toNat) (upd H n (some (.row (.arr i.toNat s) (.agg (List.replicate i.toNat z))))) (n + 1))
  | _, _ => False
end

section
variable {P : Program} {Z : Nat → Nat → Prop} [Zone Z] {B : Nat} {ρ : Names} {w : World} {H : Heap} {n : Nat} {tm : Nat → VV} {a : Act} {K : VV → Heap → Nat → Prop} {o : Oper}
theorem alloc_sound (hh : HR Z B ρ H n w) (hG : Gives Z n K) (t : TypeId) (ho : o.op = .alloc t) (h : vAlloc P H n K t) : Runs P Z B K ρ w (execOp a.eval o) := by
  unfold vAlloc at h
  replace h := bnd_iff.1 h
  obtain ⟨s, hs, h⟩ := h
  replace h := bnd_iff.1 h
  obtain ⟨z, hz, h⟩ := h
  obtain ⟨s', zv, i, hs', hi, hzv, hH, hsz, hV⟩ := ZE_spec hz
  rw [hs] at hs'
  injection hs' with hs'
  subst hs'
  obtain ⟨l, e1, e2, e3, e4, h1, h2, h3⟩ := new_block hh (hG.one h) (t := t) (cells := zv.cells) (tail := []) hH (hV ρ w).2 (by simp)
  refine .inl ⟨.pointer (some ⟨w.heap.size, 0, none⟩), _, ?_, _, _, _, _, h, ?_, h1, h2, h3⟩
  · simp [execOp, ho, Instr.alloc, newVar, newRow, zeroValue, typeInfo, hi, hzv]
  · simp only [VR,VR1,C1]
    exact ⟨l, by rw [give_ap, if_pos rfl], by rw [e1, e2]; simp [Sh.off]⟩
theorem fill_list (off : Nat) : ∀ (cs : List Value) (k : Nat) (a : Array Value) (pre mid post : List Value), a.toList = pre ++ mid ++ post → mid.length = cs.length → pre.length = off + k →
    ((cs.zipIdx k).foldl (fun a (x : Value × Nat) => a.setIfInBounds (off + x.2) x.1) a).toList = pre ++ cs ++ post
  | [], k, a, pre, mid, post, h, hm, hp => by
    have : mid = [] := List.eq_nil_of_length_eq_zero (by simpa using hm)
    subst this
    simpa using h
  | c :: cs, k, a, pre, mid, post, h, hm, hp => by
    cases mid with
    | nil => simp at hm
    | cons m mid =>
      rw [List.zipIdx_cons, List.foldl_cons]
      have := fill_list off cs (k + 1) (a.setIfInBounds (off + k) c) (pre ++ [c]) mid post (by
        rw [Array.toList_setIfInBounds, h, ← hp]
        simp) (by simpa using hm) (by simp; omega)
      rw [this]
      simp
theorem fill_parts (hT : TM ρ w tm a) (place : Nat → Option (Nat × Nat)) (f : Nat → Option Sh) (sz : Sh) (hsz : sz ≠ .cell)
    (hat : ∀ i s, f i = some s → sz.at [i] = some s ∧ place i = some (sz.off [i], s.size)) (hlen : ∀ vs, Has sz (.agg vs) → ∀ i s, f i = some s → i < vs.length) :
    ∀ (ps : List (Nat × Operand)) (vs : List VV) (cells : Array Value), Has sz (.agg vs) → CR ρ w vs cells.toList → HasParts (ev tm) f ps →
      ∃ cells', Instr.fill place cells (ps.map fun x => (x.1, a.eval x.2)) = some cells' ∧ Has sz (.agg (setParts (ev tm) ps vs)) ∧ CR ρ w (setParts (ev tm) ps vs) cells'.toList
  | [], vs, cells, hs, hc, hp => ⟨cells, rfl, hs, hc⟩
  | (i, x) :: ps, vs, cells, hs, hc, hp => by
    obtain ⟨h1, h2⟩ := hp
    split at h1
    · rename_i s hf
      obtain ⟨g1, g2⟩ := hat i s hf
      have hi := hlen vs hs i s hf
      obtain ⟨su, pre, mid, post, k1, k2, k3, k4, k5, k6, k7⟩ := focus [i] sz (.agg vs) vs[i] cells.toList hs (by simp [VV.get, hi]) (by simp only [C1]; exact hc)
      rw [g1] at k1
      injection k1 with k1
      subst k1
      have hv := val_cells h1 (ev_sound hT x)
      have hvl := Has.len _ _ _ h1 hv
      have hml := Has.len _ _ _ k2 k5
      rw [Array.length_toList] at hvl
      have hset : (VV.agg vs).set [i] (ev tm x) = .agg (vs.set i (ev tm x)) := by simp [VV.set, hi]
      have hcl : cells.size = pre.length + mid.length + post.length := by
        have := congrArg List.length k3
        simp only [Array.length_toList,List.length_append] at this
        exact this
      have hfill := fill_list (sz.off [i]) (a.eval x).cells.toList 0 cells pre mid post k3 (by rw [hml, Array.length_toList, hvl]) (by omega)
      have hC := k7 ρ w (ev tm x) _ (Ext.refl _ _) hv
      rw [hset] at hC
      simp only [C1] at hC
      have hH := k6 _ h1
      rw [hset] at hH
      obtain ⟨cells', f1, f2, f3⟩ := fill_parts hT place f sz hsz hat hlen ps (vs.set i (ev tm x)) _ hH (by rw [← hfill] at hC; exact hC) h2
      refine ⟨cells', ?_, f2, f3⟩
      rw [← f1, List.map_cons, Instr.fill, g2]
      show (if (decide ((a.eval x).cells.size ≠ s.size) || decide (sz.off [i] + (a.eval x).cells.size > cells.size)) = true then none else _) = _
      rw [if_neg (by simp only [Bool.or_eq_true,decide_eq_true_eq,ne_eq]; omega)]
      congr 1
      rw [← Array.foldl_toList]
      simp
    · exact h1.elim
theorem map_parts (parts : Array (Nat × Operand)) : (parts.map fun (x : Nat × Operand) => (x.1, a.eval x.2)).toList = parts.toList.map fun x => (x.1, a.eval x.2) := by simp
theorem places_some (g : Field → Nat) : ∀ (l : List Field), (∀ f ∈ l, ∃ i, P.info? f.type = some i ∧ i.size = g f) → l.mapM (fun f => (P.info? f.type).map fun i => (f.offset, i.size)) = some (l.map fun f => (f.offset, g f))
  | [], _ => rfl
  | f :: l, h => by
    obtain ⟨i, h1, h2⟩ := h f (by simp)
    have := places_some g l (fun f hf => h f (by simp [hf]))
    simp [List.mapM_cons, h1, h2, this]
theorem mapM_places (fs : Array Field) (g : Field → Nat) (h : ∀ f ∈ fs.toList, ∃ i, P.info? f.type = some i ∧ i.size = g f) :
    (fs.mapM fun f => (do pure (f.offset, ← sizeOf f.type) : Sem (Nat × Nat))).run P w = .ok (fs.map fun f => (f.offset, g f)) w := by
  have := run_places w fs.toList _ (places_some (P := P) g fs.toList h)
  rw [Array.mapM_eq_mapM_toList]
  simp [this]
  apply Array.ext'
  simp
theorem build_sound (hT : TM ρ w tm a) (hh : HR Z B ρ H n w) (t : TypeId) (parts : Array (Nat × Operand)) (ho : o.op = .build t parts) (h : vBuild P (ev tm) H n K t parts.toList) : Runs P Z B K ρ w (execOp a.eval o) := by
  unfold vBuild at h
  replace h := bnd_iff.1 h
  obtain ⟨s, hs, h⟩ := h
  replace h := bnd_iff.1 h
  obtain ⟨z, hz, h⟩ := h
  obtain ⟨s', zv, i, hs', hi, hzv, hH, hsz, hV⟩ := ZE_spec hz
  rw [hs] at hs'
  injection hs' with hs'
  subst hs'
  obtain ⟨i', d, hi', hu, hisz, hrow⟩ := shOf_spec hs
  rw [hi] at hi'
  injection hi' with hi'
  subst hi'
  split at h
  · rename_i ls zs
    obtain ⟨hp, h⟩ := h
    obtain ⟨fs, g1, g2, g3⟩ := SH_struct hs
    obtain ⟨cs, rfl, hcr⟩ := (hV ρ w).1.agg
    have hplaces := mapM_places (P := P) (w := w) fs (fun f => ((P.info? f.type).map (·.size)).getD 0) (fun f hf => by
      obtain ⟨k, hk, rfl⟩ := List.getElem_of_mem hf
      obtain ⟨f', h1, h2, h3⟩ := g3 k ls[k] (by simp at hk; simp [← g2, hk])
      obtain ⟨inf, _, h4, _⟩ := shOf_spec h3
      simp at hk
      have : f' = fs.toList[k] := by simpa [hk] using h1.symm
      subst this
      exact ⟨inf, h4, by rw [h4]; rfl⟩)
    obtain ⟨cells', f1, f2, f3⟩ := fill_parts hT (fun i => (fs.map fun f => (f.offset, ((P.info? f.type).map (·.size)).getD 0))[i]?) (fun i => ls[i]?) (.st ls) (by simp) (fun i s hi => by
      obtain ⟨f', h1, h2, h3⟩ := g3 i s hi
      obtain ⟨inf, _, h4, _, h5, _⟩ := shOf_spec h3
      exact ⟨by simp [Sh.at, hi], by simp [h1, h4, h2, h5, Sh.off, hi]⟩) (fun vs hvs i s hi => by
      simp only [Has] at hvs
      have : ∀ (ls : List Sh) (vs : List VV), HasL ls vs → ls.length = vs.length := fun ls => by
        induction ls with
        | nil => intro vs hv; simp only [HasL] at hv; simp [hv]
        | cons s ls ih =>
          intro vs hv
          cases vs with
          | nil => simp [HasL] at hv
          | cons v vs => simp only [HasL] at hv; simp [ih vs hv.2]
      have := this ls vs hvs
      have := (List.getElem?_eq_some_iff.1 hi).1
      omega) parts.toList zs cs hH hcr hp
    refine runs_value (x := .agg cells') ?_ h ⟨_, rfl, f3⟩ hh
    rw [← map_parts parts] at f1
    simp only [execOp,ho,Instr.build,zeroValue,typeInfo,Sem.run_bind,Sem.run_pure,Result.andThen_ok,run_program,hi,hzv,run_underlying g1 w,hplaces,Value.cells]
    rw [f1]
    rfl
  · rename_i k s zs
    obtain ⟨hp, h⟩ := h
    obtain ⟨e, g1, g2⟩ := SH_array hs
    obtain ⟨inf, _, h4, _, h5, _⟩ := shOf_spec g2
    obtain ⟨cs, rfl, hcr⟩ := (hV ρ w).1.agg
    obtain ⟨cells', f1, f2, f3⟩ := fill_parts hT (fun i => some (i * inf.size, inf.size)) (fun i => if i < k then some s else none) (.arr k s) (by simp) (fun i s' hi => by
      split at hi
      · injection hi with hi
        subst hi
        exact ⟨by simp [Sh.at], by simp [h5, Sh.off]⟩
      · cases hi) (fun vs hvs i s' hi => by
      simp only [Has] at hvs
      split at hi
      · omega
      · cases hi) parts.toList zs cs hH hcr hp
    refine runs_value (x := .agg cells') ?_ h ⟨_, rfl, f3⟩ hh
    rw [← map_parts parts] at f1
    simp only [execOp,ho,Instr.build,zeroValue,typeInfo,sizeOf,Sem.run_bind,Sem.run_pure,Result.andThen_ok,run_program,hi,hzv,h4,run_underlying g1 w,Value.cells]
    rw [f1]
    rfl
  · exact h.elim
end
end Go.Proofs.Ytlgldkjjbbbapaa.V
end
section
/-
  A MACHINE OF VALUES, EIGHTH PART: slices: literals, made, cut, grown.
-/
set_option linter.unusedVariables false
set_option linter.unusedSectionVars false
set_option linter.unusedSimpArgs false
namespace Go.Proofs.Ytlgldkjjbbbapaa.V
open Go Go.RowKit

/-! ### many zero values -/
theorem zeros_flat (z : Array Value) : ∀ (c : Nat), ((Array.range (c * z.size)).map (fun j => z[j % z.size]!)).toList = (List.replicate c z.toList).flatten := by
  intro c
  induction c with
  | zero => simp
  | succ c ih =>
    rw [List.replicate_succ', List.flatten_append, ← ih]
    simp only [Array.toList_map,Array.toList_range,List.flatten_cons,List.flatten_nil,List.append_nil]
    rw [Nat.succ_mul, List.range_add, List.map_append, List.map_map]
    congr 1
    apply List.ext_getElem (by simp)
    intro i h1 h2
    simp only [List.getElem_map,List.getElem_range,Function.comp_apply]
    have hi : i < z.size := by simpa using h2
    rw [Nat.mul_add_mod_self_right, Nat.mod_eq_of_lt hi]
    simp [hi]
section
variable {P : Program} {Z : Nat → Nat → Prop} [Zone Z] {B : Nat} {ρ : Names} {w : World} {H : Heap} {n : Nat} {tm : Nat → VV} {a : Act} {K : VV → Heap → Nat → Prop} {o : Oper}
theorem CR.zeros {z : VV} {zc : List Value} (h : C1 ρ w z zc) : ∀ (c : Nat), CR ρ w (List.replicate c z) (List.replicate c zc).flatten
  | 0 => by simp only [CR,List.replicate_zero,List.flatten_nil]
  | c + 1 => by
    simp only [List.replicate_succ,List.flatten_cons,CR]
    exact ⟨_, _, rfl, h, CR.zeros h c⟩
theorem buildSlice_sound (hT : TM ρ w tm a) (hh : HR Z B ρ H n w) (hG : Gives Z n K) (t : TypeId) (len : Nat) (parts : Array (Nat × Operand)) (ho : o.op = .buildSlice t len parts) (h : vBuildSlice P (ev tm) H n K t len parts.toList) : Runs P Z B K ρ w (execOp a.eval o) := by
  unfold vBuildSlice at h
  replace h := bnd_iff.1 h
  obtain ⟨et, het, h⟩ := h
  replace h := bnd_iff.1 h
  obtain ⟨s, hs, h⟩ := h
  replace h := bnd_iff.1 h
  obtain ⟨z, hz, ⟨hp, hlim, hs0⟩, h⟩ := h
  obtain ⟨s', zv, i, hs', hi, hzv, hH, hsz, hV⟩ := ZE_spec hz
  rw [hs] at hs'
  injection hs' with hs'
  subst hs'
  have hul := EL_spec het
  obtain ⟨i', d, hi', hu, hisz, hrow⟩ := shOf_spec hs
  rw [hi] at hi'
  injection hi' with hi'
  subst hi'
  have hcells : ((Array.range (len * i.size)).map (fun j => zv.cells[j % zv.cells.size]!)).toList = (List.replicate len zv.cells.toList).flatten := by
    rw [hisz, ← hsz]; exact zeros_flat zv.cells len
  have hz0 := CR.zeros (hV ρ w).2 len
  rw [← hcells] at hz0
  obtain ⟨cells', f1, f2, f3⟩ := fill_parts hT (fun j => some (j * i.size, i.size)) (fun j => if j < len then some s else none) (.arr len s) (by simp) (fun j s' hj => by
      split at hj
      · injection hj with hj
        subst hj
        exact ⟨by simp [Sh.at], by simp [hisz, Sh.off]⟩
      · cases hj) (fun vs hvs j s' hj => by
      simp only [Has] at hvs
      split at hj
      · omega
      · cases hj) parts.toList (List.replicate len z) _ (by simp only [Has]; exact ⟨by simp, fun v hv => by rw [List.eq_of_mem_replicate hv]; exact hH⟩) hz0 hp
  obtain ⟨l, e1, e2, e3, e4, h1, h2, h3⟩ := new_block (s := .arr len s) (v := .agg (setParts (ev tm) parts.toList (List.replicate len z))) (cs := cells'.toList) hh (hG.one h) (t := et) (cells := cells') (tail := []) f2 (by simp only [C1]; exact f3) (by simp)
  refine .inl ⟨.slice (some ⟨w.heap.size, 0, none⟩) len len, _, ?_, _, _, _, _, h, ?_, h1, h2, h3⟩
  · rw [← map_parts parts] at f1
    have hlim' : ¬ (len * i.size > 2 ^ 24) := by rw [hisz]; omega
    simp only [execOp,ho,Instr.buildSlice,Sem.run_bind,run_underlying hul w,Result.andThen_ok,sizeOf,typeInfo,run_program,hi,Sem.run_pure]
    rw [if_neg hlim']
    by_cases h0 : len * i.size = 0
    · have hl0 : len = 0 := by
        rcases Nat.mul_eq_zero.1 h0 with h0 | h0
        · exact h0
        · omega
      subst hl0
      have hr : ∀ f : Nat → Value, (Array.range 0).map f = #[] := fun f => by apply Array.ext'; simp
      simp only [Nat.zero_mul,hr] at f1
      simp only [Nat.zero_mul,if_true,Sem.run_bind,Sem.run_pure,Result.andThen_ok,hr]
      rw [f1]
      simp only [newRow,Sem.run_bind,Sem.run_pure,run_newObj,Result.andThen_ok]
      rfl
    · rw [if_neg h0]
      simp only [Sem.run_bind,zeroValue,typeInfo,run_program,hi,hzv,Sem.run_pure,Result.andThen_ok]
      rw [f1]
      simp only [newRow,Sem.run_bind,Sem.run_pure,run_newObj,Result.andThen_ok]
      rfl
  · simp only [VR,VR1,C1]
    have hlen := HasA.len (ρ := ρ) (w := w) (s := s) _ _ (by simp only [Has] at f2; exact f2.2) f3
    simp only [Has] at f2
    rw [f2.1, Array.length_toList] at hlen
    refine .inr ⟨l, len, s, len, by rw [give_ap, if_pos rfl], by rw [e1, e2, e4]; simp [Sh.off], Nat.le_refl _, by rw [e4]; rfl, ?_⟩
    rw [e4, e3, hlen]
    simp [Sh.off]
theorem makeSlice_sound (hT : TM ρ w tm a) (hh : HR Z B ρ H n w) (hG : Gives Z n K) (t : TypeId) (l c : Operand) (ho : o.op = .makeSlice t l c) (h : vMakeSlice P (ev tm) H n K t l c) : Runs P Z B K ρ w (execOp a.eval o) := by
  unfold vMakeSlice onV at h
  dsimp only at h
  have hl := ev_sound hT l
  have hc := ev_sound hT c
  split at h
  · rename_i k1 i k2 j e1 e2
    rw [e1] at hl
    rw [e2] at hc
    replace h := bnd_iff.1 h
    obtain ⟨et, het, h⟩ := h
    replace h := bnd_iff.1 h
    obtain ⟨s, hs, h⟩ := h
    replace h := bnd_iff.1 h
    obtain ⟨z, hz, ⟨hi0, hij, hj, hby⟩, h⟩ := h
    obtain ⟨s', zv, inf, hs', hi, hzv, hH, hsz, hV⟩ := ZE_spec hz
    rw [hs] at hs'
    injection hs' with hs'
    subst hs'
    have hul := EL_spec het
    obtain ⟨inf', d, hi', hu, hisz, hrow⟩ := shOf_spec hs
    rw [hi] at hi'
    injection hi' with hi'
    subst hi'
    have hcells : ((Array.range (j.toNat * inf.size)).map (fun j => zv.cells[j % zv.cells.size]!)).toList = (List.replicate j.toNat zv.cells.toList).flatten := by
      rw [hisz, ← hsz]; exact zeros_flat zv.cells _
    have hsplit : (List.replicate j.toNat zv.cells.toList).flatten = (List.replicate i.toNat zv.cells.toList).flatten ++ (List.replicate (j.toNat - i.toNat) zv.cells.toList).flatten := by
      rw [← List.flatten_append, List.replicate_append_replicate]
      congr 2
      omega
    have hHas : Has (.arr i.toNat s) (.agg (List.replicate i.toNat z)) := by
      simp only [Has]; exact ⟨by simp, fun v hv => by rw [List.eq_of_mem_replicate hv]; exact hH⟩
    obtain ⟨lo, g1, g2, g3, g4, h1, h2, h3⟩ := new_block (s := .arr i.toNat s) (v := .agg (List.replicate i.toNat z)) hh (hG.one h) (t := et) hHas (by simp only [C1]; exact CR.zeros (hV ρ w).2 i.toNat) (hcells.trans hsplit)
    refine .inl ⟨.slice (some ⟨w.heap.size, 0, none⟩) i.toNat j.toNat, _, ?_, _, _, _, _, h, ?_, h1, h2, h3⟩
    · have hw1 : IntKind.i64.wrap i = i := by simp [IntKind.wrap, IntKind.bits, IntKind.signed]; omega
      have hw2 : IntKind.i64.wrap j = j := by simp [IntKind.wrap, IntKind.bits, IntKind.signed]; omega
      have hbyv : inf.bytes ≤ 200 := by simpa [BY, hi] using hby
      have hbj : (inf.bytes : Int) * j ≤ 2 ^ 48 := by
        have : (inf.bytes : Int) * j ≤ 200 * 1000000000000 := Int.mul_le_mul (by omega) hj (by omega) (by omega)
        omega
      have hf : (decide (j < 0) || decide ((inf.bytes : Int) * j > 2 ^ 48) || decide (i < 0) || decide (i > j)) = false := by
        simp only [Bool.or_eq_false_iff,decide_eq_false_iff_not]
        omega
      have ht : (askRoom (j.toNat * inf.bytes)).run P w = .ok () w := by
        unfold askRoom
        split <;> simp
      simp only [execOp,ho,Instr.makeSlice,hl.int,hc.int,Sem.run_bind,run_underlying hul w,Result.andThen_ok,sizeOf,typeInfo,run_program,hi,Sem.run_pure,asInt,asIntOf,hw1,hw2]
      rw [if_neg (by rw [hf]; simp)]
      simp only [Sem.run_bind,ht,Result.andThen_ok,Sem.run_pure,run_program,hi]
      by_cases h0 : j.toNat * inf.size = 0
      · have hr : ∀ f : Nat → Value, (Array.range 0).map f = #[] := fun f => by apply Array.ext'; simp
        simp only [h0,if_true,Sem.run_bind,Sem.run_pure,Result.andThen_ok,newRow,run_newObj,hr]
        rfl
      · rw [if_neg h0]
        simp only [Sem.run_bind,zeroValue,typeInfo,run_program,hi,hzv,Sem.run_pure,Result.andThen_ok,newRow,run_newObj]
        rfl
    · simp only [VR,VR1,C1]
      refine .inr ⟨lo, j.toNat, s, i.toNat, by rw [give_ap, if_pos rfl], by rw [g1, g2, g4]; simp [Sh.off], by omega, by rw [g4]; rfl, ?_⟩
      rw [g4, g3]
      simp [Sh.off, hisz]
  · exact h.elim
end
end Go.Proofs.Ytlgldkjjbbbapaa.V
end
section
/-
  A MACHINE OF VALUES, NINTH PART: slices cut, and grown; bytes and strings.
-/
set_option linter.unusedVariables false
set_option linter.unusedSectionVars false
set_option linter.unusedSimpArgs false
namespace Go.Proofs.Ytlgldkjjbbbapaa.V
open Go Go.RowKit

def lohi (lo hi : Option VV) (len : Nat) (k : Nat → Nat → Prop) : Prop := match lo, hi with
  | none, none => k 0 len
  | some a, none => onV a fun a => match a with
    | .int _ i => cnd (0 ≤ i ∧ i ≤ len) (k i.toNat len)
    | _ => False
  | none, some b => onV b fun b => match b with
    | .int _ j => cnd (0 ≤ j ∧ j ≤ len) (k 0 j.toNat)
    | _ => False
  | some a, some b => onV a fun a => onV b fun b => match a, b with
    | .int _ i, .int _ j => cnd (0 ≤ i ∧ i ≤ j ∧ j ≤ len) (k i.toNat j.toNat)
    | _, _ => False
def encB (x : UInt8) : VV := .int .u8 (x.toNat : Int)
section
variable (P : Program) (e : Operand → VV) (H : Heap) (n : Nat) (K : VV → Heap → Nat → Prop)
def vSlice (t : TypeId) (x : Operand) (lo hi : Option Operand) : Prop := onV (e x) fun v => match v with
  | .str s => bnd (P.underlying t) fun u => match u with
    | .string => lohi (lo.map e) (hi.map e) s.length fun i j => K (.str ((s.drop i).take (j - i))) H n
    | _ => False
  | .sl (some (m, p, i0)) len => bnd (H m) fun b => match b with
    | .row s _ => bnd (EL P t) fun et => bnd (SH P et) fun se => bnd (s.at p) fun sa => match sa with
      | .arr _ s' => cnd (s' = se) (lohi (lo.map e) (hi.map e) len fun i j => K (.sl (some (m, p, i0 + i)) (j - i)) H n)
      | _ => False
    | _ => False
  | .dat s els => bnd (EL P t) fun et => bnd (SH P et) fun se => cnd (s = se) (lohi (lo.map e) (hi.map e) els.length fun i j => K (.dat s ((els.drop i).take (j - i))) H n)
  | .ptr m p => bnd (H m) fun b => match b with
    | .row s c => bnd (SH P t) fun st => cnd (s.at p = some st) (match st with
      | .arr len _ => bnd (c.get p) fun _ => lohi (lo.map e) (hi.map e) len fun i j => K (.sl (some (m, p, i)) (j - i)) H n
      | _ => False)
    | _ => False
  | .pd s (.agg vs) => bnd (SH P t) fun st => cnd (s = st) (match st with
      | .arr len s' => lohi (lo.map e) (hi.map e) len fun i j => K (.dat s' ((vs.drop i).take (j - i))) H n
      | _ => False)
  | _ => False
def srcOf (H : Heap) (se : Sh) (u : TypeDesc) (v : VV) (k : List VV → Option Nat → Prop) : Prop := onV v fun v => match u, v with
  | .slice _, .sl none 0 => k [] none
  | .slice _, .sl (some (m, p, i)) len => bnd (H m) fun b => match b with
    | .row s c => cnd (∃ j, s.at p = some (.arr j se)) (bnd (c.get p) fun c => match c with
      | .agg els => cnd (i + len ≤ els.length) (k ((els.drop i).take len) (some m))
      | _ => False)
    | _ => False
  | .slice _, .dat s els => cnd (s = se) (k els none)
  | .string, .str s => cnd (se = .cell) (k (s.map encB) none)
  | _, _ => False
def vAppend (ts : Array TypeId) (s x : Operand) : Prop := bnd (ts[0]?) fun t => bnd (ts[1]?) fun tx => bnd (EL P t) fun et => bnd (SH P et) fun se => bnd (ZE P et) fun z => bnd (P.underlying tx) fun u =>
  srcOf H se u (e x) fun news m2 => onV (e s) fun v => match v with
    | .sl none 0 => cnd (news.length * BY P et ≤ 140737488355328 ∧ news.length ≤ 1000000000000) (K (.sl (some (n, [], 0)) news.length) (upd H n (some (.row (.arr news.length se) (.agg news)))) (n + 1))
    | .sl (some (m, [], 0)) len => bnd (H m) fun b => match b with
      | .row (.arr _ s') (.agg els) => cnd (s' = se ∧ len = els.length ∧ m2 ≠ some m ∧ (len + news.length) * BY P et ≤ 140737488355328 ∧ len + news.length ≤ 1000000000000)
          (K (.sl (some (n, [], 0)) (len + news.length)) (upd (upd H m none) n (some (.row (.arr (len + news.length) se) (.agg (els ++ news))))) (n + 1))
      | _ => False
    | _ => False
end

section
variable {P : Program} {Z : Nat → Nat → Prop} [Zone Z] {B : Nat} {ρ : Names} {w : World} {H : Heap} {n : Nat} {tm : Nat → VV} {a : Act} {K : VV → Heap → Nat → Prop} {o : Oper}
theorem lohi_sound (hT : TM ρ w tm a) (lo hi : Option Operand) (len : Nat) (k : Nat → Nat → Prop) (h : lohi (lo.map (ev tm)) (hi.map (ev tm)) len k) :
    ∃ i j, i ≤ j ∧ j ≤ len ∧ k i j ∧ ∀ (b : Bool) (cap : Nat), len ≤ cap → (Instr.sliceBounds b len cap (lo.map a.eval) (hi.map a.eval) none).run P w = .ok (i, j, cap) w := by
  cases lo with
  | none =>
    cases hi with
    | none =>
      exact ⟨0, len, Nat.zero_le _, Nat.le_refl _, h, fun b cap hc => by simp [Instr.sliceBounds]⟩
    | some y =>
      simp only [lohi,Option.map_some,Option.map_none,onV] at h
      have hy := ev_sound hT y
      split at h
      · rename_i kk j e
        rw [e] at hy
        obtain ⟨⟨h1, h2⟩, h⟩ := h
        refine ⟨0, j.toNat, Nat.zero_le _, by omega, h, fun b cap hc => ?_⟩
        simp [Instr.sliceBounds, Instr.sliceBound, hy.int, asIntOf, show 0 ≤ j ∧ j ≤ (cap : Int) by omega]
      · exact h.elim
  | some x =>
    have hx := ev_sound hT x
    cases hi with
    | none =>
      simp only [lohi,Option.map_some,Option.map_none,onV] at h
      split at h
      · rename_i kk i e
        rw [e] at hx
        obtain ⟨⟨h1, h2⟩, h⟩ := h
        refine ⟨i.toNat, len, by omega, Nat.le_refl _, h, fun b cap hc => ?_⟩
        simp [Instr.sliceBounds, Instr.sliceBound, hx.int, asIntOf, show 0 ≤ i ∧ i ≤ (len : Int) by omega]
      · exact h.elim
    | some y =>
      have hy := ev_sound hT y
      simp only [lohi,Option.map_some,onV] at h
      split at h
      · rename_i k1 i k2 j e1 e2
        rw [e1] at hx
        rw [e2] at hy
        obtain ⟨⟨h1, h2, h3⟩, h⟩ := h
        refine ⟨i.toNat, j.toNat, by omega, by omega, h, fun b cap hc => ?_⟩
        have e3 : 0 ≤ j ∧ j ≤ (cap : Int) := by omega
        have e4 : 0 ≤ i ∧ i ≤ ((j.toNat : Nat) : Int) := by omega
        simp only [Instr.sliceBounds,Instr.sliceBound,hx.int,hy.int,asIntOf,Option.map_some,Sem.run_bind,Sem.run_pure,Result.andThen_ok]
        rw [if_pos e3]
        simp only [Sem.run_pure,Result.andThen_ok]
        rw [if_pos e4]
        simp only [Sem.run_pure,Result.andThen_ok]
      · exact h.elim
theorem VR_nil {m i : Nat} {p : List Nat} (A : Option Addr) : VR ρ w (.sl (some (m, p, i)) 0) (.slice A 0 0) := by
  simp only [VR,VR1,C1]
  exact .inl ⟨trivial, A, rfl⟩
theorem CR.part {els : List VV} {ecs : List Value} {s : Sh} (h : CR ρ w els ecs) (hs : ∀ e ∈ els, Has s e) (i j : Nat) (hij : i ≤ j) (hj : j ≤ els.length) :
    ∃ pre mid post, ecs = pre ++ mid ++ post ∧ pre.length = i * s.size ∧ mid.length = (j - i) * s.size ∧ CR ρ w ((els.drop i).take (j - i)) mid := by
  have e1 : els = els.take i ++ ((els.drop i).take (j - i) ++ (els.drop i).drop (j - i)) := by rw [List.take_append_drop, List.take_append_drop]
  rw [e1] at h
  obtain ⟨c1, c2, rfl, h1, h2⟩ := CR.split _ _ _ h
  obtain ⟨c3, c4, rfl, h3, h4⟩ := CR.split _ _ _ h2
  have l1 := HasA.len (ρ := ρ) (w := w) (s := s) _ c1 (fun v hv => hs v (List.mem_of_mem_take hv)) h1
  have l3 := HasA.len (ρ := ρ) (w := w) (s := s) _ c3 (fun v hv => hs v (List.mem_of_mem_drop (List.mem_of_mem_take hv))) h3
  rw [List.length_take, Nat.min_eq_left (by omega)] at l1
  rw [List.length_take, List.length_drop, Nat.min_eq_left (by omega)] at l3
  exact ⟨c1, c3, c4, by simp, l1, l3, h3⟩
theorem slice_sound (hT : TM ρ w tm a) (hh : HR Z B ρ H n w) (t : TypeId) (x : Operand) (lo hi : Option Operand) (ho : o.op = .slice t x lo hi none) (h : vSlice P (ev tm) H n K t x lo hi) : Runs P Z B K ρ w (execOp a.eval o) := by
  unfold vSlice onV at h
  dsimp only at h
  have hx := ev_sound hT x
  split at h
  · rename_i s e
    rw [e] at hx
    replace h := bnd_iff.1 h
    obtain ⟨u, hu, h⟩ := h
    cases u <;> first | exact h.elim | skip
    obtain ⟨i, j, hij, hj, h, hb⟩ := lohi_sound (P := P) hT lo hi s.length _ h
    refine runs_value (x := .string ⟨((s.drop i).take (j - i)).toArray⟩) ?_ h VR_str hh
    have hsz : (ByteArray.mk s.toArray).size = s.length := by show s.toArray.size = _; simp
    have hex : (ByteArray.mk s.toArray).extract i j = ⟨((s.drop i).take (j - i)).toArray⟩ := by
      apply ByteArray.ext
      simp
    simp only [execOp,ho,hx.str,Instr.sliceAt,Instr.slice,Sem.run_bind,run_underlying hu w,Result.andThen_ok,Option.isSome_none,Bool.false_eq_true,if_false,hsz,Option.map_none,hb false s.length (Nat.le_refl _),Sem.run_pure,hex]
  · rename_i m p i0 len e
    rw [e] at hx
    replace h := bnd_iff.1 h
    obtain ⟨blk, hbk, h⟩ := h
    cases blk with
    | map es => exact h.elim
    | row s c =>
      replace h := bnd_iff.1 h
      obtain ⟨et, het, h⟩ := h
      replace h := bnd_iff.1 h
      obtain ⟨se, hse, h⟩ := h
      replace h := bnd_iff.1 h
      obtain ⟨sa, hsa, h⟩ := h
      cases sa with
      | cell => exact h.elim
      | st _ => exact h.elim
      | arr kk s' =>
        obtain ⟨rfl, h⟩ := h
        obtain ⟨i, j, hij, hj, h, hb⟩ := lohi_sound (P := P) hT lo hi len _ h
        have hul := EL_spec het
        obtain ⟨inf, d, hinf, hu, hsz, hrow⟩ := shOf_spec hse
        rcases hx.sl with ⟨rfl, A, hp⟩ | ⟨l, cap, e', j', hl, hp, hcap, hate, hroom⟩
        · obtain rfl : j = 0 := by omega
          obtain rfl : i = 0 := by omega
          refine runs_value (x := .slice A 0 0) ?_ h (VR_nil A) hh
          simp only [execOp,ho,hp,Instr.sliceAt,Instr.slice,Sem.run_bind,run_underlying hul w,Result.andThen_ok,Option.map_none,hb true 0 (Nat.le_refl _),Sem.run_pure,sizeOf,typeInfo,run_program,hinf]
          simp
        · have hrowAt := hh.row m s c l hbk hl
          have hse' : e' = s' := by
            rw [hrowAt.sh, hsa] at hate
            injection hate with hate
            injection hate with _ hate
            exact hate.symm
          subst hse'
          have hrun : (execOp a.eval o).run P w = .ok (.value (.slice (if cap = i then some ⟨l.block, l.base + l.sh.off (p ++ [i0]), none⟩ else some ⟨l.block, l.base + l.sh.off (p ++ [i0]) + i * e'.size, none⟩) (j - i) (cap - i))) w := by
            simp only [execOp,ho,hp,Instr.sliceAt,Instr.slice,Sem.run_bind,run_underlying hul w,Result.andThen_ok,Option.map_none,hb true cap hcap,Sem.run_pure,sizeOf,typeInfo,run_program,hinf,hsz]
            simp [Addr.add_mid]
          refine runs_value hrun h ?_ hh
          simp only [VR,VR1,C1]
          by_cases hci : cap = i
          · rw [if_pos hci]
            exact .inl ⟨by omega, _, by rw [show j - i = 0 by omega, show cap - i = 0 by omega]⟩
          · rw [if_neg hci]
            have hoff : l.sh.off (p ++ [i0 + i]) = l.sh.off (p ++ [i0]) + i * e'.size := by
              rw [hrowAt.sh, (at_append p s _ [i0 + i] hsa).2, (at_append p s _ [i0] hsa).2]
              simp only [Sh.off,Nat.add_zero,Nat.add_mul]
              rw [Nat.add_assoc]
            refine .inr ⟨l, cap - i, e', j', hl, by rw [hoff, Nat.add_assoc], by omega, hate, ?_⟩
            rw [hoff]
            have : cap * e'.size = i * e'.size + (cap - i) * e'.size := by rw [← Nat.add_mul]; congr 1; omega
            omega
  · rename_i s els e
    rw [e] at hx
    replace h := bnd_iff.1 h
    obtain ⟨et, het, h⟩ := h
    replace h := bnd_iff.1 h
    obtain ⟨se, hse, rfl, h⟩ := h
    obtain ⟨i, j, hij, hj, h, hb⟩ := lohi_sound (P := P) hT lo hi els.length _ h
    have hul := EL_spec het
    obtain ⟨inf, d, hinf, hu, hsz, hrow⟩ := shOf_spec hse
    obtain ⟨A, cap, hp, hcap, hne⟩ := hx.dat
    have hrun : (execOp a.eval o).run P w = .ok (.value (.slice (if cap = i then A else A.map (·.add (i * s.size))) (j - i) (cap - i))) w := by
      simp only [execOp,ho,hp,Instr.sliceAt,Instr.slice,Sem.run_bind,run_underlying hul w,Result.andThen_ok,Option.map_none,hb true cap hcap,Sem.run_pure,sizeOf,typeInfo,run_program,hinf,hsz]
    refine runs_value hrun h ?_ hh
    simp only [VR,VR1,C1]
    refine ⟨_, cap - i, by simp only [List.length_take,List.length_drop]; rw [Nat.min_eq_left (by omega)], by simp only [List.length_take,List.length_drop]; omega, fun hnil => ?_⟩
    have hlt : i < j := by
      rcases Nat.lt_or_ge i j with h | h
      · exact h
      · exact absurd (by rw [show j - i = 0 by omega]; rfl) hnil
    obtain ⟨b, f, ecs, rfl, g1, g2, g3, g4, g5⟩ := hne (by intro e; rw [e] at hj; simp at hj; omega)
    obtain ⟨pre, mid, post, rfl, k1, k2, k3⟩ := CR.part g1 g2 i j hij hj
    rw [if_neg (by omega)]
    exact ⟨b, f + i * s.size, mid, by simp [Addr.add_mid], k3, fun v hv => g2 v (List.mem_of_mem_drop (List.mem_of_mem_take hv)), by rw [← k1]; exact range_part g3, g4, g5⟩
  · rename_i m p e
    rw [e] at hx
    obtain ⟨l, hl, hp⟩ := hx.ptr
    replace h := bnd_iff.1 h
    obtain ⟨blk, hbk, h⟩ := h
    cases blk with
    | map es => exact h.elim
    | row s c =>
      replace h := bnd_iff.1 h
      obtain ⟨st, hst, hat, h⟩ := h
      cases st with
      | cell => exact h.elim
      | st _ => exact h.elim
      | arr len s' =>
        replace h := bnd_iff.1 h
        obtain ⟨u, hcg, h⟩ := h
        obtain ⟨i, j, hij, hj, h, hb⟩ := lohi_sound (P := P) hT lo hi len _ h
        obtain ⟨et, hul, hse⟩ := SH_array hst
        obtain ⟨inf, d, hinf, hu, hsz, hrow⟩ := shOf_spec hse
        have hrowAt := hh.row m s c l hbk hl
        have hrun : (execOp a.eval o).run P w = .ok (.value (.slice (some (if len = i then ⟨l.block, l.base + l.sh.off p, none⟩ else ⟨l.block, l.base + l.sh.off p + i * s'.size, none⟩)) (j - i) (len - i))) w := by
          simp only [execOp,ho,hp,Instr.sliceAt,Instr.sureAddr,Sem.run_bind,run_underlying hul w,Result.andThen_ok,Option.map_none,hb false len (Nat.le_refl _),Sem.run_pure,sizeOf,typeInfo,run_program,hinf,hsz]
          simp [Addr.add_mid]
        refine runs_value hrun h ?_ hh
        simp only [VR,VR1,C1]
        by_cases hci : len = i
        · rw [if_pos hci]
          exact .inl ⟨by omega, _, by rw [show j - i = 0 by omega, show len - i = 0 by omega]⟩
        · rw [if_neg hci]
          have hoff : l.sh.off (p ++ [i]) = l.sh.off p + i * s'.size := by
            rw [hrowAt.sh, (at_append p s _ [i] hat).2]
            simp [Sh.off]
          refine .inr ⟨l, len - i, s', len, hl, by rw [hoff, Nat.add_assoc], by omega, by rw [hrowAt.sh]; exact hat, ?_⟩
          rw [hoff]
          obtain ⟨cs, q1, q2, q3⟩ := hrowAt.cells
          obtain ⟨su, pre, mid, post, k1, k2, rfl, k4, k5, _, _⟩ := focus p s c u cs hrowAt.has hcg q1
          rw [hat] at k1
          injection k1 with k1
          subst k1
          have hml := Has.len _ _ _ k2 k5
          simp only [Sh.size] at hml
          simp only [List.length_append] at q2
          have : len * s'.size = i * s'.size + (len - i) * s'.size := by rw [← Nat.add_mul]; congr 1; omega
          rw [hrowAt.sh]
          omega
  · rename_i s vs e
    rw [e] at hx
    obtain ⟨b, g, ecs, hp, g1, g2, g3, g4, g5⟩ := hx.pd
    replace h := bnd_iff.1 h
    obtain ⟨st, hst, rfl, h⟩ := h
    cases s with
    | cell => exact h.elim
    | st _ => exact h.elim
    | arr len s' =>
      obtain ⟨i, j, hij, hj, h, hb⟩ := lohi_sound (P := P) hT lo hi len _ h
      obtain ⟨et, hul, hse⟩ := SH_array hst
      obtain ⟨inf, d, hinf, hu, hsz, hrow⟩ := shOf_spec hse
      have hrun : (execOp a.eval o).run P w = .ok (.value (.slice (some (if len = i then ⟨b, g, none⟩ else ⟨b, g + i * s'.size, none⟩)) (j - i) (len - i))) w := by
        simp only [execOp,ho,hp,Instr.sliceAt,Instr.sureAddr,Sem.run_bind,run_underlying hul w,Result.andThen_ok,Option.map_none,hb false len (Nat.le_refl _),Sem.run_pure,sizeOf,typeInfo,run_program,hinf,hsz]
        simp [Addr.add_mid]
      refine runs_value hrun h ?_ hh
      simp only [Has] at g2
      simp only [C1] at g1
      simp only [VR,VR1,C1]
      have hvl := g2.1
      refine ⟨_, len - i, by simp only [List.length_take,List.length_drop]; rw [Nat.min_eq_left (by omega)], by simp only [List.length_take,List.length_drop]; omega, fun hnil => ?_⟩
      have hlt : i < j := by
        rcases Nat.lt_or_ge i j with h | h
        · exact h
        · exact absurd (by rw [show j - i = 0 by omega]; rfl) hnil
      obtain ⟨pre, mid, post, rfl, k1, k2, k3⟩ := CR.part g1 g2.2 i j hij (by omega)
      rw [if_neg (by omega)]
      exact ⟨b, _, mid, rfl, k3, fun v hv => g2.2 v (List.mem_of_mem_drop (List.mem_of_mem_take hv)), by rw [← k1]; exact range_part g3, g4, g5⟩
  · exact h.elim
end
end Go.Proofs.Ytlgldkjjbbbapaa.V
end
section
/-
  A MACHINE OF VALUES, TENTH PART: append.
-/
set_option linter.unusedVariables false
set_option linter.unusedSectionVars false
set_option linter.unusedSimpArgs false
namespace Go.Proofs.Ytlgldkjjbbbapaa.V
open Go Go.RowKit

section
variable {P : Program} {Z : Nat → Nat → Prop} [Zone Z] {B : Nat} {ρ ρ' : Names} {w w' : World} {H : Heap} {n : Nat} {tm : Nat → VV} {a : Act} {K : VV → Heap → Nat → Prop} {o : Oper}
theorem HR.drop (h : HR Z B ρ H n w) (m : Nat) : HR Z B ρ (upd H m none) n w := by
  have key : ∀ k b, (upd H m none) k = some b → H k = some b := fun k b hk => by
    rw [upd_ap] at hk
    split at hk
    · cases hk
    · exact hk
  have key2 : ∀ k, (upd H m none) k ≠ none → H k ≠ none := fun k hk => by
    rw [upd_ap] at hk
    split at hk
    · exact absurd rfl hk
    · exact hk
  exact ⟨h.base, h.fresh, h.lt, fun m1 m2 l1 l2 h1 h2 g1 g2 => h.apart m1 m2 l1 l2 h1 h2 (key2 _ g1) (key2 _ g2), fun k s v l hk => h.row k s v l (key k _ hk), fun k es l hk => h.map k es l (key k _ hk)⟩
theorem HR.ghost (h : HR Z B ρ H n w) {k : Nat} (hk : ρ k = none) (b : Blk) : HR Z B ρ (upd H k (some b)) n w := by
  have hn : ∀ m l, ρ m = some l → m ≠ k := fun m l hm e => by rw [e, hk] at hm; cases hm
  refine ⟨h.base, h.fresh, h.lt, fun m1 m2 l1 l2 h1 h2 g1 g2 => ?_, fun m s v l hm hl => ?_, fun m es l hm hl => ?_⟩
  · rw [upd_ap, if_neg (hn m1 l1 h1)] at g1
    rw [upd_ap, if_neg (hn m2 l2 h2)] at g2
    exact h.apart m1 m2 l1 l2 h1 h2 g1 g2
  · rw [upd_ap, if_neg (hn m l hl)] at hm
    exact h.row m s v l hm hl
  · rw [upd_ap, if_neg (hn m l hl)] at hm
    exact h.map m es l hm hl
theorem HR.again (h : HR Z B ρ H n w) (hZ : Zone.ok Z n) {m : Nat} {l0 l : Loc} (hl0 : ρ m = some l0) (hlive : H m ≠ none) (hblk : l.block = l0.block) (hsz : w'.heap.size = w.heap.size) (hb : ∀ b, b ≠ l.block → w'.heap[b]? = w.heap[b]?) {s : Sh} {v : VV}
    (hr : RowAt (ρ.give n l) w' l s v) : HR Z B (ρ.give n l) (upd (upd H m none) n (some (.row s v))) (n + 1) w' ∧ Ext ρ w (ρ.give n l) w' := by
  have hfr := h.fresh n (Zone.free n hZ)
  have he : Ext ρ w (ρ.give n l) w' := ext_new hfr l (by omega) (fun b _ hb' => hb b hb') (.inr ⟨m, l0, hl0, hblk.symm⟩)
  have hother : ∀ k b l', k ≠ n → (upd (upd H m none) n (some (Blk.row s v))) k = some b → ρ k = some l' → H k = some b ∧ l'.block ≠ l.block := by
    intro k b l' hk hkb hl'
    rw [upd_ap, if_neg hk, upd_ap] at hkb
    split at hkb
    · cases hkb
    · rename_i hkm
      exact ⟨hkb, fun e => hkm (h.apart k m l' l0 hl' hl0 (by rw [hkb]; simp) hlive (e.trans hblk))⟩
  refine ⟨⟨by rw [hsz]; exact h.base, fun k hz => ?_, fun k l' hk => ?_, fun m1 m2 l1 l2 h1 h2 g1 g2 heq => ?_, fun k s' v' l' hk hl' => ?_, fun k es l' hk hl' => ?_⟩, he⟩
  · rw [give_ap, if_neg (Zone.next _ _ hZ hz)]
    exact h.fresh k (Zone.mono _ _ _ (Nat.le_succ _) hz)
  · rw [give_ap] at hk
    have h0 := h.lt m l0 hl0
    split at hk
    · injection hk with hk
      subst hk
      exact ⟨by rw [hblk]; exact h0.1, by rw [hblk, hsz]; exact h0.2⟩
    · have := h.lt k l' hk
      exact ⟨this.1, by rw [hsz]; exact this.2⟩
  · by_cases e1 : m1 = n
    · by_cases e2 : m2 = n
      · omega
      · exfalso
        rw [give_ap, if_pos e1] at h1
        injection h1 with h1
        rw [give_ap, if_neg e2] at h2
        obtain ⟨b, hb2⟩ := Option.ne_none_iff_exists'.1 g2
        have := (hother m2 b l2 e2 hb2 h2).2
        rw [h1] at this
        exact this heq.symm
    · by_cases e2 : m2 = n
      · exfalso
        rw [give_ap, if_pos e2] at h2
        injection h2 with h2
        rw [give_ap, if_neg e1] at h1
        obtain ⟨b, hb2⟩ := Option.ne_none_iff_exists'.1 g1
        have := (hother m1 b l1 e1 hb2 h1).2
        rw [h2] at this
        exact this heq
      · rw [give_ap, if_neg e1] at h1
        rw [give_ap, if_neg e2] at h2
        obtain ⟨b1, hb1⟩ := Option.ne_none_iff_exists'.1 g1
        obtain ⟨b2, hb2⟩ := Option.ne_none_iff_exists'.1 g2
        exact h.apart m1 m2 l1 l2 h1 h2 (by rw [(hother m1 b1 l1 e1 hb1 h1).1]; simp) (by rw [(hother m2 b2 l2 e2 hb2 h2).1]; simp) heq
  · by_cases e : k = n
    · rw [upd_ap, if_pos e] at hk
      rw [give_ap, if_pos e] at hl'
      injection hk with hk
      injection hk with hk1 hk2
      injection hl' with hl'
      subst hk1 hk2 hl'
      exact hr
    · rw [give_ap, if_neg e] at hl'
      obtain ⟨g1, g2⟩ := hother k _ l' e hk hl'
      exact (h.row k s' v' l' g1 hl').same he (hb _ g2)
  · by_cases e : k = n
    · rw [upd_ap, if_pos e] at hk
      cases hk
    · rw [give_ap, if_neg e] at hl'
      obtain ⟨g1, g2⟩ := hother k _ l' e hk hl'
      exact (h.map k es l' g1 hl').same he (hb _ g2)

theorem encB_cells (ρ : Names) (w : World) : ∀ (s : List UInt8), CR ρ w (s.map encB) (s.map fun b => Value.int .u8 b.toNat)
  | [] => by simp only [CR,List.map_nil]
  | b :: s => by
    simp only [CR,List.map_cons]
    exact ⟨[.int .u8 b.toNat], _, rfl, by simp only [encB,C1], encB_cells ρ w s⟩
theorem src_sound (hh : HR Z B ρ H n w) {x : Operand} (hT : TM ρ w tm a) {se : Sh} {u : TypeDesc} {tx : TypeId} (hu : P.underlying tx = some u) (k : List VV → Option Nat → Prop) (h : srcOf H se u (ev tm x) k) :
    ∃ news m2 ncs, k news m2 ∧ (∀ e ∈ news, Has se e) ∧ CR ρ w news ncs ∧ Src P se.size tx (a.eval x) news.length ncs w ∧ ncs.length = news.length * se.size ∧ ((∃ A c, a.eval x = .slice A news.length c) ∨ ∃ s, a.eval x = .string s ∧ u = .string) := by
  unfold srcOf onV at h
  dsimp only at h
  have hx := ev_sound hT x
  generalize he : ev tm x = v at h hx
  split at h
  · rename_i el
    have hp : a.eval x = .slice none 0 0 := by simpa [VR, VR1, C1] using hx
    refine ⟨[], none, [], h, by simp, by simp only [CR], by rw [hp]; exact Src.ofNil w hu 0, by simp, .inl ⟨_, _, hp⟩⟩
  · rename_i el m p i len
    replace h := bnd_iff.1 h
    obtain ⟨blk, hbk, h⟩ := h
    cases blk with
    | map es => exact h.elim
    | row s c =>
      obtain ⟨⟨j, hat⟩, h⟩ := h
      replace h := bnd_iff.1 h
      obtain ⟨c', hc', h⟩ := h
      cases c' <;> first | exact h.elim | skip
      rename_i els
      obtain ⟨hle, h⟩ := h
      rcases hx.sl with ⟨rfl, A, hp⟩ | ⟨l, cap, e', j', hl, hp, hcap, hate, hroom⟩
      · refine ⟨_, _, [], h, by simp, by simp only [List.take_zero,CR], ?_, by simp, .inl ⟨A, 0, by rw [hp]; simp⟩⟩
        rw [hp]
        cases A with
        | none => simpa using Src.ofNil w hu 0
        | some ad => simpa using Src.ofSlice w hu ad 0 0 [] (by simp) (fun j u hj => by simp at hj) (by simp)
      · have hrow := hh.row m s c l hbk hl
        obtain ⟨cs, q1, q2, q3⟩ := hrow.cells
        obtain ⟨su, pre, mid, post, k1, k2, rfl, k4, k5, _, _⟩ := focus p s c (.agg els) cs hrow.has hc' q1
        rw [hat] at k1
        injection k1 with k1
        subst k1
        simp only [Has] at k2
        simp only [C1] at k5
        obtain ⟨pr, md, ps, rfl, r1, r2, r3⟩ := CR.part k5 k2.2 i (i + len) (by omega) hle
        rw [show i + len - i = len by omega] at r2 r3
        have hl' : ((els.drop i).take len).length = len := by rw [List.length_take, List.length_drop, Nat.min_eq_left (by omega)]
        refine ⟨_, _, md, h, fun e he' => k2.2 e (List.mem_of_mem_drop (List.mem_of_mem_take he')), r3, ?_, by rw [hl', r2], .inl ⟨_, _, by rw [hp, hl']⟩⟩
        rw [hl', hp]
        have hr := range_part q3
        have hr2 := range_part hr
        refine Src.ofSlice w hu _ len cap md r2 (fun jj v hv => ?_) (HasA.one _ md (fun e he' => k2.2 e (List.mem_of_mem_drop (List.mem_of_mem_take he'))) r3)
        have := hr2 jj v hv
        rw [Addr.add_mid]
        rw [hrow.sh, (at_append p s _ [i] hat).2, ← k4]
        simp only [Sh.off,Nat.add_zero]
        rw [← r1, ← Nat.add_assoc]
        exact this
  · rename_i el s els
    obtain ⟨rfl, h⟩ := h
    obtain ⟨A, cap, hp, hcap, hne⟩ := hx.dat
    by_cases h0 : els = []
    · subst h0
      refine ⟨[], none, [], h, by simp, by simp only [CR], ?_, by simp, .inl ⟨_, _, hp⟩⟩
      rw [hp]
      cases A with
      | none => simpa using Src.ofNil w hu cap
      | some ad => simpa using Src.ofSlice w hu ad 0 cap [] (by simp) (fun j u hj => by simp at hj) (by simp)
    · obtain ⟨b, f, ecs, rfl, g1, g2, g3, g4, g5⟩ := hne h0
      have hlen := HasA.len _ _ g2 g1
      refine ⟨els, none, ecs, h, g2, g1, ?_, hlen, .inl ⟨_, _, hp⟩⟩
      rw [hp]
      exact Src.ofSlice w hu _ _ cap ecs hlen (fun j v hv => by rw [Addr.add_mid]; exact g3 j v hv) (HasA.one _ ecs g2 g1)
  · rename_i s
    obtain ⟨rfl, h⟩ := h
    have hbc : byteCells ⟨s.toArray⟩ = s.map fun b => Value.int .u8 b.toNat := by simp [byteCells]
    refine ⟨_, none, _, h, by simp [Has, encB, VV.leaf], encB_cells ρ w s, ?_, by simp [Sh.size], .inr ⟨_, hx.str, rfl⟩⟩
    rw [hx.str, ← hbc]
    have := Src.ofString (P := P) w hu ⟨s.toArray⟩
    have e : (ByteArray.mk s.toArray).size = (s.map encB).length := by show s.toArray.size = _; simp
    rw [e] at this
    exact this
  · exact h.elim
end
end Go.Proofs.Ytlgldkjjbbbapaa.V
end
section
/-
  A MACHINE OF VALUES, ELEVENTH PART: append; bytes and strings.
-/
set_option linter.unusedVariables false
set_option linter.unusedSectionVars false
set_option linter.unusedSimpArgs false
namespace Go.Proofs.Ytlgldkjjbbbapaa.V
open Go Go.RowKit

section
variable {P : Program} {Z : Nat → Nat → Prop} [Zone Z] {B : Nat} {ρ ρ' : Names} {w w' : World} {H : Heap} {n : Nat} {tm : Nat → VV} {a : Act} {K : VV → Heap → Nat → Prop} {o : Oper}
theorem ext_drew (ρ : Names) (w : World) : Ext ρ w ρ w.drew := ⟨fun _ _ h => h, Nat.le_refl _, fun _ _ _ => rfl, fun _ _ h => .inl h, fun _ h => h, fun _ h => .inl h⟩
theorem HR.drew (h : HR Z B ρ H n w) : HR Z B ρ H n w.drew := h.kept (Nat.le_refl _) fun _ _ => rfl
theorem grown_good (hh : HR Z B ρ H n w) (hZ : Zone.ok Z n) {se : Sh} {olds news : List VV} {ocs ncs : List Value} (ho : CR ρ w olds ocs) (hso : ∀ e ∈ olds, Has se e) (hn : CR ρ w news ncs) (hsn : ∀ e ∈ news, Has se e)
    {et : TypeId} {zc : Array Value} (hz : zc.size = se.size) {c : Nat} (hc : olds.length + news.length ≤ c)
    (hk : K (.sl (some (n, [], 0)) (olds.length + news.length)) (upd H n (some (.row (.arr (olds.length + news.length) se) (.agg (olds ++ news))))) (n + 1)) :
    Good Z B K ρ w (.slice (some ⟨w.heap.size, 0, none⟩) (olds.length + news.length) c) (w.drew.alloc (.cells ((ocs ++ ncs).toArray ++ Builtin.zeroCells zc (c - (olds.length + news.length))) et)) := by
  have hd := hh.drew
  have hcr := CR.join _ _ _ _ (CR.ext (ext_drew ρ w) _ _ ho) (CR.ext (ext_drew ρ w) _ _ hn)
  have hhas : Has (.arr (olds.length + news.length) se) (.agg (olds ++ news)) := by
    simp only [Has]
    exact ⟨by simp, fun v hv => (List.mem_append.1 hv).elim (hso v) (hsn v)⟩
  obtain ⟨l, e1, e2, e3, e4, h1, h2, h3⟩ := new_block (t := et) (cells := (ocs ++ ncs).toArray ++ Builtin.zeroCells zc (c - (olds.length + news.length))) (tail := (Builtin.zeroCells zc (c - (olds.length + news.length))).toList) hd hZ hhas (by simp only [C1]; exact hcr) (by simp)
  have l1 := HasA.len _ _ hso ho
  have l2 := HasA.len _ _ hsn hn
  refine ⟨_, _, _, _, hk, ?_, h1, (ext_drew ρ w).trans h2, (Below.refl B w).drew.trans h3⟩
  simp only [VR,VR1,C1]
  refine .inr ⟨l, c, se, olds.length + news.length, by rw [give_ap, if_pos rfl], by rw [e1, e2, e4]; simp [Sh.off], hc, by rw [e4]; rfl, ?_⟩
  rw [e4, e3]
  simp only [Array.size_append,List.size_toArray,List.length_append,l1,l2,size_zeroCells,hz]
  have : c * se.size = olds.length * se.size + news.length * se.size + (c - (olds.length + news.length)) * se.size := by
    rw [← Nat.add_mul, ← Nat.add_mul]; congr 1; omega
  simp [Sh.off]
  omega
theorem append_sound (hT : TM ρ w tm a) (hh : HR Z B ρ H n w) (hG : Gives Z n K) (s x : Operand) (ts : Array TypeId) (hts : ts.size = 2) (ho : o.op = .call { callee := .builtin .append, args := #[s, x], argTypes := ts }) (h : vAppend P (ev tm) H n K ts s x) : Runs P Z B K ρ w (execOp a.eval o) := by
  unfold vAppend at h
  replace h := bnd_iff.1 h
  obtain ⟨t, ht0, h⟩ := h
  replace h := bnd_iff.1 h
  obtain ⟨tx, ht1, h⟩ := h
  replace h := bnd_iff.1 h
  obtain ⟨et, het, h⟩ := h
  replace h := bnd_iff.1 h
  obtain ⟨se, hse, h⟩ := h
  replace h := bnd_iff.1 h
  obtain ⟨z, hz, h⟩ := h
  replace h := bnd_iff.1 h
  obtain ⟨u, hu, h⟩ := h
  have hts' : ts = #[t, tx] := by
    obtain ⟨l⟩ := ts
    match l, hts with
    | [p, q], _ => simp at ht0 ht1; rw [ht0, ht1]
  subst hts'
  obtain ⟨news, m2, ncs, h, hsn, hcn, hsrc, hnl, _⟩ := src_sound hh hT hu _ h
  obtain ⟨s', zv, inf, hs', hi, hzv, hH, hsz, hV⟩ := ZE_spec hz
  rw [hse] at hs'
  injection hs' with hs'
  subst hs'
  have hul := EL_spec het
  obtain ⟨inf', d, hi', hud, hisz, hrow⟩ := shOf_spec hse
  rw [hi] at hi'
  injection hi' with hi'
  subst hi'
  have hbyv : BY P et = inf.bytes := by simp [BY, hi]
  rw [hbyv] at h
  rw [← hisz] at hsrc
  have hs := ev_sound hT s
  have run : ∀ (v : Value) (w' : World), (Builtin.append_ #[t, tx] o.type #[a.eval s, a.eval x]).run P w = .ok v w' → (execOp a.eval o).run P w = .ok (.value v) w' := by
    intro v w' hr
    simp [execOp, ho, resolve, invoke, builtin, hr]
  -- onto nothing
  have hnil : ∀ (A : Option Addr) (H' : Heap), HR Z B ρ H' n w → a.eval s = .slice A 0 0 → news.length * inf.bytes ≤ 140737488355328 → news.length ≤ 1000000000000 →
      K (.sl (some (n, [], 0)) news.length) (upd H' n (some (.row (.arr news.length se) (.agg news)))) (n + 1) → Runs P Z B K ρ w (execOp a.eval o) := by
    intro A H' hh' hp hb1 hb2 hk
    by_cases h0 : news.length = 0
    · have : news = [] := List.eq_nil_of_length_eq_zero h0
      subst this
      have hnc : ncs = [] := List.eq_nil_of_length_eq_zero (by simpa using hnl)
      subst hnc
      have hr := run_append_nothing (P := P) w t tx o.type et inf hul hi A 0 0 (Nat.le_refl _) (a.eval x) (by simpa using hsrc)
      rw [← hp] at hr
      exact .inl ⟨_, w, run _ _ hr, _, _, _, ρ, hk, by rw [hp]; exact VR_nil A, (hh'.ghost (hh'.fresh n (Zone.free n (hG.one hk))) _).more (Nat.le_succ _), Ext.refl _ _, Below.refl _ _⟩
    · have hold : (Builtin.firstCells inf.size 0 (.slice A 0 0)).run P w.drew = .ok ([] : List Value).toArray w.drew := by
        cases A with
        | none => exact run_firstCells_none _ _ _ _ _
        | some ad => exact run_firstCells_some _ _ _ ad 0 0 [] (by simp) (by simp)
      have hr := run_append_grow_src (P := P) w t tx o.type et inf zv hul hi hzv A 0 0 [] hold (a.eval x) news.length ncs hsrc (by omega) (by omega) (growslice_fits (by omega) (by simpa using hb1))
      rw [← hp] at hr
      have hg := grown_good (K := K) (olds := []) (ocs := []) (et := et) (zc := zv.cells) (c := grownCap w (0 + news.length) 0 et) hh' (hG.one hk) (by simp only [CR]) (by simp) hcn hsn hsz (by
        have := grownCap_ge w (0 + news.length) 0 et
        simpa using this) (by simpa using hk)
      exact .inl ⟨_, _, run _ _ hr, hg⟩
  generalize hv : ev tm s = v at h hs
  unfold onV at h
  dsimp only at h
  split at h
  · obtain ⟨⟨hb1, hb2⟩, h⟩ := h
    have hp : a.eval s = .slice none 0 0 := by simpa [VR, VR1, C1] using hs
    exact hnil none H hh hp hb1 hb2 h
  · rename_i m len
    replace h := bnd_iff.1 h
    obtain ⟨blk, hbk, h⟩ := h
    split at h
    · rename_i kk s' els
      obtain ⟨⟨rfl, rfl, hne, hb1, hb2⟩, h⟩ := h
      rcases hs.sl with ⟨h0, A, hp⟩ | ⟨l, cap, e', j', hl, hp, hcap, hate, hroom⟩
      · have : els = [] := List.eq_nil_of_length_eq_zero h0
        subst this
        exact hnil A (upd H m none) (hh.drop m) hp (by simpa using hb1) (by simpa using hb2) (by simpa using h)
      · have hrowAt := hh.row m _ _ l hbk hl
        obtain ⟨cs, q1, q2, q3⟩ := hrowAt.cells
        have hhas := hrowAt.has
        simp only [Has] at hhas
        simp only [C1] at q1
        have hlen := HasA.len _ _ hhas.2 q1
        have hoff0 : l.sh.off ([] ++ [0]) = 0 := by rw [hrowAt.sh]; simp [Sh.off]
        have he' : e' = s' := by
          rw [hrowAt.sh] at hate
          simp [Sh.at] at hate
          exact hate.2.symm
        subst he'
        rw [hoff0] at hroom hp
        rw [Nat.zero_add] at hroom
        rw [Nat.add_zero] at hp
        by_cases hfit : els.length + news.length ≤ cap
        · -- there is room
          have hneed : els.length * e'.size + ncs.length ≤ l.room := by
            have : (els.length + news.length) * e'.size ≤ cap * e'.size := Nat.mul_le_mul_right _ hfit
            rw [Nat.add_mul] at this
            omega
          have hth : w.there l.block (l.base + els.length * e'.size) ncs.length := there_part hrowAt.room (by omega)
          have hr := run_append_room_src (P := P) w t tx o.type et inf hul hi l.block l.base els.length cap (a.eval x) news.length ncs hsrc hfit (fun j hj => by rw [hisz]; exact (hth j hj).1) (fun j hj => by rw [hisz]; exact (hth j hj).2)
          rw [← hp, hisz] at hr
          have hot : ∀ b, b ≠ l.block → (w.setCells l.block (l.base + els.length * e'.size) ncs).heap[b]? = w.heap[b]? := fun b hb' => setCells_other l.block hb' ncs _ w
          have hsz2 := setCells_size l.block ncs (l.base + els.length * e'.size) w
          have hE : Ext ρ w (ρ.give n ⟨l.block, l.base, l.room, .arr (els.length + news.length) e'⟩) (w.setCells l.block (l.base + els.length * e'.size) ncs) :=
            ext_new (hh.fresh n (Zone.free n (hG.one h))) ⟨l.block, l.base, l.room, .arr (els.length + news.length) e'⟩ (by omega) (fun b _ hb' => hot b hb') (.inr ⟨m, l, hl, rfl⟩)
          have hrow' : RowAt (ρ.give n ⟨l.block, l.base, l.room, .arr (els.length + news.length) e'⟩) (w.setCells l.block (l.base + els.length * e'.size) ncs) ⟨l.block, l.base, l.room, .arr (els.length + news.length) e'⟩ (.arr (els.length + news.length) e') (.agg (els ++ news)) := by
            refine ⟨rfl, ?_, ⟨cs ++ ncs, ?_, ?_, ?_⟩, World.there_setCells hrowAt.room _ _ _⟩
            · simp only [Has]
              exact ⟨by simp, fun v hv => (List.mem_append.1 hv).elim (hhas.2 v) (hsn v)⟩
            · simp only [C1]
              exact CR.join _ _ _ _ (CR.ext hE _ _ q1) (CR.ext hE _ _ hcn)
            · simp only [List.length_append]; omega
            · rw [range_append]
              exact ⟨World.rangeAt_setCells_apart q3 _ _ _ (.inr (.inl (by omega))), by rw [hlen]; exact World.rangeAt_setCells_same w _ _ _ hth⟩
          obtain ⟨g1, g2⟩ := hh.again (hG.one h) hl (by rw [hbk]; simp) (l := ⟨l.block, l.base, l.room, .arr (els.length + news.length) e'⟩) rfl hsz2 hot hrow'
          refine .inl ⟨_, _, run _ _ hr, _, _, _, _, h, ?_, g1, g2, setCells_below (hh.lt m l hl).1 _ _ _ (Below.refl _ _)⟩
          simp only [VR,VR1,C1]
          exact .inr ⟨_, cap, e', els.length + news.length, by rw [give_ap, if_pos rfl], by simp [Sh.off], hfit, rfl, by simp [Sh.off]; exact hroom⟩
        · -- a new row
          have hold : (Builtin.firstCells inf.size els.length (.slice (some ⟨l.block, l.base, none⟩) els.length cap)).run P w.drew = .ok cs.toArray w.drew :=
            run_firstCells_some w.drew inf.size els.length ⟨l.block, l.base, none⟩ els.length cap cs (by rw [hisz]; exact hlen) (fun j v hj => by rw [Addr.add_mid]; simpa using q3 j v hj)
          have hr := run_append_grow_src (P := P) w t tx o.type et inf zv hul hi hzv _ els.length cap cs hold (a.eval x) news.length ncs hsrc (by omega) (by omega) (growslice_fits (by omega) hb1)
          rw [← hp] at hr
          exact .inl ⟨_, _, run _ _ hr, grown_good (hh.drop m) (hG.one h) q1 hhas.2 hcn hsn hsz (grownCap_ge _ _ _ _) h⟩
    · exact h.elim
  · exact h.elim
/-! ### bytes and strings -/
def bytesOf : List VV → Option (List UInt8)
  | [] => some []
  | v :: l => match v, bytesOf l with
    | .int .u8 n, some m => if 0 ≤ n ∧ n < 256 then some (UInt8.ofNat n.toNat :: m) else none
    | _, _ => none
theorem bytesOf_enc : ∀ (l : List UInt8), bytesOf (l.map encB) = some l
  | [] => rfl
  | x :: l => by
    have := x.toNat_lt
    simp [bytesOf, encB, bytesOf_enc l]
    omega
theorem bytes_cells : ∀ (vs : List VV) (cs : List Value) (l : List UInt8), bytesOf vs = some l → CR ρ w vs cs → cs = (l.map fun b => (b.toNat : Int)).map (Value.int .u8)
  | [], cs, l, h, hc => by
    simp only [bytesOf,Option.some.injEq] at h
    subst h
    simp only [CR] at hc
    simp [hc]
  | v :: vs, cs, l, h, hc => by
    simp only [bytesOf] at h
    split at h
    · rename_i k m hm
      split at h
      · rename_i hk
        injection h with h
        subst h
        simp only [CR,C1] at hc
        obtain ⟨c1, c2, rfl, rfl, h2⟩ := hc
        rw [bytes_cells vs c2 m hm h2]
        have : ((UInt8.ofNat k.toNat).toNat : Int) = k := by
          rw [UInt8.toNat_ofNat']
          omega
        rw [List.map_cons, List.map_cons, this]
        rfl
      · cases h
    · cases h
def vToStr (P : Program) (e : Operand → VV) (H : Heap) (n : Nat) (K : VV → Heap → Nat → Prop) (s d : TypeId) (x : Operand) : Prop :=
  bnd (EL P s) fun es => bnd (P.underlying es) fun eu => bnd (P.underlying d) fun ud => match eu, ud with
    | .int .u8, .string => srcOf H .cell (.slice es) (e x) fun els _ => bnd (bytesOf els) fun l => K (.str l) H n
    | _, _ => False
theorem toStr_sound (hT : TM ρ w tm a) (hh : HR Z B ρ H n w) (s d : TypeId) (x : Operand) (ho : o.op = .convert s d x) (h : vToStr P (ev tm) H n K s d x) : Runs P Z B K ρ w (execOp a.eval o) := by
  unfold vToStr at h
  replace h := bnd_iff.1 h
  obtain ⟨es, hes, h⟩ := h
  replace h := bnd_iff.1 h
  obtain ⟨eu, heu, h⟩ := h
  replace h := bnd_iff.1 h
  obtain ⟨ud, hud, h⟩ := h
  split at h
  · have hul := EL_spec hes
    obtain ⟨news, m2, ncs, h, hsn, hcn, hsrc, hnl, hf⟩ := src_sound hh hT hul _ h
    replace h := bnd_iff.1 h
    obtain ⟨l, hl, h⟩ := h
    have hcs := bytes_cells _ _ _ hl hcn
    have hlen : news.length = l.length := by
      have e1 := congrArg List.length hcs
      simp only [List.length_map,Sh.size,Nat.mul_one] at e1 hnl
      omega
    rcases hf with ⟨A, c, hp⟩ | ⟨s', hp⟩
    · refine runs_value (x := .string ⟨l.toArray⟩) ?_ h VR_str hh
      have hrun : (convert s d (a.eval x)).run P w = .ok (.string ⟨l.toArray⟩) w := by
        rw [hp, run_convert_bytes_string w s d es A news.length c hul heu hud]
        cases A with
        | none =>
          have hc := hsrc.cells
          rw [hp] at hc
          simp [Builtin.firstCells] at hc
          have : l = [] := by
            rw [hcs] at hc
            simpa using hc.symm
          subst this
          simp [Conv.bytesToString]
          rfl
        | some ad =>
          have hc := hsrc.cells
          rw [hp] at hc
          simp only [Builtin.firstCells,Sh.size,Nat.mul_one] at hc
          rw [hcs] at hc
          rw [run_bytesToString w ad news.length c _ hc, foldl_push_byteCells]
          have he0 : ByteArray.empty.data = #[] := rfl
          rw [he0]
          simp
      simp [execOp, ho, hrun]
    · cases hp.2
  · exact h.elim
def vToBytes (P : Program) (e : Operand → VV) (H : Heap) (n : Nat) (K : VV → Heap → Nat → Prop) (s d : TypeId) (x : Operand) : Prop := onV (e x) fun v => match v with
  | .str l => bnd (P.underlying s) fun us => bnd (EL P d) fun es => bnd (P.underlying es) fun eu => match us, eu with
    | .string, .int .u8 => K (.sl (some (n, [], 0)) l.length) (upd H n (some (.row (.arr l.length .cell) (.agg (l.map encB))))) (n + 1)
    | _, _ => False
  | _ => False
theorem toBytes_sound (hT : TM ρ w tm a) (hh : HR Z B ρ H n w) (hG : Gives Z n K) (s d : TypeId) (x : Operand) (ho : o.op = .convert s d x) (h : vToBytes P (ev tm) H n K s d x) : Runs P Z B K ρ w (execOp a.eval o) := by
  unfold vToBytes onV at h
  dsimp only at h
  have hx := ev_sound hT x
  split at h
  · rename_i l e
    rw [e] at hx
    replace h := bnd_iff.1 h
    obtain ⟨us, hus, h⟩ := h
    replace h := bnd_iff.1 h
    obtain ⟨es, hes, h⟩ := h
    replace h := bnd_iff.1 h
    obtain ⟨eu, heu, h⟩ := h
    split at h
    · have hul := EL_spec hes
      have hrun := run_bytes_of_string (P := P) w s d es ⟨l.toArray⟩ hus hul heu
      have hsz : (ByteArray.mk l.toArray).size = l.length := by show l.toArray.size = _; simp
      rw [hsz] at hrun
      generalize hcap : grownCap w l.length 0 es = cap at hrun
      have hcapge : l.length ≤ cap := by rw [← hcap]; exact grownCap_ge _ _ _ _
      have hrow : (bytesRow ⟨l.toArray⟩ cap).toList = (l.map fun (b : UInt8) => Value.int .u8 (b.toNat : Int)) ++ List.replicate (cap - l.length) (Value.int .u8 0) := by
        simp [bytesRow, hsz]
      have hbs : (bytesRow ⟨l.toArray⟩ cap).size = cap := by
        have := congrArg List.length hrow
        simp only [Array.length_toList,List.length_append,List.length_map,List.length_replicate] at this
        omega
      obtain ⟨lo, g1, g2, g3, g4, h1, h2, h3⟩ := new_blockF (t := es) (s := .arr l.length .cell) (v := .agg (l.map encB)) hh.drew (hG.one h) (by simp [Has, encB, VV.leaf]) (by simp only [C1]; exact encB_cells ρ w.drew l) hrow
        ((bytesRow ⟨l.toArray⟩ cap).size, (bytesRow ⟨l.toArray⟩ cap).size + 1) (fun j hj h => by omega)
      refine .inl ⟨.slice (some ⟨w.heap.size, 0, none⟩) l.length cap, _, ?_, _, _, _, _, h, ?_, h1, (ext_drew ρ w).trans h2, (Below.refl B w).drew.trans h3⟩
      · simp [execOp, ho, hx.str, hrun]
      · simp only [VR,VR1,C1]
        refine .inr ⟨lo, cap, .cell, l.length, by rw [give_ap, if_pos rfl], by rw [g1, g2, g4]; simp [Sh.off], hcapge, by rw [g4]; rfl, ?_⟩
        rw [g4, g3, hbs]
        simp [Sh.off, Sh.size]
    · exact h.elim
  · exact h.elim
end
end Go.Proofs.Ytlgldkjjbbbapaa.V
end
