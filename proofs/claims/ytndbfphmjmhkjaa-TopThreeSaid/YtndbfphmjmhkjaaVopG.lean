/-
  A MACHINE OF VALUES, NINTH PART: slices cut, and grown; bytes and strings.
-/
import Derived.Test.YtndbfphmjmhkjaaVopF
import Derived.Deep.Upon
set_option linter.unusedVariables false
set_option linter.unusedSectionVars false
set_option linter.unusedSimpArgs false
namespace Go.Proofs.Ytndbfphmjmhkjaa.V
open Go Go.RowKit

/-- the bounds of a cut -/
def lohi (lo hi : Option VV) (len : Nat) (k : Nat → Nat → Prop) : Prop := match lo, hi with
  | none, none => k 0 len
  | some a, none => onV a fun a => match a with
    | .int _ i => cnd (0 ≤ i ∧ i ≤ len) (k i.toNat len)
    | _ => False
  | none, some b => onV b fun b => match b with
    | .int _ j => cnd (0 ≤ j ∧ j ≤ len) (k 0 j.toNat)
    | _ => False
  | some a, some b => onV a fun a => onV b fun b => match a, b with
    | .int _ i, .int _ j => cnd (0 ≤ i ∧ i ≤ j ∧ j ≤ len) (k i.toNat j.toNat)
    | _, _ => False
def encB (x : UInt8) : VV := .int .u8 (x.toNat : Int)
section
variable (P : Program) (e : Operand → VV) (H : Heap) (n : Nat) (K : VV → Heap → Nat → Prop)
def vSlice (t : TypeId) (x : Operand) (lo hi : Option Operand) : Prop := onV (e x) fun v => match v with
  | .str s => bnd (P.underlying t) fun u => match u with
    | .string => lohi (lo.map e) (hi.map e) s.length fun i j => K (.str ((s.drop i).take (j - i))) H n
    | _ => False
  | .sl (some (m, p, i0)) len => bnd (H m) fun b => match b with
    | .row s _ => bnd (EL P t) fun et => bnd (SH P et) fun se => bnd (s.at p) fun sa => match sa with
      | .arr _ s' => cnd (s' = se) (lohi (lo.map e) (hi.map e) len fun i j => K (.sl (some (m, p, i0 + i)) (j - i)) H n)
      | _ => False
    | _ => False
  | .dat s els => bnd (EL P t) fun et => bnd (SH P et) fun se => cnd (s = se) (lohi (lo.map e) (hi.map e) els.length fun i j => K (.dat s ((els.drop i).take (j - i))) H n)
  | .ptr m p => bnd (H m) fun b => match b with
    | .row s c => bnd (SH P t) fun st => cnd (s.at p = some st) (match st with
      | .arr len _ => bnd (c.get p) fun _ => lohi (lo.map e) (hi.map e) len fun i j => K (.sl (some (m, p, i)) (j - i)) H n
      | _ => False)
    | _ => False
  | .pd s (.agg vs) => bnd (SH P t) fun st => cnd (s = st) (match st with
      | .arr len s' => lohi (lo.map e) (hi.map e) len fun i j => K (.dat s' ((vs.drop i).take (j - i))) H n
      | _ => False)
  | _ => False
/-- what is appended -/
def srcOf (H : Heap) (se : Sh) (u : TypeDesc) (v : VV) (k : List VV → Option Nat → Prop) : Prop := onV v fun v => match u, v with
  | .slice _, .sl none 0 => k [] none
  | .slice _, .sl (some (m, p, i)) len => bnd (H m) fun b => match b with
    | .row s c => cnd (∃ j, s.at p = some (.arr j se)) (bnd (c.get p) fun c => match c with
      | .agg els => cnd (i + len ≤ els.length) (k ((els.drop i).take len) (some m))
      | _ => False)
    | _ => False
  | .slice _, .dat s els => cnd (s = se) (k els none)
  | .string, .str s => cnd (se = .cell) (k (s.map encB) none)
  | _, _ => False
def vAppend (ts : Array TypeId) (s x : Operand) : Prop := bnd (ts[0]?) fun t => bnd (ts[1]?) fun tx => bnd (EL P t) fun et => bnd (SH P et) fun se => bnd (ZE P et) fun z => bnd (P.underlying tx) fun u =>
  srcOf H se u (e x) fun news m2 => onV (e s) fun v => match v with
    | .sl none 0 => cnd (news.length * BY P et ≤ 140737488355328 ∧ news.length ≤ 1000000000000) (K (.sl (some (n, [], 0)) news.length) (upd H n (some (.row (.arr news.length se) (.agg news)))) (n + 1))
    | .sl (some (m, [], 0)) len => bnd (H m) fun b => match b with
      | .row (.arr _ s') (.agg els) => cnd (s' = se ∧ len = els.length ∧ m2 ≠ some m ∧ (len + news.length) * BY P et ≤ 140737488355328 ∧ len + news.length ≤ 1000000000000)
          (K (.sl (some (n, [], 0)) (len + news.length)) (upd (upd H m none) n (some (.row (.arr (len + news.length) se) (.agg (els ++ news))))) (n + 1))
      | _ => False
    | _ => False
end

section
variable {P : Program} {Z : Nat → Nat → Prop} [Zone Z] {B : Nat} {ρ : Names} {w : World} {H : Heap} {n : Nat} {tm : Nat → VV} {a : Act} {K : VV → Heap → Nat → Prop} {o : Oper}
theorem lohi_sound (hT : TM ρ w tm a) (lo hi : Option Operand) (len : Nat) (k : Nat → Nat → Prop) (h : lohi (lo.map (ev tm)) (hi.map (ev tm)) len k) :
    ∃ i j, i ≤ j ∧ j ≤ len ∧ k i j ∧ ∀ (b : Bool) (cap : Nat), len ≤ cap → (Instr.sliceBounds b len cap (lo.map a.eval) (hi.map a.eval) none).run P w = .ok (i, j, cap) w := by
  cases lo with
  | none =>
    cases hi with
    | none =>
      exact ⟨0, len, Nat.zero_le _, Nat.le_refl _, h, fun b cap hc => by simp [Instr.sliceBounds]⟩
    | some y =>
      simp only [lohi,Option.map_some,Option.map_none,onV] at h
      have hy := ev_sound hT y
      split at h
      · rename_i kk j e
        rw [e] at hy
        obtain ⟨⟨h1, h2⟩, h⟩ := h
        refine ⟨0, j.toNat, Nat.zero_le _, by omega, h, fun b cap hc => ?_⟩
        simp [Instr.sliceBounds, Instr.sliceBound, hy.int, asIntOf, show 0 ≤ j ∧ j ≤ (cap : Int) by omega]
      · exact h.elim
  | some x =>
    have hx := ev_sound hT x
    cases hi with
    | none =>
      simp only [lohi,Option.map_some,Option.map_none,onV] at h
      split at h
      · rename_i kk i e
        rw [e] at hx
        obtain ⟨⟨h1, h2⟩, h⟩ := h
        refine ⟨i.toNat, len, by omega, Nat.le_refl _, h, fun b cap hc => ?_⟩
        simp [Instr.sliceBounds, Instr.sliceBound, hx.int, asIntOf, show 0 ≤ i ∧ i ≤ (len : Int) by omega]
      · exact h.elim
    | some y =>
      have hy := ev_sound hT y
      simp only [lohi,Option.map_some,onV] at h
      split at h
      · rename_i k1 i k2 j e1 e2
        rw [e1] at hx
        rw [e2] at hy
        obtain ⟨⟨h1, h2, h3⟩, h⟩ := h
        refine ⟨i.toNat, j.toNat, by omega, by omega, h, fun b cap hc => ?_⟩
        have e3 : 0 ≤ j ∧ j ≤ (cap : Int) := by omega
        have e4 : 0 ≤ i ∧ i ≤ ((j.toNat : Nat) : Int) := by omega
        simp only [Instr.sliceBounds,Instr.sliceBound,hx.int,hy.int,asIntOf,Option.map_some,Sem.run_bind,Sem.run_pure,Result.andThen_ok]
        rw [if_pos e3]
        simp only [Sem.run_pure,Result.andThen_ok]
        rw [if_pos e4]
        simp only [Sem.run_pure,Result.andThen_ok]
      · exact h.elim
theorem VR_nil {m i : Nat} {p : List Nat} (A : Option Addr) : VR ρ w (.sl (some (m, p, i)) 0) (.slice A 0 0) := by
  simp only [VR,VR1,C1]
  exact .inl ⟨trivial, A, rfl⟩
theorem CR.part {els : List VV} {ecs : List Value} {s : Sh} (h : CR ρ w els ecs) (hs : ∀ e ∈ els, Has s e) (i j : Nat) (hij : i ≤ j) (hj : j ≤ els.length) :
    ∃ pre mid post, ecs = pre ++ mid ++ post ∧ pre.length = i * s.size ∧ mid.length = (j - i) * s.size ∧ CR ρ w ((els.drop i).take (j - i)) mid := by
  have e1 : els = els.take i ++ ((els.drop i).take (j - i) ++ (els.drop i).drop (j - i)) := by rw [List.take_append_drop, List.take_append_drop]
  rw [e1] at h
  obtain ⟨c1, c2, rfl, h1, h2⟩ := CR.split _ _ _ h
  obtain ⟨c3, c4, rfl, h3, h4⟩ := CR.split _ _ _ h2
  have l1 := HasA.len (ρ := ρ) (w := w) (s := s) _ c1 (fun v hv => hs v (List.mem_of_mem_take hv)) h1
  have l3 := HasA.len (ρ := ρ) (w := w) (s := s) _ c3 (fun v hv => hs v (List.mem_of_mem_drop (List.mem_of_mem_take hv))) h3
  rw [List.length_take, Nat.min_eq_left (by omega)] at l1
  rw [List.length_take, List.length_drop, Nat.min_eq_left (by omega)] at l3
  exact ⟨c1, c3, c4, by simp, l1, l3, h3⟩
theorem slice_sound (hT : TM ρ w tm a) (hh : HR Z B ρ H n w) (t : TypeId) (x : Operand) (lo hi : Option Operand) (ho : o.op = .slice t x lo hi none) (h : vSlice P (ev tm) H n K t x lo hi) : Runs P Z B K ρ w (execOp a.eval o) := by
  unfold vSlice onV at h
  dsimp only at h
  have hx := ev_sound hT x
  split at h
  · rename_i s e
    rw [e] at hx
    replace h := bnd_iff.1 h
    obtain ⟨u, hu, h⟩ := h
    cases u <;> first | exact h.elim | skip
    obtain ⟨i, j, hij, hj, h, hb⟩ := lohi_sound (P := P) hT lo hi s.length _ h
    refine runs_value (x := .string ⟨((s.drop i).take (j - i)).toArray⟩) ?_ h VR_str hh
    have hsz : (ByteArray.mk s.toArray).size = s.length := by show s.toArray.size = _; simp
    have hex : (ByteArray.mk s.toArray).extract i j = ⟨((s.drop i).take (j - i)).toArray⟩ := by
      apply ByteArray.ext
      simp
    simp only [execOp,ho,hx.str,Instr.sliceAt,Instr.slice,Sem.run_bind,run_underlying hu w,Result.andThen_ok,Option.isSome_none,Bool.false_eq_true,if_false,hsz,Option.map_none,hb false s.length (Nat.le_refl _),Sem.run_pure,hex]
  · rename_i m p i0 len e
    rw [e] at hx
    replace h := bnd_iff.1 h
    obtain ⟨blk, hbk, h⟩ := h
    cases blk with
    | map es => exact h.elim
    | row s c =>
      replace h := bnd_iff.1 h
      obtain ⟨et, het, h⟩ := h
      replace h := bnd_iff.1 h
      obtain ⟨se, hse, h⟩ := h
      replace h := bnd_iff.1 h
      obtain ⟨sa, hsa, h⟩ := h
      cases sa with
      | cell => exact h.elim
      | st _ => exact h.elim
      | arr kk s' =>
        obtain ⟨rfl, h⟩ := h
        obtain ⟨i, j, hij, hj, h, hb⟩ := lohi_sound (P := P) hT lo hi len _ h
        have hul := EL_spec het
        obtain ⟨inf, d, hinf, hu, hsz, hrow⟩ := shOf_spec hse
        rcases hx.sl with ⟨rfl, A, hp⟩ | ⟨l, cap, e', j', hl, hp, hcap, hate, hroom⟩
        · obtain rfl : j = 0 := by omega
          obtain rfl : i = 0 := by omega
          refine runs_value (x := .slice A 0 0) ?_ h (VR_nil A) hh
          simp only [execOp,ho,hp,Instr.sliceAt,Instr.slice,Sem.run_bind,run_underlying hul w,Result.andThen_ok,Option.map_none,hb true 0 (Nat.le_refl _),Sem.run_pure,sizeOf,typeInfo,run_program,hinf]
          simp
        · have hrowAt := hh.row m s c l hbk hl
          have hse' : e' = s' := by
            rw [hrowAt.sh, hsa] at hate
            injection hate with hate
            injection hate with _ hate
            exact hate.symm
          subst hse'
          have hrun : (execOp a.eval o).run P w = .ok (.value (.slice (if cap = i then some ⟨l.block, l.base + l.sh.off (p ++ [i0]), none⟩ else some ⟨l.block, l.base + l.sh.off (p ++ [i0]) + i * e'.size, none⟩) (j - i) (cap - i))) w := by
            simp only [execOp,ho,hp,Instr.sliceAt,Instr.slice,Sem.run_bind,run_underlying hul w,Result.andThen_ok,Option.map_none,hb true cap hcap,Sem.run_pure,sizeOf,typeInfo,run_program,hinf,hsz]
            simp [Addr.add_mid]
          refine runs_value hrun h ?_ hh
          simp only [VR,VR1,C1]
          by_cases hci : cap = i
          · rw [if_pos hci]
            exact .inl ⟨by omega, _, by rw [show j - i = 0 by omega, show cap - i = 0 by omega]⟩
          · rw [if_neg hci]
            have hoff : l.sh.off (p ++ [i0 + i]) = l.sh.off (p ++ [i0]) + i * e'.size := by
              rw [hrowAt.sh, (at_append p s _ [i0 + i] hsa).2, (at_append p s _ [i0] hsa).2]
              simp only [Sh.off,Nat.add_zero,Nat.add_mul]
              rw [Nat.add_assoc]
            refine .inr ⟨l, cap - i, e', j', hl, by rw [hoff, Nat.add_assoc], by omega, hate, ?_⟩
            rw [hoff]
            have : cap * e'.size = i * e'.size + (cap - i) * e'.size := by rw [← Nat.add_mul]; congr 1; omega
            omega
  · rename_i s els e
    rw [e] at hx
    replace h := bnd_iff.1 h
    obtain ⟨et, het, h⟩ := h
    replace h := bnd_iff.1 h
    obtain ⟨se, hse, rfl, h⟩ := h
    obtain ⟨i, j, hij, hj, h, hb⟩ := lohi_sound (P := P) hT lo hi els.length _ h
    have hul := EL_spec het
    obtain ⟨inf, d, hinf, hu, hsz, hrow⟩ := shOf_spec hse
    obtain ⟨A, cap, hp, hcap, hne⟩ := hx.dat
    have hrun : (execOp a.eval o).run P w = .ok (.value (.slice (if cap = i then A else A.map (·.add (i * s.size))) (j - i) (cap - i))) w := by
      simp only [execOp,ho,hp,Instr.sliceAt,Instr.slice,Sem.run_bind,run_underlying hul w,Result.andThen_ok,Option.map_none,hb true cap hcap,Sem.run_pure,sizeOf,typeInfo,run_program,hinf,hsz]
    refine runs_value hrun h ?_ hh
    simp only [VR,VR1,C1]
    refine ⟨_, cap - i, by simp only [List.length_take,List.length_drop]; rw [Nat.min_eq_left (by omega)], by simp only [List.length_take,List.length_drop]; omega, fun hnil => ?_⟩
    have hlt : i < j := by
      rcases Nat.lt_or_ge i j with h | h
      · exact h
      · exact absurd (by rw [show j - i = 0 by omega]; rfl) hnil
    obtain ⟨b, f, ecs, rfl, g1, g2, g3, g4, g5⟩ := hne (by intro e; rw [e] at hj; simp at hj; omega)
    obtain ⟨pre, mid, post, rfl, k1, k2, k3⟩ := CR.part g1 g2 i j hij hj
    rw [if_neg (by omega)]
    exact ⟨b, f + i * s.size, mid, by simp [Addr.add_mid], k3, fun v hv => g2 v (List.mem_of_mem_drop (List.mem_of_mem_take hv)), by rw [← k1]; exact range_part g3, g4, g5⟩
  · rename_i m p e
    rw [e] at hx
    obtain ⟨l, hl, hp⟩ := hx.ptr
    replace h := bnd_iff.1 h
    obtain ⟨blk, hbk, h⟩ := h
    cases blk with
    | map es => exact h.elim
    | row s c =>
      replace h := bnd_iff.1 h
      obtain ⟨st, hst, hat, h⟩ := h
      cases st with
      | cell => exact h.elim
      | st _ => exact h.elim
      | arr len s' =>
        replace h := bnd_iff.1 h
        obtain ⟨u, hcg, h⟩ := h
        obtain ⟨i, j, hij, hj, h, hb⟩ := lohi_sound (P := P) hT lo hi len _ h
        obtain ⟨et, hul, hse⟩ := SH_array hst
        obtain ⟨inf, d, hinf, hu, hsz, hrow⟩ := shOf_spec hse
        have hrowAt := hh.row m s c l hbk hl
        have hrun : (execOp a.eval o).run P w = .ok (.value (.slice (some (if len = i then ⟨l.block, l.base + l.sh.off p, none⟩ else ⟨l.block, l.base + l.sh.off p + i * s'.size, none⟩)) (j - i) (len - i))) w := by
          simp only [execOp,ho,hp,Instr.sliceAt,Instr.sureAddr,Sem.run_bind,run_underlying hul w,Result.andThen_ok,Option.map_none,hb false len (Nat.le_refl _),Sem.run_pure,sizeOf,typeInfo,run_program,hinf,hsz]
          simp [Addr.add_mid]
        refine runs_value hrun h ?_ hh
        simp only [VR,VR1,C1]
        by_cases hci : len = i
        · rw [if_pos hci]
          exact .inl ⟨by omega, _, by rw [show j - i = 0 by omega, show len - i = 0 by omega]⟩
        · rw [if_neg hci]
          have hoff : l.sh.off (p ++ [i]) = l.sh.off p + i * s'.size := by
            rw [hrowAt.sh, (at_append p s _ [i] hat).2]
            simp [Sh.off]
          refine .inr ⟨l, len - i, s', len, hl, by rw [hoff, Nat.add_assoc], by omega, by rw [hrowAt.sh]; exact hat, ?_⟩
          rw [hoff]
          obtain ⟨cs, q1, q2, q3⟩ := hrowAt.cells
          obtain ⟨su, pre, mid, post, k1, k2, rfl, k4, k5, _, _⟩ := focus p s c u cs hrowAt.has hcg q1
          rw [hat] at k1
          injection k1 with k1
          subst k1
          have hml := Has.len _ _ _ k2 k5
          simp only [Sh.size] at hml
          simp only [List.length_append] at q2
          have : len * s'.size = i * s'.size + (len - i) * s'.size := by rw [← Nat.add_mul]; congr 1; omega
          rw [hrowAt.sh]
          omega
  · rename_i s vs e
    rw [e] at hx
    obtain ⟨b, g, ecs, hp, g1, g2, g3, g4, g5⟩ := hx.pd
    replace h := bnd_iff.1 h
    obtain ⟨st, hst, rfl, h⟩ := h
    cases s with
    | cell => exact h.elim
    | st _ => exact h.elim
    | arr len s' =>
      obtain ⟨i, j, hij, hj, h, hb⟩ := lohi_sound (P := P) hT lo hi len _ h
      obtain ⟨et, hul, hse⟩ := SH_array hst
      obtain ⟨inf, d, hinf, hu, hsz, hrow⟩ := shOf_spec hse
      have hrun : (execOp a.eval o).run P w = .ok (.value (.slice (some (if len = i then ⟨b, g, none⟩ else ⟨b, g + i * s'.size, none⟩)) (j - i) (len - i))) w := by
        simp only [execOp,ho,hp,Instr.sliceAt,Instr.sureAddr,Sem.run_bind,run_underlying hul w,Result.andThen_ok,Option.map_none,hb false len (Nat.le_refl _),Sem.run_pure,sizeOf,typeInfo,run_program,hinf,hsz]
        simp [Addr.add_mid]
      refine runs_value hrun h ?_ hh
      simp only [Has] at g2
      simp only [C1] at g1
      simp only [VR,VR1,C1]
      have hvl := g2.1
      refine ⟨_, len - i, by simp only [List.length_take,List.length_drop]; rw [Nat.min_eq_left (by omega)], by simp only [List.length_take,List.length_drop]; omega, fun hnil => ?_⟩
      have hlt : i < j := by
        rcases Nat.lt_or_ge i j with h | h
        · exact h
        · exact absurd (by rw [show j - i = 0 by omega]; rfl) hnil
      obtain ⟨pre, mid, post, rfl, k1, k2, k3⟩ := CR.part g1 g2.2 i j hij (by omega)
      rw [if_neg (by omega)]
      exact ⟨b, _, mid, rfl, k3, fun v hv => g2.2 v (List.mem_of_mem_drop (List.mem_of_mem_take hv)), by rw [← k1]; exact range_part g3, g4, g5⟩
  · exact h.elim
end
end Go.Proofs.Ytndbfphmjmhkjaa.V
