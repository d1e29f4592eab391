/-
  A MACHINE OF VALUES, SIXTH PART: numbers, strings, calls.
-/
import Derived.Test.YtndbfphmjmhkjaaVopC
set_option linter.unusedVariables false
set_option linter.unusedSectionVars false
set_option linter.unusedSimpArgs false
namespace Go.Proofs.Ytndbfphmjmhkjaa.V
open Go Go.RowKit

section
variable {P : Program} {Z : Nat → Nat → Prop} [Zone Z] {B : Nat} {ρ : Names} {w : World} {H : Heap} {n : Nat} {tm : Nat → VV} {a : Act} {K : VV → Heap → Nat → Prop} {o : Oper}
theorem move_sound (hT : TM ρ w tm a) (hh : HR Z B ρ H n w) (x : Operand) (ho : o.op = .move x ∨ o.op = .assign x) (h : K (ev tm x) H n) : Runs P Z B K ρ w (execOp a.eval o) := by
  refine runs_value (x := a.eval x) ?_ h (ev_sound hT x) hh
  rcases ho with ho | ho <;> simp [execOp, ho]
theorem nilCheck_sound (hT : TM ρ w tm a) (hh : HR Z B ρ H n w) (x : Operand) (ho : o.op = .nilCheck x) (h : vNilCheck (ev tm) H n K x) : Runs P Z B K ρ w (execOp a.eval o) := by
  unfold vNilCheck onV at h
  dsimp only at h
  have hx := ev_sound hT x
  split at h
  · rename_i m p e
    rw [e] at hx
    obtain ⟨l, hl, hp⟩ := hx.ptr
    refine runs_value (x := a.eval x) ?_ h hx hh
    simp [execOp, ho, hp]
  · rename_i s u e
    rw [e] at hx
    obtain ⟨b, g, ecs, hp, _⟩ := hx.pd
    refine runs_value (x := a.eval x) ?_ h hx hh
    simp [execOp, ho, hp]
  · rename_i f cs e
    rw [e] at hx
    obtain ⟨xs, hp, _⟩ := hx.fn
    refine runs_value (x := a.eval x) ?_ h hx hh
    simp [execOp, ho, hp]
  · exact h.elim
theorem un_sound (hT : TM ρ w tm a) (hh : HR Z B ρ H n w) (op : UnOp) (t : TypeId) (x : Operand) (ho : o.op = .unOp op t x) (h : vUn (ev tm) H n K op x) : Runs P Z B K ρ w (execOp a.eval o) := by
  unfold vUn onV at h
  dsimp only at h
  have hx := ev_sound hT x
  split at h
  · rename_i b e
    rw [e] at hx
    refine runs_value (x := .bool (!b)) ?_ h (by simp [VR, VR1, C1]) hh
    simp [execOp, ho, hx.bool, Op.unary]
  · rename_i k i e
    rw [e] at hx
    refine runs_value (x := .int k (k.wrap (0 - i))) ?_ h (by simp [VR, VR1, C1]) hh
    simp [execOp, ho, hx.int, Op.unary, Op.intArith]
  · exact h.elim
theorem VRs.nth : ∀ (vs : List VV) (xs : List Value) (i : Nat) (u : VV), VRs ρ w vs xs → vs[i]? = some u → ∃ x, xs[i]? = some x ∧ VR1 ρ w u x
  | [], _, _, _, _, hu => by simp at hu
  | v :: vs, xs, 0, u, h, hu => by
    obtain ⟨x, ys, rfl, h1, h2⟩ := h
    simp at hu
    subst hu
    exact ⟨x, by simp, h1⟩
  | v :: vs, xs, i + 1, u, h, hu => by
    obtain ⟨x, ys, rfl, h1, h2⟩ := h
    simp at hu
    obtain ⟨y, g1, g2⟩ := VRs.nth vs ys i u h2 hu
    exact ⟨y, by simpa using g1, g2⟩
theorem extract_sound (hT : TM ρ w tm a) (hh : HR Z B ρ H n w) (x : Operand) (i : Nat) (ho : o.op = .extract x i) (h : vExtract (ev tm) H n K x i) : Runs P Z B K ρ w (execOp a.eval o) := by
  unfold vExtract onV at h
  dsimp only at h
  have hx := ev_sound hT x
  split at h
  · rename_i vs e
    rw [e] at hx
    obtain ⟨xs, hp, hr⟩ := hx.tup
    replace h := bnd_iff.1 h
    obtain ⟨u, hu, h⟩ := h
    obtain ⟨y, h1, h2⟩ := VRs.nth vs xs.toList i u hr hu
    refine runs_value (x := y) ?_ h (VR.of1 h2) hh
    rw [Array.getElem?_toList] at h1
    simp [execOp, ho, hp, Instr.extract, h1]
  · exact h.elim
theorem index_sound (hT : TM ρ w tm a) (hh : HR Z B ρ H n w) (t : TypeId) (x i : Operand) (ho : o.op = .index t x i) (h : vIndex P (ev tm) H n K t x i) : Runs P Z B K ρ w (execOp a.eval o) := by
  unfold vIndex onV at h
  dsimp only at h
  have hx := ev_sound hT x
  have hi := ev_sound hT i
  split at h
  · rename_i s kk k e1 e2
    rw [e1] at hx
    rw [e2] at hi
    replace h := bnd_iff.1 h
    obtain ⟨u, hu, h⟩ := h
    cases u <;> first | exact h.elim | skip
    obtain ⟨⟨h1, h2⟩, h⟩ := h
    have hk : k.toNat < s.length := by omega
    have hget : (ByteArray.mk s.toArray)[k.toNat]? = some (s.getD k.toNat 0) := by
      show (if h : k.toNat < s.toArray.size then some (ByteArray.get _ _) else none) = _
      rw [dif_pos (by simpa using hk)]
      simp [ByteArray.get, List.getD_eq_getElem?_getD, hk]
    refine runs_value (x := .int .u8 (((s.getD k.toNat 0).toNat : Nat) : Int)) ?_ h (by simp [VR, VR1, C1]) hh
    simp only [execOp,ho,hx.str,hi.int,Instr.index,Sem.run_bind,run_underlying hu w,Result.andThen_ok,asIntOf,Sem.run_pure]
    rw [if_pos h1, hget]
    rfl
  · rename_i vs kk k e1 e2
    rw [e1] at hx
    rw [e2] at hi
    obtain ⟨cs, hp, hcr⟩ := hx.agg
    obtain ⟨s, hs, hhas, h⟩ := bnd_iff.1 h
    split at h
    · rename_i len s'
      obtain ⟨hk, h⟩ := h
      obtain ⟨u, hu, h⟩ := bnd_iff.1 h
      obtain ⟨et, h1, h3⟩ := SH_array hs
      obtain ⟨inf, d, hinf, hud, hsz, hrow⟩ := shOf_spec h3
      obtain ⟨su, pre, mid, post, k1, k2, k3, k4, k5, _, _⟩ := focus [k.toNat] (.arr len s') (.agg vs) u cs.toList hhas (by simp [VV.get, hu]) (by simp only [C1]; exact hcr)
      simp only [Sh.at,Option.some.injEq] at k1
      subst k1
      simp only [Sh.off,Nat.add_zero] at k4
      obtain ⟨y, y1, y2⟩ := part_run (P := P) h3 k2 k5 k3
      refine runs_value (x := y) ?_ h y2 hh
      have hs2 : (sizeOf et).run P w = .ok s'.size w := by simp [sizeOf, typeInfo, Sem.run_bind, hinf, hsz]
      simp only [execOp,ho,hp,hi.int,Instr.index,Sem.run_bind,run_underlying h1 w,Result.andThen_ok,asIntOf,Sem.run_pure]
      rw [if_pos hk, Sem.run_bind, hs2]
      simp only [Result.andThen_ok]
      rw [← k4, y1]
      rfl
    · exact h.elim
  · exact h.elim
theorem len_sound (hT : TM ρ w tm a) (hh : HR Z B ρ H n w) (x : Operand) (ts : Array TypeId) (ho : o.op = .call { callee := .builtin .len, args := #[x], argTypes := ts }) (h : vLen P (ev tm) H n K ts x) : Runs P Z B K ρ w (execOp a.eval o) := by
  unfold vLen onV at h
  dsimp only at h
  have hx := ev_sound hT x
  replace h := bnd_iff.1 h
  obtain ⟨t, ht, h⟩ := h
  replace h := bnd_iff.1 h
  obtain ⟨d, hu, h⟩ := h
  have hrun : ∀ (v : Value) (k : Int), (∀ w : World, (Builtin.len_ ts o.type #[v]).run P w = .ok (.int .i64 k) w) → a.eval x = v → (execOp a.eval o).run P w = .ok (.value (.int .i64 k)) w := by
    intro v k hr hv
    simp [execOp, ho, resolve, invoke, builtin, hv, hr w]
  generalize he : ev tm x = v at h hx
  split at h
  · rename_i s
    refine runs_value (hrun _ s.length (fun w => ?_) hx.str) h (by simp [VR, VR1, C1]) hh
    simp [Builtin.len_, run_underlying hu w, goInt, ht]
    rfl
  · rename_i p k
    refine runs_value (hrun (a.eval x) k (fun w => ?_) rfl) h (by simp [VR, VR1, C1]) hh
    cases p with
    | none =>
      simp only [VR,VR1,C1] at hx
      obtain ⟨rfl, hx⟩ := hx
      simp at hx
      simp [Builtin.len_, run_underlying hu w, goInt, ht, hx]
    | some q =>
      obtain ⟨m, p, i⟩ := q
      rcases hx.sl with ⟨rfl, A, hp⟩ | ⟨l, c, e', j, hl, hp, _⟩
      · simp [Builtin.len_, run_underlying hu w, goInt, ht, hp]
      · simp [Builtin.len_, run_underlying hu w, goInt, ht, hp]
  · rename_i s els
    obtain ⟨A, c, hp, _⟩ := hx.dat
    refine runs_value (hrun _ els.length (fun w => ?_) hp) h (by simp [VR, VR1, C1]) hh
    simp [Builtin.len_, run_underlying hu w, goInt, ht]
  · exact h.elim
theorem convert_sound (hT : TM ρ w tm a) (hh : HR Z B ρ H n w) (s d : TypeId) (x : Operand) (ho : o.op = .convert s d x) (h : vConvert P (ev tm) H n K s d x) : Runs P Z B K ρ w (execOp a.eval o) := by
  unfold vConvert onV at h
  dsimp only at h
  have hx := ev_sound hT x
  split at h
  · rename_i kk i e
    rw [e] at hx
    replace h := bnd_iff.1 h
    obtain ⟨su, hsu, h⟩ := h
    replace h := bnd_iff.1 h
    obtain ⟨du, hdu, h⟩ := h
    cases du <;> first | exact h.elim | skip
    rename_i k
    refine runs_value (x := .int k (k.wrap i)) ?_ h (by simp [VR, VR1, C1]) hh
    simp [execOp, ho, hx.int, convert, run_underlying hsu w, run_underlying hdu w, Conv.intToInt]
  · exact h.elim
theorem VR_int {k : IntKind} {i : Int} : VR ρ w (.int k i) (.int k i) := by simp [VR, VR1, C1]
theorem VR_bool {b : Bool} : VR ρ w (.bool b) (.bool b) := by simp [VR, VR1, C1]
theorem VR_str {s : List UInt8} : VR ρ w (.str s) (.string ⟨s.toArray⟩) := by simp [VR, VR1, C1]
theorem bin_sound (hT : TM ρ w tm a) (hh : HR Z B ρ H n w) (op : BinOp) (t t' : TypeId) (x y : Operand) (ho : o.op = .binOp op t x y t') (h : vBin (ev tm) H n K op x y) : Runs P Z B K ρ w (execOp a.eval o) := by
  unfold vBin onV at h
  dsimp only at h
  have hx := ev_sound hT x
  have hy := ev_sound hT y
  unfold vbin at h
  split at h
  · rename_i k i k' j e1 e2
    rw [e1] at hx
    rw [e2] at hy
    have hx := hx.int
    have hy := hy.int
    cases op <;> dsimp only at h
    case shl => exact runs_value (by simp [execOp, ho, hx, hy, eqGuard, binOp, Op.shift, show ¬ j < 0 by have := h.1; omega]) h.2 VR_int hh
    case shr => exact runs_value (by simp [execOp, ho, hx, hy, eqGuard, binOp, Op.shift, show ¬ j < 0 by have := h.1; omega]) h.2 VR_int hh
    case quo => obtain ⟨⟨rfl, hne⟩, h⟩ := h; exact runs_value (by simp [execOp, ho, hx, hy, eqGuard, binOp, Op.intDiv, hne]) h VR_int hh
    case rem => obtain ⟨⟨rfl, hne⟩, h⟩ := h; exact runs_value (by simp [execOp, ho, hx, hy, eqGuard, binOp, Op.intDiv, hne]) h VR_int hh
    case add => obtain ⟨rfl, h⟩ := h; exact runs_value (by simp [execOp, ho, hx, hy, eqGuard, binOp, Op.intArith]) h VR_int hh
    case sub => obtain ⟨rfl, h⟩ := h; exact runs_value (by simp [execOp, ho, hx, hy, eqGuard, binOp, Op.intArith]) h VR_int hh
    case mul => obtain ⟨rfl, h⟩ := h; exact runs_value (by simp [execOp, ho, hx, hy, eqGuard, binOp, Op.intArith]) h VR_int hh
    case and => obtain ⟨rfl, h⟩ := h; exact runs_value (by simp [execOp, ho, hx, hy, eqGuard, binOp, Op.intBits, bits]) h VR_int hh
    case or => obtain ⟨rfl, h⟩ := h; exact runs_value (by simp [execOp, ho, hx, hy, eqGuard, binOp, Op.intBits, bits]) h VR_int hh
    case xor => obtain ⟨rfl, h⟩ := h; exact runs_value (by simp [execOp, ho, hx, hy, eqGuard, binOp, Op.intBits, bits]) h VR_int hh
    case andNot => obtain ⟨rfl, h⟩ := h; exact runs_value (by simp [execOp, ho, hx, hy, eqGuard, binOp, Op.intBits, bits]) h VR_int hh
    all_goals (obtain ⟨rfl, h⟩ := h; exact runs_value (by simp [execOp, ho, hx, hy, eqGuard, binOp, Op.intCmp]) h VR_bool hh)
  · rename_i s s' e1 e2
    rw [e1] at hx
    rw [e2] at hy
    have hx := hx.str
    have hy := hy.str
    have hl : ∀ s : List UInt8, (ByteArray.mk s.toArray).toList = s := fun s => by simp
    split at h
    · obtain ⟨hl, h⟩ := h
      refine runs_value (x := .string ⟨(s ++ s').toArray⟩) ?_ h VR_str hh
      have hz : ¬ (9223372036854775807 : Int) < (s.length : Int) + (s'.length : Int) := by omega
      simp only [execOp,ho,hx,hy,eqGuard,binOp,Op.stringOp]
      have e3 : (ByteArray.mk s.toArray).size = s.length := by show s.toArray.size = _; simp
      have e4 : (ByteArray.mk s'.toArray).size = s'.length := by show s'.toArray.size = _; simp
      have e5 : ByteArray.mk s.toArray ++ ByteArray.mk s'.toArray = ByteArray.mk (s ++ s').toArray := by
        apply ByteArray.ext
        simp
      have e6 : ¬ (((s.length + s'.length : Nat) : Int) > IntKind.i64.max) := by
        have : IntKind.i64.max = 9223372036854775807 := by decide
        omega
      rw [e3, e4, if_neg e6, e5]
      simp
    · refine runs_value (x := .bool (s == s')) ?_ h VR_bool hh
      simp [execOp, ho, hx, hy, eqGuard, binOp, Op.stringOp, hl]
    · refine runs_value (x := .bool (s != s')) ?_ h VR_bool hh
      simp [execOp, ho, hx, hy, eqGuard, binOp, Op.stringOp, hl, bne]
    · exact h.elim
  · exact h.elim
theorem VRA_append : ∀ (vs us : List VV) (xs ys : List Value), VRA ρ w vs xs → VRA ρ w us ys → VRA ρ w (vs ++ us) (xs ++ ys)
  | [], us, xs, ys, h, h' => by obtain rfl : xs = [] := h; exact h'
  | v :: vs, us, xs, ys, h, h' => by
    obtain ⟨x, zs, rfl, h1, h2⟩ := h
    exact ⟨x, zs ++ ys, rfl, h1, VRA_append vs us zs ys h2 h'⟩
theorem VRA_caps : ∀ (vs : List VV) (xs : List Value), CV ρ w vs xs → VRA ρ w vs xs
  | [], xs, h => by simp only [CV] at h; exact h
  | v :: vs, xs, h => by
    simp only [CV] at h
    obtain ⟨x, c2, rfl, h1, h2, h3⟩ := h
    exact ⟨x, c2, rfl, VR.of_leaf h1 h2, VRA_caps vs c2 h3⟩
theorem VRA_map (hT : TM ρ w tm a) : ∀ (xs : List Operand), VRA ρ w (xs.map (ev tm)) (xs.map a.eval)
  | [] => rfl
  | x :: xs => ⟨a.eval x, _, rfl, ev_sound hT x, VRA_map hT xs⟩
theorem call_sound (hT : TM ρ w tm a) (hh : HR ZT B ρ H n w) (f : Operand) (xs : Array Operand) (ts : Array TypeId) (ho : o.op = .call { callee := .value f, args := xs, argTypes := ts }) (h : vCall P (ev tm) H n K f xs.toList) : Runs P ZT B K ρ w (execOp a.eval o) := by
  unfold vCall onV at h
  dsimp only at h
  have hf := ev_sound hT f
  split at h
  · rename_i g caps e
    rw [e] at hf
    obtain ⟨cs, hp, hcv⟩ := hf.fn
    obtain ⟨hc, h⟩ := h
    refine .inr (.inr ⟨g, (xs.map a.eval) ++ cs, ?_, ?_⟩)
    · unfold callable at hc
      split at hc
      · rename_i fn hfn
        simp only [Bool.and_eq_true,bne_iff_ne,ne_eq] at hc
        obtain ⟨b, hb⟩ := Option.isSome_iff_exists.1 hc.2
        simp [execOp, ho, resolve, hp, Deferred.ofValue, invoke, callFunc, hfn, hc.1, hb]
      · cases hc
    · have := h B ρ w ((xs.map a.eval).toList ++ cs.toList) hh (VRA_append _ _ _ _ (by have := VRA_map hT xs.toList; simpa using this) (VRA_caps _ _ hcv))
      have e : ((xs.map a.eval).toList ++ cs.toList).toArray = xs.map a.eval ++ cs := by
        apply Array.ext'
        simp
      rw [e] at this
      exact this
  · exact h.elim
theorem CV_map (hT : TM ρ w tm a) : ∀ (xs : List Operand), (∀ c ∈ xs, (ev tm c).leaf = true) → CV ρ w (xs.map (ev tm)) (xs.map a.eval)
  | [], _ => by simp only [CV,List.map_nil]
  | x :: xs, h => by
    simp only [CV,List.map_cons]
    exact ⟨_, _, rfl, h x (by simp), VR.leaf_cells (h x (by simp)) (ev_sound hT x), CV_map hT xs fun c hc => h c (by simp [hc])⟩
theorem makeFunc_sound (hT : TM ρ w tm a) (hh : HR Z B ρ H n w) (f : FuncId) (first caps : Array Operand) (ho : o.op = .makeFunc (.func f) first caps) (h : vMakeFunc (ev tm) H n K f first caps.toList) : Runs P Z B K ρ w (execOp a.eval o) := by
  obtain ⟨⟨rfl, h1⟩, h⟩ := h
  refine runs_value (x := .func (.func f) #[] (caps.map a.eval)) ?_ h ?_ hh
  · simp [execOp, ho, Instr.makeFunc]
  · simp only [VR,VR1,C1]
    exact ⟨_, rfl, by have := CV_map hT caps.toList h1; simpa using this⟩
end
end Go.Proofs.Ytndbfphmjmhkjaa.V
