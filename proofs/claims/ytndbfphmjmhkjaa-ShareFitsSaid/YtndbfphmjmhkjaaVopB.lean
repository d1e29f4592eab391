/-
  A MACHINE OF VALUES, FOURTH PART: stores, new blocks, addresses.
-/
import Derived.Test.YtndbfphmjmhkjaaVop
set_option linter.unusedVariables false
set_option linter.unusedSectionVars false
set_option linter.unusedSimpArgs false
namespace Go.Proofs.Ytndbfphmjmhkjaa.V
open Go Go.RowKit

section
variable {P : Program} {Z : Nat → Nat → Prop} [Zone Z] {B : Nat} {ρ : Names} {w : World} {H : Heap} {n : Nat} {tm : Nat → VV} {a : Act} {K : VV → Heap → Nat → Prop} {o : Oper}
theorem leaf_cell {v : VV} {x : Value} (hl : v.leaf = true) (h : C1 ρ w v [x]) : x.oneCell' = true := by
  cases v with
  | agg _ | tup _ | vec _ _ | any => simp [VV.leaf] at hl
  | sl p n => cases p with
    | none => simp only [C1] at h; have := h.2; simp at this; subst this; rfl
    | some q => obtain ⟨m, p, i⟩ := q; simp only [C1] at h; rcases h with ⟨_, A, h⟩ | ⟨l, c, e, k, _, h, _⟩ <;> simp at h
                · rw [h]; rfl
                · rw [h]; rfl
  | ptr m p => simp only [C1] at h; obtain ⟨l, _, h⟩ := h; simp at h; subst h; rfl
  | fn f c => simp only [C1] at h; obtain ⟨l, h, _⟩ := h; simp at h; subst h; rfl
  | map m => simp only [C1] at h; obtain ⟨l, _, h⟩ := h; simp at h; subst h; rfl
  | dat s e => simp only [C1] at h; obtain ⟨A, c, h, _⟩ := h; simp at h; subst h; rfl
  | pd s e => simp only [C1] at h; obtain ⟨b, o, c, h, _⟩ := h; simp at h; subst h; rfl
  | raw v => simp only [C1] at h; simp at h; subst h; simpa [VV.leaf] using hl
  | _ => simp only [C1] at h; simp at h; subst h; rfl
theorem one_cells {x : Value} (h : x.oneCell' = true) : x.cells = #[x] := by
  cases x <;> first | rfl | simp [Value.oneCell'] at h
mutual
theorem Has.one : ∀ (s : Sh) (v : VV) (cs : List Value), Has s v → C1 ρ w v cs → ∀ c ∈ cs, c.oneCell' = true
  | .cell, v, cs, h, hc => by
    simp only [Has] at h
    obtain ⟨x, rfl⟩ := leaf_one h hc
    intro c hcm
    simp at hcm
    subst hcm
    exact leaf_cell h hc
  | .st ls, v, cs, h, hc => by
    cases v <;> simp only [Has] at h <;> first | exact h.elim | skip
    rename_i vs
    simp only [C1] at hc
    exact HasL.one ls vs cs h hc
  | .arr n s, v, cs, h, hc => by
    cases v <;> simp only [Has] at h <;> first | exact h.elim | skip
    rename_i vs
    simp only [C1] at hc
    obtain ⟨rfl, h⟩ := h
    induction vs generalizing cs with
    | nil => simp only [CR] at hc; simp [hc]
    | cons v vs ih =>
      simp only [CR] at hc
      obtain ⟨c1, c2, rfl, h1, h2⟩ := hc
      intro c hcm
      rcases List.mem_append.1 hcm with hcm | hcm
      · exact Has.one s v c1 (h v (by simp)) h1 c hcm
      · exact ih c2 h2 (fun u hu => h u (by simp [hu])) c hcm
theorem HasL.one : ∀ (ls : List Sh) (vs : List VV) (cs : List Value), HasL ls vs → CR ρ w vs cs → ∀ c ∈ cs, c.oneCell' = true
  | [], vs, cs, h, hc => by
    simp only [HasL] at h
    subst h
    simp only [CR] at hc
    simp [hc]
  | s :: ls, [], _, h, _ => by simp [HasL] at h
  | s :: ls, v :: vs, cs, h, hc => by
    simp only [HasL] at h
    simp only [CR] at hc
    obtain ⟨c1, c2, rfl, h1, h2⟩ := hc
    intro c hcm
    rcases List.mem_append.1 hcm with hcm | hcm
    · exact Has.one s v c1 h.1 h1 c hcm
    · exact HasL.one ls vs c2 h.2 h2 c hcm
end
theorem HasA.one {s : Sh} : ∀ (vs : List VV) (cs : List Value), (∀ v ∈ vs, Has s v) → CR ρ w vs cs → ∀ c ∈ cs, c.oneCell' = true
  | [], cs, _, h => by simp only [CR] at h; simp [h]
  | v :: vs, cs, h, hc => by
    simp only [CR] at hc
    obtain ⟨c1, c2, rfl, h1, h2⟩ := hc
    intro c hcm
    rcases List.mem_append.1 hcm with hcm | hcm
    · exact Has.one s v c1 (h v (by simp)) h1 c hcm
    · exact HasA.one vs c2 (fun u hu => h u (by simp [hu])) h2 c hcm
theorem val_cells {s : Sh} {v : VV} {x : Value} (hs : Has s v) (h : VR ρ w v x) : C1 ρ w v x.cells.toList := by
  cases s with
  | cell =>
    simp only [Has] at hs
    have := VR.leaf_cells hs h
    rw [one_cells (leaf_cell hs this)]
    exact this
  | st ls =>
    cases v <;> simp only [Has] at hs <;> first | exact hs.elim | skip
    obtain ⟨cs, rfl, hc⟩ := h.agg
    simp only [C1]; exact hc
  | arr k s =>
    cases v <;> simp only [Has] at hs <;> first | exact hs.elim | skip
    obtain ⟨cs, rfl, hc⟩ := h.agg
    simp only [C1]; exact hc
theorem setCells_size (b : Nat) : ∀ (vs : List Value) (o : Nat) (w : World), (w.setCells b o vs).heap.size = w.heap.size
  | [], _, _ => rfl
  | v :: vs, o, w => by
    rw [World.setCells, setCells_size b vs (o + 1)]
    simp [World.setCell]
theorem setCells_other (b : Nat) {k : Nat} (hk : k ≠ b) : ∀ (vs : List Value) (o : Nat) (w : World), (w.setCells b o vs).heap[k]? = w.heap[k]?
  | [], _, _ => rfl
  | v :: vs, o, w => by
    rw [World.setCells, setCells_other b hk vs (o + 1)]
    exact Below.heap_setCell _ _ _ _ hk
theorem setCells_below {b : Nat} (hb : B ≤ b) {w0 : World} : ∀ (vs : List Value) (o : Nat) (w : World), Below B w0 w → Below B w0 (w.setCells b o vs)
  | [], _, _, h => h
  | v :: vs, o, w, h => setCells_below hb vs (o + 1) _ (h.setCell (p := ⟨b, o, none⟩) hb v)
theorem range_append {b f : Nat} {xs ys : List Value} : w.rangeAt b f (xs ++ ys) ↔ w.rangeAt b f xs ∧ w.rangeAt b (f + xs.length) ys := by
  constructor
  · intro h
    refine ⟨fun j v hv => h j v ?_, fun j v hv => ?_⟩
    · have hj : j < xs.length := (List.getElem?_eq_some_iff.1 hv).1
      rw [List.getElem?_append_left hj]; exact hv
    · have := h (xs.length + j) v (by rw [List.getElem?_append_right (by omega)]; simpa using hv)
      rwa [← Nat.add_assoc] at this
  · rintro ⟨h1, h2⟩ j v hv
    rcases Nat.lt_or_ge j xs.length with hj | hj
    · rw [List.getElem?_append_left hj] at hv
      exact h1 j v hv
    · rw [List.getElem?_append_right hj] at hv
      have := h2 (j - xs.length) v hv
      rwa [show f + xs.length + (j - xs.length) = f + j by omega] at this
theorem there_part {b f n g k : Nat} (h : w.there b f n) (hk : g + k ≤ n) : w.there b (f + g) k := fun j hj => by
  have := h (g + j) (by omega)
  rwa [← Nat.add_assoc] at this
theorem run_storeVar_any {t : TypeId} {b f : Nat} {x : Value} (ht : w.there b f x.cells.size) (hi : (P.info? t).map (·.size) = some x.cells.size) (h1 : ∀ c ∈ x.cells.toList, c.oneCell' = true) :
    (storeVar t ⟨b, f, none⟩ x).run P w = .ok () (w.setCells b f x.cells.toList) := by
  have := run_storeCells_cells (P := P) b f x.cells.toList 0 w (fun j hj => by simpa using (ht j (by simpa using hj)).1) (fun j hj => by simpa using (ht j (by simpa using hj)).2) h1
  cases hq : P.info? t with
  | none => simp [hq] at hi
  | some i =>
    have hs : x.cells.size = i.size := by simp [hq] at hi; omega
    simp only [Nat.add_zero] at this
    simp [storeVar, sizeOf, typeInfo, hq, hs, this]
/-- a part of a named block is written -/
theorem store_part (hh : HR Z B ρ H n w) {m : Nat} {p : List Nat} {s st : Sh} {c u v : VV} {l : Loc} (hb : H m = some (.row s c)) (hl : ρ m = some l) (hu : c.get p = some u) (hat : s.at p = some st) (hv : Has st v) {cs : List Value} (hc : C1 ρ w v cs) :
    w.there l.block (l.base + l.sh.off p) cs.length ∧ HR Z B ρ (upd H m (some (.row s (c.set p v)))) n (w.setCells l.block (l.base + l.sh.off p) cs) ∧ Ext ρ w ρ (w.setCells l.block (l.base + l.sh.off p) cs) ∧ Below B w (w.setCells l.block (l.base + l.sh.off p) cs) := by
  have hrow := hh.row m s c l hb hl
  obtain ⟨ds, g1, g2, g3⟩ := hrow.cells
  obtain ⟨su, pre, mid, post, k1, k2, rfl, k4, k5, k6, k7⟩ := focus p s c u ds hrow.has hu g1
  rw [k1] at hat
  injection hat with hat
  subst hat
  rw [hrow.sh, ← k4]
  have e1 := Has.len su v cs hv hc
  have e2 := Has.len su u mid k2 k5
  simp only [List.length_append] at g2
  have hth : w.there l.block (l.base + pre.length) cs.length := there_part hrow.room (by omega)
  have hsz := setCells_size l.block cs (l.base + pre.length) w
  have hot : ∀ b, b ≠ l.block → (w.setCells l.block (l.base + pre.length) cs).heap[b]? = w.heap[b]? := fun b hb' => setCells_other l.block hb' cs _ w
  have he : Ext ρ w ρ (w.setCells l.block (l.base + pre.length) cs) := ⟨fun _ _ h => h, by omega, fun b hb' hu' => hot b (fun e => hu'.2 m l hl e.symm), fun _ _ h => .inl h, fun _ h => h, fun _ h => .inl h⟩
  have hrow' : RowAt ρ (w.setCells l.block (l.base + pre.length) cs) l s (c.set p v) := by
    refine ⟨hrow.sh, k6 v hv, ⟨pre ++ cs ++ post, k7 _ _ v cs he (C1.ext he v cs hc), by simp only [List.length_append]; omega, ?_⟩, World.there_setCells hrow.room _ _ _⟩
    rw [range_append, range_append] at g3 ⊢
    obtain ⟨⟨r1, r2⟩, r3⟩ := g3
    refine ⟨⟨World.rangeAt_setCells_apart r1 _ _ _ (.inr (.inl (by omega))), World.rangeAt_setCells_same w _ _ _ hth⟩, ?_⟩
    have : (pre ++ cs).length = (pre ++ mid).length := by simp only [List.length_append]; omega
    rw [this]
    exact World.rangeAt_setCells_apart r3 _ _ _ (.inr (.inr (by simp only [List.length_append]; omega)))
  exact ⟨hth, (hh.put hl (by rw [hb]; simp) hsz hot hrow').1, he, setCells_below (hh.lt m l hl).1 cs _ w (Below.refl _ _)⟩
theorem store_sound (hT : TM ρ w tm a) (hh : HR Z B ρ H n w) (t : TypeId) (y x : Operand) (ho : o.op = .store t y x) (h : vStore P (ev tm) H n K t y x) : Runs P Z B K ρ w (execOp a.eval o) := by
  unfold vStore onV at h
  dsimp only at h
  have hy := ev_sound hT y
  split at h
  · rename_i m p e
    rw [e] at hy
    obtain ⟨l, hl, hp⟩ := hy.ptr
    obtain ⟨blk, hb, h⟩ := bnd_iff.1 h
    split at h
    · rename_i s c
      obtain ⟨st, hst, h⟩ := bnd_iff.1 h
      obtain ⟨⟨hat, hx⟩, h⟩ := h
      obtain ⟨u, hu, h⟩ := bnd_iff.1 h
      have hxv := ev_sound hT x
      have hc := val_cells hx hxv
      obtain ⟨h1, h2, h3, h4⟩ := store_part hh hb hl hu hat hx hc
      obtain ⟨i, d, hi, _, hsz, _⟩ := shOf_spec hst
      have hlen := Has.len _ _ _ hx hc
      rw [Array.length_toList] at h1 hlen
      have hrun := run_storeVar_any (P := P) (t := t) h1 (by rw [hi, hlen]; simp [hsz]) (Has.one _ _ _ hx hc)
      refine .inr (.inl ⟨_, ?_, .any, _, _, ρ, h, by simp [VR, VR1], h2, h3, h4⟩)
      simp only [execOp,ho,hp,Instr.storeAt,Instr.sureAddr,Sem.run_bind,Sem.run_pure,Result.andThen_ok,hrun]
    · exact h.elim
  · exact h.elim

/-- a new block -/
theorem new_blockF (hh : HR Z B ρ H n w) (hZ : Zone.ok Z n) {s : Sh} {v : VV} {cs : List Value} (hs : Has s v) (hc : C1 ρ w v cs) {cells : Array Value} {t : TypeId} {tail : List Value} (hcells : cells.toList = cs ++ tail) (fz : Nat × Nat) (hfz : ∀ j, j < cells.size → ¬ (fz.1 ≤ j ∧ j < fz.2)) :
    ∃ l : Loc, l.block = w.heap.size ∧ l.base = 0 ∧ l.room = cells.size ∧ l.sh = s ∧ HR Z B (ρ.give n l) (upd H n (some (.row s v))) (n + 1) (w.alloc (.cells cells t fz)) ∧
      Ext ρ w (ρ.give n l) (w.alloc (.cells cells t fz)) ∧ Below B w (w.alloc (.cells cells t fz)) := by
  have hsz : (w.alloc (.cells cells t fz)).heap.size = w.heap.size + 1 := by simp
  have hot : ∀ b, b < w.heap.size → (w.alloc (.cells cells t fz)).heap[b]? = w.heap[b]? := fun b hb => Below.heap_alloc w _ b hb
  have hnew : (w.alloc (.cells cells t fz)).heap[w.heap.size]? = some (.cells cells t fz) := by
    show (w.heap.push _)[w.heap.size]? = _
    simp
  have hcell : ∀ j, (w.alloc (.cells cells t fz)).cell? ⟨w.heap.size, j, none⟩ = cells[j]? := fun j => by
    unfold World.cell?
    simp only [hnew]
    simp
  have he := ext_new (w' := w.alloc (.cells cells t fz)) (hh.fresh n (Zone.free n hZ)) ⟨w.heap.size, 0, cells.size, s⟩ (by omega) (fun b hb _ => hot b hb) (.inl (Nat.le_refl _))
  refine ⟨⟨w.heap.size, 0, cells.size, s⟩, rfl, rfl, rfl, rfl, ?_, he, (Below.refl _ _).alloc hh.base _⟩
  refine hh.new hZ ⟨w.heap.size, 0, cells.size, s⟩ (Nat.le_refl _) (by show w.heap.size < _; omega) (by omega) hot ⟨rfl, hs, ⟨cs, C1.ext he v cs hc, ?_, fun j x hx => ?_⟩, fun j hj => ⟨?_, ?_⟩⟩
  · have := congrArg List.length hcells
    simp only [Array.length_toList,List.length_append] at this
    show cs.length ≤ cells.size
    omega
  · have hj : j < cs.length := (List.getElem?_eq_some_iff.1 hx).1
    rw [Nat.zero_add, hcell, ← Array.getElem?_toList, hcells, List.getElem?_append_left hj]
    exact hx
  · rw [Nat.zero_add, hcell]
    have : j < cells.size := hj
    simp [this]
  · unfold World.frozen?
    simp only [hnew]
    have hf := hfz j hj
    obtain ⟨f1, f2⟩ := fz
    simp only [Nat.zero_add,Bool.and_eq_false_iff,decide_eq_false_iff_not] at hf ⊢
    omega
theorem new_block (hh : HR Z B ρ H n w) (hZ : Zone.ok Z n) {s : Sh} {v : VV} {cs : List Value} (hs : Has s v) (hc : C1 ρ w v cs) {cells : Array Value} {t : TypeId} {tail : List Value} (hcells : cells.toList = cs ++ tail) :
    ∃ l : Loc, l.block = w.heap.size ∧ l.base = 0 ∧ l.room = cells.size ∧ l.sh = s ∧ HR Z B (ρ.give n l) (upd H n (some (.row s v))) (n + 1) (w.alloc (.cells cells t)) ∧
      Ext ρ w (ρ.give n l) (w.alloc (.cells cells t)) ∧ Below B w (w.alloc (.cells cells t)) :=
  new_blockF hh hZ hs hc hcells (0, 0) (fun j _ h => by omega)
theorem box_sound (hT : TM ρ w tm a) (hh : HR Z B ρ H n w) (hG : Gives Z n K) (t : TypeId) (x : Operand) (ho : o.op = .box t x) (h : vBox P (ev tm) H n K t x) : Runs P Z B K ρ w (execOp a.eval o) := by
  unfold vBox at h
  obtain ⟨s, hs, hx, h⟩ := bnd_iff.1 h
  have hc := val_cells hx (ev_sound hT x)
  obtain ⟨l, e1, e2, e3, e4, h1, h2, h3⟩ := new_block hh (hG.one h) (t := t) (cells := (a.eval x).cells) (tail := []) hx hc (by simp)
  refine .inl ⟨.pointer (some ⟨w.heap.size, 0, none⟩), _, ?_, _, _, _, _, h, ?_, h1, h2, h3⟩
  · simp [execOp, ho, Instr.box, newVar, newRow]
  · simp only [VR,VR1,C1]
    exact ⟨l, by rw [give_ap, if_pos rfl], by rw [e1, e2]; simp [Sh.off]⟩
end
end Go.Proofs.Ytndbfphmjmhkjaa.V
