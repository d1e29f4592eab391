/-
  ROWS OF THE CALL's OWN: an append of one element; rows that lie apart; bytes.
-/
import Derived.Maps.AppendAt
import Derived.OwnWalk
import Derived.Lib.SmallJoins
import Derived.Test.YtgalfkjhogidmaaRd
namespace Go.Proofs.Ytgalfkjhogidmaa
open Go.RowKit

/-- two rows of the call's own lie in blocks of their own -/
def Apart (u v : Value) : Prop := u.ownBlock = none ∨ u.ownBlock ≠ v.ownBlock
theorem Apart.symm {u v : Value} (h : Apart u v) : Apart v u := by
  rcases h with h | h
  · cases hv : v.ownBlock with
    | none => exact .inl hv
    | some g => exact .inr (by rw [hv, h]; simp)
  · exact .inr fun e => h e.symm

/-- what an append onto a row v of the call's own comes to: v' holds the old elements and the new ones; v reads as it did; nothing else has turned -/
structure Pushed (B : Nat) (T : TypeId) (sz : Nat) (w w' : World) (v v' : Value) (n m : Nat) (xs news : List Value) : Prop where
  own : w'.ownsRow B T sz v' (n + m) (xs ++ news)
  old : w'.ownsRow B T sz v n xs
  grown : w.grownBy w' v.ownBlock
  spot : v'.ownBlock = v.ownBlock ∨ (v'.ownBlock = some w.heap.size ∧ Kept w w')

theorem own_size {w : World} {B T sz n : Nat} {v : Value} {xs : List Value} (h : w.ownsRow B T sz v n xs) : xs.length = n * sz := h.1
theorem own_kept {w w' : World} {B T sz n : Nat} {v : Value} {xs : List Value} (h : w.ownsRow B T sz v n xs) (hk : Kept w w') : w'.ownsRow B T sz v n xs :=
  h.kept (row := none) ⟨hk.os, hk.tape, hk.output, hk.size, fun k hk' _ => hk.block k hk'⟩ (by
    cases hb : v.ownBlock with
    | none => exact .inl rfl
    | some g => exact .inr (by simp))
section
variable {B B' C T U sz sy n m k : Nat} {w0 w w' : World} {v v' u : Value} {xs ys news : List Value}
theorem Pushed.below (h : Pushed B T sz w w' v v' n m xs news) (hown : w.ownsRow B T sz v n xs) (hB : B' ≤ B) (hB' : B' ≤ w.heap.size) : Below B' w w' :=
  (Below.refl _ _).grown h.grown hB' fun k hk => by have := hown.lt k hk; omega
theorem Pushed.kept (h : Pushed B T sz w w' v v' n m xs news) (hk : Kept w0 w) (hown : w.ownsRow B T sz v n xs) (hB : w0.heap.size ≤ B) : Kept w0 w' :=
  Below.trans hk (h.below hown hB hk.size)
theorem Pushed.other (h : Pushed B T sz w w' v v' n m xs news) (hu : w.ownsRow C U sy u k ys) (ha : Apart u v) :
    w'.ownsRow C U sy u k ys ∧ Apart u v' := by
  refine ⟨hu.kept h.grown ?_, ?_⟩
  · rcases ha with ha | ha
    · exact .inl ha
    · exact .inr ha
  · rcases h.spot with e | ⟨e, hg⟩
    · unfold Apart; rw [e]; exact ha
    · cases hb : u.ownBlock with
      | none => exact .inl hb
      | some k =>
        refine .inr ?_
        rw [hb, e]
        have := (hu.lt k hb).2
        intro e'
        injection e' with e'
        omega
end

theorem Apart.fresh {w : World} {B T sz n : Nat} {v : Value} {xs : List Value} (h : w.ownsRow B T sz v n xs) (m c : Nat) : Apart v (.slice (some ⟨w.heap.size, 0, none⟩) m c) := by
  cases hb : v.ownBlock with
  | none => exact .inl hb
  | some k =>
    refine .inr ?_
    rw [hb]
    have := (h.lt k hb).2
    intro e
    injection e with e
    simp at e
    omega
theorem add_zero_none (g j : Nat) : (⟨g, 0, none⟩ : Addr).add j = ⟨g, j, none⟩ := by unfold Addr.add; split <;> simp_all
theorem add_off (g o j : Nat) : (⟨g, o, none⟩ : Addr).add j = ⟨g, o + j, none⟩ := by unfold Addr.add; split <;> simp_all
section
variable {P : Program} {w : World}
theorem run_cat {t ty T : TypeId} {z : Value} {sz bytes : Nat} (ht : P.underlying t = some (.slice T)) (hi : (P.info? T).map (fun i => (i.zero, i.size, i.bytes)) = some (some z, sz, bytes)) (hzs : z.cells.size = sz) (hsz : 0 < sz)
    {B n : Nat} {v : Value} {xs : List Value} (hown : w.ownsRow B T sz v n xs) (hB : B ≤ w.heap.size) (A : Option Addr) (m c : Nat) (news : List Value) (hl : news.length = m * sz) (hr : Rd w A news.length (fun j => news.getD j undef))
    (h1 : ∀ u ∈ news, u.oneCell' = true) (hn : n + m ≤ maxLen) (hb : (n + m) * bytes ≤ 140737488355328) :
    ∃ v' w', (Builtin.append_ #[t, t] ty #[v, .slice A m c]).run P w = .ok v' w' ∧ Pushed B T sz w w' v v' n m xs news := by
  obtain ⟨i, hi1, hz, hsize, hby⟩ := info_parts hi
  subst hsize hby
  have hsmall : n + m ≤ 9223372036854775807 := by simp only [maxLen] at hn; omega
  have hlen : (xs ++ news).length = (n + m) * i.size := by rw [List.length_append, hown.1, hl, Nat.add_mul]
  cases A with
  | none =>
    have hm : m = 0 := by
      rcases Nat.eq_zero_or_pos m with h0 | h0
      · exact h0
      · obtain ⟨b, o, e, _⟩ := hr (by rw [hl]; exact Nat.mul_pos h0 hsz)
        cases e
    subst hm
    have hnil : news = [] := List.eq_nil_of_length_eq_zero (by omega)
    subst hnil
    refine ⟨v, w, ?_, by simpa using hown, hown, ⟨rfl, rfl, rfl, Nat.le_refl _, fun _ _ _ => rfl⟩, .inl rfl⟩
    rcases hown.2 with ⟨rfl, rfl⟩ | ⟨g, cap, cur, rfl, _, _, hnc, _⟩
    · simp [Builtin.append_, run_underlying ht, sizeOf, typeInfo, hi1, Builtin.lenOf, Builtin.firstCells]
    · simp [Builtin.append_, run_underlying ht, sizeOf, typeInfo, hi1, Builtin.lenOf, Builtin.firstCells, hnc, storeCells]
  | some ad =>
    have hnews : ∀ j u, news[j]? = some u → w.cell? (ad.add j) = some u := by
      intro j u hj
      have hj' : j < news.length := by
        rcases Nat.lt_or_ge j news.length with hlt | hge
        · exact hlt
        · rw [List.getElem?_eq_none hge] at hj; cases hj
      obtain ⟨b, o, e, hc⟩ := hr (by omega)
      injection e with e
      subst e
      rw [add_off, hc j hj']
      simp [List.getD_eq_getElem?_getD, hj]
    have fresh : ∀ (old : Nat), old < n + m → Kept w (w.drew.alloc (.cells (xs.toArray ++ news.toArray ++ Builtin.zeroCells z.cells (grownCap w (n + m) old T - (n + m))) T)) ∧
        (w.drew.alloc (.cells (xs.toArray ++ news.toArray ++ Builtin.zeroCells z.cells (grownCap w (n + m) old T - (n + m))) T)).ownsRow B T i.size (.slice (some ⟨w.heap.size, 0, none⟩) (n + m) (grownCap w (n + m) old T)) (n + m) (xs ++ news) := by
      intro old ho
      refine ⟨((Below.refl _ _).drew).alloc (Nat.le_refl _) _, hlen, .inr ⟨w.heap.size, _, _, rfl, hB, heap_alloc_new w.drew _, grownCap_ge w (n + m) old T, grownCap_le_maxLen w (n + m) old T hn, ?_, ?_⟩⟩
      · have := grownCap_ge w (n + m) old T
        simp only [Array.size_append, List.size_toArray, size_zeroCells, hzs, hown.1, hl, ← Nat.add_mul]
        congr 1
        omega
      · simp only [Array.toList_append, List.append_assoc]
        rw [← List.append_assoc, ← hlen]
        exact List.take_left
    have ofKept : ∀ {w' : World} (row : Option Nat), Kept w w' → w.grownBy w' row := fun row hk => ⟨hk.os, hk.tape, hk.output, hk.size, fun k hk' _ => hk.block k hk'⟩
    rcases hown.2 with ⟨rfl, rfl⟩ | ⟨g, cap, cur, rfl, hbg, hg, hnc, hcm, hcs, htake⟩
    · have hx : xs = [] := List.eq_nil_of_length_eq_zero (by simpa using hown.1)
      subst hx
      by_cases hm : m = 0
      · subst hm
        have hnil : news = [] := List.eq_nil_of_length_eq_zero (by omega)
        subst hnil
        refine ⟨.slice none 0 0, w, ?_, hown, hown, ⟨rfl, rfl, rfl, Nat.le_refl _, fun _ _ _ => rfl⟩, .inl rfl⟩
        simp [Builtin.append_, run_underlying ht, sizeOf, typeInfo, hi1, Builtin.lenOf, Builtin.firstCells, loadCells, loadCellsFrom]
      · have hrun := run_append_nil (P := P) w t ty T i z ht hi1 hz ad m c news hl hnews (by omega) (by omega) (by have hb := hb; simp only [Nat.zero_add] at hb; omega)
        obtain ⟨hk, ho⟩ := fresh 0 (by omega)
        simp only [Nat.zero_add, List.nil_append, Array.empty_append] at hk ho
        exact ⟨_, _, hrun, by simpa using ho, own_kept hown hk, ofKept _ hk, .inr ⟨rfl, hk⟩⟩
    · by_cases hroom : n + m ≤ cap
      · have hfit : n * i.size + news.length ≤ cur.size := by rw [hl, hcs, ← Nat.add_mul]; exact Nat.mul_le_mul_right _ hroom
        have hrun := run_append_room (P := P) w t ty T i ht hi1 g n cap cur hg ad m c news hl hnews h1 hroom hfit
        have hsz2 : (cur.toList.take (n * i.size) ++ news ++ cur.toList.drop (n * i.size + news.length)).toArray.size = cap * i.size := by
          simp only [List.size_toArray, List.length_append, List.length_take, List.length_drop, Array.length_toList]
          omega
        refine ⟨_, _, hrun, ⟨hlen, .inr ⟨g, cap, _, rfl, hbg, setRow_heap w g cur _ T _ hg, hroom, hcm, hsz2, ?_⟩⟩, ⟨hown.1, .inr ⟨g, cap, _, rfl, hbg, setRow_heap w g cur _ T _ hg, hnc, hcm, hsz2, ?_⟩⟩,
          ⟨rfl, rfl, rfl, by simp, fun k _ hk => setRow_other w g k _ (fun e => hk (by simp [Value.ownBlock, e]))⟩, .inl rfl⟩
        · rw [htake, ← hlen]
          exact List.take_left
        · rw [htake, List.append_assoc, ← hown.1]
          exact List.take_left
      · have holds : ∀ j u, xs[j]? = some u → w.cell? ((⟨g, 0, none⟩ : Addr).add j) = some u := hown.cells (g := g) rfl
        have hrun := run_append_grow (P := P) w t ty T i z ht hi1 hz ⟨g, 0, none⟩ n cap xs hown.1 holds ad m c news hl hnews (by omega) (by omega) (growslice_fits (by omega) hb)
        obtain ⟨hk, ho⟩ := fresh cap (by omega)
        exact ⟨_, _, hrun, ho, own_kept hown hk, ofKept _ hk, .inr ⟨rfl, hk⟩⟩

/-- 's = append(s, x...)' onto a row of the call's own -/
theorem wpList_cat {ops : Array Oper} {rest : List Oper} {o : Oper} {a : Act} {Q : Exit → Act → World → Prop} (hgd : o.guard = none) (s x : Operand) (t : TypeId)
    (ho : o.op = .call { callee := .builtin .append, args := #[s, x], argTypes := #[t, t] })
    {T : TypeId} {z : Value} {sz bytes : Nat} (ht : P.underlying t = some (.slice T)) (hi : (P.info? T).map (fun i => (i.zero, i.size, i.bytes)) = some (some z, sz, bytes)) (hzs : z.cells.size = sz) (hsz : 0 < sz)
    {B n m c : Nat} {A : Option Addr} {v : Value} {xs news : List Value} (hs : a.eval s = v) (hx : a.eval x = .slice A m c) (hown : w.ownsRow B T sz v n xs) (hB : B ≤ w.heap.size)
    (hl : news.length = m * sz) (hr : Rd w A news.length (fun j => news.getD j undef)) (h1 : ∀ u ∈ news, u.oneCell' = true) (hn : n + m ≤ maxLen) (hb : (n + m) * bytes ≤ 140737488355328)
    (h : ∀ v' w', Pushed B T sz w w' v v' n m xs news → wpList P ops Q rest (a.put o.dst v') w') :
    wpList P ops Q (o :: rest) a w := by
  refine wpList_plain hgd fun K hK => ?_
  obtain ⟨v', w', hrun, hP⟩ := run_cat (P := P) (ty := o.type) ht hi hzs hsz hown hB A m c news hl hr h1 hn hb
  unfold Oper.wp execOp
  simp only [ho, resolve, invoke, builtin, Sem.run_bind, Sem.run_pure, Result.andThen_ok, List.map_toArray, List.map_cons, List.map_nil, hs, hx, hrun]
  exact hK _ _ (h v' w' hP)

theorem Rd.new (w : World) (news : List Value) (T : TypeId) : Rd (w.alloc (.cells news.toArray T)) (some ⟨w.heap.size, 0, none⟩) news.length (fun j => news.getD j undef) := by
  intro _
  refine ⟨_, _, rfl, fun j hj => ?_⟩
  rw [cell_of_row _ _ _ _ _ _ (heap_alloc_new w _)]
  simp [hj, List.getD_eq_getElem?_getD]

/-- 's = append(s, x)', x one element: its cells lie in a new block -/
theorem wpList_push {ops : Array Oper} {rest : List Oper} {o : Oper} {a : Act} {Q : Exit → Act → World → Prop} (hgd : o.guard = none) (s x : Operand) (t : TypeId)
    (ho : o.op = .call { callee := .builtin .append, args := #[s, x], argTypes := #[t, t] })
    {T : TypeId} {z : Value} {sz bytes : Nat} (ht : P.underlying t = some (.slice T)) (hi : (P.info? T).map (fun i => (i.zero, i.size, i.bytes)) = some (some z, sz, bytes)) (hzs : z.cells.size = sz) (hsz : 0 < sz)
    {B n : Nat} {v : Value} {xs news : List Value} (hs : a.eval s = v) (hx : a.eval x = .slice (some ⟨w.heap.size, 0, none⟩) 1 1) (hown : w.ownsRow B T sz v n xs) (hB : B ≤ w.heap.size)
    (hl : news.length = sz) (h1 : ∀ u ∈ news, u.oneCell' = true) (hn : n < maxLen) (hb : (n + 1) * bytes ≤ 140737488355328)
    (h : ∀ v' w', Pushed B T sz (w.alloc (.cells news.toArray T)) w' v v' n 1 xs news → wpList P ops Q rest (a.put o.dst v') w') :
    wpList P ops Q (o :: rest) a (w.alloc (.cells news.toArray T)) :=
  wpList_cat hgd s x t ho ht hi hzs hsz hs hx (hown.alloc _) (by rw [World.size_alloc]; omega) (by omega) (Rd.new w news T) h1 (by omega) hb h
end

/-- a row of bytes of the call's own -/
theorem bytes_own {w : World} {B T : Nat} {v : Value} {n : Nat} {l : List UInt8} (h : w.ownsRow B T 1 v n (bvs l)) : ∃ A c, v = .slice A n c ∧ l.length = n ∧ l.length ≤ maxLen ∧ RdB w A l := by
  have hl : l.length = n := by have := h.1; simpa [bvs] using this
  subst hl
  rcases h.2 with ⟨rfl, hn⟩ | ⟨g, cap, cur, rfl, _, hg, hc, hm, hs, ht⟩
  · rw [hn]
    exact ⟨none, 0, rfl, rfl, Nat.zero_le _, fun h0 => by omega⟩
  · refine ⟨_, _, rfl, rfl, by omega, fun _ => ⟨_, _, rfl, fun j hj => ?_⟩⟩
    rw [Nat.zero_add, h.cellAt j (by omega)]
    show (bvs l)[j]? = some (.int .u8 (B8 (Gf.nth l j)))
    rw [Gf.nth_lt hj]
    simp [bvs, hj]
theorem bvs_push (l : List UInt8) (x : UInt8) : bvs l ++ [.int .u8 (B8 x)] = bvs (l ++ [x]) := by simp [bvs]
theorem RdB.cells {w : World} {A : Option Addr} {l : List UInt8} (h : RdB w A l) : Rd w A (bvs l).length (fun j => (bvs l).getD j undef) := by
  have hl : (bvs l).length = l.length := by simp [bvs]
  intro h0
  obtain ⟨b, o, e, hc⟩ := h (by omega)
  refine ⟨b, o, e, fun j hj => ?_⟩
  have hj' : j < l.length := by omega
  rw [hc j hj']
  show some (Value.int .u8 (B8 (Gf.nth l j))) = some ((bvs l).getD j undef)
  rw [Gf.nth_lt hj']
  simp [bvs, List.getD_eq_getElem?_getD, hj']
theorem bvs_one {u : Value} {l : List UInt8} (h : u ∈ bvs l) : u.oneCell' = true := by
  simp only [bvs, List.mem_map] at h
  obtain ⟨x, _, rfl⟩ := h
  rfl
theorem bvs_append (l m : List UInt8) : bvs l ++ bvs m = bvs (l ++ m) := by simp [bvs]
theorem bvs_length (l : List UInt8) : (bvs l).length = l.length := by simp [bvs]
/-- a new row of literal bytes -/
theorem bytes_lit (w : World) (l : List UInt8) (B T : Nat) (hB : B ≤ w.heap.size) (hl : l.length ≤ maxLen) :
    (w.alloc (.cells (bvs l).toArray T)).ownsRow B T 1 (.slice (some ⟨w.heap.size, 0, none⟩) l.length l.length) l.length (bvs l) :=
  ⟨by simp [bvs], .inr ⟨_, _, _, rfl, hB, heap_alloc_new w _, Nat.le_refl _, hl, by simp [bvs], List.take_of_length_le (by simp [bvs])⟩⟩
end Go.Proofs.Ytgalfkjhogidmaa
