/-
  ARGUMENTS OPENED BY THEIR TYPE: a small language of types; what a value of such a type says, in plain Lean data; and that every argument that the form's reader reads says something.
-/
import Derived.ProofKit
import Derived.OpenShut
import Derived.ShutString
import Derived.ChangeOld
import Derived.Below
import Derived.SizedLaws
import Derived.Test.YtndbfphmjmhkjaaRd
namespace Go.Proofs.Ytndbfphmjmhkjaa
open Go.RowKit Go.WideShapes Go.ChangeShapes Go.ChangeAt

inductive Ty where
  | int (k : IntKind)
  | u8
  | bool
  | str
  | arr (n : Nat) (t : Ty)
  | sl (t : Ty)
  | fnil
  | fcons (a b : Ty)

namespace Ty
def size : Ty → Nat
  | int _ | u8 | bool | str | sl _ => 1
  | arr n t => n * t.size
  | fnil => 0
  | fcons a b => a.size + b.size
def D : Ty → Type
  | int _ => Int
  | u8 => UInt8
  | bool => Bool
  | str => List UInt8
  | arr _ t => List t.D
  | sl t => List t.D
  | fnil => Unit
  | fcons a b => a.D × b.D
/-- is it laid in several cells, as a value of its own? -/
def isAgg : Ty → Bool
  | arr _ _ | fnil | fcons _ _ => true
  | _ => false

/-- type number 'tid' (false), or the fields from place 'off' on (true), are such a type -/
def fits (P : Program) : Ty → Bool → TypeId → List Field → Nat → Bool
  | int k, false, tid, _, _ => (match P.underlying tid with | some (.int j) => decide (j = k) | _ => false)
  | u8, false, tid, _, _ => (match P.underlying tid with | some (.int j) => decide (j = .u8) | _ => false)
  | bool, false, tid, _, _ => (match P.underlying tid with | some .bool => true | _ => false)
  | str, false, tid, _, _ => (match P.underlying tid with | some .string => true | _ => false)
  | arr n t, false, tid, _, _ => match P.underlying tid with
    | some (.array m e) => m == n && fits P t false e [] 0 && P.cellsOf tid == n * t.size && P.cellsOf e == t.size
    | _ => false
  | sl t, false, tid, _, _ => match P.underlying tid with
    | some (.slice e) => fits P t false e [] 0 && P.cellsOf e == t.size && decide (0 < P.bytesOf e)
    | _ => false
  | fnil, false, tid, _, _ => match P.underlying tid with
    | some (.struct fs) => fs.toList.isEmpty && P.cellsOf tid == 0
    | _ => false
  | fcons a b, false, tid, _, _ => match P.underlying tid with
    | some (.struct fs) => (match fs.toList with
      | f :: fs => f.offset == 0 && fits P a false f.type [] 0 && P.cellsOf f.type == a.size && fits P b true 0 fs a.size
      | [] => false) && P.cellsOf tid == a.size + b.size
    | _ => false
  | fnil, true, _, fs, _ => fs.isEmpty
  | fcons a b, true, _, fs, off => match fs with
    | f :: fs => f.offset == off && fits P a false f.type [] 0 && P.cellsOf f.type == a.size && fits P b true 0 fs (off + a.size)
    | [] => false
  | _, true, _, _, _ => false

/-- no string, no slice takes more than the form's reach -/
def lite : (t : Ty) → t.D → Prop
  | str, (s : List UInt8) => s.length ≤ reachBytes
  | arr _ t, (l : List t.D) => ∀ x ∈ l, lite t x
  | sl t, (l : List t.D) => l.length ≤ reachBytes ∧ ∀ x ∈ l, lite t x
  | fcons a b, (x : a.D × b.D) => lite a x.1 ∧ lite b x.2
  | _, _ => True
/-- what cells say -/
def Is (w : World) : (t : Ty) → List Value → t.D → Prop
  | int k, cs, (x : Int) => cs = [.int k x] ∧ (Lit.int k x).wf = true
  | u8, cs, (x : UInt8) => cs = [.int .u8 (B8 x)]
  | bool, cs, (b : Bool) => cs = [.bool b]
  | str, cs, (s : List UInt8) => cs = [.string ⟨s.toArray⟩] ∧ s.length ≤ maxLen
  | arr n t, cs, (l : List t.D) => l.length = n ∧ cs.length = n * t.size ∧ ∀ i (h : i < l.length), Is w t ((cs.drop (i * t.size)).take t.size) l[i]
  | sl t, cs, (l : List t.D) => ∃ A c, cs = [.slice A l.length c] ∧ l.length ≤ maxLen ∧ l.length ≤ c ∧ ∃ ccs : List Value, ccs.length = l.length * t.size ∧
      Rd w A ccs.length (fun j => ccs.getD j undef) ∧ ∀ i (h : i < l.length), Is w t ((ccs.drop (i * t.size)).take t.size) l[i]
  | fnil, cs, _ => cs = []
  | fcons a b, cs, (x : a.D × b.D) => cs.length = a.size + b.size ∧ Is w a (cs.take a.size) x.1 ∧ Is w b (cs.drop a.size) x.2

theorem choose_list {α β : Type} (l : List α) (R : Nat → β → Prop) (h : ∀ i, i < l.length → ∃ y, R i y) : ∃ ys : List β, ys.length = l.length ∧ ∀ i (hi : i < ys.length), R i ys[i] := by
  have : ∀ n, (∀ i, i < n → ∃ y, R i y) → ∃ ys : List β, ys.length = n ∧ ∀ i (hi : i < ys.length), R i ys[i] := by
    intro n
    induction n with
    | zero => intro _; exact ⟨[], rfl, fun i hi => by simp at hi⟩
    | succ n ih =>
      intro hn
      obtain ⟨ys, hl, hy⟩ := ih (fun i hi => hn i (by omega))
      obtain ⟨y, hyn⟩ := hn n (by omega)
      refine ⟨ys ++ [y], by simp [hl], fun i hi => ?_⟩
      by_cases hin : i < ys.length
      · rw [List.getElem_append_left hin]; exact hy i hin
      · have : i = n := by simp at hi; omega
        subst this
        simp [hl, hyn]
  exact this _ h
theorem choose_n {β : Type} (n : Nat) (R : Nat → β → Prop) (h : ∀ i, i < n → ∃ y, R i y) : ∃ ys : List β, ys.length = n ∧ ∀ i (hi : i < ys.length), R i ys[i] := by
  have := choose_list (List.range n) R (by simpa using h)
  simpa using this

theorem flatten_length {α : Type} (css : List (List α)) (n : Nat) (h : ∀ c ∈ css, c.length = n) : css.flatten.length = css.length * n := by
  induction css with
  | nil => simp
  | cons c css ih =>
    rw [List.flatten_cons, List.length_append, ih (fun d hd => h d (by simp [hd])), h c (by simp), List.length_cons, Nat.add_mul]
    omega
theorem flatten_row {α : Type} (css : List (List α)) (n : Nat) (h : ∀ c ∈ css, c.length = n) (i : Nat) (hi : i < css.length) : (css.flatten.drop (i * n)).take n = css[i] := by
  induction css generalizing i with
  | nil => simp at hi
  | cons c css ih =>
    have hc := h c (by simp)
    cases i with
    | zero => simp [← hc]
    | succ i =>
      rw [List.flatten_cons, List.getElem_cons_succ, Nat.add_mul, Nat.one_mul, Nat.add_comm, ← hc, List.drop_length_add_append, hc]
      exact ih (fun d hd => h d (by simp [hd])) i (by simpa using hi)
theorem flatten_get {α : Type} (css : List (List α)) (n : Nat) (h : ∀ c ∈ css, c.length = n) (j : Nat) (hj : j < css.length * n) : css.flatten[j]? = css[j / n]?.bind (·[j % n]?) := by
  have hn : 0 < n := by
    rcases Nat.eq_zero_or_pos n with h0 | h0
    · rw [h0] at hj; simp at hj
    · exact h0
  have hq : j / n < css.length := Nat.div_lt_of_lt_mul (by rw [Nat.mul_comm]; exact hj)
  have hr := flatten_row css n h (j / n) hq
  rw [List.getElem?_eq_getElem hq, Option.bind_some, ← hr, List.getElem?_take_of_lt (Nat.mod_lt _ hn), List.getElem?_drop]
  congr 1
  have := Nat.div_add_mod j n
  rw [Nat.mul_comm] at this
  exact this.symm

section
variable {H : Type} {enc : TypeId × Value → H} {P : Program} {w : World}

theorem spotless {w : World} {a : Addr} {v : Value} (h : w.cell? (a.add 0) = some v) : a = ⟨a.block, a.off, none⟩ := by
  obtain ⟨b, o, s⟩ := a
  cases s with
  | none => rfl
  | some x =>
    simp only [Addr.add,if_true,World.cell?] at h
    split at h <;> simp at h
theorem add_none (b o j : Nat) : (Addr.mk b o none).add j = ⟨b, o + j, none⟩ := by
  unfold Addr.add
  split
  · subst_vars; rfl
  · rfl

theorem cellsOf_pos (t : Ty) (x : t.D) {cs : List Value} (h : Is w t cs x) : cs.length = t.size := by
  cases t with
  | int k => obtain ⟨rfl, _⟩ := h; rfl
  | u8 => obtain rfl := h; rfl
  | bool => obtain rfl := h; rfl
  | str => obtain ⟨rfl, _⟩ := h; rfl
  | arr n t => exact h.2.1
  | sl t => obtain ⟨A, c, rfl, _⟩ := h; rfl
  | fnil => obtain rfl := h; rfl
  | fcons a b => exact h.1

/-- reading by fields, from a place on -/
def flds (enc : TypeId × Value → H) (P : Program) (w : World) (n : Nat) (cs : List Value) (fs : List Field) : Prop :=
  ∀ f ∈ fs, ∃ y, DataW.trod enc P w 0 (fun _ => true) true n f.type ((cs.drop f.offset).take (P.cellsOf f.type)) = some y

theorem fits_int {k : IntKind} {tid : TypeId} (h : fits P (int k) false tid [] 0 = true) : P.underlying tid = some (.int k) := by
  unfold fits at h
  split at h
  · rename_i j e; rw [e]; simp at h; rw [h]
  · cases h
theorem fits_u8 {tid : TypeId} (h : fits P u8 false tid [] 0 = true) : P.underlying tid = some (.int .u8) := by
  unfold fits at h
  split at h
  · rename_i j e; rw [e]; simp at h; rw [h]
  · cases h
theorem fits_bool {tid : TypeId} (h : fits P bool false tid [] 0 = true) : P.underlying tid = some .bool := by
  unfold fits at h
  split at h
  · assumption
  · cases h
theorem fits_str {tid : TypeId} (h : fits P str false tid [] 0 = true) : P.underlying tid = some .string := by
  unfold fits at h
  split at h
  · assumption
  · cases h
theorem fits_arr {n : Nat} {t : Ty} {tid : TypeId} (h : fits P (arr n t) false tid [] 0 = true) :
    ∃ e, P.underlying tid = some (.array n e) ∧ fits P t false e [] 0 = true ∧ P.cellsOf tid = n * t.size ∧ P.cellsOf e = t.size := by
  unfold fits at h
  split at h
  · rename_i m e he
    simp at h
    obtain ⟨⟨⟨rfl, h2⟩, h3⟩, h4⟩ := h
    exact ⟨e, he, h2, h3, h4⟩
  · cases h
theorem fits_sl {t : Ty} {tid : TypeId} (h : fits P (sl t) false tid [] 0 = true) :
    ∃ e, P.underlying tid = some (.slice e) ∧ fits P t false e [] 0 = true ∧ P.cellsOf e = t.size ∧ 0 < P.bytesOf e := by
  unfold fits at h
  split at h
  · rename_i e he
    simp at h
    exact ⟨e, he, h.1.1, h.1.2, h.2⟩
  · cases h
theorem fits_fnil {tid : TypeId} (h : fits P fnil false tid [] 0 = true) : ∃ fs, P.underlying tid = some (.struct fs) ∧ P.cellsOf tid = 0 := by
  unfold fits at h
  split at h
  · rename_i fs he
    simp at h
    exact ⟨fs, he, h.2⟩
  · cases h
theorem fits_fcons {a b : Ty} {tid : TypeId} (h : fits P (fcons a b) false tid [] 0 = true) :
    ∃ fs f l, P.underlying tid = some (.struct fs) ∧ fs.toList = f :: l ∧ f.offset = 0 ∧ fits P a false f.type [] 0 = true ∧ P.cellsOf f.type = a.size ∧ fits P b true 0 l a.size = true ∧ P.cellsOf tid = a.size + b.size := by
  unfold fits at h
  split at h
  · rename_i fs he
    split at h
    · rename_i f l hl
      simp at h
      exact ⟨fs, f, l, he, hl, h.1.1.1.1, h.1.1.1.2, h.1.1.2, h.1.2, h.2⟩
    · simp at h
  · cases h
theorem fits_more {a b : Ty} {fs : List Field} {off : Nat} (h : fits P (fcons a b) true 0 fs off = true) :
    ∃ f l, fs = f :: l ∧ f.offset = off ∧ fits P a false f.type [] 0 = true ∧ P.cellsOf f.type = a.size ∧ fits P b true 0 l (off + a.size) = true := by
  unfold fits at h
  split at h
  · rename_i f l
    simp at h
    exact ⟨f, l, rfl, h.1.1.1, h.1.1.2, h.1.2, h.2⟩
  · cases h

theorem wf_u8' {x : Int} (h : (Lit.int .u8 x).wf = true) : 0 ≤ x ∧ x < 256 := by
  have := bounds_u8 h
  omega
theorem take_drop_all {α : Type} (cs : List α) (n : Nat) (h : cs.length = n) : (cs.drop 0).take n = cs := by
  rw [List.drop_zero, List.take_of_length_le (by omega)]

theorem weights_all {e : TypeId} {m : Nat} : ∀ {l : List (DataW H)} {d : DataW H}, d ∈ l → m ∈ d.weights P e → m ∈ DataW.weightsAll P e l
  | x :: l, d, h, hm => by
    simp only [DataW.weightsAll,List.mem_append]
    rcases List.mem_cons.1 h with rfl | h
    · exact .inl hm
    · exact .inr (weights_all h hm)
theorem read (t : Ty) : (∀ (tid : TypeId) (cs : List Value) (fuel : Nat) (y : DataW H × List MemPlace), fits P t false tid [] 0 = true → DataW.trod enc P w 0 (fun _ => true) true fuel tid cs = some y → ∃ x, Is w t cs x ∧ ((∀ m ∈ y.1.weights P tid, m ≤ reachBytes) → lite t x)) ∧
    (∀ (fs : List Field) (off n : Nat) (cs : List Value), fits P t true 0 fs off = true → cs.length = off + t.size → flds enc P w n cs fs → ∃ x, Is w t (cs.drop off) x ∧
      ((∀ f ∈ fs, ∀ y, DataW.trod enc P w 0 (fun _ => true) true n f.type ((cs.drop f.offset).take (P.cellsOf f.type)) = some y → ∀ m ∈ y.1.weights P f.type, m ≤ reachBytes) → lite t x)) := by
  induction t with
  | int k =>
    refine ⟨fun tid cs fuel y hf h => ?_, fun fs off n cs hf => by simp [fits] at hf⟩
    obtain ⟨x, hx, _, hw⟩ := DataW.trod_int (fits_int hf) h
    exact ⟨x, ⟨hx, hw⟩, fun _ => trivial⟩
  | u8 =>
    refine ⟨fun tid cs fuel y hf h => ?_, fun fs off n cs hf => by simp [fits] at hf⟩
    obtain ⟨x, hx, _, hw⟩ := DataW.trod_int (fits_u8 hf) h
    refine ⟨UInt8.ofNat x.toNat, ?_, fun _ => trivial⟩
    have hb : 0 ≤ x ∧ x < 256 := by
      exact wf_u8' hw
    show cs = [.int .u8 (B8 (UInt8.ofNat x.toNat))]
    rw [hx, B8_of _ (by omega), Int.toNat_of_nonneg hb.1]
  | bool =>
    refine ⟨fun tid cs fuel y hf h => ?_, fun fs off n cs hf => by simp [fits] at hf⟩
    obtain ⟨x, hx, _⟩ := DataW.trod_bool (fits_bool hf) h
    exact ⟨x, hx, fun _ => trivial⟩
  | str =>
    refine ⟨fun tid cs fuel y hf h => ?_, fun fs off n cs hf => by simp [fits] at hf⟩
    obtain ⟨s, hx, hy, hs⟩ := DataW.trod_string (fits_str hf) h
    refine ⟨s.data.toList, ⟨?_, ?_⟩, fun hm => hm _ (by rw [hy]; simp [DataW.weights])⟩
    · rw [hx]
    · have hl : s.data.toList.length = s.size := Array.length_toList
      rw [hl]
      exact hs
  | arr n t ih =>
    refine ⟨fun tid cs fuel y hf h => ?_, fun fs off n cs hf => by simp [fits] at hf⟩
    obtain ⟨e, he, hfe, hc, hce⟩ := fits_arr hf
    obtain ⟨xs, m, _, hyx, hlen, hxl, hi⟩ := DataW.trod_array he h
    rw [hce] at hi
    obtain ⟨l, hl, hy⟩ := choose_n n (fun i x => Is w t ((cs.drop (i * t.size)).take t.size) x ∧ ((∀ m ∈ y.1.weights P tid, m ≤ reachBytes) → lite t x)) (fun i hin => by
      have h1 := hi i hin
      rw [List.getElem?_eq_getElem (by omega)] at h1
      obtain ⟨x, hx, hx2⟩ := ih.1 e _ m _ hfe h1
      refine ⟨x, hx, fun hm => hx2 fun k hk => hm k ?_⟩
      rw [hyx]
      simp only [DataW.weights,he]
      exact weights_all (List.mem_map.2 ⟨_, List.getElem_mem _, rfl⟩) hk)
    refine ⟨l, ⟨hl, by rw [hlen, hc], fun i h => (hy i h).1⟩, fun hm x hx => ?_⟩
    obtain ⟨i, hi, rfl⟩ := List.mem_iff_getElem.1 hx
    exact (hy i hi).2 hm
  | sl t ih =>
    refine ⟨fun tid cs fuel y hf h => ?_, fun fs off n cs hf => by simp [fits] at hf⟩
    obtain ⟨e, he, hfe, hce, hbe⟩ := fits_sl hf
    rcases DataW.trod_slice he h with ⟨rfl, _⟩ | ⟨a, len, cap, elems, rest, n, _, rfl, hyx, _, hlc, hcm, hel, hi, _⟩
    · exact ⟨[], ⟨none, 0, rfl, Nat.zero_le _, Nat.zero_le _, [], (Nat.zero_mul _).symm, fun h => absurd h (Nat.lt_irrefl _), fun i h => absurd h (Nat.not_lt_zero _)⟩, fun _ => ⟨Nat.zero_le _, fun x hx => by cases hx⟩⟩
    · rw [hce] at hi
      -- the cells, and the elements
      have hall : ∀ i, i < len → ∃ c : List Value, c.length = t.size ∧ (∀ j, j < t.size → w.cell? (a.add (i * t.size) |>.add j) = c[j]?) ∧ ∃ x, Is w t c x ∧ ((∀ m ∈ y.1.weights P tid, m ≤ reachBytes) → lite t x) := by
        intro i hil
        have h1 := hi i hil
        rw [List.getElem?_eq_getElem (by omega)] at h1
        obtain ⟨c, hc, ht⟩ := Option.bind_eq_some_iff.1 h1
        obtain ⟨_, hcl, hat⟩ := World.cells?_some hc
        obtain ⟨x, hx, hx2⟩ := ih.1 e c n _ hfe ht
        refine ⟨c, hcl, hat, x, hx, fun hm => hx2 fun k hk => hm k ?_⟩
        rw [hyx]
        simp only [DataW.weights,he,List.mem_cons,List.mem_append]
        exact .inr (.inl (weights_all (List.mem_map.2 ⟨_, List.getElem_mem _, rfl⟩) hk))
      obtain ⟨css, hcssl, hcss⟩ := choose_n len (fun i c => c.length = t.size ∧ (∀ j, j < t.size → w.cell? (a.add (i * t.size) |>.add j) = c[j]?) ∧ ∃ x, Is w t c x ∧ ((∀ m ∈ y.1.weights P tid, m ≤ reachBytes) → lite t x)) hall
      obtain ⟨l, hl, hy⟩ := choose_n len (fun i x => ∃ h : i < css.length, Is w t css[i] x ∧ ((∀ m ∈ y.1.weights P tid, m ≤ reachBytes) → lite t x)) (fun i hil => by
        obtain ⟨_, _, x, hx⟩ := hcss i (by omega)
        exact ⟨x, by omega, hx⟩)
      have hlens : ∀ c ∈ css, c.length = t.size := fun c hc => by
        obtain ⟨i, hi, rfl⟩ := List.mem_iff_getElem.1 hc
        exact (hcss i hi).1
      have hfl : css.flatten.length = css.length * t.size := flatten_length css t.size hlens
      subst hl
      refine ⟨l, ⟨some a, cap, rfl, by omega, hlc, css.flatten, by rw [hfl, hcssl], ?_, fun i h => ?_⟩, fun hm => ⟨?_, fun x hx => ?_⟩⟩
      rotate_left 2
      · have hk := hm ((elems.length + rest.length) * P.bytesOf e) (by rw [hyx]; simp [DataW.weights, he])
        have : elems.length + rest.length ≤ (elems.length + rest.length) * P.bytesOf e := Nat.le_mul_of_pos_right _ hbe
        omega
      · obtain ⟨i, hi, rfl⟩ := List.mem_iff_getElem.1 hx
        obtain ⟨_, _, h2⟩ := hy i hi
        exact h2 hm
      · intro h0
        have hs0 : 0 < t.size := by
          rcases Nat.eq_zero_or_pos t.size with h | h
          · rw [hfl, h] at h0; simp at h0
          · exact h
        have hc0 : 0 < css.length := by
          rcases Nat.eq_zero_or_pos css.length with h | h
          · rw [hfl, h] at h0; simp at h0
          · exact h
        have hfirst := (hcss 0 hc0).2.1 0 hs0
        rw [Nat.zero_mul, List.getElem?_eq_getElem (by rw [(hcss 0 hc0).1]; exact hs0)] at hfirst
        have hfirst' : w.cell? (a.add 0) = some ((css[0])[0]'(by rw [(hcss 0 hc0).1]; exact hs0)) := by simpa [Addr.add] using hfirst
        have hsp := spotless hfirst'
        refine ⟨a.block, a.off, by rw [← hsp], fun j hj => ?_⟩
        rw [hfl] at hj
        have hq : j / t.size < css.length := Nat.div_lt_of_lt_mul (by rw [Nat.mul_comm]; exact hj)
        have hr : j % t.size < t.size := Nat.mod_lt _ hs0
        have hcell := (hcss (j / t.size) hq).2.1 (j % t.size) hr
        have haddr : (a.add (j / t.size * t.size)).add (j % t.size) = ⟨a.block, a.off + j, none⟩ := by
          rw [hsp, add_none, add_none]
          have := Nat.div_add_mod j t.size
          rw [Nat.mul_comm] at this
          congr 1
          show a.off + _ + _ = a.off + j
          omega
        rw [haddr] at hcell
        rw [hcell]
        show _ = some (css.flatten.getD j undef)
        have hg := flatten_get css t.size hlens j (by omega)
        rw [List.getD_eq_getElem?_getD, hg]
        rw [List.getElem?_eq_getElem hq]
        simp only [Option.bind_some]
        rw [List.getElem?_eq_getElem (by rw [(hcss _ hq).1]; exact hr)]
        rfl
      · obtain ⟨hic, hx, _⟩ := hy i h
        rw [flatten_row css t.size hlens i hic]
        exact hx
  | fnil =>
    refine ⟨fun tid cs fuel y hf h => ?_, fun fs off n cs hf hl _ => ?_⟩
    · obtain ⟨fs, he, hc⟩ := fits_fnil hf
      obtain ⟨xs, n, _, _, hlen, _⟩ := DataW.trod_struct he h
      exact ⟨(), List.eq_nil_of_length_eq_zero (by omega), fun _ => trivial⟩
    · refine ⟨(), ?_, fun _ => trivial⟩
      show cs.drop off = []
      rw [List.drop_eq_nil_iff]
      simp only [size] at hl
      omega
  | fcons a b iha ihb =>
    refine ⟨fun tid cs fuel y hf h => ?_, fun fs off n cs hf hl hfl => ?_⟩
    · obtain ⟨fs, f, l, he, hfs, hoff, hfa, hca, hfb, hct⟩ := fits_fcons hf
      obtain ⟨xs, n, _, hyx, hlen, hxl, hg⟩ := DataW.trod_struct he h
      have hall : flds enc P w n cs fs.toList := by
        intro g hgm
        obtain ⟨i, hi, rfl⟩ := List.mem_iff_getElem.1 hgm
        have hi' : i < fs.size := by simpa using hi
        have h1 := hg i fs[i] (Array.getElem?_eq_getElem hi')
        rw [List.getElem?_eq_getElem (by omega)] at h1
        exact ⟨_, by simpa using h1⟩
      have hwt : (∀ m ∈ y.1.weights P tid, m ≤ reachBytes) → ∀ g ∈ fs.toList, ∀ z, DataW.trod enc P w 0 (fun _ => true) true n g.type ((cs.drop g.offset).take (P.cellsOf g.type)) = some z → ∀ m ∈ z.1.weights P g.type, m ≤ reachBytes := by
        intro hm g hgm z hz k hk
        obtain ⟨i, hi, rfl⟩ := List.mem_iff_getElem.1 hgm
        have hi' : i < fs.size := by simpa using hi
        have h1 := hg i fs[i] (Array.getElem?_eq_getElem hi')
        have e1 : fs.toList[i] = fs[i] := by simp
        rw [e1] at hz hk
        rw [hz] at h1
        refine hm k ?_
        rw [hyx]
        simp only [DataW.weights,he]
        exact DataW.weights_mem_each (j := i) (t := fs[i].type) (d := z.1) (by simp [hi']) (by rw [List.getElem?_map, ← h1]; rfl) k hk
      rw [hfs] at hall hwt
      obtain ⟨y1, hy1⟩ := hall f (by simp)
      have hy1' := hy1
      rw [hoff, List.drop_zero, hca] at hy1
      obtain ⟨x1, hx1, hw1⟩ := iha.1 f.type _ n y1 hfa hy1
      obtain ⟨x2, hx2, hw2⟩ := ihb.2 l a.size n cs hfb (by omega) (fun g hgm => hall g (by simp [hgm]))
      exact ⟨(x1, x2), ⟨by omega, hx1, hx2⟩, fun hm => ⟨hw1 (hwt hm f (by simp) y1 hy1'), hw2 fun g hgm => hwt hm g (by simp [hgm])⟩⟩
    · obtain ⟨f, l, rfl, hoff, hfa, hca, hfb⟩ := fits_more hf
      obtain ⟨y1, hy1⟩ := hfl f (by simp)
      have hy1' := hy1
      rw [hoff, hca] at hy1
      obtain ⟨x1, hx1, hw1⟩ := iha.1 f.type _ n y1 hfa hy1
      obtain ⟨x2, hx2, hw2⟩ := ihb.2 l (off + a.size) n cs hfb (by simp only [size] at hl; omega) (fun g hgm => hfl g (by simp [hgm]))
      refine ⟨(x1, x2), ⟨by simp only [size] at hl; simp; omega, hx1, ?_⟩, fun hm => ⟨hw1 (hm f (by simp) y1 hy1'), hw2 fun g hgm => hm g (by simp [hgm])⟩⟩
      rw [List.drop_drop]
      exact hx2
end
/-- what a value says: a struct's and an array's cells lie side by side in it -/
def Val (w : World) (t : Ty) (v : Value) (x : t.D) : Prop :=
  match t.isAgg with
  | true => ∃ cs : Array Value, v = .agg cs ∧ Is w t cs.toList x
  | false => Is w t [v] x

theorem opened {H : Type} {enc : TypeId × Value → H} {P : Program} {w : World} {b0 : Nat} (t : Ty) {tid : TypeId} {v : Value} {d : DataW H} {p : List MemPlace} (hm : fits P t false tid [] 0 = true)
    (hv : Value.okWide P w .any b0 tid v) (h : DataW.Trod enc P w 0 (fun _ => true) true tid v d p) : ∃ x, Val w t v x ∧ ((∀ m ∈ d.weights P tid, m ≤ reachBytes) → lite t x) := by
  obtain ⟨fuel, hf⟩ := h
  obtain ⟨x, hx, hw⟩ := (read (enc := enc) (P := P) (w := w) t).1 tid _ fuel _ hm hf
  refine ⟨x, ?_, hw⟩
  cases t with
  | int k =>
    obtain ⟨y, rfl⟩ := okWide_int (fits_int hm) hv
    exact hx
  | u8 =>
    obtain ⟨y, rfl⟩ := okWide_int (fits_u8 hm) hv
    exact hx
  | bool =>
    obtain ⟨y, rfl⟩ := okWide_bool (fits_bool hm) hv
    exact hx
  | str =>
    obtain ⟨y, rfl⟩ := okWide_string (fits_str hm) hv
    exact hx
  | sl t =>
    obtain ⟨e, he, _⟩ := fits_sl hm
    obtain ⟨a, len, cap, rfl⟩ := okWide_slice he hv
    exact hx
  | arr n t =>
    obtain ⟨e, he, _⟩ := fits_arr hm
    obtain ⟨cs, rfl, _⟩ : ∃ cs, v = .agg cs ∧ cs.size = P.cellsOf tid := by
      simp only [Value.okWide,he] at hv
      obtain ⟨cs, h1, h2, _⟩ := hv
      exact ⟨cs, h1, h2⟩
    exact ⟨cs, rfl, hx⟩
  | fnil =>
    obtain ⟨fs, he, _⟩ := fits_fnil hm
    obtain ⟨cs, rfl, _⟩ := okWide_struct he hv
    exact ⟨cs, rfl, hx⟩
  | fcons a b =>
    obtain ⟨fs, f, l, he, _⟩ := fits_fcons hm
    obtain ⟨cs, rfl, _⟩ := okWide_struct he hv
    exact ⟨cs, rfl, hx⟩
end Ty

/-- every argument reads, behind a call that turns nothing that was there, as it did -/
theorem trodAll_below {H : Type} {enc : TypeId × Value → H} {P : Program} (hl : laidOutB P = true) {W W' : World} (hb : Below W.heap.size W W') :
    ∀ (ts : List TypeId) (vs : List Value) (ds : List (DataW H)) (ps : List MemPlace), (ts.all fun t => P.readableRec t && decide (t < P.types.size)) = true →
      DataW.TrodAll enc P W 0 (fun _ => true) true ts vs ds ps → DataW.TrodAll enc P W' 0 (fun b => decide (b < W.heap.size)) true ts vs ds ps
  | [], [], [], _, _, h => h
  | [], [], _ :: _, _, _, h => h.elim
  | [], _ :: _, _, _, _, h => h.elim
  | _ :: _, [], _, _, _, h => h.elim
  | _ :: _, _ :: _, [], _, _, h => h.elim
  | t :: ts, v :: vs, d :: ds, ps, hr, h => by
    obtain ⟨p, q, h1, h2, e⟩ := h
    simp only [List.all_cons,Bool.and_eq_true] at hr
    have hlt : ∀ x ∈ p, x.block < W.heap.size := by obtain ⟨m, hm⟩ := h1; exact DataW.trod_lt m _ _ _ hm
    exact ⟨p, q, Below.trod hl hr.1.1 (of_decide_eq_true hr.1.2) h1 hb hlt, trodAll_below hl hb ts vs ds q hr.2 h2, e⟩
end Go.Proofs.Ytndbfphmjmhkjaa
