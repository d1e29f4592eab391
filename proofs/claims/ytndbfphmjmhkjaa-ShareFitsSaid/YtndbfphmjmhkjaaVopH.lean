/-
  A MACHINE OF VALUES, TENTH PART: append.
-/
import Derived.Test.YtndbfphmjmhkjaaVopG
set_option linter.unusedVariables false
set_option linter.unusedSectionVars false
set_option linter.unusedSimpArgs false
namespace Go.Proofs.Ytndbfphmjmhkjaa.V
open Go Go.RowKit

section
variable {P : Program} {Z : Nat → Nat → Prop} [Zone Z] {B : Nat} {ρ ρ' : Names} {w w' : World} {H : Heap} {n : Nat} {tm : Nat → VV} {a : Act} {K : VV → Heap → Nat → Prop} {o : Oper}
theorem HR.drop (h : HR Z B ρ H n w) (m : Nat) : HR Z B ρ (upd H m none) n w := by
  have key : ∀ k b, (upd H m none) k = some b → H k = some b := fun k b hk => by
    rw [upd_ap] at hk
    split at hk
    · cases hk
    · exact hk
  have key2 : ∀ k, (upd H m none) k ≠ none → H k ≠ none := fun k hk => by
    rw [upd_ap] at hk
    split at hk
    · exact absurd rfl hk
    · exact hk
  exact ⟨h.base, h.fresh, h.lt, fun m1 m2 l1 l2 h1 h2 g1 g2 => h.apart m1 m2 l1 l2 h1 h2 (key2 _ g1) (key2 _ g2), fun k s v l hk => h.row k s v l (key k _ hk), fun k es l hk => h.map k es l (key k _ hk)⟩
/-- a block without a place -/
theorem HR.ghost (h : HR Z B ρ H n w) {k : Nat} (hk : ρ k = none) (b : Blk) : HR Z B ρ (upd H k (some b)) n w := by
  have hn : ∀ m l, ρ m = some l → m ≠ k := fun m l hm e => by rw [e, hk] at hm; cases hm
  refine ⟨h.base, h.fresh, h.lt, fun m1 m2 l1 l2 h1 h2 g1 g2 => ?_, fun m s v l hm hl => ?_, fun m es l hm hl => ?_⟩
  · rw [upd_ap, if_neg (hn m1 l1 h1)] at g1
    rw [upd_ap, if_neg (hn m2 l2 h2)] at g2
    exact h.apart m1 m2 l1 l2 h1 h2 g1 g2
  · rw [upd_ap, if_neg (hn m l hl)] at hm
    exact h.row m s v l hm hl
  · rw [upd_ap, if_neg (hn m l hl)] at hm
    exact h.map m es l hm hl
/-- a block under a new name; the elder name is dead -/
theorem HR.again (h : HR Z B ρ H n w) (hZ : Zone.ok Z n) {m : Nat} {l0 l : Loc} (hl0 : ρ m = some l0) (hlive : H m ≠ none) (hblk : l.block = l0.block) (hsz : w'.heap.size = w.heap.size) (hb : ∀ b, b ≠ l.block → w'.heap[b]? = w.heap[b]?) {s : Sh} {v : VV}
    (hr : RowAt (ρ.give n l) w' l s v) : HR Z B (ρ.give n l) (upd (upd H m none) n (some (.row s v))) (n + 1) w' ∧ Ext ρ w (ρ.give n l) w' := by
  have hfr := h.fresh n (Zone.free n hZ)
  have he : Ext ρ w (ρ.give n l) w' := ext_new hfr l (by omega) (fun b _ hb' => hb b hb') (.inr ⟨m, l0, hl0, hblk.symm⟩)
  have hother : ∀ k b l', k ≠ n → (upd (upd H m none) n (some (Blk.row s v))) k = some b → ρ k = some l' → H k = some b ∧ l'.block ≠ l.block := by
    intro k b l' hk hkb hl'
    rw [upd_ap, if_neg hk, upd_ap] at hkb
    split at hkb
    · cases hkb
    · rename_i hkm
      exact ⟨hkb, fun e => hkm (h.apart k m l' l0 hl' hl0 (by rw [hkb]; simp) hlive (e.trans hblk))⟩
  refine ⟨⟨by rw [hsz]; exact h.base, fun k hz => ?_, fun k l' hk => ?_, fun m1 m2 l1 l2 h1 h2 g1 g2 heq => ?_, fun k s' v' l' hk hl' => ?_, fun k es l' hk hl' => ?_⟩, he⟩
  · rw [give_ap, if_neg (Zone.next _ _ hZ hz)]
    exact h.fresh k (Zone.mono _ _ _ (Nat.le_succ _) hz)
  · rw [give_ap] at hk
    have h0 := h.lt m l0 hl0
    split at hk
    · injection hk with hk
      subst hk
      exact ⟨by rw [hblk]; exact h0.1, by rw [hblk, hsz]; exact h0.2⟩
    · have := h.lt k l' hk
      exact ⟨this.1, by rw [hsz]; exact this.2⟩
  · by_cases e1 : m1 = n
    · by_cases e2 : m2 = n
      · omega
      · exfalso
        rw [give_ap, if_pos e1] at h1
        injection h1 with h1
        rw [give_ap, if_neg e2] at h2
        obtain ⟨b, hb2⟩ := Option.ne_none_iff_exists'.1 g2
        have := (hother m2 b l2 e2 hb2 h2).2
        rw [h1] at this
        exact this heq.symm
    · by_cases e2 : m2 = n
      · exfalso
        rw [give_ap, if_pos e2] at h2
        injection h2 with h2
        rw [give_ap, if_neg e1] at h1
        obtain ⟨b, hb2⟩ := Option.ne_none_iff_exists'.1 g1
        have := (hother m1 b l1 e1 hb2 h1).2
        rw [h2] at this
        exact this heq
      · rw [give_ap, if_neg e1] at h1
        rw [give_ap, if_neg e2] at h2
        obtain ⟨b1, hb1⟩ := Option.ne_none_iff_exists'.1 g1
        obtain ⟨b2, hb2⟩ := Option.ne_none_iff_exists'.1 g2
        exact h.apart m1 m2 l1 l2 h1 h2 (by rw [(hother m1 b1 l1 e1 hb1 h1).1]; simp) (by rw [(hother m2 b2 l2 e2 hb2 h2).1]; simp) heq
  · by_cases e : k = n
    · rw [upd_ap, if_pos e] at hk
      rw [give_ap, if_pos e] at hl'
      injection hk with hk
      injection hk with hk1 hk2
      injection hl' with hl'
      subst hk1 hk2 hl'
      exact hr
    · rw [give_ap, if_neg e] at hl'
      obtain ⟨g1, g2⟩ := hother k _ l' e hk hl'
      exact (h.row k s' v' l' g1 hl').same he (hb _ g2)
  · by_cases e : k = n
    · rw [upd_ap, if_pos e] at hk
      cases hk
    · rw [give_ap, if_neg e] at hl'
      obtain ⟨g1, g2⟩ := hother k _ l' e hk hl'
      exact (h.map k es l' g1 hl').same he (hb _ g2)

theorem encB_cells (ρ : Names) (w : World) : ∀ (s : List UInt8), CR ρ w (s.map encB) (s.map fun b => Value.int .u8 b.toNat)
  | [] => by simp only [CR,List.map_nil]
  | b :: s => by
    simp only [CR,List.map_cons]
    exact ⟨[.int .u8 b.toNat], _, rfl, by simp only [encB,C1], encB_cells ρ w s⟩
/-- what is appended, as the kit's laws want it -/
theorem src_sound (hh : HR Z B ρ H n w) {x : Operand} (hT : TM ρ w tm a) {se : Sh} {u : TypeDesc} {tx : TypeId} (hu : P.underlying tx = some u) (k : List VV → Option Nat → Prop) (h : srcOf H se u (ev tm x) k) :
    ∃ news m2 ncs, k news m2 ∧ (∀ e ∈ news, Has se e) ∧ CR ρ w news ncs ∧ Src P se.size tx (a.eval x) news.length ncs w ∧ ncs.length = news.length * se.size ∧ ((∃ A c, a.eval x = .slice A news.length c) ∨ ∃ s, a.eval x = .string s ∧ u = .string) := by
  unfold srcOf onV at h
  dsimp only at h
  have hx := ev_sound hT x
  generalize he : ev tm x = v at h hx
  split at h
  · rename_i el
    have hp : a.eval x = .slice none 0 0 := by simpa [VR, VR1, C1] using hx
    refine ⟨[], none, [], h, by simp, by simp only [CR], by rw [hp]; exact Src.ofNil w hu 0, by simp, .inl ⟨_, _, hp⟩⟩
  · rename_i el m p i len
    replace h := bnd_iff.1 h
    obtain ⟨blk, hbk, h⟩ := h
    cases blk with
    | map es => exact h.elim
    | row s c =>
      obtain ⟨⟨j, hat⟩, h⟩ := h
      replace h := bnd_iff.1 h
      obtain ⟨c', hc', h⟩ := h
      cases c' <;> first | exact h.elim | skip
      rename_i els
      obtain ⟨hle, h⟩ := h
      rcases hx.sl with ⟨rfl, A, hp⟩ | ⟨l, cap, e', j', hl, hp, hcap, hate, hroom⟩
      · refine ⟨_, _, [], h, by simp, by simp only [List.take_zero,CR], ?_, by simp, .inl ⟨A, 0, by rw [hp]; simp⟩⟩
        rw [hp]
        cases A with
        | none => simpa using Src.ofNil w hu 0
        | some ad => simpa using Src.ofSlice w hu ad 0 0 [] (by simp) (fun j u hj => by simp at hj) (by simp)
      · have hrow := hh.row m s c l hbk hl
        obtain ⟨cs, q1, q2, q3⟩ := hrow.cells
        obtain ⟨su, pre, mid, post, k1, k2, rfl, k4, k5, _, _⟩ := focus p s c (.agg els) cs hrow.has hc' q1
        rw [hat] at k1
        injection k1 with k1
        subst k1
        simp only [Has] at k2
        simp only [C1] at k5
        obtain ⟨pr, md, ps, rfl, r1, r2, r3⟩ := CR.part k5 k2.2 i (i + len) (by omega) hle
        rw [show i + len - i = len by omega] at r2 r3
        have hl' : ((els.drop i).take len).length = len := by rw [List.length_take, List.length_drop, Nat.min_eq_left (by omega)]
        refine ⟨_, _, md, h, fun e he' => k2.2 e (List.mem_of_mem_drop (List.mem_of_mem_take he')), r3, ?_, by rw [hl', r2], .inl ⟨_, _, by rw [hp, hl']⟩⟩
        rw [hl', hp]
        have hr := range_part q3
        have hr2 := range_part hr
        refine Src.ofSlice w hu _ len cap md r2 (fun jj v hv => ?_) (HasA.one _ md (fun e he' => k2.2 e (List.mem_of_mem_drop (List.mem_of_mem_take he'))) r3)
        have := hr2 jj v hv
        rw [Addr.add_mid]
        rw [hrow.sh, (at_append p s _ [i] hat).2, ← k4]
        simp only [Sh.off,Nat.add_zero]
        rw [← r1, ← Nat.add_assoc]
        exact this
  · rename_i el s els
    obtain ⟨rfl, h⟩ := h
    obtain ⟨A, cap, hp, hcap, hne⟩ := hx.dat
    by_cases h0 : els = []
    · subst h0
      refine ⟨[], none, [], h, by simp, by simp only [CR], ?_, by simp, .inl ⟨_, _, hp⟩⟩
      rw [hp]
      cases A with
      | none => simpa using Src.ofNil w hu cap
      | some ad => simpa using Src.ofSlice w hu ad 0 cap [] (by simp) (fun j u hj => by simp at hj) (by simp)
    · obtain ⟨b, f, ecs, rfl, g1, g2, g3, g4, g5⟩ := hne h0
      have hlen := HasA.len _ _ g2 g1
      refine ⟨els, none, ecs, h, g2, g1, ?_, hlen, .inl ⟨_, _, hp⟩⟩
      rw [hp]
      exact Src.ofSlice w hu _ _ cap ecs hlen (fun j v hv => by rw [Addr.add_mid]; exact g3 j v hv) (HasA.one _ ecs g2 g1)
  · rename_i s
    obtain ⟨rfl, h⟩ := h
    have hbc : byteCells ⟨s.toArray⟩ = s.map fun b => Value.int .u8 b.toNat := by simp [byteCells]
    refine ⟨_, none, _, h, by simp [Has, encB, VV.leaf], encB_cells ρ w s, ?_, by simp [Sh.size], .inr ⟨_, hx.str, rfl⟩⟩
    rw [hx.str, ← hbc]
    have := Src.ofString (P := P) w hu ⟨s.toArray⟩
    have e : (ByteArray.mk s.toArray).size = (s.map encB).length := by show s.toArray.size = _; simp
    rw [e] at this
    exact this
  · exact h.elim
end
end Go.Proofs.Ytndbfphmjmhkjaa.V
