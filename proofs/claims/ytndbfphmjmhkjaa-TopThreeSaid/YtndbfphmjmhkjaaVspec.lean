/-
  A MACHINE OF VALUES, THIRTEENTH PART: functions: what they answer, said of data; calls.
-/
import Derived.Test.YtndbfphmjmhkjaaVrun
set_option linter.unusedVariables false
set_option linter.unusedSectionVars false
set_option linter.unusedSimpArgs false
namespace Go.Proofs.Ytndbfphmjmhkjaa.V
open Go Go.RowKit

mutual
/-- no names in it -/
def nl : VV → Bool
  | .int _ _ => true
  | .bool _ => true
  | .str _ => true
  | .agg vs => nls vs
  | .tup vs => nls vs
  | .sl none _ => true
  | .sl (some _) _ => false
  | .ptr _ _ => false
  | .fn _ caps => nls caps
  | .map _ => false
  | .dat _ els => nls els
  | .pd _ v => nl v
  | .vec _ _ => false
  | .any => false
  | .raw _ => true
def nls : List VV → Bool
  | [] => true
  | v :: l => nl v && nls l
end
theorem nls_iff : ∀ (l : List VV), nls l = true ↔ ∀ v ∈ l, nl v = true
  | [] => by simp [nls]
  | v :: l => by simp [nls, nls_iff l]
theorem nls_map {α : Type} (f : α → VV) (h : ∀ x, nl (f x) = true) (l : List α) : nls (l.map f) = true := by
  rw [nls_iff]
  intro v hv
  obtain ⟨x, _, rfl⟩ := List.mem_map.1 hv
  exact h x

/-- names forgotten -/
def Names.bare (U : Nat → Prop) : Names := ⟨fun _ => none, U⟩
section
variable {ρ : Names} {w : World} {U : Nat → Prop}
mutual
theorem C1.bare (hU : ∀ b, Unnamed ρ b → U b) : ∀ (v : VV) (cs : List Value), nl v = true → C1 ρ w v cs → C1 (.bare U) w v cs
  | .int _ _, _, _, h => by simpa only [C1] using h
  | .bool _, _, _, h => by simpa only [C1] using h
  | .str _, _, _, h => by simpa only [C1] using h
  | .agg vs, cs, hn, h => by simp only [C1] at h ⊢; exact CR.bare hU vs cs (by simpa only [nl] using hn) h
  | .tup _, _, _, h => by simp only [C1] at h
  | .sl none _, _, _, h => by simpa only [C1] using h
  | .sl (some _) _, _, hn, _ => by simp [nl] at hn
  | .ptr _ _, _, hn, _ => by simp [nl] at hn
  | .fn f caps, cs, hn, h => by
    simp only [C1] at h ⊢
    obtain ⟨xs, h1, h2⟩ := h
    exact ⟨xs, h1, CV.bare hU caps _ (by simpa only [nl] using hn) h2⟩
  | .map _, _, hn, _ => by simp [nl] at hn
  | .dat s els, cs, hn, h => by
    simp only [C1] at h ⊢
    obtain ⟨A, c, h1, h2, h3⟩ := h
    refine ⟨A, c, h1, h2, fun hne => ?_⟩
    obtain ⟨b, o, ecs, g1, g2, g3, g4, g5, g6⟩ := h3 hne
    exact ⟨b, o, ecs, g1, CR.bare hU els ecs (by simpa only [nl] using hn) g2, g3, g4, ⟨hU b g5, fun n l hl => by cases hl⟩, g6⟩
  | .pd s v, cs, hn, h => by
    simp only [C1] at h ⊢
    obtain ⟨b, o, ecs, g1, g2, g3, g4, g5, g6⟩ := h
    exact ⟨b, o, ecs, g1, C1.bare hU v ecs (by simpa only [nl] using hn) g2, g3, g4, ⟨hU b g5, fun n l hl => by cases hl⟩, g6⟩
  | .vec _ _, _, _, h => by simp only [C1] at h
  | .any, _, hn, _ => by simp [nl] at hn
  | .raw _, _, _, h => by simpa only [C1] using h
theorem CR.bare (hU : ∀ b, Unnamed ρ b → U b) : ∀ (vs : List VV) (cs : List Value), nls vs = true → CR ρ w vs cs → CR (.bare U) w vs cs
  | [], _, _, h => by simpa only [CR] using h
  | v :: vs, cs, hn, h => by
    simp only [nls,Bool.and_eq_true] at hn
    simp only [CR] at h ⊢
    obtain ⟨c1, c2, h1, h2, h3⟩ := h
    exact ⟨c1, c2, h1, C1.bare hU v c1 hn.1 h2, CR.bare hU vs c2 hn.2 h3⟩
theorem CV.bare (hU : ∀ b, Unnamed ρ b → U b) : ∀ (vs : List VV) (cs : List Value), nls vs = true → CV ρ w vs cs → CV (.bare U) w vs cs
  | [], _, _, h => by simpa only [CV] using h
  | v :: vs, cs, hn, h => by
    simp only [nls,Bool.and_eq_true] at hn
    simp only [CV] at h ⊢
    obtain ⟨c1, c2, h1, h2, h3, h4⟩ := h
    exact ⟨c1, c2, h1, h2, C1.bare hU v [c1] hn.1 h3, CV.bare hU vs c2 hn.2 h4⟩
end
theorem VR1.bare (hU : ∀ b, Unnamed ρ b → U b) {v : VV} {x : Value} (hn : nl v = true) (h : VR1 ρ w v x) : VR1 (.bare U) w v x := by
  cases v with
  | agg vs => obtain ⟨cs, h1, h2⟩ := h; exact ⟨cs, h1, CR.bare hU vs _ (by simpa only [nl] using hn) h2⟩
  | any => simp [nl] at hn
  | _ => exact C1.bare hU _ _ hn h
end
mutual
/-- data out of values that name blocks -/
def Rd (H : Heap) : VV → VV → Prop
  | .agg vs, d => ∃ ds, d = .agg ds ∧ RdL H vs ds
  | .sl (some (m, p, i)) n, d => ∃ s c k e els, H m = some (.row s c) ∧ s.at p = some (.arr k e) ∧ c.get p = some (.agg els) ∧ i + n ≤ els.length ∧ nls ((els.drop i).take n) = true ∧ d = .dat e ((els.drop i).take n)
  | .sl none n, d => d = .sl none n ∨ (n = 0 ∧ ∃ e, d = .dat e [])
  | v, d => nl v = true ∧ d = v
def RdL (H : Heap) : List VV → List VV → Prop
  | [], ds => ds = []
  | v :: vs, ds => ∃ d ds', ds = d :: ds' ∧ Rd H v d ∧ RdL H vs ds'
end
section
variable {Z : Nat → Nat → Prop} [Zone Z] {B n : Nat} {ρ : Names} {w : World} {U : Nat → Prop} {H : Heap}
mutual
theorem Rd.cells (hh : HR Z B ρ H n w) (hU : ∀ b, ρ.im b → U b) (hU2 : ∀ m l, ρ m = some l → U l.block) : ∀ (v d : VV) (cs : List Value), Rd H v d → C1 ρ w v cs → C1 (.bare U) w d cs
  | .agg vs, d, cs, h, hc => by
    simp only [Rd] at h
    obtain ⟨ds, rfl, h⟩ := h
    simp only [C1] at hc ⊢
    exact RdL.cells hh hU hU2 vs ds cs h hc
  | .sl none k, d, cs, h, hc => by
    simp only [Rd] at h
    rcases h with rfl | ⟨rfl, e, rfl⟩
    · simpa only [C1] using hc
    · simp only [C1] at hc ⊢
      exact ⟨none, 0, hc.2, Nat.le_refl _, fun h => absurd rfl h⟩
  | .sl (some (m, p, i)) k, d, cs, h, hc => by
    simp only [Rd] at h
    obtain ⟨s, c, j, e, els, h1, h2, h3, h4, h5, rfl⟩ := h
    simp only [C1] at hc ⊢
    have hlen : ((els.drop i).take k).length = k := by rw [List.length_take, List.length_drop]; omega
    rw [hlen]
    rcases hc with ⟨rfl, A, hc⟩ | ⟨l, cap, e', j', hl, hc, hcap, hat, _⟩
    · exact ⟨A, 0, hc, Nat.le_refl _, fun h => absurd (by simp) h⟩
    · refine ⟨_, cap, hc, hcap, fun _ => ?_⟩
      have hrow := hh.row m s c l h1 hl
      obtain ⟨ds, q1, q2, q3⟩ := hrow.cells
      obtain ⟨su, pre, mid, post, k1, k2, rfl, k4, k5, _, _⟩ := focus p s c (.agg els) ds hrow.has h3 q1
      rw [h2] at k1
      injection k1 with k1
      subst k1
      simp only [Has] at k2
      simp only [C1] at k5
      obtain ⟨pr, md, ps, rfl, r1, r2, r3⟩ := CR.part k5 k2.2 i (i + k) (by omega) h4
      rw [show i + k - i = k by omega] at r3
      refine ⟨l.block, _, md, rfl, CR.bare (fun b hb => hU b hb.1) _ _ h5 r3, fun v hv => k2.2 v (List.mem_of_mem_drop (List.mem_of_mem_take hv)), ?_, ⟨hU2 m l hl, fun n l hl => by cases hl⟩, (hh.lt m l hl).2⟩
      rw [hrow.sh, (at_append p s _ [i] h2).2, ← k4]
      simp only [Sh.off,Nat.add_zero]
      rw [← r1, ← Nat.add_assoc]
      exact range_part (range_part q3)
  | .int _ _, d, cs, h, hc => by simp only [Rd] at h; rw [h.2]; exact C1.bare (fun b hb => hU b hb.1) _ _ h.1 hc
  | .bool _, d, cs, h, hc => by simp only [Rd] at h; rw [h.2]; exact C1.bare (fun b hb => hU b hb.1) _ _ h.1 hc
  | .str _, d, cs, h, hc => by simp only [Rd] at h; rw [h.2]; exact C1.bare (fun b hb => hU b hb.1) _ _ h.1 hc
  | .tup _, d, cs, h, hc => by simp only [Rd] at h; rw [h.2]; exact C1.bare (fun b hb => hU b hb.1) _ _ h.1 hc
  | .ptr _ _, d, cs, h, hc => by simp only [Rd] at h; rw [h.2]; exact C1.bare (fun b hb => hU b hb.1) _ _ h.1 hc
  | .fn _ _, d, cs, h, hc => by simp only [Rd] at h; rw [h.2]; exact C1.bare (fun b hb => hU b hb.1) _ _ h.1 hc
  | .map _, d, cs, h, hc => by simp only [Rd] at h; rw [h.2]; exact C1.bare (fun b hb => hU b hb.1) _ _ h.1 hc
  | .dat _ _, d, cs, h, hc => by simp only [Rd] at h; rw [h.2]; exact C1.bare (fun b hb => hU b hb.1) _ _ h.1 hc
  | .pd _ _, d, cs, h, hc => by simp only [Rd] at h; rw [h.2]; exact C1.bare (fun b hb => hU b hb.1) _ _ h.1 hc
  | .vec _ _, d, cs, h, hc => by simp only [Rd] at h; rw [h.2]; exact C1.bare (fun b hb => hU b hb.1) _ _ h.1 hc
  | .any, d, cs, h, hc => by simp only [Rd] at h; rw [h.2]; exact C1.bare (fun b hb => hU b hb.1) _ _ h.1 hc
  | .raw _, d, cs, h, hc => by simp only [Rd] at h; rw [h.2]; exact C1.bare (fun b hb => hU b hb.1) _ _ h.1 hc
theorem RdL.cells (hh : HR Z B ρ H n w) (hU : ∀ b, ρ.im b → U b) (hU2 : ∀ m l, ρ m = some l → U l.block) : ∀ (vs ds : List VV) (cs : List Value), RdL H vs ds → CR ρ w vs cs → CR (.bare U) w ds cs
  | [], ds, cs, h, hc => by
    simp only [RdL] at h
    subst h
    simpa only [CR] using hc
  | v :: vs, ds, cs, h, hc => by
    simp only [RdL] at h
    obtain ⟨d, ds', rfl, h1, h2⟩ := h
    simp only [CR] at hc ⊢
    obtain ⟨c1, c2, g1, g2, g3⟩ := hc
    exact ⟨c1, c2, g1, Rd.cells hh hU hU2 v d c1 h1 g2, RdL.cells hh hU hU2 vs ds' c2 h2 g3⟩
end
theorem Rd.value1 (hh : HR Z B ρ H n w) (hU : ∀ b, ρ.im b → U b) (hU2 : ∀ m l, ρ m = some l → U l.block) {v d : VV} {x : Value} (h : Rd H v d) (hx : VR1 ρ w v x) : VR1 (.bare U) w d x := by
  cases v with
  | agg vs =>
    simp only [Rd] at h
    obtain ⟨ds, rfl, h⟩ := h
    obtain ⟨cs, h1, h2⟩ := hx
    exact ⟨cs, h1, RdL.cells hh hU hU2 vs ds _ h h2⟩
  | any => simp [Rd, nl] at h
  | tup vs => simp [VR1, C1] at hx
  | vec _ _ => simp [VR1, C1] at hx
  | sl p k =>
    have := Rd.cells hh hU hU2 _ _ _ h (show C1 ρ w (.sl p k) [x] from hx)
    cases p with
    | none =>
      simp only [Rd] at h
      rcases h with rfl | ⟨_, e, rfl⟩ <;> exact this
    | some q =>
      obtain ⟨m, p, i⟩ := q
      simp only [Rd] at h
      obtain ⟨s, c, j, e, els, _, _, _, _, _, rfl⟩ := h
      exact this
  | _ =>
    have := Rd.cells hh hU hU2 _ _ _ h hx
    simp only [Rd] at h
    rw [h.2] at this ⊢
    exact this
/-- .. of several values -/
def RdT (H : Heap) : VV → VV → Prop
  | .tup vs, d => ∃ ds, d = .tup ds ∧ RdL H vs ds
  | v, d => Rd H v d
theorem RdL.values (hh : HR Z B ρ H n w) (hU : ∀ b, ρ.im b → U b) (hU2 : ∀ m l, ρ m = some l → U l.block) : ∀ (vs ds : List VV) (xs : List Value), RdL H vs ds → VRs ρ w vs xs → VRs (.bare U) w ds xs
  | [], ds, xs, h, hx => by
    simp only [RdL] at h
    subst h
    exact hx
  | v :: vs, ds, xs, h, hx => by
    simp only [RdL] at h
    obtain ⟨d, ds', rfl, h1, h2⟩ := h
    obtain ⟨x, ys, g1, g2, g3⟩ := hx
    exact ⟨x, ys, g1, Rd.value1 hh hU hU2 h1 g2, RdL.values hh hU hU2 vs ds' ys h2 g3⟩
theorem RdT.value (hh : HR Z B ρ H n w) (hU : ∀ b, ρ.im b → U b) (hU2 : ∀ m l, ρ m = some l → U l.block) {v d : VV} {x : Value} (h : RdT H v d) (hx : VR ρ w v x) : VR (.bare U) w d x := by
  cases v with
  | tup vs =>
    obtain ⟨ds, rfl, h⟩ := h
    obtain ⟨xs, h1, h2⟩ := hx
    exact ⟨xs, h1, RdL.values hh hU hU2 vs ds _ h h2⟩
  | _ =>
    simp only [RdT] at h
    simp only [VR] at hx
    exact VR.of1 (Rd.value1 hh hU hU2 h hx)
end

/-- what a function answers, of data: nothing that was there turns; what comes back lies where arguments lie, or is new -/
def Spec (P : Program) (f : FuncId) (ds : List VV) (r : VV) : Prop :=
  ∀ (U : Nat → Prop) (w : World) (xs : List Value), VRA (.bare U) w ds xs → Calls P f xs.toArray w (fun e w' => ∃ x, e = .returned x ∧ Below w.heap.size w w' ∧ VR (.bare fun b => U b ∨ w.heap.size ≤ b) w' r x)

/-- arguments, one slot each -/
def argsF : Nat → List VV → (Nat → VV) → Nat → VV
  | _, [], f => f
  | i, v :: l, f => argsF (i + 1) l (upd f i v)
theorem argsF_at : ∀ (l : List VV) (i : Nat) (f : Nat → VV) (t : Nat), argsF i l f t = if i ≤ t ∧ t < i + l.length then l.getD (t - i) .any else f t
  | [], i, f, t => by simp [argsF]; omega
  | v :: l, i, f, t => by
    simp only [argsF]
    rw [argsF_at l (i + 1) (upd f i v) t]
    by_cases h1 : i + 1 ≤ t ∧ t < i + 1 + l.length
    · rw [if_pos h1, if_pos (by simp; omega), show t - i = (t - (i + 1)) + 1 by omega]
      simp
    · rw [if_neg h1, upd_ap]
      by_cases h2 : t = i
      · rw [if_pos h2, if_pos (by simp; omega), show t - i = 0 by omega]
        simp
      · rw [if_neg h2, if_neg (by simp; omega)]
def vres1 (P : Program) (S : VS) (r : ResultVar) (k : VV → Prop) : Prop := match r with
  | .tmp t => k (S.tm t)
  | .cell a t => onV (S.tm a) fun v => match v with
    | .ptr m p => bnd (S.hp m) fun b => match b with
      | .row s c => cnd (s.at p = SH P t) (bnd (c.get p) k)
      | _ => False
    | _ => False
def vresL (P : Program) (S : VS) : List ResultVar → (List VV → Prop) → Prop
  | [], k => k []
  | r :: rs, k => vres1 P S r fun v => vresL P S rs fun vs => k (v :: vs)
def notTup : VV → Bool
  | .tup _ => false
  | _ => true
def vres (P : Program) (S : VS) (rs : List ResultVar) (k : VV → Prop) : Prop := vresL P S rs fun vs => match vs with
  | [v] => k v
  | vs => cnd (vs.all notTup = true) (k (.tup vs))
theorem VR.to1 {ρ : Names} {w : World} {v : VV} {x : Value} (h : VR ρ w v x) (hn : notTup v = true) : VR1 ρ w v x := by
  cases v <;> first | exact h | simp [notTup] at hn
theorem VRs_of_VRA {ρ : Names} {w : World} : ∀ (vs : List VV) (xs : List Value), VRA ρ w vs xs → vs.all notTup = true → VRs ρ w vs xs
  | [], _, h, _ => h
  | v :: vs, xs, h, hn => by
    obtain ⟨x, ys, h1, h2, h3⟩ := h
    simp only [List.all_cons,Bool.and_eq_true] at hn
    exact ⟨x, ys, h1, h2.to1 hn.1, VRs_of_VRA vs ys h3 hn.2⟩
section
variable {P : Program} {N B : Nat} {ρ0 ρ : Names} {w0 w : World} {a : Act} {S : VS}
def resRun (a : Act) : ResultVar → Sem Value
  | .tmp t => pure (a.tmps.getD t undef)
  | .cell b t => do loadVar t (← asAddr (a.tmps.getD b undef))
theorem vres1_sound (hS : SR N B ρ0 w0 S a w ρ) (r : ResultVar) (k : VV → Prop) (h : vres1 P S r k) :
    ∃ v x, k v ∧ VR ρ w v x ∧ (resRun a r).run P w = .ok x w := by
  cases r with
  | tmp t => exact ⟨_, _, h, hS.tm t, rfl⟩
  | cell b t =>
    simp only [vres1,onV] at h
    have hb := hS.tm b
    split at h
    · rename_i m p e
      rw [e] at hb
      obtain ⟨l, hl, hp⟩ := hb.ptr
      replace h := bnd_iff.1 h
      obtain ⟨blk, hbk, h⟩ := h
      cases blk with
      | map es => exact h.elim
      | row s c =>
        obtain ⟨h1, h2⟩ := h
        replace h2 := bnd_iff.1 h2
        obtain ⟨u, hu, h2⟩ := h2
        have hrow := hS.heap.row m s c l hbk hl
        obtain ⟨cs, g1, g2, g3⟩ := hrow.cells
        obtain ⟨su, pre, mid, post, k1, k2, rfl, k4, k5, _, _⟩ := focus p s c u cs hrow.has hu g1
        rw [k1] at h1
        obtain ⟨y, hy1, hy2⟩ := load_run (P := P) h1.symm k2 k5 (range_part g3)
        refine ⟨u, y, h2, hy2, ?_⟩
        simp only [resRun,Sem.run_bind,hp,asAddr,Sem.run_pure,Result.andThen_ok]
        rw [hrow.sh, ← k4]
        exact hy1
    · exact h.elim
theorem vresL_sound (hS : SR N B ρ0 w0 S a w ρ) : ∀ (rs : List ResultVar) (k : List VV → Prop), vresL P S rs k →
    ∃ vs xs, k vs ∧ VRA ρ w vs xs ∧ (rs.mapM (resRun a)).run P w = .ok xs w
  | [], k, h => ⟨[], [], h, rfl, rfl⟩
  | r :: rs, k, h => by
    obtain ⟨v, x, h1, h2, h3⟩ := vres1_sound hS r _ h
    obtain ⟨vs, xs, g1, g2, g3⟩ := vresL_sound hS rs _ h1
    refine ⟨v :: vs, x :: xs, g1, ⟨x, xs, rfl, h2, g2⟩, ?_⟩
    simp only [List.mapM_cons,Sem.run_bind,h3,g3,Result.andThen_ok]
    rfl
theorem VRA.len {ρ : Names} {w : World} : ∀ (vs : List VV) (xs : List Value), VRA ρ w vs xs → vs.length = xs.length
  | [], xs, h => by have h : xs = [] := h; simp [h]
  | v :: vs, xs, h => by obtain ⟨x, ys, rfl, h2, h3⟩ := h; simp [VRA.len vs ys h3]
theorem vres_sound (hS : SR N B ρ0 w0 S a w ρ) (fn : Func) (k : VV → Prop) (h : vres P S fn.results.toList k) : ∃ v x, k v ∧ VR ρ w v x ∧ (results fn a.tmps).run P w = .ok x w := by
  obtain ⟨vs, xs, h1, h2, h3⟩ := vresL_sound hS _ _ h
  have hr : ∀ y, (if h : xs.toArray.size = 1 then xs.toArray[0] else .tuple xs.toArray) = y → (results fn a.tmps).run P w = .ok y w := by
    intro y hy
    have e : results fn a.tmps = (do
        let vs ← fn.results.mapM (resRun a)
        pure (if h : vs.size = 1 then vs[0] else .tuple vs)) := rfl
    rw [e, Array.mapM_eq_mapM_toList]
    simp only [Sem.run_bind,bind_map_left]
    rw [h3]
    simp only [Result.andThen_ok,Sem.run_pure]
    rw [hy]
  have hlen := h2.len
  split at h1
  · rename_i v
    obtain ⟨x, ys, rfl, h4, h5⟩ := h2
    have : ys = [] := h5
    subst this
    exact ⟨v, x, h1, h4, hr x (by simp)⟩
  · rename_i hne
    obtain ⟨hn, h1⟩ := h1
    refine ⟨_, .tuple xs.toArray, h1, ⟨xs.toArray, rfl, by simpa using VRs_of_VRA vs xs h2 hn⟩, hr _ ?_⟩
    rw [dif_neg]
    intro h
    match vs, hlen with
    | [], hl => simp at h hl; omega
    | [v], _ => exact hne v rfl
    | _ :: _ :: _, hl => simp at h hl; omega
/-- a function's own text -/
def vbody (P : Program) (fn : Func) (args : List VV) (H : Heap) (n : Nat) (K : VV → Heap → Nat → Prop) : Prop := bnd fn.body fun c =>
  vcode P c ⟨argsF 0 args (fun _ => .any), H, n⟩ fun e S => match e with
    | .exit _ => False
    | _ => vres P S fn.results.toList fun v => K v S.hp S.nx
theorem body_sound {fn : Func} {f : FuncId} (hf : P.funcs[f]? = some fn) (hok : (match fn.body with | some c => codeOk fn.ntmps c | none => false) = true) {args : List VV} {H : Heap} {n : Nat} {K : VV → Heap → Nat → Prop} (hlen : args.length ≤ fn.ntmps)
    (h : vbody P fn args H n K) : vcall P f args H n K := by
  intro B ρ w xs hh ha
  replace h := bnd_iff.1 h
  obtain ⟨c, hc, h⟩ := h
  rw [hc] at hok
  have hxl := ha.len
  refine calls_of_wp hf hc ?_
  have hTM : TM ρ w (argsF 0 args (fun _ => .any)) { tmps := xs.toArray ++ Array.replicate (fn.ntmps - xs.toArray.size) undef, defers := [] } := by
    intro t
    rw [argsF_at]
    split
    · rename_i ht
      have ht' : t < xs.length := by omega
      have key : ∀ (vs : List VV) (xs : List Value) (t : Nat), VRA ρ w vs xs → t < xs.length → VR ρ w (vs.getD t .any) (xs.getD t undef) := by
        intro vs
        induction vs with
        | nil => intro xs t h ht; have h : xs = [] := h; subst h; simp at ht
        | cons v vs ih =>
          intro xs t h ht
          obtain ⟨x, ys, rfl, h1, h2⟩ := h
          cases t with
          | zero => simpa using h1
          | succ t => simpa using ih ys t h2 (by simpa using ht)
      have := key args xs t ha ht'
      simpa [Array.getD_eq_getD_getElem?, Array.getElem?_append, ht', List.getD_eq_getElem?_getD] using this
    · simp [VR, VR1]
  have hSR : SR fn.ntmps B ρ w ⟨argsF 0 args (fun _ => .any), H, n⟩ { tmps := xs.toArray ++ Array.replicate (fn.ntmps - xs.toArray.size) undef, defers := [] } w ρ :=
    ⟨hTM, rfl, by simp; omega, hh, Below.refl _ _, Ext.refl _ _⟩
  refine vcode_sound c _ _ _ _ _ _ hok h hSR fun e S' a' w' ρ' hk hS' => ?_
  cases e with
  | exit i => exact hk.elim
  | normal =>
    obtain ⟨v, x, h1, h2, h3⟩ := vres_sound hS' fn _ hk
    exact bodyPost_end h3 hS'.defers ⟨x, rfl, v, _, _, ρ', h1, h2, hS'.heap, hS'.ext, hS'.below⟩
  | ret =>
    obtain ⟨v, x, h1, h2, h3⟩ := vres_sound hS' fn _ hk
    exact bodyPost_ret h3 hS'.defers ⟨x, rfl, v, _, _, ρ', h1, h2, hS'.heap, hS'.ext, hS'.below⟩
section
variable {w : World} {ρ ρ' : Names}
mutual
theorem C1.mono (hN : ∀ m l, ρ m = some l → ρ' m = some l) (hU : ∀ b, b < w.heap.size → Unnamed ρ b → Unnamed ρ' b) : ∀ (v : VV) (cs : List Value), C1 ρ w v cs → C1 ρ' w v cs
  | .int _ _, _, h => by simpa only [C1] using h
  | .bool _, _, h => by simpa only [C1] using h
  | .str _, _, h => by simpa only [C1] using h
  | .agg vs, cs, h => by simp only [C1] at h ⊢; exact CR.mono hN hU vs cs h
  | .tup _, _, h => by simp only [C1] at h
  | .sl none _, _, h => by simpa only [C1] using h
  | .sl (some (m, p, i)) n, _, h => by
    simp only [C1] at h ⊢
    rcases h with h | ⟨l, c, e, k, h1, h2⟩
    · exact .inl h
    · exact .inr ⟨l, c, e, k, hN _ _ h1, h2⟩
  | .ptr m p, _, h => by
    simp only [C1] at h ⊢
    obtain ⟨l, h1, h2⟩ := h
    exact ⟨l, hN _ _ h1, h2⟩
  | .fn f caps, cs, h => by
    simp only [C1] at h ⊢
    obtain ⟨xs, h1, h2⟩ := h
    exact ⟨xs, h1, CV.mono hN hU caps _ h2⟩
  | .map m, _, h => by
    simp only [C1] at h ⊢
    obtain ⟨l, h1, h2⟩ := h
    exact ⟨l, hN _ _ h1, h2⟩
  | .dat s els, cs, h => by
    simp only [C1] at h ⊢
    obtain ⟨A, c, h1, h2, h3⟩ := h
    refine ⟨A, c, h1, h2, fun hne => ?_⟩
    obtain ⟨b, o, ecs, g1, g2, g3, g4, g5, g6⟩ := h3 hne
    exact ⟨b, o, ecs, g1, CR.mono hN hU els ecs g2, g3, g4, hU b g6 g5, g6⟩
  | .pd s v, cs, h => by
    simp only [C1] at h ⊢
    obtain ⟨b, o, ecs, g1, g2, g3, g4, g5, g6⟩ := h
    exact ⟨b, o, ecs, g1, C1.mono hN hU v ecs g2, g3, g4, hU b g6 g5, g6⟩
  | .vec _ _, _, h => by simp only [C1] at h
  | .any, _, h => by simpa only [C1] using h
  | .raw _, _, h => by simpa only [C1] using h
theorem CR.mono (hN : ∀ m l, ρ m = some l → ρ' m = some l) (hU : ∀ b, b < w.heap.size → Unnamed ρ b → Unnamed ρ' b) : ∀ (vs : List VV) (cs : List Value), CR ρ w vs cs → CR ρ' w vs cs
  | [], _, h => by simpa only [CR] using h
  | v :: vs, cs, h => by
    simp only [CR] at h ⊢
    obtain ⟨c1, c2, h1, h2, h3⟩ := h
    exact ⟨c1, c2, h1, C1.mono hN hU v c1 h2, CR.mono hN hU vs c2 h3⟩
theorem CV.mono (hN : ∀ m l, ρ m = some l → ρ' m = some l) (hU : ∀ b, b < w.heap.size → Unnamed ρ b → Unnamed ρ' b) : ∀ (vs : List VV) (cs : List Value), CV ρ w vs cs → CV ρ' w vs cs
  | [], _, h => by simpa only [CV] using h
  | v :: vs, cs, h => by
    simp only [CV] at h ⊢
    obtain ⟨c1, c2, h1, h2, h3, h4⟩ := h
    exact ⟨c1, c2, h1, h2, C1.mono hN hU v [c1] h3, CV.mono hN hU vs c2 h4⟩
end
theorem VR1.mono (hN : ∀ m l, ρ m = some l → ρ' m = some l) (hU : ∀ b, b < w.heap.size → Unnamed ρ b → Unnamed ρ' b) {v : VV} {x : Value} (h : VR1 ρ w v x) : VR1 ρ' w v x := by
  cases v with
  | agg vs => obtain ⟨cs, h1, h2⟩ := h; exact ⟨cs, h1, CR.mono hN hU vs _ h2⟩
  | any => trivial
  | _ => exact C1.mono hN hU _ _ h
theorem VRs.mono (hN : ∀ m l, ρ m = some l → ρ' m = some l) (hU : ∀ b, b < w.heap.size → Unnamed ρ b → Unnamed ρ' b) : ∀ (vs : List VV) (xs : List Value), VRs ρ w vs xs → VRs ρ' w vs xs
  | [], _, h => h
  | v :: vs, xs, h => by
    obtain ⟨x, ys, h1, h2, h3⟩ := h
    exact ⟨x, ys, h1, VR1.mono hN hU h2, VRs.mono hN hU vs ys h3⟩
theorem VR.mono (hN : ∀ m l, ρ m = some l → ρ' m = some l) (hU : ∀ b, b < w.heap.size → Unnamed ρ b → Unnamed ρ' b) {v : VV} {x : Value} (h : VR ρ w v x) : VR ρ' w v x := by
  cases v with
  | tup vs => obtain ⟨cs, h1, h2⟩ := h; exact ⟨cs, h1, VRs.mono hN hU vs _ h2⟩
  | _ => simp only [VR] at h ⊢; exact VR1.mono hN hU h
end
mutual
/-- plain: no slices, no places -/
def pl : VV → Bool
  | .int _ _ => true
  | .bool _ => true
  | .str _ => true
  | .agg vs => pls vs
  | .tup vs => pls vs
  | .sl none _ => true
  | .sl (some _) _ => false
  | .raw _ => true
  | _ => false
def pls : List VV → Bool
  | [] => true
  | v :: l => pl v && pls l
end
section
variable {w : World} {ρ ρ' : Names}
mutual
theorem C1.plain : ∀ (v : VV) (cs : List Value), pl v = true → C1 ρ w v cs → C1 ρ' w v cs
  | .int _ _, _, _, h => by simpa only [C1] using h
  | .bool _, _, _, h => by simpa only [C1] using h
  | .str _, _, _, h => by simpa only [C1] using h
  | .agg vs, cs, hn, h => by simp only [C1] at h ⊢; exact CR.plain vs cs (by simpa only [pl] using hn) h
  | .tup _, _, _, h => by simp only [C1] at h
  | .sl none _, _, _, h => by simpa only [C1] using h
  | .sl (some _) _, _, hn, _ => by simp [pl] at hn
  | .ptr _ _, _, hn, _ => by simp [pl] at hn
  | .fn _ _, _, hn, _ => by simp [pl] at hn
  | .map _, _, hn, _ => by simp [pl] at hn
  | .dat _ _, _, hn, _ => by simp [pl] at hn
  | .pd _ _, _, hn, _ => by simp [pl] at hn
  | .vec _ _, _, hn, _ => by simp [pl] at hn
  | .any, _, hn, _ => by simp [pl] at hn
  | .raw _, _, _, h => by simpa only [C1] using h
theorem CR.plain : ∀ (vs : List VV) (cs : List Value), pls vs = true → CR ρ w vs cs → CR ρ' w vs cs
  | [], _, _, h => by simpa only [CR] using h
  | v :: vs, cs, hn, h => by
    simp only [pls,Bool.and_eq_true] at hn
    simp only [CR] at h ⊢
    obtain ⟨c1, c2, h1, h2, h3⟩ := h
    exact ⟨c1, c2, h1, C1.plain v c1 hn.1 h2, CR.plain vs c2 hn.2 h3⟩
end
theorem VR1.plain {v : VV} {x : Value} (hn : pl v = true) (h : VR1 ρ w v x) : VR1 ρ' w v x := by
  cases v with
  | agg vs => obtain ⟨cs, h1, h2⟩ := h; exact ⟨cs, h1, CR.plain vs _ (by simpa only [pl] using hn) h2⟩
  | any => trivial
  | _ => exact C1.plain (ρ := ρ) _ _ hn h
theorem VRs.plain : ∀ (vs : List VV) (xs : List Value), pls vs = true → VRs ρ w vs xs → VRs ρ' w vs xs
  | [], _, _, h => h
  | v :: vs, xs, hn, h => by
    simp only [pls,Bool.and_eq_true] at hn
    obtain ⟨x, ys, h1, h2, h3⟩ := h
    exact ⟨x, ys, h1, VR1.plain hn.1 h2, VRs.plain vs ys hn.2 h3⟩
theorem VR.plain {v : VV} {x : Value} (hn : pl v = true) (h : VR ρ w v x) : VR ρ' w v x := by
  cases v with
  | tup vs => obtain ⟨cs, h1, h2⟩ := h; exact ⟨cs, h1, VRs.plain vs _ (by simpa only [pl] using hn) h2⟩
  | _ => simp only [VR] at h ⊢; exact VR1.plain hn h
end
theorem VRA.bare {ρ : Names} {w : World} : ∀ (vs : List VV) (xs : List Value), nls vs = true → vs.all notTup = true → VRA ρ w vs xs → VRA (.bare (Unnamed ρ)) w vs xs
  | [], _, _, _, h => h
  | v :: vs, xs, hn, ht, h => by
    simp only [nls,Bool.and_eq_true] at hn
    simp only [List.all_cons,Bool.and_eq_true] at ht
    obtain ⟨x, ys, h1, h2, h3⟩ := h
    refine ⟨x, ys, h1, ?_, VRA.bare vs ys hn.2 ht.2 h3⟩
    have h4 := h2.to1 ht.1
    exact VR.of1 (VR1.bare (fun _ h => h) hn.1 h4)
theorem VRA.data {Z : Nat → Nat → Prop} [Zone Z] {B n : Nat} {ρ : Names} {w : World} {H : Heap} (hh : HR Z B ρ H n w) : ∀ (vs ds : List VV) (xs : List Value), RdL H vs ds → vs.all notTup = true → VRA ρ w vs xs → VRA (.bare fun _ => True) w ds xs
  | [], ds, xs, h, _, hx => by
    simp only [RdL] at h
    subst h
    exact hx
  | v :: vs, ds, xs, h, ht, hx => by
    simp only [RdL] at h
    obtain ⟨d, ds', rfl, h1, h2⟩ := h
    simp only [List.all_cons,Bool.and_eq_true] at ht
    obtain ⟨x, ys, g1, g2, g3⟩ := hx
    exact ⟨x, ys, g1, VR.of1 (Rd.value1 hh (fun _ _ => trivial) (fun _ _ _ => trivial) h1 (g2.to1 ht.1)), VRA.data hh vs ds' ys h2 ht.2 g3⟩
theorem HR.wide {Z : Nat → Nat → Prop} [Zone Z] {B n : Nat} {ρ : Names} {w w' : World} {H : Heap} (h : HR Z B ρ H n w) (hsz : w.heap.size ≤ w'.heap.size) (hb : ∀ b, b < w.heap.size → w'.heap[b]? = w.heap[b]?) :
    HR Z B ⟨ρ.nm, fun b => ρ.im b ∨ w.heap.size ≤ b⟩ H n w' ∧ Ext ρ w ⟨ρ.nm, fun b => ρ.im b ∨ w.heap.size ≤ b⟩ w' := by
  have he : Ext ρ w ⟨ρ.nm, fun b => ρ.im b ∨ w.heap.size ≤ b⟩ w' := ⟨fun _ _ h => h, hsz, fun b hb' _ => hb b hb', fun _ _ h => .inl h, fun _ h => .inl h, fun _ h => h⟩
  refine ⟨⟨Nat.le_trans h.base hsz, h.fresh, fun m l hm => ?_, h.apart, fun m s v l hm h1 => ?_, fun m es l hm h1 => ?_⟩, he⟩
  · obtain ⟨h2, h3⟩ := h.lt m l hm
    exact ⟨h2, Nat.lt_of_lt_of_le h3 hsz⟩
  · exact (h.row m s v l hm h1).same he (hb _ (h.lt m l h1).2)
  · exact (h.map m es l hm h1).same he (hb _ (h.lt m l h1).2)
/-- a call, of arguments that name nothing -/
theorem call_data {f : FuncId} {ds : List VV} {r : VV} (h : Spec P f ds r) {H : Heap} {n : Nat} {K : VV → Heap → Nat → Prop} (hn : nls ds = true) (ht : ds.all notTup = true) (hk : K r H n) : vcall P f ds H n K := by
  intro B ρ w xs hh ha
  refine (h _ w xs (VRA.bare ds xs hn ht ha)).mono fun e w' ⟨x, he, hb, hv⟩ => ⟨x, he, ?_⟩
  obtain ⟨h1, h2⟩ := hh.wide hb.size hb.block
  refine ⟨r, H, n, _, hk, VR.mono (fun m l hm => by cases hm) (fun b hlt hu => ?_) hv, h1, h2, hb.mono hh.base⟩
  obtain ⟨h3, _⟩ := hu
  rcases h3 with h3 | h3
  · exact ⟨.inl h3.1, h3.2⟩
  · exact ⟨.inr h3, fun m l hm e => by have := (hh.lt m l hm).2; omega⟩
/-- a call whose answer is plain -/
theorem call_plain {f : FuncId} {args ds : List VV} {r : VV} (h : Spec P f ds r) {H : Heap} {n : Nat} {K : VV → Heap → Nat → Prop} (hd : RdL H args ds) (ht : args.all notTup = true) (hr : pl r = true) (hk : K r H n) : vcall P f args H n K := by
  intro B ρ w xs hh ha
  refine (h _ w xs (VRA.data hh args ds xs hd ht ha)).mono fun e w' ⟨x, he, hb, hv⟩ => ⟨x, he, ?_⟩
  obtain ⟨h1, h2⟩ := hh.wide hb.size hb.block
  exact ⟨r, H, n, _, hk, VR.plain hr hv, h1, h2, hb.mono hh.base⟩
/-- what a function's end hands on -/
def fin (P : Program) (rs : List ResultVar) (k : VV → Heap → Nat → Prop) (e : VX) (S : VS) : Prop := match e with
  | .exit _ => False
  | .normal => vres P S rs fun v => k v S.hp S.nx
  | .ret => vres P S rs fun v => k v S.hp S.nx
theorem body_intro {fn : Func} {args : List VV} {H : Heap} {n : Nat} {K : VV → Heap → Nat → Prop} {c : Code} {rs : List ResultVar} (hb : fn.body = some c) (hr : fn.results.toList = rs)
    (h : vcode P c ⟨argsF 0 args (fun _ => .any), H, n⟩ (fin P rs K)) : vbody P fn args H n K := by
  refine bnd_intro hb ?_
  have e : (fun (e : VX) (S : VS) => match e with
    | .exit _ => False
    | _ => vres P S fn.results.toList fun v => K v S.hp S.nx) = fin P rs K := by
    funext e S
    subst hr
    cases e <;> rfl
  rw [e]
  exact h
/-- .. out of its text -/
theorem spec_intro {fn : Func} {f : FuncId} (hf : P.funcs[f]? = some fn) {c : Code} {rs : List ResultVar} (hb : fn.body = some c) (hr : fn.results.toList = rs) (hok : codeOk fn.ntmps c = true) {ds : List VV} {r : VV} {k : Nat} (hl : ds.length = k) (hlen : k ≤ fn.ntmps)
    (h : vcode P c ⟨argsF 0 ds (fun _ => .any), fun _ => none, 0⟩ (fin P rs fun v H _ => RdT H v r)) : Spec P f ds r := by
  intro U w xs ha
  have hh : HR ZT w.heap.size (.bare U) (fun _ => none) 0 w := ⟨Nat.le_refl _, fun _ _ => rfl, fun m l h => (by cases h), fun m m' l l' h => (by cases h), fun m s v l h => (by cases h), fun m es l h => (by cases h)⟩
  refine (body_sound hf (by rw [hb]; exact hok) (by omega) (body_intro hb hr h) w.heap.size (.bare U) w xs hh ha).mono fun e w' ⟨x, he, v, H', n', ρ', hk, hv, hh', hext, hb⟩ => ⟨x, he, hb, ?_⟩
  exact hk.value hh' hext.imb (fun m l hl => .inr (hh'.lt m l hl).1) hv
/-- a call into a text that is walked where it stands -/
theorem call_inline {fn : Func} {f : FuncId} (hf : P.funcs[f]? = some fn) {c : Code} {rs : List ResultVar} (hb : fn.body = some c) (hr : fn.results.toList = rs) (hok : codeOk fn.ntmps c = true) {args : List VV} {k : Nat} (hl : args.length = k) (hlen : k ≤ fn.ntmps) {H : Heap} {n : Nat} {K : VV → Heap → Nat → Prop}
    (h : vcode P c ⟨argsF 0 args (fun _ => .any), H, n⟩ (fin P rs K)) : vcall P f args H n K :=
  body_sound hf (by rw [hb]; exact hok) (by omega) (body_intro hb hr h)
end
end Go.Proofs.Ytndbfphmjmhkjaa.V
