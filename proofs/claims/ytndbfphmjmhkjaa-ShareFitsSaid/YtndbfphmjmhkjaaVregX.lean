/-
  A MACHINE OF VALUES: a region whose order is drawn, with slots that are written behind their reading, and with one store.
-/
import Derived.Test.YtndbfphmjmhkjaaVok
set_option linter.unusedVariables false
set_option linter.unusedSectionVars false
set_option linter.unusedSimpArgs false
namespace Go.Proofs.Ytndbfphmjmhkjaa.V
open Go Go.RowKit

def Does2 (P : Program) (env tmF : Nat → VV) (G : Heap) (n : Nat) (o : Oper) : Prop :=
  ∃ v n', (∀ t, o.dst = some t → tmF t = v) ∧ n ≤ n' ∧ n' ≤ n + 64 ∧ ∀ e' K', (∀ x ∈ o.op.operands.toList, e' x = ev env x) → K' v G n' → vopH P e' G n K' o
def Fact2 (P : Program) (ops : List Oper) (env tmF : Nat → VV) (G : Heap) (n : Nat) (o : Oper) : Prop :=
  (o.guard = none ∧ Does2 P env tmF G n o) ∨ ∃ g want d, o.guard = some (g, want) ∧ dstAt ops g = some d ∧
    ((env d = .bool want ∧ Does2 P env tmF G n o) ∨ ((env d = .bool (!want) ∨ env d = .raw undef) ∧ ∀ t, o.dst = some t → tmF t = .raw undef))
/-- what an operation reads at its place of the order in which they are gone through -/
def rd2 (l : List Oper) (q : Nat) (tm tmF : Nat → VV) (t : Nat) : VV := if ((l.drop q).any fun o => o.dst == some t) = true then tm t else tmF t
/-- no slot is written twice -/
def oneL : List Oper → Bool
  | [] => true
  | o :: l => (match o.dst with | some d => l.all fun o' => o'.dst != some d | none => true) && oneL l
theorem held2 {P : Program} {ops : Array Oper} {K : (Nat → VV) → Heap → Nat → Prop} : ∀ (l : List Oper) (tm : Nat → VV) (H : Heap) (n : Nat), oneL l = true → (∀ m, n ≤ m → H m = none) → vheld P ops.toList l tm H n K →
    ∃ tmF G, K tmF G (n + 64 * l.length) ∧ (∀ t, (∀ o ∈ l, o.dst ≠ some t) → tmF t = tm t) ∧ ((∀ m b, H m = some b → G m = some b) ∧ (∀ m, m < n → G m = H m)) ∧
      ∀ q o, l[q]? = some o → ∃ Hq : Heap, (∀ m, m < n → Hq m = H m) ∧ (∀ m, n + 64 * (q + 1) ≤ m → Hq m = none) ∧ (∀ m b, Hq m = some b → G m = some b) ∧
        ∀ G' : Heap, (∀ m b, Hq m = some b → G' m = some b) → Fact2 P ops.toList (rd2 l q tm tmF) tmF G' (n + 64 * q) o
  | [], tm, H, n, _, _, h => ⟨tm, H, h, fun _ _ => rfl, ⟨fun _ _ h => h, fun _ _ => rfl⟩, fun q o h => by simp at h⟩
  | o :: l, tm, H, n, hw, hn, h => by
    simp only [oneL,Bool.and_eq_true] at hw
    obtain ⟨hw1, hw3⟩ := hw
    have hd : ∀ d, o.dst = some d → ∀ o' ∈ l, o'.dst ≠ some d := fun d hd o' ho' => by
      rw [hd] at hw1
      simpa using (List.all_eq_true.1 hw1) o' ho'
    have hput : ∀ (tm' : Nat → VV) (v : VV) (t : Nat), o.dst ≠ some t → put o.dst v tm' t = tm' t := by
      intro tm' v t ht
      cases hod : o.dst with
      | none => rfl
      | some d => simp only [put,upd_ap]; rw [if_neg (by intro e; rw [e] at ht; exact ht hod)]
    have hrd0 : ∀ (tmF : Nat → VV), (∀ t, (∀ o' ∈ o :: l, o'.dst ≠ some t) → tmF t = tm t) → ∀ t, rd2 (o :: l) 0 tm tmF t = tm t := fun tmF h t => by
      unfold rd2
      split
      · rfl
      · rename_i hh
        refine h t fun o' ho' e => hh ?_
        rw [List.drop_zero, List.any_eq_true]
        exact ⟨o', ho', by simp [e]⟩
    have hrdS : ∀ (tmF : Nat → VV) (v : VV) (q : Nat) (t : Nat), rd2 l q (put o.dst v tm) tmF t = rd2 (o :: l) (q + 1) tm tmF t := fun tmF v q t => by
      unfold rd2
      rw [List.drop_succ_cons]
      split
      · rename_i hh
        rw [List.any_eq_true] at hh
        obtain ⟨o', ho', e⟩ := hh
        refine hput tm v t fun e2 => hd t e2 o' (List.mem_of_mem_drop ho') (by simpa using e)
      · rfl
    have done : vopH P (ev tm) H n (fun v H' n' => cnd (n' ≤ n + 64) (vheld P ops.toList l (put o.dst v tm) H' (n + 64) K)) o →
        ∃ tmF G, K tmF G (n + 64 * (l.length + 1)) ∧ (∀ t, (∀ o' ∈ o :: l, o'.dst ≠ some t) → tmF t = tm t) ∧ ((∀ m b, H m = some b → G m = some b) ∧ (∀ m, m < n → G m = H m)) ∧
          (∃ Hq : Heap, (∀ m, m < n → Hq m = H m) ∧ (∀ m, n + 64 ≤ m → Hq m = none) ∧ (∀ m b, Hq m = some b → G m = some b) ∧ ∀ G' : Heap, (∀ m b, Hq m = some b → G' m = some b) → Does2 P tm tmF G' n o) ∧
          ∀ q o', l[q]? = some o' → ∃ Hq : Heap, (∀ m, m < n → Hq m = H m) ∧ (∀ m, n + 64 + 64 * (q + 1) ≤ m → Hq m = none) ∧ (∀ m b, Hq m = some b → G m = some b) ∧
            ∀ G' : Heap, (∀ m b, Hq m = some b → G' m = some b) → Fact2 P ops.toList (rd2 (o :: l) (q + 1) tm tmF) tmF G' (n + 64 + 64 * q) o' := by
      intro h
      obtain ⟨v, H', n', ⟨hn', hk⟩, s1, s2, s3, s4⟩ := vopH_stable (hn n (Nat.le_refl _)) h
      have hn2 : ∀ m, n + 64 ≤ m → H' m = none := fun m hm => by rw [s3 m (.inr (by omega))]; exact hn m (by omega)
      obtain ⟨tmF, G, k1, k2, k3, k4⟩ := held2 l (put o.dst v tm) H' (n + 64) hw3 hn2 hk
      refine ⟨tmF, G, by rw [show n + 64 * (l.length + 1) = n + 64 + 64 * l.length by omega]; exact k1, fun t ht => ?_, ⟨fun m b hm => k3.1 m b (s2 m b hm), fun m hm => by rw [k3.2 m (by omega), s3 m (.inl hm)]⟩, ?_, fun q o' ho' => ?_⟩
      · rw [k2 t (fun o' ho' => ht o' (by simp [ho'])), hput tm v t (ht o (by simp))]
      · refine ⟨H', fun m hm => s3 m (.inl hm), hn2, k3.1, fun G' hG' => ⟨v, n', fun t ht => ?_, s1, hn', fun e' K' he hK => s4 e' G' K' (fun x hx => he x hx) hG' hK⟩⟩
        rw [k2 t (hd t ht), ht]
        simp [put, upd_ap]
      · obtain ⟨Hq, q1, q2, q3, q4⟩ := k4 q o' ho'
        refine ⟨Hq, fun m hm => by rw [q1 m (by omega), s3 m (.inl hm)], q2, q3, fun G' hG' => ?_⟩
        have := q4 G' hG'
        rw [show rd2 l q (put o.dst v tm) tmF = rd2 (o :: l) (q + 1) tm tmF from funext (hrdS tmF v q)] at this
        exact this
    have skip : vheld P ops.toList l (put o.dst (.raw undef) tm) H (n + 64) K →
        ∃ tmF G, K tmF G (n + 64 * (l.length + 1)) ∧ (∀ t, (∀ o' ∈ o :: l, o'.dst ≠ some t) → tmF t = tm t) ∧ ((∀ m b, H m = some b → G m = some b) ∧ (∀ m, m < n → G m = H m)) ∧ (∀ t, o.dst = some t → tmF t = .raw undef) ∧
          ∀ q o', l[q]? = some o' → ∃ Hq : Heap, (∀ m, m < n → Hq m = H m) ∧ (∀ m, n + 64 + 64 * (q + 1) ≤ m → Hq m = none) ∧ (∀ m b, Hq m = some b → G m = some b) ∧
            ∀ G' : Heap, (∀ m b, Hq m = some b → G' m = some b) → Fact2 P ops.toList (rd2 (o :: l) (q + 1) tm tmF) tmF G' (n + 64 + 64 * q) o' := by
      intro h
      obtain ⟨tmF, G, k1, k2, k3, k4⟩ := held2 l _ H (n + 64) hw3 (fun m hm => hn m (by omega)) h
      refine ⟨tmF, G, by rw [show n + 64 * (l.length + 1) = n + 64 + 64 * l.length by omega]; exact k1, fun t ht => ?_, ⟨k3.1, fun m hm => k3.2 m (by omega)⟩, fun t ht => ?_, fun q o' ho' => ?_⟩
      · rw [k2 t (fun o' ho' => ht o' (by simp [ho'])), hput tm _ t (ht o (by simp))]
      · rw [k2 t (hd t ht), ht]
        simp [put, upd_ap]
      · obtain ⟨Hq, q1, q2, q3, q4⟩ := k4 q o' ho'
        refine ⟨Hq, fun m hm => q1 m (by omega), q2, q3, fun G' hG' => ?_⟩
        have := q4 G' hG'
        rw [show rd2 l q (put o.dst (.raw undef) tm) tmF = rd2 (o :: l) (q + 1) tm tmF from funext (hrdS tmF _ q)] at this
        exact this
    -- the parts together
    have tie : ∀ (tmF : Nat → VV) (G : Heap), K tmF G (n + 64 * (l.length + 1)) → (∀ t, (∀ o' ∈ o :: l, o'.dst ≠ some t) → tmF t = tm t) → ((∀ m b, H m = some b → G m = some b) ∧ (∀ m, m < n → G m = H m)) →
        (∃ Hq : Heap, (∀ m, m < n → Hq m = H m) ∧ (∀ m, n + 64 ≤ m → Hq m = none) ∧ (∀ m b, Hq m = some b → G m = some b) ∧ ∀ G' : Heap, (∀ m b, Hq m = some b → G' m = some b) → Fact2 P ops.toList tm tmF G' n o) →
        (∀ q o', l[q]? = some o' → ∃ Hq : Heap, (∀ m, m < n → Hq m = H m) ∧ (∀ m, n + 64 + 64 * (q + 1) ≤ m → Hq m = none) ∧ (∀ m b, Hq m = some b → G m = some b) ∧
            ∀ G' : Heap, (∀ m b, Hq m = some b → G' m = some b) → Fact2 P ops.toList (rd2 (o :: l) (q + 1) tm tmF) tmF G' (n + 64 + 64 * q) o') →
        ∃ tmF G, K tmF G (n + 64 * (o :: l).length) ∧ (∀ t, (∀ o' ∈ o :: l, o'.dst ≠ some t) → tmF t = tm t) ∧ ((∀ m b, H m = some b → G m = some b) ∧ (∀ m, m < n → G m = H m)) ∧
          ∀ q o', (o :: l)[q]? = some o' → ∃ Hq : Heap, (∀ m, m < n → Hq m = H m) ∧ (∀ m, n + 64 * (q + 1) ≤ m → Hq m = none) ∧ (∀ m b, Hq m = some b → G m = some b) ∧
            ∀ G' : Heap, (∀ m b, Hq m = some b → G' m = some b) → Fact2 P ops.toList (rd2 (o :: l) q tm tmF) tmF G' (n + 64 * q) o' := by
      intro tmF G k1 k2 k3 k4 k5
      refine ⟨tmF, G, k1, k2, k3, fun q o' ho' => ?_⟩
      cases q with
      | zero =>
        simp only [List.getElem?_cons_zero,Option.some.injEq] at ho'
        subst ho'
        obtain ⟨Hq, q1, q2, q3, q4⟩ := k4
        refine ⟨Hq, q1, fun m hm => q2 m (by omega), q3, fun G' hG' => ?_⟩
        have := q4 G' hG'
        rw [show tm = rd2 (o :: l) 0 tm tmF from (funext (hrd0 tmF k2)).symm] at this
        exact this
      | succ q =>
        simp only [List.getElem?_cons_succ] at ho'
        obtain ⟨Hq, q1, q2, q3, q4⟩ := k5 q o' ho'
        exact ⟨Hq, q1, fun m hm => q2 m (by omega), q3, fun G' hG' => by
          have := q4 G' hG'
          rwa [show n + 64 + 64 * q = n + 64 * (q + 1) by omega] at this⟩
    simp only [vheld] at h
    split at h
    · rename_i hg
      obtain ⟨tmF, G, k1, k2, k3, ⟨Hq, q1, q2, q3, q4⟩, k5⟩ := done h
      exact tie tmF G k1 k2 k3 ⟨Hq, q1, q2, q3, fun G' hG' => .inl ⟨hg, q4 G' hG'⟩⟩ k5
    · rename_i g want hg
      obtain ⟨d, hdg, h⟩ := bnd_iff.1 h
      unfold onV at h
      dsimp only at h
      split at h
      · rename_i b hb
        obtain ⟨h1, h2⟩ := h
        by_cases hbw : (b == want) = true
        · have hbe : b = want := by simpa using hbw
          subst hbe
          have hu := upd_same hb
          have h1 := h1 hbw
          rw [hu] at h1
          obtain ⟨tmF, G, k1, k2, k3, ⟨Hq, q1, q2, q3, q4⟩, k5⟩ := done h1
          exact tie tmF G k1 k2 k3 ⟨Hq, q1, q2, q3, fun G' hG' => .inr ⟨g, b, d, hg, hdg, .inl ⟨hb, q4 G' hG'⟩⟩⟩ k5
        · have hbf : (b == want) = false := by simpa using hbw
          have hbe : b = !want := by cases b <;> cases want <;> simp_all
          subst hbe
          have hu := upd_same hb
          have h2 := h2 hbf
          rw [hu] at h2
          obtain ⟨tmF, G, k1, k2, k3, k4, k5⟩ := skip h2
          exact tie tmF G k1 k2 k3 ⟨H, fun _ _ => rfl, fun m hm => hn m (by omega), k3.1, fun G' hG' => .inr ⟨g, want, d, hg, hdg, .inr ⟨.inl hb, k4⟩⟩⟩ k5
      · rename_i u hb
        obtain ⟨rfl, h⟩ := h
        obtain ⟨tmF, G, k1, k2, k3, k4, k5⟩ := skip h
        exact tie tmF G k1 k2 k3 ⟨H, fun _ _ => rfl, fun m hm => hn m (by omega), k3.1, fun G' hG' => .inr ⟨g, want, d, hg, hdg, .inr ⟨.inr hb, k4⟩⟩⟩ k5
      · exact h.elim
def dstB (ops : Array Oper) (j t : Nat) : Bool := match ops[j]? with
  | some o => o.dst == some t
  | none => false
theorem dstB_iff {ops : Array Oper} {j t : Nat} : dstB ops j t = true ↔ ∃ o, ops[j]? = some o ∧ o.dst = some t := by
  unfold dstB
  split
  · rename_i o ho
    simp [ho]
  · rename_i ho; simp [ho]
/-- the names of what is still to come, each by its place -/
def Fr2 (nx : Nat) (perm : List Nat) (listed : Array Bool) (m : Nat) : Prop := nx ≤ m ∧ ∀ (q : Nat) i, perm[q]? = some i → nx + 64 * q ≤ m → m < nx + 64 * q + 64 → listed.getD i false = false
/-- what the slots hold while some operations are still to come -/
def tmQ (ops : Array Oper) (listed : Array Bool) (k : Nat) (tm0 tmF : Nat → VV) (t : Nat) : VV := if pendB ops listed k t = true then tm0 t else tmF t
section
variable {P : Program} {N B : Nat} {ρ0 : Names} {w0 : World} {ops : Array Oper} {k nx js : Nat} {perm : List Nat} {tm0 tmF : Nat → VV} {GA GB : Heap} {env : Nat → Nat → VV} {K : VS → Prop} {Q : Exit → Act → World → Prop}
theorem head2 (hk : k ≤ ops.size) (hd : ∀ o ∈ ops.toList, ∀ t, o.dst = some t → t < N)
    (hreach : ∀ j o, k ≤ j → ops[j]? = some o → (∀ i, i < j → reachB ops ops.size o i = true) ∧ ∀ e ∈ o.after, Region.binds .any e = true → e.on < j)
    (hb : ∀ j o, j < k → ops[j]? = some o → ∀ e ∈ o.after, Region.binds .any e = true → e.on < j)
    (hperm : ∀ i, i < k → i ≠ js → ∃ q : Nat, perm[q]? = some i)
    (hpk : ∀ (q : Nat) i, perm[q]? = some i → i < k ∧ i ≠ js)
    (hpl : perm.length ≤ k)
    (huniq : ∀ (q r : Nat) i, perm[q]? = some i → perm[r]? = some i → q = r)
    (hone : ∀ i j t, i < k → j < k → i ≠ j → dstB ops i t = true → dstB ops j t = false)
    (henv : ∀ (q : Nat) i o t, perm[q]? = some i → ops[i]? = some o → t ∈ o.looksAt ops → ∀ listed, listed.getD i false = false → Closed ops listed → (∀ e ∈ o.after, Region.binds .any e = true → listed.getD e.on false = true) → tmQ ops listed k tm0 tmF t = env q t)
    (hA : ∀ (q : Nat) i o, perm[q]? = some i → ops[i]? = some o → Fact2 P ops.toList (env q) tmF GA (nx + 64 * q) o)
    (hB : ∀ (q : Nat) i o, perm[q]? = some i → ops[i]? = some o → (∃ oj, ops[js]? = some oj ∧ reachB ops ops.size oj i = true) ∨ Fact2 P ops.toList (env q) tmF GB (nx + 64 * q) o)
    (hS : js < k → ∀ o, ops[js]? = some o → o.dst = none ∧ o.guard = none ∧ ∃ t y x, o.op = .store t y x ∧ (∀ listed, Closed ops listed → (∀ e ∈ o.after, Region.binds .any e = true → listed.getD e.on false = true) → ∀ z ∈ o.op.operands.toList, ev (tmQ ops listed k tm0 tmF) z = ev tmF z) ∧ (∀ z, z = y ∨ z = x → z ∈ o.op.operands.toList) ∧ vStore P (ev tmF) GA 0 (fun v G n => v = .any ∧ G = GB ∧ n = 0) t y x)
    (hGG : k ≤ js → GA = GB)
    (htail : vlist P ops.toList (ops.toList.drop k) ⟨tmF, GB, nx + 64 * k⟩ K)
    (next : ∀ S' a' w' ρ', K S' → SR N B ρ0 w0 S' a' w' ρ' → Q .normal a' w') :
    ∀ (fuel : Nat) (listed : Array Bool) (a : Act) (w : World) (ρ : Names), ops.size ≤ cnt listed k + fuel → listed.size = ops.size → (∀ i, k ≤ i → listed.getD i false = false) → Closed ops listed →
      TM ρ w (tmQ ops listed k tm0 tmF) a → a.defers = [] → a.tmps.size = N → HR (ZF (Fr2 nx perm listed)) B ρ (if listed.getD js false = true then GB else GA) 0 w → Below B w0 w → Ext ρ0 w0 ρ w → wpAny P .any ops Q fuel listed a w := by
  have fin : ∀ (fuel : Nat) (listed : Array Bool) (a : Act) (w : World) (ρ : Names), ops.size ≤ k + fuel → (∀ i, i < k → listed.getD i false = true) → listed.size = ops.size → (∀ i, k ≤ i → listed.getD i false = false) → Closed ops listed →
      TM ρ w (tmQ ops listed k tm0 tmF) a → a.defers = [] → a.tmps.size = N → HR (ZF (Fr2 nx perm listed)) B ρ (if listed.getD js false = true then GB else GA) 0 w → Below B w0 w → Ext ρ0 w0 ρ w → wpAny P .any ops Q fuel listed a w := by
    intro fuel listed a w ρ hf hall hsz hl hc hT hdf hts hh hbl he
    have hTF : TM ρ w tmF a := fun t => by
      have := hT t
      unfold tmQ at this
      rw [if_neg (by intro e; obtain ⟨j, h1, h2, _⟩ := pendB_true.1 e; rw [hall j h1] at h2; cases h2)] at this
      exact this
    have hG : (if listed.getD js false = true then GB else GA) = GB := by
      by_cases hjk : js < k
      · rw [if_pos (hall js hjk)]
      · rw [if_neg (by rw [hl js (by omega)]; simp)]
        exact hGG (by omega)
    rw [hG] at hh
    exact tail_any hd hreach next fuel k listed ⟨tmF, GB, nx + 64 * k⟩ a w ρ (Nat.le_refl _) (by omega) hsz (fun i => by
        by_cases hi : i < k
        · simp [hi, hall i hi]
        · simp [hi, hl i (by omega)]) hc htail
      ⟨hTF, hdf, hts, hh.zone (fun m (hm : nx + 64 * k ≤ m) => ⟨by omega, fun q i hq h1 h2 => by
        have : q < perm.length := (List.getElem?_eq_some_iff.1 hq).1
        omega⟩), hbl, he⟩
  intro fuel
  induction fuel with
  | zero =>
    intro listed a w ρ hf hsz hl hc hT hdf hts hh hbl he
    have hkz : k = ops.size := by have := cnt_le listed k; omega
    exact fin 0 listed a w ρ (by omega) (fun i hi => by
      cases hx : listed.getD i false with
      | true => rfl
      | false => have := cnt_lt k i hi hx; omega) hsz hl hc hT hdf hts hh hbl he
  | succ fuel ih =>
    intro listed a w ρ hf hsz hl hc hT hdf hts hh hbl he
    by_cases hall : ∀ i, i < k → listed.getD i false = true
    · exact fin (fuel + 1) listed a w ρ (by have := cnt_le listed k; omega) hall hsz hl hc hT hdf hts hh hbl he
    · simp only [Classical.not_forall] at hall
      obtain ⟨j0, hj0, hj0l⟩ := hall
      have hj0f : listed.getD j0 false = false := by simpa using hj0l
      refine ⟨fun hr => absurd hr (exists_ready hsz hk hb j0 j0 (Nat.le_refl _) hj0 hj0f), fun i hi => ?_⟩
      obtain ⟨h0, o, ho, hafter⟩ := mem_ready.1 hi
      obtain ⟨hil, hif⟩ := getD_true_false.1 h0
      have hik : i < k := by
        rcases Nat.lt_or_ge i k with h | h
        · exact h
        · exfalso
          have := reach_listed hc ops.size o j0 ((hreach i o h ho).1 j0 (by omega)) hafter
          rw [hj0f] at this
          cases this
      have hdN : ∀ t, o.dst = some t → t < a.tmps.size := fun t ht => by
        rw [hts]
        exact hd o (by obtain ⟨hlt, e⟩ := Array.getElem?_eq_some_iff.1 ho; rw [← e]; simp) t ht
      have hcl : Closed ops (listed.setIfInBounds i true) := fun x o' hx hlx e' he' hb' => by
        rw [getD_set hil] at hlx ⊢
        split
        · rfl
        · by_cases hxi : x = i
          · subst hxi
            rw [ho] at hx
            injection hx with hx
            subst hx
            exact hafter e' he' hb'
          · rw [if_neg hxi] at hlx
            exact hc x o' hx hlx e' he' hb'
      -- the slots behind the operation
      have htm : ∀ (ρ' : Names) (x : Value) (w' : World) (v : VV), (∀ t, o.dst = some t → tmF t = v) → VR ρ' w' v x → Ext ρ w ρ' w' → TM ρ' w' (tmQ ops (listed.setIfInBounds i true) k tm0 tmF) (a.put o.dst x) := by
        intro ρ' x w' v hv hvx he' t
        have hput := (hT.ext he').put hdN hvx t
        have e : V.put o.dst v (tmQ ops listed k tm0 tmF) t = tmQ ops (listed.setIfInBounds i true) k tm0 tmF t := by
          by_cases htd : o.dst = some t
          · have h1 : V.put o.dst v (tmQ ops listed k tm0 tmF) t = v := by rw [htd]; simp [V.put, upd_ap]
            rw [h1]
            unfold tmQ
            rw [if_neg]
            · exact (hv t htd).symm
            · intro e
              obtain ⟨j, h1, h2, o', ho', h3⟩ := pendB_true.1 e
              rw [getD_set hil] at h2
              split at h2
              · cases h2
              · rename_i hji
                have := hone i j t hik h1 (Ne.symm hji) (dstB_iff.2 ⟨o, ho, htd⟩)
                rw [dstB_iff.2 ⟨o', ho', h3⟩] at this
                cases this
          · have h1 : V.put o.dst v (tmQ ops listed k tm0 tmF) t = tmQ ops listed k tm0 tmF t := by
              cases hod : o.dst with
              | none => rfl
              | some d => simp only [V.put,upd_ap]; rw [if_neg (by intro e; rw [e] at htd; exact htd hod)]
            rw [h1]
            unfold tmQ
            have : pendB ops (listed.setIfInBounds i true) k t = pendB ops listed k t := by
              rw [Bool.eq_iff_iff, pendB_true, pendB_true]
              constructor
              · rintro ⟨j, h1, h2, o', ho', h3⟩
                rw [getD_set hil] at h2
                split at h2
                · cases h2
                · exact ⟨j, h1, h2, o', ho', h3⟩
              · rintro ⟨j, h1, h2, o', ho', h3⟩
                refine ⟨j, h1, ?_, o', ho', h3⟩
                rw [getD_set hil, if_neg]
                · exact h2
                · intro e; subst e; rw [ho] at ho'; injection ho' with ho'; subst ho'; exact htd h3
            rw [this]
        rw [e] at hput
        exact hput
      by_cases hjs : i = js
      · -- the store
        subst hjs
        obtain ⟨hdst, hg, t, y, x, hop, hev, hyx, hst⟩ := hS hik o ho
        have hev := hev listed hc hafter
        rw [if_neg (by rw [hif]; simp)] at hh
        have hst2 : vStore P (ev (tmQ ops listed k tm0 tmF)) GA 0 (fun v G n => v = .any ∧ G = GB ∧ n = 0) t y x := by
          unfold vStore at hst ⊢
          unfold onV at hst ⊢
          rw [hev y (hyx y (.inl rfl)), hev x (hyx x (.inr rfl))]
          exact hst
        have hr := store_sound hT hh t y x hop hst2
        have after : ∀ (ρ' : Names) (x : Value) (w' : World), HR (ZF (Fr2 nx perm listed)) B ρ' GB 0 w' → Ext ρ w ρ' w' → Below B w w' → wpAny P .any ops Q fuel (listed.setIfInBounds i true) (a.put o.dst x) w' := by
          intro ρ' x w' hh' he' hb'
          have hz := put_size a o.dst x
          refine ih _ _ _ ρ' ?_ (by simpa using hsz) (fun j hj => by rw [getD_set hil, if_neg (by omega)]; exact hl j hj) hcl ?_ (by rw [hz.2]; exact hdf) (by rw [hz.1]; exact hts) ?_ (hbl.trans hb') (he.trans he')
          · rw [cnt_set hil hif, if_pos hik]; omega
          · exact htm ρ' x w' .any (fun t ht => by rw [hdst] at ht; cases ht) (by simp [VR, VR1]) he'
          · rw [if_pos (by rw [getD_set hil, if_pos rfl])]
            refine hh'.zone fun m hm => ⟨hm.1, fun q j hq h1 h2 => ?_⟩
            have := hm.2 q j hq h1 h2
            rw [getD_set hil, if_neg (hpk q j hq).2] at this
            exact this
        have hw : (if Region.wanted o (yielded ops a.tmps) = true then o.wp P a w (wpAny P .any ops Q fuel (listed.setIfInBounds i true)) Q else wpAny P .any ops Q fuel (listed.setIfInBounds i true) (a.put o.dst undef) w) := by
          rw [if_pos (by simp [Region.wanted, hg])]
          unfold Oper.wp
          rcases hr with ⟨x, w', hr, hg⟩ | ⟨w', hr, hg⟩ | ⟨f, xs, hr, hcl'⟩
          · rw [hr]
            obtain ⟨v', H', n'', ρ', ⟨rfl, rfl, rfl⟩, h1, h2, h3, h4⟩ := hg
            exact after ρ' x w' h2 h3 h4
          · rw [hr]
            obtain ⟨v', H', n'', ρ', ⟨rfl, rfl, rfl⟩, h1, h2, h3, h4⟩ := hg
            exact after ρ' undef w' h2 h3 h4
          · rw [hr]
            refine Calls.mono hcl' fun e w' hee => ?_
            obtain ⟨x, rfl, v', H', n'', ρ', ⟨rfl, rfl, rfl⟩, h1, h2, h3, h4⟩ := hee
            exact after ρ' x w' h2 h3 h4
        unfold wpOp
        rw [ho]
        dsimp only
        split
        · rename_i hx; rw [if_pos hx] at hw; exact .inl hw
        · rename_i hx; rw [if_neg hx] at hw; exact hw
      -- another one
      obtain ⟨q, hq⟩ := hperm i hik hjs
      have hseen : ∀ t ∈ o.looksAt ops, tmQ ops listed k tm0 tmF t = env q t := fun t ht => henv q i o t hq ho ht listed hif hc hafter
      obtain ⟨G, hGe, hFi⟩ : ∃ G, (if listed.getD js false = true then GB else GA) = G ∧ Fact2 P ops.toList (env q) tmF G (nx + 64 * q) o := by
        by_cases hj : listed.getD js false = true
        · rw [if_pos hj]
          rcases hB q i o hq ho with ⟨oj, hoj, hr⟩ | h
          · exfalso
            have := reach_listed hc ops.size oj i hr (fun e he hb' => hc js oj hoj hj e he hb')
            rw [hif] at this
            cases this
          · exact ⟨GB, rfl, h⟩
        · rw [if_neg hj]
          exact ⟨GA, rfl, hA q i o hq ho⟩
      have hGe' : (if (listed.setIfInBounds i true).getD js false = true then GB else GA) = G := by
        rw [getD_set hil, if_neg (Ne.symm hjs)]
        exact hGe
      rw [hGe] at hh
      -- on behind the operation
      have go : ∀ (ρ' : Names) (x : Value) (w' : World) (v : VV) (n' : Nat), (∀ t, o.dst = some t → tmF t = v) → VR ρ' w' v x → HR (ZI (Fr2 nx perm listed) (nx + 64 * q)) B ρ' G n' w' → n' ≤ nx + 64 * q + 64 → Ext ρ w ρ' w' → Below B w w' →
          wpAny P .any ops Q fuel (listed.setIfInBounds i true) (a.put o.dst x) w' := by
        intro ρ' x w' v n' hv hvx hh' hn' he' hb'
        have hz := put_size a o.dst x
        refine ih _ _ _ ρ' ?_ (by simpa using hsz) (fun j hj => by rw [getD_set hil, if_neg (by omega)]; exact hl j hj) hcl (htm ρ' x w' v hv hvx he') (by rw [hz.2]; exact hdf) (by rw [hz.1]; exact hts) ?_ (hbl.trans hb') (he.trans he')
        · rw [cnt_set hil hif, if_pos hik]; omega
        · rw [hGe']
          refine hh'.zone fun m hm => .inr ⟨⟨hm.1, fun r j hr h1 h2 => ?_⟩, fun hc' => ?_⟩
          · have := hm.2 r j hr h1 h2
            rw [getD_set hil] at this
            split at this
            · cases this
            · exact this
          · have := hm.2 q i hq hc'.1 hc'.2
            rw [getD_set hil, if_pos rfl] at this
            cases this
      have hhI : HR (ZI (Fr2 nx perm listed) (nx + 64 * q)) B ρ G (nx + 64 * q) w := hh.zone fun m hm => by
        rcases hm with hm | hm
        · refine ⟨by omega, fun r j hr h1 h2 => ?_⟩
          have : r = q := by omega
          subst this
          rw [hq] at hr
          injection hr with hr
          subst hr
          exact hif
        · exact hm.1
      have run : Does2 P (env q) tmF G (nx + 64 * q) o → o.wp P a w (wpAny P .any ops Q fuel (listed.setIfInBounds i true)) Q := by
        rintro ⟨v, n', hv, hn1, hn2, hdo⟩
        have hop := hdo (ev (tmQ ops listed k tm0 tmF)) (fun v' H' n'' => v' = v ∧ H' = G ∧ n'' = n') (fun x hx => by
          cases x with
          | tmp t => exact hseen t (looks_operand hx)
          | _ => rfl) ⟨rfl, rfl, rfl⟩
        have hr := vopH_sound (Z := ZI (Fr2 nx perm listed) (nx + 64 * q)) hT hhI (fun v' H' n'' h1 h2 => (⟨Nat.le_refl _, by omega⟩ : nx + 64 * q ≤ nx + 64 * q ∧ nx + 64 * q < nx + 64 * q + 64)) hop
        unfold Oper.wp
        rcases hr with ⟨x, w', hr, hg⟩ | ⟨w', hr, hg⟩ | ⟨f, xs, hr, hcl'⟩
        · rw [hr]
          obtain ⟨v', H', n'', ρ', ⟨rfl, rfl, rfl⟩, h1, h2, h3, h4⟩ := hg
          exact go ρ' x w' v' n'' hv h1 h2 hn2 h3 h4
        · rw [hr]
          obtain ⟨v', H', n'', ρ', ⟨rfl, rfl, rfl⟩, h1, h2, h3, h4⟩ := hg
          exact go ρ' undef w' v' n'' hv h1 h2 hn2 h3 h4
        · rw [hr]
          refine Calls.mono hcl' fun e w' hee => ?_
          obtain ⟨x, rfl, v', H', n'', ρ', ⟨rfl, rfl, rfl⟩, h1, h2, h3, h4⟩ := hee
          exact go ρ' x w' v' n'' hv h1 h2 hn2 h3 h4
      have skip : (∀ t, o.dst = some t → tmF t = .raw undef) → wpAny P .any ops Q fuel (listed.setIfInBounds i true) (a.put o.dst undef) w := fun hv =>
        go ρ undef w (.raw undef) (nx + 64 * q) hv (by simp [VR, VR1, C1]) hhI (by omega) (Ext.refl _ _) (Below.refl _ _)
      have hst : if Region.wanted o (yielded ops a.tmps) = true then o.wp P a w (wpAny P .any ops Q fuel (listed.setIfInBounds i true)) Q else wpAny P .any ops Q fuel (listed.setIfInBounds i true) (a.put o.dst undef) w := by
        rcases hFi with ⟨hg, hdo⟩ | ⟨g, want, d, hg, hdg, hrest⟩
        · rw [if_pos (by simp [Region.wanted, hg])]
          exact run hdo
        · have hTd := hT d
          rw [hseen d (looks_guard hg hdg)] at hTd
          have hyd : yielded ops a.tmps g = match a.tmps[d]? with | some (.bool b) => some b | _ => none := by
            unfold yielded
            rw [dstAt_eq, Array.getElem?_toList] at hdg
            rw [hdg]
            simp only [Option.bind_some]
            rfl
          have hbool : ∀ b, env q d = .bool b → Region.wanted o (yielded ops a.tmps) = (b == want) := fun b hb2 => by
            rw [hb2] at hTd
            have hx := hTd.bool
            have hbd : a.tmps[d]? = some (.bool b) := by
              rw [Array.getD_eq_getD_getElem?] at hx
              cases hy : a.tmps[d]? with
              | none => rw [hy] at hx; simp [undef] at hx
              | some y => rw [hy] at hx; simp at hx; rw [hx]
            simp only [Region.wanted,hg,hyd,hbd]
            cases b <;> cases want <;> rfl
          rcases hrest with ⟨hdv, hdo⟩ | ⟨hdv, hu⟩
          · rw [hbool want hdv, if_pos (by simp)]
            exact run hdo
          · have hw : Region.wanted o (yielded ops a.tmps) = false := by
              rcases hdv with hdv | hdv
              · rw [hbool _ hdv]; cases want <;> rfl
              · rw [hdv] at hTd
                have hx : a.tmps.getD d undef = undef := by simpa [VR, VR1, C1] using hTd
                simp only [Region.wanted,hg,hyd]
                rw [Array.getD_eq_getD_getElem?] at hx
                cases hy : a.tmps[d]? with
                | none => cases want <;> rfl
                | some y =>
                  rw [hy] at hx
                  simp only [Option.getD_some] at hx
                  subst hx
                  cases want <;> rfl
            rw [hw, if_neg (by simp)]
            exact skip hu
      unfold wpOp
      rw [ho]
      dsimp only
      split
      · rename_i hw; rw [if_pos hw] at hst; exact .inl hst
      · rename_i hw; rw [if_neg hw] at hst; exact hst
end
end Go.Proofs.Ytndbfphmjmhkjaa.V
