/-
  Parts of the proof of ParityJoins: VregT, A2, A3, A4, A5.
  Conditions: none.
-/
import Derived.Test.YtoibnghkcdopeaaWParityJoins05
import Derived.Test.YtoibnghkcdopeaaWParityJoins03
set_option linter.unusedVariables false
set_option linter.unusedSimpArgs false
set_option linter.unusedSectionVars false
set_option linter.defProp false
section
namespace Go.Proofs.Ytoibnghkcdopeaa.V
open Go Go.RowKit

def stF (m : Nat) (l : List (Nat × Blk)) (G : Heap) : Heap := l.foldl (fun G e => upd G m (some e.2)) G
def hpL (m : Nat) : List (Nat × Blk) → Heap → (Nat → Bool) → Heap
  | [], G, _ => G
  | e :: l, G, f => if f e.1 = true then hpL m l (upd G m (some e.2)) f else G
theorem hpL_cons {m : Nat} (e : Nat × Blk) (l : List (Nat × Blk)) (G : Heap) (f : Nat → Bool) : hpL m (e :: l) G f = if f e.1 = true then hpL m l (upd G m (some e.2)) f else G := rfl
theorem hpL_congr {m : Nat} {f g : Nat → Bool} : ∀ (l : List (Nat × Blk)) (G : Heap), (∀ e ∈ l, f e.1 = g e.1) → hpL m l G f = hpL m l G g
  | [], _, _ => rfl
  | e :: l, G, h => by
    rw [hpL_cons, hpL_cons, h e (by simp), hpL_congr l _ fun a ha => h a (by simp [ha])]
theorem hpL_mid {m : Nat} (f : Nat → Bool) : ∀ (pre l : List (Nat × Blk)) (G : Heap), (∀ e ∈ pre, f e.1 = true) → hpL m (pre ++ l) G f = hpL m l (stF m pre G) f
  | [], _, _, _ => rfl
  | e :: pre, l, G, h => by
    rw [List.cons_append, hpL_cons, if_pos (h e (by simp)), hpL_mid f pre l _ fun a ha => h a (by simp [ha])]
    rfl
theorem hpL_none {m : Nat} (l : List (Nat × Blk)) (G : Heap) (f : Nat → Bool) (h : ∀ a, l.head? = some a → f a.1 = false) : hpL m l G f = G := by
  cases l with
  | nil => rfl
  | cons e l => rw [hpL_cons, if_neg (by rw [h e rfl]; simp)]
theorem hpL_all {m : Nat} : ∀ (l : List (Nat × Blk)) (G : Heap), hpL m l G (fun _ => true) = stF m l G
  | [], _ => rfl
  | e :: l, G => by rw [hpL_cons, if_pos rfl, hpL_all l]; rfl
theorem hpL_pre {m : Nat} (f : Nat → Bool) : ∀ (l : List (Nat × Blk)) (G : Heap), ∃ pre post, l = pre ++ post ∧ hpL m l G f = stF m pre G
  | [], G => ⟨[], [], rfl, rfl⟩
  | e :: l, G => by
    rw [hpL_cons]
    split
    · obtain ⟨pre, post, h1, h2⟩ := hpL_pre f l (upd G m (some e.2))
      exact ⟨e :: pre, post, by rw [h1]; rfl, h2⟩
    · exact ⟨[], e :: l, rfl, rfl⟩
def ordB (ops : Array Oper) : List Nat → Bool
  | [] => true
  | j :: l => (l.all fun i => opD ops i fun o => reachC ops ops.size o j) && ordB ops l
theorem ordB_pre {ops : Array Oper} : ∀ {js pre : List Nat} {e : Nat} {post : List Nat}, ordB ops js = true → js = pre ++ e :: post → ∀ a ∈ pre, opD ops e (fun o => reachC ops ops.size o a) = true
  | js, [], e, post, _, _, a, ha => by cases ha
  | js, p :: pre, e, post, h, hj, a, ha => by
    subst hj
    simp only [List.cons_append,ordB,Bool.and_eq_true,List.all_eq_true] at h
    rcases List.mem_cons.1 ha with rfl | ha
    · exact h.1 e (by simp)
    · exact ordB_pre h.2 rfl a ha
def drawOk4 (ops : Array Oper) (k : Nat) (perm js : List Nat) : Bool := drawOk3 ops k perm (js.map fun j => (j, perm.length)) && decide js.Nodup && ordB ops js
section
variable {P : Program} {N : NN} {B : Nat} {ρ0 : Names} {w0 : World} {ops : Array Oper} {k nx : Nat} {js : List Nat} {hp : (Nat → Bool) → Heap} {perm : List Nat} {tm0 tmF : Nat → VV} {env : Nat → Nat → VV} {K : VS → Prop} {Q : Exit → Act → World → Prop}
theorem head4 (hk9 : k ≤ ops.size ∧ ops.size ≤ 1000000) (hd : ∀ o ∈ ops.toList, ∀ t, o.dst = some t → t < N)
    (hreach : ∀ j o, k ≤ j → ops[j]? = some o → (∀ i, i < j → reachB ops ops.size o i = true) ∧ ∀ e ∈ o.after, Region.binds .any e = true → e.on < j)
    (hb : ∀ j o, j < k → ops[j]? = some o → ∀ e ∈ o.after, Region.binds .any e = true → e.on < j)
    (hperm : ∀ i, i < k → (∀ e ∈ js, e ≠ i) → ∃ q : Nat, perm[q]? = some i)
    (hpk : ∀ (q : Nat) i, perm[q]? = some i → i < k ∧ ∀ e ∈ js, e ≠ i)
    (hpl : perm.length ≤ k)
    (huniq : ∀ (q r : Nat) i, perm[q]? = some i → perm[r]? = some i → q = r)
    (hone : ∀ i j t, i < k → j < k → i ≠ j → dstB ops i t = true → dstB ops j t = false)
    (henv : ∀ (q : Nat) i o t, perm[q]? = some i → ops[i]? = some o → t ∈ o.looksAt ops → ∀ listed, listed.getD i false = false → Closed ops listed → (∀ e ∈ o.after, Region.binds .any e = true → listed.getD e.on false = true) → tmQ ops listed k tm0 tmF t = env q t)
    (hsk : ∀ e ∈ js, e < k)
    (hpc : ∀ {f g : Nat → Bool}, (∀ e ∈ js, f e = g e) → hp f = hp g)
    (hF : ∀ (q : Nat) i o, perm[q]? = some i → ops[i]? = some o → ∀ listed : Array Bool, listed.getD i false = false → Closed ops listed → Fact2 P ops.toList (env q) tmF (hp fun j => listed.getD j false) (nx + 64 * q) o)
    (hS : ∀ e ∈ js, ∀ o, ops[e]? = some o → o.dst = none ∧ o.guard = none ∧ ∃ t y x, o.op = .store t y x ∧ (∀ listed, Closed ops listed → (∀ e ∈ o.after, Region.binds .any e = true → listed.getD e.on false = true) → ∀ z ∈ o.op.operands.toList, ev (tmQ ops listed k tm0 tmF) z = ev tmF z) ∧ (∀ z, z = y ∨ z = x → z ∈ o.op.operands.toList) ∧
      ∀ listed : Array Bool, e < listed.size → listed.getD e false = false → Closed ops listed → (∀ e ∈ o.after, Region.binds .any e = true → listed.getD e.on false = true) → vStore P (ev tmF) (hp fun j => listed.getD j false) 0 (fun v G n => v = .any ∧ (G = hp fun j => (listed.setIfInBounds e true).getD j false) ∧ n = 0) t y x)
    (htail : vlist P ops.toList (ops.toList.drop k) ⟨tmF, hp fun _ => true, nx + 64 * k⟩ K)
    (next : ∀ S' a' w' ρ', K S' → SR N B ρ0 w0 S' a' w' ρ' → Q .normal a' w') :
    ∀ (fuel : Nat) (listed : Array Bool) (a : Act) (w : World) (ρ : Names), ops.size ≤ cnt listed k + fuel → listed.size = ops.size → (∀ i, k ≤ i → listed.getD i false = false) → Closed ops listed →
      TM ρ w (tmQ ops listed k tm0 tmF) a → a.defers = N.ds → a.tmps.size = N → HR (ZF (Fr2 nx perm listed)) B ρ (hp fun j => listed.getD j false) 0 w → Below B w0 w → Ext ρ0 w0 ρ w → wpAny P .any ops Q fuel listed a w := by
  have fin : ∀ (fuel : Nat) (listed : Array Bool) (a : Act) (w : World) (ρ : Names), ops.size ≤ k + fuel → (∀ i, i < k → listed.getD i false = true) → listed.size = ops.size → (∀ i, k ≤ i → listed.getD i false = false) → Closed ops listed →
      TM ρ w (tmQ ops listed k tm0 tmF) a → a.defers = N.ds → a.tmps.size = N → HR (ZF (Fr2 nx perm listed)) B ρ (hp fun j => listed.getD j false) 0 w → Below B w0 w → Ext ρ0 w0 ρ w → wpAny P .any ops Q fuel listed a w := by
    intro fuel listed a w ρ hf hall hsz hl hc hT hdf hts hh hbl he
    have hTF : TM ρ w tmF a := fun t => by
      have := hT t
      unfold tmQ at this
      rw [if_neg (by intro e; obtain ⟨j, h1, h2, _⟩ := pendB_true.1 e; rw [hall j h1] at h2; cases h2)] at this
      exact this
    have hG : (hp fun j => listed.getD j false) = hp fun _ => true := hpc fun e he => hall e (hsk e he)
    rw [hG] at hh
    exact tail_any hd hreach next fuel k listed ⟨tmF, hp fun _ => true, nx + 64 * k⟩ a w ρ (Nat.le_refl _) (by omega) hsz (fun i => by
        by_cases hi : i < k
        · simp [hi, hall i hi]
        · simp [hi, hl i (by omega)]) hc htail
      ⟨hTF, hdf, hts, hh.zone (fun m (hm : nx + 64 * k ≤ m) => ⟨by omega, fun q i hq h1 h2 => by
        have : q < perm.length := (List.getElem?_eq_some_iff.1 hq).1
        omega⟩), hbl, he⟩
  obtain ⟨hk, hsm⟩ := hk9
  intro fuel
  induction fuel with
  | zero =>
    intro listed a w ρ hf hsz hl hc hT hdf hts hh hbl he
    have hkz : k = ops.size := by have := cnt_le listed k; omega
    exact fin 0 listed a w ρ (by omega) (fun i hi => by
      cases hx : listed.getD i false with
      | true => rfl
      | false => have := cnt_lt k i hi hx; omega) hsz hl hc hT hdf hts hh hbl he
  | succ fuel ih =>
    intro listed a w ρ hf hsz hl hc hT hdf hts hh hbl he
    by_cases hall : ∀ i, i < k → listed.getD i false = true
    · exact fin (fuel + 1) listed a w ρ (by have := cnt_le listed k; omega) hall hsz hl hc hT hdf hts hh hbl he
    · simp only [Classical.not_forall] at hall
      obtain ⟨j0, hj0, hj0l⟩ := hall
      have hj0f : listed.getD j0 false = false := by simpa using hj0l
      refine ⟨fun hr => absurd hr (exists_ready hsz hk hb j0 j0 (Nat.le_refl _) hj0 hj0f), fun i hi => ?_⟩
      obtain ⟨h0, o, ho, hafter⟩ := mem_ready.1 hi
      obtain ⟨hil, hif⟩ := getD_true_false.1 h0
      have hik : i < k := by
        rcases Nat.lt_or_ge i k with h | h
        · exact h
        · exfalso
          have := reach_listed hc ops.size o j0 ((hreach i o h ho).1 j0 (by omega)) hafter
          rw [hj0f] at this
          cases this
      have hdN : ∀ t, o.dst = some t → t < a.tmps.size := fun t ht => by
        rw [hts]
        exact hd o (by obtain ⟨hlt, e⟩ := Array.getElem?_eq_some_iff.1 ho; rw [← e]; simp) t ht
      have hcl : Closed ops (listed.setIfInBounds i true) := fun x o' hx hlx e' he' hb' => by
        rw [getD_set hil] at hlx ⊢
        split
        · rfl
        · by_cases hxi : x = i
          · subst hxi
            rw [ho] at hx
            injection hx with hx
            subst hx
            exact hafter e' he' hb'
          · rw [if_neg hxi] at hlx
            exact hc x o' hx hlx e' he' hb'
      -- the slots behind the operation
      have htm : ∀ (ρ' : Names) (x : Value) (w' : World) (v : VV), (∀ t, o.dst = some t → tmF t = v) → VR ρ' w' v x → Ext ρ w ρ' w' → TM ρ' w' (tmQ ops (listed.setIfInBounds i true) k tm0 tmF) (a.put o.dst x) := by
        intro ρ' x w' v hv hvx he' t
        have hput := (hT.ext he').put hdN hvx t
        have e : V.put o.dst v (tmQ ops listed k tm0 tmF) t = tmQ ops (listed.setIfInBounds i true) k tm0 tmF t := by
          by_cases htd : o.dst = some t
          · have h1 : V.put o.dst v (tmQ ops listed k tm0 tmF) t = v := by rw [htd]; simp [V.put, upd_ap]
            rw [h1]
            unfold tmQ
            rw [if_neg]
            · exact (hv t htd).symm
            · intro e
              obtain ⟨j, h1, h2, o', ho', h3⟩ := pendB_true.1 e
              rw [getD_set hil] at h2
              split at h2
              · cases h2
              · rename_i hji
                have := hone i j t hik h1 (Ne.symm hji) (dstB_iff.2 ⟨o, ho, htd⟩)
                rw [dstB_iff.2 ⟨o', ho', h3⟩] at this
                cases this
          · have h1 : V.put o.dst v (tmQ ops listed k tm0 tmF) t = tmQ ops listed k tm0 tmF t := by
              cases hod : o.dst with
              | none => rfl
              | some d => simp only [V.put,upd_ap]; rw [if_neg (by intro e; rw [e] at htd; exact htd hod)]
            rw [h1]
            unfold tmQ
            have : pendB ops (listed.setIfInBounds i true) k t = pendB ops listed k t := by
              rw [Bool.eq_iff_iff, pendB_true, pendB_true]
              constructor
              · rintro ⟨j, h1, h2, o', ho', h3⟩
                rw [getD_set hil] at h2
                split at h2
                · cases h2
                · exact ⟨j, h1, h2, o', ho', h3⟩
              · rintro ⟨j, h1, h2, o', ho', h3⟩
                refine ⟨j, h1, ?_, o', ho', h3⟩
                rw [getD_set hil, if_neg]
                · exact h2
                · intro e; subst e; rw [ho] at ho'; injection ho' with ho'; subst ho'; exact htd h3
            rw [this]
        rw [e] at hput
        exact hput
      by_cases hjs : ∃ e ∈ js, e = i
      · -- a store
        obtain ⟨e, hes, rfl⟩ := hjs
        obtain ⟨hdst, hg, t, y, x, hop, hev, hyx, hst⟩ := hS e hes o ho
        have hst := hst listed hil hif hc hafter
        have hev := hev listed hc hafter
        obtain ⟨GB, hGB⟩ : ∃ GB, GB = hp fun j => (listed.setIfInBounds e true).getD j false := ⟨_, rfl⟩
        have hset := hGB.symm
        rw [← hGB] at hst
        have hst2 : vStore P (ev (tmQ ops listed k tm0 tmF)) (hp fun j => listed.getD j false) 0 (fun v G n => v = .any ∧ G = GB ∧ n = 0) t y x := by
          unfold vStore at hst ⊢
          unfold onV at hst ⊢
          rw [hev y (hyx y (.inl rfl)), hev x (hyx x (.inr rfl))]
          exact hst
        have hr := store_sound hT hh t y x hop hst2
        have after : ∀ (ρ' : Names) (x : Value) (w' : World), HR (ZF (Fr2 nx perm listed)) B ρ' GB 0 w' → Ext ρ w ρ' w' → Below B w w' → wpAny P .any ops Q fuel (listed.setIfInBounds e true) (a.put o.dst x) w' := by
          intro ρ' x w' hh' he' hb'
          have hz := put_size a o.dst x
          refine ih _ _ _ ρ' ?_ (by simpa using hsz) (fun j hj => by rw [getD_set hil, if_neg (by omega)]; exact hl j hj) hcl ?_ (by rw [hz.2]; exact hdf) (by rw [hz.1]; exact hts) ?_ (hbl.trans hb') (he.trans he')
          · rw [cnt_set hil hif, if_pos hik]; omega
          · exact htm ρ' x w' .any (fun t ht => by rw [hdst] at ht; cases ht) (by simp [VR, VR1]) he'
          · rw [hset]
            refine hh'.zone fun m hm => ⟨hm.1, fun q j hq h1 h2 => ?_⟩
            have := hm.2 q j hq h1 h2
            rw [getD_set hil, if_neg (fun h => (hpk q j hq).2 e hes h.symm)] at this
            exact this
        have hw : (if Region.wanted o (yielded ops a.tmps) = true then o.wp P a w (wpAny P .any ops Q fuel (listed.setIfInBounds e true)) Q else wpAny P .any ops Q fuel (listed.setIfInBounds e true) (a.put o.dst undef) w) := by
          rw [if_pos (by simp [Region.wanted, hg])]
          unfold Oper.wp
          rcases hr with ⟨x, w', hr, hg⟩ | ⟨w', hr, hg⟩ | ⟨f, xs, hr, hcl'⟩
          · rw [hr]
            obtain ⟨v', H', n'', ρ', ⟨rfl, rfl, rfl⟩, h1, h2, h3, h4⟩ := hg
            exact after ρ' x w' h2 h3 h4
          · rw [hr]
            obtain ⟨v', H', n'', ρ', ⟨rfl, rfl, rfl⟩, h1, h2, h3, h4⟩ := hg
            exact after ρ' undef w' h2 h3 h4
          · rw [hr]
            refine Calls.mono hcl' fun e w' hee => ?_
            obtain ⟨x, rfl, v', H', n'', ρ', ⟨rfl, rfl, rfl⟩, h1, h2, h3, h4⟩ := hee
            exact after ρ' x w' h2 h3 h4
        unfold wpOp
        rw [ho]
        dsimp only
        split
        · rename_i hx; rw [if_pos hx] at hw; exact .inl hw
        · rename_i hx; rw [if_neg hx] at hw; exact hw
      -- another one
      obtain ⟨q, hq⟩ := hperm i hik fun e he h => hjs ⟨e, he, h⟩
      have hseen : ∀ t ∈ o.looksAt ops, tmQ ops listed k tm0 tmF t = env q t := fun t ht => henv q i o t hq ho ht listed hif hc hafter
      obtain ⟨G, hGe⟩ : ∃ G, G = hp fun j => listed.getD j false := ⟨_, rfl⟩
      have hFi : Fact2 P ops.toList (env q) tmF G (nx + 64 * q) o := by rw [hGe]; exact hF q i o hq ho listed hif hc
      have hGe' : (hp fun j => (listed.setIfInBounds i true).getD j false) = G := by
        rw [hGe]
        exact hpc fun e he => by rw [getD_set hil, if_neg (fun h => hjs ⟨e, he, h⟩)]
      rw [← hGe] at hh
      -- on behind the operation
      have go : ∀ (ρ' : Names) (x : Value) (w' : World) (v : VV) (n' : Nat), (∀ t, o.dst = some t → tmF t = v) → VR ρ' w' v x → HR (ZI (Fr2 nx perm listed) (nx + 64 * q)) B ρ' G n' w' → n' ≤ nx + 64 * q + 64 → Ext ρ w ρ' w' → Below B w w' →
          wpAny P .any ops Q fuel (listed.setIfInBounds i true) (a.put o.dst x) w' := by
        intro ρ' x w' v n' hv hvx hh' hn' he' hb'
        have hz := put_size a o.dst x
        refine ih _ _ _ ρ' ?_ (by simpa using hsz) (fun j hj => by rw [getD_set hil, if_neg (by omega)]; exact hl j hj) hcl (htm ρ' x w' v hv hvx he') (by rw [hz.2]; exact hdf) (by rw [hz.1]; exact hts) ?_ (hbl.trans hb') (he.trans he')
        · rw [cnt_set hil hif, if_pos hik]; omega
        · rw [hGe']
          refine hh'.zone fun m hm => .inr ⟨⟨hm.1, fun r j hr h1 h2 => ?_⟩, fun hc' => ?_⟩
          · have := hm.2 r j hr h1 h2
            rw [getD_set hil] at this
            split at this
            · cases this
            · exact this
          · have := hm.2 q i hq hc'.1 hc'.2
            rw [getD_set hil, if_pos rfl] at this
            cases this
      have hhI : HR (ZI (Fr2 nx perm listed) (nx + 64 * q)) B ρ G (nx + 64 * q) w := hh.zone fun m hm => by
        rcases hm with hm | hm
        · refine ⟨by omega, fun r j hr h1 h2 => ?_⟩
          have : r = q := by omega
          subst this
          rw [hq] at hr
          injection hr with hr
          subst hr
          exact hif
        · exact hm.1
      have run : Does2 P (env q) tmF G (nx + 64 * q) o → o.wp P a w (wpAny P .any ops Q fuel (listed.setIfInBounds i true)) Q := by
        rintro ⟨v, n', hv, hn1, hn2, hdo⟩
        have hop := hdo (ev (tmQ ops listed k tm0 tmF)) (fun v' H' n'' => v' = v ∧ H' = G ∧ n'' = n') (fun x hx => by
          cases x with
          | tmp t => exact hseen t (looks_operand hx)
          | _ => rfl) ⟨rfl, rfl, rfl⟩
        have hr := vopH_sound (Z := ZI (Fr2 nx perm listed) (nx + 64 * q)) hT hhI (fun v' H' n'' h1 h2 => (⟨Nat.le_refl _, by omega⟩ : nx + 64 * q ≤ nx + 64 * q ∧ nx + 64 * q < nx + 64 * q + 64)) (fun m hm => hh.fresh m ⟨by omega, fun r j hr h1 h2 => by have := (List.getElem?_eq_some_iff.1 hr).1; omega⟩) hop
        unfold Oper.wp
        rcases hr with ⟨x, w', hr, hg⟩ | ⟨w', hr, hg⟩ | ⟨f, xs, hr, hcl'⟩
        · rw [hr]
          obtain ⟨v', H', n'', ρ', ⟨rfl, rfl, rfl⟩, h1, h2, h3, h4⟩ := hg
          exact go ρ' x w' v' n'' hv h1 h2 hn2 h3 h4
        · rw [hr]
          obtain ⟨v', H', n'', ρ', ⟨rfl, rfl, rfl⟩, h1, h2, h3, h4⟩ := hg
          exact go ρ' undef w' v' n'' hv h1 h2 hn2 h3 h4
        · rw [hr]
          refine Calls.mono hcl' fun e w' hee => ?_
          obtain ⟨x, rfl, v', H', n'', ρ', ⟨rfl, rfl, rfl⟩, h1, h2, h3, h4⟩ := hee
          exact go ρ' x w' v' n'' hv h1 h2 hn2 h3 h4
      have skip : (∀ t, o.dst = some t → tmF t = .raw undef) → wpAny P .any ops Q fuel (listed.setIfInBounds i true) (a.put o.dst undef) w := fun hv =>
        go ρ undef w (.raw undef) (nx + 64 * q) hv (by simp [VR, VR1, C1]) hhI (by omega) (Ext.refl _ _) (Below.refl _ _)
      have hst : if Region.wanted o (yielded ops a.tmps) = true then o.wp P a w (wpAny P .any ops Q fuel (listed.setIfInBounds i true)) Q else wpAny P .any ops Q fuel (listed.setIfInBounds i true) (a.put o.dst undef) w := by
        rcases hFi with ⟨hg, hdo⟩ | ⟨g, want, d, hg, hdg, hrest⟩
        · rw [if_pos (by simp [Region.wanted, hg])]
          exact run hdo
        · have hTd := hT d
          rw [hseen d (looks_guard hg hdg)] at hTd
          have hyd : yielded ops a.tmps g = match a.tmps[d]? with | some (.bool b) => some b | _ => none := by
            unfold yielded
            rw [dstAt_eq, Array.getElem?_toList] at hdg
            rw [hdg]
            simp only [Option.bind_some]
            rfl
          have hbool : ∀ b, env q d = .bool b → Region.wanted o (yielded ops a.tmps) = (b == want) := fun b hb2 => by
            rw [hb2] at hTd
            have hx := hTd.bool
            have hbd : a.tmps[d]? = some (.bool b) := by
              rw [Array.getD_eq_getD_getElem?] at hx
              cases hy : a.tmps[d]? with
              | none => rw [hy] at hx; simp [undef] at hx
              | some y => rw [hy] at hx; simp at hx; rw [hx]
            simp only [Region.wanted,hg,hyd,hbd]
            cases b <;> cases want <;> rfl
          rcases hrest with ⟨hdv, hdo⟩ | ⟨hdv, hu⟩
          · rw [hbool want hdv, if_pos (by simp)]
            exact run hdo
          · have hw : Region.wanted o (yielded ops a.tmps) = false := by
              rcases hdv with hdv | hdv
              · rw [hbool _ hdv]; cases want <;> rfl
              · rw [hdv] at hTd
                have hx : a.tmps.getD d undef = undef := by simpa [VR, VR1, C1] using hTd
                simp only [Region.wanted,hg,hyd]
                rw [Array.getD_eq_getD_getElem?] at hx
                cases hy : a.tmps[d]? with
                | none => cases want <;> rfl
                | some y =>
                  rw [hy] at hx
                  simp only [Option.getD_some] at hx
                  subst hx
                  cases want <;> rfl
            rw [hw, if_neg (by simp)]
            exact skip hu
      unfold wpOp
      rw [ho]
      dsimp only
      split
      · rename_i hw; rw [if_pos hw] at hst; exact .inl hst
      · rename_i hw; rw [if_neg hw] at hst; exact hst
end
section
variable {P : Program} {ops : Array Oper} {k : Nat} {perm js : List Nat} {K : VS → Prop}
theorem region4 {S : VS} (hm : P.follows .mixedOrders = true) (hfr : ∀ m, S.nx ≤ m → S.hp m = none) (hok : drawOk4 ops k perm js = true) {tmF : Nat → VV} {GA : Heap}
    (hsame : ∀ t, (∀ o ∈ picks ops.toList perm, o.dst ≠ some t) → tmF t = S.tm t)
    (hnm : ∀ m, m < S.nx → GA m = S.hp m) (m : Nat) (sts : List (Nat × Blk)) (hjs : sts.map (·.1) = js)
    (hF : ∀ (q : Nat) o, (picks ops.toList perm)[q]? = some o → ∀ pre post, sts = pre ++ post → Fact2 P ops.toList (rd2 (picks ops.toList perm) q S.tm tmF) tmF (stF m pre GA) (S.nx + 64 * q) o)
    (hS : ∀ pre e post, sts = pre ++ e :: post → ∀ o t y x, ops[e.1]? = some o → o.op = .store t y x → vStore P (ev tmF) (stF m pre GA) 0 (fun v G n => v = .any ∧ G = upd (stF m pre GA) m (some e.2) ∧ n = 0) t y x)
    (htail : vlist P ops.toList (ops.toList.drop k) ⟨tmF, stF m sts GA, S.nx + 64 * k⟩ K) : vdraw P ops S K := by
  intro id N B ρ0 w0 Q a w ρ hd hT hdf hts hh hbl he next
  unfold drawOk4 at hok
  simp only [Bool.and_eq_true,decide_eq_true_eq] at hok
  obtain ⟨⟨hok, hnd⟩, hord⟩ := hok
  have hs1 : ∀ e ∈ js, ∃ s ∈ js.map (fun j => (j, perm.length)), s.1 = e := fun e he => ⟨_, List.mem_map.2 ⟨e, he, rfl⟩, rfl⟩
  have hs2 : ∀ s ∈ js.map (fun j => (j, perm.length)), ∃ e ∈ js, e = s.1 := fun s hs => by
    obtain ⟨j, hj, rfl⟩ := List.mem_map.1 hs
    exact ⟨j, hj, rfl⟩
  generalize js.map (fun j => (j, perm.length)) = ss at hok hs1 hs2
  unfold drawOk3 at hok
  simp only [Bool.and_eq_true,decide_eq_true_eq] at hok
  obtain ⟨⟨⟨⟨⟨⟨⟨⟨⟨hk9, hpl⟩, hone⟩, hpk⟩, hun⟩, hall⟩, hbk⟩, hrd⟩, hst⟩, htl⟩ := hok
  have hk := hk9.1
  have rep : ∀ i, (Array.replicate ops.size false).getD i false = false := fun i => by
    rw [Array.getD_eq_getD_getElem?, Array.getElem?_replicate]
    split <;> rfl
  have hpk1 : ∀ (q : Nat) i, perm[q]? = some i → i < k ∧ ∀ s ∈ ss, s.1 ≠ i := fun q i hq => by
    have := (List.all_eq_true.1 hpk) i (List.mem_of_getElem? hq)
    simp only [Bool.and_eq_true,decide_eq_true_eq,List.all_eq_true,bne_iff_ne] at this
    exact ⟨this.1, fun s hs e => this.2 s hs e.symm⟩
  have hpk' : ∀ (q : Nat) i, perm[q]? = some i → i < k ∧ ∀ e ∈ js, e ≠ i := fun q i hq => ⟨(hpk1 q i hq).1, fun e he h => by
    obtain ⟨s, hs, h'⟩ := hs1 e he
    exact (hpk1 q i hq).2 s hs (h'.trans h)⟩
  have hlt : ∀ i ∈ perm, i < ops.toList.length := fun i hi => by
    obtain ⟨q, hq, e⟩ := List.mem_iff_getElem.1 hi
    have := (hpk' q i (by rw [List.getElem?_eq_getElem hq, e])).1
    rw [Array.length_toList]; omega
  have hget : ∀ (q i : Nat) o, perm[q]? = some i → ops[i]? = some o → (picks ops.toList perm)[q]? = some o := fun q i o hq ho => by
    rw [picks_get _ _ hlt, hq]
    simpa using ho
  have hgetD : ∀ (q i : Nat), perm[q]? = some i → perm.getD q 0 = i := fun q i hq => by
    rw [List.getD_eq_getElem?_getD, hq]; rfl
  have hql : ∀ (q i : Nat), perm[q]? = some i → q < perm.length := fun q i hq => (List.getElem?_eq_some_iff.1 hq).1
  have hsome : ∀ i, i < k → ∃ o, ops[i]? = some o := fun i hi => ⟨ops[i], by simp [show i < ops.size by omega]⟩
  have hperm : ∀ i, i < k → (∀ e ∈ js, e ≠ i) → ∃ q : Nat, perm[q]? = some i := fun i hi hne => by
    have := (List.all_eq_true.1 hall) i (List.mem_range.2 hi)
    simp only [Bool.or_eq_true,List.any_eq_true,beq_iff_eq] at this
    rcases this with ⟨s, hs, h⟩ | h
    · obtain ⟨e, he, h'⟩ := hs2 s hs
      exact absurd (h'.trans h) (hne e he)
    · obtain ⟨q, hq, e⟩ := List.mem_iff_getElem.1 (List.contains_iff_mem.1 h)
      exact ⟨q, by rw [List.getElem?_eq_getElem hq, e]⟩
  have hstore : ∀ s ∈ ss, s.1 < k ∧ ∃ o, ops[s.1]? = some o ∧ o.dst = none ∧ o.guard = none ∧ isSt o.op = true ∧ (∀ t ∈ o.looksAt ops, ∀ j, j < k → dstB ops j t = true → reachB ops ops.size o j = true) ∧ ∀ (q i : Nat), perm[q]? = some i → s.2 ≤ q → reachB ops ops.size o i = true := fun s hs => by
    have h := (List.all_eq_true.1 hst) s hs
    simp only [Bool.and_eq_true,decide_eq_true_eq] at h
    obtain ⟨hjk, h⟩ := h
    obtain ⟨o, ho, h⟩ := opD_some h
    simp only [Bool.and_eq_true,beq_iff_eq] at h
    obtain ⟨⟨⟨⟨h1, h2⟩, h3⟩, h4⟩, h5⟩ := h
    refine ⟨hjk, o, ho, h1, h2, h3, fun t ht j hj hdj => ?_, fun q i hq hqq => ?_⟩
    · have := (List.all_eq_true.1 ((List.all_eq_true.1 h4) t ht)) j (List.mem_range.2 hj)
      rw [hdj] at this
      exact reachC_B _ _ _ (by simpa using this)
    · have := (List.all_eq_true.1 h5) q (List.mem_range.2 (hql q i hq))
      rw [hgetD q i hq] at this
      simp only [Bool.or_eq_true,decide_eq_true_eq] at this
      rcases this with h | h
      · omega
      · exact reachC_B _ _ _ h
  have hdj : ∀ j t, j < k → dstB ops j t = true → ∀ e ∈ js, e ≠ j := fun j t hj hdt e he h => by
    obtain ⟨s, hs, h'⟩ := hs1 e he
    obtain ⟨_, o, ho, h1, _⟩ := hstore s hs
    obtain ⟨o', ho', h2⟩ := dstB_iff.1 hdt
    rw [h', h, ho'] at ho; injection ho with ho; subst ho
    rw [h1] at h2; cases h2
  have hone' : ∀ i j t, i < k → j < k → i ≠ j → dstB ops i t = true → dstB ops j t = false := fun i j t hi hj hij h => by
    cases hx : dstB ops j t with
    | false => rfl
    | true =>
      exfalso
      obtain ⟨q, hq⟩ := hperm i hi (hdj i t hi h)
      obtain ⟨r, hr⟩ := hperm j hj (hdj j t hj hx)
      obtain ⟨o, ho, h1⟩ := dstB_iff.1 h
      obtain ⟨o', ho', h2⟩ := dstB_iff.1 hx
      rcases Nat.lt_trichotomy q r with h' | h' | h'
      · exact oneL_one _ q r o o' t hone h' (hget q i o hq ho) (hget r j o' hr ho') h1 h2
      · subst h'
        rw [hq] at hr; injection hr with hr; exact hij hr
      · exact oneL_one _ r q o' o t hone h' (hget r j o' hr ho') (hget q i o hq ho) h2 h1
  refine wp_region_any hm ?_
  have hnamed : ∀ m l, ρ m = some l → m < S.nx := fun m l hm' => by
    rcases Nat.lt_or_ge m S.nx with h' | h'
    · exact h'
    · have := hh.fresh m h'
      rw [this] at hm'
      cases hm'
  have hh0 : HR (ZF (Fr2 S.nx perm (Array.replicate ops.size false))) B ρ GA 0 { w with drawn := w.drawn + 1 } := by
    have hd0 := hh.drew
    refine ⟨hd0.base, fun m hm' => hh.fresh m hm'.1, hd0.lt, fun m m' l l' h1 h2 g1 g2 => ?_, fun m s v l hs hl' => ?_, fun m es l hs hl' => ?_⟩
    · rw [hnm m (hnamed m l h1)] at g1
      rw [hnm m' (hnamed m' l' h2)] at g2
      exact hd0.apart m m' l l' h1 h2 g1 g2
    · rw [hnm m (hnamed m l hl')] at hs
      exact hd0.row m s v l hs hl'
    · rw [hnm m (hnamed m l hl')] at hs
      exact hd0.map m es l hs hl'
  have hext : Ext ρ w ρ { w with drawn := w.drawn + 1 } := ⟨fun _ _ h => h, Nat.le_refl _, fun _ _ _ => rfl, fun _ _ h => .inl h, fun _ h => h, fun _ h => .inl h⟩
  have henv : ∀ (q : Nat) i o t, perm[q]? = some i → ops[i]? = some o → t ∈ o.looksAt ops → ∀ listed, listed.getD i false = false → Closed ops listed → (∀ e ∈ o.after, Region.binds .any e = true → listed.getD e.on false = true) → tmQ ops listed k S.tm tmF t = rd2 (picks ops.toList perm) q S.tm tmF t := by
    intro q i o t hq ho ht listed hif hc hafter
    have hrd2 := (List.all_eq_true.1 hrd) q (List.mem_range.2 (hql q i hq))
    rw [hgetD q i hq] at hrd2
    obtain ⟨o2, ho2, hrd2⟩ := opD_some hrd2
    rw [ho] at ho2; injection ho2 with ho2; subst ho2
    have hrd3 := fun (r j : Nat) (hr : perm[r]? = some j) => by
      have := (List.all_eq_true.1 ((List.all_eq_true.1 hrd2) t ht)) r (List.mem_range.2 (hql r j hr))
      rw [hgetD r j hr] at this
      exact this
    unfold rd2 tmQ
    by_cases hany : (((picks ops.toList perm).drop q).any fun o => o.dst == some t) = true
    · rw [if_pos hany, if_pos]
      rw [List.any_eq_true] at hany
      obtain ⟨o', ho', hdt⟩ := hany
      obtain ⟨r0, hr0, e⟩ := List.mem_iff_getElem.1 ho'
      have hr : (picks ops.toList perm)[q + r0]? = some o' := by
        rw [← List.getElem?_drop, List.getElem?_eq_getElem hr0, e]
      rw [picks_get _ _ hlt] at hr
      obtain ⟨j, hj, hjo⟩ := Option.bind_eq_some_iff.1 hr
      have hjo : ops[j]? = some o' := by simpa using hjo
      have hjk := (hpk' _ j hj).1
      have hdt : o'.dst = some t := by simpa using hdt
      refine pendB_true.2 ⟨j, hjk, ?_, o', hjo, hdt⟩
      by_cases h0 : r0 = 0
      · subst h0
        rw [Nat.add_zero, hq] at hj; injection hj with hj
        rw [← hj]; exact hif
      · have := hrd3 (q + r0) j hj
        rw [dstB_iff.2 ⟨o', hjo, hdt⟩] at this
        simp only [Bool.not_true,Bool.false_or,Bool.or_eq_true,decide_eq_true_eq] at this
        rcases this with h | h
        · omega
        · rw [if_neg (by omega)] at h
          obtain ⟨o3, ho3, h⟩ := opD_some h
          rw [hjo] at ho3; injection ho3 with ho3; subst ho3
          have h := reachC_B _ _ _ h
          cases hx : listed.getD j false with
          | false => rfl
          | true =>
            have := reach_listed hc ops.size o' i h (fun e he hb' => hc j o' hjo hx e he hb')
            rw [hif] at this
            cases this
    · rw [if_neg hany, if_neg]
      intro e
      obtain ⟨j, h1, h2, o', ho', h3⟩ := pendB_true.1 e
      obtain ⟨r, hr⟩ := hperm j h1 (hdj j t h1 (dstB_iff.2 ⟨o', ho', h3⟩))
      by_cases hrq : q ≤ r
      · refine hany ?_
        rw [List.any_eq_true]
        refine ⟨o', ?_, by simp [h3]⟩
        have hpr := hget r j o' hr ho'
        have : ((picks ops.toList perm).drop q)[r - q]? = some o' := by rw [List.getElem?_drop, show q + (r - q) = r by omega]; exact hpr
        exact List.mem_of_getElem? this
      · have := hrd3 r j hr
        rw [dstB_iff.2 ⟨o', ho', h3⟩] at this
        simp only [Bool.not_true,Bool.false_or,Bool.or_eq_true,decide_eq_true_eq] at this
        rcases this with h | h
        · omega
        · rw [if_pos (by omega)] at h
          have := reach_listed hc ops.size o j (reachC_B _ _ _ h) hafter
          rw [h2] at this
          cases this
  refine head4 (K := K) (hp := hpL m sts GA) (js := js) (tm0 := S.tm) (tmF := tmF) (nx := S.nx) (N := N) (B := B) (ρ0 := ρ0) (w0 := w0) (k := k) (perm := perm) (env := fun q => rd2 (picks ops.toList perm) q S.tm tmF) hk9 hd ?_ ?_ hperm hpk' hpl ?_ hone' henv ?_ (fun {f g} h => hpL_congr sts GA (fun e he => h e.1 (by rw [← hjs]; exact List.mem_map.2 ⟨e, he, rfl⟩))) ?_ ?_ (by rw [hpL_all]; exact htail) ?_ ops.size _ a _ ρ (by omega) (by simp) ?_ ?_ ?_ hdf hts ?_ ?_ (he.trans hext)
  · intro j o hj ho
    have hlt : j < ops.size := (Array.getElem?_eq_some_iff.1 ho).1
    have := (List.all_eq_true.1 htl) j (List.mem_range.2 hlt)
    rw [ho] at this
    simp only [Bool.or_eq_true,decide_eq_true_eq,Bool.and_eq_true] at this
    rcases this with this | ⟨t1, t2⟩
    · omega
    · exact ⟨fun i hi => reachC_B _ _ _ ((List.all_eq_true.1 t1) i (List.mem_range.2 hi)), fun e he' hb => by
        have := (Array.all_eq_true_iff_forall_mem.1 t2) e he'
        simpa [hb] using this⟩
  · intro j o hj ho e he' hb
    have := (List.all_eq_true.1 hbk) j (List.mem_range.2 hj)
    obtain ⟨o2, ho2, this⟩ := opD_some this
    rw [ho] at ho2; injection ho2 with ho2; subst ho2
    have := (Array.all_eq_true_iff_forall_mem.1 this) e he'
    simpa [hb] using this
  · intro q r i hq hr
    have := (List.all_eq_true.1 ((List.all_eq_true.1 hun) q (List.mem_range.2 (hql q i hq)))) r (List.mem_range.2 (hql r i hr))
    rw [hgetD q i hq, hgetD r i hr] at this
    simpa using this
  · intro e he
    obtain ⟨s, hs, h⟩ := hs1 e he
    rw [← h]
    exact (hstore s hs).1
  · intro q i o hq ho listed hif hc
    obtain ⟨pre, post, h1, h2⟩ := hpL_pre (m := m) (fun j => listed.getD j false) sts GA
    rw [h2]
    exact hF q o (hget q i o hq ho) pre post h1
  · intro e he o ho
    obtain ⟨s, hs, hse⟩ := hs1 e he
    obtain ⟨_, o2, ho2, h1, h2, h3, h4, h5⟩ := hstore s hs
    rw [hse, ho] at ho2; injection ho2 with ho2; subst ho2
    cases hop : o.op <;> rw [hop] at h3 <;> simp only [isSt,Bool.false_eq_true] at h3
    rename_i t y x
    refine ⟨h1, h2, t, y, x, rfl, fun listed hc hafter z hz => ?_, fun z hz => ?_, fun listed hil hif hc hafter => ?_⟩
    · cases z with
      | tmp u =>
        show tmQ ops listed k S.tm tmF u = tmF u
        unfold tmQ
        rw [if_neg]
        intro e
        obtain ⟨j, g1, g2, o', ho', g3⟩ := pendB_true.1 e
        have := h4 u (looks_operand (by rw [hop]; exact hz)) j g1 (dstB_iff.2 ⟨o', ho', g3⟩)
        have := reach_listed hc ops.size o j this hafter
        rw [g2] at this
        cases this
      | _ => rfl
    · rcases hz with rfl | rfl <;> simp [Op.operands]
    · obtain ⟨e2, he2, h21⟩ := List.mem_map.1 (show e ∈ sts.map (·.1) by rw [hjs]; exact he)
      obtain ⟨pre, post, hsp⟩ := List.append_of_mem he2
      subst h21
      have hpre : ∀ a ∈ pre, listed.getD a.1 false = true := fun a ha => by
        have := ordB_pre (ops := ops) (js := js) hord (pre := pre.map (·.1)) (e := e2.1) (post := post.map (·.1)) (by rw [← hjs, hsp]; simp) a.1 (List.mem_map.2 ⟨a, ha, rfl⟩)
        obtain ⟨o', ho', this⟩ := opD_some this
        rw [ho] at ho'; injection ho' with ho'; subst ho'
        exact reach_listed hc ops.size o a.1 (reachC_B _ _ _ this) hafter
      have hpost : ∀ a ∈ post, (listed.setIfInBounds e2.1 true).getD a.1 false = false := fun a ha => by
        have hne : a.1 ≠ e2.1 := fun h => by
          have hn := hnd
          rw [← hjs, hsp] at hn
          simp only [List.map_append,List.map_cons] at hn
          have := (List.nodup_append.1 hn).2.1
          rw [List.nodup_cons] at this
          exact this.1 (List.mem_map.2 ⟨a, ha, h⟩)
        rw [getD_set hil, if_neg hne]
        cases hx : listed.getD a.1 false with
        | false => rfl
        | true =>
          exfalso
          obtain ⟨p1, p2, hsp2⟩ := List.append_of_mem ha
          have := ordB_pre (ops := ops) (js := js) hord (pre := pre.map (·.1) ++ e2.1 :: p1.map (·.1)) (e := a.1) (post := p2.map (·.1)) (by rw [← hjs, hsp, hsp2]; simp) e2.1 (by simp)
          obtain ⟨o', ho', this⟩ := opD_some this
          have := reach_listed hc ops.size o' e2.1 (reachC_B _ _ _ this) (fun e he hb' => hc a.1 o' ho' hx e he hb')
          rw [hif] at this
          cases this
      have e1 : (hpL m sts GA fun j => listed.getD j false) = stF m pre GA := by
        rw [hsp, hpL_mid _ pre _ GA hpre]
        exact hpL_none _ _ _ (by
          intro a ha
          rw [List.head?_cons] at ha
          injection ha with ha
          subst ha
          exact hif)
      have e3 : (hpL m sts GA fun j => (listed.setIfInBounds e2.1 true).getD j false) = upd (stF m pre GA) m (some e2.2) := by
        rw [hsp, hpL_mid _ pre _ GA fun a ha => by
          rw [getD_set hil]
          split
          · rfl
          · exact hpre a ha]
        rw [hpL_cons, if_pos (by rw [getD_set hil, if_pos rfl])]
        exact hpL_none _ _ _ (by
          intro a ha
          exact hpost a (List.mem_of_mem_head? ha))
      rw [e1, e3]
      exact hS pre e2 post hsp o t y x ho hop
  · intro S' a' w' ρ' hk' hS'
    exact next S' a' w' ρ' hk' hS'.tm hS'.defers hS'.size hS'.heap hS'.below hS'.ext
  · intro i _
    exact rep i
  · intro i o _ hli
    rw [rep i] at hli
    cases hli
  · intro t
    unfold tmQ
    split
    · exact (hT.ext hext) t
    · rename_i hp
      rw [hsame t]
      · exact (hT.ext hext) t
      · intro o ho e
        obtain ⟨q, hq, e2⟩ := List.mem_iff_getElem.1 ho
        have hq2 : (picks ops.toList perm)[q]? = some o := by rw [List.getElem?_eq_getElem hq, e2]
        rw [picks_get _ _ hlt] at hq2
        obtain ⟨j, hj, hjo⟩ := Option.bind_eq_some_iff.1 hq2
        exact hp (pendB_true.2 ⟨j, (hpk' q j hj).1, rep j, o, by simpa using hjo, e⟩)
  · rw [show (hpL m sts GA fun j => (Array.replicate ops.size false).getD j false) = GA from hpL_none _ _ _ fun a _ => rep a.1]
    exact hh0
  · exact hbl.drew
def headsM (P : Program) (ops l : List Oper) (tm0 : Nat → VV) (n m : Nat) (tm2 : Nat → VV) : List Nat → Heap → (Heap → Prop) → Prop
  | [], H, K => K H
  | j :: js, H, K => storeAt P m (ev tm2) H (fun G => vheld P ops l tm0 G n fun tm' H' _ => cnd (tm' = tm2 ∧ H' = G) (headsM P ops l tm0 n m tm2 js G K)) ops[j]?
theorem headsM_some {P : Program} {ops : Array Oper} {l : List Oper} {tm0 : Nat → VV} {n m : Nat} {tm2 : Nat → VV} (hone : oneL l = true) (hmn : m < n) {K : Heap → Prop} : ∀ (js : List Nat) (H : Heap), (∀ m, n ≤ m → H m = none) → headsM P ops.toList l tm0 n m tm2 js H K →
    ∃ sts : List (Nat × Blk), sts.map (·.1) = js ∧ K (stF m sts H) ∧
      (∀ pre e post, sts = pre ++ e :: post → ∀ o t y x, ops[e.1]? = some o → o.op = .store t y x → vStore P (ev tm2) (stF m pre H) 0 (fun v G n => v = .any ∧ G = upd (stF m pre H) m (some e.2) ∧ n = 0) t y x) ∧
      ∀ pre e post, sts = pre ++ e :: post → ∀ q o, l[q]? = some o → Fact2 P ops.toList (rd2 l q tm0 tm2) tm2 (stF m (pre ++ [e]) H) (n + 64 * q) o
  | [], H, _, h => ⟨[], rfl, h, fun pre e post hs => by simp at hs, fun pre e post hs => by simp at hs⟩
  | j :: js, H, hfr, h => by
    obtain ⟨o', t, y, x, b, ho, hop, hk, hst⟩ := storeAt_some2 h
    have hfr' : ∀ m', n ≤ m' → (upd H m (some b)) m' = none := fun m' hm' => by rw [upd_ap, if_neg (by omega)]; exact hfr m' hm'
    obtain ⟨tmG, G2, ⟨⟨et, eH⟩, l1⟩, l2, l3, l4⟩ := held2 (ops := ops) _ tm0 (upd H m (some b)) n hone hfr' hk
    subst et
    obtain ⟨sts, h1, h2, h3, h4⟩ := headsM_some hone hmn js _ hfr' l1
    refine ⟨(j, b) :: sts, by rw [List.map_cons, h1], h2, fun pre e post hs => ?_, fun pre e post hs => ?_⟩
    · cases pre with
      | nil =>
        simp only [List.nil_append,List.cons.injEq] at hs
        obtain ⟨rfl, rfl⟩ := hs
        intro o t1 y1 x1 ho1 hop1
        rw [show ops.toList[j]? = ops[j]? by simp] at ho
        rw [ho1] at ho; injection ho with ho; subst ho
        rw [hop1] at hop; injection hop with e1 e2 e3
        subst e1 e2 e3
        exact hst H rfl
      | cons p pre =>
        simp only [List.cons_append,List.cons.injEq] at hs
        obtain ⟨rfl, hs⟩ := hs
        exact h3 pre e post hs
    · cases pre with
      | nil =>
        simp only [List.nil_append,List.cons.injEq] at hs
        obtain ⟨rfl, rfl⟩ := hs
        intro q o hq
        obtain ⟨Hq, q1, q2, q3, q4⟩ := l4 q o hq
        show Fact2 P ops.toList _ _ (upd H m (some b)) _ o
        exact q4 _ (fun m' b' hm' => by rw [← eH]; exact q3 m' b' hm')
      | cons p pre =>
        simp only [List.cons_append,List.cons.injEq] at hs
        obtain ⟨rfl, hs⟩ := hs
        exact h4 pre e post hs
theorem regionM {S : VS} (hm : P.follows .mixedOrders = true) (hfr : ∀ m, S.nx ≤ m → S.hp m = none) (hok : drawOk4 ops k perm js = true) (m : Nat) (hmn : m < S.nx)
    (h : vheld P ops.toList (picks ops.toList perm) S.tm S.hp S.nx fun tm H _ => cnd (H = S.hp) (headsM P ops.toList (picks ops.toList perm) S.tm S.nx m tm js S.hp fun G => vlist P ops.toList (ops.toList.drop k) ⟨tm, G, S.nx + 64 * k⟩ K)) : vdraw P ops S K := by
  have hok' := hok
  unfold drawOk4 drawOk3 at hok'
  simp only [Bool.and_eq_true,decide_eq_true_eq] at hok'
  have hone := hok'.1.1.1.1.1.1.1.1.1.2
  obtain ⟨tmF, G1, ⟨e1, k1⟩, k2, k3, k4⟩ := held2 (ops := ops) _ S.tm S.hp S.nx hone hfr h
  obtain ⟨sts, h1, h2, h3, h4⟩ := headsM_some hone hmn js S.hp hfr k1
  refine region4 hm hfr hok (GA := S.hp) k2 (fun _ _ => rfl) m sts h1 (fun q o ho pre post hs => ?_) h3 h2
  rcases List.eq_nil_or_concat pre with rfl | ⟨p, e, rfl⟩
  · obtain ⟨Hq, q1, q2, q3, q4⟩ := k4 q o ho
    exact q4 S.hp (fun m' b' hm' => by rw [← e1]; exact q3 m' b' hm')
  · rw [List.concat_eq_append] at hs ⊢
    exact h4 p e post (by rw [hs]; simp) q o ho
end
noncomputable def hdM : (P : Program) → (ops l : List Oper) → (tm0 : Nat → VV) → (n m : Nat) → (tm2 : Nat → VV) → List Nat → Heap → (Heap → Prop) → Prop := Classical.choose (⟨headsM, rfl⟩ : ∃ f : (P : Program) → (ops l : List Oper) → (tm0 : Nat → VV) → (n m : Nat) → (tm2 : Nat → VV) → List Nat → Heap → (Heap → Prop) → Prop, f = headsM)
theorem hdM_eq : hdM = headsM := Classical.choose_spec (⟨headsM, rfl⟩ : ∃ f : (P : Program) → (ops l : List Oper) → (tm0 : Nat → VV) → (n m : Nat) → (tm2 : Nat → VV) → List Nat → Heap → (Heap → Prop) → Prop, f = headsM)
theorem hdM_nil (P : Program) (ops l : List Oper) (tm0 : Nat → VV) (n m : Nat) (tm2 : Nat → VV) (H : Heap) (K : Heap → Prop) : hdM P ops l tm0 n m tm2 [] H K = K H := by rw [hdM_eq]; exact id (Eq.refl _)
theorem hdM_cons (P : Program) (ops l : List Oper) (tm0 : Nat → VV) (n m : Nat) (tm2 : Nat → VV) (j : Nat) (js : List Nat) (H : Heap) (K : Heap → Prop) : hdM P ops l tm0 n m tm2 (j :: js) H K = storeAt P m (ev tm2) H (fun G => vh P ops l tm0 G n fun tm' H' _ => cnd (tm' = tm2 ∧ H' = G) (hdM P ops l tm0 n m tm2 js G K)) ops[j]? := by rw [hdM_eq, vh_eq]; exact id (Eq.refl _)
section
variable {P : Program} {n0 : Nat} {K : VX → VS → Prop}
theorem ok_drawM {id : Nat} {l : List Oper} {tm : Nat → VV} {H : Heap} {n : Nat} (k : Nat) (perm js : List Nat) (m : Nat) (hm : P.follows .mixedOrders = true) (hd : drawOk4 l.toArray k perm js = true) (hmn : m < n) (hfr : ∀ m, n ≤ m → H m = none)
    (h : ∀ M : VS → Prop, (∀ S, K .normal S → M S) → vh P l (picks l perm) tm H n fun tm2 H2 _ => cnd (H2 = H) (hdM P l (picks l perm) tm n m tm2 js H fun G => vl P l (l.drop k) ⟨tm2, G, n + 64 * k⟩ M)) : Ok P n0 (.region id l.toArray true) ⟨tm, H, n⟩ K := fun N B ρ0 w0 Q a w ρ h0 hok hS next => by
  simp only [codeOk,List.all_eq_true] at hok
  exact regionM (S := ⟨tm, H, n⟩) hm hfr hd m hmn (by simpa only [vh_def,vl_def,hdM_eq] using h _ fun _ h => h) id N B ρ0 w0 Q a w ρ (fun o ho t ht => by have := hok o ho; rw [ht] at this; simpa using this) hS.tm hS.defers hS.size hS.heap hS.below hS.ext
    fun S' a' w' ρ' hk h1 h2 h3 h4 h5 h6 => next .normal S' a' w' ρ' hk ⟨h1, h2, h3, h4, h5, h6⟩
end
end Go.Proofs.Ytoibnghkcdopeaa.V
end
section
namespace Go.Proofs.Ytoibnghkcdopeaa.V
open Go Go.Proofs.Ytoibnghkcdopeaa Go.Proofs.Ytoibnghkcdopeaa.Gf
set_option maxRecDepth 100000
set_option maxHeartbeats 2000000
abbrev prtSh : Sh := .st [.cell, .cell]
def encPrt (p : Prt) : VV := .agg [.int .i64 p.i, .str p.d]
abbrev encPrts (l : List Prt) : VV := .dat prtSh (l.map encPrt)
theorem nl_prt (p : Prt) : nl (encPrt p) = true := rfl
theorem nls_prt (l : List Prt) : nls (l.map encPrt) = true := nls_map _ nl_prt l
theorem hasPrt (p : Prt) : Has prtSh (encPrt p) := by simp [encPrt, Has, HasL, VV.leaf]
instance : Inhabited Prt := ⟨⟨0, []⟩⟩
def i64P (x : Int) : Prop := -9223372036854775808 ≤ x ∧ x ≤ 9223372036854775807
theorem rowsI_nat (n : Nat) : rowsI n = rowsN n := by unfold rowsI rowsN; omega
theorem rowsI_pos {n : Int} (h : 0 ≤ n) : rowsI n = (n + 2) / 3 := by unfold rowsI; rw [if_neg (by omega)]
theorem rowsI_neg {n : Int} (h : n < 0) : rowsI n = 0 := by unfold rowsI; rw [if_pos h]
theorem srows_spec (n : Int) (h : i64P n) : Spec Try.prog 13 [.int .i64 n] (.int .i64 (rowsI n)) := by
  obtain ⟨h1, h2⟩ := h
  have e1 := fun h => rowsI_neg (n := n) h
  have e2 := fun h => rowsI_pos (n := n) h
  generalize rowsI n = r at e1 e2
  refine spec_ok Try.func13 rfl rfl (by kernel_rfl) (k := 1) rfl (by decide) ?_
  repeat' (first|(with_reducible first|refine yrl (by constructor) ?_|refine jk (fun M hM=>?_)|(refine hM _ ?_;clear hM M)|refine xb3 (by decide) ?_|refine yqa (by assumption) ?_ ?_|refine yqb (by assumption) ?_ ?_)|((with_reducible refine je ?_)<;>(first|rfl|assumption|(simp only [znl,nls_u,nls_prt,nl_prt];(first|done|fail))))|(with_reducible refine jf (by (simp only [↓reduceIte,zlk,Nat.reduceEqDiff,reduceCtorEq]);exact rfl) ?_)|((with_reducible first|refine jg (fun hc=>?_) (fun hc=>?_)|refine jh (fun hc=>?_) (fun hc=>?_))<;>(try simp (disch:=omega) only [zhb] at hc)<;>(try (exfalso;omega))<;>(try subst hc))|(with_reducible refine ji (by omega) ?_)|(simp (config := { maxSteps := 400000 }) only [↓jt,↓reduceIte,zvs,reduceCtorEq,Nat.reduceEqDiff,Nat.reduceAdd,Nat.reduceLeDiff,Nat.reduceMul,Int.reduceBNe,Int.reduceBEq,Int.reduceEq,Int.reduceNe,Int.reduceLT,Int.reduceLE,Int.reduceGT,Int.reduceGE,Int.reduceNeg,Int.reduceToNat,Nat.reduceLT,Nat.reduceSub,tab,Try.results13,jTA])|(simp (disch:=omega) only [ziw]))
  all_goals first
    | (exfalso; omega)
    | (simp only [zrds]; omega)
theorem rrows_spec (n : Int) (h : i64P n) : Spec Try.prog 14 [.int .i64 n] (.int .i64 (rowsI n)) := by
  obtain ⟨h1, h2⟩ := h
  have e1 := fun h => rowsI_neg (n := n) h
  have e2 := fun h => rowsI_pos (n := n) h
  generalize rowsI n = r at e1 e2
  refine spec_ok Try.func14 rfl rfl (by kernel_rfl) (k := 1) rfl (by decide) ?_
  repeat' (first|(with_reducible first|refine yrl (by constructor) ?_|refine jk (fun M hM=>?_)|(refine hM _ ?_;clear hM M)|refine xb3 (by decide) ?_|refine yqa (by assumption) ?_ ?_|refine yqb (by assumption) ?_ ?_)|((with_reducible refine je ?_)<;>(first|rfl|assumption|(simp only [znl,nls_u,nls_prt,nl_prt];(first|done|fail))))|(with_reducible refine jf (by (simp only [↓reduceIte,zlk,Nat.reduceEqDiff,reduceCtorEq]);exact rfl) ?_)|((with_reducible first|refine jg (fun hc=>?_) (fun hc=>?_)|refine jh (fun hc=>?_) (fun hc=>?_))<;>(try simp (disch:=omega) only [zhb] at hc)<;>(try (exfalso;omega))<;>(try subst hc))|(with_reducible refine ji (by omega) ?_)|(simp (config := { maxSteps := 400000 }) only [↓jt,↓reduceIte,zvs,reduceCtorEq,Nat.reduceEqDiff,Nat.reduceAdd,Nat.reduceLeDiff,Nat.reduceMul,Int.reduceBNe,Int.reduceBEq,Int.reduceEq,Int.reduceNe,Int.reduceLT,Int.reduceLE,Int.reduceGT,Int.reduceGE,Int.reduceNeg,Int.reduceToNat,Nat.reduceLT,Nat.reduceSub,tab,Try.results14,jTA])|(simp (disch:=omega) only [ziw]))
  all_goals first
    | (exfalso; omega)
    | (simp only [zrds]; omega)
theorem nth_ge {l : List UInt8} {i : Nat} (h : l.length ≤ i) : nth l i = 0 := by simp [nth, List.getD_eq_getElem?_getD, List.getElem?_eq_none h]
theorem rat7_spec (s : List UInt8) (hs : s.length < 2 ^ 36) (i : Nat) (hi : i < 2 ^ 60) : Spec Try.prog 21 [.str s, .int .i64 i] (.int .u8 (B8 (nth s i))) := by
  refine spec_ok Try.func21 rfl rfl (by kernel_rfl) (k := 2) rfl (by decide) ?_
  by_cases h : i < s.length
  · have e : B8 (nth s i) = (((s.getD i 0).toNat : Nat) : Int) := rfl
    repeat' (first|(with_reducible first|refine yrl (by constructor) ?_|refine jk (fun M hM=>?_)|(refine hM _ ?_;clear hM M)|refine xb3 (by decide) ?_|refine yqa (by assumption) ?_ ?_|refine yqb (by assumption) ?_ ?_)|((with_reducible refine je ?_)<;>(first|rfl|assumption|(simp only [znl,nls_u,nls_prt,nl_prt];(first|done|fail))))|(with_reducible refine jf (by (simp only [↓reduceIte,zlk,Nat.reduceEqDiff,reduceCtorEq]);exact rfl) ?_)|((with_reducible first|refine jg (fun hc=>?_) (fun hc=>?_)|refine jh (fun hc=>?_) (fun hc=>?_))<;>(try simp (disch:=omega) only [zhb] at hc)<;>(try (exfalso;omega))<;>(try subst hc))|(with_reducible refine ji (by omega) ?_)|(simp (config := { maxSteps := 400000 }) only [↓jt,↓reduceIte,zvs,reduceCtorEq,Nat.reduceEqDiff,Nat.reduceAdd,Nat.reduceLeDiff,Nat.reduceMul,Int.reduceBNe,Int.reduceBEq,Int.reduceEq,Int.reduceNe,Int.reduceLT,Int.reduceLE,Int.reduceGT,Int.reduceGE,Int.reduceNeg,Int.reduceToNat,Nat.reduceLT,Nat.reduceSub,tab,Try.results21,jTA])|(simp (disch:=omega) only [ziw]))
    all_goals first
      | (exfalso; omega)
      | (simp only [zrds]; rw [e]; done)
  · rw [nth_ge (by omega)]
    repeat' (first|(with_reducible first|refine yrl (by constructor) ?_|refine jk (fun M hM=>?_)|(refine hM _ ?_;clear hM M)|refine xb3 (by decide) ?_|refine yqa (by assumption) ?_ ?_|refine yqb (by assumption) ?_ ?_)|((with_reducible refine je ?_)<;>(first|rfl|assumption|(simp only [znl,nls_u,nls_prt,nl_prt];(first|done|fail))))|(with_reducible refine jf (by (simp only [↓reduceIte,zlk,Nat.reduceEqDiff,reduceCtorEq]);exact rfl) ?_)|((with_reducible first|refine jg (fun hc=>?_) (fun hc=>?_)|refine jh (fun hc=>?_) (fun hc=>?_))<;>(try simp (disch:=omega) only [zhb] at hc)<;>(try (exfalso;omega))<;>(try subst hc))|(with_reducible refine ji (by omega) ?_)|(simp (config := { maxSteps := 400000 }) only [↓jt,↓reduceIte,zvs,reduceCtorEq,Nat.reduceEqDiff,Nat.reduceAdd,Nat.reduceLeDiff,Nat.reduceMul,Int.reduceBNe,Int.reduceBEq,Int.reduceEq,Int.reduceNe,Int.reduceLT,Int.reduceLE,Int.reduceGT,Int.reduceGE,Int.reduceNeg,Int.reduceToNat,Nat.reduceLT,Nat.reduceSub,tab,Try.results21,jTA])|(simp (disch:=omega) only [ziw]))
    all_goals first
      | (exfalso; omega)
      | (simp only [zrds]; done)
      | (simp only [zrds]; rfl)
theorem memP {l : List Prt} {k : Nat} (h : k < l.length) : l.getD k default ∈ l := by
  rw [List.getD_eq_getElem?_getD, List.getElem?_eq_getElem h]
  exact List.getElem_mem h
theorem takeP (l : List Prt) (k : Nat) (h : k < l.length) : l.take (k + 1) = l.take k ++ [l.getD k default] := by
  rw [List.take_add_one, List.getD_eq_getElem?_getD, List.getElem?_eq_getElem h]; rfl
theorem hasI_snoc (l : List Prt) (i : Int) (k : Nat) (h : k < l.length) : hasI (l.take (k + 1)) i = (hasI (l.take k) i || ((l.getD k default).i == i)) := by
  rw [takeP l k h]
  unfold hasI
  rw [List.any_append, List.any_cons, List.any_nil, Bool.or_false]
theorem getP {l : List Prt} {k : Nat} (h : k < l.length) : (l.map encPrt)[k]? = some (.agg [.int .i64 (l.getD k default).i, .str (l.getD k default).d]) := map_getD encPrt l k h
theorem hasI_at {l : List Prt} {k : Nat} {i : Int} (h : k < l.length) (e : (l.getD k default).i = i) : hasI l i = true := by
  unfold hasI
  rw [List.any_eq_true]
  exact ⟨_, memP h, beq_iff_eq.2 e⟩
theorem rhas_spec (l : List Prt) (hl : l.length < 2 ^ 36) (i : Int) : Spec Try.prog 37 [encPrts l, .int .i64 i] (.bool (hasI l i)) := by
  refine spec_ok Try.func37 rfl rfl (by kernel_rfl) (k := 2) rfl (by decide) ?_
  repeat' (first|(with_reducible first|refine yrl (by constructor) ?_|refine jk (fun M hM=>?_)|(refine hM _ ?_;clear hM M)|refine xb3 (by decide) ?_|refine yqa (by assumption) ?_ ?_|refine yqb (by assumption) ?_ ?_)|((with_reducible refine je ?_)<;>(first|rfl|assumption|(simp only [znl,nls_u,nls_prt,nl_prt];(first|done|fail))))|(with_reducible refine jf (by (simp only [↓reduceIte,zlk,Nat.reduceEqDiff,reduceCtorEq]);exact rfl) ?_)|((with_reducible first|refine jg (fun hc=>?_) (fun hc=>?_)|refine jh (fun hc=>?_) (fun hc=>?_))<;>(try simp (disch:=omega) only [zhb] at hc)<;>(try (exfalso;omega))<;>(try subst hc))|(with_reducible refine ji (by omega) ?_)|(simp (config := { maxSteps := 400000 }) only [↓jt,↓reduceIte,zvs,reduceCtorEq,Nat.reduceEqDiff,Nat.reduceAdd,Nat.reduceLeDiff,Nat.reduceMul,Int.reduceBNe,Int.reduceBEq,Int.reduceEq,Int.reduceNe,Int.reduceLT,Int.reduceLE,Int.reduceGT,Int.reduceGE,Int.reduceNeg,Int.reduceToNat,Nat.reduceLT,Nat.reduceSub,tab,Try.results37,jTA])|(simp (disch:=omega) only [ziw]))
  refine ok_loop (fun k : Nat => ⟨slots [(0, encPrts l), (1, .int .i64 i), (5, .int .i64 k)], rows [], 0⟩) (fun k => k ≤ l.length ∧ hasI (l.take k) i = false) (fun k => l.length - k) 0 ?_ ⟨Nat.zero_le _, rfl⟩ (fun k hk => ?_)
  · (refine yrn [] false ?_ ?_<;>(repeat' (first|(with_reducible first|exact ya1|exact ya2|exact ya3|refine jx rfl (by first|rfl|assumption|(simp only [znl,nls_u,nls_prt,nl_prt];(first|done|fail)))|exact ya5|exact ya7|exact jy|exact jz|refine jA ?_|refine ya9 ?_ ?_ ?_|refine jC rfl (by first|rfl|assumption|(simp only [znl,nls_u,nls_prt,nl_prt];(first|done|fail)))|refine MR.agg (MRL.cons ?_ ?_)|refine MR.fn ?_|refine MRL.cons ?_ ?_|exact MRL.nil|refine jE ?_ ?_|exact jF|exact jG|refine yb1 ?_ ?_|refine MB.row ?_|refine jI ?_ ?_|exact ya8|refine jJ rfl (by first|rfl|assumption|(simp only [znl,nls_u,nls_prt,nl_prt];(first|done|fail)))|refine yb2 ?_|rfl)|(simp only [znl,nls_u,nls_prt,nl_prt];(first|done|fail))|(simp only [↓reduceIte,zlk,Nat.reduceEqDiff,reduceCtorEq])|(with_reducible first|refine jJ ?_ ?_|refine ya5 ?_|refine ju ?_|refine jv ?_|refine jw ?_|refine jx ?_ (by first|rfl|assumption|(simp only [znl,nls_u,nls_prt,nl_prt];(first|done|fail)))|refine jC ?_ (by first|rfl|assumption|(simp only [znl,nls_u,nls_prt,nl_prt];(first|done|fail)))))))
    all_goals (first | rfl)
  obtain ⟨hk, hn⟩ := hk
  by_cases hlt : k < l.length
  · have hg := getP hlt
    have hs := hasI_snoc l i k hlt
    rw [hn, Bool.false_or] at hs
    have hat := fun e => hasI_at (i := i) hlt e
    generalize (l.getD k default).i = x at hg hs hat
    repeat' (first|(with_reducible first|refine yrl (by constructor) ?_|refine jk (fun M hM=>?_)|(refine hM _ ?_;clear hM M)|refine xb3 (by decide) ?_|refine yqa (by assumption) ?_ ?_|refine yqb (by assumption) ?_ ?_)|((with_reducible refine je ?_)<;>(first|rfl|assumption|(simp only [znl,nls_u,nls_prt,nl_prt];(first|done|fail))))|(with_reducible refine jf (by (simp only [↓reduceIte,zlk,Nat.reduceEqDiff,reduceCtorEq]);exact rfl) ?_)|((with_reducible first|refine jg (fun hc=>?_) (fun hc=>?_)|refine jh (fun hc=>?_) (fun hc=>?_))<;>(try simp (disch:=omega) only [zhb] at hc)<;>(try (exfalso;omega))<;>(try subst hc))|(with_reducible refine ji (by omega) ?_)|(simp (config := { maxSteps := 400000 }) only [↓jt,↓reduceIte,zvs,reduceCtorEq,Nat.reduceEqDiff,Nat.reduceAdd,Nat.reduceLeDiff,Nat.reduceMul,Int.reduceBNe,Int.reduceBEq,Int.reduceEq,Int.reduceNe,Int.reduceLT,Int.reduceLE,Int.reduceGT,Int.reduceGE,Int.reduceNeg,Int.reduceToNat,Nat.reduceLT,Nat.reduceSub,tab,hg,Try.results37,jTA])|(simp (disch:=omega) only [ziw]))
    all_goals first
      | (exfalso; omega)
      | (rw [hat rfl]; simp only [zrds]; done)
      | (rw [hat ‹_›]; simp only [zrds]; done)
      | (refine xl1 (k + 1) ?_ ⟨by omega, by rw [hs]; exact beq_false_of_ne ‹_›⟩ (by show l.length - (k + 1) < l.length - k; omega); (refine yrn [] false ?_ ?_<;>(repeat' (first|(with_reducible first|exact ya1|exact ya2|exact ya3|refine jx rfl (by first|rfl|assumption|(simp only [znl,nls_u,nls_prt,nl_prt];(first|done|fail)))|exact ya5|exact ya7|exact jy|exact jz|refine jA ?_|refine ya9 ?_ ?_ ?_|refine jC rfl (by first|rfl|assumption|(simp only [znl,nls_u,nls_prt,nl_prt];(first|done|fail)))|refine MR.agg (MRL.cons ?_ ?_)|refine MR.fn ?_|refine MRL.cons ?_ ?_|exact MRL.nil|refine jE ?_ ?_|exact jF|exact jG|refine yb1 ?_ ?_|refine MB.row ?_|refine jI ?_ ?_|exact ya8|refine jJ rfl (by first|rfl|assumption|(simp only [znl,nls_u,nls_prt,nl_prt];(first|done|fail)))|refine yb2 ?_|rfl)|(simp only [znl,nls_u,nls_prt,nl_prt];(first|done|fail))|(simp only [↓reduceIte,zlk,Nat.reduceEqDiff,reduceCtorEq])|(with_reducible first|refine jJ ?_ ?_|refine ya5 ?_|refine ju ?_|refine jv ?_|refine jw ?_|refine jx ?_ (by first|rfl|assumption|(simp only [znl,nls_u,nls_prt,nl_prt];(first|done|fail)))|refine jC ?_ (by first|rfl|assumption|(simp only [znl,nls_u,nls_prt,nl_prt];(first|done|fail))))))); all_goals (first | rfl); done)
  · obtain rfl : k = l.length := by omega
    rw [List.take_length] at hn
    rw [hn]
    repeat' (first|(with_reducible first|refine yrl (by constructor) ?_|refine jk (fun M hM=>?_)|(refine hM _ ?_;clear hM M)|refine xb3 (by decide) ?_|refine yqa (by assumption) ?_ ?_|refine yqb (by assumption) ?_ ?_)|((with_reducible refine je ?_)<;>(first|rfl|assumption|(simp only [znl,nls_u,nls_prt,nl_prt];(first|done|fail))))|(with_reducible refine jf (by (simp only [↓reduceIte,zlk,Nat.reduceEqDiff,reduceCtorEq]);exact rfl) ?_)|((with_reducible first|refine jg (fun hc=>?_) (fun hc=>?_)|refine jh (fun hc=>?_) (fun hc=>?_))<;>(try simp (disch:=omega) only [zhb] at hc)<;>(try (exfalso;omega))<;>(try subst hc))|(with_reducible refine ji (by omega) ?_)|(simp (config := { maxSteps := 400000 }) only [↓jt,↓reduceIte,zvs,reduceCtorEq,Nat.reduceEqDiff,Nat.reduceAdd,Nat.reduceLeDiff,Nat.reduceMul,Int.reduceBNe,Int.reduceBEq,Int.reduceEq,Int.reduceNe,Int.reduceLT,Int.reduceLE,Int.reduceGT,Int.reduceGE,Int.reduceNeg,Int.reduceToNat,Nat.reduceLT,Nat.reduceSub,tab,Try.results37,jTA])|(simp (disch:=omega) only [ziw]))
    all_goals first
      | (exfalso; omega)
      | (simp only [zrds]; done)
end Go.Proofs.Ytoibnghkcdopeaa.V
end
section
namespace Go.Proofs.Ytoibnghkcdopeaa.V
open Go Go.Proofs.Ytoibnghkcdopeaa Go.Proofs.Ytoibnghkcdopeaa.Gf
set_option maxRecDepth 100000
def znA3 := And.intro @nls_u <| And.intro @nls_prt <| And.intro @nl_prt <| True.intro
set_option maxHeartbeats 4000000
def threeV (r : List Prt × Int) : VV := .tup [encPrts r.1, .int .i64 r.2]
theorem pick3_at (n : Int) (acc l : List Prt) (k : Nat) (h : k < l.length) : pick3 n acc (l.drop k) = (if acc.length = 3 then (acc, 0) else if (l.getD k default).i < 1 ∨ 5 < (l.getD k default).i then (acc, 1) else if hasI acc (l.getD k default).i then pick3 n acc (l.drop (k + 1)) else if ((l.getD k default).d.length : Int) ≠ n then (acc, 3) else pick3 n (acc ++ [l.getD k default]) (l.drop (k + 1))) := by
  have e : l.drop k = l.getD k default :: l.drop (k + 1) := by rw [List.getD_eq_getElem?_getD, List.getElem?_eq_getElem h]; exact List.drop_eq_getElem_cons h
  rw [e, pick3]
theorem rthree_spec (l : List Prt) (hl : l.length < 2 ^ 36) (hd : ∀ p ∈ l, p.d.length < 2 ^ 36) (n : Int) (hn : i64P n) : Spec Try.prog 27 [encPrts l, .int .i64 n] (threeV (pick3 n [] l)) := by
  obtain ⟨n1, n2⟩ := hn
  obtain ⟨R, hR⟩ : ∃ R, R = pick3 n [] l := ⟨_, rfl⟩
  rw [← hR]
  refine spec_ok Try.func27 rfl rfl (by kernel_rfl) (k := 2) rfl (by decide) ?_
  repeat' (first|(with_reducible first|refine yrl (by constructor) ?_|refine jk (fun M hM=>?_)|(refine hM _ ?_;clear hM M)|refine xb3 (by decide) ?_|refine yqa (by assumption) ?_ ?_|refine yqb (by assumption) ?_ ?_)|((with_reducible refine je ?_)<;>(first|rfl|assumption|(simp only [znl,znA3];(first|done|fail))))|(with_reducible refine jf (by (simp only [↓reduceIte,zlk,Nat.reduceEqDiff,reduceCtorEq]);exact rfl) ?_)|((with_reducible first|refine jg (fun hc=>?_) (fun hc=>?_)|refine jh (fun hc=>?_) (fun hc=>?_))<;>(try simp (disch:=omega) only [zhb] at hc)<;>(try (exfalso;omega))<;>(try subst hc))|(with_reducible refine ji (by omega) ?_)|(simp (config := { maxSteps := 400000 }) only [↓jt,↓reduceIte,zvs,reduceCtorEq,Nat.reduceEqDiff,Nat.reduceAdd,Nat.reduceLeDiff,Nat.reduceMul,Int.reduceBNe,Int.reduceBEq,Int.reduceEq,Int.reduceNe,Int.reduceLT,Int.reduceLE,Int.reduceGT,Int.reduceGE,Int.reduceNeg,Int.reduceToNat,Nat.reduceLT,Nat.reduceSub,tab,Try.results27,jTA])|(simp (disch:=omega) only [ziw]))
  refine ok_loop (fun x : Nat × List Prt => ⟨slots [(0, encPrts l), (1, .int .i64 n), (6, .sl (some (0, [], 0)) x.2.length), (7, .int .i64 x.1)], rows [(0, .row (.arr x.2.length prtSh) (.agg (x.2.map encPrt)))], 1⟩) (fun x => x.1 ≤ l.length ∧ x.2.length ≤ 3 ∧ pick3 n x.2 (l.drop x.1) = R) (fun x => l.length - x.1) (0, []) ?_ ⟨Nat.zero_le _, by decide, hR.symm⟩ (fun x hx => ?_)
  · (refine yrn [(0, 0)] false ?_ ?_<;>(repeat' (first|(with_reducible first|exact ya1|exact ya2|exact ya3|refine jx rfl (by first|rfl|assumption|(simp only [znl,znA3];(first|done|fail)))|exact ya5|exact ya7|exact jy|exact jz|refine jA ?_|refine ya9 ?_ ?_ ?_|refine jC rfl (by first|rfl|assumption|(simp only [znl,znA3];(first|done|fail)))|refine MR.agg (MRL.cons ?_ ?_)|refine MR.fn ?_|refine MRL.cons ?_ ?_|exact MRL.nil|refine jE ?_ ?_|exact jF|exact jG|refine yb1 ?_ ?_|refine MB.row ?_|refine jI ?_ ?_|exact ya8|refine jJ rfl (by first|rfl|assumption|(simp only [znl,znA3];(first|done|fail)))|refine yb2 ?_|rfl)|(simp only [znl,znA3];(first|done|fail))|(simp only [↓reduceIte,zlk,Nat.reduceEqDiff,reduceCtorEq])|(with_reducible first|refine jJ ?_ ?_|refine ya5 ?_|refine ju ?_|refine jv ?_|refine jw ?_|refine jx ?_ (by first|rfl|assumption|(simp only [znl,znA3];(first|done|fail)))|refine jC ?_ (by first|rfl|assumption|(simp only [znl,znA3];(first|done|fail)))))))
    all_goals (first | rfl)
  obtain ⟨k, acc⟩ := x
  obtain ⟨hk, ha, hp⟩ := hx
  dsimp only at hk ha hp ⊢
  by_cases hlt : k < l.length
  · have hg := getP hlt
    have hdl := hd (l.getD k default) (by rw [List.getD_eq_getElem?_getD, List.getElem?_eq_getElem hlt]; exact List.getElem_mem hlt)
    have hH := rhas_spec acc (by omega) (l.getD k default).i
    rw [pick3_at _ _ _ _ hlt] at hp
    have hse : acc.map encPrt ++ [encPrt (l.getD k default)] = (acc ++ [l.getD k default]).map encPrt := by rw [List.map_append]; rfl
    have hsl : (acc ++ [l.getD k default]).length = acc.length + 1 := by simp
    generalize hq : l.getD k default = q at hg hp hdl hH hse hsl
    simp only [encPrt] at hse
    by_cases h3 : acc.length = 3
    · rw [if_pos h3] at hp
      subst hp
      repeat' (first|(with_reducible first|refine yrl (by constructor) ?_|refine jk (fun M hM=>?_)|(refine hM _ ?_;clear hM M)|refine xb3 (by decide) ?_|refine yqa (by assumption) ?_ ?_|refine yqb (by assumption) ?_ ?_)|((with_reducible refine je ?_)<;>(first|rfl|assumption|(simp only [znl,znA3];(first|done|fail))))|(with_reducible refine jf (by (simp only [↓reduceIte,zlk,Nat.reduceEqDiff,reduceCtorEq]);exact rfl) ?_)|((with_reducible first|refine jg (fun hc=>?_) (fun hc=>?_)|refine jh (fun hc=>?_) (fun hc=>?_))<;>(try simp (disch:=omega) only [zhb] at hc)<;>(try (exfalso;omega))<;>(try subst hc))|(with_reducible refine ji (by omega) ?_)|(simp (config := { maxSteps := 400000 }) only [↓jt,↓reduceIte,zvs,reduceCtorEq,Nat.reduceEqDiff,Nat.reduceAdd,Nat.reduceLeDiff,Nat.reduceMul,Int.reduceBNe,Int.reduceBEq,Int.reduceEq,Int.reduceNe,Int.reduceLT,Int.reduceLE,Int.reduceGT,Int.reduceGE,Int.reduceNeg,Int.reduceToNat,Nat.reduceLT,Nat.reduceSub,tab,hg,Try.results27,jTA])|(simp (disch:=omega) only [ziw]))
      all_goals first
        | (exfalso; omega)
        | (((try simp only [threeV,List.map_nil]); simp only [zrds]; (repeat' (first | exact rd_nil | exact Rd.refl _ _ (by first|rfl|assumption|(simp only [znl,znA3];(first|done|fail))) | (refine And.intro ?_ ?_) | (refine rd_own (by (simp only [↓reduceIte,zlk,Nat.reduceEqDiff,reduceCtorEq]); exact rfl) ?_ ?_ ?_) | rfl | assumption | (simp only [znl,znA3];(first|done|fail)) | (simp; done) | (simp; omega)))); done)
    rw [if_neg h3] at hp
    by_cases h15 : q.i < 1 ∨ 5 < q.i
    · rw [if_pos h15] at hp
      subst hp
      repeat' (first|(with_reducible first|refine yrl (by constructor) ?_|refine jk (fun M hM=>?_)|(refine hM _ ?_;clear hM M)|refine xb3 (by decide) ?_|refine yqa (by assumption) ?_ ?_|refine yqb (by assumption) ?_ ?_)|((with_reducible refine je ?_)<;>(first|rfl|assumption|(simp only [znl,znA3];(first|done|fail))))|(with_reducible refine jf (by (simp only [↓reduceIte,zlk,Nat.reduceEqDiff,reduceCtorEq]);exact rfl) ?_)|((with_reducible first|refine jg (fun hc=>?_) (fun hc=>?_)|refine jh (fun hc=>?_) (fun hc=>?_))<;>(try simp (disch:=omega) only [zhb] at hc)<;>(try (exfalso;omega))<;>(try subst hc))|(with_reducible refine ji (by omega) ?_)|(simp (config := { maxSteps := 400000 }) only [↓jt,↓reduceIte,zvs,reduceCtorEq,Nat.reduceEqDiff,Nat.reduceAdd,Nat.reduceLeDiff,Nat.reduceMul,Int.reduceBNe,Int.reduceBEq,Int.reduceEq,Int.reduceNe,Int.reduceLT,Int.reduceLE,Int.reduceGT,Int.reduceGE,Int.reduceNeg,Int.reduceToNat,Nat.reduceLT,Nat.reduceSub,tab,hg,Try.results27,jTA])|(simp (disch:=omega) only [ziw]))
      all_goals first
        | (exfalso; omega)
        | (((try simp only [threeV,List.map_nil]); simp only [zrds]; (repeat' (first | exact rd_nil | exact Rd.refl _ _ (by first|rfl|assumption|(simp only [znl,znA3];(first|done|fail))) | (refine And.intro ?_ ?_) | (refine rd_own (by (simp only [↓reduceIte,zlk,Nat.reduceEqDiff,reduceCtorEq]); exact rfl) ?_ ?_ ?_) | rfl | assumption | (simp only [znl,znA3];(first|done|fail)) | (simp; done) | (simp; omega)))); done)
    rw [if_neg h15] at hp
    cases hh : hasI acc q.i with
    | true =>
      rw [hh, if_pos rfl] at hp
      rw [hh] at hH
      repeat' (first|(with_reducible first|refine yrl (by constructor) ?_|refine jk (fun M hM=>?_)|(refine hM _ ?_;clear hM M)|refine xb3 (by decide) ?_|refine yqa (by assumption) ?_ ?_|refine yqb (by assumption) ?_ ?_)|((with_reducible refine je ?_)<;>(first|rfl|assumption|(simp only [znl,znA3];(first|done|fail))))|(with_reducible refine jf (by (simp only [↓reduceIte,zlk,Nat.reduceEqDiff,reduceCtorEq]);exact rfl) ?_)|((with_reducible first|refine jg (fun hc=>?_) (fun hc=>?_)|refine jh (fun hc=>?_) (fun hc=>?_))<;>(try simp (disch:=omega) only [zhb] at hc)<;>(try (exfalso;omega))<;>(try subst hc))|(with_reducible refine ji (by omega) ?_)|(simp (config := { maxSteps := 400000 }) only [↓jt,↓reduceIte,zvs,reduceCtorEq,Nat.reduceEqDiff,Nat.reduceAdd,Nat.reduceLeDiff,Nat.reduceMul,Int.reduceBNe,Int.reduceBEq,Int.reduceEq,Int.reduceNe,Int.reduceLT,Int.reduceLE,Int.reduceGT,Int.reduceGE,Int.reduceNeg,Int.reduceToNat,Nat.reduceLT,Nat.reduceSub,tab,hg,Try.results27,jTA])|(simp (disch:=omega) only [ziw]))
      all_goals first
        | (exfalso; omega)
        | skip
      all_goals refine ja (call_plain (hH) (by repeat (first | exact rdl_nil | refine rdl_cons ?_ ?_ | exact Rd.refl _ _ (by first|rfl|assumption|(simp only [znl,znA3];(first|done|fail))) | (refine rd_own (by (simp only [↓reduceIte,zlk,Nat.reduceEqDiff,reduceCtorEq]); exact rfl) (by first | rfl | (simp; done) | (simp; omega)) rfl (by first|rfl|assumption|(simp only [znl,znA3];(first|done|fail)))) | exact rd_nil | refine (rd_a _ _ _).mpr ?_)) rfl rfl ?_)
      repeat' (first|(with_reducible first|refine yrl (by constructor) ?_|refine jk (fun M hM=>?_)|(refine hM _ ?_;clear hM M)|refine xb3 (by decide) ?_|refine yqa (by assumption) ?_ ?_|refine yqb (by assumption) ?_ ?_)|((with_reducible refine je ?_)<;>(first|rfl|assumption|(simp only [znl,znA3];(first|done|fail))))|(with_reducible refine jf (by (simp only [↓reduceIte,zlk,Nat.reduceEqDiff,reduceCtorEq]);exact rfl) ?_)|((with_reducible first|refine jg (fun hc=>?_) (fun hc=>?_)|refine jh (fun hc=>?_) (fun hc=>?_))<;>(try simp (disch:=omega) only [zhb] at hc)<;>(try (exfalso;omega))<;>(try subst hc))|(with_reducible refine ji (by omega) ?_)|(simp (config := { maxSteps := 400000 }) only [↓jt,↓reduceIte,zvs,reduceCtorEq,Nat.reduceEqDiff,Nat.reduceAdd,Nat.reduceLeDiff,Nat.reduceMul,Int.reduceBNe,Int.reduceBEq,Int.reduceEq,Int.reduceNe,Int.reduceLT,Int.reduceLE,Int.reduceGT,Int.reduceGE,Int.reduceNeg,Int.reduceToNat,Nat.reduceLT,Nat.reduceSub,tab,hg,Try.results27,jTA])|(simp (disch:=omega) only [ziw]))
      all_goals first
        | (exfalso; omega)
        | (refine xl1 (k + 1, acc) ?_ ⟨by show k + 1 ≤ l.length; omega, ha, hp⟩ (by show l.length - (k + 1) < l.length - k; omega); (refine yrn [(0, 0)] false ?_ ?_<;>(repeat' (first|(with_reducible first|exact ya1|exact ya2|exact ya3|refine jx rfl (by first|rfl|assumption|(simp only [znl,znA3];(first|done|fail)))|exact ya5|exact ya7|exact jy|exact jz|refine jA ?_|refine ya9 ?_ ?_ ?_|refine jC rfl (by first|rfl|assumption|(simp only [znl,znA3];(first|done|fail)))|refine MR.agg (MRL.cons ?_ ?_)|refine MR.fn ?_|refine MRL.cons ?_ ?_|exact MRL.nil|refine jE ?_ ?_|exact jF|exact jG|refine yb1 ?_ ?_|refine MB.row ?_|refine jI ?_ ?_|exact ya8|refine jJ rfl (by first|rfl|assumption|(simp only [znl,znA3];(first|done|fail)))|refine yb2 ?_|rfl)|(simp only [znl,znA3];(first|done|fail))|(simp only [↓reduceIte,zlk,Nat.reduceEqDiff,reduceCtorEq])|(with_reducible first|refine jJ ?_ ?_|refine ya5 ?_|refine ju ?_|refine jv ?_|refine jw ?_|refine jx ?_ (by first|rfl|assumption|(simp only [znl,znA3];(first|done|fail)))|refine jC ?_ (by first|rfl|assumption|(simp only [znl,znA3];(first|done|fail))))))); all_goals (first | rfl); done)
    | false =>
      rw [hh, if_neg (by decide)] at hp
      rw [hh] at hH
      by_cases hdn : (q.d.length : Int) = n
      · rw [if_neg (by simpa using hdn)] at hp
        repeat' (first|(with_reducible first|refine yrl (by constructor) ?_|refine jk (fun M hM=>?_)|(refine hM _ ?_;clear hM M)|refine xb3 (by decide) ?_|refine yqa (by assumption) ?_ ?_|refine yqb (by assumption) ?_ ?_)|((with_reducible refine je ?_)<;>(first|rfl|assumption|(simp only [znl,znA3];(first|done|fail))))|(with_reducible refine jf (by (simp only [↓reduceIte,zlk,Nat.reduceEqDiff,reduceCtorEq]);exact rfl) ?_)|((with_reducible first|refine jg (fun hc=>?_) (fun hc=>?_)|refine jh (fun hc=>?_) (fun hc=>?_))<;>(try simp (disch:=omega) only [zhb] at hc)<;>(try (exfalso;omega))<;>(try subst hc))|(with_reducible refine ji (by omega) ?_)|(simp (config := { maxSteps := 400000 }) only [↓jt,↓reduceIte,zvs,reduceCtorEq,Nat.reduceEqDiff,Nat.reduceAdd,Nat.reduceLeDiff,Nat.reduceMul,Int.reduceBNe,Int.reduceBEq,Int.reduceEq,Int.reduceNe,Int.reduceLT,Int.reduceLE,Int.reduceGT,Int.reduceGE,Int.reduceNeg,Int.reduceToNat,Nat.reduceLT,Nat.reduceSub,tab,hg,Try.results27,jTA])|(simp (disch:=omega) only [ziw]))
        all_goals first
          | (exfalso; omega)
          | skip
        all_goals refine ja (call_plain (hH) (by repeat (first | exact rdl_nil | refine rdl_cons ?_ ?_ | exact Rd.refl _ _ (by first|rfl|assumption|(simp only [znl,znA3];(first|done|fail))) | (refine rd_own (by (simp only [↓reduceIte,zlk,Nat.reduceEqDiff,reduceCtorEq]); exact rfl) (by first | rfl | (simp; done) | (simp; omega)) rfl (by first|rfl|assumption|(simp only [znl,znA3];(first|done|fail)))) | exact rd_nil | refine (rd_a _ _ _).mpr ?_)) rfl rfl ?_)
        repeat' (first|(with_reducible first|refine yrl (by constructor) ?_|refine jk (fun M hM=>?_)|(refine hM _ ?_;clear hM M)|refine xb3 (by decide) ?_|refine yqa (by assumption) ?_ ?_|refine yqb (by assumption) ?_ ?_)|((with_reducible refine je ?_)<;>(first|rfl|assumption|(simp only [znl,znA3];(first|done|fail))))|(with_reducible refine jf (by (simp only [↓reduceIte,zlk,Nat.reduceEqDiff,reduceCtorEq]);exact rfl) ?_)|((with_reducible first|refine jg (fun hc=>?_) (fun hc=>?_)|refine jh (fun hc=>?_) (fun hc=>?_))<;>(try simp (disch:=omega) only [zhb] at hc)<;>(try (exfalso;omega))<;>(try subst hc))|(with_reducible refine ji (by omega) ?_)|(simp (config := { maxSteps := 400000 }) only [↓jt,↓reduceIte,zvs,reduceCtorEq,Nat.reduceEqDiff,Nat.reduceAdd,Nat.reduceLeDiff,Nat.reduceMul,Int.reduceBNe,Int.reduceBEq,Int.reduceEq,Int.reduceNe,Int.reduceLT,Int.reduceLE,Int.reduceGT,Int.reduceGE,Int.reduceNeg,Int.reduceToNat,Nat.reduceLT,Nat.reduceSub,tab,hg,Try.results27,jTA])|(simp (disch:=omega) only [ziw]))
        all_goals first
          | (exfalso; omega)
          | (refine xl1 (k + 1, acc ++ [q]) ?_ ⟨by show k + 1 ≤ l.length; omega, by show (acc ++ [q]).length ≤ 3; rw [hsl]; omega, hp⟩ (by show l.length - (k + 1) < l.length - k; omega); (refine yrn [(0, 2)] false ?_ ?_<;>(repeat' (first|(with_reducible first|exact ya1|exact ya2|exact ya3|refine jx rfl (by first|rfl|assumption|(simp only [znl,znA3];(first|done|fail)))|exact ya5|exact ya7|exact jy|exact jz|refine jA ?_|refine ya9 ?_ ?_ ?_|refine jC rfl (by first|rfl|assumption|(simp only [znl,znA3];(first|done|fail)))|refine MR.agg (MRL.cons ?_ ?_)|refine MR.fn ?_|refine MRL.cons ?_ ?_|exact MRL.nil|refine jE ?_ ?_|exact jF|exact jG|refine yb1 ?_ ?_|refine MB.row ?_|refine jI ?_ ?_|exact ya8|refine jJ rfl (by first|rfl|assumption|(simp only [znl,znA3];(first|done|fail)))|refine yb2 ?_|rfl)|(simp only [znl,znA3];(first|done|fail))|(simp only [↓reduceIte,zlk,Nat.reduceEqDiff,reduceCtorEq])|(with_reducible first|refine jJ ?_ ?_|refine ya5 ?_|refine ju ?_|refine jv ?_|refine jw ?_|refine jx ?_ (by first|rfl|assumption|(simp only [znl,znA3];(first|done|fail)))|refine jC ?_ (by first|rfl|assumption|(simp only [znl,znA3];(first|done|fail))))))); all_goals (first | rfl | exact hse | (rw [hsl]; done) | (rw [hsl, List.length_map]; done)); done)
      · rw [if_pos hdn] at hp
        subst hp
        repeat' (first|(with_reducible first|refine yrl (by constructor) ?_|refine jk (fun M hM=>?_)|(refine hM _ ?_;clear hM M)|refine xb3 (by decide) ?_|refine yqa (by assumption) ?_ ?_|refine yqb (by assumption) ?_ ?_)|((with_reducible refine je ?_)<;>(first|rfl|assumption|(simp only [znl,znA3];(first|done|fail))))|(with_reducible refine jf (by (simp only [↓reduceIte,zlk,Nat.reduceEqDiff,reduceCtorEq]);exact rfl) ?_)|((with_reducible first|refine jg (fun hc=>?_) (fun hc=>?_)|refine jh (fun hc=>?_) (fun hc=>?_))<;>(try simp (disch:=omega) only [zhb] at hc)<;>(try (exfalso;omega))<;>(try subst hc))|(with_reducible refine ji (by omega) ?_)|(simp (config := { maxSteps := 400000 }) only [↓jt,↓reduceIte,zvs,reduceCtorEq,Nat.reduceEqDiff,Nat.reduceAdd,Nat.reduceLeDiff,Nat.reduceMul,Int.reduceBNe,Int.reduceBEq,Int.reduceEq,Int.reduceNe,Int.reduceLT,Int.reduceLE,Int.reduceGT,Int.reduceGE,Int.reduceNeg,Int.reduceToNat,Nat.reduceLT,Nat.reduceSub,tab,hg,Try.results27,jTA])|(simp (disch:=omega) only [ziw]))
        all_goals first
          | (exfalso; omega)
          | skip
        all_goals refine ja (call_plain (hH) (by repeat (first | exact rdl_nil | refine rdl_cons ?_ ?_ | exact Rd.refl _ _ (by first|rfl|assumption|(simp only [znl,znA3];(first|done|fail))) | (refine rd_own (by (simp only [↓reduceIte,zlk,Nat.reduceEqDiff,reduceCtorEq]); exact rfl) (by first | rfl | (simp; done) | (simp; omega)) rfl (by first|rfl|assumption|(simp only [znl,znA3];(first|done|fail)))) | exact rd_nil | refine (rd_a _ _ _).mpr ?_)) rfl rfl ?_)
        repeat' (first|(with_reducible first|refine yrl (by constructor) ?_|refine jk (fun M hM=>?_)|(refine hM _ ?_;clear hM M)|refine xb3 (by decide) ?_|refine yqa (by assumption) ?_ ?_|refine yqb (by assumption) ?_ ?_)|((with_reducible refine je ?_)<;>(first|rfl|assumption|(simp only [znl,znA3];(first|done|fail))))|(with_reducible refine jf (by (simp only [↓reduceIte,zlk,Nat.reduceEqDiff,reduceCtorEq]);exact rfl) ?_)|((with_reducible first|refine jg (fun hc=>?_) (fun hc=>?_)|refine jh (fun hc=>?_) (fun hc=>?_))<;>(try simp (disch:=omega) only [zhb] at hc)<;>(try (exfalso;omega))<;>(try subst hc))|(with_reducible refine ji (by omega) ?_)|(simp (config := { maxSteps := 400000 }) only [↓jt,↓reduceIte,zvs,reduceCtorEq,Nat.reduceEqDiff,Nat.reduceAdd,Nat.reduceLeDiff,Nat.reduceMul,Int.reduceBNe,Int.reduceBEq,Int.reduceEq,Int.reduceNe,Int.reduceLT,Int.reduceLE,Int.reduceGT,Int.reduceGE,Int.reduceNeg,Int.reduceToNat,Nat.reduceLT,Nat.reduceSub,tab,hg,Try.results27,jTA])|(simp (disch:=omega) only [ziw]))
        all_goals first
          | (exfalso; omega)
          | (((try simp only [threeV,List.map_nil]); simp only [zrds]; (repeat' (first | exact rd_nil | exact Rd.refl _ _ (by first|rfl|assumption|(simp only [znl,znA3];(first|done|fail))) | (refine And.intro ?_ ?_) | (refine rd_own (by (simp only [↓reduceIte,zlk,Nat.reduceEqDiff,reduceCtorEq]); exact rfl) ?_ ?_ ?_) | rfl | assumption | (simp only [znl,znA3];(first|done|fail)) | (simp; done) | (simp; omega)))); done)
  · obtain rfl : k = l.length := by omega
    rw [List.drop_length, pick3] at hp
    by_cases h3 : acc.length < 3
    · rw [if_pos h3] at hp
      subst hp
      repeat' (first|(with_reducible first|refine yrl (by constructor) ?_|refine jk (fun M hM=>?_)|(refine hM _ ?_;clear hM M)|refine xb3 (by decide) ?_|refine yqa (by assumption) ?_ ?_|refine yqb (by assumption) ?_ ?_)|((with_reducible refine je ?_)<;>(first|rfl|assumption|(simp only [znl,znA3];(first|done|fail))))|(with_reducible refine jf (by (simp only [↓reduceIte,zlk,Nat.reduceEqDiff,reduceCtorEq]);exact rfl) ?_)|((with_reducible first|refine jg (fun hc=>?_) (fun hc=>?_)|refine jh (fun hc=>?_) (fun hc=>?_))<;>(try simp (disch:=omega) only [zhb] at hc)<;>(try (exfalso;omega))<;>(try subst hc))|(with_reducible refine ji (by omega) ?_)|(simp (config := { maxSteps := 400000 }) only [↓jt,↓reduceIte,zvs,reduceCtorEq,Nat.reduceEqDiff,Nat.reduceAdd,Nat.reduceLeDiff,Nat.reduceMul,Int.reduceBNe,Int.reduceBEq,Int.reduceEq,Int.reduceNe,Int.reduceLT,Int.reduceLE,Int.reduceGT,Int.reduceGE,Int.reduceNeg,Int.reduceToNat,Nat.reduceLT,Nat.reduceSub,tab,Try.results27,jTA])|(simp (disch:=omega) only [ziw]))
      all_goals first
        | (exfalso; omega)
        | (((try simp only [threeV,List.map_nil]); simp only [zrds]; (repeat' (first | exact rd_nil | exact Rd.refl _ _ (by first|rfl|assumption|(simp only [znl,znA3];(first|done|fail))) | (refine And.intro ?_ ?_) | (refine rd_own (by (simp only [↓reduceIte,zlk,Nat.reduceEqDiff,reduceCtorEq]); exact rfl) ?_ ?_ ?_) | rfl | assumption | (simp only [znl,znA3];(first|done|fail)) | (simp; done) | (simp; omega)))); done)
    · rw [if_neg h3] at hp
      subst hp
      repeat' (first|(with_reducible first|refine yrl (by constructor) ?_|refine jk (fun M hM=>?_)|(refine hM _ ?_;clear hM M)|refine xb3 (by decide) ?_|refine yqa (by assumption) ?_ ?_|refine yqb (by assumption) ?_ ?_)|((with_reducible refine je ?_)<;>(first|rfl|assumption|(simp only [znl,znA3];(first|done|fail))))|(with_reducible refine jf (by (simp only [↓reduceIte,zlk,Nat.reduceEqDiff,reduceCtorEq]);exact rfl) ?_)|((with_reducible first|refine jg (fun hc=>?_) (fun hc=>?_)|refine jh (fun hc=>?_) (fun hc=>?_))<;>(try simp (disch:=omega) only [zhb] at hc)<;>(try (exfalso;omega))<;>(try subst hc))|(with_reducible refine ji (by omega) ?_)|(simp (config := { maxSteps := 400000 }) only [↓jt,↓reduceIte,zvs,reduceCtorEq,Nat.reduceEqDiff,Nat.reduceAdd,Nat.reduceLeDiff,Nat.reduceMul,Int.reduceBNe,Int.reduceBEq,Int.reduceEq,Int.reduceNe,Int.reduceLT,Int.reduceLE,Int.reduceGT,Int.reduceGE,Int.reduceNeg,Int.reduceToNat,Nat.reduceLT,Nat.reduceSub,tab,Try.results27,jTA])|(simp (disch:=omega) only [ziw]))
      all_goals first
        | (exfalso; omega)
        | (((try simp only [threeV,List.map_nil]); simp only [zrds]; (repeat' (first | exact rd_nil | exact Rd.refl _ _ (by first|rfl|assumption|(simp only [znl,znA3];(first|done|fail))) | (refine And.intro ?_ ?_) | (refine rd_own (by (simp only [↓reduceIte,zlk,Nat.reduceEqDiff,reduceCtorEq]); exact rfl) ?_ ?_ ?_) | rfl | assumption | (simp only [znl,znA3];(first|done|fail)) | (simp; done) | (simp; omega)))); done)
end Go.Proofs.Ytoibnghkcdopeaa.V
end
section
namespace Go.Proofs.Ytoibnghkcdopeaa.V
open Go Go.Proofs.Ytoibnghkcdopeaa Go.Proofs.Ytoibnghkcdopeaa.Gf
set_option maxRecDepth 100000
def znA4 := And.intro @nls_u <| And.intro @nls_prt <| And.intro @nl_prt <| True.intro
set_option maxHeartbeats 4000000
theorem val123 (a b c t : UInt8) : atVal [1, 2, 3] [a, b, c] t = lag [1, 2, 3] [a, b, c] t := by
  have h : atOk [1, 2, 3] [a, b, c] = true := by unfold atOk dis; simp
  rw [atVal, if_pos h]
def u8n (k : Nat) : UInt8 := UInt8.ofNat k
def cutTo (d : List UInt8) (k : Nat) : List Prt := (List.range k).map fun i : Nat => (⟨(i : Int) + 1, partOf d (u8n (i + 1))⟩ : Prt)
theorem cutTo_len (d : List UInt8) (k : Nat) : (cutTo d k).length = k := by simp [cutTo]
theorem cutTo_snoc (d : List UInt8) (k : Nat) : cutTo d (k + 1) = cutTo d k ++ [⟨k + 1, partOf d (u8n (k + 1))⟩] := by simp [cutTo, List.range_succ]
theorem cutTo_five (d : List UInt8) : cutTo d 5 = cutS d := rfl
theorem take_snocU (l : List UInt8) (k : Nat) (h : k < l.length) : l.take (k + 1) = l.take k ++ [nth l k] := by
  rw [List.take_add_one, nth, List.getD_eq_getElem?_getD, List.getElem?_eq_getElem h]; rfl
theorem partOf_at (d : List UInt8) (p : UInt8) (i : Nat) (h : i < rowsN d.length) : nth (partOf d p) i = atVal [1, 2, 3] [nth d i, nth d (rowsN d.length + i), nth d (2 * rowsN d.length + i)] p := by
  rw [val123, partOf_nth d p i h, third_nth, third_nth, third_nth, Nat.zero_mul, Nat.zero_add, Nat.one_mul]
theorem B8_u8n (k : Nat) (h : k < 256) : B8 (u8n k) = k := B8_of k h
theorem rcut_spec (d : List UInt8) (hd : d.length ≤ 100000) : Spec Try.prog 12 [.str d] (encPrts (cutS d)) := by
  obtain ⟨n, hn⟩ : ∃ n, n = rowsN d.length := ⟨_, rfl⟩
  have hnb : n ≤ 40000 := by rw [hn]; unfold rowsN; omega
  have hR := rrows_spec d.length (by unfold i64P; omega)
  rw [rowsI_nat, ← hn] at hR
  refine spec_ok Try.func12 rfl rfl (by kernel_rfl) (k := 1) rfl (by decide) ?_
  repeat' (first|(with_reducible first|refine yrl (by constructor) ?_|refine jk (fun M hM=>?_)|(refine hM _ ?_;clear hM M)|refine xb3 (by decide) ?_|refine yqa (by assumption) ?_ ?_|refine yqb (by assumption) ?_ ?_)|((with_reducible refine je ?_)<;>(first|rfl|assumption|(simp only [znl,znA4];(first|done|fail))))|(with_reducible refine jf (by (simp only [↓reduceIte,zlk,Nat.reduceEqDiff,reduceCtorEq]);exact rfl) ?_)|((with_reducible first|refine jg (fun hc=>?_) (fun hc=>?_)|refine jh (fun hc=>?_) (fun hc=>?_))<;>(try simp (disch:=omega) only [zhb] at hc)<;>(try (exfalso;omega))<;>(try subst hc))|(with_reducible refine ji (by omega) ?_)|(simp (config := { maxSteps := 400000 }) only [↓jt,↓reduceIte,zvs,reduceCtorEq,Nat.reduceEqDiff,Nat.reduceAdd,Nat.reduceLeDiff,Nat.reduceMul,Int.reduceBNe,Int.reduceBEq,Int.reduceEq,Int.reduceNe,Int.reduceLT,Int.reduceLE,Int.reduceGT,Int.reduceGE,Int.reduceNeg,Int.reduceToNat,Nat.reduceLT,Nat.reduceSub,tab,Try.results12,jTA])|(simp (disch:=omega) only [ziw]))
  refine ok_loop (fun k : Nat => ⟨slots [(0, .str d), (3, .int .i64 n), (4, .sl (some (0, [], 0)) k), (5, .int .i64 (k + 1))], rows [(0, .row (.arr k prtSh) (.agg ((cutTo d k).map encPrt)))], 1⟩) (fun k => k ≤ 5) (fun k => 5 - k) 0 ?_ (Nat.zero_le _) (fun k hk => ?_)
  · (refine yrn [(0, 0)] false ?_ ?_<;>(repeat' (first|(with_reducible first|exact ya1|exact ya2|exact ya3|refine jx rfl (by first|rfl|assumption|(simp only [znl,znA4];(first|done|fail)))|exact ya5|exact ya7|exact jy|exact jz|refine jA ?_|refine ya9 ?_ ?_ ?_|refine jC rfl (by first|rfl|assumption|(simp only [znl,znA4];(first|done|fail)))|refine MR.agg (MRL.cons ?_ ?_)|refine MR.fn ?_|refine MRL.cons ?_ ?_|exact MRL.nil|refine jE ?_ ?_|exact jF|exact jG|refine yb1 ?_ ?_|refine MB.row ?_|refine jI ?_ ?_|exact ya8|refine jJ rfl (by first|rfl|assumption|(simp only [znl,znA4];(first|done|fail)))|refine yb2 ?_|rfl)|(simp only [znl,znA4];(first|done|fail))|(simp only [↓reduceIte,zlk,Nat.reduceEqDiff,reduceCtorEq])|(with_reducible first|refine jJ ?_ ?_|refine ya5 ?_|refine ju ?_|refine jv ?_|refine jw ?_|refine jx ?_ (by first|rfl|assumption|(simp only [znl,znA4];(first|done|fail)))|refine jC ?_ (by first|rfl|assumption|(simp only [znl,znA4];(first|done|fail)))))))
    all_goals (first | rfl)
  have hcl := cutTo_len d k
  by_cases hlt : k < 5
  · have hs := cutTo_snoc d k
    have hb8 := B8_u8n (k + 1) (by omega)
    obtain ⟨p, hp⟩ : ∃ p, p = u8n (k + 1) := ⟨_, rfl⟩
    rw [← hp] at hs hb8
    have hat := fun i h => partOf_at d p i h
    have hpl := partOf_len d p
    rw [← hn] at hat hpl
    have hsn := fun i h => take_snocU (partOf d p) i h
    rw [hpl] at hsn
    have htl : (partOf d p).take n = partOf d p := by rw [← hpl]; exact List.take_length
    have hse : (cutTo d k).map encPrt ++ [encPrt ⟨k + 1, partOf d p⟩] = (cutTo d (k + 1)).map encPrt := by rw [hs, List.map_append]; rfl
    simp only [encPrt] at hse
    generalize cutTo d k = C at hse hcl ⊢
    generalize partOf d p = L at hat hpl hsn htl hse
    repeat' (first|(with_reducible first|refine yrl (by constructor) ?_|refine jk (fun M hM=>?_)|(refine hM _ ?_;clear hM M)|refine xb3 (by decide) ?_|refine yqa (by assumption) ?_ ?_|refine yqb (by assumption) ?_ ?_)|((with_reducible refine je ?_)<;>(first|rfl|assumption|(simp only [znl,znA4];(first|done|fail))))|(with_reducible refine jf (by (simp only [↓reduceIte,zlk,Nat.reduceEqDiff,reduceCtorEq]);exact rfl) ?_)|((with_reducible first|refine jg (fun hc=>?_) (fun hc=>?_)|refine jh (fun hc=>?_) (fun hc=>?_))<;>(try simp (disch:=omega) only [zhb] at hc)<;>(try (exfalso;omega))<;>(try subst hc))|(with_reducible refine ji (by omega) ?_)|(simp (config := { maxSteps := 400000 }) only [↓jt,↓reduceIte,zvs,reduceCtorEq,Nat.reduceEqDiff,Nat.reduceAdd,Nat.reduceLeDiff,Nat.reduceMul,Int.reduceBNe,Int.reduceBEq,Int.reduceEq,Int.reduceNe,Int.reduceLT,Int.reduceLE,Int.reduceGT,Int.reduceGE,Int.reduceNeg,Int.reduceToNat,Nat.reduceLT,Nat.reduceSub,tab,Try.results12,jTA])|(simp (disch:=omega) only [ziw]))
    refine ok_loop (fun i : Nat => ⟨slots [(0, .str d), (3, .int .i64 n), (4, .sl (some (0, [], 0)) k), (5, .int .i64 (k + 1)), (6, .sl (some (1, [], 0)) i), (7, .int .i64 i)], rows [(0, .row (.arr k prtSh) (.agg (C.map encPrt))), (1, .row (.arr i .cell) (.agg ((L.take i).map encU)))], 2⟩) (fun i => i ≤ n) (fun i => n - i) 0 ?_ (Nat.zero_le _) (fun i hi => ?_)
    · (refine yrn [(0, 0), (1, 1)] false ?_ ?_<;>(repeat' (first|(with_reducible first|exact ya1|exact ya2|exact ya3|refine jx rfl (by first|rfl|assumption|(simp only [znl,znA4];(first|done|fail)))|exact ya5|exact ya7|exact jy|exact jz|refine jA ?_|refine ya9 ?_ ?_ ?_|refine jC rfl (by first|rfl|assumption|(simp only [znl,znA4];(first|done|fail)))|refine MR.agg (MRL.cons ?_ ?_)|refine MR.fn ?_|refine MRL.cons ?_ ?_|exact MRL.nil|refine jE ?_ ?_|exact jF|exact jG|refine yb1 ?_ ?_|refine MB.row ?_|refine jI ?_ ?_|exact ya8|refine jJ rfl (by first|rfl|assumption|(simp only [znl,znA4];(first|done|fail)))|refine yb2 ?_|rfl)|(simp only [znl,znA4];(first|done|fail))|(simp only [↓reduceIte,zlk,Nat.reduceEqDiff,reduceCtorEq])|(with_reducible first|refine jJ ?_ ?_|refine ya5 ?_|refine ju ?_|refine jv ?_|refine jw ?_|refine jx ?_ (by first|rfl|assumption|(simp only [znl,znA4];(first|done|fail)))|refine jC ?_ (by first|rfl|assumption|(simp only [znl,znA4];(first|done|fail)))))))
      all_goals (first | rfl)
    have hil : (L.take i).length = i := by rw [List.length_take, hpl]; omega
    by_cases hli : i < n
    · have h1 := rat7_spec d (by omega) i (by omega)
      have h2 := rat7_spec d (by omega) (n + i) (by omega)
      have h3 := rat7_spec d (by omega) (2 * n + i) (by omega)
      have h4 := rat_spec [1, 2, 3] [nth d i, nth d (n + i), nth d (2 * n + i)] (by simp) (by simp) p
      rw [← hat i hli, hb8] at h4
      have hsi : (L.take i).map encU ++ [encU (nth L i)] = (L.take (i + 1)).map encU := by rw [hsn i hli, List.map_append]; rfl
      simp only [encU] at hsi
      push_cast at h2 h3 h4
      have e1 : ([1, 2, 3] : List UInt8).map encU = [.int .u8 1, .int .u8 2, .int .u8 3] := rfl
      have e2 : ∀ a b c : UInt8, [a, b, c].map encU = [.int .u8 (B8 a), .int .u8 (B8 b), .int .u8 (B8 c)] := fun _ _ _ => rfl
      simp only [encBs,e1,e2] at h4
      generalize L.take i = T at hil hsi ⊢
      generalize nth L i = v at hsi h4
      repeat' (first|(with_reducible first|refine yrl (by constructor) ?_|refine jk (fun M hM=>?_)|(refine hM _ ?_;clear hM M)|refine xb3 (by decide) ?_|refine yqa (by assumption) ?_ ?_|refine yqb (by assumption) ?_ ?_)|((with_reducible refine je ?_)<;>(first|rfl|assumption|(simp only [znl,znA4];(first|done|fail))))|(with_reducible refine jf (by (simp only [↓reduceIte,zlk,Nat.reduceEqDiff,reduceCtorEq]);exact rfl) ?_)|((with_reducible first|refine jg (fun hc=>?_) (fun hc=>?_)|refine jh (fun hc=>?_) (fun hc=>?_))<;>(try simp (disch:=omega) only [zhb] at hc)<;>(try (exfalso;omega))<;>(try subst hc))|(with_reducible refine ji (by omega) ?_)|(simp (config := { maxSteps := 400000 }) only [↓jt,↓reduceIte,zvs,reduceCtorEq,Nat.reduceEqDiff,Nat.reduceAdd,Nat.reduceLeDiff,Nat.reduceMul,Int.reduceBNe,Int.reduceBEq,Int.reduceEq,Int.reduceNe,Int.reduceLT,Int.reduceLE,Int.reduceGT,Int.reduceGE,Int.reduceNeg,Int.reduceToNat,Nat.reduceLT,Nat.reduceSub,tab,Try.results12,jTA])|(simp (disch:=omega) only [ziw]))
      all_goals (try (exfalso; omega))
      refine ja (call_plain (h4) (by repeat (first | exact rdl_nil | refine rdl_cons ?_ ?_ | exact Rd.refl _ _ (by first|rfl|assumption|(simp only [znl,znA4];(first|done|fail))) | (refine rd_own (by (simp only [↓reduceIte,zlk,Nat.reduceEqDiff,reduceCtorEq,setParts,rep_one,rep_two,rep_three,List.set_cons_zero,List.set_cons_succ,List.map_cons,List.map_nil]); exact rfl) (by first | rfl | (simp; done) | (simp; omega)) rfl (by first|rfl|assumption|(simp only [znl,znA4];(first|done|fail)))) | (refine rd_pre (by (simp only [↓reduceIte,zlk,Nat.reduceEqDiff,reduceCtorEq,setParts,rep_one,rep_two,rep_three,List.set_cons_zero,List.set_cons_succ,List.map_cons,List.map_nil]); exact rfl) (by first | (simp; done) | (simp; omega)) (by first | rfl | (simp; done)) (by first|rfl|assumption|(simp only [znl,znA4];(first|done|fail)))) | exact rd_nil | refine (rd_a _ _ _).mpr ?_)) rfl rfl ?_)
      repeat' (first|(with_reducible first|refine yrl (by constructor) ?_|refine jk (fun M hM=>?_)|(refine hM _ ?_;clear hM M)|refine xb3 (by decide) ?_|refine yqa (by assumption) ?_ ?_|refine yqb (by assumption) ?_ ?_)|((with_reducible refine je ?_)<;>(first|rfl|assumption|(simp only [znl,znA4];(first|done|fail))))|(with_reducible refine jf (by (simp only [↓reduceIte,zlk,Nat.reduceEqDiff,reduceCtorEq]);exact rfl) ?_)|((with_reducible first|refine jg (fun hc=>?_) (fun hc=>?_)|refine jh (fun hc=>?_) (fun hc=>?_))<;>(try simp (disch:=omega) only [zhb] at hc)<;>(try (exfalso;omega))<;>(try subst hc))|(with_reducible refine ji (by omega) ?_)|(simp (config := { maxSteps := 400000 }) only [↓jt,↓reduceIte,zvs,reduceCtorEq,Nat.reduceEqDiff,Nat.reduceAdd,Nat.reduceLeDiff,Nat.reduceMul,Int.reduceBNe,Int.reduceBEq,Int.reduceEq,Int.reduceNe,Int.reduceLT,Int.reduceLE,Int.reduceGT,Int.reduceGE,Int.reduceNeg,Int.reduceToNat,Nat.reduceLT,Nat.reduceSub,tab,Try.results12,jTA])|(simp (disch:=omega) only [ziw]))
      all_goals first
        | (exfalso; omega)
        | (refine xl1 (i + 1) ?_ (by show i + 1 ≤ n; omega) (by show n - (i + 1) < n - i; omega); (refine yrn [(0, 0), (1, 5)] false ?_ ?_<;>(repeat' (first|(with_reducible first|exact ya1|exact ya2|exact ya3|refine jx rfl (by first|rfl|assumption|(simp only [znl,znA4];(first|done|fail)))|exact ya5|exact ya7|exact jy|exact jz|refine jA ?_|refine ya9 ?_ ?_ ?_|refine jC rfl (by first|rfl|assumption|(simp only [znl,znA4];(first|done|fail)))|refine MR.agg (MRL.cons ?_ ?_)|refine MR.fn ?_|refine MRL.cons ?_ ?_|exact MRL.nil|refine jE ?_ ?_|exact jF|exact jG|refine yb1 ?_ ?_|refine MB.row ?_|refine jI ?_ ?_|exact ya8|refine jJ rfl (by first|rfl|assumption|(simp only [znl,znA4];(first|done|fail)))|refine yb2 ?_|rfl)|(simp only [znl,znA4];(first|done|fail))|(simp only [↓reduceIte,zlk,Nat.reduceEqDiff,reduceCtorEq])|(with_reducible first|refine jJ ?_ ?_|refine ya5 ?_|refine ju ?_|refine jv ?_|refine jw ?_|refine jx ?_ (by first|rfl|assumption|(simp only [znl,znA4];(first|done|fail)))|refine jC ?_ (by first|rfl|assumption|(simp only [znl,znA4];(first|done|fail))))))); all_goals (first | rfl | exact hsi); done)
    · obtain rfl : i = n := by omega
      rw [htl]
      have hbo := bytesOf_u L
      have htk : (L.map encU).take i = L.map encU := by rw [← List.map_take, htl]
      repeat' (first|(with_reducible first|refine yrl (by constructor) ?_|refine jk (fun M hM=>?_)|(refine hM _ ?_;clear hM M)|refine xb3 (by decide) ?_|refine yqa (by assumption) ?_ ?_|refine yqb (by assumption) ?_ ?_)|((with_reducible refine je ?_)<;>(first|rfl|assumption|(simp only [znl,znA4];(first|done|fail))))|(with_reducible refine jf (by (simp only [↓reduceIte,zlk,Nat.reduceEqDiff,reduceCtorEq]);exact rfl) ?_)|((with_reducible first|refine jg (fun hc=>?_) (fun hc=>?_)|refine jh (fun hc=>?_) (fun hc=>?_))<;>(try simp (disch:=omega) only [zhb] at hc)<;>(try (exfalso;omega))<;>(try subst hc))|(with_reducible refine ji (by omega) ?_)|(simp (config := { maxSteps := 400000 }) only [↓jt,↓reduceIte,zvs,reduceCtorEq,Nat.reduceEqDiff,Nat.reduceAdd,Nat.reduceLeDiff,Nat.reduceMul,Int.reduceBNe,Int.reduceBEq,Int.reduceEq,Int.reduceNe,Int.reduceLT,Int.reduceLE,Int.reduceGT,Int.reduceGE,Int.reduceNeg,Int.reduceToNat,Nat.reduceLT,Nat.reduceSub,tab,hbo,htk,hpl,Try.results12,jTA])|(simp (disch:=omega) only [ziw]))
      all_goals first
        | (exfalso; omega)
        | (refine xl1 (k + 1) ?_ (by show k + 1 ≤ 5; omega) (by show 5 - (k + 1) < 5 - k; omega); (refine yrn [(0, 3)] false ?_ ?_<;>(repeat' (first|(with_reducible first|exact ya1|exact ya2|exact ya3|refine jx rfl (by first|rfl|assumption|(simp only [znl,znA4];(first|done|fail)))|exact ya5|exact ya7|exact jy|exact jz|refine jA ?_|refine ya9 ?_ ?_ ?_|refine jC rfl (by first|rfl|assumption|(simp only [znl,znA4];(first|done|fail)))|refine MR.agg (MRL.cons ?_ ?_)|refine MR.fn ?_|refine MRL.cons ?_ ?_|exact MRL.nil|refine jE ?_ ?_|exact jF|exact jG|refine yb1 ?_ ?_|refine MB.row ?_|refine jI ?_ ?_|exact ya8|refine jJ rfl (by first|rfl|assumption|(simp only [znl,znA4];(first|done|fail)))|refine yb2 ?_|rfl)|(simp only [znl,znA4];(first|done|fail))|(simp only [↓reduceIte,zlk,Nat.reduceEqDiff,reduceCtorEq])|(with_reducible first|refine jJ ?_ ?_|refine ya5 ?_|refine ju ?_|refine jv ?_|refine jw ?_|refine jx ?_ (by first|rfl|assumption|(simp only [znl,znA4];(first|done|fail)))|refine jC ?_ (by first|rfl|assumption|(simp only [znl,znA4];(first|done|fail))))))); all_goals (first | rfl | exact hse | omega); done)
  · obtain rfl : k = 5 := by omega
    rw [cutTo_five]
    repeat' (first|(with_reducible first|refine yrl (by constructor) ?_|refine jk (fun M hM=>?_)|(refine hM _ ?_;clear hM M)|refine xb3 (by decide) ?_|refine yqa (by assumption) ?_ ?_|refine yqb (by assumption) ?_ ?_)|((with_reducible refine je ?_)<;>(first|rfl|assumption|(simp only [znl,znA4];(first|done|fail))))|(with_reducible refine jf (by (simp only [↓reduceIte,zlk,Nat.reduceEqDiff,reduceCtorEq]);exact rfl) ?_)|((with_reducible first|refine jg (fun hc=>?_) (fun hc=>?_)|refine jh (fun hc=>?_) (fun hc=>?_))<;>(try simp (disch:=omega) only [zhb] at hc)<;>(try (exfalso;omega))<;>(try subst hc))|(with_reducible refine ji (by omega) ?_)|(simp (config := { maxSteps := 400000 }) only [↓jt,↓reduceIte,zvs,reduceCtorEq,Nat.reduceEqDiff,Nat.reduceAdd,Nat.reduceLeDiff,Nat.reduceMul,Int.reduceBNe,Int.reduceBEq,Int.reduceEq,Int.reduceNe,Int.reduceLT,Int.reduceLE,Int.reduceGT,Int.reduceGE,Int.reduceNeg,Int.reduceToNat,Nat.reduceLT,Nat.reduceSub,tab,Try.results12,jTA])|(simp (disch:=omega) only [ziw]))
    all_goals first
      | (exfalso; omega)
      | ((refine rd_own (by (simp only [↓reduceIte,zlk,Nat.reduceEqDiff,reduceCtorEq]); exact rfl) ?_ ?_ ?_) <;> (first | rfl | assumption | (simp only [znl,znA4];(first|done|fail)) | (simp; done) | (simp; omega) | skip); done)
end Go.Proofs.Ytoibnghkcdopeaa.V
end
section
namespace Go.Proofs.Ytoibnghkcdopeaa.V
open Go Go.Proofs.Ytoibnghkcdopeaa Go.Proofs.Ytoibnghkcdopeaa.Gf
set_option maxRecDepth 100000
def znA5 := And.intro @nls_u <| And.intro @nls_prt <| And.intro @nl_prt <| True.intro
set_option maxHeartbeats 4000000
structure GoodP (n : Int) (l : List Prt) : Prop where
  nd : (l.map (·.i)).Nodup
  rg : ∀ p ∈ l, 1 ≤ p.i ∧ p.i ≤ 5
  ln : ∀ p ∈ l, (p.d.length : Int) = n
theorem GoodP.nil (n : Int) : GoodP n [] := ⟨List.nodup_nil, (fun p hp => by cases hp), (fun p hp => by cases hp)⟩
theorem hasI_mem {l : List Prt} {i : Int} : hasI l i = false → i ∉ l.map (·.i) := fun h hm => by
  obtain ⟨p, hp, rfl⟩ := List.mem_map.1 hm
  unfold hasI at h
  rw [List.any_eq_false] at h
  exact h p hp (beq_self_eq_true _)
theorem GoodP.snoc {n : Int} {l : List Prt} (h : GoodP n l) (p : Prt) (h1 : 1 ≤ p.i ∧ p.i ≤ 5) (h2 : (p.d.length : Int) = n) (h3 : hasI l p.i = false) : GoodP n (l ++ [p]) := by
  refine ⟨?_, fun q hq => ?_, fun q hq => ?_⟩
  · rw [List.map_append, List.nodup_append]
    refine ⟨h.nd, by simp, fun a ha b hb => ?_⟩
    rw [List.map_cons, List.map_nil, List.mem_singleton] at hb
    subst hb
    rintro rfl
    exact hasI_mem h3 ha
  · rcases List.mem_append.1 hq with hq | hq
    · exact h.rg q hq
    · rw [List.mem_singleton] at hq; subst hq; exact h1
  · rcases List.mem_append.1 hq with hq | hq
    · exact h.ln q hq
    · rw [List.mem_singleton] at hq; subst hq; exact h2
theorem pick3_good (n : Int) : ∀ (l acc : List Prt), GoodP n acc → acc.length ≤ 3 → GoodP n (pick3 n acc l).1 ∧ ((pick3 n acc l).2 = 0 → (pick3 n acc l).1.length = 3)
  | [], acc, h, hl => by
    rw [pick3]
    refine ⟨h, fun h0 => ?_⟩
    dsimp only at h0 ⊢
    split at h0
    · cases h0
    · omega
  | p :: l, acc, h, hl => by
    rw [pick3]
    split
    · exact ⟨h, fun _ => by assumption⟩
    split
    · exact ⟨h, fun h0 => by cases h0⟩
    split
    · exact pick3_good n l acc h hl
    split
    · exact ⟨h, fun h0 => by cases h0⟩
    · rename_i h3 h15 hh hn
      exact pick3_good n l _ (h.snoc p (by omega) (by simpa using hn) (by simpa using hh)) (by simp; omega)
theorem val3 {x y z : UInt8} (h : x ≠ y ∧ x ≠ z ∧ y ≠ z) (a b c t : UInt8) : atVal [x, y, z] [a, b, c] t = lag [x, y, z] [a, b, c] t := by
  have h : atOk [x, y, z] [a, b, c] = true := by unfold atOk dis; simp [h]
  rw [atVal, if_pos h]
def linesTo (x y z : UInt8) (a b c : List UInt8) (n : Nat) (k : Nat) : List UInt8 := ((List.range k).map fun j => lineP x y z a b c n (u8n (j + 1))).flatten
theorem linesTo_snoc (x y z : UInt8) (a b c : List UInt8) (n : Nat) (k : Nat) : linesTo x y z a b c n (k + 1) = linesTo x y z a b c n k ++ lineP x y z a b c n (u8n (k + 1)) := by simp [linesTo, List.range_succ]
theorem linesTo_len (x y z : UInt8) (a b c : List UInt8) (n : Nat) : ∀ k, (linesTo x y z a b c n k).length = k * n
  | 0 => by simp [linesTo]
  | k + 1 => by rw [linesTo_snoc, List.length_append, linesTo_len x y z a b c n k, lineP_len, Nat.add_mul, Nat.one_mul]
def joinR (l : List Prt) (size : Int) : List UInt8 × Int := if size < 0 ∨ 65536 < size then ([], 2) else match pick3 (rowsI size) [] l with
  | ([p, q, r], 0) => (joinP p q r (rowsN size.toNat) size.toNat, 0)
  | (_, e) => ([], e)
def joinRV (r : List UInt8 × Int) : VV := .tup [.str r.1, .int .i64 r.2]
theorem i_u8 {i : Int} (h : 1 ≤ i ∧ i ≤ 5) : B8 (u8 i) = i := by
  unfold u8
  rw [B8_of _ (by omega)]
  omega
theorem snocU (T : List UInt8) (v : UInt8) : (T ++ [v]).map encU = T.map encU ++ [.int .u8 (B8 v)] := by rw [List.map_append]; rfl
theorem snocL (T : List UInt8) (v : UInt8) : (T ++ [v]).length = T.length + 1 := by simp
theorem nthB (l : List UInt8) (i : Nat) : (((l.getD i 0).toNat : Nat) : Int) = B8 (nth l i) := rfl
theorem rjoin7_spec (l : List Prt) (hl : l.length < 2 ^ 36) (hd : ∀ p ∈ l, p.d.length < 2 ^ 36) (size : Int) (hs : i64P size) : Spec Try.prog 17 [encPrts l, .int .i64 size] (joinRV (joinR l size)) := by
  obtain ⟨s1, s2⟩ := hs
  by_cases hsz : size < 0 ∨ 65536 < size
  · have e : joinR l size = ([], 2) := by unfold joinR; rw [if_pos hsz]
    rw [e]
    refine spec_ok Try.func17 rfl rfl (by kernel_rfl) (k := 2) rfl (by decide) ?_
    repeat' (first|(with_reducible first|refine yrl (by constructor) ?_|refine jk (fun M hM=>?_)|(refine hM _ ?_;clear hM M)|refine xb3 (by decide) ?_|refine yqa (by assumption) ?_ ?_|refine yqb (by assumption) ?_ ?_)|((with_reducible refine je ?_)<;>(first|rfl|assumption|(simp only [znl,znA5];(first|done|fail))))|(with_reducible refine jf (by (simp only [↓reduceIte,zlk,Nat.reduceEqDiff,reduceCtorEq]);exact rfl) ?_)|((with_reducible first|refine jg (fun hc=>?_) (fun hc=>?_)|refine jh (fun hc=>?_) (fun hc=>?_))<;>(try simp (disch:=omega) only [zhb] at hc)<;>(try (exfalso;omega))<;>(try subst hc))|(with_reducible refine ji (by omega) ?_)|(simp (config := { maxSteps := 400000 }) only [↓jt,↓reduceIte,zvs,reduceCtorEq,Nat.reduceEqDiff,Nat.reduceAdd,Nat.reduceLeDiff,Nat.reduceMul,Int.reduceBNe,Int.reduceBEq,Int.reduceEq,Int.reduceNe,Int.reduceLT,Int.reduceLE,Int.reduceGT,Int.reduceGE,Int.reduceNeg,Int.reduceToNat,Nat.reduceLT,Nat.reduceSub,tab,Try.results17,jTA])|(simp (disch:=omega) only [ziw]))
    all_goals first
      | (exfalso; omega)
      | (((try simp only [joinRV,List.map_nil]); simp only [zrds]; (repeat' (first | exact rd_nil | exact Rd.refl _ _ (by first|rfl|assumption|(simp only [znl,znA5];(first|done|fail))) | (refine And.intro ?_ ?_) | (refine rd_own (by (simp only [↓reduceIte,zlk,Nat.reduceEqDiff,reduceCtorEq]); exact rfl) ?_ ?_ ?_) | rfl | assumption | (simp only [znl,znA5];(first|done|fail)) | (simp; done) | (simp; omega)))); done)
  obtain ⟨s, rfl⟩ := Int.eq_ofNat_of_zero_le (by omega : 0 ≤ size)
  have hR := rrows_spec s (by unfold i64P; omega)
  rw [rowsI_nat] at hR
  obtain ⟨n, hn⟩ : ∃ n, n = rowsN s := ⟨_, rfl⟩
  have hnb : s ≤ 3 * n ∧ 3 * n ≤ 65540 := by rw [hn]; unfold rowsN; omega
  rw [← hn] at hR
  have hT := rthree_spec l hl hd n (by constructor <;> omega)
  have hg := pick3_good n l [] (GoodP.nil _) (by decide)
  have ej : joinR l s = match pick3 n [] l with
    | ([p, q, r], 0) => (joinP p q r n s, 0)
    | (_, e) => ([], e) := by unfold joinR; rw [if_neg hsz, rowsI_nat, Int.toNat_natCast, ← hn]
  rw [ej]
  clear ej
  obtain ⟨⟨rs, e⟩, hp⟩ : ∃ r, r = pick3 n [] l := ⟨_, rfl⟩
  rw [← hp] at hT hg ⊢
  obtain ⟨hg1, hg2⟩ := hg
  dsimp only at hg1 hg2
  simp only [threeV] at hT
  by_cases he : e = 0
  · subst he
    have h3 := hg2 rfl
    match rs, h3, hg1, hT with
    | [p, q, r], _, hg1, hT =>
      try dsimp only
      clear hp hg2 h3
      obtain ⟨p1, pd⟩ := p
      obtain ⟨q1, qd⟩ := q
      obtain ⟨r1, rd⟩ := r
      have lp := hg1.ln _ (by simp : (⟨p1, pd⟩ : Prt) ∈ _)
      have lq := hg1.ln ⟨q1, qd⟩ (by simp)
      have lr := hg1.ln ⟨r1, rd⟩ (by simp)
      have bp := i_u8 (hg1.rg ⟨p1, pd⟩ (by simp))
      have bq := i_u8 (hg1.rg ⟨q1, qd⟩ (by simp))
      have br := i_u8 (hg1.rg ⟨r1, rd⟩ (by simp))
      have hnd := hg1.nd
      dsimp only at lp lq lr bp bq br
      simp only [joinP]
      obtain ⟨x, hx⟩ : ∃ x, x = u8 p1 := ⟨_, rfl⟩
      obtain ⟨y, hy⟩ : ∃ y, y = u8 q1 := ⟨_, rfl⟩
      obtain ⟨z, hz⟩ : ∃ z, z = u8 r1 := ⟨_, rfl⟩
      rw [← hx] at bp ⊢
      rw [← hy] at bq ⊢
      rw [← hz] at br ⊢
      clear hx hy hz
      subst bp bq br
      have hne : x ≠ y ∧ x ≠ z ∧ y ≠ z := by
        simp only [List.map_cons,List.map_nil,List.nodup_cons,List.mem_cons,List.not_mem_nil,or_false,not_or] at hnd
        exact ⟨fun h => hnd.1.1 (by rw [h]), fun h => hnd.1.2 (by rw [h]), fun h => hnd.2.1 (by rw [h])⟩
      have lpn : pd.length = n := by omega
      have lqn : qd.length = n := by omega
      have lrn : rd.length = n := by omega
      clear hg1 hnd lp lq lr
      have hx1 := B8_lo x
      have hx2 := B8_hi x
      have hy1 := B8_lo y
      have hy2 := B8_hi y
      have hz1 := B8_lo z
      have hz2 := B8_hi z
      have eJ : (lineP x y z pd qd rd n 1 ++ lineP x y z pd qd rd n 2) ++ lineP x y z pd qd rd n 3 = linesTo x y z pd qd rd n 3 := by simp [linesTo, List.range_succ, u8n]
      rw [eJ]
      have hJ := linesTo_len x y z pd qd rd n
      have hat := fun i h t => (lineP_nth x y z pd qd rd n t i h).trans (val3 hne _ _ _ t).symm
      refine spec_ok Try.func17 rfl rfl (by kernel_rfl) (k := 2) rfl (by decide) ?_
      repeat' (first|(with_reducible first|refine yrl (by constructor) ?_|refine jk (fun M hM=>?_)|(refine hM _ ?_;clear hM M)|refine xb3 (by decide) ?_|refine yqa (by assumption) ?_ ?_|refine yqb (by assumption) ?_ ?_)|((with_reducible refine je ?_)<;>(first|rfl|assumption|(simp only [znl,znA5];(first|done|fail))))|(with_reducible refine jf (by (simp only [↓reduceIte,zlk,Nat.reduceEqDiff,reduceCtorEq]);exact rfl) ?_)|((with_reducible first|refine jg (fun hc=>?_) (fun hc=>?_)|refine jh (fun hc=>?_) (fun hc=>?_))<;>(try simp (disch:=omega) only [zhb] at hc)<;>(try (exfalso;omega))<;>(try subst hc))|(with_reducible refine ji (by omega) ?_)|(simp (config := { maxSteps := 400000 }) only [↓jt,↓reduceIte,zvs,reduceCtorEq,Nat.reduceEqDiff,Nat.reduceAdd,Nat.reduceLeDiff,Nat.reduceMul,Int.reduceBNe,Int.reduceBEq,Int.reduceEq,Int.reduceNe,Int.reduceLT,Int.reduceLE,Int.reduceGT,Int.reduceGE,Int.reduceNeg,Int.reduceToNat,Nat.reduceLT,Nat.reduceSub,tab,encPrts,List.map_cons,List.map_nil,encPrt,Try.results17,jTA])|(simp (disch:=omega) only [ziw]))
      all_goals (try (exfalso; omega))
      refine ok_drawC 16 (by kernel_rfl) (by decide +kernel) (by intro m hm; simp only [upd_ap,rows_cons,rows_nil]; (repeat (first | rfl | rw [if_neg (by omega)]))) (fun M hM => ?_); simp only [List.take_succ_cons,List.take_zero,List.drop_succ_cons,List.drop_zero]
      repeat' (first|(with_reducible first|refine yrl (by constructor) ?_|refine jk (fun M hM=>?_)|(refine hM _ ?_;clear hM M)|refine xb3 (by decide) ?_|refine yqa (by assumption) ?_ ?_|refine yqb (by assumption) ?_ ?_)|((with_reducible refine je ?_)<;>(first|rfl|assumption|(simp only [znl,znA5];(first|done|fail))))|(with_reducible refine jf (by (simp only [↓reduceIte,zlk,Nat.reduceEqDiff,reduceCtorEq]);exact rfl) ?_)|((with_reducible first|refine jg (fun hc=>?_) (fun hc=>?_)|refine jh (fun hc=>?_) (fun hc=>?_))<;>(try simp (disch:=omega) only [zhb] at hc)<;>(try (exfalso;omega))<;>(try subst hc))|(with_reducible refine ji (by omega) ?_)|(simp (config := { maxSteps := 400000 }) only [↓jt,↓reduceIte,zvs,reduceCtorEq,Nat.reduceEqDiff,Nat.reduceAdd,Nat.reduceLeDiff,Nat.reduceMul,Int.reduceBNe,Int.reduceBEq,Int.reduceEq,Int.reduceNe,Int.reduceLT,Int.reduceLE,Int.reduceGT,Int.reduceGE,Int.reduceNeg,Int.reduceToNat,Nat.reduceLT,Nat.reduceSub,tab,Try.results17,jTA])|(simp (disch:=omega) only [ziw]))
      all_goals (try (exfalso; omega))
      refine ok_loop (fun k : Nat => ⟨slots [(1, .int .i64 s), (6, .int .i64 n), (7, .dat prtSh [.agg [.int .i64 (B8 x), .str pd], .agg [.int .i64 (B8 y), .str qd], .agg [.int .i64 (B8 z), .str rd]]), (9, .sl (some (0, [], 0)) 3), (10, .sl (some (1, [], 0)) (linesTo x y z pd qd rd n k).length), (11, .int .i64 (k + 1))], rows [(0, .row (.arr 3 .cell) (.agg [.int .u8 (B8 x), .int .u8 (B8 y), .int .u8 (B8 z)])), (1, .row (.arr (linesTo x y z pd qd rd n k).length .cell) (.agg ((linesTo x y z pd qd rd n k).map encU)))], 2⟩) (fun k => k ≤ 3) (fun k => 3 - k) 0 ?_ (Nat.zero_le _) (fun k hk => ?_)
      · (refine yrn [(0, 960), (1, 1024)] false ?_ ?_<;>(repeat' (first|(with_reducible first|exact ya1|exact ya2|exact ya3|refine jx rfl (by first|rfl|assumption|(simp only [znl,znA5];(first|done|fail)))|exact ya5|exact ya7|exact jy|exact jz|refine jA ?_|refine ya9 ?_ ?_ ?_|refine jC rfl (by first|rfl|assumption|(simp only [znl,znA5];(first|done|fail)))|refine MR.agg (MRL.cons ?_ ?_)|refine MR.fn ?_|refine MRL.cons ?_ ?_|exact MRL.nil|refine jE ?_ ?_|exact jF|exact jG|refine yb1 ?_ ?_|refine MB.row ?_|refine jI ?_ ?_|exact ya8|refine jJ rfl (by first|rfl|assumption|(simp only [znl,znA5];(first|done|fail)))|refine yb2 ?_|rfl)|(simp only [znl,znA5];(first|done|fail))|(simp only [↓reduceIte,zlk,Nat.reduceEqDiff,reduceCtorEq])|(with_reducible first|refine jJ ?_ ?_|refine ya5 ?_|refine ju ?_|refine jv ?_|refine jw ?_|refine jx ?_ (by first|rfl|assumption|(simp only [znl,znA5];(first|done|fail)))|refine jC ?_ (by first|rfl|assumption|(simp only [znl,znA5];(first|done|fail)))))))
        all_goals (first | rfl)
      by_cases hlt : k < 3
      · have hsn := linesTo_snoc x y z pd qd rd n k
        have hb8 := B8_u8n (k + 1) (by omega)
        obtain ⟨t, ht⟩ : ∃ t, t = u8n (k + 1) := ⟨_, rfl⟩
        rw [← ht] at hsn hb8
        have hv := fun i h => hat i h t
        have hLl := lineP_len x y z pd qd rd n t
        have hJk := hJ k
        have hJb : k * n ≤ 2 * n := Nat.mul_le_mul_right n (by omega)
        clear hJ hat eJ
        generalize lineP x y z pd qd rd n t = L at hsn hv hLl
        have htl : L.take n = L := by rw [← hLl]; exact List.take_length
        generalize linesTo x y z pd qd rd n k = J at hsn hJk ⊢
        repeat' (first|(with_reducible first|refine yrl (by constructor) ?_|refine jk (fun M hM=>?_)|(refine hM _ ?_;clear hM M)|refine xb3 (by decide) ?_|refine yqa (by assumption) ?_ ?_|refine yqb (by assumption) ?_ ?_)|((with_reducible refine je ?_)<;>(first|rfl|assumption|(simp only [znl,znA5];(first|done|fail))))|(with_reducible refine jf (by (simp only [↓reduceIte,zlk,Nat.reduceEqDiff,reduceCtorEq]);exact rfl) ?_)|((with_reducible first|refine jg (fun hc=>?_) (fun hc=>?_)|refine jh (fun hc=>?_) (fun hc=>?_))<;>(try simp (disch:=omega) only [zhb] at hc)<;>(try (exfalso;omega))<;>(try subst hc))|(with_reducible refine ji (by omega) ?_)|(simp (config := { maxSteps := 400000 }) only [↓jt,↓reduceIte,zvs,reduceCtorEq,Nat.reduceEqDiff,Nat.reduceAdd,Nat.reduceLeDiff,Nat.reduceMul,Int.reduceBNe,Int.reduceBEq,Int.reduceEq,Int.reduceNe,Int.reduceLT,Int.reduceLE,Int.reduceGT,Int.reduceGE,Int.reduceNeg,Int.reduceToNat,Nat.reduceLT,Nat.reduceSub,tab,Try.results17,jTA])|(simp (disch:=omega) only [ziw]))
        all_goals (try (exfalso; omega))
        refine ok_loop (fun i : Nat => ⟨slots [(1, .int .i64 s), (6, .int .i64 n), (7, .dat prtSh [.agg [.int .i64 (B8 x), .str pd], .agg [.int .i64 (B8 y), .str qd], .agg [.int .i64 (B8 z), .str rd]]), (9, .sl (some (0, [], 0)) 3), (10, .sl (some (1, [], 0)) (J ++ L.take i).length), (11, .int .i64 (k + 1)), (12, .int .i64 i)], rows [(0, .row (.arr 3 .cell) (.agg [.int .u8 (B8 x), .int .u8 (B8 y), .int .u8 (B8 z)])), (1, .row (.arr (J ++ L.take i).length .cell) (.agg ((J ++ L.take i).map encU)))], 2⟩) (fun i => i ≤ n) (fun i => n - i) 0 ?_ (Nat.zero_le _) (fun i hi => ?_)
        · rw [List.take_zero, List.append_nil]
          (refine yrn [(0, 0), (1, 1)] false ?_ ?_<;>(repeat' (first|(with_reducible first|exact ya1|exact ya2|exact ya3|refine jx rfl (by first|rfl|assumption|(simp only [znl,znA5];(first|done|fail)))|exact ya5|exact ya7|exact jy|exact jz|refine jA ?_|refine ya9 ?_ ?_ ?_|refine jC rfl (by first|rfl|assumption|(simp only [znl,znA5];(first|done|fail)))|refine MR.agg (MRL.cons ?_ ?_)|refine MR.fn ?_|refine MRL.cons ?_ ?_|exact MRL.nil|refine jE ?_ ?_|exact jF|exact jG|refine yb1 ?_ ?_|refine MB.row ?_|refine jI ?_ ?_|exact ya8|refine jJ rfl (by first|rfl|assumption|(simp only [znl,znA5];(first|done|fail)))|refine yb2 ?_|rfl)|(simp only [znl,znA5];(first|done|fail))|(simp only [↓reduceIte,zlk,Nat.reduceEqDiff,reduceCtorEq])|(with_reducible first|refine jJ ?_ ?_|refine ya5 ?_|refine ju ?_|refine jv ?_|refine jw ?_|refine jx ?_ (by first|rfl|assumption|(simp only [znl,znA5];(first|done|fail)))|refine jC ?_ (by first|rfl|assumption|(simp only [znl,znA5];(first|done|fail)))))))
          all_goals (first | rfl)
        by_cases hli : i < n
        · have hsi := take_snocU L i (by omega)
          have hll : (J ++ L.take i).length = k * n + i := by rw [List.length_append, hJk, List.length_take, hLl]; omega
          have h4 := rat_spec [x, y, z] [nth pd i, nth qd i, nth rd i] (by simp) (by simp) t
          rw [← hv i hli, hb8] at h4
          have e2 : ∀ a b c : UInt8, [a, b, c].map encU = [.int .u8 (B8 a), .int .u8 (B8 b), .int .u8 (B8 c)] := fun _ _ _ => rfl
          simp only [encBs,e2] at h4
          push_cast at h4
          have hJ2 : J ++ L.take (i + 1) = (J ++ L.take i) ++ [nth L i] := by rw [hsi, List.append_assoc]
          have hTv : (J ++ L.take i).map encU ++ [.int .u8 (B8 (nth L i))] = (J ++ L.take (i + 1)).map encU := by rw [hJ2]; exact (snocU _ _).symm
          have hTl : (J ++ L.take (i + 1)).length = (J ++ L.take i).length + 1 := by rw [hJ2]; exact snocL _ _
          clear hJ2
          generalize J ++ L.take i = T at hll hTv hTl ⊢
          generalize nth L i = v at h4 hTv
          repeat' (first|(with_reducible first|refine yrl (by constructor) ?_|refine jk (fun M hM=>?_)|(refine hM _ ?_;clear hM M)|refine xb3 (by decide) ?_|refine yqa (by assumption) ?_ ?_|refine yqb (by assumption) ?_ ?_)|((with_reducible refine je ?_)<;>(first|rfl|assumption|(simp only [znl,znA5];(first|done|fail))))|(with_reducible refine jf (by (simp only [↓reduceIte,zlk,Nat.reduceEqDiff,reduceCtorEq]);exact rfl) ?_)|((with_reducible first|refine jg (fun hc=>?_) (fun hc=>?_)|refine jh (fun hc=>?_) (fun hc=>?_))<;>(try simp (disch:=omega) only [zhb] at hc)<;>(try (exfalso;omega))<;>(try subst hc))|(with_reducible refine ji (by omega) ?_)|(simp (config := { maxSteps := 400000 }) only [↓jt,↓reduceIte,zvs,reduceCtorEq,Nat.reduceEqDiff,Nat.reduceAdd,Nat.reduceLeDiff,Nat.reduceMul,Int.reduceBNe,Int.reduceBEq,Int.reduceEq,Int.reduceNe,Int.reduceLT,Int.reduceLE,Int.reduceGT,Int.reduceGE,Int.reduceNeg,Int.reduceToNat,Nat.reduceLT,Nat.reduceSub,tab,Try.results17,jTA])|(simp (disch:=omega) only [ziw]))
          all_goals (try (exfalso; omega))
          refine ok_drawC 27 (by kernel_rfl) (by decide +kernel) (by intro m hm; simp only [upd_ap,rows_cons,rows_nil]; (repeat (first | rfl | rw [if_neg (by omega)]))) (fun M hM => ?_); simp only [List.take_succ_cons,List.take_zero,List.drop_succ_cons,List.drop_zero]
          repeat' (first|(with_reducible first|refine yrl (by constructor) ?_|refine jk (fun M hM=>?_)|(refine hM _ ?_;clear hM M)|refine xb3 (by decide) ?_|refine yqa (by assumption) ?_ ?_|refine yqb (by assumption) ?_ ?_)|((with_reducible refine je ?_)<;>(first|rfl|assumption|(simp only [znl,znA5];(first|done|fail))))|(with_reducible refine jf (by (simp only [↓reduceIte,zlk,Nat.reduceEqDiff,reduceCtorEq]);exact rfl) ?_)|((with_reducible first|refine jg (fun hc=>?_) (fun hc=>?_)|refine jh (fun hc=>?_) (fun hc=>?_))<;>(try simp (disch:=omega) only [zhb] at hc)<;>(try (exfalso;omega))<;>(try subst hc))|(with_reducible refine ji (by omega) ?_)|(simp (config := { maxSteps := 400000 }) only [↓jt,↓reduceIte,zvs,reduceCtorEq,Nat.reduceEqDiff,Nat.reduceAdd,Nat.reduceLeDiff,Nat.reduceMul,Int.reduceBNe,Int.reduceBEq,Int.reduceEq,Int.reduceNe,Int.reduceLT,Int.reduceLE,Int.reduceGT,Int.reduceGE,Int.reduceNeg,Int.reduceToNat,Nat.reduceLT,Nat.reduceSub,tab,nthB,Try.results17,jTA])|(simp (disch:=omega) only [ziw]))
          refine jb (hcall_read (h4) rfl (by repeat (first | exact rdl_nil | refine rdl_cons ?_ ?_ | exact Rd.refl _ _ (by first|rfl|assumption|(simp only [znl,znA5];(first|done|fail))) | (refine rd_own (by (simp only [↓reduceIte,zlk,Nat.reduceEqDiff,reduceCtorEq,setParts,rep_one,rep_two,rep_three,List.set_cons_zero,List.set_cons_succ,List.map_cons,List.map_nil]); exact rfl) (by first | rfl | (simp; done) | (simp; omega)) rfl (by first|rfl|assumption|(simp only [znl,znA5];(first|done|fail)))) | (refine rd_pre (by (simp only [↓reduceIte,zlk,Nat.reduceEqDiff,reduceCtorEq,setParts,rep_one,rep_two,rep_three,List.set_cons_zero,List.set_cons_succ,List.map_cons,List.map_nil]); exact rfl) (by first | (simp; done) | (simp; omega)) (by first | rfl | (simp; done)) (by first|rfl|assumption|(simp only [znl,znA5];(first|done|fail)))) | exact rd_nil | refine (rd_a _ _ _).mpr ?_)) rfl) ?_
          repeat' (first|(with_reducible first|refine yrl (by constructor) ?_|refine jk (fun M hM=>?_)|(refine hM _ ?_;clear hM M)|refine xb3 (by decide) ?_|refine yqa (by assumption) ?_ ?_|refine yqb (by assumption) ?_ ?_)|((with_reducible refine je ?_)<;>(first|rfl|assumption|(simp only [znl,znA5];(first|done|fail))))|(with_reducible refine jf (by (simp only [↓reduceIte,zlk,Nat.reduceEqDiff,reduceCtorEq]);exact rfl) ?_)|((with_reducible first|refine jg (fun hc=>?_) (fun hc=>?_)|refine jh (fun hc=>?_) (fun hc=>?_))<;>(try simp (disch:=omega) only [zhb] at hc)<;>(try (exfalso;omega))<;>(try subst hc))|(with_reducible refine ji (by omega) ?_)|(simp (config := { maxSteps := 400000 }) only [↓jt,↓reduceIte,zvs,reduceCtorEq,Nat.reduceEqDiff,Nat.reduceAdd,Nat.reduceLeDiff,Nat.reduceMul,Int.reduceBNe,Int.reduceBEq,Int.reduceEq,Int.reduceNe,Int.reduceLT,Int.reduceLE,Int.reduceGT,Int.reduceGE,Int.reduceNeg,Int.reduceToNat,Nat.reduceLT,Nat.reduceSub,tab,nthB,Try.results17,jTA])|(simp (disch:=omega) only [ziw]))
          refine xl1 (i + 1) ?_ (by show i + 1 ≤ n; omega) (by show n - (i + 1) < n - i; omega)
          (refine yrn [(0, 0), (1, 1731)] false ?_ ?_<;>(repeat' (first|(with_reducible first|exact ya1|exact ya2|exact ya3|refine jx rfl (by first|rfl|assumption|(simp only [znl,znA5];(first|done|fail)))|exact ya5|exact ya7|exact jy|exact jz|refine jA ?_|refine ya9 ?_ ?_ ?_|refine jC rfl (by first|rfl|assumption|(simp only [znl,znA5];(first|done|fail)))|refine MR.agg (MRL.cons ?_ ?_)|refine MR.fn ?_|refine MRL.cons ?_ ?_|exact MRL.nil|refine jE ?_ ?_|exact jF|exact jG|refine yb1 ?_ ?_|refine MB.row ?_|refine jI ?_ ?_|exact ya8|refine jJ rfl (by first|rfl|assumption|(simp only [znl,znA5];(first|done|fail)))|refine yb2 ?_|rfl)|(simp only [znl,znA5];(first|done|fail))|(simp only [↓reduceIte,zlk,Nat.reduceEqDiff,reduceCtorEq])|(with_reducible first|refine jJ ?_ ?_|refine ya5 ?_|refine ju ?_|refine jv ?_|refine jw ?_|refine jx ?_ (by first|rfl|assumption|(simp only [znl,znA5];(first|done|fail)))|refine jC ?_ (by first|rfl|assumption|(simp only [znl,znA5];(first|done|fail)))))))
          all_goals (first | rfl | exact hTv | omega)
        · obtain rfl : i = n := by omega
          rw [htl]
          repeat' (first|(with_reducible first|refine yrl (by constructor) ?_|refine jk (fun M hM=>?_)|(refine hM _ ?_;clear hM M)|refine xb3 (by decide) ?_|refine yqa (by assumption) ?_ ?_|refine yqb (by assumption) ?_ ?_)|((with_reducible refine je ?_)<;>(first|rfl|assumption|(simp only [znl,znA5];(first|done|fail))))|(with_reducible refine jf (by (simp only [↓reduceIte,zlk,Nat.reduceEqDiff,reduceCtorEq]);exact rfl) ?_)|((with_reducible first|refine jg (fun hc=>?_) (fun hc=>?_)|refine jh (fun hc=>?_) (fun hc=>?_))<;>(try simp (disch:=omega) only [zhb] at hc)<;>(try (exfalso;omega))<;>(try subst hc))|(with_reducible refine ji (by omega) ?_)|(simp (config := { maxSteps := 400000 }) only [↓jt,↓reduceIte,zvs,reduceCtorEq,Nat.reduceEqDiff,Nat.reduceAdd,Nat.reduceLeDiff,Nat.reduceMul,Int.reduceBNe,Int.reduceBEq,Int.reduceEq,Int.reduceNe,Int.reduceLT,Int.reduceLE,Int.reduceGT,Int.reduceGE,Int.reduceNeg,Int.reduceToNat,Nat.reduceLT,Nat.reduceSub,tab,Try.results17,jTA])|(simp (disch:=omega) only [ziw]))
          all_goals first
            | (exfalso; omega)
            | (refine xl1 (k + 1) ?_ (by show k + 1 ≤ 3; omega) (by show 3 - (k + 1) < 3 - k; omega); (refine yrn [(0, 0), (1, 1)] false ?_ ?_<;>(repeat' (first|(with_reducible first|exact ya1|exact ya2|exact ya3|refine jx rfl (by first|rfl|assumption|(simp only [znl,znA5];(first|done|fail)))|exact ya5|exact ya7|exact jy|exact jz|refine jA ?_|refine ya9 ?_ ?_ ?_|refine jC rfl (by first|rfl|assumption|(simp only [znl,znA5];(first|done|fail)))|refine MR.agg (MRL.cons ?_ ?_)|refine MR.fn ?_|refine MRL.cons ?_ ?_|exact MRL.nil|refine jE ?_ ?_|exact jF|exact jG|refine yb1 ?_ ?_|refine MB.row ?_|refine jI ?_ ?_|exact ya8|refine jJ rfl (by first|rfl|assumption|(simp only [znl,znA5];(first|done|fail)))|refine yb2 ?_|rfl)|(simp only [znl,znA5];(first|done|fail))|(simp only [↓reduceIte,zlk,Nat.reduceEqDiff,reduceCtorEq])|(with_reducible first|refine jJ ?_ ?_|refine ya5 ?_|refine ju ?_|refine jv ?_|refine jw ?_|refine jx ?_ (by first|rfl|assumption|(simp only [znl,znA5];(first|done|fail)))|refine jC ?_ (by first|rfl|assumption|(simp only [znl,znA5];(first|done|fail))))))); all_goals (first | rfl | omega | (rw [hsn]; done) | (rw [hsn, List.length_append]; done)); done)
      · obtain rfl : k = 3 := by omega
        have hJ3 := hJ 3
        generalize linesTo x y z pd qd rd n 3 = J at hJ3 ⊢
        have hbo := bytesOf_u (J.take s)
        have htk : (J.map encU).take s = (J.take s).map encU := List.map_take.symm
        repeat' (first|(with_reducible first|refine yrl (by constructor) ?_|refine jk (fun M hM=>?_)|(refine hM _ ?_;clear hM M)|refine xb3 (by decide) ?_|refine yqa (by assumption) ?_ ?_|refine yqb (by assumption) ?_ ?_)|((with_reducible refine je ?_)<;>(first|rfl|assumption|(simp only [znl,znA5];(first|done|fail))))|(with_reducible refine jf (by (simp only [↓reduceIte,zlk,Nat.reduceEqDiff,reduceCtorEq]);exact rfl) ?_)|((with_reducible first|refine jg (fun hc=>?_) (fun hc=>?_)|refine jh (fun hc=>?_) (fun hc=>?_))<;>(try simp (disch:=omega) only [zhb] at hc)<;>(try (exfalso;omega))<;>(try subst hc))|(with_reducible refine ji (by omega) ?_)|(simp (config := { maxSteps := 400000 }) only [↓jt,↓reduceIte,zvs,reduceCtorEq,Nat.reduceEqDiff,Nat.reduceAdd,Nat.reduceLeDiff,Nat.reduceMul,Int.reduceBNe,Int.reduceBEq,Int.reduceEq,Int.reduceNe,Int.reduceLT,Int.reduceLE,Int.reduceGT,Int.reduceGE,Int.reduceNeg,Int.reduceToNat,Nat.reduceLT,Nat.reduceSub,tab,hbo,htk,Try.results17,jTA])|(simp (disch:=omega) only [ziw]))
        all_goals first
          | (exfalso; omega)
          | (((try simp only [joinRV,List.map_nil]); simp only [zrds]; (repeat' (first | exact rd_nil | exact Rd.refl _ _ (by first|rfl|assumption|(simp only [znl,znA5];(first|done|fail))) | (refine And.intro ?_ ?_) | (refine rd_own (by (simp only [↓reduceIte,zlk,Nat.reduceEqDiff,reduceCtorEq]); exact rfl) ?_ ?_ ?_) | rfl | assumption | (simp only [znl,znA5];(first|done|fail)) | (simp; done) | (simp; omega)))); done)
    | [], h3, _, _ => cases h3
    | [_], h3, _, _ => cases h3
    | [_, _], h3, _, _ => cases h3
    | _ :: _ :: _ :: _ :: _, h3, _, _ => simp at h3
  · have eE : (match (rs, e) with
      | ([p, q, r], 0) => (joinP p q r n s, (0 : Int))
      | (_, e) => ([], e)) = ([], e) := by
      split
      · rename_i h; injection h with _ h; exact absurd h he
      · rename_i h; injection h with _ h; rw [h]
    rw [eE]
    refine spec_ok Try.func17 rfl rfl (by kernel_rfl) (k := 2) rfl (by decide) ?_
    repeat' (first|(with_reducible first|refine yrl (by constructor) ?_|refine jk (fun M hM=>?_)|(refine hM _ ?_;clear hM M)|refine xb3 (by decide) ?_|refine yqa (by assumption) ?_ ?_|refine yqb (by assumption) ?_ ?_)|((with_reducible refine je ?_)<;>(first|rfl|assumption|(simp only [znl,znA5];(first|done|fail))))|(with_reducible refine jf (by (simp only [↓reduceIte,zlk,Nat.reduceEqDiff,reduceCtorEq]);exact rfl) ?_)|((with_reducible first|refine jg (fun hc=>?_) (fun hc=>?_)|refine jh (fun hc=>?_) (fun hc=>?_))<;>(try simp (disch:=omega) only [zhb] at hc)<;>(try (exfalso;omega))<;>(try subst hc))|(with_reducible refine ji (by omega) ?_)|(simp (config := { maxSteps := 400000 }) only [↓jt,↓reduceIte,zvs,reduceCtorEq,Nat.reduceEqDiff,Nat.reduceAdd,Nat.reduceLeDiff,Nat.reduceMul,Int.reduceBNe,Int.reduceBEq,Int.reduceEq,Int.reduceNe,Int.reduceLT,Int.reduceLE,Int.reduceGT,Int.reduceGE,Int.reduceNeg,Int.reduceToNat,Nat.reduceLT,Nat.reduceSub,tab,Try.results17,jTA])|(simp (disch:=omega) only [ziw]))
    all_goals first
      | (exfalso; omega)
      | (((try simp only [joinRV,List.map_nil]); simp only [zrds]; (repeat' (first | exact rd_nil | exact Rd.refl _ _ (by first|rfl|assumption|(simp only [znl,znA5];(first|done|fail))) | (refine And.intro ?_ ?_) | (refine rd_own (by (simp only [↓reduceIte,zlk,Nat.reduceEqDiff,reduceCtorEq]); exact rfl) ?_ ?_ ?_) | rfl | assumption | (simp only [znl,znA5];(first|done|fail)) | (simp; done) | (simp; omega)))); done)
theorem rsame7_spec (l : List Prt) (hl : l.length < 2 ^ 36) : Spec Try.prog 10 [encPrts l, encPrts l] (.bool true) := by
  have hv : ∀ (a : Int) (s : List UInt8), veq (.agg [.int .i64 a, .str s]) (.agg [.int .i64 a, .str s]) = true := fun a s => by simp [veq, veqs]
  have hf : ∀ (a : Int) (s : List UInt8), Fit (.st [.int .i64, .str]) (.agg [.int .i64 a, .str s]) := fun a s => by simp [Fit, FitL]
  refine spec_ok Try.func10 rfl rfl (by kernel_rfl) (k := 2) rfl (by decide) ?_
  repeat' (first|(with_reducible first|refine yrl (by constructor) ?_|refine jk (fun M hM=>?_)|(refine hM _ ?_;clear hM M)|refine xb3 (by decide) ?_|refine yqa (by assumption) ?_ ?_|refine yqb (by assumption) ?_ ?_)|((with_reducible refine je ?_)<;>(first|rfl|assumption|(simp only [znl,znA5];(first|done|fail))))|(with_reducible refine jf (by (simp only [↓reduceIte,zlk,Nat.reduceEqDiff,reduceCtorEq]);exact rfl) ?_)|((with_reducible first|refine jg (fun hc=>?_) (fun hc=>?_)|refine jh (fun hc=>?_) (fun hc=>?_))<;>(try simp (disch:=omega) only [zhb] at hc)<;>(try (exfalso;omega))<;>(try subst hc))|(with_reducible refine ji (by omega) ?_)|(simp (config := { maxSteps := 400000 }) only [↓jt,↓reduceIte,zvs,reduceCtorEq,Nat.reduceEqDiff,Nat.reduceAdd,Nat.reduceLeDiff,Nat.reduceMul,Int.reduceBNe,Int.reduceBEq,Int.reduceEq,Int.reduceNe,Int.reduceLT,Int.reduceLE,Int.reduceGT,Int.reduceGE,Int.reduceNeg,Int.reduceToNat,Nat.reduceLT,Nat.reduceSub,tab,Try.results10,jTA])|(simp (disch:=omega) only [ziw]))
  refine ok_loop (fun k : Nat => ⟨slots [(0, encPrts l), (1, encPrts l), (5, .int .i64 k)], rows [], 0⟩) (fun k => k ≤ l.length) (fun k => l.length - k) 0 ?_ (Nat.zero_le _) (fun k hk => ?_)
  · (refine yrn [] false ?_ ?_<;>(repeat' (first|(with_reducible first|exact ya1|exact ya2|exact ya3|refine jx rfl (by first|rfl|assumption|(simp only [znl,znA5];(first|done|fail)))|exact ya5|exact ya7|exact jy|exact jz|refine jA ?_|refine ya9 ?_ ?_ ?_|refine jC rfl (by first|rfl|assumption|(simp only [znl,znA5];(first|done|fail)))|refine MR.agg (MRL.cons ?_ ?_)|refine MR.fn ?_|refine MRL.cons ?_ ?_|exact MRL.nil|refine jE ?_ ?_|exact jF|exact jG|refine yb1 ?_ ?_|refine MB.row ?_|refine jI ?_ ?_|exact ya8|refine jJ rfl (by first|rfl|assumption|(simp only [znl,znA5];(first|done|fail)))|refine yb2 ?_|rfl)|(simp only [znl,znA5];(first|done|fail))|(simp only [↓reduceIte,zlk,Nat.reduceEqDiff,reduceCtorEq])|(with_reducible first|refine jJ ?_ ?_|refine ya5 ?_|refine ju ?_|refine jv ?_|refine jw ?_|refine jx ?_ (by first|rfl|assumption|(simp only [znl,znA5];(first|done|fail)))|refine jC ?_ (by first|rfl|assumption|(simp only [znl,znA5];(first|done|fail)))))))
    all_goals (first | rfl)
  by_cases hlt : k < l.length
  · have hg := getP hlt
    repeat' (first|(with_reducible first|refine yrl (by constructor) ?_|refine jk (fun M hM=>?_)|(refine hM _ ?_;clear hM M)|refine xb3 (by decide) ?_|refine yqa (by assumption) ?_ ?_|refine yqb (by assumption) ?_ ?_)|((with_reducible refine je ?_)<;>(first|rfl|assumption|(simp only [znl,znA5];(first|done|fail))))|(with_reducible refine jf (by (simp only [↓reduceIte,zlk,Nat.reduceEqDiff,reduceCtorEq]);exact rfl) ?_)|((with_reducible first|refine jg (fun hc=>?_) (fun hc=>?_)|refine jh (fun hc=>?_) (fun hc=>?_))<;>(try simp (disch:=omega) only [zhb] at hc)<;>(try (exfalso;omega))<;>(try subst hc))|(with_reducible refine ji (by omega) ?_)|(simp (config := { maxSteps := 400000 }) only [↓jt,↓reduceIte,zvs,reduceCtorEq,Nat.reduceEqDiff,Nat.reduceAdd,Nat.reduceLeDiff,Nat.reduceMul,Int.reduceBNe,Int.reduceBEq,Int.reduceEq,Int.reduceNe,Int.reduceLT,Int.reduceLE,Int.reduceGT,Int.reduceGE,Int.reduceNeg,Int.reduceToNat,Nat.reduceLT,Nat.reduceSub,tab,hg,Try.results10,jTA])|(simp (disch:=omega) only [ziw]))
    all_goals (try (exfalso; omega))
    refine ok_drawC 8 (by kernel_rfl) (by decide +kernel) (by intro m hm; simp only [upd_ap,rows_cons,rows_nil]; (repeat (first | rfl | rw [if_neg (by omega)]))) (fun M hM => ?_); simp only [List.take_succ_cons,List.take_zero,List.drop_succ_cons,List.drop_zero]
    repeat' (first|(with_reducible first|refine yrl (by constructor) ?_|refine jk (fun M hM=>?_)|(refine hM _ ?_;clear hM M)|refine xb3 (by decide) ?_|refine yqa (by assumption) ?_ ?_|refine yqb (by assumption) ?_ ?_)|((with_reducible refine je ?_)<;>(first|rfl|assumption|(simp only [znl,znA5];(first|done|fail))))|(with_reducible refine jf (by (simp only [↓reduceIte,zlk,Nat.reduceEqDiff,reduceCtorEq]);exact rfl) ?_)|((with_reducible first|refine jg (fun hc=>?_) (fun hc=>?_)|refine jh (fun hc=>?_) (fun hc=>?_))<;>(try simp (disch:=omega) only [zhb] at hc)<;>(try (exfalso;omega))<;>(try subst hc))|(with_reducible refine ji (by omega) ?_)|(simp (config := { maxSteps := 400000 }) only [↓jt,↓reduceIte,zvs,reduceCtorEq,Nat.reduceEqDiff,Nat.reduceAdd,Nat.reduceLeDiff,Nat.reduceMul,Int.reduceBNe,Int.reduceBEq,Int.reduceEq,Int.reduceNe,Int.reduceLT,Int.reduceLE,Int.reduceGT,Int.reduceGE,Int.reduceNeg,Int.reduceToNat,Nat.reduceLT,Nat.reduceSub,tab,hg,hv,hf,Try.results10,jTA])|(simp (disch:=omega) only [ziw]))
    all_goals first
      | (exfalso; omega)
      | (refine xl1 (k + 1) ?_ (by show k + 1 ≤ l.length; omega) (by show l.length - (k + 1) < l.length - k; omega); (refine yrn [] false ?_ ?_<;>(repeat' (first|(with_reducible first|exact ya1|exact ya2|exact ya3|refine jx rfl (by first|rfl|assumption|(simp only [znl,znA5];(first|done|fail)))|exact ya5|exact ya7|exact jy|exact jz|refine jA ?_|refine ya9 ?_ ?_ ?_|refine jC rfl (by first|rfl|assumption|(simp only [znl,znA5];(first|done|fail)))|refine MR.agg (MRL.cons ?_ ?_)|refine MR.fn ?_|refine MRL.cons ?_ ?_|exact MRL.nil|refine jE ?_ ?_|exact jF|exact jG|refine yb1 ?_ ?_|refine MB.row ?_|refine jI ?_ ?_|exact ya8|refine jJ rfl (by first|rfl|assumption|(simp only [znl,znA5];(first|done|fail)))|refine yb2 ?_|rfl)|(simp only [znl,znA5];(first|done|fail))|(simp only [↓reduceIte,zlk,Nat.reduceEqDiff,reduceCtorEq])|(with_reducible first|refine jJ ?_ ?_|refine ya5 ?_|refine ju ?_|refine jv ?_|refine jw ?_|refine jx ?_ (by first|rfl|assumption|(simp only [znl,znA5];(first|done|fail)))|refine jC ?_ (by first|rfl|assumption|(simp only [znl,znA5];(first|done|fail))))))); all_goals (first | rfl); done)
  · obtain rfl : k = l.length := by omega
    repeat' (first|(with_reducible first|refine yrl (by constructor) ?_|refine jk (fun M hM=>?_)|(refine hM _ ?_;clear hM M)|refine xb3 (by decide) ?_|refine yqa (by assumption) ?_ ?_|refine yqb (by assumption) ?_ ?_)|((with_reducible refine je ?_)<;>(first|rfl|assumption|(simp only [znl,znA5];(first|done|fail))))|(with_reducible refine jf (by (simp only [↓reduceIte,zlk,Nat.reduceEqDiff,reduceCtorEq]);exact rfl) ?_)|((with_reducible first|refine jg (fun hc=>?_) (fun hc=>?_)|refine jh (fun hc=>?_) (fun hc=>?_))<;>(try simp (disch:=omega) only [zhb] at hc)<;>(try (exfalso;omega))<;>(try subst hc))|(with_reducible refine ji (by omega) ?_)|(simp (config := { maxSteps := 400000 }) only [↓jt,↓reduceIte,zvs,reduceCtorEq,Nat.reduceEqDiff,Nat.reduceAdd,Nat.reduceLeDiff,Nat.reduceMul,Int.reduceBNe,Int.reduceBEq,Int.reduceEq,Int.reduceNe,Int.reduceLT,Int.reduceLE,Int.reduceGT,Int.reduceGE,Int.reduceNeg,Int.reduceToNat,Nat.reduceLT,Nat.reduceSub,tab,Try.results10,jTA])|(simp (disch:=omega) only [ziw]))
    all_goals first
      | (exfalso; omega)
      | (simp only [zrds]; done)
end Go.Proofs.Ytoibnghkcdopeaa.V
end
