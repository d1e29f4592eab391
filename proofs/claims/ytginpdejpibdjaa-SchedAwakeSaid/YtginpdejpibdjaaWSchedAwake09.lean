/-
  Parts of the proof of SchedAwake: VregT, R3, R4, R5.
  Conditions: none.
-/
import Derived.Test.YtginpdejpibdjaaWSchedAwake07
import Derived.Test.YtginpdejpibdjaaWSchedAwake08
set_option linter.unusedVariables false
set_option linter.unusedSimpArgs false
set_option linter.unusedSectionVars false
set_option linter.defProp false
section
namespace Go.Proofs.Ytginpdejpibdjaa.V
open Go Go.RowKit

def stF (m : Nat) (l : List (Nat × Blk)) (G : Heap) : Heap := l.foldl (fun G e => upd G m (some e.2)) G
def hpL (m : Nat) : List (Nat × Blk) → Heap → (Nat → Bool) → Heap
  | [], G, _ => G
  | e :: l, G, f => if f e.1 = true then hpL m l (upd G m (some e.2)) f else G
theorem hpL_cons {m : Nat} (e : Nat × Blk) (l : List (Nat × Blk)) (G : Heap) (f : Nat → Bool) : hpL m (e :: l) G f = if f e.1 = true then hpL m l (upd G m (some e.2)) f else G := rfl
theorem hpL_congr {m : Nat} {f g : Nat → Bool} : ∀ (l : List (Nat × Blk)) (G : Heap), (∀ e ∈ l, f e.1 = g e.1) → hpL m l G f = hpL m l G g
  | [], _, _ => rfl
  | e :: l, G, h => by
    rw [hpL_cons, hpL_cons, h e (by simp), hpL_congr l _ fun a ha => h a (by simp [ha])]
theorem hpL_mid {m : Nat} (f : Nat → Bool) : ∀ (pre l : List (Nat × Blk)) (G : Heap), (∀ e ∈ pre, f e.1 = true) → hpL m (pre ++ l) G f = hpL m l (stF m pre G) f
  | [], _, _, _ => rfl
  | e :: pre, l, G, h => by
    rw [List.cons_append, hpL_cons, if_pos (h e (by simp)), hpL_mid f pre l _ fun a ha => h a (by simp [ha])]
    rfl
theorem hpL_none {m : Nat} (l : List (Nat × Blk)) (G : Heap) (f : Nat → Bool) (h : ∀ a, l.head? = some a → f a.1 = false) : hpL m l G f = G := by
  cases l with
  | nil => rfl
  | cons e l => rw [hpL_cons, if_neg (by rw [h e rfl]; simp)]
theorem hpL_all {m : Nat} : ∀ (l : List (Nat × Blk)) (G : Heap), hpL m l G (fun _ => true) = stF m l G
  | [], _ => rfl
  | e :: l, G => by rw [hpL_cons, if_pos rfl, hpL_all l]; rfl
theorem hpL_pre {m : Nat} (f : Nat → Bool) : ∀ (l : List (Nat × Blk)) (G : Heap), ∃ pre post, l = pre ++ post ∧ hpL m l G f = stF m pre G
  | [], G => ⟨[], [], rfl, rfl⟩
  | e :: l, G => by
    rw [hpL_cons]
    split
    · obtain ⟨pre, post, h1, h2⟩ := hpL_pre f l (upd G m (some e.2))
      exact ⟨e :: pre, post, by rw [h1]; rfl, h2⟩
    · exact ⟨[], e :: l, rfl, rfl⟩
def ordB (ops : Array Oper) : List Nat → Bool
  | [] => true
  | j :: l => (l.all fun i => opD ops i fun o => reachC ops ops.size o j) && ordB ops l
theorem ordB_pre {ops : Array Oper} : ∀ {js pre : List Nat} {e : Nat} {post : List Nat}, ordB ops js = true → js = pre ++ e :: post → ∀ a ∈ pre, opD ops e (fun o => reachC ops ops.size o a) = true
  | js, [], e, post, _, _, a, ha => by cases ha
  | js, p :: pre, e, post, h, hj, a, ha => by
    subst hj
    simp only [List.cons_append,ordB,Bool.and_eq_true,List.all_eq_true] at h
    rcases List.mem_cons.1 ha with rfl | ha
    · exact h.1 e (by simp)
    · exact ordB_pre h.2 rfl a ha
def drawOk4 (ops : Array Oper) (k : Nat) (perm js : List Nat) : Bool := drawOk3 ops k perm (js.map fun j => (j, perm.length)) && decide js.Nodup && ordB ops js
section
variable {P : Program} {N B : Nat} {ρ0 : Names} {w0 : World} {ops : Array Oper} {k nx : Nat} {js : List Nat} {hp : (Nat → Bool) → Heap} {perm : List Nat} {tm0 tmF : Nat → VV} {env : Nat → Nat → VV} {K : VS → Prop} {Q : Exit → Act → World → Prop}
theorem head4 (hk : k ≤ ops.size) (hd : ∀ o ∈ ops.toList, ∀ t, o.dst = some t → t < N)
    (hreach : ∀ j o, k ≤ j → ops[j]? = some o → (∀ i, i < j → reachB ops ops.size o i = true) ∧ ∀ e ∈ o.after, Region.binds .any e = true → e.on < j)
    (hb : ∀ j o, j < k → ops[j]? = some o → ∀ e ∈ o.after, Region.binds .any e = true → e.on < j)
    (hperm : ∀ i, i < k → (∀ e ∈ js, e ≠ i) → ∃ q : Nat, perm[q]? = some i)
    (hpk : ∀ (q : Nat) i, perm[q]? = some i → i < k ∧ ∀ e ∈ js, e ≠ i)
    (hpl : perm.length ≤ k)
    (huniq : ∀ (q r : Nat) i, perm[q]? = some i → perm[r]? = some i → q = r)
    (hone : ∀ i j t, i < k → j < k → i ≠ j → dstB ops i t = true → dstB ops j t = false)
    (henv : ∀ (q : Nat) i o t, perm[q]? = some i → ops[i]? = some o → t ∈ o.looksAt ops → ∀ listed, listed.getD i false = false → Closed ops listed → (∀ e ∈ o.after, Region.binds .any e = true → listed.getD e.on false = true) → tmQ ops listed k tm0 tmF t = env q t)
    (hsk : ∀ e ∈ js, e < k)
    (hpc : ∀ {f g : Nat → Bool}, (∀ e ∈ js, f e = g e) → hp f = hp g)
    (hF : ∀ (q : Nat) i o, perm[q]? = some i → ops[i]? = some o → ∀ listed : Array Bool, listed.getD i false = false → Closed ops listed → Fact2 P ops.toList (env q) tmF (hp fun j => listed.getD j false) (nx + 64 * q) o)
    (hS : ∀ e ∈ js, ∀ o, ops[e]? = some o → o.dst = none ∧ o.guard = none ∧ ∃ t y x, o.op = .store t y x ∧ (∀ listed, Closed ops listed → (∀ e ∈ o.after, Region.binds .any e = true → listed.getD e.on false = true) → ∀ z ∈ o.op.operands.toList, ev (tmQ ops listed k tm0 tmF) z = ev tmF z) ∧ (∀ z, z = y ∨ z = x → z ∈ o.op.operands.toList) ∧
      ∀ listed : Array Bool, e < listed.size → listed.getD e false = false → Closed ops listed → (∀ e ∈ o.after, Region.binds .any e = true → listed.getD e.on false = true) → vStore P (ev tmF) (hp fun j => listed.getD j false) 0 (fun v G n => v = .any ∧ (G = hp fun j => (listed.setIfInBounds e true).getD j false) ∧ n = 0) t y x)
    (htail : vlist P ops.toList (ops.toList.drop k) ⟨tmF, hp fun _ => true, nx + 64 * k⟩ K)
    (next : ∀ S' a' w' ρ', K S' → SR N B ρ0 w0 S' a' w' ρ' → Q .normal a' w') :
    ∀ (fuel : Nat) (listed : Array Bool) (a : Act) (w : World) (ρ : Names), ops.size ≤ cnt listed k + fuel → listed.size = ops.size → (∀ i, k ≤ i → listed.getD i false = false) → Closed ops listed →
      TM ρ w (tmQ ops listed k tm0 tmF) a → a.defers = [] → a.tmps.size = N → HR (ZF (Fr2 nx perm listed)) B ρ (hp fun j => listed.getD j false) 0 w → Below B w0 w → Ext ρ0 w0 ρ w → wpAny P .any ops Q fuel listed a w := by
  have fin : ∀ (fuel : Nat) (listed : Array Bool) (a : Act) (w : World) (ρ : Names), ops.size ≤ k + fuel → (∀ i, i < k → listed.getD i false = true) → listed.size = ops.size → (∀ i, k ≤ i → listed.getD i false = false) → Closed ops listed →
      TM ρ w (tmQ ops listed k tm0 tmF) a → a.defers = [] → a.tmps.size = N → HR (ZF (Fr2 nx perm listed)) B ρ (hp fun j => listed.getD j false) 0 w → Below B w0 w → Ext ρ0 w0 ρ w → wpAny P .any ops Q fuel listed a w := by
    intro fuel listed a w ρ hf hall hsz hl hc hT hdf hts hh hbl he
    have hTF : TM ρ w tmF a := fun t => by
      have := hT t
      unfold tmQ at this
      rw [if_neg (by intro e; obtain ⟨j, h1, h2, _⟩ := pendB_true.1 e; rw [hall j h1] at h2; cases h2)] at this
      exact this
    have hG : (hp fun j => listed.getD j false) = hp fun _ => true := hpc fun e he => hall e (hsk e he)
    rw [hG] at hh
    exact tail_any hd hreach next fuel k listed ⟨tmF, hp fun _ => true, nx + 64 * k⟩ a w ρ (Nat.le_refl _) (by omega) hsz (fun i => by
        by_cases hi : i < k
        · simp [hi, hall i hi]
        · simp [hi, hl i (by omega)]) hc htail
      ⟨hTF, hdf, hts, hh.zone (fun m (hm : nx + 64 * k ≤ m) => ⟨by omega, fun q i hq h1 h2 => by
        have : q < perm.length := (List.getElem?_eq_some_iff.1 hq).1
        omega⟩), hbl, he⟩
  intro fuel
  induction fuel with
  | zero =>
    intro listed a w ρ hf hsz hl hc hT hdf hts hh hbl he
    have hkz : k = ops.size := by have := cnt_le listed k; omega
    exact fin 0 listed a w ρ (by omega) (fun i hi => by
      cases hx : listed.getD i false with
      | true => rfl
      | false => have := cnt_lt k i hi hx; omega) hsz hl hc hT hdf hts hh hbl he
  | succ fuel ih =>
    intro listed a w ρ hf hsz hl hc hT hdf hts hh hbl he
    by_cases hall : ∀ i, i < k → listed.getD i false = true
    · exact fin (fuel + 1) listed a w ρ (by have := cnt_le listed k; omega) hall hsz hl hc hT hdf hts hh hbl he
    · simp only [Classical.not_forall] at hall
      obtain ⟨j0, hj0, hj0l⟩ := hall
      have hj0f : listed.getD j0 false = false := by simpa using hj0l
      refine ⟨fun hr => absurd hr (exists_ready hsz hk hb j0 j0 (Nat.le_refl _) hj0 hj0f), fun i hi => ?_⟩
      obtain ⟨h0, o, ho, hafter⟩ := mem_ready.1 hi
      obtain ⟨hil, hif⟩ := getD_true_false.1 h0
      have hik : i < k := by
        rcases Nat.lt_or_ge i k with h | h
        · exact h
        · exfalso
          have := reach_listed hc ops.size o j0 ((hreach i o h ho).1 j0 (by omega)) hafter
          rw [hj0f] at this
          cases this
      have hdN : ∀ t, o.dst = some t → t < a.tmps.size := fun t ht => by
        rw [hts]
        exact hd o (by obtain ⟨hlt, e⟩ := Array.getElem?_eq_some_iff.1 ho; rw [← e]; simp) t ht
      have hcl : Closed ops (listed.setIfInBounds i true) := fun x o' hx hlx e' he' hb' => by
        rw [getD_set hil] at hlx ⊢
        split
        · rfl
        · by_cases hxi : x = i
          · subst hxi
            rw [ho] at hx
            injection hx with hx
            subst hx
            exact hafter e' he' hb'
          · rw [if_neg hxi] at hlx
            exact hc x o' hx hlx e' he' hb'
      -- the slots behind the operation
      have htm : ∀ (ρ' : Names) (x : Value) (w' : World) (v : VV), (∀ t, o.dst = some t → tmF t = v) → VR ρ' w' v x → Ext ρ w ρ' w' → TM ρ' w' (tmQ ops (listed.setIfInBounds i true) k tm0 tmF) (a.put o.dst x) := by
        intro ρ' x w' v hv hvx he' t
        have hput := (hT.ext he').put hdN hvx t
        have e : V.put o.dst v (tmQ ops listed k tm0 tmF) t = tmQ ops (listed.setIfInBounds i true) k tm0 tmF t := by
          by_cases htd : o.dst = some t
          · have h1 : V.put o.dst v (tmQ ops listed k tm0 tmF) t = v := by rw [htd]; simp [V.put, upd_ap]
            rw [h1]
            unfold tmQ
            rw [if_neg]
            · exact (hv t htd).symm
            · intro e
              obtain ⟨j, h1, h2, o', ho', h3⟩ := pendB_true.1 e
              rw [getD_set hil] at h2
              split at h2
              · cases h2
              · rename_i hji
                have := hone i j t hik h1 (Ne.symm hji) (dstB_iff.2 ⟨o, ho, htd⟩)
                rw [dstB_iff.2 ⟨o', ho', h3⟩] at this
                cases this
          · have h1 : V.put o.dst v (tmQ ops listed k tm0 tmF) t = tmQ ops listed k tm0 tmF t := by
              cases hod : o.dst with
              | none => rfl
              | some d => simp only [V.put,upd_ap]; rw [if_neg (by intro e; rw [e] at htd; exact htd hod)]
            rw [h1]
            unfold tmQ
            have : pendB ops (listed.setIfInBounds i true) k t = pendB ops listed k t := by
              rw [Bool.eq_iff_iff, pendB_true, pendB_true]
              constructor
              · rintro ⟨j, h1, h2, o', ho', h3⟩
                rw [getD_set hil] at h2
                split at h2
                · cases h2
                · exact ⟨j, h1, h2, o', ho', h3⟩
              · rintro ⟨j, h1, h2, o', ho', h3⟩
                refine ⟨j, h1, ?_, o', ho', h3⟩
                rw [getD_set hil, if_neg]
                · exact h2
                · intro e; subst e; rw [ho] at ho'; injection ho' with ho'; subst ho'; exact htd h3
            rw [this]
        rw [e] at hput
        exact hput
      by_cases hjs : ∃ e ∈ js, e = i
      · -- a store
        obtain ⟨e, hes, rfl⟩ := hjs
        obtain ⟨hdst, hg, t, y, x, hop, hev, hyx, hst⟩ := hS e hes o ho
        have hst := hst listed hil hif hc hafter
        have hev := hev listed hc hafter
        obtain ⟨GB, hGB⟩ : ∃ GB, GB = hp fun j => (listed.setIfInBounds e true).getD j false := ⟨_, rfl⟩
        have hset := hGB.symm
        rw [← hGB] at hst
        have hst2 : vStore P (ev (tmQ ops listed k tm0 tmF)) (hp fun j => listed.getD j false) 0 (fun v G n => v = .any ∧ G = GB ∧ n = 0) t y x := by
          unfold vStore at hst ⊢
          unfold onV at hst ⊢
          rw [hev y (hyx y (.inl rfl)), hev x (hyx x (.inr rfl))]
          exact hst
        have hr := store_sound hT hh t y x hop hst2
        have after : ∀ (ρ' : Names) (x : Value) (w' : World), HR (ZF (Fr2 nx perm listed)) B ρ' GB 0 w' → Ext ρ w ρ' w' → Below B w w' → wpAny P .any ops Q fuel (listed.setIfInBounds e true) (a.put o.dst x) w' := by
          intro ρ' x w' hh' he' hb'
          have hz := put_size a o.dst x
          refine ih _ _ _ ρ' ?_ (by simpa using hsz) (fun j hj => by rw [getD_set hil, if_neg (by omega)]; exact hl j hj) hcl ?_ (by rw [hz.2]; exact hdf) (by rw [hz.1]; exact hts) ?_ (hbl.trans hb') (he.trans he')
          · rw [cnt_set hil hif, if_pos hik]; omega
          · exact htm ρ' x w' .any (fun t ht => by rw [hdst] at ht; cases ht) (by simp [VR, VR1]) he'
          · rw [hset]
            refine hh'.zone fun m hm => ⟨hm.1, fun q j hq h1 h2 => ?_⟩
            have := hm.2 q j hq h1 h2
            rw [getD_set hil, if_neg (fun h => (hpk q j hq).2 e hes h.symm)] at this
            exact this
        have hw : (if Region.wanted o (yielded ops a.tmps) = true then o.wp P a w (wpAny P .any ops Q fuel (listed.setIfInBounds e true)) Q else wpAny P .any ops Q fuel (listed.setIfInBounds e true) (a.put o.dst undef) w) := by
          rw [if_pos (by simp [Region.wanted, hg])]
          unfold Oper.wp
          rcases hr with ⟨x, w', hr, hg⟩ | ⟨w', hr, hg⟩ | ⟨f, xs, hr, hcl'⟩
          · rw [hr]
            obtain ⟨v', H', n'', ρ', ⟨rfl, rfl, rfl⟩, h1, h2, h3, h4⟩ := hg
            exact after ρ' x w' h2 h3 h4
          · rw [hr]
            obtain ⟨v', H', n'', ρ', ⟨rfl, rfl, rfl⟩, h1, h2, h3, h4⟩ := hg
            exact after ρ' undef w' h2 h3 h4
          · rw [hr]
            refine Calls.mono hcl' fun e w' hee => ?_
            obtain ⟨x, rfl, v', H', n'', ρ', ⟨rfl, rfl, rfl⟩, h1, h2, h3, h4⟩ := hee
            exact after ρ' x w' h2 h3 h4
        unfold wpOp
        rw [ho]
        dsimp only
        split
        · rename_i hx; rw [if_pos hx] at hw; exact .inl hw
        · rename_i hx; rw [if_neg hx] at hw; exact hw
      -- another one
      obtain ⟨q, hq⟩ := hperm i hik fun e he h => hjs ⟨e, he, h⟩
      have hseen : ∀ t ∈ o.looksAt ops, tmQ ops listed k tm0 tmF t = env q t := fun t ht => henv q i o t hq ho ht listed hif hc hafter
      obtain ⟨G, hGe⟩ : ∃ G, G = hp fun j => listed.getD j false := ⟨_, rfl⟩
      have hFi : Fact2 P ops.toList (env q) tmF G (nx + 64 * q) o := by rw [hGe]; exact hF q i o hq ho listed hif hc
      have hGe' : (hp fun j => (listed.setIfInBounds i true).getD j false) = G := by
        rw [hGe]
        exact hpc fun e he => by rw [getD_set hil, if_neg (fun h => hjs ⟨e, he, h⟩)]
      rw [← hGe] at hh
      -- on behind the operation
      have go : ∀ (ρ' : Names) (x : Value) (w' : World) (v : VV) (n' : Nat), (∀ t, o.dst = some t → tmF t = v) → VR ρ' w' v x → HR (ZI (Fr2 nx perm listed) (nx + 64 * q)) B ρ' G n' w' → n' ≤ nx + 64 * q + 64 → Ext ρ w ρ' w' → Below B w w' →
          wpAny P .any ops Q fuel (listed.setIfInBounds i true) (a.put o.dst x) w' := by
        intro ρ' x w' v n' hv hvx hh' hn' he' hb'
        have hz := put_size a o.dst x
        refine ih _ _ _ ρ' ?_ (by simpa using hsz) (fun j hj => by rw [getD_set hil, if_neg (by omega)]; exact hl j hj) hcl (htm ρ' x w' v hv hvx he') (by rw [hz.2]; exact hdf) (by rw [hz.1]; exact hts) ?_ (hbl.trans hb') (he.trans he')
        · rw [cnt_set hil hif, if_pos hik]; omega
        · rw [hGe']
          refine hh'.zone fun m hm => .inr ⟨⟨hm.1, fun r j hr h1 h2 => ?_⟩, fun hc' => ?_⟩
          · have := hm.2 r j hr h1 h2
            rw [getD_set hil] at this
            split at this
            · cases this
            · exact this
          · have := hm.2 q i hq hc'.1 hc'.2
            rw [getD_set hil, if_pos rfl] at this
            cases this
      have hhI : HR (ZI (Fr2 nx perm listed) (nx + 64 * q)) B ρ G (nx + 64 * q) w := hh.zone fun m hm => by
        rcases hm with hm | hm
        · refine ⟨by omega, fun r j hr h1 h2 => ?_⟩
          have : r = q := by omega
          subst this
          rw [hq] at hr
          injection hr with hr
          subst hr
          exact hif
        · exact hm.1
      have run : Does2 P (env q) tmF G (nx + 64 * q) o → o.wp P a w (wpAny P .any ops Q fuel (listed.setIfInBounds i true)) Q := by
        rintro ⟨v, n', hv, hn1, hn2, hdo⟩
        have hop := hdo (ev (tmQ ops listed k tm0 tmF)) (fun v' H' n'' => v' = v ∧ H' = G ∧ n'' = n') (fun x hx => by
          cases x with
          | tmp t => exact hseen t (looks_operand hx)
          | _ => rfl) ⟨rfl, rfl, rfl⟩
        have hr := vopH_sound (Z := ZI (Fr2 nx perm listed) (nx + 64 * q)) hT hhI (fun v' H' n'' h1 h2 => (⟨Nat.le_refl _, by omega⟩ : nx + 64 * q ≤ nx + 64 * q ∧ nx + 64 * q < nx + 64 * q + 64)) hop
        unfold Oper.wp
        rcases hr with ⟨x, w', hr, hg⟩ | ⟨w', hr, hg⟩ | ⟨f, xs, hr, hcl'⟩
        · rw [hr]
          obtain ⟨v', H', n'', ρ', ⟨rfl, rfl, rfl⟩, h1, h2, h3, h4⟩ := hg
          exact go ρ' x w' v' n'' hv h1 h2 hn2 h3 h4
        · rw [hr]
          obtain ⟨v', H', n'', ρ', ⟨rfl, rfl, rfl⟩, h1, h2, h3, h4⟩ := hg
          exact go ρ' undef w' v' n'' hv h1 h2 hn2 h3 h4
        · rw [hr]
          refine Calls.mono hcl' fun e w' hee => ?_
          obtain ⟨x, rfl, v', H', n'', ρ', ⟨rfl, rfl, rfl⟩, h1, h2, h3, h4⟩ := hee
          exact go ρ' x w' v' n'' hv h1 h2 hn2 h3 h4
      have skip : (∀ t, o.dst = some t → tmF t = .raw undef) → wpAny P .any ops Q fuel (listed.setIfInBounds i true) (a.put o.dst undef) w := fun hv =>
        go ρ undef w (.raw undef) (nx + 64 * q) hv (by simp [VR, VR1, C1]) hhI (by omega) (Ext.refl _ _) (Below.refl _ _)
      have hst : if Region.wanted o (yielded ops a.tmps) = true then o.wp P a w (wpAny P .any ops Q fuel (listed.setIfInBounds i true)) Q else wpAny P .any ops Q fuel (listed.setIfInBounds i true) (a.put o.dst undef) w := by
        rcases hFi with ⟨hg, hdo⟩ | ⟨g, want, d, hg, hdg, hrest⟩
        · rw [if_pos (by simp [Region.wanted, hg])]
          exact run hdo
        · have hTd := hT d
          rw [hseen d (looks_guard hg hdg)] at hTd
          have hyd : yielded ops a.tmps g = match a.tmps[d]? with | some (.bool b) => some b | _ => none := by
            unfold yielded
            rw [dstAt_eq, Array.getElem?_toList] at hdg
            rw [hdg]
            simp only [Option.bind_some]
            rfl
          have hbool : ∀ b, env q d = .bool b → Region.wanted o (yielded ops a.tmps) = (b == want) := fun b hb2 => by
            rw [hb2] at hTd
            have hx := hTd.bool
            have hbd : a.tmps[d]? = some (.bool b) := by
              rw [Array.getD_eq_getD_getElem?] at hx
              cases hy : a.tmps[d]? with
              | none => rw [hy] at hx; simp [undef] at hx
              | some y => rw [hy] at hx; simp at hx; rw [hx]
            simp only [Region.wanted,hg,hyd,hbd]
            cases b <;> cases want <;> rfl
          rcases hrest with ⟨hdv, hdo⟩ | ⟨hdv, hu⟩
          · rw [hbool want hdv, if_pos (by simp)]
            exact run hdo
          · have hw : Region.wanted o (yielded ops a.tmps) = false := by
              rcases hdv with hdv | hdv
              · rw [hbool _ hdv]; cases want <;> rfl
              · rw [hdv] at hTd
                have hx : a.tmps.getD d undef = undef := by simpa [VR, VR1, C1] using hTd
                simp only [Region.wanted,hg,hyd]
                rw [Array.getD_eq_getD_getElem?] at hx
                cases hy : a.tmps[d]? with
                | none => cases want <;> rfl
                | some y =>
                  rw [hy] at hx
                  simp only [Option.getD_some] at hx
                  subst hx
                  cases want <;> rfl
            rw [hw, if_neg (by simp)]
            exact skip hu
      unfold wpOp
      rw [ho]
      dsimp only
      split
      · rename_i hw; rw [if_pos hw] at hst; exact .inl hst
      · rename_i hw; rw [if_neg hw] at hst; exact hst
end
section
variable {P : Program} {ops : Array Oper} {k : Nat} {perm js : List Nat} {K : VS → Prop}
theorem region4 {S : VS} (hm : P.follows .mixedOrders = true) (hfr : ∀ m, S.nx ≤ m → S.hp m = none) (hok : drawOk4 ops k perm js = true) {tmF : Nat → VV} {GA : Heap}
    (hsame : ∀ t, (∀ o ∈ picks ops.toList perm, o.dst ≠ some t) → tmF t = S.tm t)
    (hnm : ∀ m, m < S.nx → GA m = S.hp m) (m : Nat) (sts : List (Nat × Blk)) (hjs : sts.map (·.1) = js)
    (hF : ∀ (q : Nat) o, (picks ops.toList perm)[q]? = some o → ∀ pre post, sts = pre ++ post → Fact2 P ops.toList (rd2 (picks ops.toList perm) q S.tm tmF) tmF (stF m pre GA) (S.nx + 64 * q) o)
    (hS : ∀ pre e post, sts = pre ++ e :: post → ∀ o t y x, ops[e.1]? = some o → o.op = .store t y x → vStore P (ev tmF) (stF m pre GA) 0 (fun v G n => v = .any ∧ G = upd (stF m pre GA) m (some e.2) ∧ n = 0) t y x)
    (htail : vlist P ops.toList (ops.toList.drop k) ⟨tmF, stF m sts GA, S.nx + 64 * k⟩ K) : vdraw P ops S K := by
  intro id N B ρ0 w0 Q a w ρ hd hT hdf hts hh hbl he next
  unfold drawOk4 at hok
  simp only [Bool.and_eq_true,decide_eq_true_eq] at hok
  obtain ⟨⟨hok, hnd⟩, hord⟩ := hok
  have hs1 : ∀ e ∈ js, ∃ s ∈ js.map (fun j => (j, perm.length)), s.1 = e := fun e he => ⟨_, List.mem_map.2 ⟨e, he, rfl⟩, rfl⟩
  have hs2 : ∀ s ∈ js.map (fun j => (j, perm.length)), ∃ e ∈ js, e = s.1 := fun s hs => by
    obtain ⟨j, hj, rfl⟩ := List.mem_map.1 hs
    exact ⟨j, hj, rfl⟩
  generalize js.map (fun j => (j, perm.length)) = ss at hok hs1 hs2
  unfold drawOk3 at hok
  simp only [Bool.and_eq_true,decide_eq_true_eq] at hok
  obtain ⟨⟨⟨⟨⟨⟨⟨⟨⟨hk, hpl⟩, hone⟩, hpk⟩, hun⟩, hall⟩, hbk⟩, hrd⟩, hst⟩, htl⟩ := hok
  have rep : ∀ i, (Array.replicate ops.size false).getD i false = false := fun i => by
    rw [Array.getD_eq_getD_getElem?, Array.getElem?_replicate]
    split <;> rfl
  have hpk1 : ∀ (q : Nat) i, perm[q]? = some i → i < k ∧ ∀ s ∈ ss, s.1 ≠ i := fun q i hq => by
    have := (List.all_eq_true.1 hpk) i (List.mem_of_getElem? hq)
    simp only [Bool.and_eq_true,decide_eq_true_eq,List.all_eq_true,bne_iff_ne] at this
    exact ⟨this.1, fun s hs e => this.2 s hs e.symm⟩
  have hpk' : ∀ (q : Nat) i, perm[q]? = some i → i < k ∧ ∀ e ∈ js, e ≠ i := fun q i hq => ⟨(hpk1 q i hq).1, fun e he h => by
    obtain ⟨s, hs, h'⟩ := hs1 e he
    exact (hpk1 q i hq).2 s hs (h'.trans h)⟩
  have hlt : ∀ i ∈ perm, i < ops.toList.length := fun i hi => by
    obtain ⟨q, hq, e⟩ := List.mem_iff_getElem.1 hi
    have := (hpk' q i (by rw [List.getElem?_eq_getElem hq, e])).1
    rw [Array.length_toList]; omega
  have hget : ∀ (q i : Nat) o, perm[q]? = some i → ops[i]? = some o → (picks ops.toList perm)[q]? = some o := fun q i o hq ho => by
    rw [picks_get _ _ hlt, hq]
    simpa using ho
  have hgetD : ∀ (q i : Nat), perm[q]? = some i → perm.getD q 0 = i := fun q i hq => by
    rw [List.getD_eq_getElem?_getD, hq]; rfl
  have hql : ∀ (q i : Nat), perm[q]? = some i → q < perm.length := fun q i hq => (List.getElem?_eq_some_iff.1 hq).1
  have hsome : ∀ i, i < k → ∃ o, ops[i]? = some o := fun i hi => ⟨ops[i], by simp [show i < ops.size by omega]⟩
  have hperm : ∀ i, i < k → (∀ e ∈ js, e ≠ i) → ∃ q : Nat, perm[q]? = some i := fun i hi hne => by
    have := (List.all_eq_true.1 hall) i (List.mem_range.2 hi)
    simp only [Bool.or_eq_true,List.any_eq_true,beq_iff_eq] at this
    rcases this with ⟨s, hs, h⟩ | h
    · obtain ⟨e, he, h'⟩ := hs2 s hs
      exact absurd (h'.trans h) (hne e he)
    · obtain ⟨q, hq, e⟩ := List.mem_iff_getElem.1 (List.contains_iff_mem.1 h)
      exact ⟨q, by rw [List.getElem?_eq_getElem hq, e]⟩
  have hstore : ∀ s ∈ ss, s.1 < k ∧ ∃ o, ops[s.1]? = some o ∧ o.dst = none ∧ o.guard = none ∧ isSt o.op = true ∧ (∀ t ∈ o.looksAt ops, ∀ j, j < k → dstB ops j t = true → reachB ops ops.size o j = true) ∧ ∀ (q i : Nat), perm[q]? = some i → s.2 ≤ q → reachB ops ops.size o i = true := fun s hs => by
    have h := (List.all_eq_true.1 hst) s hs
    simp only [Bool.and_eq_true,decide_eq_true_eq] at h
    obtain ⟨hjk, h⟩ := h
    obtain ⟨o, ho, h⟩ := opD_some h
    simp only [Bool.and_eq_true,beq_iff_eq] at h
    obtain ⟨⟨⟨⟨h1, h2⟩, h3⟩, h4⟩, h5⟩ := h
    refine ⟨hjk, o, ho, h1, h2, h3, fun t ht j hj hdj => ?_, fun q i hq hqq => ?_⟩
    · have := (List.all_eq_true.1 ((List.all_eq_true.1 h4) t ht)) j (List.mem_range.2 hj)
      rw [hdj] at this
      exact reachC_B _ _ _ (by simpa using this)
    · have := (List.all_eq_true.1 h5) q (List.mem_range.2 (hql q i hq))
      rw [hgetD q i hq] at this
      simp only [Bool.or_eq_true,decide_eq_true_eq] at this
      rcases this with h | h
      · omega
      · exact reachC_B _ _ _ h
  have hdj : ∀ j t, j < k → dstB ops j t = true → ∀ e ∈ js, e ≠ j := fun j t hj hdt e he h => by
    obtain ⟨s, hs, h'⟩ := hs1 e he
    obtain ⟨_, o, ho, h1, _⟩ := hstore s hs
    obtain ⟨o', ho', h2⟩ := dstB_iff.1 hdt
    rw [h', h, ho'] at ho; injection ho with ho; subst ho
    rw [h1] at h2; cases h2
  have hone' : ∀ i j t, i < k → j < k → i ≠ j → dstB ops i t = true → dstB ops j t = false := fun i j t hi hj hij h => by
    cases hx : dstB ops j t with
    | false => rfl
    | true =>
      exfalso
      obtain ⟨q, hq⟩ := hperm i hi (hdj i t hi h)
      obtain ⟨r, hr⟩ := hperm j hj (hdj j t hj hx)
      obtain ⟨o, ho, h1⟩ := dstB_iff.1 h
      obtain ⟨o', ho', h2⟩ := dstB_iff.1 hx
      rcases Nat.lt_trichotomy q r with h' | h' | h'
      · exact oneL_one _ q r o o' t hone h' (hget q i o hq ho) (hget r j o' hr ho') h1 h2
      · subst h'
        rw [hq] at hr; injection hr with hr; exact hij hr
      · exact oneL_one _ r q o' o t hone h' (hget r j o' hr ho') (hget q i o hq ho) h2 h1
  refine wp_region_any hm ?_
  have hnamed : ∀ m l, ρ m = some l → m < S.nx := fun m l hm' => by
    rcases Nat.lt_or_ge m S.nx with h' | h'
    · exact h'
    · have := hh.fresh m h'
      rw [this] at hm'
      cases hm'
  have hh0 : HR (ZF (Fr2 S.nx perm (Array.replicate ops.size false))) B ρ GA 0 { w with drawn := w.drawn + 1 } := by
    have hd0 := hh.drew
    refine ⟨hd0.base, fun m hm' => hh.fresh m hm'.1, hd0.lt, fun m m' l l' h1 h2 g1 g2 => ?_, fun m s v l hs hl' => ?_, fun m es l hs hl' => ?_⟩
    · rw [hnm m (hnamed m l h1)] at g1
      rw [hnm m' (hnamed m' l' h2)] at g2
      exact hd0.apart m m' l l' h1 h2 g1 g2
    · rw [hnm m (hnamed m l hl')] at hs
      exact hd0.row m s v l hs hl'
    · rw [hnm m (hnamed m l hl')] at hs
      exact hd0.map m es l hs hl'
  have hext : Ext ρ w ρ { w with drawn := w.drawn + 1 } := ⟨fun _ _ h => h, Nat.le_refl _, fun _ _ _ => rfl, fun _ _ h => .inl h, fun _ h => h, fun _ h => .inl h⟩
  have henv : ∀ (q : Nat) i o t, perm[q]? = some i → ops[i]? = some o → t ∈ o.looksAt ops → ∀ listed, listed.getD i false = false → Closed ops listed → (∀ e ∈ o.after, Region.binds .any e = true → listed.getD e.on false = true) → tmQ ops listed k S.tm tmF t = rd2 (picks ops.toList perm) q S.tm tmF t := by
    intro q i o t hq ho ht listed hif hc hafter
    have hrd2 := (List.all_eq_true.1 hrd) q (List.mem_range.2 (hql q i hq))
    rw [hgetD q i hq] at hrd2
    obtain ⟨o2, ho2, hrd2⟩ := opD_some hrd2
    rw [ho] at ho2; injection ho2 with ho2; subst ho2
    have hrd3 := fun (r j : Nat) (hr : perm[r]? = some j) => by
      have := (List.all_eq_true.1 ((List.all_eq_true.1 hrd2) t ht)) r (List.mem_range.2 (hql r j hr))
      rw [hgetD r j hr] at this
      exact this
    unfold rd2 tmQ
    by_cases hany : (((picks ops.toList perm).drop q).any fun o => o.dst == some t) = true
    · rw [if_pos hany, if_pos]
      rw [List.any_eq_true] at hany
      obtain ⟨o', ho', hdt⟩ := hany
      obtain ⟨r0, hr0, e⟩ := List.mem_iff_getElem.1 ho'
      have hr : (picks ops.toList perm)[q + r0]? = some o' := by
        rw [← List.getElem?_drop, List.getElem?_eq_getElem hr0, e]
      rw [picks_get _ _ hlt] at hr
      obtain ⟨j, hj, hjo⟩ := Option.bind_eq_some_iff.1 hr
      have hjo : ops[j]? = some o' := by simpa using hjo
      have hjk := (hpk' _ j hj).1
      have hdt : o'.dst = some t := by simpa using hdt
      refine pendB_true.2 ⟨j, hjk, ?_, o', hjo, hdt⟩
      by_cases h0 : r0 = 0
      · subst h0
        rw [Nat.add_zero, hq] at hj; injection hj with hj
        rw [← hj]; exact hif
      · have := hrd3 (q + r0) j hj
        rw [dstB_iff.2 ⟨o', hjo, hdt⟩] at this
        simp only [Bool.not_true,Bool.false_or,Bool.or_eq_true,decide_eq_true_eq] at this
        rcases this with h | h
        · omega
        · rw [if_neg (by omega)] at h
          obtain ⟨o3, ho3, h⟩ := opD_some h
          rw [hjo] at ho3; injection ho3 with ho3; subst ho3
          have h := reachC_B _ _ _ h
          cases hx : listed.getD j false with
          | false => rfl
          | true =>
            have := reach_listed hc ops.size o' i h (fun e he hb' => hc j o' hjo hx e he hb')
            rw [hif] at this
            cases this
    · rw [if_neg hany, if_neg]
      intro e
      obtain ⟨j, h1, h2, o', ho', h3⟩ := pendB_true.1 e
      obtain ⟨r, hr⟩ := hperm j h1 (hdj j t h1 (dstB_iff.2 ⟨o', ho', h3⟩))
      by_cases hrq : q ≤ r
      · refine hany ?_
        rw [List.any_eq_true]
        refine ⟨o', ?_, by simp [h3]⟩
        have hpr := hget r j o' hr ho'
        have : ((picks ops.toList perm).drop q)[r - q]? = some o' := by rw [List.getElem?_drop, show q + (r - q) = r by omega]; exact hpr
        exact List.mem_of_getElem? this
      · have := hrd3 r j hr
        rw [dstB_iff.2 ⟨o', ho', h3⟩] at this
        simp only [Bool.not_true,Bool.false_or,Bool.or_eq_true,decide_eq_true_eq] at this
        rcases this with h | h
        · omega
        · rw [if_pos (by omega)] at h
          have := reach_listed hc ops.size o j (reachC_B _ _ _ h) hafter
          rw [h2] at this
          cases this
  refine head4 (K := K) (hp := hpL m sts GA) (js := js) (tm0 := S.tm) (tmF := tmF) (nx := S.nx) (N := N) (B := B) (ρ0 := ρ0) (w0 := w0) (k := k) (perm := perm) (env := fun q => rd2 (picks ops.toList perm) q S.tm tmF) hk hd ?_ ?_ hperm hpk' hpl ?_ hone' henv ?_ (fun {f g} h => hpL_congr sts GA (fun e he => h e.1 (by rw [← hjs]; exact List.mem_map.2 ⟨e, he, rfl⟩))) ?_ ?_ (by rw [hpL_all]; exact htail) ?_ ops.size _ a _ ρ (by omega) (by simp) ?_ ?_ ?_ hdf hts ?_ ?_ (he.trans hext)
  · intro j o hj ho
    have hlt : j < ops.size := (Array.getElem?_eq_some_iff.1 ho).1
    have := (List.all_eq_true.1 htl) j (List.mem_range.2 hlt)
    rw [ho] at this
    simp only [Bool.or_eq_true,decide_eq_true_eq,Bool.and_eq_true] at this
    rcases this with this | ⟨t1, t2⟩
    · omega
    · exact ⟨fun i hi => reachC_B _ _ _ ((List.all_eq_true.1 t1) i (List.mem_range.2 hi)), fun e he' hb => by
        have := (Array.all_eq_true_iff_forall_mem.1 t2) e he'
        simpa [hb] using this⟩
  · intro j o hj ho e he' hb
    have := (List.all_eq_true.1 hbk) j (List.mem_range.2 hj)
    obtain ⟨o2, ho2, this⟩ := opD_some this
    rw [ho] at ho2; injection ho2 with ho2; subst ho2
    have := (Array.all_eq_true_iff_forall_mem.1 this) e he'
    simpa [hb] using this
  · intro q r i hq hr
    have := (List.all_eq_true.1 ((List.all_eq_true.1 hun) q (List.mem_range.2 (hql q i hq)))) r (List.mem_range.2 (hql r i hr))
    rw [hgetD q i hq, hgetD r i hr] at this
    simpa using this
  · intro e he
    obtain ⟨s, hs, h⟩ := hs1 e he
    rw [← h]
    exact (hstore s hs).1
  · intro q i o hq ho listed hif hc
    obtain ⟨pre, post, h1, h2⟩ := hpL_pre (m := m) (fun j => listed.getD j false) sts GA
    rw [h2]
    exact hF q o (hget q i o hq ho) pre post h1
  · intro e he o ho
    obtain ⟨s, hs, hse⟩ := hs1 e he
    obtain ⟨_, o2, ho2, h1, h2, h3, h4, h5⟩ := hstore s hs
    rw [hse, ho] at ho2; injection ho2 with ho2; subst ho2
    cases hop : o.op <;> rw [hop] at h3 <;> simp only [isSt,Bool.false_eq_true] at h3
    rename_i t y x
    refine ⟨h1, h2, t, y, x, rfl, fun listed hc hafter z hz => ?_, fun z hz => ?_, fun listed hil hif hc hafter => ?_⟩
    · cases z with
      | tmp u =>
        show tmQ ops listed k S.tm tmF u = tmF u
        unfold tmQ
        rw [if_neg]
        intro e
        obtain ⟨j, g1, g2, o', ho', g3⟩ := pendB_true.1 e
        have := h4 u (looks_operand (by rw [hop]; exact hz)) j g1 (dstB_iff.2 ⟨o', ho', g3⟩)
        have := reach_listed hc ops.size o j this hafter
        rw [g2] at this
        cases this
      | _ => rfl
    · rcases hz with rfl | rfl <;> simp [Op.operands]
    · obtain ⟨e2, he2, h21⟩ := List.mem_map.1 (show e ∈ sts.map (·.1) by rw [hjs]; exact he)
      obtain ⟨pre, post, hsp⟩ := List.append_of_mem he2
      subst h21
      have hpre : ∀ a ∈ pre, listed.getD a.1 false = true := fun a ha => by
        have := ordB_pre (ops := ops) (js := js) hord (pre := pre.map (·.1)) (e := e2.1) (post := post.map (·.1)) (by rw [← hjs, hsp]; simp) a.1 (List.mem_map.2 ⟨a, ha, rfl⟩)
        obtain ⟨o', ho', this⟩ := opD_some this
        rw [ho] at ho'; injection ho' with ho'; subst ho'
        exact reach_listed hc ops.size o a.1 (reachC_B _ _ _ this) hafter
      have hpost : ∀ a ∈ post, (listed.setIfInBounds e2.1 true).getD a.1 false = false := fun a ha => by
        have hne : a.1 ≠ e2.1 := fun h => by
          have hn := hnd
          rw [← hjs, hsp] at hn
          simp only [List.map_append,List.map_cons] at hn
          have := (List.nodup_append.1 hn).2.1
          rw [List.nodup_cons] at this
          exact this.1 (List.mem_map.2 ⟨a, ha, h⟩)
        rw [getD_set hil, if_neg hne]
        cases hx : listed.getD a.1 false with
        | false => rfl
        | true =>
          exfalso
          obtain ⟨p1, p2, hsp2⟩ := List.append_of_mem ha
          have := ordB_pre (ops := ops) (js := js) hord (pre := pre.map (·.1) ++ e2.1 :: p1.map (·.1)) (e := a.1) (post := p2.map (·.1)) (by rw [← hjs, hsp, hsp2]; simp) e2.1 (by simp)
          obtain ⟨o', ho', this⟩ := opD_some this
          have := reach_listed hc ops.size o' e2.1 (reachC_B _ _ _ this) (fun e he hb' => hc a.1 o' ho' hx e he hb')
          rw [hif] at this
          cases this
      have e1 : (hpL m sts GA fun j => listed.getD j false) = stF m pre GA := by
        rw [hsp, hpL_mid _ pre _ GA hpre]
        exact hpL_none _ _ _ (by
          intro a ha
          rw [List.head?_cons] at ha
          injection ha with ha
          subst ha
          exact hif)
      have e3 : (hpL m sts GA fun j => (listed.setIfInBounds e2.1 true).getD j false) = upd (stF m pre GA) m (some e2.2) := by
        rw [hsp, hpL_mid _ pre _ GA fun a ha => by
          rw [getD_set hil]
          split
          · rfl
          · exact hpre a ha]
        rw [hpL_cons, if_pos (by rw [getD_set hil, if_pos rfl])]
        exact hpL_none _ _ _ (by
          intro a ha
          exact hpost a (List.mem_of_mem_head? ha))
      rw [e1, e3]
      exact hS pre e2 post hsp o t y x ho hop
  · intro S' a' w' ρ' hk' hS'
    exact next S' a' w' ρ' hk' hS'.tm hS'.defers hS'.size hS'.heap hS'.below hS'.ext
  · intro i _
    exact rep i
  · intro i o _ hli
    rw [rep i] at hli
    cases hli
  · intro t
    unfold tmQ
    split
    · exact (hT.ext hext) t
    · rename_i hp
      rw [hsame t]
      · exact (hT.ext hext) t
      · intro o ho e
        obtain ⟨q, hq, e2⟩ := List.mem_iff_getElem.1 ho
        have hq2 : (picks ops.toList perm)[q]? = some o := by rw [List.getElem?_eq_getElem hq, e2]
        rw [picks_get _ _ hlt] at hq2
        obtain ⟨j, hj, hjo⟩ := Option.bind_eq_some_iff.1 hq2
        exact hp (pendB_true.2 ⟨j, (hpk' q j hj).1, rep j, o, by simpa using hjo, e⟩)
  · rw [show (hpL m sts GA fun j => (Array.replicate ops.size false).getD j false) = GA from hpL_none _ _ _ fun a _ => rep a.1]
    exact hh0
  · exact hbl.drew
def headsM (P : Program) (ops l : List Oper) (tm0 : Nat → VV) (n m : Nat) (tm2 : Nat → VV) : List Nat → Heap → (Heap → Prop) → Prop
  | [], H, K => K H
  | j :: js, H, K => storeAt P m (ev tm2) H (fun G => vheld P ops l tm0 G n fun tm' H' _ => cnd (tm' = tm2 ∧ H' = G) (headsM P ops l tm0 n m tm2 js G K)) ops[j]?
theorem headsM_some {P : Program} {ops : Array Oper} {l : List Oper} {tm0 : Nat → VV} {n m : Nat} {tm2 : Nat → VV} (hone : oneL l = true) (hmn : m < n) {K : Heap → Prop} : ∀ (js : List Nat) (H : Heap), (∀ m, n ≤ m → H m = none) → headsM P ops.toList l tm0 n m tm2 js H K →
    ∃ sts : List (Nat × Blk), sts.map (·.1) = js ∧ K (stF m sts H) ∧
      (∀ pre e post, sts = pre ++ e :: post → ∀ o t y x, ops[e.1]? = some o → o.op = .store t y x → vStore P (ev tm2) (stF m pre H) 0 (fun v G n => v = .any ∧ G = upd (stF m pre H) m (some e.2) ∧ n = 0) t y x) ∧
      ∀ pre e post, sts = pre ++ e :: post → ∀ q o, l[q]? = some o → Fact2 P ops.toList (rd2 l q tm0 tm2) tm2 (stF m (pre ++ [e]) H) (n + 64 * q) o
  | [], H, _, h => ⟨[], rfl, h, fun pre e post hs => by simp at hs, fun pre e post hs => by simp at hs⟩
  | j :: js, H, hfr, h => by
    obtain ⟨o', t, y, x, b, ho, hop, hk, hst⟩ := storeAt_some2 h
    have hfr' : ∀ m', n ≤ m' → (upd H m (some b)) m' = none := fun m' hm' => by rw [upd_ap, if_neg (by omega)]; exact hfr m' hm'
    obtain ⟨tmG, G2, ⟨⟨et, eH⟩, l1⟩, l2, l3, l4⟩ := held2 (ops := ops) _ tm0 (upd H m (some b)) n hone hfr' hk
    subst et
    obtain ⟨sts, h1, h2, h3, h4⟩ := headsM_some hone hmn js _ hfr' l1
    refine ⟨(j, b) :: sts, by rw [List.map_cons, h1], h2, fun pre e post hs => ?_, fun pre e post hs => ?_⟩
    · cases pre with
      | nil =>
        simp only [List.nil_append,List.cons.injEq] at hs
        obtain ⟨rfl, rfl⟩ := hs
        intro o t1 y1 x1 ho1 hop1
        rw [show ops.toList[j]? = ops[j]? by simp] at ho
        rw [ho1] at ho; injection ho with ho; subst ho
        rw [hop1] at hop; injection hop with e1 e2 e3
        subst e1 e2 e3
        exact hst H rfl
      | cons p pre =>
        simp only [List.cons_append,List.cons.injEq] at hs
        obtain ⟨rfl, hs⟩ := hs
        exact h3 pre e post hs
    · cases pre with
      | nil =>
        simp only [List.nil_append,List.cons.injEq] at hs
        obtain ⟨rfl, rfl⟩ := hs
        intro q o hq
        obtain ⟨Hq, q1, q2, q3, q4⟩ := l4 q o hq
        show Fact2 P ops.toList _ _ (upd H m (some b)) _ o
        exact q4 _ (fun m' b' hm' => by rw [← eH]; exact q3 m' b' hm')
      | cons p pre =>
        simp only [List.cons_append,List.cons.injEq] at hs
        obtain ⟨rfl, hs⟩ := hs
        exact h4 pre e post hs
theorem regionM {S : VS} (hm : P.follows .mixedOrders = true) (hfr : ∀ m, S.nx ≤ m → S.hp m = none) (hok : drawOk4 ops k perm js = true) (m : Nat) (hmn : m < S.nx)
    (h : vheld P ops.toList (picks ops.toList perm) S.tm S.hp S.nx fun tm H _ => cnd (H = S.hp) (headsM P ops.toList (picks ops.toList perm) S.tm S.nx m tm js S.hp fun G => vlist P ops.toList (ops.toList.drop k) ⟨tm, G, S.nx + 64 * k⟩ K)) : vdraw P ops S K := by
  have hok' := hok
  unfold drawOk4 drawOk3 at hok'
  simp only [Bool.and_eq_true,decide_eq_true_eq] at hok'
  have hone := hok'.1.1.1.1.1.1.1.1.1.2
  obtain ⟨tmF, G1, ⟨e1, k1⟩, k2, k3, k4⟩ := held2 (ops := ops) _ S.tm S.hp S.nx hone hfr h
  obtain ⟨sts, h1, h2, h3, h4⟩ := headsM_some hone hmn js S.hp hfr k1
  refine region4 hm hfr hok (GA := S.hp) k2 (fun _ _ => rfl) m sts h1 (fun q o ho pre post hs => ?_) h3 h2
  rcases List.eq_nil_or_concat pre with rfl | ⟨p, e, rfl⟩
  · obtain ⟨Hq, q1, q2, q3, q4⟩ := k4 q o ho
    exact q4 S.hp (fun m' b' hm' => by rw [← e1]; exact q3 m' b' hm')
  · rw [List.concat_eq_append] at hs ⊢
    exact h4 p e post (by rw [hs]; simp) q o ho
end
noncomputable def hdM : (P : Program) → (ops l : List Oper) → (tm0 : Nat → VV) → (n m : Nat) → (tm2 : Nat → VV) → List Nat → Heap → (Heap → Prop) → Prop := Classical.choose (⟨headsM, rfl⟩ : ∃ f : (P : Program) → (ops l : List Oper) → (tm0 : Nat → VV) → (n m : Nat) → (tm2 : Nat → VV) → List Nat → Heap → (Heap → Prop) → Prop, f = headsM)
theorem hdM_eq : hdM = headsM := Classical.choose_spec (⟨headsM, rfl⟩ : ∃ f : (P : Program) → (ops l : List Oper) → (tm0 : Nat → VV) → (n m : Nat) → (tm2 : Nat → VV) → List Nat → Heap → (Heap → Prop) → Prop, f = headsM)
theorem hdM_nil (P : Program) (ops l : List Oper) (tm0 : Nat → VV) (n m : Nat) (tm2 : Nat → VV) (H : Heap) (K : Heap → Prop) : hdM P ops l tm0 n m tm2 [] H K = K H := by rw [hdM_eq]; exact id (Eq.refl _)
theorem hdM_cons (P : Program) (ops l : List Oper) (tm0 : Nat → VV) (n m : Nat) (tm2 : Nat → VV) (j : Nat) (js : List Nat) (H : Heap) (K : Heap → Prop) : hdM P ops l tm0 n m tm2 (j :: js) H K = storeAt P m (ev tm2) H (fun G => vh P ops l tm0 G n fun tm' H' _ => cnd (tm' = tm2 ∧ H' = G) (hdM P ops l tm0 n m tm2 js G K)) ops[j]? := by rw [hdM_eq, vh_eq]; exact id (Eq.refl _)
section
variable {P : Program} {n0 : Nat} {K : VX → VS → Prop}
theorem ok_drawM {id : Nat} {l : List Oper} {tm : Nat → VV} {H : Heap} {n : Nat} (k : Nat) (perm js : List Nat) (m : Nat) (hm : P.follows .mixedOrders = true) (hd : drawOk4 l.toArray k perm js = true) (hmn : m < n) (hfr : ∀ m, n ≤ m → H m = none)
    (h : ∀ M : VS → Prop, (∀ S, K .normal S → M S) → vh P l (picks l perm) tm H n fun tm2 H2 _ => cnd (H2 = H) (hdM P l (picks l perm) tm n m tm2 js H fun G => vl P l (l.drop k) ⟨tm2, G, n + 64 * k⟩ M)) : Ok P n0 (.region id l.toArray true) ⟨tm, H, n⟩ K := fun N B ρ0 w0 Q a w ρ h0 hok hS next => by
  simp only [codeOk,List.all_eq_true] at hok
  exact regionM (S := ⟨tm, H, n⟩) hm hfr hd m hmn (by simpa only [vh_def,vl_def,hdM_eq] using h _ fun _ h => h) id N B ρ0 w0 Q a w ρ (fun o ho t ht => by have := hok o ho; rw [ht] at this; simpa using this) hS.tm hS.defers hS.size hS.heap hS.below hS.ext
    fun S' a' w' ρ' hk h1 h2 h3 h4 h5 h6 => next .normal S' a' w' ρ' hk ⟨h1, h2, h3, h4, h5, h6⟩
end
end Go.Proofs.Ytginpdejpibdjaa.V
end
section
namespace Go.Proofs.Ytginpdejpibdjaa.V
open Go
set_option maxRecDepth 100000
def znR3 := And.intro @jO <| And.intro @jP <| And.intro @jQ <| And.intro @jR <| And.intro @jS <| And.intro @jT <| And.intro @jU <| True.intro
set_option maxHeartbeats 4000000
theorem piped_spec (m : Mach) (hm : MFit 20000 m) (n : Int) (hn : u64R n) : Spec Try.prog 109 [encM m, .int .u64 n] (pipeV (pipeO m.pipes n)) := by
  obtain ⟨n1, n2⟩ := hn
  by_cases h : 9223372036854775807 < n
  · rw [pipeO_far (fun p hp => (hm.pipesR p hp).1) h]
    simp only [pipeV]
    refine spec_ok Try.func109 rfl rfl (by kernel_rfl) (k := 2) rfl (by decide) ?_
    repeat' (first|(with_reducible first|refine yrl (by constructor) ?_|refine jk (fun M hM=>?_)|(refine hM _ ?_;clear hM M)|refine xb3 (by decide) ?_|refine yqa (by assumption) ?_ ?_|refine yqb (by assumption) ?_ ?_)|((with_reducible refine je ?_)<;>(first|rfl|assumption|(simp only [znl,znR3];(first|done|fail))))|(with_reducible refine jf (by (simp only [↓reduceIte,zlk,Nat.reduceEqDiff,reduceCtorEq]);exact rfl) ?_)|((with_reducible first|refine jg (fun hc=>?_) (fun hc=>?_)|refine jh (fun hc=>?_) (fun hc=>?_))<;>(try simp (disch:=omega) only [zhb] at hc)<;>(try (exfalso;omega))<;>(try subst hc))|(with_reducible refine ji (by omega) ?_)|(simp (config := { maxSteps := 400000 }) only [↓jt,↓reduceIte,zvs,reduceCtorEq,Nat.reduceEqDiff,Nat.reduceAdd,Nat.reduceLeDiff,Nat.reduceMul,Int.reduceBNe,Int.reduceBEq,Int.reduceEq,Int.reduceNe,Int.reduceLT,Int.reduceLE,Int.reduceGT,Int.reduceGE,Int.reduceNeg,Int.reduceToNat,Nat.reduceLT,Nat.reduceSub,tab,Try.results109,jTA])|(simp (disch:=omega) only [ziw]))
    all_goals first
      | (exfalso; omega)
      | (simp only [zrds]; done)
  · have hP := spipe_spec m hm n ⟨by omega, by omega⟩
    cases hp : pipeO m.pipes n with
    | none =>
      rw [hp] at hP
      simp only [pipeV] at hP ⊢
      refine spec_ok Try.func109 rfl rfl (by kernel_rfl) (k := 2) rfl (by decide) ?_
      repeat' (first|(with_reducible first|refine yrl (by constructor) ?_|refine jk (fun M hM=>?_)|(refine hM _ ?_;clear hM M)|refine xb3 (by decide) ?_|refine yqa (by assumption) ?_ ?_|refine yqb (by assumption) ?_ ?_)|((with_reducible refine je ?_)<;>(first|rfl|assumption|(simp only [znl,znR3];(first|done|fail))))|(with_reducible refine jf (by (simp only [↓reduceIte,zlk,Nat.reduceEqDiff,reduceCtorEq]);exact rfl) ?_)|((with_reducible first|refine jg (fun hc=>?_) (fun hc=>?_)|refine jh (fun hc=>?_) (fun hc=>?_))<;>(try simp (disch:=omega) only [zhb] at hc)<;>(try (exfalso;omega))<;>(try subst hc))|(with_reducible refine ji (by omega) ?_)|(simp (config := { maxSteps := 400000 }) only [↓jt,↓reduceIte,zvs,reduceCtorEq,Nat.reduceEqDiff,Nat.reduceAdd,Nat.reduceLeDiff,Nat.reduceMul,Int.reduceBNe,Int.reduceBEq,Int.reduceEq,Int.reduceNe,Int.reduceLT,Int.reduceLE,Int.reduceGT,Int.reduceGE,Int.reduceNeg,Int.reduceToNat,Nat.reduceLT,Nat.reduceSub,tab,Try.results109,jTA])|(simp (disch:=omega) only [ziw]))
      all_goals first
        | (exfalso; omega)
        | (simp only [zrds]; done)
    | some x =>
      rw [hp] at hP
      simp only [pipeV,encPi] at hP ⊢
      refine spec_ok Try.func109 rfl rfl (by kernel_rfl) (k := 2) rfl (by decide) ?_
      repeat' (first|(with_reducible first|refine yrl (by constructor) ?_|refine jk (fun M hM=>?_)|(refine hM _ ?_;clear hM M)|refine xb3 (by decide) ?_|refine yqa (by assumption) ?_ ?_|refine yqb (by assumption) ?_ ?_)|((with_reducible refine je ?_)<;>(first|rfl|assumption|(simp only [znl,znR3];(first|done|fail))))|(with_reducible refine jf (by (simp only [↓reduceIte,zlk,Nat.reduceEqDiff,reduceCtorEq]);exact rfl) ?_)|((with_reducible first|refine jg (fun hc=>?_) (fun hc=>?_)|refine jh (fun hc=>?_) (fun hc=>?_))<;>(try simp (disch:=omega) only [zhb] at hc)<;>(try (exfalso;omega))<;>(try subst hc))|(with_reducible refine ji (by omega) ?_)|(simp (config := { maxSteps := 400000 }) only [↓jt,↓reduceIte,zvs,reduceCtorEq,Nat.reduceEqDiff,Nat.reduceAdd,Nat.reduceLeDiff,Nat.reduceMul,Int.reduceBNe,Int.reduceBEq,Int.reduceEq,Int.reduceNe,Int.reduceLT,Int.reduceLE,Int.reduceGT,Int.reduceGE,Int.reduceNeg,Int.reduceToNat,Nat.reduceLT,Nat.reduceSub,tab,Try.results109,jTA])|(simp (disch:=omega) only [ziw]))
      all_goals first
        | (exfalso; omega)
        | (simp only [zrds]; done)
theorem any_next {α : Type} [Inhabited α] (l : List α) (q : α → Bool) (k : Nat) (hk : k < l.length) : (l.take (k + 1)).any q = ((l.take k).any q || q (l.getD k default)) := by
  rw [take_snoc l k hk, List.any_append]; simp
theorem kidB_iff (par n : Int) (p : Pr) : kidB par n p = true ↔ (p.par = par ∧ (n = 0 ∨ p.pid = n)) := by
  simp [kidB]
theorem child_spec (m : Mach) (hm : MFit 20000 m) (par : Int) (hp : i64R par) (n : Int) (hn : u64R n) : Spec Try.prog 112 [encM m, .int .i64 par, .int .u64 n] (.bool (childB m.pr par n)) := by
  obtain ⟨R, hR⟩ : ∃ R, R = childB m.pr par n := ⟨_, rfl⟩
  rw [← hR]
  unfold childB at hR
  have hl := hm.pr
  have hpR := hm.prR
  obtain ⟨hp1, hp2⟩ := hp
  obtain ⟨n1, n2⟩ := hn
  refine spec_ok Try.func112 rfl rfl (by kernel_rfl) (k := 3) rfl (by decide) ?_
  repeat' (first|(with_reducible first|refine yrl (by constructor) ?_|refine jk (fun M hM=>?_)|(refine hM _ ?_;clear hM M)|refine xb3 (by decide) ?_|refine yqa (by assumption) ?_ ?_|refine yqb (by assumption) ?_ ?_)|((with_reducible refine je ?_)<;>(first|rfl|assumption|(simp only [znl,znR3];(first|done|fail))))|(with_reducible refine jf (by (simp only [↓reduceIte,zlk,Nat.reduceEqDiff,reduceCtorEq]);exact rfl) ?_)|((with_reducible first|refine jg (fun hc=>?_) (fun hc=>?_)|refine jh (fun hc=>?_) (fun hc=>?_))<;>(try simp (disch:=omega) only [zhb] at hc)<;>(try (exfalso;omega))<;>(try subst hc))|(with_reducible refine ji (by omega) ?_)|(simp (config := { maxSteps := 400000 }) only [↓jt,↓reduceIte,zvs,reduceCtorEq,Nat.reduceEqDiff,Nat.reduceAdd,Nat.reduceLeDiff,Nat.reduceMul,Int.reduceBNe,Int.reduceBEq,Int.reduceEq,Int.reduceNe,Int.reduceLT,Int.reduceLE,Int.reduceGT,Int.reduceGE,Int.reduceNeg,Int.reduceToNat,Nat.reduceLT,Nat.reduceSub,tab,Try.results112,jTA])|(simp (disch:=omega) only [ziw]))
  refine ok_loop (fun k : Nat => ⟨slots [(1, .int .i64 par), (2, .int .u64 n), (3, .ptr 0 []), (6, .bool false), (7, .bool ((m.pr.take k).any (kidB par n))), (11, encPrs m.pr), (12, .int .i64 m.pr.length), (13, .int .i64 k)], rows [(0, .row machSh (encM m))], 1⟩) (fun k => k ≤ m.pr.length ∧ ∀ j, j < k → (kidB par n (m.pr.getD j default) && decide ((m.pr.getD j default).st = 3)) = false) (fun k => m.pr.length - k) 0 ?_ ⟨Nat.zero_le _, fun j hj => by omega⟩ (fun k hk => ?_)
  · (refine yrn [(0, 0)] false ?_ ?_<;>(repeat' (first|(with_reducible first|exact ya1|exact ya2|exact ya3|refine jx rfl (by first|rfl|assumption|(simp only [znl,znR3];(first|done|fail)))|exact ya5|exact ya7|exact jy|exact jz|refine jA ?_|refine ya9 ?_ ?_ ?_|refine jC rfl (by first|rfl|assumption|(simp only [znl,znR3];(first|done|fail)))|refine MR.agg (MRL.cons ?_ ?_)|refine MR.fn ?_|refine MRL.cons ?_ ?_|exact MRL.nil|refine jE ?_ ?_|exact jF|exact jG|refine yb1 ?_ ?_|refine MB.row ?_|refine jI ?_ ?_|exact ya8|refine jJ rfl (by first|rfl|assumption|(simp only [znl,znR3];(first|done|fail)))|refine yb2 ?_|rfl)|(simp only [znl,znR3];(first|done|fail))|(simp only [↓reduceIte,zlk,Nat.reduceEqDiff,reduceCtorEq])|(with_reducible first|refine jJ ?_ ?_|refine ya5 ?_|refine ju ?_|refine jv ?_|refine jw ?_|refine jx ?_ (by first|rfl|assumption|(simp only [znl,znR3];(first|done|fail)))|refine jC ?_ (by first|rfl|assumption|(simp only [znl,znR3];(first|done|fail)))))))
    all_goals (first | rfl)
  obtain ⟨hk, hq⟩ := hk
  by_cases hlt : k < m.pr.length
  · have hb := hpR _ (getD_mem' hlt)
    obtain ⟨hS1, hS2, hS3⟩ := pr3 hb
    obtain ⟨b1, b2⟩ := hb.pid
    obtain ⟨b3, b4⟩ := hb.par
    obtain ⟨b5, b6⟩ := hb.st
    have hany := any_next m.pr (kidB par n) k hlt
    have hki := kidB_iff par n (m.pr.getD k default)
    have hst : ∀ h : (kidB par n (m.pr.getD k default) && decide ((m.pr.getD k default).st = 3)) = false, ∀ j, j < k + 1 → (kidB par n (m.pr.getD j default) && decide ((m.pr.getD j default).st = 3)) = false := fun h j hj => by
      by_cases e : j = k
      · rw [e]; exact h
      · exact hq j (by omega)
    cases hc2 : kidB par n (m.pr.getD k default) with
    | true =>
      have hki := hki.1 hc2
      rw [hc2] at hany hst
      by_cases h3 : (m.pr.getD k default).st = 3
      · have hRt : R = true := by
          rw [hR, any_of m.pr (fun p => kidB par n p && decide (p.st = 3)) k hlt (by show (kidB par n (m.pr.getD k default) && _) = true; rw [hc2, decide_eq_true h3]; rfl)]
          rfl
        rw [hRt]
        repeat' (first|(with_reducible first|refine yrl (by constructor) ?_|refine jk (fun M hM=>?_)|(refine hM _ ?_;clear hM M)|refine xb3 (by decide) ?_|refine yqa (by assumption) ?_ ?_|refine yqb (by assumption) ?_ ?_)|((with_reducible refine je ?_)<;>(first|rfl|assumption|(simp only [znl,znR3];(first|done|fail))))|(with_reducible refine jf (by (simp only [↓reduceIte,zlk,Nat.reduceEqDiff,reduceCtorEq]);exact rfl) ?_)|((with_reducible first|refine jg (fun hc=>?_) (fun hc=>?_)|refine jh (fun hc=>?_) (fun hc=>?_))<;>(try simp (disch:=omega) only [zhb] at hc)<;>(try (exfalso;omega))<;>(try subst hc))|(with_reducible refine ji (by omega) ?_)|(simp (config := { maxSteps := 400000 }) only [↓jt,↓reduceIte,zvs,reduceCtorEq,Nat.reduceEqDiff,Nat.reduceAdd,Nat.reduceLeDiff,Nat.reduceMul,Int.reduceBNe,Int.reduceBEq,Int.reduceEq,Int.reduceNe,Int.reduceLT,Int.reduceLE,Int.reduceGT,Int.reduceGE,Int.reduceNeg,Int.reduceToNat,Nat.reduceLT,Nat.reduceSub,tab,hS1,hS2,hS3,encPr,Try.results112,jTA])|(simp (disch:=omega) only [ziw]))
        all_goals first
          | (exfalso; omega)
          | (simp only [zrds]; done)
      · rw [Bool.or_true] at hany
        repeat' (first|(with_reducible first|refine yrl (by constructor) ?_|refine jk (fun M hM=>?_)|(refine hM _ ?_;clear hM M)|refine xb3 (by decide) ?_|refine yqa (by assumption) ?_ ?_|refine yqb (by assumption) ?_ ?_)|((with_reducible refine je ?_)<;>(first|rfl|assumption|(simp only [znl,znR3];(first|done|fail))))|(with_reducible refine jf (by (simp only [↓reduceIte,zlk,Nat.reduceEqDiff,reduceCtorEq]);exact rfl) ?_)|((with_reducible first|refine jg (fun hc=>?_) (fun hc=>?_)|refine jh (fun hc=>?_) (fun hc=>?_))<;>(try simp (disch:=omega) only [zhb] at hc)<;>(try (exfalso;omega))<;>(try subst hc))|(with_reducible refine ji (by omega) ?_)|(simp (config := { maxSteps := 400000 }) only [↓jt,↓reduceIte,zvs,reduceCtorEq,Nat.reduceEqDiff,Nat.reduceAdd,Nat.reduceLeDiff,Nat.reduceMul,Int.reduceBNe,Int.reduceBEq,Int.reduceEq,Int.reduceNe,Int.reduceLT,Int.reduceLE,Int.reduceGT,Int.reduceGE,Int.reduceNeg,Int.reduceToNat,Nat.reduceLT,Nat.reduceSub,tab,hS1,hS2,hS3,encPr,Try.results112,jTA])|(simp (disch:=omega) only [ziw]))
        all_goals first
          | (exfalso; omega)
          | (refine xl1 (k + 1) ?_ ⟨by omega, hst (by rw [decide_eq_false h3]; rfl)⟩ (by show m.pr.length - (k + 1) < m.pr.length - k; omega); (refine yrn [(0, 0)] false ?_ ?_<;>(repeat' (first|(with_reducible first|exact ya1|exact ya2|exact ya3|refine jx rfl (by first|rfl|assumption|(simp only [znl,znR3];(first|done|fail)))|exact ya5|exact ya7|exact jy|exact jz|refine jA ?_|refine ya9 ?_ ?_ ?_|refine jC rfl (by first|rfl|assumption|(simp only [znl,znR3];(first|done|fail)))|refine MR.agg (MRL.cons ?_ ?_)|refine MR.fn ?_|refine MRL.cons ?_ ?_|exact MRL.nil|refine jE ?_ ?_|exact jF|exact jG|refine yb1 ?_ ?_|refine MB.row ?_|refine jI ?_ ?_|exact ya8|refine jJ rfl (by first|rfl|assumption|(simp only [znl,znR3];(first|done|fail)))|refine yb2 ?_|rfl)|(simp only [znl,znR3];(first|done|fail))|(simp only [↓reduceIte,zlk,Nat.reduceEqDiff,reduceCtorEq])|(with_reducible first|refine jJ ?_ ?_|refine ya5 ?_|refine ju ?_|refine jv ?_|refine jw ?_|refine jx ?_ (by first|rfl|assumption|(simp only [znl,znR3];(first|done|fail)))|refine jC ?_ (by first|rfl|assumption|(simp only [znl,znR3];(first|done|fail))))))); all_goals first | exact hany.symm | exact hany)
    | false =>
      have hki : ¬((m.pr.getD k default).par = par ∧ (n = 0 ∨ (m.pr.getD k default).pid = n)) := fun h => by rw [hki.2 h] at hc2; cases hc2
      rw [hc2] at hany hst
      rw [Bool.or_false] at hany
      repeat' (first|(with_reducible first|refine yrl (by constructor) ?_|refine jk (fun M hM=>?_)|(refine hM _ ?_;clear hM M)|refine xb3 (by decide) ?_|refine yqa (by assumption) ?_ ?_|refine yqb (by assumption) ?_ ?_)|((with_reducible refine je ?_)<;>(first|rfl|assumption|(simp only [znl,znR3];(first|done|fail))))|(with_reducible refine jf (by (simp only [↓reduceIte,zlk,Nat.reduceEqDiff,reduceCtorEq]);exact rfl) ?_)|((with_reducible first|refine jg (fun hc=>?_) (fun hc=>?_)|refine jh (fun hc=>?_) (fun hc=>?_))<;>(try simp (disch:=omega) only [zhb] at hc)<;>(try (exfalso;omega))<;>(try subst hc))|(with_reducible refine ji (by omega) ?_)|(simp (config := { maxSteps := 400000 }) only [↓jt,↓reduceIte,zvs,reduceCtorEq,Nat.reduceEqDiff,Nat.reduceAdd,Nat.reduceLeDiff,Nat.reduceMul,Int.reduceBNe,Int.reduceBEq,Int.reduceEq,Int.reduceNe,Int.reduceLT,Int.reduceLE,Int.reduceGT,Int.reduceGE,Int.reduceNeg,Int.reduceToNat,Nat.reduceLT,Nat.reduceSub,tab,hS1,hS2,hS3,encPr,Try.results112,jTA])|(simp (disch:=omega) only [ziw]))
      all_goals first
        | (exfalso; omega)
        | (refine xl1 (k + 1) ?_ ⟨by omega, hst rfl⟩ (by show m.pr.length - (k + 1) < m.pr.length - k; omega); (refine yrn [(0, 0)] false ?_ ?_<;>(repeat' (first|(with_reducible first|exact ya1|exact ya2|exact ya3|refine jx rfl (by first|rfl|assumption|(simp only [znl,znR3];(first|done|fail)))|exact ya5|exact ya7|exact jy|exact jz|refine jA ?_|refine ya9 ?_ ?_ ?_|refine jC rfl (by first|rfl|assumption|(simp only [znl,znR3];(first|done|fail)))|refine MR.agg (MRL.cons ?_ ?_)|refine MR.fn ?_|refine MRL.cons ?_ ?_|exact MRL.nil|refine jE ?_ ?_|exact jF|exact jG|refine yb1 ?_ ?_|refine MB.row ?_|refine jI ?_ ?_|exact ya8|refine jJ rfl (by first|rfl|assumption|(simp only [znl,znR3];(first|done|fail)))|refine yb2 ?_|rfl)|(simp only [znl,znR3];(first|done|fail))|(simp only [↓reduceIte,zlk,Nat.reduceEqDiff,reduceCtorEq])|(with_reducible first|refine jJ ?_ ?_|refine ya5 ?_|refine ju ?_|refine jv ?_|refine jw ?_|refine jx ?_ (by first|rfl|assumption|(simp only [znl,znR3];(first|done|fail)))|refine jC ?_ (by first|rfl|assumption|(simp only [znl,znR3];(first|done|fail))))))); all_goals first | exact hany.symm | exact hany)
  · obtain rfl : k = m.pr.length := by omega
    have hN := any_none m.pr (fun p => kidB par n p && decide (p.st = 3)) hq
    rw [hN, Bool.false_or] at hR
    rw [List.take_length]
    repeat' (first|(with_reducible first|refine yrl (by constructor) ?_|refine jk (fun M hM=>?_)|(refine hM _ ?_;clear hM M)|refine xb3 (by decide) ?_|refine yqa (by assumption) ?_ ?_|refine yqb (by assumption) ?_ ?_)|((with_reducible refine je ?_)<;>(first|rfl|assumption|(simp only [znl,znR3];(first|done|fail))))|(with_reducible refine jf (by (simp only [↓reduceIte,zlk,Nat.reduceEqDiff,reduceCtorEq]);exact rfl) ?_)|((with_reducible first|refine jg (fun hc=>?_) (fun hc=>?_)|refine jh (fun hc=>?_) (fun hc=>?_))<;>(try simp (disch:=omega) only [zhb] at hc)<;>(try (exfalso;omega))<;>(try subst hc))|(with_reducible refine ji (by omega) ?_)|(simp (config := { maxSteps := 400000 }) only [↓jt,↓reduceIte,zvs,reduceCtorEq,Nat.reduceEqDiff,Nat.reduceAdd,Nat.reduceLeDiff,Nat.reduceMul,Int.reduceBNe,Int.reduceBEq,Int.reduceEq,Int.reduceNe,Int.reduceLT,Int.reduceLE,Int.reduceGT,Int.reduceGE,Int.reduceNeg,Int.reduceToNat,Nat.reduceLT,Nat.reduceSub,tab,List.take_length,Try.results112,jTA])|(simp (disch:=omega) only [ziw]))
    all_goals first
      | (simp only [zrds]; rw [hR]; done)
      | (simp only [zrds]; exact hR)
theorem cond1_spec (m : Mach) (p : Pr) (hp : PrR p) : Spec Try.prog 107 [encM m, encPr p] (.bool (decide (m.inp ≠ []) || m.fin)) := by
  obtain ⟨hS1, hS2, hS3⟩ := pr3 hp
  have hb : (m.inp != []) = decide (m.inp ≠ []) := by rw [Bool.eq_iff_iff]; simp
  refine spec_ok Try.func107 rfl rfl (by kernel_rfl) (k := 2) rfl (by decide) ?_
  cases hd : decide (m.inp ≠ [])
  all_goals
    rw [hd] at hb
    repeat' (first|(with_reducible first|refine yrl (by constructor) ?_|refine jk (fun M hM=>?_)|(refine hM _ ?_;clear hM M)|refine xb3 (by decide) ?_|refine yqa (by assumption) ?_ ?_|refine yqb (by assumption) ?_ ?_)|((with_reducible refine je ?_)<;>(first|rfl|assumption|(simp only [znl,znR3];(first|done|fail))))|(with_reducible refine jf (by (simp only [↓reduceIte,zlk,Nat.reduceEqDiff,reduceCtorEq]);exact rfl) ?_)|((with_reducible first|refine jg (fun hc=>?_) (fun hc=>?_)|refine jh (fun hc=>?_) (fun hc=>?_))<;>(try simp (disch:=omega) only [zhb] at hc)<;>(try (exfalso;omega))<;>(try subst hc))|(with_reducible refine ji (by omega) ?_)|(simp (config := { maxSteps := 400000 }) only [↓jt,↓reduceIte,zvs,reduceCtorEq,Nat.reduceEqDiff,Nat.reduceAdd,Nat.reduceLeDiff,Nat.reduceMul,Int.reduceBNe,Int.reduceBEq,Int.reduceEq,Int.reduceNe,Int.reduceLT,Int.reduceLE,Int.reduceGT,Int.reduceGE,Int.reduceNeg,Int.reduceToNat,Nat.reduceLT,Nat.reduceSub,tab,hS1,hS2,hS3,encPr,hb,Try.results107,jTA])|(simp (disch:=omega) only [ziw]))
    all_goals first
      | (simp only [zrds]; done)
      | (simp only [zrds]; rfl)
theorem cond5_spec (m : Mach) (hm : MFit 20000 m) (p : Pr) (hp : PrR p) : Spec Try.prog 113 [encM m, encPr p] (.bool (decide (p.n ≤ m.clock))) := by
  obtain ⟨hS1, hS2, hS3⟩ := pr3 hp
  refine spec_ok Try.func113 rfl rfl (by kernel_rfl) (k := 2) rfl (by decide) ?_
  repeat' (first|(with_reducible first|refine yrl (by constructor) ?_|refine jk (fun M hM=>?_)|(refine hM _ ?_;clear hM M)|refine xb3 (by decide) ?_|refine yqa (by assumption) ?_ ?_|refine yqb (by assumption) ?_ ?_)|((with_reducible refine je ?_)<;>(first|rfl|assumption|(simp only [znl,znR3];(first|done|fail))))|(with_reducible refine jf (by (simp only [↓reduceIte,zlk,Nat.reduceEqDiff,reduceCtorEq]);exact rfl) ?_)|((with_reducible first|refine jg (fun hc=>?_) (fun hc=>?_)|refine jh (fun hc=>?_) (fun hc=>?_))<;>(try simp (disch:=omega) only [zhb] at hc)<;>(try (exfalso;omega))<;>(try subst hc))|(with_reducible refine ji (by omega) ?_)|(simp (config := { maxSteps := 400000 }) only [↓jt,↓reduceIte,zvs,reduceCtorEq,Nat.reduceEqDiff,Nat.reduceAdd,Nat.reduceLeDiff,Nat.reduceMul,Int.reduceBNe,Int.reduceBEq,Int.reduceEq,Int.reduceNe,Int.reduceLT,Int.reduceLE,Int.reduceGT,Int.reduceGE,Int.reduceNeg,Int.reduceToNat,Nat.reduceLT,Nat.reduceSub,tab,hS1,hS2,hS3,encPr,Try.results113,jTA])|(simp (disch:=omega) only [ziw]))
  all_goals first
    | (simp only [zrds]; done)
    | (simp only [zrds]; rfl)
theorem cond4_spec (m : Mach) (hm : MFit 20000 m) (p : Pr) (hp : PrR p) : Spec Try.prog 111 [encM m, encPr p] (.bool (childB m.pr p.pid p.n)) := by
  obtain ⟨hS1, hS2, hS3⟩ := pr3 hp
  have hC := child_spec m hm p.pid hp.pid p.n hp.n
  refine spec_ok Try.func111 rfl rfl (by kernel_rfl) (k := 2) rfl (by decide) ?_
  repeat' (first|(with_reducible first|refine yrl (by constructor) ?_|refine jk (fun M hM=>?_)|(refine hM _ ?_;clear hM M)|refine xb3 (by decide) ?_|refine yqa (by assumption) ?_ ?_|refine yqb (by assumption) ?_ ?_)|((with_reducible refine je ?_)<;>(first|rfl|assumption|(simp only [znl,znR3];(first|done|fail))))|(with_reducible refine jf (by (simp only [↓reduceIte,zlk,Nat.reduceEqDiff,reduceCtorEq]);exact rfl) ?_)|((with_reducible first|refine jg (fun hc=>?_) (fun hc=>?_)|refine jh (fun hc=>?_) (fun hc=>?_))<;>(try simp (disch:=omega) only [zhb] at hc)<;>(try (exfalso;omega))<;>(try subst hc))|(with_reducible refine ji (by omega) ?_)|(simp (config := { maxSteps := 400000 }) only [↓jt,↓reduceIte,zvs,reduceCtorEq,Nat.reduceEqDiff,Nat.reduceAdd,Nat.reduceLeDiff,Nat.reduceMul,Int.reduceBNe,Int.reduceBEq,Int.reduceEq,Int.reduceNe,Int.reduceLT,Int.reduceLE,Int.reduceGT,Int.reduceGE,Int.reduceNeg,Int.reduceToNat,Nat.reduceLT,Nat.reduceSub,tab,hS1,hS2,hS3,encPr,Try.results111,jTA])|(simp (disch:=omega) only [ziw]))
  all_goals first
    | (simp only [zrds]; done)
    | (simp only [zrds]; rfl)
def bytesB (m : Mach) (n : Int) : Bool := match pipeO m.pipes n with
  | none => true
  | some x => decide (x.d ≠ []) || decide (endsN m.pr 5 x.id = 0)
def roomB (m : Mach) (n : Int) : Bool := match pipeO m.pipes n with
  | none => true
  | some x => decide (x.d.length < 64) || decide (endsN m.pr 4 x.id = 0)
theorem bytesB_some {m : Mach} {n : Int} {x : Pip} (h : pipeO m.pipes n = some x) : bytesB m n = (decide (x.d ≠ []) || decide (endsN m.pr 5 x.id = 0)) := by
  unfold bytesB; rw [h]
theorem bytesB_none {m : Mach} {n : Int} (h : pipeO m.pipes n = none) : bytesB m n = true := by
  unfold bytesB; rw [h]
theorem roomB_some {m : Mach} {n : Int} {x : Pip} (h : pipeO m.pipes n = some x) : roomB m n = (decide (x.d.length < 64) || decide (endsN m.pr 4 x.id = 0)) := by
  unfold roomB; rw [h]
theorem roomB_none {m : Mach} {n : Int} (h : pipeO m.pipes n = none) : roomB m n = true := by
  unfold roomB; rw [h]
theorem cond2_spec (m : Mach) (hm : MFit 20000 m) (p : Pr) (hp : PrR p) : Spec Try.prog 108 [encM m, encPr p] (.bool (bytesB m p.n)) := by
  obtain ⟨hS1, hS2, hS3⟩ := pr3 hp
  have hP := piped_spec m hm p.n hp.n
  cases hpo : pipeO m.pipes p.n with
  | none =>
    rw [hpo] at hP
    rw [bytesB_none hpo]
    have hE := sends_spec m hm 0 ⟨by omega, by omega⟩
    simp only [pipeV] at hP
    refine spec_ok Try.func108 rfl rfl (by kernel_rfl) (k := 2) rfl (by decide) ?_
    repeat' (first|(with_reducible first|refine yrl (by constructor) ?_|refine jk (fun M hM=>?_)|(refine hM _ ?_;clear hM M)|refine xb3 (by decide) ?_|refine yqa (by assumption) ?_ ?_|refine yqb (by assumption) ?_ ?_)|((with_reducible refine je ?_)<;>(first|rfl|assumption|(simp only [znl,znR3];(first|done|fail))))|(with_reducible refine jf (by (simp only [↓reduceIte,zlk,Nat.reduceEqDiff,reduceCtorEq]);exact rfl) ?_)|((with_reducible first|refine jg (fun hc=>?_) (fun hc=>?_)|refine jh (fun hc=>?_) (fun hc=>?_))<;>(try simp (disch:=omega) only [zhb] at hc)<;>(try (exfalso;omega))<;>(try subst hc))|(with_reducible refine ji (by omega) ?_)|(simp (config := { maxSteps := 400000 }) only [↓jt,↓reduceIte,zvs,reduceCtorEq,Nat.reduceEqDiff,Nat.reduceAdd,Nat.reduceLeDiff,Nat.reduceMul,Int.reduceBNe,Int.reduceBEq,Int.reduceEq,Int.reduceNe,Int.reduceLT,Int.reduceLE,Int.reduceGT,Int.reduceGE,Int.reduceNeg,Int.reduceToNat,Nat.reduceLT,Nat.reduceSub,tab,hS1,hS2,hS3,encPr,Try.results108,jTA])|(simp (disch:=omega) only [ziw]))
    all_goals first
      | (simp only [zrds]; done)
  | some x =>
    rw [hpo] at hP
    rw [bytesB_some hpo]
    obtain ⟨hxm, hxi⟩ := pipeO_mem hpo
    have hE := sends_spec m hm x.id (hm.pipesR x hxm).1
    generalize endsN m.pr 4 x.id = e4 at hE
    generalize endsN m.pr 5 x.id = e5 at hE ⊢
    simp only [pipeV,encPi] at hP
    have hb : (x.d != []) = decide (x.d ≠ []) := by rw [Bool.eq_iff_iff]; simp
    obtain ⟨R, hR⟩ : ∃ R, R = (decide (x.d ≠ []) || decide (e5 = 0)) := ⟨_, rfl⟩
    rw [← hR]
    generalize decide (x.d ≠ []) = b at hb hR
    refine spec_ok Try.func108 rfl rfl (by kernel_rfl) (k := 2) rfl (by decide) ?_
    cases b
    all_goals
      repeat' (first|(with_reducible first|refine yrl (by constructor) ?_|refine jk (fun M hM=>?_)|(refine hM _ ?_;clear hM M)|refine xb3 (by decide) ?_|refine yqa (by assumption) ?_ ?_|refine yqb (by assumption) ?_ ?_)|((with_reducible refine je ?_)<;>(first|rfl|assumption|(simp only [znl,znR3];(first|done|fail))))|(with_reducible refine jf (by (simp only [↓reduceIte,zlk,Nat.reduceEqDiff,reduceCtorEq]);exact rfl) ?_)|((with_reducible first|refine jg (fun hc=>?_) (fun hc=>?_)|refine jh (fun hc=>?_) (fun hc=>?_))<;>(try simp (disch:=omega) only [zhb] at hc)<;>(try (exfalso;omega))<;>(try subst hc))|(with_reducible refine ji (by omega) ?_)|(simp (config := { maxSteps := 400000 }) only [↓jt,↓reduceIte,zvs,reduceCtorEq,Nat.reduceEqDiff,Nat.reduceAdd,Nat.reduceLeDiff,Nat.reduceMul,Int.reduceBNe,Int.reduceBEq,Int.reduceEq,Int.reduceNe,Int.reduceLT,Int.reduceLE,Int.reduceGT,Int.reduceGE,Int.reduceNeg,Int.reduceToNat,Nat.reduceLT,Nat.reduceSub,tab,hS1,hS2,hS3,encPr,hb,Try.results108,jTA])|(simp (disch:=omega) only [ziw]))
      all_goals first
        | (rw [hR]; simp only [zrds]; done)
        | (simp only [zrds]; rw [hR, Bool.false_or, Bool.eq_iff_iff]; simp; done)
        | (simp only [zrds]; rw [hR]; rfl)
theorem cond3_spec (m : Mach) (hm : MFit 20000 m) (p : Pr) (hp : PrR p) : Spec Try.prog 110 [encM m, encPr p] (.bool (roomB m p.n)) := by
  obtain ⟨hS1, hS2, hS3⟩ := pr3 hp
  have hP := piped_spec m hm p.n hp.n
  cases hpo : pipeO m.pipes p.n with
  | none =>
    rw [hpo] at hP
    rw [roomB_none hpo]
    have hE := sends_spec m hm 0 ⟨by omega, by omega⟩
    simp only [pipeV] at hP
    refine spec_ok Try.func110 rfl rfl (by kernel_rfl) (k := 2) rfl (by decide) ?_
    repeat' (first|(with_reducible first|refine yrl (by constructor) ?_|refine jk (fun M hM=>?_)|(refine hM _ ?_;clear hM M)|refine xb3 (by decide) ?_|refine yqa (by assumption) ?_ ?_|refine yqb (by assumption) ?_ ?_)|((with_reducible refine je ?_)<;>(first|rfl|assumption|(simp only [znl,znR3];(first|done|fail))))|(with_reducible refine jf (by (simp only [↓reduceIte,zlk,Nat.reduceEqDiff,reduceCtorEq]);exact rfl) ?_)|((with_reducible first|refine jg (fun hc=>?_) (fun hc=>?_)|refine jh (fun hc=>?_) (fun hc=>?_))<;>(try simp (disch:=omega) only [zhb] at hc)<;>(try (exfalso;omega))<;>(try subst hc))|(with_reducible refine ji (by omega) ?_)|(simp (config := { maxSteps := 400000 }) only [↓jt,↓reduceIte,zvs,reduceCtorEq,Nat.reduceEqDiff,Nat.reduceAdd,Nat.reduceLeDiff,Nat.reduceMul,Int.reduceBNe,Int.reduceBEq,Int.reduceEq,Int.reduceNe,Int.reduceLT,Int.reduceLE,Int.reduceGT,Int.reduceGE,Int.reduceNeg,Int.reduceToNat,Nat.reduceLT,Nat.reduceSub,tab,hS1,hS2,hS3,encPr,Try.results110,jTA])|(simp (disch:=omega) only [ziw]))
    all_goals first
      | (simp only [zrds]; done)
  | some x =>
    rw [hpo] at hP
    rw [roomB_some hpo]
    obtain ⟨hxm, hxi⟩ := pipeO_mem hpo
    have hE := sends_spec m hm x.id (hm.pipesR x hxm).1
    generalize endsN m.pr 4 x.id = e4 at hE ⊢
    generalize endsN m.pr 5 x.id = e5 at hE
    simp only [pipeV,encPi] at hP
    obtain ⟨R, hR⟩ : ∃ R, R = (decide (x.d.length < 64) || decide (e4 = 0)) := ⟨_, rfl⟩
    rw [← hR]
    refine spec_ok Try.func110 rfl rfl (by kernel_rfl) (k := 2) rfl (by decide) ?_
    by_cases hd : x.d.length < 64
    · rw [decide_eq_true hd, Bool.true_or] at hR
      rw [hR]
      repeat' (first|(with_reducible first|refine yrl (by constructor) ?_|refine jk (fun M hM=>?_)|(refine hM _ ?_;clear hM M)|refine xb3 (by decide) ?_|refine yqa (by assumption) ?_ ?_|refine yqb (by assumption) ?_ ?_)|((with_reducible refine je ?_)<;>(first|rfl|assumption|(simp only [znl,znR3];(first|done|fail))))|(with_reducible refine jf (by (simp only [↓reduceIte,zlk,Nat.reduceEqDiff,reduceCtorEq]);exact rfl) ?_)|((with_reducible first|refine jg (fun hc=>?_) (fun hc=>?_)|refine jh (fun hc=>?_) (fun hc=>?_))<;>(try simp (disch:=omega) only [zhb] at hc)<;>(try (exfalso;omega))<;>(try subst hc))|(with_reducible refine ji (by omega) ?_)|(simp (config := { maxSteps := 400000 }) only [↓jt,↓reduceIte,zvs,reduceCtorEq,Nat.reduceEqDiff,Nat.reduceAdd,Nat.reduceLeDiff,Nat.reduceMul,Int.reduceBNe,Int.reduceBEq,Int.reduceEq,Int.reduceNe,Int.reduceLT,Int.reduceLE,Int.reduceGT,Int.reduceGE,Int.reduceNeg,Int.reduceToNat,Nat.reduceLT,Nat.reduceSub,tab,hS1,hS2,hS3,encPr,Try.results110,jTA])|(simp (disch:=omega) only [ziw]))
      all_goals first
        | (exfalso; omega)
        | (simp only [zrds]; done)
        | (simp only [zrds]; rfl)
        | (simp only [zrds]; simp; omega)
    · rw [decide_eq_false hd, Bool.false_or] at hR
      repeat' (first|(with_reducible first|refine yrl (by constructor) ?_|refine jk (fun M hM=>?_)|(refine hM _ ?_;clear hM M)|refine xb3 (by decide) ?_|refine yqa (by assumption) ?_ ?_|refine yqb (by assumption) ?_ ?_)|((with_reducible refine je ?_)<;>(first|rfl|assumption|(simp only [znl,znR3];(first|done|fail))))|(with_reducible refine jf (by (simp only [↓reduceIte,zlk,Nat.reduceEqDiff,reduceCtorEq]);exact rfl) ?_)|((with_reducible first|refine jg (fun hc=>?_) (fun hc=>?_)|refine jh (fun hc=>?_) (fun hc=>?_))<;>(try simp (disch:=omega) only [zhb] at hc)<;>(try (exfalso;omega))<;>(try subst hc))|(with_reducible refine ji (by omega) ?_)|(simp (config := { maxSteps := 400000 }) only [↓jt,↓reduceIte,zvs,reduceCtorEq,Nat.reduceEqDiff,Nat.reduceAdd,Nat.reduceLeDiff,Nat.reduceMul,Int.reduceBNe,Int.reduceBEq,Int.reduceEq,Int.reduceNe,Int.reduceLT,Int.reduceLE,Int.reduceGT,Int.reduceGE,Int.reduceNeg,Int.reduceToNat,Nat.reduceLT,Nat.reduceSub,tab,hS1,hS2,hS3,encPr,Try.results110,jTA])|(simp (disch:=omega) only [ziw]))
      all_goals first
        | (exfalso; omega)
        | (simp only [zrds]; rw [hR, Bool.eq_iff_iff]; simp; done)
        | (rw [hR]; simp only [zrds]; done)
def condsL : List (VV × VV) := [(.int .i64 1, .fn 107 []), (.int .i64 2, .fn 108 []), (.int .i64 3, .fn 110 []), (.int .i64 4, .fn 111 []), (.int .i64 5, .fn 113 [])]
theorem condsL_keys : (condsL.all fun q => keyV (.int .i64) q.1) = true := rfl
theorem condsL_fn : fnE condsL = true := rfl
theorem conds_spec : SpecM Try.prog 80 [] condsL := by
  refine specM_ok Try.func80 rfl rfl (by kernel_rfl) (k := 0) rfl (by decide) condsL_fn ?_
  repeat' (first|(with_reducible first|refine yrl (by constructor) ?_|refine jk (fun M hM=>?_)|(refine hM _ ?_;clear hM M)|refine xb3 (by decide) ?_|refine yqa (by assumption) ?_ ?_|refine yqb (by assumption) ?_ ?_)|((with_reducible refine je ?_)<;>(first|rfl|assumption|(simp only [znl,znR3];(first|done|fail))))|(with_reducible refine jf (by (simp only [↓reduceIte,zlk,Nat.reduceEqDiff,reduceCtorEq]);exact rfl) ?_)|((with_reducible first|refine jg (fun hc=>?_) (fun hc=>?_)|refine jh (fun hc=>?_) (fun hc=>?_))<;>(try simp (disch:=omega) only [zhb] at hc)<;>(try (exfalso;omega))<;>(try subst hc))|(with_reducible refine ji (by omega) ?_)|(simp (config := { maxSteps := 400000 }) only [↓jt,↓reduceIte,zvs,reduceCtorEq,Nat.reduceEqDiff,Nat.reduceAdd,Nat.reduceLeDiff,Nat.reduceMul,Int.reduceBNe,Int.reduceBEq,Int.reduceEq,Int.reduceNe,Int.reduceLT,Int.reduceLE,Int.reduceGT,Int.reduceGE,Int.reduceNeg,Int.reduceToNat,Nat.reduceLT,Nat.reduceSub,tab,mput,keq,Try.results80,jTA])|(simp (disch:=omega) only [ziw]))
  all_goals first
    | exact ⟨_, rfl, rfl⟩
end Go.Proofs.Ytginpdejpibdjaa.V
end
section
namespace Go.Proofs.Ytginpdejpibdjaa.V
open Go
set_option maxRecDepth 100000
def znR4 := And.intro @jO <| And.intro @jP <| And.intro @jQ <| And.intro @jR <| And.intro @jS <| And.intro @jT <| And.intro @jU <| True.intro
set_option maxHeartbeats 8000000
theorem tabC : SH Try.prog 82 = some .cell ∧ ZE Try.prog 82 = some (.raw .nilFunc) ∧ BY Try.prog 82 = 8 := ⟨by kernel_rfl, by kernel_rfl, by kernel_rfl⟩
theorem could_spec (m : Mach) (hm : MFit 20000 m) (p : Pr) (hp : PrR p) : Spec Try.prog 48 [encM m, encPr p] (.bool (couldM m p)) := by
  obtain ⟨hS1, hS2, hS3⟩ := pr3 hp
  obtain ⟨b1, b2⟩ := hp.st
  obtain ⟨b3, b4⟩ := hp.why
  obtain ⟨R, hR⟩ : ∃ R, R = couldM m p := ⟨_, rfl⟩
  rw [← hR]
  by_cases h2 : p.st = 2
  · by_cases hw1 : p.why = 1
    · have hC := cond1_spec m p hp
      have hL : mget condsL (.int .i64 p.why) = some (.fn 107 []) := by rw [hw1]; rfl
      have eR : R = (decide (m.inp ≠ []) || m.fin) := by
        rw [hR]
        unfold couldM
        rw [if_neg (by omega), if_pos hw1]
      rw [eR]
      clear eR hR
      simp only [encPr] at hC
      generalize (decide (m.inp ≠ []) || m.fin) = b at hC
      refine spec_ok Try.func48 rfl rfl (by kernel_rfl) (k := 2) rfl (by decide) ?_
      repeat' (first|(with_reducible first|refine yrl (by constructor) ?_|refine jk (fun M hM=>?_)|(refine hM _ ?_;clear hM M)|refine xb3 (by decide) ?_|refine yqa (by assumption) ?_ ?_|refine yqb (by assumption) ?_ ?_)|((with_reducible refine je ?_)<;>(first|rfl|assumption|(simp only [znl,znR4];(first|done|fail))))|(with_reducible refine jf (by (simp only [↓reduceIte,zlk,Nat.reduceEqDiff,reduceCtorEq]);exact rfl) ?_)|((with_reducible first|refine jg (fun hc=>?_) (fun hc=>?_)|refine jh (fun hc=>?_) (fun hc=>?_))<;>(try simp (disch:=omega) only [zhb] at hc)<;>(try (exfalso;omega))<;>(try subst hc))|(with_reducible refine ji (by omega) ?_)|(simp (config := { maxSteps := 400000 }) only [↓jt,↓reduceIte,zvs,reduceCtorEq,Nat.reduceEqDiff,Nat.reduceAdd,Nat.reduceLeDiff,Nat.reduceMul,Int.reduceBNe,Int.reduceBEq,Int.reduceEq,Int.reduceNe,Int.reduceLT,Int.reduceLE,Int.reduceGT,Int.reduceGE,Int.reduceNeg,Int.reduceToNat,Nat.reduceLT,Nat.reduceSub,tab,hS1,hS2,hS3,encPr,Try.results48,jTA])|(simp (disch:=omega) only [ziw]))
      refine ok_drawC 8 (by kernel_rfl) (by decide +kernel) (by intro m hm; simp only [upd_ap,rows_cons,rows_nil]; (repeat (first | rfl | rw [if_neg (by omega)]))) (fun M hM => ?_); simp only [List.take_succ_cons,List.take_zero,List.drop_succ_cons,List.drop_zero]
      repeat' (first|(with_reducible first|refine yrl (by constructor) ?_|refine jk (fun M hM=>?_)|(refine hM _ ?_;clear hM M)|refine xb3 (by decide) ?_|refine yqa (by assumption) ?_ ?_|refine yqb (by assumption) ?_ ?_)|((with_reducible refine je ?_)<;>(first|rfl|assumption|(simp only [znl,znR4];(first|done|fail))))|(with_reducible refine jf (by (simp only [↓reduceIte,zlk,Nat.reduceEqDiff,reduceCtorEq]);exact rfl) ?_)|((with_reducible first|refine jg (fun hc=>?_) (fun hc=>?_)|refine jh (fun hc=>?_) (fun hc=>?_))<;>(try simp (disch:=omega) only [zhb] at hc)<;>(try (exfalso;omega))<;>(try subst hc))|(with_reducible refine ji (by omega) ?_)|(simp (config := { maxSteps := 400000 }) only [↓jt,↓reduceIte,zvs,reduceCtorEq,Nat.reduceEqDiff,Nat.reduceAdd,Nat.reduceLeDiff,Nat.reduceMul,Int.reduceBNe,Int.reduceBEq,Int.reduceEq,Int.reduceNe,Int.reduceLT,Int.reduceLE,Int.reduceGT,Int.reduceGE,Int.reduceNeg,Int.reduceToNat,Nat.reduceLT,Nat.reduceSub,tab,hS1,hS2,hS3,encPr,Try.results48,jTA])|(simp (disch:=omega) only [ziw]))
      refine vcallHW_map (conds_spec) rfl rfl rfl ?_
      repeat' (first|(with_reducible first|refine yrl (by constructor) ?_|refine jk (fun M hM=>?_)|(refine hM _ ?_;clear hM M)|refine xb3 (by decide) ?_|refine yqa (by assumption) ?_ ?_|refine yqb (by assumption) ?_ ?_)|((with_reducible refine je ?_)<;>(first|rfl|assumption|(simp only [znl,znR4];(first|done|fail))))|(with_reducible refine jf (by (simp only [↓reduceIte,zlk,Nat.reduceEqDiff,reduceCtorEq]);exact rfl) ?_)|((with_reducible first|refine jg (fun hc=>?_) (fun hc=>?_)|refine jh (fun hc=>?_) (fun hc=>?_))<;>(try simp (disch:=omega) only [zhb] at hc)<;>(try (exfalso;omega))<;>(try subst hc))|(with_reducible refine ji (by omega) ?_)|(simp (config := { maxSteps := 400000 }) only [↓jt,↓reduceIte,zvs,reduceCtorEq,Nat.reduceEqDiff,Nat.reduceAdd,Nat.reduceLeDiff,Nat.reduceMul,Int.reduceBNe,Int.reduceBEq,Int.reduceEq,Int.reduceNe,Int.reduceLT,Int.reduceLE,Int.reduceGT,Int.reduceGE,Int.reduceNeg,Int.reduceToNat,Nat.reduceLT,Nat.reduceSub,tab,tabC,hS1,hS2,hS3,encPr,hL,condsL_keys,Option.getD_some,Option.isSome_some,Try.results48,jTA])|(simp (disch:=omega) only [ziw]))
      all_goals first
        | (exfalso; omega)
        | (simp only [zrds]; done)
        | (simp only [zrds]; rfl)
    by_cases hw2 : p.why = 2
    · have hC := cond2_spec m hm p hp
      have hL : mget condsL (.int .i64 p.why) = some (.fn 108 []) := by rw [hw2]; rfl
      have eR : R = (bytesB m p.n) := by
        rw [hR]
        unfold couldM
        rw [if_neg (by omega), if_neg hw1, if_pos hw2]; rfl
      rw [eR]
      clear eR hR
      simp only [encPr] at hC
      generalize (bytesB m p.n) = b at hC
      refine spec_ok Try.func48 rfl rfl (by kernel_rfl) (k := 2) rfl (by decide) ?_
      repeat' (first|(with_reducible first|refine yrl (by constructor) ?_|refine jk (fun M hM=>?_)|(refine hM _ ?_;clear hM M)|refine xb3 (by decide) ?_|refine yqa (by assumption) ?_ ?_|refine yqb (by assumption) ?_ ?_)|((with_reducible refine je ?_)<;>(first|rfl|assumption|(simp only [znl,znR4];(first|done|fail))))|(with_reducible refine jf (by (simp only [↓reduceIte,zlk,Nat.reduceEqDiff,reduceCtorEq]);exact rfl) ?_)|((with_reducible first|refine jg (fun hc=>?_) (fun hc=>?_)|refine jh (fun hc=>?_) (fun hc=>?_))<;>(try simp (disch:=omega) only [zhb] at hc)<;>(try (exfalso;omega))<;>(try subst hc))|(with_reducible refine ji (by omega) ?_)|(simp (config := { maxSteps := 400000 }) only [↓jt,↓reduceIte,zvs,reduceCtorEq,Nat.reduceEqDiff,Nat.reduceAdd,Nat.reduceLeDiff,Nat.reduceMul,Int.reduceBNe,Int.reduceBEq,Int.reduceEq,Int.reduceNe,Int.reduceLT,Int.reduceLE,Int.reduceGT,Int.reduceGE,Int.reduceNeg,Int.reduceToNat,Nat.reduceLT,Nat.reduceSub,tab,hS1,hS2,hS3,encPr,Try.results48,jTA])|(simp (disch:=omega) only [ziw]))
      refine ok_drawC 8 (by kernel_rfl) (by decide +kernel) (by intro m hm; simp only [upd_ap,rows_cons,rows_nil]; (repeat (first | rfl | rw [if_neg (by omega)]))) (fun M hM => ?_); simp only [List.take_succ_cons,List.take_zero,List.drop_succ_cons,List.drop_zero]
      repeat' (first|(with_reducible first|refine yrl (by constructor) ?_|refine jk (fun M hM=>?_)|(refine hM _ ?_;clear hM M)|refine xb3 (by decide) ?_|refine yqa (by assumption) ?_ ?_|refine yqb (by assumption) ?_ ?_)|((with_reducible refine je ?_)<;>(first|rfl|assumption|(simp only [znl,znR4];(first|done|fail))))|(with_reducible refine jf (by (simp only [↓reduceIte,zlk,Nat.reduceEqDiff,reduceCtorEq]);exact rfl) ?_)|((with_reducible first|refine jg (fun hc=>?_) (fun hc=>?_)|refine jh (fun hc=>?_) (fun hc=>?_))<;>(try simp (disch:=omega) only [zhb] at hc)<;>(try (exfalso;omega))<;>(try subst hc))|(with_reducible refine ji (by omega) ?_)|(simp (config := { maxSteps := 400000 }) only [↓jt,↓reduceIte,zvs,reduceCtorEq,Nat.reduceEqDiff,Nat.reduceAdd,Nat.reduceLeDiff,Nat.reduceMul,Int.reduceBNe,Int.reduceBEq,Int.reduceEq,Int.reduceNe,Int.reduceLT,Int.reduceLE,Int.reduceGT,Int.reduceGE,Int.reduceNeg,Int.reduceToNat,Nat.reduceLT,Nat.reduceSub,tab,hS1,hS2,hS3,encPr,Try.results48,jTA])|(simp (disch:=omega) only [ziw]))
      refine vcallHW_map (conds_spec) rfl rfl rfl ?_
      repeat' (first|(with_reducible first|refine yrl (by constructor) ?_|refine jk (fun M hM=>?_)|(refine hM _ ?_;clear hM M)|refine xb3 (by decide) ?_|refine yqa (by assumption) ?_ ?_|refine yqb (by assumption) ?_ ?_)|((with_reducible refine je ?_)<;>(first|rfl|assumption|(simp only [znl,znR4];(first|done|fail))))|(with_reducible refine jf (by (simp only [↓reduceIte,zlk,Nat.reduceEqDiff,reduceCtorEq]);exact rfl) ?_)|((with_reducible first|refine jg (fun hc=>?_) (fun hc=>?_)|refine jh (fun hc=>?_) (fun hc=>?_))<;>(try simp (disch:=omega) only [zhb] at hc)<;>(try (exfalso;omega))<;>(try subst hc))|(with_reducible refine ji (by omega) ?_)|(simp (config := { maxSteps := 400000 }) only [↓jt,↓reduceIte,zvs,reduceCtorEq,Nat.reduceEqDiff,Nat.reduceAdd,Nat.reduceLeDiff,Nat.reduceMul,Int.reduceBNe,Int.reduceBEq,Int.reduceEq,Int.reduceNe,Int.reduceLT,Int.reduceLE,Int.reduceGT,Int.reduceGE,Int.reduceNeg,Int.reduceToNat,Nat.reduceLT,Nat.reduceSub,tab,tabC,hS1,hS2,hS3,encPr,hL,condsL_keys,Option.getD_some,Option.isSome_some,Try.results48,jTA])|(simp (disch:=omega) only [ziw]))
      all_goals first
        | (exfalso; omega)
        | (simp only [zrds]; done)
        | (simp only [zrds]; rfl)
    by_cases hw3 : p.why = 3
    · have hC := cond3_spec m hm p hp
      have hL : mget condsL (.int .i64 p.why) = some (.fn 110 []) := by rw [hw3]; rfl
      have eR : R = (roomB m p.n) := by
        rw [hR]
        unfold couldM
        rw [if_neg (by omega), if_neg hw1, if_neg hw2, if_pos hw3]; rfl
      rw [eR]
      clear eR hR
      simp only [encPr] at hC
      generalize (roomB m p.n) = b at hC
      refine spec_ok Try.func48 rfl rfl (by kernel_rfl) (k := 2) rfl (by decide) ?_
      repeat' (first|(with_reducible first|refine yrl (by constructor) ?_|refine jk (fun M hM=>?_)|(refine hM _ ?_;clear hM M)|refine xb3 (by decide) ?_|refine yqa (by assumption) ?_ ?_|refine yqb (by assumption) ?_ ?_)|((with_reducible refine je ?_)<;>(first|rfl|assumption|(simp only [znl,znR4];(first|done|fail))))|(with_reducible refine jf (by (simp only [↓reduceIte,zlk,Nat.reduceEqDiff,reduceCtorEq]);exact rfl) ?_)|((with_reducible first|refine jg (fun hc=>?_) (fun hc=>?_)|refine jh (fun hc=>?_) (fun hc=>?_))<;>(try simp (disch:=omega) only [zhb] at hc)<;>(try (exfalso;omega))<;>(try subst hc))|(with_reducible refine ji (by omega) ?_)|(simp (config := { maxSteps := 400000 }) only [↓jt,↓reduceIte,zvs,reduceCtorEq,Nat.reduceEqDiff,Nat.reduceAdd,Nat.reduceLeDiff,Nat.reduceMul,Int.reduceBNe,Int.reduceBEq,Int.reduceEq,Int.reduceNe,Int.reduceLT,Int.reduceLE,Int.reduceGT,Int.reduceGE,Int.reduceNeg,Int.reduceToNat,Nat.reduceLT,Nat.reduceSub,tab,hS1,hS2,hS3,encPr,Try.results48,jTA])|(simp (disch:=omega) only [ziw]))
      refine ok_drawC 8 (by kernel_rfl) (by decide +kernel) (by intro m hm; simp only [upd_ap,rows_cons,rows_nil]; (repeat (first | rfl | rw [if_neg (by omega)]))) (fun M hM => ?_); simp only [List.take_succ_cons,List.take_zero,List.drop_succ_cons,List.drop_zero]
      repeat' (first|(with_reducible first|refine yrl (by constructor) ?_|refine jk (fun M hM=>?_)|(refine hM _ ?_;clear hM M)|refine xb3 (by decide) ?_|refine yqa (by assumption) ?_ ?_|refine yqb (by assumption) ?_ ?_)|((with_reducible refine je ?_)<;>(first|rfl|assumption|(simp only [znl,znR4];(first|done|fail))))|(with_reducible refine jf (by (simp only [↓reduceIte,zlk,Nat.reduceEqDiff,reduceCtorEq]);exact rfl) ?_)|((with_reducible first|refine jg (fun hc=>?_) (fun hc=>?_)|refine jh (fun hc=>?_) (fun hc=>?_))<;>(try simp (disch:=omega) only [zhb] at hc)<;>(try (exfalso;omega))<;>(try subst hc))|(with_reducible refine ji (by omega) ?_)|(simp (config := { maxSteps := 400000 }) only [↓jt,↓reduceIte,zvs,reduceCtorEq,Nat.reduceEqDiff,Nat.reduceAdd,Nat.reduceLeDiff,Nat.reduceMul,Int.reduceBNe,Int.reduceBEq,Int.reduceEq,Int.reduceNe,Int.reduceLT,Int.reduceLE,Int.reduceGT,Int.reduceGE,Int.reduceNeg,Int.reduceToNat,Nat.reduceLT,Nat.reduceSub,tab,hS1,hS2,hS3,encPr,Try.results48,jTA])|(simp (disch:=omega) only [ziw]))
      refine vcallHW_map (conds_spec) rfl rfl rfl ?_
      repeat' (first|(with_reducible first|refine yrl (by constructor) ?_|refine jk (fun M hM=>?_)|(refine hM _ ?_;clear hM M)|refine xb3 (by decide) ?_|refine yqa (by assumption) ?_ ?_|refine yqb (by assumption) ?_ ?_)|((with_reducible refine je ?_)<;>(first|rfl|assumption|(simp only [znl,znR4];(first|done|fail))))|(with_reducible refine jf (by (simp only [↓reduceIte,zlk,Nat.reduceEqDiff,reduceCtorEq]);exact rfl) ?_)|((with_reducible first|refine jg (fun hc=>?_) (fun hc=>?_)|refine jh (fun hc=>?_) (fun hc=>?_))<;>(try simp (disch:=omega) only [zhb] at hc)<;>(try (exfalso;omega))<;>(try subst hc))|(with_reducible refine ji (by omega) ?_)|(simp (config := { maxSteps := 400000 }) only [↓jt,↓reduceIte,zvs,reduceCtorEq,Nat.reduceEqDiff,Nat.reduceAdd,Nat.reduceLeDiff,Nat.reduceMul,Int.reduceBNe,Int.reduceBEq,Int.reduceEq,Int.reduceNe,Int.reduceLT,Int.reduceLE,Int.reduceGT,Int.reduceGE,Int.reduceNeg,Int.reduceToNat,Nat.reduceLT,Nat.reduceSub,tab,tabC,hS1,hS2,hS3,encPr,hL,condsL_keys,Option.getD_some,Option.isSome_some,Try.results48,jTA])|(simp (disch:=omega) only [ziw]))
      all_goals first
        | (exfalso; omega)
        | (simp only [zrds]; done)
        | (simp only [zrds]; rfl)
    by_cases hw4 : p.why = 4
    · have hC := cond4_spec m hm p hp
      have hL : mget condsL (.int .i64 p.why) = some (.fn 111 []) := by rw [hw4]; rfl
      have eR : R = (childB m.pr p.pid p.n) := by
        rw [hR]
        unfold couldM
        rw [if_neg (by omega), if_neg hw1, if_neg hw2, if_neg hw3, if_pos hw4]
      rw [eR]
      clear eR hR
      simp only [encPr] at hC
      generalize (childB m.pr p.pid p.n) = b at hC
      refine spec_ok Try.func48 rfl rfl (by kernel_rfl) (k := 2) rfl (by decide) ?_
      repeat' (first|(with_reducible first|refine yrl (by constructor) ?_|refine jk (fun M hM=>?_)|(refine hM _ ?_;clear hM M)|refine xb3 (by decide) ?_|refine yqa (by assumption) ?_ ?_|refine yqb (by assumption) ?_ ?_)|((with_reducible refine je ?_)<;>(first|rfl|assumption|(simp only [znl,znR4];(first|done|fail))))|(with_reducible refine jf (by (simp only [↓reduceIte,zlk,Nat.reduceEqDiff,reduceCtorEq]);exact rfl) ?_)|((with_reducible first|refine jg (fun hc=>?_) (fun hc=>?_)|refine jh (fun hc=>?_) (fun hc=>?_))<;>(try simp (disch:=omega) only [zhb] at hc)<;>(try (exfalso;omega))<;>(try subst hc))|(with_reducible refine ji (by omega) ?_)|(simp (config := { maxSteps := 400000 }) only [↓jt,↓reduceIte,zvs,reduceCtorEq,Nat.reduceEqDiff,Nat.reduceAdd,Nat.reduceLeDiff,Nat.reduceMul,Int.reduceBNe,Int.reduceBEq,Int.reduceEq,Int.reduceNe,Int.reduceLT,Int.reduceLE,Int.reduceGT,Int.reduceGE,Int.reduceNeg,Int.reduceToNat,Nat.reduceLT,Nat.reduceSub,tab,hS1,hS2,hS3,encPr,Try.results48,jTA])|(simp (disch:=omega) only [ziw]))
      refine ok_drawC 8 (by kernel_rfl) (by decide +kernel) (by intro m hm; simp only [upd_ap,rows_cons,rows_nil]; (repeat (first | rfl | rw [if_neg (by omega)]))) (fun M hM => ?_); simp only [List.take_succ_cons,List.take_zero,List.drop_succ_cons,List.drop_zero]
      repeat' (first|(with_reducible first|refine yrl (by constructor) ?_|refine jk (fun M hM=>?_)|(refine hM _ ?_;clear hM M)|refine xb3 (by decide) ?_|refine yqa (by assumption) ?_ ?_|refine yqb (by assumption) ?_ ?_)|((with_reducible refine je ?_)<;>(first|rfl|assumption|(simp only [znl,znR4];(first|done|fail))))|(with_reducible refine jf (by (simp only [↓reduceIte,zlk,Nat.reduceEqDiff,reduceCtorEq]);exact rfl) ?_)|((with_reducible first|refine jg (fun hc=>?_) (fun hc=>?_)|refine jh (fun hc=>?_) (fun hc=>?_))<;>(try simp (disch:=omega) only [zhb] at hc)<;>(try (exfalso;omega))<;>(try subst hc))|(with_reducible refine ji (by omega) ?_)|(simp (config := { maxSteps := 400000 }) only [↓jt,↓reduceIte,zvs,reduceCtorEq,Nat.reduceEqDiff,Nat.reduceAdd,Nat.reduceLeDiff,Nat.reduceMul,Int.reduceBNe,Int.reduceBEq,Int.reduceEq,Int.reduceNe,Int.reduceLT,Int.reduceLE,Int.reduceGT,Int.reduceGE,Int.reduceNeg,Int.reduceToNat,Nat.reduceLT,Nat.reduceSub,tab,hS1,hS2,hS3,encPr,Try.results48,jTA])|(simp (disch:=omega) only [ziw]))
      refine vcallHW_map (conds_spec) rfl rfl rfl ?_
      repeat' (first|(with_reducible first|refine yrl (by constructor) ?_|refine jk (fun M hM=>?_)|(refine hM _ ?_;clear hM M)|refine xb3 (by decide) ?_|refine yqa (by assumption) ?_ ?_|refine yqb (by assumption) ?_ ?_)|((with_reducible refine je ?_)<;>(first|rfl|assumption|(simp only [znl,znR4];(first|done|fail))))|(with_reducible refine jf (by (simp only [↓reduceIte,zlk,Nat.reduceEqDiff,reduceCtorEq]);exact rfl) ?_)|((with_reducible first|refine jg (fun hc=>?_) (fun hc=>?_)|refine jh (fun hc=>?_) (fun hc=>?_))<;>(try simp (disch:=omega) only [zhb] at hc)<;>(try (exfalso;omega))<;>(try subst hc))|(with_reducible refine ji (by omega) ?_)|(simp (config := { maxSteps := 400000 }) only [↓jt,↓reduceIte,zvs,reduceCtorEq,Nat.reduceEqDiff,Nat.reduceAdd,Nat.reduceLeDiff,Nat.reduceMul,Int.reduceBNe,Int.reduceBEq,Int.reduceEq,Int.reduceNe,Int.reduceLT,Int.reduceLE,Int.reduceGT,Int.reduceGE,Int.reduceNeg,Int.reduceToNat,Nat.reduceLT,Nat.reduceSub,tab,tabC,hS1,hS2,hS3,encPr,hL,condsL_keys,Option.getD_some,Option.isSome_some,Try.results48,jTA])|(simp (disch:=omega) only [ziw]))
      all_goals first
        | (exfalso; omega)
        | (simp only [zrds]; done)
        | (simp only [zrds]; rfl)
    by_cases hw5 : p.why = 5
    · have hC := cond5_spec m hm p hp
      have hL : mget condsL (.int .i64 p.why) = some (.fn 113 []) := by rw [hw5]; rfl
      have eR : R = (decide (p.n ≤ m.clock)) := by
        rw [hR]
        unfold couldM
        rw [if_neg (by omega), if_neg hw1, if_neg hw2, if_neg hw3, if_neg hw4, if_pos hw5]
      rw [eR]
      clear eR hR
      simp only [encPr] at hC
      generalize (decide (p.n ≤ m.clock)) = b at hC
      refine spec_ok Try.func48 rfl rfl (by kernel_rfl) (k := 2) rfl (by decide) ?_
      repeat' (first|(with_reducible first|refine yrl (by constructor) ?_|refine jk (fun M hM=>?_)|(refine hM _ ?_;clear hM M)|refine xb3 (by decide) ?_|refine yqa (by assumption) ?_ ?_|refine yqb (by assumption) ?_ ?_)|((with_reducible refine je ?_)<;>(first|rfl|assumption|(simp only [znl,znR4];(first|done|fail))))|(with_reducible refine jf (by (simp only [↓reduceIte,zlk,Nat.reduceEqDiff,reduceCtorEq]);exact rfl) ?_)|((with_reducible first|refine jg (fun hc=>?_) (fun hc=>?_)|refine jh (fun hc=>?_) (fun hc=>?_))<;>(try simp (disch:=omega) only [zhb] at hc)<;>(try (exfalso;omega))<;>(try subst hc))|(with_reducible refine ji (by omega) ?_)|(simp (config := { maxSteps := 400000 }) only [↓jt,↓reduceIte,zvs,reduceCtorEq,Nat.reduceEqDiff,Nat.reduceAdd,Nat.reduceLeDiff,Nat.reduceMul,Int.reduceBNe,Int.reduceBEq,Int.reduceEq,Int.reduceNe,Int.reduceLT,Int.reduceLE,Int.reduceGT,Int.reduceGE,Int.reduceNeg,Int.reduceToNat,Nat.reduceLT,Nat.reduceSub,tab,hS1,hS2,hS3,encPr,Try.results48,jTA])|(simp (disch:=omega) only [ziw]))
      refine ok_drawC 8 (by kernel_rfl) (by decide +kernel) (by intro m hm; simp only [upd_ap,rows_cons,rows_nil]; (repeat (first | rfl | rw [if_neg (by omega)]))) (fun M hM => ?_); simp only [List.take_succ_cons,List.take_zero,List.drop_succ_cons,List.drop_zero]
      repeat' (first|(with_reducible first|refine yrl (by constructor) ?_|refine jk (fun M hM=>?_)|(refine hM _ ?_;clear hM M)|refine xb3 (by decide) ?_|refine yqa (by assumption) ?_ ?_|refine yqb (by assumption) ?_ ?_)|((with_reducible refine je ?_)<;>(first|rfl|assumption|(simp only [znl,znR4];(first|done|fail))))|(with_reducible refine jf (by (simp only [↓reduceIte,zlk,Nat.reduceEqDiff,reduceCtorEq]);exact rfl) ?_)|((with_reducible first|refine jg (fun hc=>?_) (fun hc=>?_)|refine jh (fun hc=>?_) (fun hc=>?_))<;>(try simp (disch:=omega) only [zhb] at hc)<;>(try (exfalso;omega))<;>(try subst hc))|(with_reducible refine ji (by omega) ?_)|(simp (config := { maxSteps := 400000 }) only [↓jt,↓reduceIte,zvs,reduceCtorEq,Nat.reduceEqDiff,Nat.reduceAdd,Nat.reduceLeDiff,Nat.reduceMul,Int.reduceBNe,Int.reduceBEq,Int.reduceEq,Int.reduceNe,Int.reduceLT,Int.reduceLE,Int.reduceGT,Int.reduceGE,Int.reduceNeg,Int.reduceToNat,Nat.reduceLT,Nat.reduceSub,tab,hS1,hS2,hS3,encPr,Try.results48,jTA])|(simp (disch:=omega) only [ziw]))
      refine vcallHW_map (conds_spec) rfl rfl rfl ?_
      repeat' (first|(with_reducible first|refine yrl (by constructor) ?_|refine jk (fun M hM=>?_)|(refine hM _ ?_;clear hM M)|refine xb3 (by decide) ?_|refine yqa (by assumption) ?_ ?_|refine yqb (by assumption) ?_ ?_)|((with_reducible refine je ?_)<;>(first|rfl|assumption|(simp only [znl,znR4];(first|done|fail))))|(with_reducible refine jf (by (simp only [↓reduceIte,zlk,Nat.reduceEqDiff,reduceCtorEq]);exact rfl) ?_)|((with_reducible first|refine jg (fun hc=>?_) (fun hc=>?_)|refine jh (fun hc=>?_) (fun hc=>?_))<;>(try simp (disch:=omega) only [zhb] at hc)<;>(try (exfalso;omega))<;>(try subst hc))|(with_reducible refine ji (by omega) ?_)|(simp (config := { maxSteps := 400000 }) only [↓jt,↓reduceIte,zvs,reduceCtorEq,Nat.reduceEqDiff,Nat.reduceAdd,Nat.reduceLeDiff,Nat.reduceMul,Int.reduceBNe,Int.reduceBEq,Int.reduceEq,Int.reduceNe,Int.reduceLT,Int.reduceLE,Int.reduceGT,Int.reduceGE,Int.reduceNeg,Int.reduceToNat,Nat.reduceLT,Nat.reduceSub,tab,tabC,hS1,hS2,hS3,encPr,hL,condsL_keys,Option.getD_some,Option.isSome_some,Try.results48,jTA])|(simp (disch:=omega) only [ziw]))
      all_goals first
        | (exfalso; omega)
        | (simp only [zrds]; done)
        | (simp only [zrds]; rfl)
    have hL : mget condsL (.int .i64 p.why) = none := by
      have ne : ∀ k : Int, p.why ≠ k → keq (.int .i64 p.why) (.int .i64 k) = false := fun k hk => by simp [keq, hk]
      simp only [condsL,mget,ne 1 hw1,ne 2 hw2,ne 3 hw3,ne 4 hw4,ne 5 hw5,Bool.false_eq_true,if_false]
    have eR : R = false := by
      rw [hR]
      unfold couldM
      rw [if_neg (by omega), if_neg hw1, if_neg hw2, if_neg hw3, if_neg hw4, if_neg hw5]
    rw [eR]
    clear eR hR
    refine spec_ok Try.func48 rfl rfl (by kernel_rfl) (k := 2) rfl (by decide) ?_
    repeat' (first|(with_reducible first|refine yrl (by constructor) ?_|refine jk (fun M hM=>?_)|(refine hM _ ?_;clear hM M)|refine xb3 (by decide) ?_|refine yqa (by assumption) ?_ ?_|refine yqb (by assumption) ?_ ?_)|((with_reducible refine je ?_)<;>(first|rfl|assumption|(simp only [znl,znR4];(first|done|fail))))|(with_reducible refine jf (by (simp only [↓reduceIte,zlk,Nat.reduceEqDiff,reduceCtorEq]);exact rfl) ?_)|((with_reducible first|refine jg (fun hc=>?_) (fun hc=>?_)|refine jh (fun hc=>?_) (fun hc=>?_))<;>(try simp (disch:=omega) only [zhb] at hc)<;>(try (exfalso;omega))<;>(try subst hc))|(with_reducible refine ji (by omega) ?_)|(simp (config := { maxSteps := 400000 }) only [↓jt,↓reduceIte,zvs,reduceCtorEq,Nat.reduceEqDiff,Nat.reduceAdd,Nat.reduceLeDiff,Nat.reduceMul,Int.reduceBNe,Int.reduceBEq,Int.reduceEq,Int.reduceNe,Int.reduceLT,Int.reduceLE,Int.reduceGT,Int.reduceGE,Int.reduceNeg,Int.reduceToNat,Nat.reduceLT,Nat.reduceSub,tab,hS1,hS2,hS3,encPr,Try.results48,jTA])|(simp (disch:=omega) only [ziw]))
    refine ok_drawC 8 (by kernel_rfl) (by decide +kernel) (by intro m hm; simp only [upd_ap,rows_cons,rows_nil]; (repeat (first | rfl | rw [if_neg (by omega)]))) (fun M hM => ?_); simp only [List.take_succ_cons,List.take_zero,List.drop_succ_cons,List.drop_zero]
    repeat' (first|(with_reducible first|refine yrl (by constructor) ?_|refine jk (fun M hM=>?_)|(refine hM _ ?_;clear hM M)|refine xb3 (by decide) ?_|refine yqa (by assumption) ?_ ?_|refine yqb (by assumption) ?_ ?_)|((with_reducible refine je ?_)<;>(first|rfl|assumption|(simp only [znl,znR4];(first|done|fail))))|(with_reducible refine jf (by (simp only [↓reduceIte,zlk,Nat.reduceEqDiff,reduceCtorEq]);exact rfl) ?_)|((with_reducible first|refine jg (fun hc=>?_) (fun hc=>?_)|refine jh (fun hc=>?_) (fun hc=>?_))<;>(try simp (disch:=omega) only [zhb] at hc)<;>(try (exfalso;omega))<;>(try subst hc))|(with_reducible refine ji (by omega) ?_)|(simp (config := { maxSteps := 400000 }) only [↓jt,↓reduceIte,zvs,reduceCtorEq,Nat.reduceEqDiff,Nat.reduceAdd,Nat.reduceLeDiff,Nat.reduceMul,Int.reduceBNe,Int.reduceBEq,Int.reduceEq,Int.reduceNe,Int.reduceLT,Int.reduceLE,Int.reduceGT,Int.reduceGE,Int.reduceNeg,Int.reduceToNat,Nat.reduceLT,Nat.reduceSub,tab,hS1,hS2,hS3,encPr,Try.results48,jTA])|(simp (disch:=omega) only [ziw]))
    refine vcallHW_map (conds_spec) rfl rfl rfl ?_
    repeat' (first|(with_reducible first|refine yrl (by constructor) ?_|refine jk (fun M hM=>?_)|(refine hM _ ?_;clear hM M)|refine xb3 (by decide) ?_|refine yqa (by assumption) ?_ ?_|refine yqb (by assumption) ?_ ?_)|((with_reducible refine je ?_)<;>(first|rfl|assumption|(simp only [znl,znR4];(first|done|fail))))|(with_reducible refine jf (by (simp only [↓reduceIte,zlk,Nat.reduceEqDiff,reduceCtorEq]);exact rfl) ?_)|((with_reducible first|refine jg (fun hc=>?_) (fun hc=>?_)|refine jh (fun hc=>?_) (fun hc=>?_))<;>(try simp (disch:=omega) only [zhb] at hc)<;>(try (exfalso;omega))<;>(try subst hc))|(with_reducible refine ji (by omega) ?_)|(simp (config := { maxSteps := 400000 }) only [↓jt,↓reduceIte,zvs,reduceCtorEq,Nat.reduceEqDiff,Nat.reduceAdd,Nat.reduceLeDiff,Nat.reduceMul,Int.reduceBNe,Int.reduceBEq,Int.reduceEq,Int.reduceNe,Int.reduceLT,Int.reduceLE,Int.reduceGT,Int.reduceGE,Int.reduceNeg,Int.reduceToNat,Nat.reduceLT,Nat.reduceSub,tab,tabC,hS1,hS2,hS3,encPr,hL,condsL_keys,Option.getD_none,Option.isSome_none,Try.results48,jTA])|(simp (disch:=omega) only [ziw]))
    all_goals first
      | (exfalso; omega)
      | (simp only [zrds]; done)
      | (simp only [zrds]; rfl)
  · have eR : R = false := by
      rw [hR]
      unfold couldM
      rw [if_pos h2]
    rw [eR]
    refine spec_ok Try.func48 rfl rfl (by kernel_rfl) (k := 2) rfl (by decide) ?_
    repeat' (first|(with_reducible first|refine yrl (by constructor) ?_|refine jk (fun M hM=>?_)|(refine hM _ ?_;clear hM M)|refine xb3 (by decide) ?_|refine yqa (by assumption) ?_ ?_|refine yqb (by assumption) ?_ ?_)|((with_reducible refine je ?_)<;>(first|rfl|assumption|(simp only [znl,znR4];(first|done|fail))))|(with_reducible refine jf (by (simp only [↓reduceIte,zlk,Nat.reduceEqDiff,reduceCtorEq]);exact rfl) ?_)|((with_reducible first|refine jg (fun hc=>?_) (fun hc=>?_)|refine jh (fun hc=>?_) (fun hc=>?_))<;>(try simp (disch:=omega) only [zhb] at hc)<;>(try (exfalso;omega))<;>(try subst hc))|(with_reducible refine ji (by omega) ?_)|(simp (config := { maxSteps := 400000 }) only [↓jt,↓reduceIte,zvs,reduceCtorEq,Nat.reduceEqDiff,Nat.reduceAdd,Nat.reduceLeDiff,Nat.reduceMul,Int.reduceBNe,Int.reduceBEq,Int.reduceEq,Int.reduceNe,Int.reduceLT,Int.reduceLE,Int.reduceGT,Int.reduceGE,Int.reduceNeg,Int.reduceToNat,Nat.reduceLT,Nat.reduceSub,tab,hS1,hS2,hS3,encPr,Try.results48,jTA])|(simp (disch:=omega) only [ziw]))
    all_goals first
      | (exfalso; omega)
      | (simp only [zrds]; done)
      | (simp only [zrds]; rfl)
theorem findI_at {l : List Pr} {pid : Int} {i : Nat} (h : findI l pid = some i) : i < l.length ∧ (l.getD i default).pid = pid := by
  unfold findI at h
  rw [List.findIdx?_eq_some_iff_getElem] at h
  obtain ⟨h1, h2, _⟩ := h
  refine ⟨h1, ?_⟩
  rw [List.getD_eq_getElem?_getD, List.getElem?_eq_getElem h1]
  simpa using h2
theorem Could_spec (m : Mach) (hm : MFit 20000 m) (pid : Int) (hp : i64R pid) : Spec Try.prog 22 [encM m, .int .i64 pid] (.bool (CouldM m pid)) := by
  have hF := pfind_spec m hm pid hp
  have hl := hm.pr
  unfold CouldM
  cases hf : findI m.pr pid with
  | none =>
    rw [hf] at hF
    simp only [placeV] at hF ⊢
    refine spec_ok Try.func22 rfl rfl (by kernel_rfl) (k := 2) rfl (by decide) ?_
    repeat' (first|(with_reducible first|refine yrl (by constructor) ?_|refine jk (fun M hM=>?_)|(refine hM _ ?_;clear hM M)|refine xb3 (by decide) ?_|refine yqa (by assumption) ?_ ?_|refine yqb (by assumption) ?_ ?_)|((with_reducible refine je ?_)<;>(first|rfl|assumption|(simp only [znl,znR4];(first|done|fail))))|(with_reducible refine jf (by (simp only [↓reduceIte,zlk,Nat.reduceEqDiff,reduceCtorEq]);exact rfl) ?_)|((with_reducible first|refine jg (fun hc=>?_) (fun hc=>?_)|refine jh (fun hc=>?_) (fun hc=>?_))<;>(try simp (disch:=omega) only [zhb] at hc)<;>(try (exfalso;omega))<;>(try subst hc))|(with_reducible refine ji (by omega) ?_)|(simp (config := { maxSteps := 400000 }) only [↓jt,↓reduceIte,zvs,reduceCtorEq,Nat.reduceEqDiff,Nat.reduceAdd,Nat.reduceLeDiff,Nat.reduceMul,Int.reduceBNe,Int.reduceBEq,Int.reduceEq,Int.reduceNe,Int.reduceLT,Int.reduceLE,Int.reduceGT,Int.reduceGE,Int.reduceNeg,Int.reduceToNat,Nat.reduceLT,Nat.reduceSub,tab,Try.results22,jTA])|(simp (disch:=omega) only [ziw]))
    refine ok_drawC 8 (by kernel_rfl) (by decide +kernel) (by intro m hm; simp only [upd_ap,rows_cons,rows_nil]; (repeat (first | rfl | rw [if_neg (by omega)]))) (fun M hM => ?_); simp only [List.take_succ_cons,List.take_zero,List.drop_succ_cons,List.drop_zero]
    repeat' (first|(with_reducible first|refine yrl (by constructor) ?_|refine jk (fun M hM=>?_)|(refine hM _ ?_;clear hM M)|refine xb3 (by decide) ?_|refine yqa (by assumption) ?_ ?_|refine yqb (by assumption) ?_ ?_)|((with_reducible refine je ?_)<;>(first|rfl|assumption|(simp only [znl,znR4];(first|done|fail))))|(with_reducible refine jf (by (simp only [↓reduceIte,zlk,Nat.reduceEqDiff,reduceCtorEq]);exact rfl) ?_)|((with_reducible first|refine jg (fun hc=>?_) (fun hc=>?_)|refine jh (fun hc=>?_) (fun hc=>?_))<;>(try simp (disch:=omega) only [zhb] at hc)<;>(try (exfalso;omega))<;>(try subst hc))|(with_reducible refine ji (by omega) ?_)|(simp (config := { maxSteps := 400000 }) only [↓jt,↓reduceIte,zvs,reduceCtorEq,Nat.reduceEqDiff,Nat.reduceAdd,Nat.reduceLeDiff,Nat.reduceMul,Int.reduceBNe,Int.reduceBEq,Int.reduceEq,Int.reduceNe,Int.reduceLT,Int.reduceLE,Int.reduceGT,Int.reduceGE,Int.reduceNeg,Int.reduceToNat,Nat.reduceLT,Nat.reduceSub,tab,Try.results22,jTA])|(simp (disch:=omega) only [ziw]))
    all_goals first
      | (simp only [zrds]; done)
  | some i =>
    rw [hf] at hF
    simp only [placeV] at hF ⊢
    obtain ⟨hi, _⟩ := findI_at hf
    have hb := hm.prR _ (getD_mem' hi)
    obtain ⟨hS1, hS2, hS3⟩ := pr3 hb
    have hC := could_spec m hm _ hb
    simp only [encPr] at hC
    generalize couldM m (m.pr.getD i default) = b at hC ⊢
    refine spec_ok Try.func22 rfl rfl (by kernel_rfl) (k := 2) rfl (by decide) ?_
    repeat' (first|(with_reducible first|refine yrl (by constructor) ?_|refine jk (fun M hM=>?_)|(refine hM _ ?_;clear hM M)|refine xb3 (by decide) ?_|refine yqa (by assumption) ?_ ?_|refine yqb (by assumption) ?_ ?_)|((with_reducible refine je ?_)<;>(first|rfl|assumption|(simp only [znl,znR4];(first|done|fail))))|(with_reducible refine jf (by (simp only [↓reduceIte,zlk,Nat.reduceEqDiff,reduceCtorEq]);exact rfl) ?_)|((with_reducible first|refine jg (fun hc=>?_) (fun hc=>?_)|refine jh (fun hc=>?_) (fun hc=>?_))<;>(try simp (disch:=omega) only [zhb] at hc)<;>(try (exfalso;omega))<;>(try subst hc))|(with_reducible refine ji (by omega) ?_)|(simp (config := { maxSteps := 400000 }) only [↓jt,↓reduceIte,zvs,reduceCtorEq,Nat.reduceEqDiff,Nat.reduceAdd,Nat.reduceLeDiff,Nat.reduceMul,Int.reduceBNe,Int.reduceBEq,Int.reduceEq,Int.reduceNe,Int.reduceLT,Int.reduceLE,Int.reduceGT,Int.reduceGE,Int.reduceNeg,Int.reduceToNat,Nat.reduceLT,Nat.reduceSub,tab,hS1,hS2,hS3,encPr,Try.results22,jTA])|(simp (disch:=omega) only [ziw]))
    refine ok_drawC 8 (by kernel_rfl) (by decide +kernel) (by intro m hm; simp only [upd_ap,rows_cons,rows_nil]; (repeat (first | rfl | rw [if_neg (by omega)]))) (fun M hM => ?_); simp only [List.take_succ_cons,List.take_zero,List.drop_succ_cons,List.drop_zero]
    repeat' (first|(with_reducible first|refine yrl (by constructor) ?_|refine jk (fun M hM=>?_)|(refine hM _ ?_;clear hM M)|refine xb3 (by decide) ?_|refine yqa (by assumption) ?_ ?_|refine yqb (by assumption) ?_ ?_)|((with_reducible refine je ?_)<;>(first|rfl|assumption|(simp only [znl,znR4];(first|done|fail))))|(with_reducible refine jf (by (simp only [↓reduceIte,zlk,Nat.reduceEqDiff,reduceCtorEq]);exact rfl) ?_)|((with_reducible first|refine jg (fun hc=>?_) (fun hc=>?_)|refine jh (fun hc=>?_) (fun hc=>?_))<;>(try simp (disch:=omega) only [zhb] at hc)<;>(try (exfalso;omega))<;>(try subst hc))|(with_reducible refine ji (by omega) ?_)|(simp (config := { maxSteps := 400000 }) only [↓jt,↓reduceIte,zvs,reduceCtorEq,Nat.reduceEqDiff,Nat.reduceAdd,Nat.reduceLeDiff,Nat.reduceMul,Int.reduceBNe,Int.reduceBEq,Int.reduceEq,Int.reduceNe,Int.reduceLT,Int.reduceLE,Int.reduceGT,Int.reduceGE,Int.reduceNeg,Int.reduceToNat,Nat.reduceLT,Nat.reduceSub,tab,hS1,hS2,hS3,encPr,Try.results22,jTA])|(simp (disch:=omega) only [ziw]))
    all_goals first
      | (exfalso; omega)
      | (simp only [zrds]; done)
      | (simp only [zrds]; rfl)
end Go.Proofs.Ytginpdejpibdjaa.V
end
section
namespace Go.Proofs.Ytginpdejpibdjaa.V
open Go
set_option maxRecDepth 100000
def znR5 := And.intro @jO <| And.intro @jP <| And.intro @jQ <| And.intro @jR <| And.intro @jS <| And.intro @jT <| And.intro @jU <| True.intro
set_option maxHeartbeats 8000000
theorem rpipe27_spec (m : Mach) (hm : MFit 20000 m) (hid : ∀ p ∈ m.pipes, 0 ≤ p.id) (n : Int) (hn : u64R n) : Spec Try.prog 81 [encM m, .int .u64 n] (pipeV (pipeO m.pipes n)) := by
  obtain ⟨R, hR⟩ : ∃ R, R = pipeV (pipeO m.pipes n) := ⟨_, rfl⟩
  rw [← hR]
  have hl := hm.pipes
  have hpR := hm.pipesR
  obtain ⟨hp1, hp2⟩ := hn
  refine spec_ok Try.func81 rfl rfl (by kernel_rfl) (k := 2) rfl (by decide) ?_
  repeat' (first|(with_reducible first|refine yrl (by constructor) ?_|refine jk (fun M hM=>?_)|(refine hM _ ?_;clear hM M)|refine xb3 (by decide) ?_|refine yqa (by assumption) ?_ ?_|refine yqb (by assumption) ?_ ?_)|((with_reducible refine je ?_)<;>(first|rfl|assumption|(simp only [znl,znR5];(first|done|fail))))|(with_reducible refine jf (by (simp only [↓reduceIte,zlk,Nat.reduceEqDiff,reduceCtorEq]);exact rfl) ?_)|((with_reducible first|refine jg (fun hc=>?_) (fun hc=>?_)|refine jh (fun hc=>?_) (fun hc=>?_))<;>(try simp (disch:=omega) only [zhb] at hc)<;>(try (exfalso;omega))<;>(try subst hc))|(with_reducible refine ji (by omega) ?_)|(simp (config := { maxSteps := 400000 }) only [↓jt,↓reduceIte,zvs,reduceCtorEq,Nat.reduceEqDiff,Nat.reduceAdd,Nat.reduceLeDiff,Nat.reduceMul,Int.reduceBNe,Int.reduceBEq,Int.reduceEq,Int.reduceNe,Int.reduceLT,Int.reduceLE,Int.reduceGT,Int.reduceGE,Int.reduceNeg,Int.reduceToNat,Nat.reduceLT,Nat.reduceSub,tab,Try.results81,jTA])|(simp (disch:=omega) only [ziw]))
  refine ok_loop (fun k : Nat => ⟨slots [(1, .int .u64 n), (2, .ptr 0 []), (4, .ptr 1 []), (5, .bool false), (6, .int .i64 k)], rows [(0, .row machSh (encM m)), (1, .row piSh (.agg [.int .i64 0, .str []]))], 2⟩) (fun k => k ≤ m.pipes.length ∧ ∀ j, j < k → (m.pipes.getD j default).id ≠ n) (fun k => m.pipes.length - k) 0 ?_ ⟨Nat.zero_le _, fun j hj => by omega⟩ (fun k hk => ?_)
  · (refine yrn [(0, 0), (1, 1)] false ?_ ?_<;>(repeat' (first|(with_reducible first|exact ya1|exact ya2|exact ya3|refine jx rfl (by first|rfl|assumption|(simp only [znl,znR5];(first|done|fail)))|exact ya5|exact ya7|exact jy|exact jz|refine jA ?_|refine ya9 ?_ ?_ ?_|refine jC rfl (by first|rfl|assumption|(simp only [znl,znR5];(first|done|fail)))|refine MR.agg (MRL.cons ?_ ?_)|refine MR.fn ?_|refine MRL.cons ?_ ?_|exact MRL.nil|refine jE ?_ ?_|exact jF|exact jG|refine yb1 ?_ ?_|refine MB.row ?_|refine jI ?_ ?_|exact ya8|refine jJ rfl (by first|rfl|assumption|(simp only [znl,znR5];(first|done|fail)))|refine yb2 ?_|rfl)|(simp only [znl,znR5];(first|done|fail))|(simp only [↓reduceIte,zlk,Nat.reduceEqDiff,reduceCtorEq])|(with_reducible first|refine jJ ?_ ?_|refine ya5 ?_|refine ju ?_|refine jv ?_|refine jw ?_|refine jx ?_ (by first|rfl|assumption|(simp only [znl,znR5];(first|done|fail)))|refine jC ?_ (by first|rfl|assumption|(simp only [znl,znR5];(first|done|fail)))))))
  obtain ⟨hk, hnn⟩ := hk
  by_cases hlt : k < m.pipes.length
  · obtain ⟨⟨hb1, hb2⟩, hb3⟩ := hpR _ (getD_mem' hlt)
    have hb0 := hid _ (getD_mem' hlt)
    by_cases hq : (m.pipes.getD k default).id = n
    · rw [pipe_hit hlt hnn hq] at hR
      repeat' (first|(with_reducible first|refine yrl (by constructor) ?_|refine jk (fun M hM=>?_)|(refine hM _ ?_;clear hM M)|refine xb3 (by decide) ?_|refine yqa (by assumption) ?_ ?_|refine yqb (by assumption) ?_ ?_)|((with_reducible refine je ?_)<;>(first|rfl|assumption|(simp only [znl,znR5];(first|done|fail))))|(with_reducible refine jf (by (simp only [↓reduceIte,zlk,Nat.reduceEqDiff,reduceCtorEq]);exact rfl) ?_)|((with_reducible first|refine jg (fun hc=>?_) (fun hc=>?_)|refine jh (fun hc=>?_) (fun hc=>?_))<;>(try simp (disch:=omega) only [zhb] at hc)<;>(try (exfalso;omega))<;>(try subst hc))|(with_reducible refine ji (by omega) ?_)|(simp (config := { maxSteps := 400000 }) only [↓jt,↓reduceIte,zvs,reduceCtorEq,Nat.reduceEqDiff,Nat.reduceAdd,Nat.reduceLeDiff,Nat.reduceMul,Int.reduceBNe,Int.reduceBEq,Int.reduceEq,Int.reduceNe,Int.reduceLT,Int.reduceLE,Int.reduceGT,Int.reduceGE,Int.reduceNeg,Int.reduceToNat,Nat.reduceLT,Nat.reduceSub,tab,encPi,Try.results81,jTA])|(simp (disch:=omega) only [ziw]))
      all_goals first
        | (exfalso; omega)
        | (rw [hR]; simp only [pipeV,encPi]; simp only [zrds]; done)
        | (rw [hR]; simp only [pipeV,encPi]; simp only [zrds]; rw [hq])
    · repeat' (first|(with_reducible first|refine yrl (by constructor) ?_|refine jk (fun M hM=>?_)|(refine hM _ ?_;clear hM M)|refine xb3 (by decide) ?_|refine yqa (by assumption) ?_ ?_|refine yqb (by assumption) ?_ ?_)|((with_reducible refine je ?_)<;>(first|rfl|assumption|(simp only [znl,znR5];(first|done|fail))))|(with_reducible refine jf (by (simp only [↓reduceIte,zlk,Nat.reduceEqDiff,reduceCtorEq]);exact rfl) ?_)|((with_reducible first|refine jg (fun hc=>?_) (fun hc=>?_)|refine jh (fun hc=>?_) (fun hc=>?_))<;>(try simp (disch:=omega) only [zhb] at hc)<;>(try (exfalso;omega))<;>(try subst hc))|(with_reducible refine ji (by omega) ?_)|(simp (config := { maxSteps := 400000 }) only [↓jt,↓reduceIte,zvs,reduceCtorEq,Nat.reduceEqDiff,Nat.reduceAdd,Nat.reduceLeDiff,Nat.reduceMul,Int.reduceBNe,Int.reduceBEq,Int.reduceEq,Int.reduceNe,Int.reduceLT,Int.reduceLE,Int.reduceGT,Int.reduceGE,Int.reduceNeg,Int.reduceToNat,Nat.reduceLT,Nat.reduceSub,tab,encPi,Try.results81,jTA])|(simp (disch:=omega) only [ziw]))
      all_goals first
        | (exfalso; omega)
        | (refine xl1 (k + 1) ?_ ⟨by omega, fun j hj => ?_⟩ (by show m.pipes.length - (k + 1) < m.pipes.length - k; omega) <;> first | (by_cases e : j = k; (rw [e]; exact hq); exact hnn j (by omega)) | ((refine yrn [(0, 0), (1, 1)] false ?_ ?_<;>(repeat' (first|(with_reducible first|exact ya1|exact ya2|exact ya3|refine jx rfl (by first|rfl|assumption|(simp only [znl,znR5];(first|done|fail)))|exact ya5|exact ya7|exact jy|exact jz|refine jA ?_|refine ya9 ?_ ?_ ?_|refine jC rfl (by first|rfl|assumption|(simp only [znl,znR5];(first|done|fail)))|refine MR.agg (MRL.cons ?_ ?_)|refine MR.fn ?_|refine MRL.cons ?_ ?_|exact MRL.nil|refine jE ?_ ?_|exact jF|exact jG|refine yb1 ?_ ?_|refine MB.row ?_|refine jI ?_ ?_|exact ya8|refine jJ rfl (by first|rfl|assumption|(simp only [znl,znR5];(first|done|fail)))|refine yb2 ?_|rfl)|(simp only [znl,znR5];(first|done|fail))|(simp only [↓reduceIte,zlk,Nat.reduceEqDiff,reduceCtorEq])|(with_reducible first|refine jJ ?_ ?_|refine ya5 ?_|refine ju ?_|refine jv ?_|refine jw ?_|refine jx ?_ (by first|rfl|assumption|(simp only [znl,znR5];(first|done|fail)))|refine jC ?_ (by first|rfl|assumption|(simp only [znl,znR5];(first|done|fail))))))); done))
  · obtain rfl : k = m.pipes.length := by omega
    rw [pipe_miss hnn] at hR
    repeat' (first|(with_reducible first|refine yrl (by constructor) ?_|refine jk (fun M hM=>?_)|(refine hM _ ?_;clear hM M)|refine xb3 (by decide) ?_|refine yqa (by assumption) ?_ ?_|refine yqb (by assumption) ?_ ?_)|((with_reducible refine je ?_)<;>(first|rfl|assumption|(simp only [znl,znR5];(first|done|fail))))|(with_reducible refine jf (by (simp only [↓reduceIte,zlk,Nat.reduceEqDiff,reduceCtorEq]);exact rfl) ?_)|((with_reducible first|refine jg (fun hc=>?_) (fun hc=>?_)|refine jh (fun hc=>?_) (fun hc=>?_))<;>(try simp (disch:=omega) only [zhb] at hc)<;>(try (exfalso;omega))<;>(try subst hc))|(with_reducible refine ji (by omega) ?_)|(simp (config := { maxSteps := 400000 }) only [↓jt,↓reduceIte,zvs,reduceCtorEq,Nat.reduceEqDiff,Nat.reduceAdd,Nat.reduceLeDiff,Nat.reduceMul,Int.reduceBNe,Int.reduceBEq,Int.reduceEq,Int.reduceNe,Int.reduceLT,Int.reduceLE,Int.reduceGT,Int.reduceGE,Int.reduceNeg,Int.reduceToNat,Nat.reduceLT,Nat.reduceSub,tab,encPi,Try.results81,jTA])|(simp (disch:=omega) only [ziw]))
    all_goals first
      | (exfalso; omega)
      | (rw [hR]; simp only [pipeV]; simp only [zrds]; done)
def kidN (l : List Pr) (par n : Int) : Nat := l.countP (kidB par n)
def deadN (l : List Pr) (par n : Int) : Nat := l.countP fun p => kidB par n p && decide (p.st = 3)
theorem countP_next {α : Type} [Inhabited α] (l : List α) (q : α → Bool) (k : Nat) (hk : k < l.length) : (l.take (k + 1)).countP q = (l.take k).countP q + if q (l.getD k default) = true then 1 else 0 := by
  rw [take_snoc l k hk, List.countP_append, List.countP_cons, List.countP_nil, Nat.zero_add]
theorem childB_count (l : List Pr) (par n : Int) : childB l par n = (decide (0 < deadN l par n) || decide (kidN l par n = 0)) := by
  unfold childB deadN kidN
  congr 1
  · rw [Bool.eq_iff_iff, List.any_eq_true, decide_eq_true_eq, List.countP_pos_iff]
  · rw [Bool.eq_iff_iff, Bool.not_eq_true', decide_eq_true_eq, List.countP_eq_zero, List.any_eq_false]
theorem rchildren_spec (m : Mach) (hm : MFit 20000 m) (hpid : ∀ p ∈ m.pr, 0 ≤ p.pid) (par : Int) (hp : i64R par) (n : Int) (hn : u64R n) : Spec Try.prog 82 [encM m, .int .i64 par, .int .u64 n] (.tup [.int .i64 (kidN m.pr par n), .int .i64 (deadN m.pr par n)]) := by
  obtain ⟨R, hR⟩ : ∃ R, R = kidN m.pr par n := ⟨_, rfl⟩
  obtain ⟨T, hT⟩ : ∃ T, T = deadN m.pr par n := ⟨_, rfl⟩
  rw [← hR, ← hT]
  unfold kidN at hR
  unfold deadN at hT
  have hl := hm.pr
  have hpR := hm.prR
  obtain ⟨hp1, hp2⟩ := hp
  obtain ⟨n1, n2⟩ := hn
  have hU : ∀ (q : Pr → Bool) k, k ≤ m.pr.length → (m.pr.take k).countP q ≤ k := fun q k hk => by
    have := List.countP_le_length (p := q) (l := m.pr.take k)
    rw [List.length_take] at this
    omega
  refine spec_ok Try.func82 rfl rfl (by kernel_rfl) (k := 3) rfl (by decide) ?_
  repeat' (first|(with_reducible first|refine yrl (by constructor) ?_|refine jk (fun M hM=>?_)|(refine hM _ ?_;clear hM M)|refine xb3 (by decide) ?_|refine yqa (by assumption) ?_ ?_|refine yqb (by assumption) ?_ ?_)|((with_reducible refine je ?_)<;>(first|rfl|assumption|(simp only [znl,znR5];(first|done|fail))))|(with_reducible refine jf (by (simp only [↓reduceIte,zlk,Nat.reduceEqDiff,reduceCtorEq]);exact rfl) ?_)|((with_reducible first|refine jg (fun hc=>?_) (fun hc=>?_)|refine jh (fun hc=>?_) (fun hc=>?_))<;>(try simp (disch:=omega) only [zhb] at hc)<;>(try (exfalso;omega))<;>(try subst hc))|(with_reducible refine ji (by omega) ?_)|(simp (config := { maxSteps := 400000 }) only [↓jt,↓reduceIte,zvs,reduceCtorEq,Nat.reduceEqDiff,Nat.reduceAdd,Nat.reduceLeDiff,Nat.reduceMul,Int.reduceBNe,Int.reduceBEq,Int.reduceEq,Int.reduceNe,Int.reduceLT,Int.reduceLE,Int.reduceGT,Int.reduceGE,Int.reduceNeg,Int.reduceToNat,Nat.reduceLT,Nat.reduceSub,tab,Try.results82,jTA])|(simp (disch:=omega) only [ziw]))
  refine ok_loop (fun k : Nat => ⟨slots [(1, .int .i64 par), (2, .int .u64 n), (3, .ptr 0 []), (6, .int .i64 0), (7, .int .i64 0), (8, .int .i64 ((m.pr.take k).countP (kidB par n))), (9, .int .i64 ((m.pr.take k).countP fun p => kidB par n p && decide (p.st = 3))), (10, .int .i64 k)], rows [(0, .row machSh (encM m))], 1⟩) (fun k => k ≤ m.pr.length) (fun k => m.pr.length - k) 0 ?_ (Nat.zero_le _) (fun k hk => ?_)
  · (refine yrn [(0, 0)] false ?_ ?_<;>(repeat' (first|(with_reducible first|exact ya1|exact ya2|exact ya3|refine jx rfl (by first|rfl|assumption|(simp only [znl,znR5];(first|done|fail)))|exact ya5|exact ya7|exact jy|exact jz|refine jA ?_|refine ya9 ?_ ?_ ?_|refine jC rfl (by first|rfl|assumption|(simp only [znl,znR5];(first|done|fail)))|refine MR.agg (MRL.cons ?_ ?_)|refine MR.fn ?_|refine MRL.cons ?_ ?_|exact MRL.nil|refine jE ?_ ?_|exact jF|exact jG|refine yb1 ?_ ?_|refine MB.row ?_|refine jI ?_ ?_|exact ya8|refine jJ rfl (by first|rfl|assumption|(simp only [znl,znR5];(first|done|fail)))|refine yb2 ?_|rfl)|(simp only [znl,znR5];(first|done|fail))|(simp only [↓reduceIte,zlk,Nat.reduceEqDiff,reduceCtorEq])|(with_reducible first|refine jJ ?_ ?_|refine ya5 ?_|refine ju ?_|refine jv ?_|refine jw ?_|refine jx ?_ (by first|rfl|assumption|(simp only [znl,znR5];(first|done|fail)))|refine jC ?_ (by first|rfl|assumption|(simp only [znl,znR5];(first|done|fail)))))))
    all_goals (first | rfl | (simp; done))
  have hUk := hU (kidB par n) k hk
  have hVk := hU (fun p => kidB par n p && decide (p.st = 3)) k hk
  by_cases hlt : k < m.pr.length
  · have hb := hpR _ (getD_mem' hlt)
    have hb0 := hpid _ (getD_mem' hlt)
    obtain ⟨hS1, hS2, hS3⟩ := pr3 hb
    obtain ⟨b1, b2⟩ := hb.pid
    obtain ⟨b3, b4⟩ := hb.par
    obtain ⟨b5, b6⟩ := hb.st
    have e1 := countP_next m.pr (kidB par n) k hlt
    have e2 : ((m.pr.take (k + 1)).countP fun p => kidB par n p && decide (p.st = 3)) = ((m.pr.take k).countP fun p => kidB par n p && decide (p.st = 3)) + if (kidB par n (m.pr.getD k default) && decide ((m.pr.getD k default).st = 3)) = true then 1 else 0 := countP_next m.pr (fun p => kidB par n p && decide (p.st = 3)) k hlt
    have hki := kidB_iff par n (m.pr.getD k default)
    cases hc2 : kidB par n (m.pr.getD k default) with
    | true =>
      have hki := hki.1 hc2
      rw [hc2] at e1 e2
      rw [if_pos rfl] at e1
      by_cases h3 : (m.pr.getD k default).st = 3
      · rw [decide_eq_true h3, Bool.true_and, if_pos rfl] at e2
        repeat' (first|(with_reducible first|refine yrl (by constructor) ?_|refine jk (fun M hM=>?_)|(refine hM _ ?_;clear hM M)|refine xb3 (by decide) ?_|refine yqa (by assumption) ?_ ?_|refine yqb (by assumption) ?_ ?_)|((with_reducible refine je ?_)<;>(first|rfl|assumption|(simp only [znl,znR5];(first|done|fail))))|(with_reducible refine jf (by (simp only [↓reduceIte,zlk,Nat.reduceEqDiff,reduceCtorEq]);exact rfl) ?_)|((with_reducible first|refine jg (fun hc=>?_) (fun hc=>?_)|refine jh (fun hc=>?_) (fun hc=>?_))<;>(try simp (disch:=omega) only [zhb] at hc)<;>(try (exfalso;omega))<;>(try subst hc))|(with_reducible refine ji (by omega) ?_)|(simp (config := { maxSteps := 400000 }) only [↓jt,↓reduceIte,zvs,reduceCtorEq,Nat.reduceEqDiff,Nat.reduceAdd,Nat.reduceLeDiff,Nat.reduceMul,Int.reduceBNe,Int.reduceBEq,Int.reduceEq,Int.reduceNe,Int.reduceLT,Int.reduceLE,Int.reduceGT,Int.reduceGE,Int.reduceNeg,Int.reduceToNat,Nat.reduceLT,Nat.reduceSub,tab,hS1,hS2,hS3,encPr,Try.results82,jTA])|(simp (disch:=omega) only [ziw]))
        all_goals first
          | (exfalso; omega)
          | (refine xl1 (k + 1) ?_ (by show k + 1 ≤ m.pr.length; omega) (by show m.pr.length - (k + 1) < m.pr.length - k; omega); (refine yrn [(0, 0)] false ?_ ?_<;>(repeat' (first|(with_reducible first|exact ya1|exact ya2|exact ya3|refine jx rfl (by first|rfl|assumption|(simp only [znl,znR5];(first|done|fail)))|exact ya5|exact ya7|exact jy|exact jz|refine jA ?_|refine ya9 ?_ ?_ ?_|refine jC rfl (by first|rfl|assumption|(simp only [znl,znR5];(first|done|fail)))|refine MR.agg (MRL.cons ?_ ?_)|refine MR.fn ?_|refine MRL.cons ?_ ?_|exact MRL.nil|refine jE ?_ ?_|exact jF|exact jG|refine yb1 ?_ ?_|refine MB.row ?_|refine jI ?_ ?_|exact ya8|refine jJ rfl (by first|rfl|assumption|(simp only [znl,znR5];(first|done|fail)))|refine yb2 ?_|rfl)|(simp only [znl,znR5];(first|done|fail))|(simp only [↓reduceIte,zlk,Nat.reduceEqDiff,reduceCtorEq])|(with_reducible first|refine jJ ?_ ?_|refine ya5 ?_|refine ju ?_|refine jv ?_|refine jw ?_|refine jx ?_ (by first|rfl|assumption|(simp only [znl,znR5];(first|done|fail)))|refine jC ?_ (by first|rfl|assumption|(simp only [znl,znR5];(first|done|fail))))))); all_goals first | (rw [e1]; omega) | (rw [e2]; omega))
      · rw [decide_eq_false h3, Bool.true_and, if_neg (by simp)] at e2
        repeat' (first|(with_reducible first|refine yrl (by constructor) ?_|refine jk (fun M hM=>?_)|(refine hM _ ?_;clear hM M)|refine xb3 (by decide) ?_|refine yqa (by assumption) ?_ ?_|refine yqb (by assumption) ?_ ?_)|((with_reducible refine je ?_)<;>(first|rfl|assumption|(simp only [znl,znR5];(first|done|fail))))|(with_reducible refine jf (by (simp only [↓reduceIte,zlk,Nat.reduceEqDiff,reduceCtorEq]);exact rfl) ?_)|((with_reducible first|refine jg (fun hc=>?_) (fun hc=>?_)|refine jh (fun hc=>?_) (fun hc=>?_))<;>(try simp (disch:=omega) only [zhb] at hc)<;>(try (exfalso;omega))<;>(try subst hc))|(with_reducible refine ji (by omega) ?_)|(simp (config := { maxSteps := 400000 }) only [↓jt,↓reduceIte,zvs,reduceCtorEq,Nat.reduceEqDiff,Nat.reduceAdd,Nat.reduceLeDiff,Nat.reduceMul,Int.reduceBNe,Int.reduceBEq,Int.reduceEq,Int.reduceNe,Int.reduceLT,Int.reduceLE,Int.reduceGT,Int.reduceGE,Int.reduceNeg,Int.reduceToNat,Nat.reduceLT,Nat.reduceSub,tab,hS1,hS2,hS3,encPr,Try.results82,jTA])|(simp (disch:=omega) only [ziw]))
        all_goals first
          | (exfalso; omega)
          | (refine xl1 (k + 1) ?_ (by show k + 1 ≤ m.pr.length; omega) (by show m.pr.length - (k + 1) < m.pr.length - k; omega); (refine yrn [(0, 0)] false ?_ ?_<;>(repeat' (first|(with_reducible first|exact ya1|exact ya2|exact ya3|refine jx rfl (by first|rfl|assumption|(simp only [znl,znR5];(first|done|fail)))|exact ya5|exact ya7|exact jy|exact jz|refine jA ?_|refine ya9 ?_ ?_ ?_|refine jC rfl (by first|rfl|assumption|(simp only [znl,znR5];(first|done|fail)))|refine MR.agg (MRL.cons ?_ ?_)|refine MR.fn ?_|refine MRL.cons ?_ ?_|exact MRL.nil|refine jE ?_ ?_|exact jF|exact jG|refine yb1 ?_ ?_|refine MB.row ?_|refine jI ?_ ?_|exact ya8|refine jJ rfl (by first|rfl|assumption|(simp only [znl,znR5];(first|done|fail)))|refine yb2 ?_|rfl)|(simp only [znl,znR5];(first|done|fail))|(simp only [↓reduceIte,zlk,Nat.reduceEqDiff,reduceCtorEq])|(with_reducible first|refine jJ ?_ ?_|refine ya5 ?_|refine ju ?_|refine jv ?_|refine jw ?_|refine jx ?_ (by first|rfl|assumption|(simp only [znl,znR5];(first|done|fail)))|refine jC ?_ (by first|rfl|assumption|(simp only [znl,znR5];(first|done|fail))))))); all_goals first | (rw [e1]; omega) | (rw [e2]; omega))
    | false =>
      have hki : ¬((m.pr.getD k default).par = par ∧ (n = 0 ∨ (m.pr.getD k default).pid = n)) := fun h => by rw [hki.2 h] at hc2; cases hc2
      rw [hc2] at e1 e2
      rw [if_neg (by simp)] at e1
      rw [Bool.false_and, if_neg (by simp)] at e2
      repeat' (first|(with_reducible first|refine yrl (by constructor) ?_|refine jk (fun M hM=>?_)|(refine hM _ ?_;clear hM M)|refine xb3 (by decide) ?_|refine yqa (by assumption) ?_ ?_|refine yqb (by assumption) ?_ ?_)|((with_reducible refine je ?_)<;>(first|rfl|assumption|(simp only [znl,znR5];(first|done|fail))))|(with_reducible refine jf (by (simp only [↓reduceIte,zlk,Nat.reduceEqDiff,reduceCtorEq]);exact rfl) ?_)|((with_reducible first|refine jg (fun hc=>?_) (fun hc=>?_)|refine jh (fun hc=>?_) (fun hc=>?_))<;>(try simp (disch:=omega) only [zhb] at hc)<;>(try (exfalso;omega))<;>(try subst hc))|(with_reducible refine ji (by omega) ?_)|(simp (config := { maxSteps := 400000 }) only [↓jt,↓reduceIte,zvs,reduceCtorEq,Nat.reduceEqDiff,Nat.reduceAdd,Nat.reduceLeDiff,Nat.reduceMul,Int.reduceBNe,Int.reduceBEq,Int.reduceEq,Int.reduceNe,Int.reduceLT,Int.reduceLE,Int.reduceGT,Int.reduceGE,Int.reduceNeg,Int.reduceToNat,Nat.reduceLT,Nat.reduceSub,tab,hS1,hS2,hS3,encPr,Try.results82,jTA])|(simp (disch:=omega) only [ziw]))
      all_goals first
        | (exfalso; omega)
        | (refine xl1 (k + 1) ?_ (by show k + 1 ≤ m.pr.length; omega) (by show m.pr.length - (k + 1) < m.pr.length - k; omega); (refine yrn [(0, 0)] false ?_ ?_<;>(repeat' (first|(with_reducible first|exact ya1|exact ya2|exact ya3|refine jx rfl (by first|rfl|assumption|(simp only [znl,znR5];(first|done|fail)))|exact ya5|exact ya7|exact jy|exact jz|refine jA ?_|refine ya9 ?_ ?_ ?_|refine jC rfl (by first|rfl|assumption|(simp only [znl,znR5];(first|done|fail)))|refine MR.agg (MRL.cons ?_ ?_)|refine MR.fn ?_|refine MRL.cons ?_ ?_|exact MRL.nil|refine jE ?_ ?_|exact jF|exact jG|refine yb1 ?_ ?_|refine MB.row ?_|refine jI ?_ ?_|exact ya8|refine jJ rfl (by first|rfl|assumption|(simp only [znl,znR5];(first|done|fail)))|refine yb2 ?_|rfl)|(simp only [znl,znR5];(first|done|fail))|(simp only [↓reduceIte,zlk,Nat.reduceEqDiff,reduceCtorEq])|(with_reducible first|refine jJ ?_ ?_|refine ya5 ?_|refine ju ?_|refine jv ?_|refine jw ?_|refine jx ?_ (by first|rfl|assumption|(simp only [znl,znR5];(first|done|fail)))|refine jC ?_ (by first|rfl|assumption|(simp only [znl,znR5];(first|done|fail))))))); all_goals first | (rw [e1]; omega) | (rw [e2]; omega))
  · obtain rfl : k = m.pr.length := by omega
    rw [List.take_length] at *
    repeat' (first|(with_reducible first|refine yrl (by constructor) ?_|refine jk (fun M hM=>?_)|(refine hM _ ?_;clear hM M)|refine xb3 (by decide) ?_|refine yqa (by assumption) ?_ ?_|refine yqb (by assumption) ?_ ?_)|((with_reducible refine je ?_)<;>(first|rfl|assumption|(simp only [znl,znR5];(first|done|fail))))|(with_reducible refine jf (by (simp only [↓reduceIte,zlk,Nat.reduceEqDiff,reduceCtorEq]);exact rfl) ?_)|((with_reducible first|refine jg (fun hc=>?_) (fun hc=>?_)|refine jh (fun hc=>?_) (fun hc=>?_))<;>(try simp (disch:=omega) only [zhb] at hc)<;>(try (exfalso;omega))<;>(try subst hc))|(with_reducible refine ji (by omega) ?_)|(simp (config := { maxSteps := 400000 }) only [↓jt,↓reduceIte,zvs,reduceCtorEq,Nat.reduceEqDiff,Nat.reduceAdd,Nat.reduceLeDiff,Nat.reduceMul,Int.reduceBNe,Int.reduceBEq,Int.reduceEq,Int.reduceNe,Int.reduceLT,Int.reduceLE,Int.reduceGT,Int.reduceGE,Int.reduceNeg,Int.reduceToNat,Nat.reduceLT,Nat.reduceSub,tab,List.take_length,Try.results82,jTA])|(simp (disch:=omega) only [ziw]))
    all_goals first
      | (simp only [zrds]; rw [hR, hT]; done)
      | (simp only [zrds]; exact ⟨by rw [hR], by rw [hT]⟩)
theorem rcould_spec (m : Mach) (hm : MFit 20000 m) (hid : ∀ p ∈ m.pipes, 0 ≤ p.id) (hpid : ∀ p ∈ m.pr, 0 ≤ p.pid) (p : Pr) (hp : PrR p) : Spec Try.prog 49 [encM m, encPr p] (.bool (couldM m p)) := by
  obtain ⟨hS1, hS2, hS3⟩ := pr3 hp
  obtain ⟨b1, b2⟩ := hp.st
  obtain ⟨b3, b4⟩ := hp.why
  have hP := rpipe27_spec m hm hid p.n hp.n
  have hK := rchildren_spec m hm hpid p.pid hp.pid p.n hp.n
  have hU : kidN m.pr p.pid p.n ≤ 20000 ∧ deadN m.pr p.pid p.n ≤ 20000 := by
    have := hm.pr
    exact ⟨Nat.le_trans List.countP_le_length this, Nat.le_trans List.countP_le_length this⟩
  have hEU : ∀ q id, endsN m.pr q id ≤ 160000 := fun q id => by
    have := endsN_le q id m.pr fun p hp => (hm.prR p hp).fds
    have := hm.pr
    omega
  obtain ⟨R, hR⟩ : ∃ R, R = couldM m p := ⟨_, rfl⟩
  rw [← hR]
  by_cases h2 : p.st = 2
  · unfold couldM at hR
    rw [if_neg (by omega), childB_count] at hR
    generalize kidN m.pr p.pid p.n = kn at hK hR hU
    generalize deadN m.pr p.pid p.n = dn at hK hR hU
    have hz : ∀ n : Nat, ((n : Int) == 0) = decide (n = 0) := fun n => by rw [Bool.eq_iff_iff]; simp
    have hbi : (m.inp != []) = decide (m.inp ≠ []) := by rw [Bool.eq_iff_iff]; simp
    generalize hdi : decide (m.inp ≠ []) = di at hbi hR
    cases hpo : pipeO m.pipes p.n with
    | none =>
      rw [hpo] at hP hR
      have hE := rends_spec m hm 0 ⟨by omega, by omega⟩
      simp only [pipeV] at hP
      dsimp only at hR
      refine spec_ok Try.func49 rfl rfl (by kernel_rfl) (k := 2) rfl (by decide) ?_
      cases di
      all_goals
        repeat' (first|(with_reducible first|refine yrl (by constructor) ?_|refine jk (fun M hM=>?_)|(refine hM _ ?_;clear hM M)|refine xb3 (by decide) ?_|refine yqa (by assumption) ?_ ?_|refine yqb (by assumption) ?_ ?_)|((with_reducible refine je ?_)<;>(first|rfl|assumption|(simp only [znl,znR5];(first|done|fail))))|(with_reducible refine jf (by (simp only [↓reduceIte,zlk,Nat.reduceEqDiff,reduceCtorEq]);exact rfl) ?_)|((with_reducible first|refine jg (fun hc=>?_) (fun hc=>?_)|refine jh (fun hc=>?_) (fun hc=>?_))<;>(try simp (disch:=omega) only [zhb] at hc)<;>(try (exfalso;omega))<;>(try subst hc))|(with_reducible refine ji (by omega) ?_)|(simp (config := { maxSteps := 400000 }) only [↓jt,↓reduceIte,zvs,reduceCtorEq,Nat.reduceEqDiff,Nat.reduceAdd,Nat.reduceLeDiff,Nat.reduceMul,Int.reduceBNe,Int.reduceBEq,Int.reduceEq,Int.reduceNe,Int.reduceLT,Int.reduceLE,Int.reduceGT,Int.reduceGE,Int.reduceNeg,Int.reduceToNat,Nat.reduceLT,Nat.reduceSub,tab,hS1,hS2,hS3,encPr,hbi,hz,Try.results49,jTA])|(simp (disch:=omega) only [ziw]))
        all_goals first
          | (exfalso; omega)
          | (rw [hR]; simp only [*]; simp only [zrds]; done)
          | (rw [hR]; simp only [*]; simp only [zrds]; rfl)
          | (simp only [zrds]; rw [hR]; simp [*]; done)
          | (simp only [zrds]; rw [hR]; simp [*, show ¬0 < dn by omega]; done)
          | (simp only [zrds]; rw [hR]; simp [*, show ¬x.d.length < 64 by omega]; done)
          | (simp only [zrds]; rw [hR]; simp [*]; omega)
    | some x =>
      rw [hpo] at hP hR
      obtain ⟨hxm, hxi⟩ := pipeO_mem hpo
      have hE := rends_spec m hm x.id (hm.pipesR x hxm).1
      have hE4 := hEU 4 x.id
      have hE5 := hEU 5 x.id
      have hxl := (hm.pipesR x hxm).2
      simp only [pipeV,encPi] at hP
      dsimp only at hR
      generalize endsN m.pr 4 x.id = f4 at hE hR hE4
      generalize endsN m.pr 5 x.id = f5 at hE hR hE5
      have hbx : (x.d != []) = decide (x.d ≠ []) := by rw [Bool.eq_iff_iff]; simp
      generalize hdx : decide (x.d ≠ []) = dx at hbx hR
      refine spec_ok Try.func49 rfl rfl (by kernel_rfl) (k := 2) rfl (by decide) ?_
      cases di <;> cases dx
      all_goals
        repeat' (first|(with_reducible first|refine yrl (by constructor) ?_|refine jk (fun M hM=>?_)|(refine hM _ ?_;clear hM M)|refine xb3 (by decide) ?_|refine yqa (by assumption) ?_ ?_|refine yqb (by assumption) ?_ ?_)|((with_reducible refine je ?_)<;>(first|rfl|assumption|(simp only [znl,znR5];(first|done|fail))))|(with_reducible refine jf (by (simp only [↓reduceIte,zlk,Nat.reduceEqDiff,reduceCtorEq]);exact rfl) ?_)|((with_reducible first|refine jg (fun hc=>?_) (fun hc=>?_)|refine jh (fun hc=>?_) (fun hc=>?_))<;>(try simp (disch:=omega) only [zhb] at hc)<;>(try (exfalso;omega))<;>(try subst hc))|(with_reducible refine ji (by omega) ?_)|(simp (config := { maxSteps := 400000 }) only [↓jt,↓reduceIte,zvs,reduceCtorEq,Nat.reduceEqDiff,Nat.reduceAdd,Nat.reduceLeDiff,Nat.reduceMul,Int.reduceBNe,Int.reduceBEq,Int.reduceEq,Int.reduceNe,Int.reduceLT,Int.reduceLE,Int.reduceGT,Int.reduceGE,Int.reduceNeg,Int.reduceToNat,Nat.reduceLT,Nat.reduceSub,tab,hS1,hS2,hS3,encPr,hbi,hbx,hz,Try.results49,jTA])|(simp (disch:=omega) only [ziw]))
        all_goals first
          | (exfalso; omega)
          | (rw [hR]; simp only [*]; simp only [zrds]; done)
          | (rw [hR]; simp only [*]; simp only [zrds]; rfl)
          | (simp only [zrds]; rw [hR]; simp [*]; done)
          | (simp only [zrds]; rw [hR]; simp [*, show ¬0 < dn by omega]; done)
          | (simp only [zrds]; rw [hR]; simp [*, show ¬x.d.length < 64 by omega]; done)
          | (simp only [zrds]; rw [hR]; simp [*]; omega)
  · have eR : R = false := by
      rw [hR]
      unfold couldM
      rw [if_pos h2]
    rw [eR]
    refine spec_ok Try.func49 rfl rfl (by kernel_rfl) (k := 2) rfl (by decide) ?_
    repeat' (first|(with_reducible first|refine yrl (by constructor) ?_|refine jk (fun M hM=>?_)|(refine hM _ ?_;clear hM M)|refine xb3 (by decide) ?_|refine yqa (by assumption) ?_ ?_|refine yqb (by assumption) ?_ ?_)|((with_reducible refine je ?_)<;>(first|rfl|assumption|(simp only [znl,znR5];(first|done|fail))))|(with_reducible refine jf (by (simp only [↓reduceIte,zlk,Nat.reduceEqDiff,reduceCtorEq]);exact rfl) ?_)|((with_reducible first|refine jg (fun hc=>?_) (fun hc=>?_)|refine jh (fun hc=>?_) (fun hc=>?_))<;>(try simp (disch:=omega) only [zhb] at hc)<;>(try (exfalso;omega))<;>(try subst hc))|(with_reducible refine ji (by omega) ?_)|(simp (config := { maxSteps := 400000 }) only [↓jt,↓reduceIte,zvs,reduceCtorEq,Nat.reduceEqDiff,Nat.reduceAdd,Nat.reduceLeDiff,Nat.reduceMul,Int.reduceBNe,Int.reduceBEq,Int.reduceEq,Int.reduceNe,Int.reduceLT,Int.reduceLE,Int.reduceGT,Int.reduceGE,Int.reduceNeg,Int.reduceToNat,Nat.reduceLT,Nat.reduceSub,tab,hS1,hS2,hS3,encPr,Try.results49,jTA])|(simp (disch:=omega) only [ziw]))
    all_goals first
      | (exfalso; omega)
      | (simp only [zrds]; done)
      | (simp only [zrds]; rfl)
theorem rCould_spec (m : Mach) (hm : MFit 20000 m) (hid : ∀ p ∈ m.pipes, 0 ≤ p.id) (hpid : ∀ p ∈ m.pr, 0 ≤ p.pid) (pid : Int) (hp : i64R pid) : Spec Try.prog 23 [encM m, .int .i64 pid] (.bool (CouldM m pid)) := by
  obtain ⟨R, hR⟩ : ∃ R, R = CouldM m pid := ⟨_, rfl⟩
  rw [← hR]
  unfold CouldM at hR
  have hl := hm.pr
  have hpR := hm.prR
  obtain ⟨hp1, hp2⟩ := hp
  refine spec_ok Try.func23 rfl rfl (by kernel_rfl) (k := 2) rfl (by decide) ?_
  repeat' (first|(with_reducible first|refine yrl (by constructor) ?_|refine jk (fun M hM=>?_)|(refine hM _ ?_;clear hM M)|refine xb3 (by decide) ?_|refine yqa (by assumption) ?_ ?_|refine yqb (by assumption) ?_ ?_)|((with_reducible refine je ?_)<;>(first|rfl|assumption|(simp only [znl,znR5];(first|done|fail))))|(with_reducible refine jf (by (simp only [↓reduceIte,zlk,Nat.reduceEqDiff,reduceCtorEq]);exact rfl) ?_)|((with_reducible first|refine jg (fun hc=>?_) (fun hc=>?_)|refine jh (fun hc=>?_) (fun hc=>?_))<;>(try simp (disch:=omega) only [zhb] at hc)<;>(try (exfalso;omega))<;>(try subst hc))|(with_reducible refine ji (by omega) ?_)|(simp (config := { maxSteps := 400000 }) only [↓jt,↓reduceIte,zvs,reduceCtorEq,Nat.reduceEqDiff,Nat.reduceAdd,Nat.reduceLeDiff,Nat.reduceMul,Int.reduceBNe,Int.reduceBEq,Int.reduceEq,Int.reduceNe,Int.reduceLT,Int.reduceLE,Int.reduceGT,Int.reduceGE,Int.reduceNeg,Int.reduceToNat,Nat.reduceLT,Nat.reduceSub,tab,Try.results23,jTA])|(simp (disch:=omega) only [ziw]))
  refine ok_loop (fun k : Nat => ⟨slots [(1, .int .i64 pid), (2, .ptr 0 []), (4, .bool false), (5, .int .i64 k)], rows [(0, .row machSh (encM m))], 1⟩) (fun k => k ≤ m.pr.length ∧ ∀ j, j < k → (m.pr.getD j default).pid ≠ pid) (fun k => m.pr.length - k) 0 ?_ ⟨Nat.zero_le _, fun j hj => by omega⟩ (fun k hk => ?_)
  · (refine yrn [(0, 0)] false ?_ ?_<;>(repeat' (first|(with_reducible first|exact ya1|exact ya2|exact ya3|refine jx rfl (by first|rfl|assumption|(simp only [znl,znR5];(first|done|fail)))|exact ya5|exact ya7|exact jy|exact jz|refine jA ?_|refine ya9 ?_ ?_ ?_|refine jC rfl (by first|rfl|assumption|(simp only [znl,znR5];(first|done|fail)))|refine MR.agg (MRL.cons ?_ ?_)|refine MR.fn ?_|refine MRL.cons ?_ ?_|exact MRL.nil|refine jE ?_ ?_|exact jF|exact jG|refine yb1 ?_ ?_|refine MB.row ?_|refine jI ?_ ?_|exact ya8|refine jJ rfl (by first|rfl|assumption|(simp only [znl,znR5];(first|done|fail)))|refine yb2 ?_|rfl)|(simp only [znl,znR5];(first|done|fail))|(simp only [↓reduceIte,zlk,Nat.reduceEqDiff,reduceCtorEq])|(with_reducible first|refine jJ ?_ ?_|refine ya5 ?_|refine ju ?_|refine jv ?_|refine jw ?_|refine jx ?_ (by first|rfl|assumption|(simp only [znl,znR5];(first|done|fail)))|refine jC ?_ (by first|rfl|assumption|(simp only [znl,znR5];(first|done|fail)))))))
    all_goals (first | rfl)
  obtain ⟨hk, hn⟩ := hk
  by_cases hlt : k < m.pr.length
  · have hb := hpR _ (getD_mem' hlt)
    obtain ⟨hS1, hS2, hS3⟩ := pr3 hb
    by_cases hq : (m.pr.getD k default).pid = pid
    · rw [find_hit hlt hn hq] at hR
      have hC := rcould_spec m hm hid hpid _ hb
      dsimp only at hR
      rw [← hR] at hC
      simp only [encPr] at hC
      repeat' (first|(with_reducible first|refine yrl (by constructor) ?_|refine jk (fun M hM=>?_)|(refine hM _ ?_;clear hM M)|refine xb3 (by decide) ?_|refine yqa (by assumption) ?_ ?_|refine yqb (by assumption) ?_ ?_)|((with_reducible refine je ?_)<;>(first|rfl|assumption|(simp only [znl,znR5];(first|done|fail))))|(with_reducible refine jf (by (simp only [↓reduceIte,zlk,Nat.reduceEqDiff,reduceCtorEq]);exact rfl) ?_)|((with_reducible first|refine jg (fun hc=>?_) (fun hc=>?_)|refine jh (fun hc=>?_) (fun hc=>?_))<;>(try simp (disch:=omega) only [zhb] at hc)<;>(try (exfalso;omega))<;>(try subst hc))|(with_reducible refine ji (by omega) ?_)|(simp (config := { maxSteps := 400000 }) only [↓jt,↓reduceIte,zvs,reduceCtorEq,Nat.reduceEqDiff,Nat.reduceAdd,Nat.reduceLeDiff,Nat.reduceMul,Int.reduceBNe,Int.reduceBEq,Int.reduceEq,Int.reduceNe,Int.reduceLT,Int.reduceLE,Int.reduceGT,Int.reduceGE,Int.reduceNeg,Int.reduceToNat,Nat.reduceLT,Nat.reduceSub,tab,hS1,hS2,hS3,encPr,Try.results23,jTA])|(simp (disch:=omega) only [ziw]))
      all_goals (try (exfalso; omega))
      refine ok_drawC 6 (by kernel_rfl) (by decide +kernel) (by intro m hm; simp only [upd_ap,rows_cons,rows_nil]; (repeat (first | rfl | rw [if_neg (by omega)]))) (fun M hM => ?_); simp only [List.take_succ_cons,List.take_zero,List.drop_succ_cons,List.drop_zero]
      repeat' (first|(with_reducible first|refine yrl (by constructor) ?_|refine jk (fun M hM=>?_)|(refine hM _ ?_;clear hM M)|refine xb3 (by decide) ?_|refine yqa (by assumption) ?_ ?_|refine yqb (by assumption) ?_ ?_)|((with_reducible refine je ?_)<;>(first|rfl|assumption|(simp only [znl,znR5];(first|done|fail))))|(with_reducible refine jf (by (simp only [↓reduceIte,zlk,Nat.reduceEqDiff,reduceCtorEq]);exact rfl) ?_)|((with_reducible first|refine jg (fun hc=>?_) (fun hc=>?_)|refine jh (fun hc=>?_) (fun hc=>?_))<;>(try simp (disch:=omega) only [zhb] at hc)<;>(try (exfalso;omega))<;>(try subst hc))|(with_reducible refine ji (by omega) ?_)|(simp (config := { maxSteps := 400000 }) only [↓jt,↓reduceIte,zvs,reduceCtorEq,Nat.reduceEqDiff,Nat.reduceAdd,Nat.reduceLeDiff,Nat.reduceMul,Int.reduceBNe,Int.reduceBEq,Int.reduceEq,Int.reduceNe,Int.reduceLT,Int.reduceLE,Int.reduceGT,Int.reduceGE,Int.reduceNeg,Int.reduceToNat,Nat.reduceLT,Nat.reduceSub,tab,hS1,hS2,hS3,encPr,Try.results23,jTA])|(simp (disch:=omega) only [ziw]))
      all_goals first
        | (exfalso; omega)
        | (simp only [zrds]; done)
    · repeat' (first|(with_reducible first|refine yrl (by constructor) ?_|refine jk (fun M hM=>?_)|(refine hM _ ?_;clear hM M)|refine xb3 (by decide) ?_|refine yqa (by assumption) ?_ ?_|refine yqb (by assumption) ?_ ?_)|((with_reducible refine je ?_)<;>(first|rfl|assumption|(simp only [znl,znR5];(first|done|fail))))|(with_reducible refine jf (by (simp only [↓reduceIte,zlk,Nat.reduceEqDiff,reduceCtorEq]);exact rfl) ?_)|((with_reducible first|refine jg (fun hc=>?_) (fun hc=>?_)|refine jh (fun hc=>?_) (fun hc=>?_))<;>(try simp (disch:=omega) only [zhb] at hc)<;>(try (exfalso;omega))<;>(try subst hc))|(with_reducible refine ji (by omega) ?_)|(simp (config := { maxSteps := 400000 }) only [↓jt,↓reduceIte,zvs,reduceCtorEq,Nat.reduceEqDiff,Nat.reduceAdd,Nat.reduceLeDiff,Nat.reduceMul,Int.reduceBNe,Int.reduceBEq,Int.reduceEq,Int.reduceNe,Int.reduceLT,Int.reduceLE,Int.reduceGT,Int.reduceGE,Int.reduceNeg,Int.reduceToNat,Nat.reduceLT,Nat.reduceSub,tab,hS1,hS2,hS3,encPr,Try.results23,jTA])|(simp (disch:=omega) only [ziw]))
      all_goals first
        | (exfalso; omega)
        | (refine xl1 (k + 1) ?_ ⟨by omega, fun j hj => ?_⟩ (by show m.pr.length - (k + 1) < m.pr.length - k; omega) <;> first | (by_cases e : j = k; (rw [e]; exact hq); exact hn j (by omega)) | ((refine yrn [(0, 0)] false ?_ ?_<;>(repeat' (first|(with_reducible first|exact ya1|exact ya2|exact ya3|refine jx rfl (by first|rfl|assumption|(simp only [znl,znR5];(first|done|fail)))|exact ya5|exact ya7|exact jy|exact jz|refine jA ?_|refine ya9 ?_ ?_ ?_|refine jC rfl (by first|rfl|assumption|(simp only [znl,znR5];(first|done|fail)))|refine MR.agg (MRL.cons ?_ ?_)|refine MR.fn ?_|refine MRL.cons ?_ ?_|exact MRL.nil|refine jE ?_ ?_|exact jF|exact jG|refine yb1 ?_ ?_|refine MB.row ?_|refine jI ?_ ?_|exact ya8|refine jJ rfl (by first|rfl|assumption|(simp only [znl,znR5];(first|done|fail)))|refine yb2 ?_|rfl)|(simp only [znl,znR5];(first|done|fail))|(simp only [↓reduceIte,zlk,Nat.reduceEqDiff,reduceCtorEq])|(with_reducible first|refine jJ ?_ ?_|refine ya5 ?_|refine ju ?_|refine jv ?_|refine jw ?_|refine jx ?_ (by first|rfl|assumption|(simp only [znl,znR5];(first|done|fail)))|refine jC ?_ (by first|rfl|assumption|(simp only [znl,znR5];(first|done|fail))))))); done))
  · obtain rfl : k = m.pr.length := by omega
    rw [find_miss hn] at hR
    dsimp only at hR
    rw [hR]
    repeat' (first|(with_reducible first|refine yrl (by constructor) ?_|refine jk (fun M hM=>?_)|(refine hM _ ?_;clear hM M)|refine xb3 (by decide) ?_|refine yqa (by assumption) ?_ ?_|refine yqb (by assumption) ?_ ?_)|((with_reducible refine je ?_)<;>(first|rfl|assumption|(simp only [znl,znR5];(first|done|fail))))|(with_reducible refine jf (by (simp only [↓reduceIte,zlk,Nat.reduceEqDiff,reduceCtorEq]);exact rfl) ?_)|((with_reducible first|refine jg (fun hc=>?_) (fun hc=>?_)|refine jh (fun hc=>?_) (fun hc=>?_))<;>(try simp (disch:=omega) only [zhb] at hc)<;>(try (exfalso;omega))<;>(try subst hc))|(with_reducible refine ji (by omega) ?_)|(simp (config := { maxSteps := 400000 }) only [↓jt,↓reduceIte,zvs,reduceCtorEq,Nat.reduceEqDiff,Nat.reduceAdd,Nat.reduceLeDiff,Nat.reduceMul,Int.reduceBNe,Int.reduceBEq,Int.reduceEq,Int.reduceNe,Int.reduceLT,Int.reduceLE,Int.reduceGT,Int.reduceGE,Int.reduceNeg,Int.reduceToNat,Nat.reduceLT,Nat.reduceSub,tab,Try.results23,jTA])|(simp (disch:=omega) only [ziw]))
    all_goals first
      | (exfalso; omega)
      | (simp only [zrds]; done)
end Go.Proofs.Ytginpdejpibdjaa.V
end
