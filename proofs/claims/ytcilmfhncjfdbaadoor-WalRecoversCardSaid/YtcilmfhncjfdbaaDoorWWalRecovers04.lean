/-
  Parts of the proof of WalRecovers: Vregion, Vstep, Vok, Vtab, Vlib, Vset, M1.
  Conditions: none.
-/
import Derived.Test.YtcilmfhncjfdbaaDoorWWalRecovers03
import Derived.Still
import Derived.Test.YtcilmfhncjfdbaaDoorProg
import Derived.IntWalk
section
/-
  A MACHINE OF VALUES, SIXTEENTH PART: a region whose order is drawn: first operations that may come up in any order, then such as come up one behind the other.
-/
set_option linter.unusedVariables false
set_option linter.unusedSectionVars false
set_option linter.unusedSimpArgs false
namespace Go.Proofs.YtcilmfhncjfdbaaDoor.V
open Go Go.RowKit Go.MapKept

def isBS : Op → Bool
  | .buildSlice _ _ _ => true
  | _ => false
section
variable {P : Program} {Z : Nat → Nat → Prop} [Zone Z] {B : Nat} {ρ : Names} {w : World} {H : Heap} {n : Nat} {tm : Nat → VV} {a : Act} {K : VV → Heap → Nat → Prop} {o : Oper}
theorem buildSliceD_sound (hT : TM ρ w tm a) (hh : HR Z B ρ H n w) (t : TypeId) (len : Nat) (parts : Array (Nat × Operand)) (ho : o.op = .buildSlice t len parts) (h : vBuildSliceD P (ev tm) H n K t len parts.toList) : Runs P Z B K ρ w (execOp a.eval o) := by
  unfold vBuildSliceD at h
  replace h := bnd_iff.1 h
  obtain ⟨et, het, h⟩ := h
  replace h := bnd_iff.1 h
  obtain ⟨s, hs, h⟩ := h
  replace h := bnd_iff.1 h
  obtain ⟨z, hz, ⟨hp, hlim, hs0⟩, h⟩ := h
  obtain ⟨s', zv, i, hs', hi, hzv, hH, hsz, hV⟩ := ZE_spec hz
  rw [hs] at hs'
  injection hs' with hs'
  subst hs'
  have hul := EL_spec het
  obtain ⟨i', d, hi', hu, hisz, hrow⟩ := shOf_spec hs
  rw [hi] at hi'
  injection hi' with hi'
  subst hi'
  have hcells : ((Array.range (len * i.size)).map (fun j => zv.cells[j % zv.cells.size]!)).toList = (List.replicate len zv.cells.toList).flatten := by
    rw [hisz, ← hsz]; exact zeros_flat zv.cells len
  have hz0 := CR.zeros (hV ρ w).2 len
  rw [← hcells] at hz0
  obtain ⟨cells', f1, f2, f3⟩ := fill_parts hT (fun j => some (j * i.size, i.size)) (fun j => if j < len then some s else none) (.arr len s) (by simp) (fun j s' hj => by
      split at hj
      · injection hj with hj
        subst hj
        exact ⟨by simp [Sh.at], by simp [hisz, Sh.off]⟩
      · cases hj) (fun vs hvs j s' hj => by
      simp only [Has] at hvs
      split at hj
      · omega
      · cases hj) parts.toList (List.replicate len z) _ (by simp only [Has]; exact ⟨by simp, fun v hv => by rw [List.eq_of_mem_replicate hv]; exact hH⟩) hz0 hp
  have hot := Below.heap_alloc w (.cells cells' et)
  have hsz2 : (w.alloc (.cells cells' et)).heap.size = w.heap.size + 1 := by simp
  have hnew : (w.alloc (.cells cells' et)).heap[w.heap.size]? = some (.cells cells' et) := by
    show (w.heap.push _)[w.heap.size]? = _
    simp
  obtain ⟨g1, g2⟩ := hh.wide (w' := w.alloc (.cells cells' et)) (by omega) hot
  refine .inl ⟨.slice (some ⟨w.heap.size, 0, none⟩) len len, _, ?_, _, _, _, _, h, ?_, g1, g2, (Below.refl _ _).alloc hh.base _⟩
  · rw [← map_parts parts] at f1
    have hlim' : ¬ (len * i.size > 2 ^ 24) := by rw [hisz]; omega
    simp only [execOp,ho,Instr.buildSlice,Sem.run_bind,run_underlying hul w,Result.andThen_ok,sizeOf,typeInfo,run_program,hi,Sem.run_pure]
    rw [if_neg hlim']
    by_cases h0 : len * i.size = 0
    · have hl0 : len = 0 := by
        rcases Nat.mul_eq_zero.1 h0 with h0 | h0
        · exact h0
        · omega
      subst hl0
      have hr : ∀ f : Nat → Value, (Array.range 0).map f = #[] := fun f => by apply Array.ext'; simp
      simp only [Nat.zero_mul,hr] at f1
      simp only [Nat.zero_mul,if_true,Sem.run_bind,Sem.run_pure,Result.andThen_ok,hr]
      rw [f1]
      simp only [newRow,Sem.run_bind,Sem.run_pure,run_newObj,Result.andThen_ok]
      rfl
    · rw [if_neg h0]
      simp only [Sem.run_bind,zeroValue,typeInfo,run_program,hi,hzv,Sem.run_pure,Result.andThen_ok]
      rw [f1]
      simp only [newRow,Sem.run_bind,Sem.run_pure,run_newObj,Result.andThen_ok]
      rfl
  · simp only [Has] at f2
    simp only [VR,VR1,C1]
    refine ⟨some ⟨w.heap.size, 0, none⟩, len, by rw [f2.1], by rw [f2.1]; exact Nat.le_refl _, fun _ => ⟨w.heap.size, 0, cells'.toList, rfl, CR.ext g2 _ _ f3, f2.2, fun j x hx => ?_, ⟨.inr (Nat.le_refl _), fun m l hm e => by have := (hh.lt m l hm).2; omega⟩, by omega⟩⟩
    unfold World.cell?
    simp only [hnew]
    simpa using hx
theorem buildSliceF_sound (hh : HR Z B ρ H n w) (t : TypeId) (len : Nat) (parts : Array (Nat × Operand)) (ho : o.op = .buildSlice t len parts) (h0 : len = 0)
    (h : bnd (EL P t) fun et => bnd (SH P et) fun s => bnd (ZE P et) fun z => cnd (parts.toList = [] ∧ s.size ≠ 0) (K (.sl (some (n + 1099511627776, [], 0)) 0) H n)) : Runs P Z B K ρ w (execOp a.eval o) := by
  subst h0
  obtain ⟨et, het, h⟩ := bnd_iff.1 h
  obtain ⟨s, hs, h⟩ := bnd_iff.1 h
  obtain ⟨z, hz, ⟨hp, hs0⟩, hK⟩ := bnd_iff.1 h
  obtain ⟨s', zv, i, hs', hi, hzv, hH, hsz, hV⟩ := ZE_spec hz
  have hul := EL_spec het
  have hpe : parts = #[] := by apply Array.ext'; simpa using hp
  subst hpe
  have hr : ∀ f : Nat → Value, (Array.range 0).map f = #[] := fun f => by apply Array.ext'; simp
  have ha := heap_alloc w (.cells #[] et)
  have hsz' : (w.alloc (.cells #[] et)).heap.size = w.heap.size + 1 := by simp
  refine .inl ⟨.slice (some ⟨w.heap.size, 0, none⟩) 0 0, w.alloc (.cells #[] et), ?_, _, _, _, ρ, hK, ?_, hh.kept (by omega) ha.2, ⟨fun _ _ h => h, by omega, fun b hb _ => ha.2 b hb, fun _ _ h => .inl h, fun _ h => h, fun _ h => .inl h⟩, (Below.refl B w).alloc hh.base _⟩
  · simp only [execOp,ho,Instr.buildSlice,Sem.run_bind,run_underlying hul w,Result.andThen_ok,sizeOf,typeInfo,run_program,hi,Sem.run_pure]
    rw [if_neg (by simp)]
    simp only [Nat.zero_mul,if_true,Sem.run_bind,Sem.run_pure,Result.andThen_ok,hr,newRow,run_newObj,Array.foldlM_empty,List.foldlM_toArray,List.foldlM_nil,Array.foldl_empty]
    first | rfl | (simp [newRow]; rfl) | simp [newRow]
  · simp only [VR,VR1,C1]
    exact .inl ⟨trivial, _, rfl⟩
theorem appendF_sound (hT : TM ρ w tm a) (hh : HR Z B ρ H n w) (hG : Gives Z n K) (s x : Operand) (ts : Array TypeId) (hts : ts.size = 2) (ho : o.op = .call { callee := .builtin .append, args := #[s, x], argTypes := ts }) (A : Option Addr) (hp : a.eval s = .slice A 0 0) (h : vAppendF P (ev tm) H n K ts x) : Runs P Z B K ρ w (execOp a.eval o) := by
  unfold vAppendF at h
  obtain ⟨t, ht0, h⟩ := bnd_iff.1 h
  obtain ⟨tx, ht1, h⟩ := bnd_iff.1 h
  obtain ⟨et, het, h⟩ := bnd_iff.1 h
  obtain ⟨se, hse, h⟩ := bnd_iff.1 h
  obtain ⟨z, hz, h⟩ := bnd_iff.1 h
  obtain ⟨u, hu, hS⟩ := bnd_iff.1 h
  have hts' : ts = #[t, tx] := by
    obtain ⟨l⟩ := ts
    match l, hts with
    | [p, q], _ => simp at ht0 ht1; rw [ht0, ht1]
  subst hts'
  obtain ⟨news, m2, ncs, h, hsn, hcn, hsrc, hnl, _⟩ := src_sound hh hT hu _ hS
  obtain ⟨⟨hb1, hb2⟩, hk⟩ := h
  obtain ⟨s', zv, inf, hs', hi, hzv, hH, hsz, hV⟩ := ZE_spec hz
  rw [hse] at hs'
  injection hs' with hs'
  subst hs'
  have hul := EL_spec het
  obtain ⟨inf', d, hi', hud, hisz, hrow⟩ := shOf_spec hse
  rw [hi] at hi'
  injection hi' with hi'
  subst hi'
  have hbyv : BY P et = inf.bytes := by simp [BY, hi]
  rw [hbyv] at hb1
  rw [← hisz] at hsrc
  have run : ∀ (v : Value) (w' : World), (Builtin.append_ #[t, tx] o.type #[a.eval s, a.eval x]).run P w = .ok v w' → (execOp a.eval o).run P w = .ok (.value v) w' := by
    intro v w' hr
    simp [execOp, ho, resolve, invoke, builtin, hr]
  by_cases h0 : news.length = 0
  · have : news = [] := List.eq_nil_of_length_eq_zero h0
    subst this
    have hnc : ncs = [] := List.eq_nil_of_length_eq_zero (by simpa using hnl)
    subst hnc
    have hr := run_append_nothing (P := P) w t tx o.type et inf hul hi A 0 0 (Nat.le_refl _) (a.eval x) (by simpa using hsrc)
    rw [← hp] at hr
    exact .inl ⟨_, w, run _ _ hr, _, _, _, ρ, hk, by rw [hp]; exact VR_nil A, (hh.ghost (hh.fresh n (Zone.free n (hG.one hk))) _).more (Nat.le_succ _), Ext.refl _ _, Below.refl _ _⟩
  · have hold : (Builtin.firstCells inf.size 0 (.slice A 0 0)).run P w.drew = .ok ([] : List Value).toArray w.drew := by
      cases A with
      | none => exact run_firstCells_none _ _ _ _ _
      | some ad => exact run_firstCells_some _ _ _ ad 0 0 [] (by simp) (by simp)
    have hr := run_append_grow_src (P := P) w t tx o.type et inf zv hul hi hzv A 0 0 [] hold (a.eval x) news.length ncs hsrc (by omega) (by omega) (growslice_fits (by omega) (by simpa using hb1))
    rw [← hp] at hr
    have hg := grown_good (K := K) (olds := []) (ocs := []) (et := et) (zc := zv.cells) (c := grownCap w (0 + news.length) 0 et) hh (hG.one hk) (by simp only [CR]) (by simp) hcn hsn hsz (by
      have := grownCap_ge w (0 + news.length) 0 et
      simpa using this) (by simpa using hk)
    exact .inl ⟨_, _, run _ _ hr, hg⟩
theorem vopH_sound (hT : TM ρ w tm a) (hh : HR Z B ρ H n w) (hG : Gives Z n K) (hfar : ∀ m, n + 549755813888 ≤ m → ρ m = none) (h : vopH P (ev tm) H n K o) : Runs P Z B K ρ w (execOp a.eval o) := by
  by_cases hc : ∃ f xs ts, o.op = .call { callee := .value f, args := xs, argTypes := ts }
  · obtain ⟨f, xs, ts, ho⟩ := hc
    unfold vopH at h
    rw [ho] at h
    dsimp only at h
    unfold vCallH onV at h
    dsimp only at h
    have hf := ev_sound hT f
    split at h
    · rename_i g caps e
      rw [e] at hf
      obtain ⟨cs, hp, hcv⟩ := hf.fn
      obtain ⟨hc, h⟩ := h
      refine .inr (.inr ⟨g, (xs.map a.eval) ++ cs, ?_, ?_⟩)
      · unfold callable at hc
        split at hc
        · rename_i fn hfn
          simp only [Bool.and_eq_true,bne_iff_ne,ne_eq] at hc
          obtain ⟨b, hb⟩ := Option.isSome_iff_exists.1 hc.2
          simp [execOp, ho, resolve, hp, Deferred.ofValue, invoke, callFunc, hfn, hc.1, hb]
        · cases hc
      · have hA : VRA ρ w (xs.toList.map (ev tm) ++ caps) ((xs.map a.eval).toList ++ cs.toList) := VRA_append _ _ _ _ (by have := VRA_map hT xs.toList; simpa using this) (VRA_caps _ _ hcv)
        have e : ((xs.map a.eval).toList ++ cs.toList).toArray = xs.map a.eval ++ cs := by
          apply Array.ext'
          simp
        rw [← e]
        rcases h with ⟨r, ⟨ds, h1, h2, h3⟩, hk⟩ | ⟨es, ⟨h1, h2, h3, h4⟩, hk⟩
        · rcases h3 with ⟨h4, h5⟩ | ⟨h4, h5⟩
          · refine (h1 _ w _ hh.tabsT (VRA.data hh _ ds _ h4 h2 hA)).mono fun e w' ⟨x, he, hb, hv⟩ => ⟨x, he, ?_⟩
            obtain ⟨g1, g2⟩ := hh.wide hb.size hb.block
            exact ⟨r, H, n, _, hk, VR.plain h5 hv, g1, g2, hb.mono hh.base⟩
          · subst h4
            refine (h1 _ w _ hh.tabsU (VRA.bare _ _ h5 h2 hA)).mono fun e w' ⟨x, he, hb, hv⟩ => ⟨x, he, ?_⟩
            obtain ⟨g1, g2⟩ := hh.wide hb.size hb.block
            refine ⟨r, H, n, _, hk, VR.mono (fun m l hm => by cases hm) (fun b hlt hu => ?_) hv, g1, g2, hb.mono hh.base⟩
            obtain ⟨q3, _⟩ := hu
            rcases q3 with q3 | q3
            · exact ⟨.inl q3.1, q3.2⟩
            · exact ⟨.inr q3, fun m l hm e => by have := (hh.lt m l hm).2; omega⟩
        · refine (h1 _ w _ hh.tabsU (VRA.bare _ _ h4 h3 hA)).mono fun e w' ⟨b, he, hb, hb1, hb2, hmap⟩ => ⟨_, he, ?_⟩
          have hZ := hG.one hk
          obtain ⟨ys, clock, m1, m2⟩ := hmap.obj
          have g1 := hh.newMap (w' := w') hZ ⟨b, 0, 0, .cell⟩ hb1 hb2 hb.size hb.block ⟨⟨ys, clock, m1, ME_fn _ _ h2 m2⟩, hmap.born⟩
          refine ⟨_, _, _, _, hk, ?_, g1, ext_new (hh.fresh n (Zone.free n hZ)) _ hb.size (fun c hc' _ => hb.block c hc') (.inl hb1), hb.mono hh.base⟩
          simp only [VR,VR1,C1]
          exact ⟨_, by rw [give_ap, if_pos rfl], rfl⟩
    · exact h.elim
  by_cases hbs : ∃ t len parts, o.op = .buildSlice t len parts
  · obtain ⟨t, len, parts, ho⟩ := hbs
    unfold vopH at h
    rw [ho] at h
    dsimp only at h
    unfold vBuildSliceH at h
    split at h
    · rename_i h0
      exact buildSliceF_sound hh t len parts ho h0 h
    · rcases h with h | h
      · refine vop_soundZ (fun f xs ts e => hc ⟨f, xs, ts, e⟩) hT hh hG ?_
        unfold vop
        rw [ho]
        exact h
      · exact buildSliceD_sound hT hh t len parts ho h
  by_cases hap : ∃ s x ts, o.op = .call { callee := .builtin .append, args := #[s, x], argTypes := ts } ∧ (∃ m, ev tm s = .sl (some (m, [], 0)) 0)
  · obtain ⟨s, x, ts, ho, m, es⟩ := hap
    unfold vopH at h
    rw [ho] at h
    obtain ⟨hts, h⟩ : ts.size = 2 ∧ vAppendH P (ev tm) H n K ts s x := h
    unfold vAppendH onV at h
    rw [es] at h
    obtain ⟨hm, h⟩ := h
    have hs := ev_sound hT s
    rw [es] at hs
    rcases hs.sl with ⟨_, A, hp⟩ | ⟨l, cap, e', j', hl, _⟩
    · exact appendF_sound hT hh hG s x ts hts ho A hp h
    · rw [hfar m hm] at hl; cases hl
  · refine vop_soundZ (fun f xs ts e => hc ⟨f, xs, ts, e⟩) hT hh hG ?_
    have hbs2 : isBS o.op = false := by
      cases hb : isBS o.op with
      | false => rfl
      | true =>
        cases he : o.op <;> rw [he] at hb <;> first | (cases hb; done) | exact absurd ⟨_, _, _, he⟩ hbs
    unfold vopH at h
    unfold vop
    split at h
    all_goals first
      | exact h.elim
      | (rename_i ho; rw [ho] at hbs2; simp [isBS] at hbs2; done)
      | (rename_i ho; rw [ho]; exact h)
      | (rename_i ho; rw [ho]; exact vBinH_X h)
      | skip
    rename_i c ho
    rw [ho]
    obtain ⟨cal, xs, ts⟩ := c
    cases cal with
    | value f => exact absurd ⟨f, xs, ts, ho⟩ hc
    | invoke r m => exact h.elim
    | builtin b =>
      dsimp only at h ⊢
      unfold vBuiltin
      split at h
      · rename_i hx; rw [hx]; exact vLenM_of h
      · rename_i hx
        rw [hx]
        obtain ⟨h0, h⟩ := h
        unfold vAppendH onV at h
        dsimp only at h
        split at h
        · exact ⟨h0, h⟩
        · rename_i m es
          exact absurd ⟨_, _, _, by rw [ho]; congr 1; congr 1; apply Array.ext'; exact hx, m, es⟩ hap
        · exact h.elim
      · rename_i hx; rw [hx]; exact h
      · rename_i hx; rw [hx]; exact h
      · exact h.elim
end

def vheld (P : Program) (ops : List Oper) : List Oper → (Nat → VV) → Heap → Nat → ((Nat → VV) → Heap → Nat → Prop) → Prop
  | [], tm, H, n, K => K tm H n
  | o :: l, tm, H, n, K => match o.guard with
    | none => vopH P (ev tm) H n (fun v H' n' => cnd (n' ≤ n + 64) (vheld P ops l (put o.dst v tm) H' (n + 64) K)) o
    | some (g, want) => bnd (dstAt ops g) fun d => onV (tm d) fun v => match v with
      | .bool b => vif (b == want) (vopH P (ev (upd tm d (.bool want))) H n (fun v H' n' => cnd (n' ≤ n + 64) (vheld P ops l (put o.dst v (upd tm d (.bool want))) H' (n + 64) K)) o)
          (vheld P ops l (put o.dst (.raw undef) (upd tm d (.bool (!want)))) H (n + 64) K)
      | .raw u => cnd (u = undef) (vheld P ops l (put o.dst (.raw undef) tm) H (n + 64) K)
      | _ => False
def Does (P : Program) (tmF : Nat → VV) (G : Heap) (n : Nat) (o : Oper) : Prop :=
  ∃ v n', (∀ t, o.dst = some t → tmF t = v) ∧ n ≤ n' ∧ n' ≤ n + 64 ∧ ∀ e' K', (∀ x ∈ o.op.operands.toList, e' x = ev tmF x) → K' v G n' → vopH P e' G n K' o
def Fact (P : Program) (ops : List Oper) (tmF : Nat → VV) (G : Heap) (n : Nat) (o : Oper) : Prop :=
  (o.guard = none ∧ Does P tmF G n o) ∨ ∃ g want d, o.guard = some (g, want) ∧ dstAt ops g = some d ∧
    ((tmF d = .bool want ∧ Does P tmF G n o) ∨ ((tmF d = .bool (!want) ∨ tmF d = .raw undef) ∧ ∀ t, o.dst = some t → tmF t = .raw undef))
def Facts (P : Program) (ops : List Oper) (tmF : Nat → VV) (G : Heap) : Nat → List Oper → Prop
  | _, [] => True
  | n, o :: l => Fact P ops tmF G n o ∧ Facts P ops tmF G (n + 64) l
def wfL (ops : Array Oper) : List Oper → Bool
  | [] => true
  | o :: l => (match o.dst with | some d => l.all fun o' => o'.dst != some d | none => true) && ((o.looksAt ops).all fun t => (o :: l).all fun o' => o'.dst != some t) && wfL ops l
theorem looks_operand {ops : Array Oper} {o : Oper} {t : Nat} (h : Operand.tmp t ∈ o.op.operands.toList) : t ∈ o.looksAt ops := by
  unfold Oper.looksAt
  simp only [List.mem_append,List.mem_filterMap]
  exact .inl ⟨_, h, rfl⟩
theorem looks_guard {ops : Array Oper} {o : Oper} {g d : Nat} {want : Bool} (hg : o.guard = some (g, want)) (h : dstAt ops.toList g = some d) : d ∈ o.looksAt ops := by
  unfold Oper.looksAt
  rw [hg]
  rw [dstAt_eq, Array.getElem?_toList] at h
  simp only [List.mem_append]
  right
  rw [h]
  simp
theorem upd_same {tm : Nat → VV} {d : Nat} {v : VV} (h : tm d = v) : upd tm d v = tm := by
  funext t
  rw [upd_ap]
  split
  · rename_i e; rw [e, h]
  · rfl
theorem held_facts {P : Program} {ops : Array Oper} {K : (Nat → VV) → Heap → Nat → Prop} : ∀ (l : List Oper) (tm : Nat → VV) (H : Heap) (n : Nat), wfL ops l = true → (∀ m, n ≤ m → H m = none) → vheld P ops.toList l tm H n K →
    ∃ tmF G, K tmF G (n + 64 * l.length) ∧ (∀ t, (∀ o ∈ l, o.dst ≠ some t) → tmF t = tm t) ∧ ((∀ m b, H m = some b → G m = some b) ∧ ∀ m, m < n → G m = H m) ∧ Facts P ops.toList tmF G n l
  | [], tm, H, n, _, _, h => ⟨tm, H, h, fun _ _ => rfl, ⟨fun _ _ h => h, fun _ _ => rfl⟩, trivial⟩
  | o :: l, tm, H, n, hw, hn, h => by
    simp only [wfL,Bool.and_eq_true] at hw
    obtain ⟨⟨hw1, hw2⟩, hw3⟩ := hw
    have hd : ∀ d, o.dst = some d → ∀ o' ∈ l, o'.dst ≠ some d := fun d hd o' ho' => by
      rw [hd] at hw1
      simpa using (List.all_eq_true.1 hw1) o' ho'
    have hl : ∀ t ∈ o.looksAt ops, ∀ o' ∈ o :: l, o'.dst ≠ some t := fun t ht o' ho' => by
      simpa using (List.all_eq_true.1 ((List.all_eq_true.1 hw2) t ht)) o' ho'
    have hput : ∀ (tm' : Nat → VV) (v : VV) (t : Nat), o.dst ≠ some t → put o.dst v tm' t = tm' t := by
      intro tm' v t ht
      cases hod : o.dst with
      | none => rfl
      | some d => simp only [put,upd_ap]; rw [if_neg (by intro e; rw [e] at ht; exact ht hod)]
    have done : ∀ (tm' : Nat → VV), (∀ t, tm' t = tm t) → vopH P (ev tm') H n (fun v H' n' => cnd (n' ≤ n + 64) (vheld P ops.toList l (put o.dst v tm') H' (n + 64) K)) o →
        ∃ tmF G, K tmF G (n + 64 * (l.length + 1)) ∧ (∀ t, (∀ o' ∈ o :: l, o'.dst ≠ some t) → tmF t = tm t) ∧ ((∀ m b, H m = some b → G m = some b) ∧ ∀ m, m < n → G m = H m) ∧ Does P tmF G n o ∧ Facts P ops.toList tmF G (n + 64) l := by
      intro tm' htm h
      obtain ⟨v, H', n', ⟨hn', hk⟩, s1, s2, s3, s4⟩ := vopH_stable (hn n (Nat.le_refl _)) h
      obtain ⟨tmF, G, k1, k2, k3, k4⟩ := held_facts l (put o.dst v tm') H' (n + 64) hw3 (fun m hm => by rw [s3 m (.inr (by omega))]; exact hn m (by omega)) hk
      refine ⟨tmF, G, by rw [show n + 64 * (l.length + 1) = n + 64 + 64 * l.length by omega]; exact k1, fun t ht => ?_, ⟨fun m b hm => k3.1 m b (s2 m b hm), fun m hm => by rw [k3.2 m (by omega), s3 m (.inl hm)]⟩, ⟨v, n', fun t ht => ?_, s1, hn', fun e' K' he hK => s4 e' G K' (fun x hx => ?_) k3.1 hK⟩, k4⟩
      · rw [k2 t (fun o' ho' => ht o' (by simp [ho'])), hput tm' v t (ht o (by simp)), htm]
      · rw [k2 t (hd t ht), ht]
        simp [put, upd_ap]
      · rw [he x hx]
        cases x with
        | tmp t =>
          have := looks_operand (ops := ops) hx
          show tmF t = tm' t
          rw [k2 t (fun o' ho' => hl t this o' (by simp [ho'])), hput tm' v t (hl t this o (by simp))]
        | _ => rfl
    have skip : ∀ (tm' : Nat → VV), (∀ t, tm' t = tm t) → vheld P ops.toList l (put o.dst (.raw undef) tm') H (n + 64) K →
        ∃ tmF G, K tmF G (n + 64 * (l.length + 1)) ∧ (∀ t, (∀ o' ∈ o :: l, o'.dst ≠ some t) → tmF t = tm t) ∧ ((∀ m b, H m = some b → G m = some b) ∧ ∀ m, m < n → G m = H m) ∧ (∀ t, o.dst = some t → tmF t = .raw undef) ∧ Facts P ops.toList tmF G (n + 64) l := by
      intro tm' htm h
      obtain ⟨tmF, G, k1, k2, k3, k4⟩ := held_facts l _ H (n + 64) hw3 (fun m hm => hn m (by omega)) h
      refine ⟨tmF, G, by rw [show n + 64 * (l.length + 1) = n + 64 + 64 * l.length by omega]; exact k1, fun t ht => ?_, ⟨k3.1, fun m hm => k3.2 m (by omega)⟩, fun t ht => ?_, k4⟩
      · rw [k2 t (fun o' ho' => ht o' (by simp [ho'])), hput tm' _ t (ht o (by simp)), htm]
      · rw [k2 t (hd t ht), ht]
        simp [put, upd_ap]
    simp only [vheld] at h
    split at h
    · rename_i hg
      obtain ⟨tmF, G, k1, k2, k3, k4, k5⟩ := done tm (fun _ => rfl) h
      exact ⟨tmF, G, k1, k2, k3, .inl ⟨hg, k4⟩, k5⟩
    · rename_i g want hg
      obtain ⟨d, hdg, h⟩ := bnd_iff.1 h
      have hdl := looks_guard hg hdg
      unfold onV at h
      dsimp only at h
      split at h
      · rename_i b hb
        obtain ⟨h1, h2⟩ := h
        by_cases hbw : (b == want) = true
        · have hbe : b = want := by simpa using hbw
          subst hbe
          have hu := upd_same hb
          have h1 := h1 hbw
          rw [hu] at h1
          obtain ⟨tmF, G, k1, k2, k3, k4, k5⟩ := done tm (fun _ => rfl) h1
          exact ⟨tmF, G, k1, k2, k3, .inr ⟨g, b, d, hg, hdg, .inl ⟨by rw [k2 d (hl d hdl)]; exact hb, k4⟩⟩, k5⟩
        · have hbf : (b == want) = false := by simpa using hbw
          have hbe : b = !want := by cases b <;> cases want <;> simp_all
          subst hbe
          have hu := upd_same hb
          have h2 := h2 hbf
          rw [hu] at h2
          obtain ⟨tmF, G, k1, k2, k3, k4, k5⟩ := skip tm (fun _ => rfl) h2
          exact ⟨tmF, G, k1, k2, k3, .inr ⟨g, want, d, hg, hdg, .inr ⟨.inl (by rw [k2 d (hl d hdl)]; exact hb), k4⟩⟩, k5⟩
      · rename_i u hb
        obtain ⟨rfl, h⟩ := h
        obtain ⟨tmF, G, k1, k2, k3, k4, k5⟩ := skip tm (fun _ => rfl) h
        exact ⟨tmF, G, k1, k2, k3, .inr ⟨g, want, d, hg, hdg, .inr ⟨.inr (by rw [k2 d (hl d hdl)]; exact hb), k4⟩⟩, k5⟩
      · exact h.elim
theorem Facts.nth {P : Program} {ops : List Oper} {tmF : Nat → VV} {G : Heap} : ∀ (l : List Oper) (n i : Nat) (o : Oper), Facts P ops tmF G n l → l[i]? = some o → Fact P ops tmF G (n + 64 * i) o
  | [], _, _, _, _, h => by simp at h
  | x :: l, n, 0, o, hf, h => by simp at h; subst h; exact hf.1
  | x :: l, n, i + 1, o, hf, h => by
    have := Facts.nth l (n + 64) i o hf.2 (by simpa using h)
    rwa [show n + 64 * (i + 1) = n + 64 + 64 * i by omega]
def reachB (ops : Array Oper) : Nat → Oper → Nat → Bool
  | 0, _, _ => false
  | f + 1, o, j => o.after.any fun e => Region.binds .any e && (e.on == j || (match ops[e.on]? with | some o' => reachB ops f o' j | none => false))
def Closed (ops : Array Oper) (listed : Array Bool) : Prop := ∀ i o, ops[i]? = some o → listed.getD i false = true → ∀ e ∈ o.after, Region.binds .any e = true → listed.getD e.on false = true
theorem reach_listed {ops : Array Oper} {listed : Array Bool} (hc : Closed ops listed) : ∀ (f : Nat) (o : Oper) (j : Nat), reachB ops f o j = true → (∀ e ∈ o.after, Region.binds .any e = true → listed.getD e.on false = true) → listed.getD j false = true
  | 0, _, _, h, _ => by simp [reachB] at h
  | f + 1, o, j, h, hall => by
    simp only [reachB,Array.any_eq_true'] at h
    obtain ⟨e, he, h⟩ := h
    simp only [Bool.and_eq_true,Bool.or_eq_true,beq_iff_eq] at h
    obtain ⟨hb, h⟩ := h
    have hl := hall e he hb
    rcases h with h | h
    · rw [← h]; exact hl
    · split at h
      · rename_i o' ho'
        exact reach_listed hc f o' j h (hc e.on o' ho' hl)
      · cases h
def drawOk (ops : Array Oper) (k : Nat) : Bool :=
  decide (k ≤ ops.size ∧ ops.size ≤ 1000000) && wfL ops (ops.toList.take k) && (List.range k).all (fun j => match ops[j]? with | some o => o.after.all (fun e => !Region.binds .any e || decide (e.on < j)) | none => true) &&
  ((List.range k).all fun i => match ops[i]? with
    | some o => (o.looksAt ops).all fun t => (List.range k).all fun j => (match ops[j]? with | some o' => o'.dst != some t | none => true) || reachB ops ops.size o j
    | none => true) &&
  ((List.range ops.size).all fun j => decide (j < k) || (match ops[j]? with
    | some o => (List.range j).all (fun i => reachB ops ops.size o i) && o.after.all (fun e => !Region.binds .any e || decide (e.on < j))
    | none => true))
section
variable {P : Program} {N : NN} {B : Nat} {ρ0 : Names} {w0 : World} {ops : Array Oper} {k nx : Nat} {tmF : Nat → VV} {G : Heap} {K : VS → Prop} {Q : Exit → Act → World → Prop}
theorem getD_set {listed : Array Bool} {i j : Nat} (hi : i < listed.size) : (listed.setIfInBounds i true).getD j false = if j = i then true else listed.getD j false := by
  simp only [Array.getD_eq_getD_getElem?,Array.getElem?_setIfInBounds]
  by_cases h : i = j
  · subst h; simp [hi]
  · rw [if_neg h, if_neg (Ne.symm h)]
theorem getD_true_false {listed : Array Bool} {i : Nat} : listed.getD i true = false ↔ i < listed.size ∧ listed.getD i false = false := by
  simp only [Array.getD_eq_getD_getElem?]
  by_cases h : i < listed.size
  · simp [h]
  · simp [Array.getElem?_eq_none (by omega : listed.size ≤ i)]; omega
theorem tail_any (hd : ∀ o ∈ ops.toList, ∀ t, o.dst = some t → t < N) (hreach : ∀ j o, k ≤ j → ops[j]? = some o → (∀ i, i < j → reachB ops ops.size o i = true) ∧ ∀ e ∈ o.after, Region.binds .any e = true → e.on < j)
    (next : ∀ S' a' w' ρ', K S' → SR N B ρ0 w0 S' a' w' ρ' → Q .normal a' w') :
    ∀ (fuel j : Nat) (listed : Array Bool) (S : VS) (a : Act) (w : World) (ρ : Names), k ≤ j → ops.size ≤ j + fuel → listed.size = ops.size → (∀ i, listed.getD i false = decide (i < j)) → Closed ops listed →
      vlist P ops.toList (ops.toList.drop j) S K → SR N B ρ0 w0 S a w ρ → wpAny P .any ops Q fuel listed a w := by
  intro fuel
  have ready : ∀ (j : Nat) (listed : Array Bool), k ≤ j → listed.size = ops.size → (∀ i, listed.getD i false = decide (i < j)) → Closed ops listed → ∀ i, i ∈ Region.ready .any ops listed ↔ i = j ∧ j < ops.size := by
    intro j listed hkj hsz hl hc i
    rw [mem_ready, getD_true_false, hl i]
    constructor
    · rintro ⟨⟨h1, h2⟩, o, ho, hall⟩
      have hji : j ≤ i := by simpa using h2
      refine ⟨?_, by omega⟩
      rcases Nat.eq_or_lt_of_le hji with h | h
      · exact h.symm
      · exfalso
        have := reach_listed hc ops.size o j ((hreach i o (by omega) ho).1 j h) hall
        rw [hl j] at this
        simp at this
    · rintro ⟨rfl, hlt⟩
      refine ⟨⟨by omega, by simp⟩, ops[i], by simp [hlt], fun e he hb => ?_⟩
      rw [hl]
      have := (hreach i ops[i] hkj (by simp [hlt])).2 e he hb
      simpa using this
  induction fuel with
  | zero =>
    intro j listed S a w ρ hkj hj hsz hl hc h hS
    have hr : Region.ready .any ops listed = [] := List.eq_nil_iff_forall_not_mem.2 fun i hi => by have := ((ready j listed hkj hsz hl hc i).1 hi).2; omega
    refine ⟨hr, ?_⟩
    rw [List.drop_of_length_le (by simp; omega)] at h
    exact next S a w ρ h hS
  | succ fuel ih =>
    intro j listed S a w ρ hkj hj hsz hl hc h hS
    by_cases hjl : j < ops.size
    case neg =>
      have hr : Region.ready .any ops listed = [] := List.eq_nil_iff_forall_not_mem.2 fun i hi => by have := ((ready j listed hkj hsz hl hc i).1 hi).2; omega
      refine ⟨fun _ => ?_, fun i hi => by rw [hr] at hi; cases hi⟩
      rw [List.drop_of_length_le (by simp; omega)] at h
      exact next S a w ρ h hS
    refine ⟨fun hr => ?_, fun i hi => ?_⟩
    · have := (ready j listed hkj hsz hl hc j).2 ⟨rfl, hjl⟩
      rw [hr] at this
      cases this
    · obtain ⟨rfl, _⟩ := (ready j listed hkj hsz hl hc i).1 hi
      have ho : ops[i]? = some ops[i] := by simp [hjl]
      have hdrop : ops.toList.drop i = ops[i] :: ops.toList.drop (i + 1) := by
        rw [List.drop_eq_getElem_cons (by simpa using hjl)]
        simp
      rw [hdrop] at h
      obtain ⟨_, o, ho', hall⟩ := mem_ready.1 hi
      rw [ho] at ho'
      injection ho' with ho'
      subst ho'
      have hl' : ∀ x, (listed.setIfInBounds i true).getD x false = decide (x < i + 1) := fun x => by
        rw [getD_set (by omega), hl x]
        by_cases h : x = i
        · simp [h]
        · simp [h]; omega
      have hc' : Closed ops (listed.setIfInBounds i true) := fun x o hx hlx e he hb => by
        rw [hl'] at hlx ⊢
        by_cases hxi : x = i
        · subst hxi
          rw [ho] at hx
          injection hx with hx
          subst hx
          have := hall e he hb
          rw [hl] at this
          simp at this ⊢
          omega
        · have := hc x o hx (by rw [hl]; simp at hlx ⊢; omega) e he hb
          rw [hl] at this
          simp at this ⊢
          omega
      have hst := vstep_sound (Q := Q) (ops := ops) (Nx := wpAny P .any ops Q fuel (listed.setIfInBounds i true)) (hd ops[i] (by simp)) h hS fun S' a' w' ρ' hk hS' =>
        ih (i + 1) _ S' a' w' ρ' (by omega) (by omega) (by simpa using hsz) hl' hc' hk hS'
      unfold wpOp
      rw [ho]
      dsimp only
      split
      · rename_i hw; rw [if_pos hw] at hst; exact .inl hst
      · rename_i hw; rw [if_neg hw] at hst; exact hst

/-! ### the first part, in any order -/
def Fr (nx k : Nat) (listed : Array Bool) (m : Nat) : Prop := nx ≤ m ∧ ∀ j, j < k → nx + 64 * j ≤ m → m < nx + 64 * j + 64 → listed.getD j false = false
def ZF (R : Nat → Prop) : Nat → Nat → Prop := fun _ m => R m
instance (R : Nat → Prop) : Zone (ZF R) := ⟨fun _ => False, fun _ _ _ _ h => h, fun _ _ h => h.elim, fun _ h => h.elim⟩
def ZI (R : Nat → Prop) (b : Nat) : Nat → Nat → Prop := fun n m => (max n b ≤ m ∧ m < b + 64) ∨ (R m ∧ ¬ (b ≤ m ∧ m < b + 64))
instance (R : Nat → Prop) (b : Nat) : Zone (ZI R b) := ⟨fun n => b ≤ n ∧ n < b + 64, fun n n' m h h' => by
    rcases h' with h' | h'
    · exact .inl ⟨by omega, h'.2⟩
    · exact .inr h', fun n m h h' e => by
    subst e
    rcases h' with h' | h'
    · omega
    · exact h'.2 h, fun n h => .inl ⟨by omega, h.2⟩⟩
theorem HR.zone {Z Z' : Nat → Nat → Prop} [Zone Z] [Zone Z'] {B n n' : Nat} {ρ : Names} {w : World} {H : Heap} (h : HR Z B ρ H n w) (hz : ∀ m, Z' n' m → Z n m) : HR Z' B ρ H n' w :=
  ⟨h.bas, fun m hm => h.fresh m (hz m hm), h.lt, h.apart, h.row, h.map⟩
def pendB (ops : Array Oper) (listed : Array Bool) (k t : Nat) : Bool := (List.range k).any fun j => !listed.getD j false && (match ops[j]? with | some o => o.dst == some t | none => false)
theorem pendB_true {listed : Array Bool} {t : Nat} : pendB ops listed k t = true ↔ ∃ j, j < k ∧ listed.getD j false = false ∧ ∃ o, ops[j]? = some o ∧ o.dst = some t := by
  simp only [pendB,List.any_eq_true,List.mem_range,Bool.and_eq_true,Bool.not_eq_true']
  constructor
  · rintro ⟨j, h1, h2, h3⟩
    refine ⟨j, h1, h2, ?_⟩
    split at h3
    · rename_i o ho; exact ⟨o, ho, by simpa using h3⟩
    · cases h3
  · rintro ⟨j, h1, h2, o, ho, h3⟩
    exact ⟨j, h1, h2, by rw [ho]; simpa using h3⟩
def tmP (ops : Array Oper) (listed : Array Bool) (k : Nat) (tmF : Nat → VV) (t : Nat) : VV := if pendB ops listed k t = true then .any else tmF t
def cnt (listed : Array Bool) : Nat → Nat
  | 0 => 0
  | m + 1 => cnt listed m + (if listed.getD m false = true then 1 else 0)
theorem cnt_le (listed : Array Bool) : ∀ m, cnt listed m ≤ m
  | 0 => Nat.le_refl _
  | m + 1 => by have := cnt_le listed m; simp only [cnt]; split <;> omega
theorem cnt_lt {listed : Array Bool} : ∀ m j, j < m → listed.getD j false = false → cnt listed m < m
  | 0, _, h, _ => by omega
  | m + 1, j, h, hj => by
    simp only [cnt]
    by_cases e : j = m
    · subst e; rw [hj]; have := cnt_le listed j; simp; omega
    · have := cnt_lt m j (by omega) hj; split <;> omega
theorem cnt_set {listed : Array Bool} {i : Nat} (hi : i < listed.size) (hf : listed.getD i false = false) : ∀ m, cnt (listed.setIfInBounds i true) m = cnt listed m + (if i < m then 1 else 0)
  | 0 => by simp [cnt]
  | m + 1 => by
    simp only [cnt]
    rw [cnt_set hi hf m, getD_set hi]
    by_cases e : m = i
    · subst e; simp [hf]
    · rw [if_neg e]
      by_cases h : i < m
      · rw [if_pos h, if_pos (show i < m + 1 by omega)]; omega
      · rw [if_neg h, if_neg (show ¬ i < m + 1 by omega)]; omega
theorem exists_ready {listed : Array Bool} (hsz : listed.size = ops.size) (hk : k ≤ ops.size) (hb : ∀ j o, j < k → ops[j]? = some o → ∀ e ∈ o.after, Region.binds .any e = true → e.on < j) : ∀ m j, j ≤ m → j < k → listed.getD j false = false → Region.ready .any ops listed ≠ [] := by
  intro m
  induction m with
  | zero =>
    intro j hjm hjk hj hr
    have hlt : j < ops.size := by omega
    have : j ∈ Region.ready .any ops listed := mem_ready.2 ⟨getD_true_false.2 ⟨by omega, hj⟩, ops[j], by simp [hlt], fun e he h => by have := hb j ops[j] hjk (by simp [hlt]) e he h; omega⟩
    rw [hr] at this
    cases this
  | succ m ih =>
    intro j hjm hjk hj hr
    have hlt : j < ops.size := by omega
    by_cases hall : ∀ e ∈ ops[j].after, Region.binds .any e = true → listed.getD e.on false = true
    · have : j ∈ Region.ready .any ops listed := mem_ready.2 ⟨getD_true_false.2 ⟨by omega, hj⟩, ops[j], by simp [hlt], hall⟩
      rw [hr] at this
      cases this
    · simp only [Classical.not_forall] at hall
      obtain ⟨e, he, h, hl⟩ := hall
      have := hb j ops[j] hjk (by simp [hlt]) e he h
      exact ih e.on (by omega) (by omega) (by simpa using hl) hr
theorem head_any (hk9 : k ≤ ops.size ∧ ops.size ≤ 1000000) (hd : ∀ o ∈ ops.toList, ∀ t, o.dst = some t → t < N)
    (hreach : ∀ j o, k ≤ j → ops[j]? = some o → (∀ i, i < j → reachB ops ops.size o i = true) ∧ ∀ e ∈ o.after, Region.binds .any e = true → e.on < j)
    (hb : ∀ j o, j < k → ops[j]? = some o → ∀ e ∈ o.after, Region.binds .any e = true → e.on < j)
    (hlook : ∀ i o, i < k → ops[i]? = some o → ∀ t ∈ o.looksAt ops, ∀ j o', j < k → ops[j]? = some o' → o'.dst = some t → reachB ops ops.size o j = true)
    (hone : ∀ i j o o' t, i < k → j < k → i ≠ j → ops[i]? = some o → ops[j]? = some o' → o.dst = some t → o'.dst ≠ some t)
    (hF : ∀ i o, i < k → ops[i]? = some o → Fact P ops.toList tmF G (nx + 64 * i) o)
    (htail : vlist P ops.toList (ops.toList.drop k) ⟨tmF, G, nx + 64 * k⟩ K)
    (next : ∀ S' a' w' ρ', K S' → SR N B ρ0 w0 S' a' w' ρ' → Q .normal a' w') :
    ∀ (fuel : Nat) (listed : Array Bool) (a : Act) (w : World) (ρ : Names), ops.size ≤ cnt listed k + fuel → listed.size = ops.size → (∀ i, k ≤ i → listed.getD i false = false) → Closed ops listed →
      TM ρ w (tmP ops listed k tmF) a → a.defers = N.ds → a.tmps.size = N → HR (ZF (Fr nx k listed)) B ρ G 0 w → Below B w0 w → Ext ρ0 w0 ρ w → wpAny P .any ops Q fuel listed a w := by
  obtain ⟨hk, hsm⟩ := hk9
  intro fuel
  induction fuel with
  | zero =>
    intro listed a w ρ hf hsz hl hc hT hdf hts hh hbl he
    have hkz : k = ops.size := by have := cnt_le listed k; omega
    have hall : ∀ i, i < k → listed.getD i false = true := fun i hi => by
      cases hx : listed.getD i false with
      | true => rfl
      | false => have := cnt_lt k i hi hx; omega
    have hTF : TM ρ w tmF a := fun t => by
      have := hT t
      unfold tmP at this
      rw [if_neg (by intro e; obtain ⟨j, h1, h2, _⟩ := pendB_true.1 e; rw [hall j h1] at h2; cases h2)] at this
      exact this
    exact tail_any hd hreach next 0 k listed ⟨tmF, G, nx + 64 * k⟩ a w ρ (Nat.le_refl _) (by omega) hsz (fun i => by
        by_cases hi : i < k
        · simp [hi, hall i hi]
        · simp [hi, hl i (by omega)]) hc htail
      ⟨hTF, hdf, hts, hh.zone (fun m (hm : nx + 64 * k ≤ m) => ⟨by omega, fun j hj h1 h2 => by omega⟩), hbl, he⟩
  | succ fuel ih =>
    intro listed a w ρ hf hsz hl hc hT hdf hts hh hbl he
    by_cases hall : ∀ i, i < k → listed.getD i false = true
    · have hTF : TM ρ w tmF a := fun t => by
        have := hT t
        unfold tmP at this
        rw [if_neg (by intro e; obtain ⟨j, h1, h2, _⟩ := pendB_true.1 e; rw [hall j h1] at h2; cases h2)] at this
        exact this
      exact tail_any hd hreach next (fuel + 1) k listed ⟨tmF, G, nx + 64 * k⟩ a w ρ (Nat.le_refl _) (by have := cnt_le listed k; omega) hsz (fun i => by
          by_cases hi : i < k
          · simp [hi, hall i hi]
          · simp [hi, hl i (by omega)]) hc htail
        ⟨hTF, hdf, hts, hh.zone (fun m (hm : nx + 64 * k ≤ m) => ⟨by omega, fun j hj h1 h2 => by omega⟩), hbl, he⟩
    · simp only [Classical.not_forall] at hall
      obtain ⟨j0, hj0, hj0l⟩ := hall
      have hj0f : listed.getD j0 false = false := by simpa using hj0l
      refine ⟨fun hr => absurd hr (exists_ready hsz hk hb j0 j0 (Nat.le_refl _) hj0 hj0f), fun i hi => ?_⟩
      obtain ⟨h0, o, ho, hafter⟩ := mem_ready.1 hi
      obtain ⟨hil, hif⟩ := getD_true_false.1 h0
      have hik : i < k := by
        rcases Nat.lt_or_ge i k with h | h
        · exact h
        · exfalso
          have := reach_listed hc ops.size o j0 ((hreach i o h ho).1 j0 (by omega)) hafter
          rw [hj0f] at this
          cases this
      -- what it looks at is there
      have hseen : ∀ t ∈ o.looksAt ops, tmP ops listed k tmF t = tmF t := fun t ht => by
        unfold tmP
        rw [if_neg]
        intro e
        obtain ⟨j, h1, h2, o', ho', h3⟩ := pendB_true.1 e
        have := reach_listed hc ops.size o j (hlook i o hik ho t ht j o' h1 ho' h3) hafter
        rw [h2] at this
        cases this
      have hdN : ∀ t, o.dst = some t → t < a.tmps.size := fun t ht => by
        rw [hts]
        exact hd o (by obtain ⟨hlt, e⟩ := Array.getElem?_eq_some_iff.1 ho; rw [← e]; simp) t ht
      have hcl : Closed ops (listed.setIfInBounds i true) := fun x o' hx hlx e' he' hb' => by
        rw [getD_set hil] at hlx ⊢
        split
        · rfl
        · by_cases hxi : x = i
          · subst hxi
            rw [ho] at hx
            injection hx with hx
            subst hx
            exact hafter e' he' hb'
          · rw [if_neg hxi] at hlx
            exact hc x o' hx hlx e' he' hb'
      -- on behind the operation
      have go : ∀ (ρ' : Names) (x : Value) (w' : World) (v : VV) (n' : Nat), (∀ t, o.dst = some t → tmF t = v) → VR ρ' w' v x → HR (ZI (Fr nx k listed) (nx + 64 * i)) B ρ' G n' w' → n' ≤ nx + 64 * i + 64 → Ext ρ w ρ' w' → Below B w w' →
          wpAny P .any ops Q fuel (listed.setIfInBounds i true) (a.put o.dst x) w' := by
        intro ρ' x w' v n' hv hvx hh' hn' he' hb'
        have hz := put_size a o.dst x
        refine ih _ _ _ ρ' ?_ (by simpa using hsz) (fun j hj => by rw [getD_set hil, if_neg (by omega)]; exact hl j hj) hcl ?_ (by rw [hz.2]; exact hdf) (by rw [hz.1]; exact hts) (hh'.zone fun m hm => .inr ⟨⟨hm.1, fun j hj h1 h2 => ?_⟩, fun hc' => ?_⟩) (hbl.trans hb') (he.trans he')
        · rw [cnt_set hil hif, if_pos hik]; omega
        · intro t
          unfold tmP
          split
          · simp [VR, VR1]
          · rename_i hp
            have hput := (hT.ext he').put hdN hvx t
            have e : V.put o.dst v (tmP ops listed k tmF) t = tmF t := by
              cases hod : o.dst with
              | none =>
                simp only [V.put]
                unfold tmP
                rw [if_neg]
                intro e
                obtain ⟨j, h1, h2, o', ho', h3⟩ := pendB_true.1 e
                refine hp (pendB_true.2 ⟨j, h1, ?_, o', ho', h3⟩)
                rw [getD_set hil, if_neg]
                · exact h2
                · intro e; subst e; rw [ho] at ho'; injection ho' with ho'; subst ho'; rw [hod] at h3; cases h3
              | some d =>
                simp only [V.put,upd_ap]
                split
                · rename_i e; rw [e]; exact (hv d hod).symm
                · rename_i htd
                  unfold tmP
                  rw [if_neg]
                  intro e
                  obtain ⟨j, h1, h2, o', ho', h3⟩ := pendB_true.1 e
                  refine hp (pendB_true.2 ⟨j, h1, ?_, o', ho', h3⟩)
                  rw [getD_set hil, if_neg]
                  · exact h2
                  · intro e; subst e; rw [ho] at ho'; injection ho' with ho'; subst ho'; rw [hod] at h3; injection h3 with h3; exact htd h3.symm
            rw [e] at hput
            exact hput
        · have := hm.2 j hj h1 h2
          rw [getD_set hil] at this
          split at this
          · cases this
          · exact this
        · have := hm.2 i hik hc'.1 hc'.2
          rw [getD_set hil, if_pos rfl] at this
          cases this
      have hhI : HR (ZI (Fr nx k listed) (nx + 64 * i)) B ρ G (nx + 64 * i) w := hh.zone fun m hm => by
        rcases hm with hm | hm
        · refine ⟨by omega, fun j hj h1 h2 => ?_⟩
          have : j = i := by omega
          subst this
          exact hif
        · exact hm.1
      have run : Does P tmF G (nx + 64 * i) o → o.wp P a w (wpAny P .any ops Q fuel (listed.setIfInBounds i true)) Q := by
        rintro ⟨v, n', hv, hn1, hn2, hdo⟩
        have hop := hdo (ev (tmP ops listed k tmF)) (fun v' H' n'' => v' = v ∧ H' = G ∧ n'' = n') (fun x hx => by
          cases x with
          | tmp t => exact hseen t (looks_operand hx)
          | _ => rfl) ⟨rfl, rfl, rfl⟩
        have hr := vopH_sound (Z := ZI (Fr nx k listed) (nx + 64 * i)) hT hhI (fun v' H' n'' h1 h2 => (⟨Nat.le_refl _, by omega⟩ : nx + 64 * i ≤ nx + 64 * i ∧ nx + 64 * i < nx + 64 * i + 64)) (fun m hm => hh.fresh m ⟨by omega, fun j hj h1 h2 => by omega⟩) hop
        unfold Oper.wp
        rcases hr with ⟨x, w', hr, hg⟩ | ⟨w', hr, hg⟩ | ⟨f, xs, hr, hcl'⟩
        · rw [hr]
          obtain ⟨v', H', n'', ρ', ⟨rfl, rfl, rfl⟩, h1, h2, h3, h4⟩ := hg
          exact go ρ' x w' v' n'' hv h1 h2 hn2 h3 h4
        · rw [hr]
          obtain ⟨v', H', n'', ρ', ⟨rfl, rfl, rfl⟩, h1, h2, h3, h4⟩ := hg
          exact go ρ' undef w' v' n'' hv h1 h2 hn2 h3 h4
        · rw [hr]
          refine Calls.mono hcl' fun e w' hee => ?_
          obtain ⟨x, rfl, v', H', n'', ρ', ⟨rfl, rfl, rfl⟩, h1, h2, h3, h4⟩ := hee
          exact go ρ' x w' v' n'' hv h1 h2 hn2 h3 h4
      have skip : (∀ t, o.dst = some t → tmF t = .raw undef) → wpAny P .any ops Q fuel (listed.setIfInBounds i true) (a.put o.dst undef) w := fun hv =>
        go ρ undef w (.raw undef) (nx + 64 * i) hv (by simp [VR, VR1, C1]) hhI (by omega) (Ext.refl _ _) (Below.refl _ _)
      have hst : if Region.wanted o (yielded ops a.tmps) = true then o.wp P a w (wpAny P .any ops Q fuel (listed.setIfInBounds i true)) Q else wpAny P .any ops Q fuel (listed.setIfInBounds i true) (a.put o.dst undef) w := by
        rcases hF i o hik ho with ⟨hg, hdo⟩ | ⟨g, want, d, hg, hdg, hrest⟩
        · rw [if_pos (by simp [Region.wanted, hg])]
          exact run hdo
        · have hTd := hT d
          rw [hseen d (looks_guard hg hdg)] at hTd
          have hyd : yielded ops a.tmps g = match a.tmps[d]? with | some (.bool b) => some b | _ => none := by
            unfold yielded
            rw [dstAt_eq, Array.getElem?_toList] at hdg
            rw [hdg]
            simp only [Option.bind_some]
            rfl
          have hbool : ∀ b, tmF d = .bool b → Region.wanted o (yielded ops a.tmps) = (b == want) := fun b hb2 => by
            rw [hb2] at hTd
            have hx := hTd.bool
            have hbd : a.tmps[d]? = some (.bool b) := by
              rw [Array.getD_eq_getD_getElem?] at hx
              cases hy : a.tmps[d]? with
              | none => rw [hy] at hx; simp [undef] at hx
              | some y => rw [hy] at hx; simp at hx; rw [hx]
            simp only [Region.wanted,hg,hyd,hbd]
            cases b <;> cases want <;> rfl
          rcases hrest with ⟨hdv, hdo⟩ | ⟨hdv, hu⟩
          · rw [hbool want hdv, if_pos (by simp)]
            exact run hdo
          · have hw : Region.wanted o (yielded ops a.tmps) = false := by
              rcases hdv with hdv | hdv
              · rw [hbool _ hdv]; cases want <;> rfl
              · rw [hdv] at hTd
                have hx : a.tmps.getD d undef = undef := by simpa [VR, VR1, C1] using hTd
                simp only [Region.wanted,hg,hyd]
                rw [Array.getD_eq_getD_getElem?] at hx
                cases hy : a.tmps[d]? with
                | none => cases want <;> rfl
                | some y =>
                  rw [hy] at hx
                  simp only [Option.getD_some] at hx
                  subst hx
                  cases want <;> rfl
            rw [hw, if_neg (by simp)]
            exact skip hu
      unfold wpOp
      rw [ho]
      dsimp only
      split
      · rename_i hw; rw [if_pos hw] at hst; exact .inl hst
      · rename_i hw; rw [if_neg hw] at hst; exact hst
theorem wfL_one {ops : Array Oper} (l : List Oper) : ∀ (i j : Nat) (o o' : Oper) (t : Nat), wfL ops l = true → i < j → l[i]? = some o → l[j]? = some o' → o.dst = some t → o'.dst ≠ some t := by
  induction l with
  | nil => intro i j o o' t _ _ h _ _; simp at h
  | cons x l ih =>
    intro i j o o' t hw hij h h' hd
    simp only [wfL,Bool.and_eq_true] at hw
    obtain ⟨⟨hw1, _⟩, hw3⟩ := hw
    cases j with
    | zero => omega
    | succ j =>
      rw [List.getElem?_cons_succ] at h'
      cases i with
      | zero =>
        rw [List.getElem?_cons_zero] at h
        injection h with h
        subst h
        rw [hd] at hw1
        simpa using (List.all_eq_true.1 hw1) o' (List.mem_of_getElem? h')
      | succ i =>
        rw [List.getElem?_cons_succ] at h
        exact ih i j o o' t hw3 (by omega) h h' hd
theorem region_intro {S : VS} (hm : P.follows .mixedOrders = true) (hfr : ∀ m, S.nx ≤ m → S.hp m = none) (k : Nat) (hok : drawOk ops k = true)
    (h : vheld P ops.toList (ops.toList.take k) S.tm S.hp S.nx fun tm H n => vlist P ops.toList (ops.toList.drop k) ⟨tm, H, n⟩ K) : vdraw P ops S K := by
  intro id N B ρ0 w0 Q a w ρ hd hT hdf hts hh hbl he next
  unfold drawOk at hok
  simp only [Bool.and_eq_true,decide_eq_true_eq] at hok
  obtain ⟨⟨⟨⟨hk9, hw⟩, ha⟩, hl⟩, ht⟩ := hok
  have hk := hk9.1
  have hlen : (ops.toList.take k).length = k := by simp [hk]
  have rep : ∀ i, (Array.replicate ops.size false).getD i false = false := fun i => by
    rw [Array.getD_eq_getD_getElem?, Array.getElem?_replicate]
    split <;> rfl
  obtain ⟨tmF, G, htail, hsame, ⟨hG1, hG2⟩, hF⟩ := held_facts (ops := ops) _ S.tm S.hp S.nx hw hfr h
  rw [hlen] at htail
  have htk : ∀ i o, i < k → ops[i]? = some o → (ops.toList.take k)[i]? = some o := fun i o hi ho => by
    rw [List.getElem?_take_of_lt hi, Array.getElem?_toList]; exact ho
  have hnamed : ∀ m l, ρ m = some l → m < S.nx := fun m l hm' => by
    rcases Nat.lt_or_ge m S.nx with h' | h'
    · exact h'
    · have := hh.fresh m h'
      rw [this] at hm'
      cases hm'
  refine wp_region_any hm ?_
  have hh0 : HR (ZF (Fr S.nx k (Array.replicate ops.size false))) B ρ G 0 { w with drawn := w.drawn + 1 } := by
    have hd0 := hh.drew
    refine ⟨hd0.bas, fun m hm' => hh.fresh m hm'.1, hd0.lt, fun m m' l l' h1 h2 g1 g2 => ?_, fun m s v l hs hl' => ?_, fun m es l hs hl' => ?_⟩
    · rw [hG2 m (hnamed m l h1)] at g1
      rw [hG2 m' (hnamed m' l' h2)] at g2
      exact hd0.apart m m' l l' h1 h2 g1 g2
    · rw [hG2 m (hnamed m l hl')] at hs
      exact hd0.row m s v l hs hl'
    · rw [hG2 m (hnamed m l hl')] at hs
      exact hd0.map m es l hs hl'
  have hext : Ext ρ w ρ { w with drawn := w.drawn + 1 } := ⟨fun _ _ h => h, Nat.le_refl _, fun _ _ _ => rfl, fun _ _ h => .inl h, fun _ h => h, fun _ h => .inl h⟩
  refine head_any (K := K) (G := G) (tmF := tmF) (nx := S.nx) (N := N) (B := B) (ρ0 := ρ0) (w0 := w0) (k := k) hk9 hd ?_ ?_ ?_ ?_ ?_ htail ?_ ops.size _ a _ ρ (by omega) (by simp) ?_ ?_ ?_ hdf hts hh0 ?_ (he.trans hext)
  · intro j o hj ho
    have hlt : j < ops.size := (Array.getElem?_eq_some_iff.1 ho).1
    have := (List.all_eq_true.1 ht) j (List.mem_range.2 hlt)
    rw [ho] at this
    simp only [Bool.or_eq_true,decide_eq_true_eq,Bool.and_eq_true] at this
    rcases this with this | ⟨t1, t2⟩
    · omega
    · exact ⟨fun i hi => (List.all_eq_true.1 t1) i (List.mem_range.2 hi), fun e he' hb => by
        have := (Array.all_eq_true_iff_forall_mem.1 t2) e he'
        simpa [hb] using this⟩
  · intro j o hj ho e he' hb
    have := (List.all_eq_true.1 ha) j (List.mem_range.2 hj)
    rw [ho] at this
    have := (Array.all_eq_true_iff_forall_mem.1 this) e he'
    simpa [hb] using this
  · intro i o hi ho t htl j o' hj ho' hdt
    have := (List.all_eq_true.1 hl) i (List.mem_range.2 hi)
    rw [ho] at this
    have := (List.all_eq_true.1 ((List.all_eq_true.1 this) t htl)) j (List.mem_range.2 hj)
    rw [ho'] at this
    simpa [hdt] using this
  · intro i j o o' t hi hj hij ho ho' hdt
    rcases Nat.lt_or_gt_of_ne hij with h' | h'
    · exact wfL_one _ i j o o' t hw h' (htk i o hi ho) (htk j o' hj ho') hdt
    · intro hdt'
      exact wfL_one _ j i o' o t hw h' (htk j o' hj ho') (htk i o hi ho) hdt' hdt
  · intro i o hi ho
    exact Facts.nth _ _ i o hF (htk i o hi ho)
  · intro S' a' w' ρ' hk' hS'
    exact next S' a' w' ρ' hk' hS'.tm hS'.defers hS'.size hS'.heap hS'.below hS'.ext
  · intro i _
    exact rep i
  · intro i o _ hli
    rw [rep i] at hli
    cases hli
  · intro t
    unfold tmP
    split
    · simp [VR, VR1]
    · rename_i hp
      have hno : ∀ o ∈ ops.toList.take k, o.dst ≠ some t := fun o ho hdt => by
        obtain ⟨i, hi⟩ := List.getElem?_of_mem ho
        have hik : i < k := by
          have := (List.getElem?_eq_some_iff.1 hi).1
          omega
        rw [List.getElem?_take_of_lt hik, Array.getElem?_toList] at hi
        exact hp (pendB_true.2 ⟨i, hik, rep i, o, hi, hdt⟩)
      rw [hsame t hno]
      exact VR.ext hext _ _ (hT t)
  · exact hbl.drew
end
end Go.Proofs.YtcilmfhncjfdbaaDoor.V
end
section
/-
  A MACHINE OF VALUES, SEVENTEENTH PART: how simp reckons a region whose order is drawn.
-/
set_option linter.unusedVariables false
set_option linter.unusedSectionVars false
set_option linter.unusedSimpArgs false
namespace Go.Proofs.YtcilmfhncjfdbaaDoor.V
open Go

def vcallHW (P : Program) (H : Heap) (K : VV → Heap → Nat → Prop) (h : Tag H) (h' : Tag K) (g : FuncId) (args : List VV) (n : Nat) : Prop := vcallH P g args H n K
theorem vcallH_w (P : Program) (g : FuncId) (args : List VV) (H : Heap) (n : Nat) (K : VV → Heap → Nat → Prop) : vcallH P g args H n K = vcallHW P H K () () g args n := rfl
theorem jb {P : Program} {g : FuncId} {args : List VV} {H : Heap} {n : Nat} {K : VV → Heap → Nat → Prop} {t : Tag H} {t' : Tag K} {r : VV} (h : HCall P H g args r) (hk : K r H n) : vcallHW P H K t t' g args n := .inl ⟨r, h, hk⟩
theorem jd {P : Program} {g : FuncId} {args : List VV} {H : Heap} {r : VV} (h : Spec P g args r) (h1 : args.all notTup = true) (h2 : nls args = true) : HCall P H g args r := ⟨args, h, h1, .inr ⟨rfl, h2⟩⟩
theorem get_nil (v : VV) : v.get [] = some v := by simp only [VV.get]
theorem get_cons (vs : List VV) (i : Nat) (p : List Nat) : (VV.agg vs).get (i :: p) = match vs[i]? with
    | some u => u.get p
    | none => none := by cases h : vs[i]? <;> simp only [VV.get,h]
theorem set_nil (v u : VV) : v.set [] u = u := by simp only [VV.set]
theorem set_cons (vs : List VV) (i : Nat) (p : List Nat) (u : VV) : (VV.agg vs).set (i :: p) u = match vs[i]? with
    | some v => .agg (vs.set i (v.set p u))
    | none => .agg vs := by cases h : vs[i]? <;> simp only [VV.set,h]
theorem at_nil (s : Sh) : s.at [] = some s := by simp only [Sh.at]
theorem at_st (ls : List Sh) (i : Nat) (p : List Nat) : (Sh.st ls).at (i :: p) = match ls[i]? with
    | some s => s.at p
    | none => none := by cases h : ls[i]? <;> simp only [Sh.at,h]
theorem at_arr (n : Nat) (s : Sh) (i : Nat) (p : List Nat) : (Sh.arr n s).at (i :: p) = s.at p := by simp only [Sh.at]
noncomputable def vh : (P : Program) → (ops l : List Oper) → (tm : Nat → VV) → (H : Heap) → (n : Nat) → (K : (Nat → VV) → Heap → Nat → Prop) → Prop := Classical.choose (⟨vheld, rfl⟩ : ∃ f : (P : Program) → (ops l : List Oper) → (tm : Nat → VV) → (H : Heap) → (n : Nat) → (K : (Nat → VV) → Heap → Nat → Prop) → Prop, f = vheld)
theorem vh_eq : vh = vheld := Classical.choose_spec (⟨vheld, rfl⟩ : ∃ f : (P : Program) → (ops l : List Oper) → (tm : Nat → VV) → (H : Heap) → (n : Nat) → (K : (Nat → VV) → Heap → Nat → Prop) → Prop, f = vheld)
theorem vh_def (P : Program) (ops l : List Oper) (tm : Nat → VV) (H : Heap) (n : Nat) (K : (Nat → VV) → Heap → Nat → Prop) : vh P ops l tm H n K = vheld P ops l tm H n K := by rw [vh_eq]
def eithW (k : Bool → Prop) (h : Tag k) (q : Prop) : Prop := vEither q k
theorem vEither_w (q : Prop) (k : Bool → Prop) : vEither q k = eithW k () q := rfl
section
variable (P : Program) (tm : Nat → VV) (H : Heap) (n : Nat)
theorem h_nil (ops : List Oper) (K : (Nat → VV) → Heap → Nat → Prop) : vh P ops [] tm H n K = K tm H n := by simp only [vh_def]; exact id (Eq.refl _)
theorem h_cons (ops l : List Oper) (d : Option Tmp) (op : Op) (ty : TypeId) (ps : String) (af : Array Edge) (K : (Nat → VV) → Heap → Nat → Prop) : vh P ops (⟨d, op, ty, ps, af, none⟩ :: l) tm H n K =
    vopH P (ev tm) H n (fun v H' n' => cnd (n' ≤ n + 64) (vh P ops l (put d v tm) H' (n + 64) K)) ⟨d, op, ty, ps, af, none⟩ := by simp only [vh_def]; exact id (Eq.refl _)
theorem h_guard (ops l : List Oper) (d : Option Tmp) (op : Op) (ty : TypeId) (ps : String) (af : Array Edge) (j : Nat) (want : Bool) (K : (Nat → VV) → Heap → Nat → Prop) : vh P ops (⟨d, op, ty, ps, af, some (j, want)⟩ :: l) tm H n K =
    bnd (dstAt ops j) fun t => onV (tm t) fun v => match v with
      | .bool b => vif (b == want) (vopH P (ev (upd tm t (.bool want))) H n (fun v H' n' => cnd (n' ≤ n + 64) (vh P ops l (put d v (upd tm t (.bool want))) H' (n + 64) K)) ⟨d, op, ty, ps, af, some (j, want)⟩)
          (vh P ops l (put d (.raw undef) (upd tm t (.bool (!want)))) H (n + 64) K)
      | .raw u => cnd (u = undef) (vh P ops l (put d (.raw undef) tm) H (n + 64) K)
      | _ => False := by simp only [vh_def]; exact id (Eq.refl _)
end
end Go.Proofs.YtcilmfhncjfdbaaDoor.V
end
section
/-
  A MACHINE OF VALUES, TWENTIETH PART: code by rules, one behind the other; frames that are written anew (loops, ways that meet), names turned.
-/
set_option linter.unusedVariables false
set_option linter.unusedSectionVars false
set_option linter.unusedSimpArgs false
namespace Go.Proofs.YtcilmfhncjfdbaaDoor.V
open Go Go.RowKit

def Ok (P : Program) (n0 : Nat) (c : Code) (S : VS) (K : VX → VS → Prop) : Prop :=
  ∀ (N : NN) (B : Nat) (ρ0 : Names) (w0 : World) (Q : Exit → Act → World → Prop) (a : Act) (w : World) (ρ : Names), (∀ m, n0 ≤ m → ρ0 m = none) → codeOk N c = true → SR N B ρ0 w0 S a w ρ →
    (∀ e S' a' w' ρ', K e S' → SR N B ρ0 w0 S' a' w' ρ' → Q e.x a' w') → c.wp P Q a w

/-! ### frames written anew -/
def slots : List (Nat × VV) → Nat → VV
  | [], _ => .any
  | (k, v) :: l, t => if t = k then v else slots l t
def rows : List (Nat × Blk) → Heap
  | [], _ => none
  | (k, b) :: l, m => if m = k then some b else rows l m
theorem slots_cons (k : Nat) (v : VV) (l : List (Nat × VV)) (t : Nat) : slots ((k, v) :: l) t = if t = k then v else slots l t := rfl
theorem slots_nil (t : Nat) : slots [] t = .any := rfl
theorem rows_cons (k : Nat) (v : Blk) (l : List (Nat × Blk)) (t : Nat) : rows ((k, v) :: l) t = if t = k then some v else rows l t := rfl
theorem rows_nil (t : Nat) : rows [] t = none := rfl
def turn : List (Nat × Nat) → Nat → Nat
  | [], m => m
  | (k, j) :: l, m => if m = k then j else turn l m
theorem turn_cons (k j : Nat) (l : List (Nat × Nat)) (m : Nat) : turn ((k, j) :: l) m = if m = k then j else turn l m := rfl
theorem turn_nil (m : Nat) : turn [] m = m := rfl
def known (n0 : Nat) (σ : List (Nat × Nat)) (m : Nat) : Prop := m < n0 ∨ m ∈ σ.map (·.1)
mutual
inductive MR (n0 : Nat) (σ : List (Nat × Nat)) (H : Heap) (fz : Bool) : VV → VV → Prop
  | data (v : VV) (h : nl v = true) : MR n0 σ H fz v v
  | sl {m m' : Nat} {p : List Nat} {i n : Nat} (h : known n0 σ m') (h' : turn σ m' = m) : MR n0 σ H fz (.sl (some (m, p, i)) n) (.sl (some (m', p, i)) n)
  | ptr {m m' : Nat} {p : List Nat} (h : known n0 σ m') (h' : turn σ m' = m) : MR n0 σ H fz (.ptr m p) (.ptr m' p)
  | map {m m' : Nat} (h : known n0 σ m') (h' : turn σ m' = m) : MR n0 σ H fz (.map m) (.map m')
  | agg {us vs : List VV} (h : MRL n0 σ H fz us vs) : MR n0 σ H fz (.agg us) (.agg vs)
  | tup {us vs : List VV} (h : MRL n0 σ H fz us vs) : MR n0 σ H fz (.tup us) (.tup vs)
  | fn {f : FuncId} {us vs : List VV} (h : MRL n0 σ H fz us vs) : MR n0 σ H fz (.fn f us) (.fn f vs)
  | row {m k n : Nat} {e : Sh} {els : List VV} (h : fz = true) (h1 : H m = some (.row (.arr k e) (.agg els))) (h2 : n = els.length) (h3 : nls els = true) (h4 : m ∉ σ.map (·.2)) : MR n0 σ H fz (.sl (some (m, [], 0)) n) (.dat e els)
  | place {m : Nat} {s : Sh} {v : VV} (h : fz = true) (h1 : H m = some (.row s v)) (h3 : nl v = true) (h4 : m ∉ σ.map (·.2)) : MR n0 σ H fz (.ptr m []) (.pd s v)
  | nil (e : Sh) : MR n0 σ H fz (.sl none 0) (.dat e [])
  | empty {m : Nat} {p : List Nat} {i : Nat} : MR n0 σ H fz (.sl none 0) (.sl (some (m, p, i)) 0)
inductive MRL (n0 : Nat) (σ : List (Nat × Nat)) (H : Heap) (fz : Bool) : List VV → List VV → Prop
  | nil : MRL n0 σ H fz [] []
  | cons {u v : VV} {us vs : List VV} (h : MR n0 σ H fz u v) (h' : MRL n0 σ H fz us vs) : MRL n0 σ H fz (u :: us) (v :: vs)
end
section
variable {n0 : Nat} {σ : List (Nat × Nat)} {H : Heap} {fz : Bool}
theorem MR.leaf {u v : VV} (h : MR n0 σ H fz u v) : v.leaf = u.leaf := by cases h <;> rfl
theorem MR.leaf_has {u v : VV} (h : MR n0 σ H fz u v) (hl : u.leaf = true) (s : Sh) (hu : Has s u) : Has s v := by
  cases s with
  | cell => simp only [Has]; rw [h.leaf]; exact hl
  | st ls => cases u <;> simp [VV.leaf] at hl <;> simp [Has] at hu
  | arr n s => cases u <;> simp [VV.leaf] at hl <;> simp [Has] at hu
mutual
theorem MR.has : ∀ {u v : VV}, MR n0 σ H fz u v → ∀ s, Has s u → Has s v
  | _, _, .data v h, s, hu => hu
  | _, _, .sl h h', s, hu => MR.leaf_has (n0 := n0) (σ := σ) (H := H) (fz := fz) (.sl h h') rfl s hu
  | _, _, .ptr h h', s, hu => MR.leaf_has (n0 := n0) (σ := σ) (H := H) (fz := fz) (.ptr h h') rfl s hu
  | _, _, .map h h', s, hu => MR.leaf_has (n0 := n0) (σ := σ) (H := H) (fz := fz) (.map h h') rfl s hu
  | _, _, .fn h, s, hu => MR.leaf_has (n0 := n0) (σ := σ) (H := H) (fz := fz) (.fn h) rfl s hu
  | _, _, .row h h1 h2 h3 h4, s, hu => MR.leaf_has (n0 := n0) (σ := σ) (H := H) (fz := fz) (.row h h1 h2 h3 h4) rfl s hu
  | _, _, .place h h1 h3 h4, s, hu => MR.leaf_has (n0 := n0) (σ := σ) (H := H) (fz := fz) (.place h h1 h3 h4) rfl s hu
  | _, _, .nil e, s, hu => MR.leaf_has (n0 := n0) (σ := σ) (H := H) (fz := fz) (.nil e) rfl s hu
  | _, _, @MR.empty _ _ _ _ m p i, s, hu => MR.leaf_has (n0 := n0) (σ := σ) (H := H) (fz := fz) (@MR.empty n0 σ H fz m p i) rfl s hu
  | _, _, .tup h, s, hu => by cases s <;> simp [Has, VV.leaf] at hu
  | _, _, .agg h, s, hu => by
    cases s with
    | cell => simp [Has, VV.leaf] at hu
    | st ls => simp only [Has] at hu ⊢; exact MRL.hasL h ls hu
    | arr n s => simp only [Has] at hu ⊢; exact ⟨by rw [MRL.len h] at hu; exact hu.1, MRL.hasA h s hu.2⟩
theorem MRL.hasL : ∀ {us vs : List VV}, MRL n0 σ H fz us vs → ∀ ls, HasL ls us → HasL ls vs
  | _, _, .nil, ls, hu => hu
  | _, _, .cons h h', ls, hu => by
    cases ls with
    | nil => simp [HasL] at hu
    | cons s ls => simp only [HasL] at hu ⊢; exact ⟨MR.has h s hu.1, MRL.hasL h' ls hu.2⟩
theorem MRL.hasA : ∀ {us vs : List VV}, MRL n0 σ H fz us vs → ∀ s, (∀ u ∈ us, Has s u) → ∀ v ∈ vs, Has s v
  | _, _, .nil, s, hu => hu
  | _, _, .cons h h', s, hu => by
    intro v hv
    rcases List.mem_cons.1 hv with rfl | hv
    · exact MR.has h s (hu _ (by simp))
    · exact MRL.hasA h' s (fun u hm => hu u (by simp [hm])) v hv
theorem MRL.len : ∀ {us vs : List VV}, MRL n0 σ H fz us vs → us.length = vs.length
  | _, _, .nil => rfl
  | _, _, .cons h h' => by simp only [List.length_cons,MRL.len h']
end
end
section
variable {n0 : Nat} {σ : List (Nat × Nat)} {H : Heap} {fz : Bool} {ρ ρ' : Names} {w : World}
structure Turned (n0 : Nat) (σ : List (Nat × Nat)) (H : Heap) (fz : Bool) (ρ ρ' : Names) (w : World) : Prop where
  names : ∀ m, known n0 σ m → ρ' m = ρ (turn σ m)
  un : ∀ b, Unnamed ρ b → Unnamed ρ' b
  row : fz = true → ∀ m s v l, H m = some (.row s v) → m ∉ σ.map (·.2) → ρ m = some l → Unnamed ρ' l.block ∧ l.block < w.heap.size ∧ RowAt ρ w l s v
theorem C1.data (hU : ∀ b, Unnamed ρ b → Unnamed ρ' b) (v : VV) (cs : List Value) (hn : nl v = true) (h : C1 ρ w v cs) : C1 ρ' w v cs :=
  C1.mono (ρ := .bare (Unnamed ρ')) (fun m l h => by cases h) (fun b _ hu => hu.1) v cs (C1.bare hU v cs hn h)
theorem CR.data (hU : ∀ b, Unnamed ρ b → Unnamed ρ' b) (v : List VV) (cs : List Value) (hn : nls v = true) (h : CR ρ w v cs) : CR ρ' w v cs :=
  CR.mono (ρ := .bare (Unnamed ρ')) (fun m l h => by cases h) (fun b _ hu => hu.1) v cs (CR.bare hU v cs hn h)
mutual
theorem MR.cells (hT : Turned n0 σ H fz ρ ρ' w) : ∀ {u v : VV}, MR n0 σ H fz u v → ∀ (cs : List Value), C1 ρ w u cs → C1 ρ' w v cs
  | _, _, .data v h, cs, hc => C1.data hT.un v cs h hc
  | _, _, .sl h h', cs, hc => by simp only [C1] at hc ⊢; rw [hT.names _ h, h']; exact hc
  | _, _, .ptr h h', cs, hc => by simp only [C1] at hc ⊢; rw [hT.names _ h, h']; exact hc
  | _, _, .map h h', cs, hc => by simp only [C1] at hc ⊢; rw [hT.names _ h, h']; exact hc
  | _, _, .agg h, cs, hc => by simp only [C1] at hc ⊢; exact MRL.cells hT h cs hc
  | _, _, .tup h, cs, hc => by simp only [C1] at hc
  | _, _, .fn h, cs, hc => by
    simp only [C1] at hc ⊢
    obtain ⟨xs, h1, h2⟩ := hc
    exact ⟨xs, h1, MRL.caps hT h _ h2⟩
  | _, _, @MR.row _ _ _ _ m k n e els h h1 h2 h3 h4, cs, hc => by
    simp only [C1] at hc ⊢
    rcases hc with ⟨rfl, A, hc⟩ | ⟨l, cap, e', j', hl, hc, hcap, hat, _⟩
    · exact ⟨A, 0, by rw [← h2]; exact hc, by omega, fun h => absurd (List.eq_nil_of_length_eq_zero h2.symm) h⟩
    · obtain ⟨hu, hlt, hrow⟩ := hT.row h m _ _ l h1 h4 hl
      refine ⟨_, cap, by rw [← h2]; exact hc, by omega, fun _ => ?_⟩
      obtain ⟨ds, q1, q2, q3⟩ := hrow.cells
      simp only [C1] at q1
      have hh := hrow.has
      simp only [Has] at hh
      refine ⟨l.block, _, ds, rfl, CR.data hT.un _ _ h3 q1, hh.2, ?_, hu, hlt⟩
      rw [hrow.sh]
      simp only [List.nil_append,Sh.off,Nat.zero_mul,Nat.add_zero]
      exact q3
  | _, _, @MR.place _ _ _ _ m s v h h1 h3 h4, cs, hc => by
    simp only [C1] at hc ⊢
    obtain ⟨l, hl, hc⟩ := hc
    obtain ⟨hu, hlt, hrow⟩ := hT.row h m _ _ l h1 h4 hl
    obtain ⟨ds, q1, q2, q3⟩ := hrow.cells
    refine ⟨l.block, l.base, ds, ?_, C1.data hT.un _ _ h3 q1, hrow.has, q3, hu, hlt⟩
    rw [hc]
    simp [Sh.off]
  | _, _, .nil e, cs, hc => by
    simp only [C1] at hc ⊢
    exact ⟨none, 0, hc.2, Nat.le_refl _, fun h => absurd rfl h⟩
  | _, _, .empty, cs, hc => by
    simp only [C1] at hc ⊢
    exact .inl ⟨trivial, none, hc.2⟩
theorem MRL.cells (hT : Turned n0 σ H fz ρ ρ' w) : ∀ {us vs : List VV}, MRL n0 σ H fz us vs → ∀ (cs : List Value), CR ρ w us cs → CR ρ' w vs cs
  | _, _, .nil, cs, hc => by simpa only [CR] using hc
  | _, _, .cons h h', cs, hc => by
    simp only [CR] at hc ⊢
    obtain ⟨c1, c2, h1, h2, h3⟩ := hc
    exact ⟨c1, c2, h1, MR.cells hT h c1 h2, MRL.cells hT h' c2 h3⟩
theorem MRL.caps (hT : Turned n0 σ H fz ρ ρ' w) : ∀ {us vs : List VV}, MRL n0 σ H fz us vs → ∀ (cs : List Value), CV ρ w us cs → CV ρ' w vs cs
  | _, _, .nil, cs, hc => by simpa only [CV] using hc
  | _, _, .cons h h', cs, hc => by
    simp only [CV] at hc ⊢
    obtain ⟨x, c2, h1, h2, h3, h4⟩ := hc
    exact ⟨x, c2, h1, by rw [h.leaf]; exact h2, MR.cells hT h [x] h3, MRL.caps hT h' c2 h4⟩
end
theorem MR.value1 (hT : Turned n0 σ H fz ρ ρ' w) {u v : VV} {x : Value} (h : MR n0 σ H fz u v) (hx : VR1 ρ w u x) : VR1 ρ' w v x := by
  by_cases hu : ∃ us, u = .agg us
  · obtain ⟨us, rfl⟩ := hu
    have key : ∃ vs, v = .agg vs ∧ ∀ cs, CR ρ w us cs → CR ρ' w vs cs := by
      cases h with
      | data _ h => exact ⟨us, rfl, fun cs hc => CR.data hT.un us cs (by simpa only [nl] using h) hc⟩
      | agg h => exact ⟨_, rfl, fun cs hc => MRL.cells hT h cs hc⟩
    obtain ⟨vs, rfl, hk⟩ := key
    obtain ⟨cs, h1, h2⟩ := hx
    exact ⟨cs, h1, hk _ h2⟩
  · have h1 : C1 ρ w u [x] := by
      cases u with
      | agg us => exact absurd ⟨us, rfl⟩ hu
      | any => cases h with | data _ h => simp [nl] at h
      | _ => exact hx
    have h2 := MR.cells hT h [x] h1
    cases v with
    | agg vs => cases h with
      | data _ _ => exact absurd ⟨vs, rfl⟩ hu
      | agg _ => exact absurd ⟨_, rfl⟩ hu
    | any => trivial
    | _ => exact h2
theorem MRL.values (hT : Turned n0 σ H fz ρ ρ' w) : ∀ {us vs : List VV}, MRL n0 σ H fz us vs → ∀ (xs : List Value), VRs ρ w us xs → VRs ρ' w vs xs
  | _, _, .nil, xs, hx => hx
  | _, _, .cons h h', xs, hx => by
    obtain ⟨x, ys, h1, h2, h3⟩ := hx
    exact ⟨x, ys, h1, MR.value1 hT h h2, MRL.values hT h' ys h3⟩
theorem MRL.data : ∀ (l : List VV), nls l = true → MRL n0 σ H fz l l
  | [], _ => .nil
  | v :: l, h => by
    simp only [nls,Bool.and_eq_true] at h
    exact .cons (.data v h.1) (MRL.data l h.2)
theorem MR.value (hT : Turned n0 σ H fz ρ ρ' w) {u v : VV} {x : Value} (h : MR n0 σ H fz u v) (hx : VR ρ w u x) : VR ρ' w v x := by
  by_cases hu : ∃ us, u = .tup us
  · obtain ⟨us, rfl⟩ := hu
    have key : ∃ vs, v = .tup vs ∧ MRL n0 σ H fz us vs := by
      cases h with
      | data _ h => exact ⟨us, rfl, MRL.data us (by simpa only [nl] using h)⟩
      | tup h => exact ⟨_, rfl, h⟩
    obtain ⟨vs, rfl, hk⟩ := key
    obtain ⟨xs, h1, h2⟩ := hx
    exact ⟨xs, h1, MRL.values hT hk _ h2⟩
  · have h1 : VR1 ρ w u x := by cases u <;> first | exact hx | exact absurd ⟨_, rfl⟩ hu
    have h2 := MR.value1 hT h h1
    cases v with
    | tup vs => cases h with
      | data _ _ => exact absurd ⟨_, rfl⟩ hu
      | tup _ => exact absurd ⟨_, rfl⟩ hu
    | _ => exact h2
end
def Ren (n0 : Nat) (S T : VS) : Prop :=
  ∀ (N : NN) (B : Nat) (ρ0 : Names) (w0 : World) (a : Act) (w : World) (ρ : Names), (∀ m, n0 ≤ m → ρ0 m = none) → SR N B ρ0 w0 S a w ρ → ∃ ρ', SR N B ρ0 w0 T a w ρ'
theorem Ren.refl (n0 : Nat) (S : VS) : Ren n0 S S := fun _ _ _ _ _ _ ρ _ h => ⟨ρ, h⟩
def AllS (n0 : Nat) (σ : List (Nat × Nat)) (H : Heap) (fz : Bool) (tm : Nat → VV) : List (Nat × VV) → Prop
  | [] => True
  | (k, v) :: l => MR n0 σ H fz (tm k) v ∧ AllS n0 σ H fz tm l
inductive MB (n0 : Nat) (σ : List (Nat × Nat)) (H : Heap) (fz : Bool) : Blk → Blk → Prop
  | row {s : Sh} {u v : VV} (h : MR n0 σ H fz u v) : MB n0 σ H fz (.row s u) (.row s v)
  | map {es : List (VV × VV)} (h : ∀ x ∈ es, nl x.1 = true ∧ nl x.2 = true) : MB n0 σ H fz (.map es) (.map es)
def AllB (n0 : Nat) (σ : List (Nat × Nat)) (H : Heap) (fz : Bool) : List (Nat × Blk) → Prop
  | [] => True
  | (k, b) :: l => (known n0 σ k → ∃ b0, H (turn σ k) = some b0 ∧ MB n0 σ H fz b0 b) ∧ AllB n0 σ H fz l
theorem AllS.at {n0 : Nat} {σ : List (Nat × Nat)} {H : Heap} {fz : Bool} {tm : Nat → VV} : ∀ (l : List (Nat × VV)), AllS n0 σ H fz tm l → ∀ t, slots l t = .any ∨ MR n0 σ H fz (tm t) (slots l t)
  | [], _, t => .inl rfl
  | (k, v) :: l, h, t => by
    rw [slots_cons]
    split
    · rename_i e; subst e; exact .inr h.1
    · exact AllS.at l h.2 t
theorem AllB.at {n0 : Nat} {σ : List (Nat × Nat)} {H : Heap} {fz : Bool} : ∀ (l : List (Nat × Blk)), AllB n0 σ H fz l → ∀ m b, rows l m = some b → known n0 σ m → ∃ b0, H (turn σ m) = some b0 ∧ MB n0 σ H fz b0 b
  | [], _, m, b, h => by cases h
  | (k, v) :: l, hl, m, b, h => by
    rw [rows_cons] at h
    split at h
    · rename_i e; subst e; injection h with h; subst h; exact hl.1
    · exact AllB.at l hl.2 m b h
theorem turn_low : ∀ (σ : List (Nat × Nat)) (m : Nat), m ∉ σ.map (·.1) → turn σ m = m
  | [], m, _ => rfl
  | (k, j) :: l, m, h => by
    simp only [List.map_cons,List.mem_cons,not_or] at h
    rw [turn_cons, if_neg h.1, turn_low l m h.2]
theorem turn_mem : ∀ (σ : List (Nat × Nat)) (m : Nat), m ∈ σ.map (·.1) → (m, turn σ m) ∈ σ
  | [], m, h => by simp at h
  | (k, j) :: l, m, h => by
    rw [turn_cons]
    split
    · rename_i e; subst e; simp
    · rename_i e
      simp only [List.map_cons,List.mem_cons] at h
      exact List.mem_cons_of_mem _ (turn_mem l m (h.resolve_left e))
def jN (n0 n : Nat) (ks : List Nat) (σ : List (Nat × Nat)) : Bool :=
  (σ.all fun x => decide (n0 ≤ x.1) && decide (x.1 < n) && decide (n0 ≤ x.2) && ks.contains x.1) && decide ((σ.map (·.2)).Nodup)
theorem turn_inj {n0 n : Nat} {ks : List Nat} {σ : List (Nat × Nat)} (h : jN n0 n ks σ = true) (m m' : Nat) (h1 : known n0 σ m) (h2 : known n0 σ m') (he : turn σ m = turn σ m') : m = m' := by
  simp only [jN,Bool.and_eq_true,decide_eq_true_eq,List.all_eq_true] at h
  obtain ⟨ha, hd⟩ := h
  have low : ∀ m, m < n0 → turn σ m = m := fun m hm => turn_low σ m fun hmem => by
    obtain ⟨x, hx, rfl⟩ := List.mem_map.1 hmem
    have := (ha x hx).1.1.1
    omega
  have inj : ∀ (l : List (Nat × Nat)), (l.map (·.2)).Nodup → ∀ x y, x ∈ l → y ∈ l → x.2 = y.2 → x = y := by
    intro l
    induction l with
    | nil => intro _ x y hx; simp at hx
    | cons z l ih =>
      intro hd x y hx hy e
      simp only [List.map_cons,List.nodup_cons] at hd
      rcases List.mem_cons.1 hx with g1 | g1
      · rcases List.mem_cons.1 hy with g2 | g2
        · rw [g1, g2]
        · exact (hd.1 (List.mem_map.2 ⟨y, g2, by rw [← e, g1]⟩)).elim
      · rcases List.mem_cons.1 hy with g2 | g2
        · exact (hd.1 (List.mem_map.2 ⟨x, g1, by rw [e, g2]⟩)).elim
        · exact ih hd.2 x y g1 g2 e
  have mem : ∀ m, m ∈ σ.map (·.1) → (m, turn σ m) ∈ σ := turn_mem σ
  rcases h1 with h1 | h1
  · rcases h2 with h2 | h2
    · rw [low m h1, low m' h2] at he; exact he
    · have := (ha _ (mem m' h2)).1.2
      rw [low m h1] at he
      dsimp only at this
      omega
  · rcases h2 with h2 | h2
    · have := (ha _ (mem m h1)).1.2
      rw [low m' h2] at he
      dsimp only at this
      omega
    · have := inj σ hd _ _ (mem m h1) (mem m' h2) he
      exact congrArg Prod.fst this
theorem rows_mem : ∀ (h : List (Nat × Blk)) (k : Nat), k ∈ h.map (·.1) → ∃ b, rows h k = some b
  | [], k, hk => by simp at hk
  | (j, b) :: l, k, hk => by
    rw [rows_cons]
    split
    · exact ⟨b, rfl⟩
    · rename_i e
      simp only [List.map_cons,List.mem_cons] at hk
      exact rows_mem l k (hk.resolve_left e)
theorem Ren.mk {n0 n n' : Nat} {tm : Nat → VV} {H : Heap} {l : List (Nat × VV)} {h : List (Nat × Blk)} (σ : List (Nat × Nat)) (fz : Bool) (hfz : fz = true → n0 = 0) (hσ : jN n0 n' (h.map (·.1)) σ = true) (hn : n0 ≤ n')
    (h1 : AllS n0 σ H fz tm l) (h3 : AllB n0 σ H fz h) :
    Ren n0 ⟨tm, H, n⟩ ⟨slots l, rows h, n'⟩ := by
  intro N B ρ0 w0 a w ρ h0 hS
  classical
  have hinj := turn_inj hσ
  have hσ' := hσ
  simp only [jN,Bool.and_eq_true,decide_eq_true_eq,List.all_eq_true] at hσ'
  obtain ⟨ha, _⟩ := hσ'
  have hh := hS.heap
  have he := hS.ext
  dsimp only at hh
  let ρ' : Names := ⟨fun m => if known n0 σ m then ρ (turn σ m) else none, fun b => ρ.im b ∨ (fz = true ∧ w0.heap.size ≤ b)⟩
  have hρ : ∀ m, known n0 σ m → ρ' m = ρ (turn σ m) := fun m hm => if_pos hm
  have hρ2 : ∀ m l, ρ' m = some l → known n0 σ m ∧ ρ (turn σ m) = some l := fun m l hm => by
    by_cases hk : known n0 σ m
    · exact ⟨hk, by rw [← hρ m hk]; exact hm⟩
    · have : ρ' m = none := if_neg hk
      rw [this] at hm
      cases hm
  have hU : ∀ b, Unnamed ρ b → Unnamed ρ' b := fun b hb => ⟨.inl hb.1, fun m l hm => hb.2 _ l (hρ2 m l hm).2⟩
  have low : ∀ m, m < n0 → turn σ m = m := fun m hm => turn_low σ m fun hmem => by
    obtain ⟨x, hx, rfl⟩ := List.mem_map.1 hmem
    have := (ha x hx).1.1.1
    omega
  have live : ∀ m, m ∈ σ.map (·.1) → H (turn σ m) ≠ none := fun m hm => by
    have h5 := (ha _ (turn_mem σ m hm)).2
    dsimp only at h5
    obtain ⟨b, hb⟩ := rows_mem h m (by simpa using h5)
    obtain ⟨b0, h6, _⟩ := AllB.at h h3 m b hb (.inr hm)
    rw [h6]; simp
  have hT : Turned n0 σ H fz ρ ρ' w := by
    refine ⟨hρ, hU, fun hf m s v l' hm hk hl => ?_⟩
    have hz := hfz hf
    have hlt := hh.lt m l' hl
    refine ⟨⟨.inr ⟨hf, ?_⟩, fun m2 l2 hm2 e => ?_⟩, hlt.2, hh.row m s v l' hm hl⟩
    · rcases he.fresh m l' hl with g | g | ⟨m0, l0, g, _⟩
      · rw [h0 m (by omega)] at g; cases g
      · exact g
      · rw [h0 m0 (by omega)] at g; cases g
    · obtain ⟨k1, k2⟩ := hρ2 m2 l2 hm2
      rcases k1 with k1 | k1
      · omega
      · have := hh.apart _ m l2 l' k2 hl (live m2 k1) (by rw [hm]; simp) e
        exact hk (by rw [← this]; exact List.mem_map.2 ⟨_, turn_mem σ m2 k1, rfl⟩)
  refine ⟨ρ', ⟨fun t => ?_, hS.defers, hS.size, ?_, hS.below, ?_⟩⟩
  · dsimp only
    rcases AllS.at l h1 t with e | e
    · rw [e]; simp [VR, VR1]
    · have := hS.tm t
      dsimp only at this
      exact MR.value hT e this
  · dsimp only
    refine ⟨hh.bas.im (fun _ h => .inl h), fun m hm => ?_, fun m l hm => hh.lt _ l (hρ2 m l hm).2, fun m m' l1 l2 g1 g2 e1 e2 hb => ?_, fun m s v l' hm hl => ?_, fun m es l' hm hl => ?_⟩
    · have hm : n' ≤ m := hm
      refine if_neg fun hk => ?_
      rcases hk with hk | hk
      · omega
      · have := (ha _ (turn_mem σ m hk)).1.1.2
        dsimp only at this
        omega
    · obtain ⟨k1, k2⟩ := hρ2 m l1 g1
      obtain ⟨k3, k4⟩ := hρ2 m' l2 g2
      have lv : ∀ m, known n0 σ m → rows h m ≠ none → H (turn σ m) ≠ none := fun m hk hm => by
        cases hr : rows h m with
        | none => exact absurd hr hm
        | some b => obtain ⟨b0, h6, _⟩ := AllB.at h h3 m b hr hk; rw [h6]; simp
      exact hinj m m' k1 k3 (hh.apart _ _ l1 l2 k2 k4 (lv m k1 e1) (lv m' k3 e2) hb)
    · obtain ⟨k1, k2⟩ := hρ2 m l' hl
      obtain ⟨b0, hb, hm⟩ := AllB.at h h3 m _ hm k1
      cases hm with
      | row hm =>
        rename_i u
        have hrow := hh.row _ s u l' hb k2
        obtain ⟨cs, c1, c2, c3⟩ := hrow.cells
        exact ⟨hrow.sh, hm.has s hrow.has, ⟨cs, MR.cells hT hm cs c1, c2, c3⟩, hrow.room⟩
    · obtain ⟨k1, k2⟩ := hρ2 m l' hl
      obtain ⟨b0, hb, hm⟩ := AllB.at h h3 m _ hm k1
      cases hm with
      | map hv =>
        have hmap := hh.map _ _ l' hb k2
        obtain ⟨xs, clock, c1, c2⟩ := hmap.obj
        refine ⟨⟨xs, clock, c1, ?_⟩, hmap.born⟩
        have key : ∀ (es : List (VV × VV)) (xs : List MapEntry), (∀ x ∈ es, nl x.1 = true ∧ nl x.2 = true) → ME ρ w es xs → ME ρ' w es xs := by
          intro es
          induction es with
          | nil => intro xs _ h; exact h
          | cons x es ih =>
            intro xs hq h
            obtain ⟨y, ys, g1, g2, g3, g4, g5⟩ := h
            obtain ⟨q1, q2⟩ := hq x (by simp)
            exact ⟨y, ys, g1, g2, MR.value1 hT (.data _ q1) g3, MR.value1 hT (.data _ q2) g4, ih ys (fun z hz => hq z (by simp [hz])) g5⟩
        exact key es _ hv c2
  · refine ⟨fun m l hm => ?_, he.size, fun b hb hu => he.block b hb hu, fun m l hm => ?_, fun b hb => .inl (he.im b hb), fun b hb => ?_⟩
    · have hlt : m < n0 := by
        rcases Nat.lt_or_ge m n0 with h | h
        · exact h
        · rw [h0 m h] at hm; cases hm
      rw [hρ m (.inl hlt), low m hlt]
      exact he.names m l hm
    · obtain ⟨k1, k2⟩ := hρ2 m l hm
      rcases he.fresh _ l k2 with g | g | g
      · exact .inr (.inr ⟨_, l, g, rfl⟩)
      · exact .inr (.inl g)
      · exact .inr (.inr g)
    · rcases hb with hb | hb
      · exact he.imb b hb
      · exact .inr hb.2

/-! ### rules -/
section
variable {P : Program} {n0 : Nat} {S T : VS} {K K' : VX → VS → Prop}
theorem ok_ren {c : Code} (h : Ren n0 S T) (h' : Ok P n0 c T K) : Ok P n0 c S K := fun N B ρ0 w0 Q a w ρ h0 hok hS next => by
  obtain ⟨ρ1, h1⟩ := h N B ρ0 w0 a w ρ h0 hS
  exact h' N B ρ0 w0 Q a w ρ1 h0 hok h1 next
theorem jn (h : K .normal S) : Ok P n0 .skip S K := fun N B ρ0 w0 Q a w ρ _ _ hS next => wp_skip (next .normal S a w ρ h hS)
theorem jo {l : Nat} (h : K .normal S) : Ok P n0 (.label l) S K := fun N B ρ0 w0 Q a w ρ _ _ hS next => wp_label (next .normal S a w ρ h hS)
theorem jp {i : Nat} (h : K (.exit i) S) : Ok P n0 (.exit i) S K := fun N B ρ0 w0 Q a w ρ _ _ hS next => wp_exit (next (.exit i) S a w ρ h hS)
theorem jq (h : K .ret S) : Ok P n0 .ret S K := fun N B ρ0 w0 Q a w ρ _ _ hS next => wp_ret (next .ret S a w ρ h hS)
theorem jr {x y : Code} (h : Ok P n0 x S (VX.seq (fun S' => Ok P n0 y S' K) K)) : Ok P n0 (.seq x y) S K := fun N B ρ0 w0 Q a w ρ h0 hok hS next => by
  simp only [codeOk,Bool.and_eq_true] at hok
  refine wp_seq (h N B ρ0 w0 _ a w ρ h0 hok.1 hS fun e S' a' w' ρ' hk hS' => ?_)
  cases e with
  | normal => exact hk N B ρ0 w0 Q a' w' ρ' h0 hok.2 hS' next
  | exit i => exact next (.exit i) S' a' w' ρ' hk hS'
  | ret => exact next .ret S' a' w' ρ' hk hS'
theorem jf {c : Operand} {x y : Code} {t : Bool} (hc : ev S.tm c = .bool t) (h : vif t (Ok P n0 x S K) (Ok P n0 y S K)) : Ok P n0 (.cond c x y) S K := fun N B ρ0 w0 Q a w ρ h0 hok hS next => by
  simp only [codeOk,Bool.and_eq_true] at hok
  have hx := ev_sound hS.tm c
  rw [hc] at hx
  exact wp_cond_split hx.bool (fun ht => h.1 ht N B ρ0 w0 Q a w ρ h0 hok.1 hS next) (fun ht => h.2 ht N B ρ0 w0 Q a w ρ h0 hok.2 hS next)
theorem jl {id : Nat} {c : Code} (h : Ok P n0 c S (VX.block id K)) : Ok P n0 (.block id c) S K := fun N B ρ0 w0 Q a w ρ h0 hok hS next => by
  simp only [codeOk] at hok
  refine wp_block (h N B ρ0 w0 _ a w ρ h0 hok hS fun e S' a' w' ρ' hk hS' => ?_)
  cases e with
  | normal => exact next .normal S' a' w' ρ' hk hS'
  | ret => exact next .ret S' a' w' ρ' hk hS'
  | exit j =>
    simp only [VX.block] at hk
    show Exit.inBlock id Q (.exit j) a' w'
    unfold Exit.inBlock
    dsimp only
    split at hk
    · rename_i e; rw [if_pos e]; exact next .normal S' a' w' ρ' hk hS'
    · rename_i e; rw [if_neg e]; exact next (.exit j) S' a' w' ρ' hk hS'
theorem jm {c : Code} (h : Ok P n0 c S K) : Ok P n0 (.scope c) S K := fun N B ρ0 w0 Q a w ρ h0 hok hS next => by
  simp only [codeOk] at hok
  refine wp_scope_straight (h N B ρ0 w0 _ a w ρ h0 hok hS fun e S' a' w' ρ' hk hS' => ?_)
  have := next e S' a' w' ρ' hk hS'
  cases e <;> exact this
theorem jk {id : Nat} {l : List Oper} (h : ∀ M : VS → Prop, (∀ S, K .normal S → M S) → vl P l l S M) : Ok P n0 (.region id l.toArray false) S K := fun N B ρ0 w0 Q a w ρ h0 hok hS next => by
  simp only [codeOk,List.all_eq_true] at hok
  refine wp_region_list (vlist_sound (K := K .normal) l S a w ρ (fun o ho t ht => by have := hok o ho; rw [ht] at this; simpa using this) ?_ hS fun S' a' w' ρ' hk hS' => next .normal S' a' w' ρ' hk hS')
  rw [← vl_def]
  exact h _ fun _ h => h
theorem ok_draw {id : Nat} {l : List Oper} {tm : Nat → VV} {H : Heap} {n : Nat} (k : Nat) (hm : P.follows .mixedOrders = true) (hd : drawOk l.toArray k = true) (hfr : ∀ m, n ≤ m → H m = none)
    (h : ∀ M : VS → Prop, (∀ S, K .normal S → M S) → vh P l (l.take k) tm H n fun tm H n => vl P l (l.drop k) ⟨tm, H, n⟩ M) : Ok P n0 (.region id l.toArray true) ⟨tm, H, n⟩ K := fun N B ρ0 w0 Q a w ρ h0 hok hS next => by
  simp only [codeOk,List.all_eq_true] at hok
  exact region_intro (S := ⟨tm, H, n⟩) hm hfr k hd (by simpa only [vh_def,vl_def] using h _ fun _ h => h) id N B ρ0 w0 Q a w ρ (fun o ho t ht => by have := hok o ho; rw [ht] at this; simpa using this) hS.tm hS.defers hS.size hS.heap hS.below hS.ext
    fun S' a' w' ρ' hk h1 h2 h3 h4 h5 h6 => next .normal S' a' w' ρ' hk ⟨h1, h2, h3, h4, h5, h6⟩
def CX {α : Type} (n0 : Nat) (fr : α → VS) (I : α → Prop) (K : VX → VS → Prop) : VX → VS → Prop
  | .normal, S => ∃ x, Ren n0 S (fr x) ∧ I x
  | .exit i, S => K (.exit i) S
  | .ret, S => K .ret S
def LX {α : Type} (n0 : Nat) (fr : α → VS) (I : α → Prop) (μ : α → Nat) (m : Nat) (K : VX → VS → Prop) : VX → VS → Prop
  | .normal, S => ∃ x, Ren n0 S (fr x) ∧ I x ∧ μ x < m
  | .exit i, S => K (.exit i) S
  | .ret, S => K .ret S
theorem ok_loop {α : Type} {c : Code} (fr : α → VS) (I : α → Prop) (μ : α → Nat) (x0 : α) (h0 : Ren n0 S (fr x0)) (hI : I x0) (round : ∀ x, I x → Ok P n0 c (fr x) (LX n0 fr I μ (μ x) K)) : Ok P n0 (.loop c) S K := fun N B ρ0 w0 Q a w ρ hn hok hS next => by
  simp only [codeOk] at hok
  obtain ⟨ρ1, hS1⟩ := h0 N B ρ0 w0 a w ρ hn hS
  refine wp_loop_rel (fun (x : α) a w => I x ∧ ∃ ρ, SR N B ρ0 w0 (fr x) a w ρ) μ (s := x0) ⟨hI, ρ1, hS1⟩ fun x a w hs => ?_
  obtain ⟨hIx, ρx, hSx⟩ := hs
  refine round x hIx N B ρ0 w0 _ a w ρx hn hok hSx fun e S' a' w' ρ' hk hS' => ?_
  cases e with
  | normal =>
    obtain ⟨y, g1, g2, g3⟩ := hk
    obtain ⟨ρ2, hS2⟩ := g1 N B ρ0 w0 a' w' ρ' hn hS'
    exact ⟨y, ⟨g2, ρ2, hS2⟩, g3⟩
  | exit i => exact next (.exit i) S' a' w' ρ' hk hS'
  | ret => exact next .ret S' a' w' ρ' hk hS'
theorem ok_body {fn : Func} {f : FuncId} (hf : P.funcs[f]? = some fn) {c : Code} {rs : List ResultVar} (hb : fn.body = some c) (hr : fn.results.toList = rs) (hok : codeOk fn.ntmps c = true) {args : List VV} {k : Nat} (hl : args.length = k) (hlen : k ≤ fn.ntmps) {H : Heap} {n : Nat} {K : VV → Heap → Nat → Prop}
    (h : Ok P n c ⟨argsF 0 args (fun _ => .any), H, n⟩ (fin P rs K)) : vcall P f args H n K := by
  intro B ρ w xs hh ha
  have hxl := ha.len
  refine calls_of_wp hf hb ?_
  have hTM : TM ρ w (argsF 0 args (fun _ => .any)) { tmps := xs.toArray ++ Array.replicate (fn.ntmps - xs.toArray.size) undef, defers := [] } := by
    intro t
    rw [argsF_at]
    split
    · rename_i ht
      have ht' : t < xs.length := by omega
      have key : ∀ (vs : List VV) (xs : List Value) (t : Nat), VRA ρ w vs xs → t < xs.length → VR ρ w (vs.getD t .any) (xs.getD t undef) := by
        intro vs
        induction vs with
        | nil => intro xs t h ht; have h : xs = [] := h; subst h; simp at ht
        | cons v vs ih =>
          intro xs t h ht
          obtain ⟨x, ys, rfl, h1, h2⟩ := h
          cases t with
          | zero => simpa using h1
          | succ t => simpa using ih ys t h2 (by simpa using ht)
      have := key args xs t ha ht'
      simpa [Array.getD_eq_getD_getElem?, Array.getElem?_append, ht', List.getD_eq_getElem?_getD] using this
    · simp [VR, VR1]
  have hSR : SR ⟨fn.ntmps, []⟩ B ρ w ⟨argsF 0 args (fun _ => .any), H, n⟩ { tmps := xs.toArray ++ Array.replicate (fn.ntmps - xs.toArray.size) undef, defers := [] } w ρ :=
    ⟨hTM, rfl, by simp; omega, hh, Below.refl _ _, Ext.refl _ _⟩
  refine h ⟨fn.ntmps, []⟩ B ρ w _ _ w ρ (fun m hm => hh.fresh m hm) hok hSR fun e S' a' w' ρ' hk hS' => ?_
  cases e with
  | exit i => exact hk.elim
  | normal =>
    simp only [fin] at hk
    rw [← hr] at hk
    obtain ⟨v, x, h1, h2, h3⟩ := vres_sound hS' fn _ hk
    exact bodyPost_end h3 hS'.defers ⟨x, rfl, v, _, _, ρ', h1, h2, hS'.heap, hS'.ext, hS'.below⟩
  | ret =>
    simp only [fin] at hk
    rw [← hr] at hk
    obtain ⟨v, x, h1, h2, h3⟩ := vres_sound hS' fn _ hk
    exact bodyPost_ret h3 hS'.defers ⟨x, rfl, v, _, _, ρ', h1, h2, hS'.heap, hS'.ext, hS'.below⟩
theorem spec_ok {fn : Func} {f : FuncId} (hf : P.funcs[f]? = some fn) {c : Code} {rs : List ResultVar} (hb : fn.body = some c) (hr : fn.results.toList = rs) (hok : codeOk fn.ntmps c = true) {ds : List VV} {r : VV} {k : Nat} (hl : ds.length = k) (hlen : k ≤ fn.ntmps)
    (h : Ok P 0 c ⟨argsF 0 ds (fun _ => .any), fun _ => none, 0⟩ (fin P rs fun v H _ => RdT H v r)) : Spec P f ds r := by
  intro U w xs hB ha
  have hh : HR ZT w.heap.size (.bare U) (fun _ => none) 0 w := ⟨hB, fun _ _ => rfl, fun m l h => (by cases h), fun m m' l l' h => (by cases h), fun m s v l h => (by cases h), fun m es l h => (by cases h)⟩
  refine (ok_body hf hb hr hok hl hlen h w.heap.size (.bare U) w xs hh ha).mono fun e w' ⟨x, he, v, H', n', ρ', hk, hv, hh', hext, hb⟩ => ⟨x, he, hb, ?_⟩
  exact hk.value hh' hext.imb (fun m l hl => .inr (hh'.lt m l hl).1) hv
end
theorem xb2 {i : Nat} {K : VX → VS → Prop} {S : VS} (h : K .normal S) : VX.block i K (.exit i) S := by rw [x_block2, if_pos rfl]; exact h
theorem xb3 {i j : Nat} {K : VX → VS → Prop} {S : VS} (hij : j ≠ i) (h : K (.exit j) S) : VX.block i K (.exit j) S := by rw [x_block2, if_neg hij]; exact h
section
variable {α : Type} {n0 : Nat} {fr : α → VS} {I : α → Prop} {μ : α → Nat} {m : Nat} {K : VX → VS → Prop} {S : VS}
theorem xl1 (x : α) (h1 : Ren n0 S (fr x)) (h2 : I x) (h3 : μ x < m) : LX n0 fr I μ m K .normal S := ⟨x, h1, h2, h3⟩
end
theorem vif_t {A B : Prop} (h : A) : vif true A B := ⟨fun _ => h, fun h => by cases h⟩
theorem vif_f {A B : Prop} (h : B) : vif false A B := ⟨fun h => (by cases h), fun _ => h⟩
theorem jJ {n0 : Nat} {σ : List (Nat × Nat)} {H : Heap} {fz : Bool} {es es' : List (VV × VV)} (e : es = es') (h : (es.all fun q => nl q.1 && nl q.2) = true) : MB n0 σ H fz (.map es) (.map es') := by
  subst e
  exact MB.map fun x hx => by
    have := List.all_eq_true.1 h x hx
    simpa using this
end Go.Proofs.YtcilmfhncjfdbaaDoor.V
end
section
/-
  The types of the program, as the machine of values has them: shapes, zero values, kinds. Printed by a program.
-/
set_option linter.unusedVariables false
namespace Go.Proofs.YtcilmfhncjfdbaaDoor.V
open Go
theorem tab_0 : SH Tryd.prog 1 = some .cell ∧ SH Tryd.prog 2 = some .cell ∧ SH Tryd.prog 3 = some .cell ∧ SH Tryd.prog 4 = some .cell ∧ SH Tryd.prog 5 = some .cell ∧ SH Tryd.prog 9 = some .cell ∧ SH Tryd.prog 12 = some .cell ∧ SH Tryd.prog 13 = some (.st [.cell, .cell]) ∧ SH Tryd.prog 20 = some .cell ∧ SH Tryd.prog 21 = some .cell ∧ SH Tryd.prog 22 = some .cell ∧ SH Tryd.prog 23 = some .cell ∧ SH Tryd.prog 24 = some .cell ∧ SH Tryd.prog 25 = some (.st [.cell, .cell, .cell]) ∧ SH Tryd.prog 26 = some (.st [.cell, .cell, .cell]) ∧ SH Tryd.prog 27 = some .cell ∧ SH Tryd.prog 31 = some .cell ∧ SH Tryd.prog 33 = some .cell ∧ SH Tryd.prog 35 = some .cell ∧ SH Tryd.prog 38 = some .cell ∧ SH Tryd.prog 39 = some (.st [.cell, .cell]) ∧ SH Tryd.prog 40 = some (.st [.cell, .cell]) ∧ SH Tryd.prog 41 = some (.arr 32 .cell) ∧ SH Tryd.prog 42 = some (.arr 32 .cell) ∧ SH Tryd.prog 43 = some .cell ∧ SH Tryd.prog 44 = some .cell ∧ SH Tryd.prog 45 = some .cell ∧ SH Tryd.prog 46 = some .cell ∧ SH Tryd.prog 49 = some .cell ∧ SH Tryd.prog 51 = some .cell ∧ SH Tryd.prog 54 = some .cell ∧ SH Tryd.prog 55 = some .cell ∧ SH Tryd.prog 56 = some .cell ∧ SH Tryd.prog 57 = some .cell ∧ SH Tryd.prog 59 = some .cell ∧ SH Tryd.prog 60 = some .cell ∧ SH Tryd.prog 65 = some .cell ∧ SH Tryd.prog 66 = some (.arr 8 .cell) ∧ SH Tryd.prog 67 = some .cell ∧ SH Tryd.prog 68 = some .cell := by
  refine ⟨(by kernel_rfl), (by kernel_rfl), (by kernel_rfl), (by kernel_rfl), (by kernel_rfl), (by kernel_rfl), (by kernel_rfl), (by kernel_rfl), (by kernel_rfl), (by kernel_rfl), (by kernel_rfl), (by kernel_rfl), (by kernel_rfl), (by kernel_rfl), (by kernel_rfl), (by kernel_rfl), (by kernel_rfl), (by kernel_rfl), (by kernel_rfl), (by kernel_rfl), (by kernel_rfl), (by kernel_rfl), (by kernel_rfl), (by kernel_rfl), (by kernel_rfl), (by kernel_rfl), (by kernel_rfl), (by kernel_rfl), (by kernel_rfl), (by kernel_rfl), (by kernel_rfl), (by kernel_rfl), (by kernel_rfl), (by kernel_rfl), (by kernel_rfl), (by kernel_rfl), (by kernel_rfl), (by kernel_rfl), (by kernel_rfl), (by kernel_rfl)⟩
theorem tab_1 : SH Tryd.prog 69 = some .cell ∧ SH Tryd.prog 70 = some .cell ∧ SH Tryd.prog 71 = some .cell ∧ SH Tryd.prog 73 = some .cell ∧ SH Tryd.prog 74 = some .cell ∧ SH Tryd.prog 75 = some .cell ∧ SH Tryd.prog 76 = some (.st [.cell, .cell]) ∧ SH Tryd.prog 77 = some (.st [.cell, .cell]) ∧ SH Tryd.prog 78 = some .cell ∧ SH Tryd.prog 79 = some .cell ∧ SH Tryd.prog 81 = some .cell ∧ SH Tryd.prog 82 = some .cell ∧ SH Tryd.prog 83 = some .cell ∧ SH Tryd.prog 85 = some .cell ∧ SH Tryd.prog 86 = some .cell ∧ SH Tryd.prog 87 = some .cell ∧ SH Tryd.prog 89 = some .cell ∧ SH Tryd.prog 90 = some .cell ∧ SH Tryd.prog 91 = some .cell ∧ SH Tryd.prog 92 = some .cell ∧ SH Tryd.prog 93 = some (.arr 8 .cell) ∧ SH Tryd.prog 94 = some .cell ∧ SH Tryd.prog 95 = some (.arr 64 .cell) ∧ SH Tryd.prog 96 = some (.st [(.arr 8 .cell), (.arr 64 .cell), .cell, .cell]) ∧ SH Tryd.prog 97 = some (.st [(.arr 8 .cell), (.arr 64 .cell), .cell, .cell]) ∧ SH Tryd.prog 98 = some .cell ∧ SH Tryd.prog 99 = some .cell ∧ SH Tryd.prog 100 = some .cell ∧ SH Tryd.prog 101 = some (.arr 16 .cell) ∧ SH Tryd.prog 102 = some .cell ∧ SH Tryd.prog 103 = some .cell ∧ SH Tryd.prog 104 = some .cell ∧ SH Tryd.prog 106 = some .cell ∧ SH Tryd.prog 108 = some .cell ∧ SH Tryd.prog 109 = some .cell ∧ SH Tryd.prog 110 = some .cell ∧ SH Tryd.prog 111 = some .cell ∧ SH Tryd.prog 112 = some .cell ∧ SH Tryd.prog 113 = some .cell ∧ SH Tryd.prog 114 = some .cell := by
  refine ⟨(by kernel_rfl), (by kernel_rfl), (by kernel_rfl), (by kernel_rfl), (by kernel_rfl), (by kernel_rfl), (by kernel_rfl), (by kernel_rfl), (by kernel_rfl), (by kernel_rfl), (by kernel_rfl), (by kernel_rfl), (by kernel_rfl), (by kernel_rfl), (by kernel_rfl), (by kernel_rfl), (by kernel_rfl), (by kernel_rfl), (by kernel_rfl), (by kernel_rfl), (by kernel_rfl), (by kernel_rfl), (by kernel_rfl), (by kernel_rfl), (by kernel_rfl), (by kernel_rfl), (by kernel_rfl), (by kernel_rfl), (by kernel_rfl), (by kernel_rfl), (by kernel_rfl), (by kernel_rfl), (by kernel_rfl), (by kernel_rfl), (by kernel_rfl), (by kernel_rfl), (by kernel_rfl), (by kernel_rfl), (by kernel_rfl), (by kernel_rfl)⟩
theorem tab_2 : SH Tryd.prog 115 = some .cell ∧ SH Tryd.prog 116 = some (.arr 16 .cell) ∧ SH Tryd.prog 117 = some (.arr 10 (.arr 16 .cell)) ∧ SH Tryd.prog 118 = some .cell ∧ SH Tryd.prog 119 = some .cell ∧ SH Tryd.prog 120 = some .cell ∧ SH Tryd.prog 128 = some .cell ∧ ZE Tryd.prog 1 = some (.raw .nilFunc) ∧ ZE Tryd.prog 2 = some (.int .i64 0) ∧ ZE Tryd.prog 3 = some (.int .i64 0) ∧ ZE Tryd.prog 4 = some (.bool false) ∧ ZE Tryd.prog 5 = some (.int .u8 0) ∧ ZE Tryd.prog 9 = some (.str []) ∧ ZE Tryd.prog 12 = some (.int .u64 0) ∧ ZE Tryd.prog 13 = some (.agg [(.str []), (.int .u64 0)]) ∧ ZE Tryd.prog 20 = some (.raw .nilIface) ∧ ZE Tryd.prog 21 = some (.int .i32 0) ∧ ZE Tryd.prog 22 = some (.sl none 0) ∧ ZE Tryd.prog 23 = some (.raw .nilFunc) ∧ ZE Tryd.prog 24 = some (.sl none 0) ∧ ZE Tryd.prog 25 = some (.agg [(.sl none 0), (.sl none 0), (.int .i64 0)]) ∧ ZE Tryd.prog 26 = some (.agg [(.sl none 0), (.sl none 0), (.int .i64 0)]) ∧ ZE Tryd.prog 27 = some (.int .i64 0) ∧ ZE Tryd.prog 31 = some (.raw .nilFunc) ∧ ZE Tryd.prog 33 = some (.raw .nilFunc) ∧ ZE Tryd.prog 35 = some (.raw .nilFunc) ∧ ZE Tryd.prog 38 = some (.raw .nilFunc) ∧ ZE Tryd.prog 39 = some (.agg [(.int .i64 0), (.str [])]) ∧ ZE Tryd.prog 40 = some (.agg [(.int .i64 0), (.str [])]) ∧ ZE Tryd.prog 41 = some (.agg (List.replicate 32 (.int .u8 0))) ∧ ZE Tryd.prog 42 = some (.agg (List.replicate 32 (.int .u8 0))) ∧ ZE Tryd.prog 43 = some (.raw .nilFunc) ∧ ZE Tryd.prog 44 = some (.sl none 0) ∧ ZE Tryd.prog 45 = some (.raw .nilFunc) ∧ ZE Tryd.prog 46 = some (.raw .nilFunc) ∧ ZE Tryd.prog 49 = some (.raw .nilFunc) ∧ ZE Tryd.prog 51 = some (.raw .nilFunc) ∧ ZE Tryd.prog 54 = some (.raw .nilFunc) ∧ ZE Tryd.prog 55 = some (.sl none 0) ∧ ZE Tryd.prog 56 = some (.raw .nilFunc) := by
  refine ⟨(by kernel_rfl), (by kernel_rfl), (by kernel_rfl), (by kernel_rfl), (by kernel_rfl), (by kernel_rfl), (by kernel_rfl), (by kernel_rfl), (by kernel_rfl), (by kernel_rfl), (by kernel_rfl), (by kernel_rfl), (by kernel_rfl), (by kernel_rfl), (by kernel_rfl), (by kernel_rfl), (by kernel_rfl), (by kernel_rfl), (by kernel_rfl), (by kernel_rfl), (by kernel_rfl), (by kernel_rfl), (by kernel_rfl), (by kernel_rfl), (by kernel_rfl), (by kernel_rfl), (by kernel_rfl), (by kernel_rfl), (by kernel_rfl), (by kernel_rfl), (by kernel_rfl), (by kernel_rfl), (by kernel_rfl), (by kernel_rfl), (by kernel_rfl), (by kernel_rfl), (by kernel_rfl), (by kernel_rfl), (by kernel_rfl), (by kernel_rfl)⟩
theorem tab_3 : ZE Tryd.prog 57 = some (.raw .nilFunc) ∧ ZE Tryd.prog 59 = some (.raw .nilFunc) ∧ ZE Tryd.prog 60 = some (.raw .nilFunc) ∧ ZE Tryd.prog 65 = some (.int .u32 0) ∧ ZE Tryd.prog 66 = some (.agg (List.replicate 8 (.int .u32 0))) ∧ ZE Tryd.prog 67 = some (.raw .nilFunc) ∧ ZE Tryd.prog 68 = some (.raw .nilFunc) ∧ ZE Tryd.prog 69 = some (.raw .nilFunc) ∧ ZE Tryd.prog 70 = some (.raw .nilFunc) ∧ ZE Tryd.prog 71 = some (.int .u64 0) ∧ ZE Tryd.prog 73 = some (.raw .nilFunc) ∧ ZE Tryd.prog 74 = some (.sl none 0) ∧ ZE Tryd.prog 75 = some (.raw (.pointer none)) ∧ ZE Tryd.prog 76 = some (.agg [(.raw (.pointer none)), (.sl none 0)]) ∧ ZE Tryd.prog 77 = some (.agg [(.raw (.pointer none)), (.sl none 0)]) ∧ ZE Tryd.prog 78 = some (.raw .nilIface) ∧ ZE Tryd.prog 79 = some (.raw .nilIface) ∧ ZE Tryd.prog 81 = some (.raw .nilFunc) ∧ ZE Tryd.prog 82 = some (.raw .nilFunc) ∧ ZE Tryd.prog 83 = some (.raw .nilFunc) ∧ ZE Tryd.prog 85 = some (.raw .nilFunc) ∧ ZE Tryd.prog 86 = some (.raw .nilFunc) ∧ ZE Tryd.prog 87 = some (.int .u64 0) ∧ ZE Tryd.prog 89 = some (.raw .nilFunc) ∧ ZE Tryd.prog 90 = some (.raw .nilFunc) ∧ ZE Tryd.prog 91 = some (.raw .nilFunc) ∧ ZE Tryd.prog 92 = some (.raw .nilFunc) ∧ ZE Tryd.prog 93 = some (.agg (List.replicate 8 (.int .u8 0))) ∧ ZE Tryd.prog 94 = some (.raw (.pointer none)) ∧ ZE Tryd.prog 95 = some (.agg (List.replicate 64 (.int .u8 0))) ∧ ZE Tryd.prog 96 = some (.agg [(.agg (List.replicate 8 (.int .u32 0))), (.agg (List.replicate 64 (.int .u8 0))), (.int .i64 0), (.int .u64 0)]) ∧ ZE Tryd.prog 97 = some (.agg [(.agg (List.replicate 8 (.int .u32 0))), (.agg (List.replicate 64 (.int .u8 0))), (.int .i64 0), (.int .u64 0)]) ∧ ZE Tryd.prog 98 = some (.raw .nilFunc) ∧ ZE Tryd.prog 99 = some (.raw .nilFunc) ∧ ZE Tryd.prog 100 = some (.raw .nilFunc) ∧ ZE Tryd.prog 101 = some (.agg (List.replicate 16 (.int .u32 0))) ∧ ZE Tryd.prog 102 = some (.raw .nilFunc) ∧ ZE Tryd.prog 103 = some (.raw .nilFunc) ∧ ZE Tryd.prog 104 = some (.raw .nilFunc) ∧ ZE Tryd.prog 106 = some (.raw .nilFunc) := by
  refine ⟨(by kernel_rfl), (by kernel_rfl), (by kernel_rfl), (by kernel_rfl), (by kernel_rfl), (by kernel_rfl), (by kernel_rfl), (by kernel_rfl), (by kernel_rfl), (by kernel_rfl), (by kernel_rfl), (by kernel_rfl), (by kernel_rfl), (by kernel_rfl), (by kernel_rfl), (by kernel_rfl), (by kernel_rfl), (by kernel_rfl), (by kernel_rfl), (by kernel_rfl), (by kernel_rfl), (by kernel_rfl), (by kernel_rfl), (by kernel_rfl), (by kernel_rfl), (by kernel_rfl), (by kernel_rfl), (by kernel_rfl), (by kernel_rfl), (by kernel_rfl), (by kernel_rfl), (by kernel_rfl), (by kernel_rfl), (by kernel_rfl), (by kernel_rfl), (by kernel_rfl), (by kernel_rfl), (by kernel_rfl), (by kernel_rfl), (by kernel_rfl)⟩
theorem tab_4 : ZE Tryd.prog 108 = some (.raw .nilFunc) ∧ ZE Tryd.prog 110 = some (.raw .nilFunc) ∧ ZE Tryd.prog 111 = some (.raw (.pointer none)) ∧ ZE Tryd.prog 112 = some (.raw .nilFunc) ∧ ZE Tryd.prog 113 = some (.raw .nilFunc) ∧ ZE Tryd.prog 114 = some (.raw .nilFunc) ∧ ZE Tryd.prog 115 = some (.sl none 0) ∧ ZE Tryd.prog 116 = some (.agg (List.replicate 16 (.int .u8 0))) ∧ ZE Tryd.prog 117 = some (.agg (List.replicate 10 (.agg (List.replicate 16 (.int .u8 0))))) ∧ ZE Tryd.prog 118 = some (.raw .nilFunc) ∧ ZE Tryd.prog 119 = some (.raw (.pointer none)) ∧ ZE Tryd.prog 120 = some (.raw .nilFunc) ∧ ZE Tryd.prog 128 = some (.raw .nilFunc) ∧ EL Tryd.prog 22 = some 9 ∧ EL Tryd.prog 24 = some 40 ∧ EL Tryd.prog 44 = some 5 ∧ EL Tryd.prog 55 = some 56 ∧ EL Tryd.prog 74 = some 4 ∧ EL Tryd.prog 115 = some 65 ∧ Tryd.prog.underlying 2 = some (.int .i64) ∧ Tryd.prog.underlying 3 = some (.int .i64) ∧ Tryd.prog.underlying 4 = some .bool ∧ Tryd.prog.underlying 5 = some (.int .u8) ∧ Tryd.prog.underlying 9 = some .string ∧ Tryd.prog.underlying 12 = some (.int .u64) ∧ Tryd.prog.underlying 21 = some (.int .i32) ∧ Tryd.prog.underlying 22 = some (.slice 9) ∧ Tryd.prog.underlying 24 = some (.slice 40) ∧ Tryd.prog.underlying 27 = some (.int .i64) ∧ Tryd.prog.underlying 41 = some (.array 32 5) ∧ Tryd.prog.underlying 42 = some (.array 32 5) ∧ Tryd.prog.underlying 44 = some (.slice 5) ∧ Tryd.prog.underlying 55 = some (.slice 56) ∧ Tryd.prog.underlying 65 = some (.int .u32) ∧ Tryd.prog.underlying 66 = some (.array 8 65) ∧ Tryd.prog.underlying 71 = some (.int .u64) ∧ Tryd.prog.underlying 74 = some (.slice 4) ∧ Tryd.prog.underlying 75 = some (.pointer 77) ∧ Tryd.prog.underlying 87 = some (.int .u64) ∧ Tryd.prog.underlying 93 = some (.array 8 5) := by
  refine ⟨(by kernel_rfl), (by kernel_rfl), (by kernel_rfl), (by kernel_rfl), (by kernel_rfl), (by kernel_rfl), (by kernel_rfl), (by kernel_rfl), (by kernel_rfl), (by kernel_rfl), (by kernel_rfl), (by kernel_rfl), (by kernel_rfl), (by kernel_rfl), (by kernel_rfl), (by kernel_rfl), (by kernel_rfl), (by kernel_rfl), (by kernel_rfl), (by kernel_rfl), (by kernel_rfl), (by kernel_rfl), (by kernel_rfl), (by kernel_rfl), (by kernel_rfl), (by kernel_rfl), (by kernel_rfl), (by kernel_rfl), (by kernel_rfl), (by kernel_rfl), (by kernel_rfl), (by kernel_rfl), (by kernel_rfl), (by kernel_rfl), (by kernel_rfl), (by kernel_rfl), (by kernel_rfl), (by kernel_rfl), (by kernel_rfl), (by kernel_rfl)⟩
theorem tab_5 : Tryd.prog.underlying 94 = some (.pointer 5) ∧ Tryd.prog.underlying 95 = some (.array 64 5) ∧ Tryd.prog.underlying 101 = some (.array 16 65) ∧ Tryd.prog.underlying 111 = some (.pointer 97) ∧ Tryd.prog.underlying 115 = some (.slice 65) ∧ Tryd.prog.underlying 116 = some (.array 16 5) ∧ Tryd.prog.underlying 117 = some (.array 10 116) ∧ Tryd.prog.underlying 119 = some (.pointer 101) ∧ BY Tryd.prog 4 = 1 ∧ BY Tryd.prog 5 = 1 ∧ BY Tryd.prog 9 = 16 ∧ BY Tryd.prog 40 = 24 ∧ BY Tryd.prog 56 = 8 ∧ BY Tryd.prog 65 = 4 ∧ EQT Tryd.prog 4 = some .bool ∧ EQT Tryd.prog 39 = some (.st [(.int .i64), .str]) ∧ EQT Tryd.prog 40 = some (.st [(.int .i64), .str]) ∧ EQT Tryd.prog 41 = some (.arr 32 (.int .u8)) ∧ EQT Tryd.prog 42 = some (.arr 32 (.int .u8)) ∧ EQT Tryd.prog 66 = some (.arr 8 (.int .u32)) ∧ EQT Tryd.prog 93 = some (.arr 8 (.int .u8)) ∧ EQT Tryd.prog 95 = some (.arr 64 (.int .u8)) ∧ EQT Tryd.prog 96 = some (.st [(.arr 8 (.int .u32)), (.arr 64 (.int .u8)), (.int .i64), (.int .u64)]) ∧ EQT Tryd.prog 97 = some (.st [(.arr 8 (.int .u32)), (.arr 64 (.int .u8)), (.int .i64), (.int .u64)]) ∧ EQT Tryd.prog 101 = some (.arr 16 (.int .u32)) ∧ EQT Tryd.prog 116 = some (.arr 16 (.int .u8)) ∧ EQT Tryd.prog 117 = some (.arr 10 (.arr 16 (.int .u8))) ∧ callable Tryd.prog 3 = true ∧ callable Tryd.prog 4 = true ∧ callable Tryd.prog 5 = true ∧ callable Tryd.prog 6 = true ∧ callable Tryd.prog 7 = true ∧ callable Tryd.prog 8 = true ∧ callable Tryd.prog 9 = true ∧ callable Tryd.prog 10 = true ∧ callable Tryd.prog 11 = true ∧ callable Tryd.prog 12 = true ∧ callable Tryd.prog 13 = true ∧ callable Tryd.prog 14 = true ∧ callable Tryd.prog 15 = true := by
  refine ⟨(by kernel_rfl), (by kernel_rfl), (by kernel_rfl), (by kernel_rfl), (by kernel_rfl), (by kernel_rfl), (by kernel_rfl), (by kernel_rfl), (by kernel_rfl), (by kernel_rfl), (by kernel_rfl), (by kernel_rfl), (by kernel_rfl), (by kernel_rfl), (by kernel_rfl), (by kernel_rfl), (by kernel_rfl), (by kernel_rfl), (by kernel_rfl), (by kernel_rfl), (by kernel_rfl), (by kernel_rfl), (by kernel_rfl), (by kernel_rfl), (by kernel_rfl), (by kernel_rfl), (by kernel_rfl), (by kernel_rfl), (by kernel_rfl), (by kernel_rfl), (by kernel_rfl), (by kernel_rfl), (by kernel_rfl), (by kernel_rfl), (by kernel_rfl), (by kernel_rfl), (by kernel_rfl), (by kernel_rfl), (by kernel_rfl), (by kernel_rfl)⟩
theorem tab_6 : callable Tryd.prog 16 = true ∧ callable Tryd.prog 17 = true ∧ callable Tryd.prog 18 = true ∧ callable Tryd.prog 19 = true ∧ callable Tryd.prog 20 = true ∧ callable Tryd.prog 21 = true ∧ callable Tryd.prog 22 = true ∧ callable Tryd.prog 23 = true ∧ callable Tryd.prog 24 = true ∧ callable Tryd.prog 25 = true ∧ callable Tryd.prog 26 = true ∧ callable Tryd.prog 27 = true ∧ callable Tryd.prog 28 = true ∧ callable Tryd.prog 29 = true ∧ callable Tryd.prog 30 = true ∧ callable Tryd.prog 31 = true ∧ callable Tryd.prog 32 = true ∧ callable Tryd.prog 33 = true ∧ callable Tryd.prog 34 = true ∧ callable Tryd.prog 35 = true ∧ callable Tryd.prog 36 = true ∧ callable Tryd.prog 37 = true ∧ callable Tryd.prog 38 = true ∧ callable Tryd.prog 39 = true ∧ callable Tryd.prog 40 = true ∧ callable Tryd.prog 41 = true ∧ callable Tryd.prog 42 = true ∧ callable Tryd.prog 43 = true ∧ callable Tryd.prog 44 = true ∧ callable Tryd.prog 45 = true ∧ callable Tryd.prog 46 = true ∧ callable Tryd.prog 47 = true ∧ callable Tryd.prog 48 = true ∧ callable Tryd.prog 49 = true ∧ callable Tryd.prog 50 = true ∧ callable Tryd.prog 51 = true ∧ callable Tryd.prog 52 = true ∧ callable Tryd.prog 53 = true ∧ callable Tryd.prog 54 = true ∧ callable Tryd.prog 55 = true := by
  refine ⟨(by kernel_rfl), (by kernel_rfl), (by kernel_rfl), (by kernel_rfl), (by kernel_rfl), (by kernel_rfl), (by kernel_rfl), (by kernel_rfl), (by kernel_rfl), (by kernel_rfl), (by kernel_rfl), (by kernel_rfl), (by kernel_rfl), (by kernel_rfl), (by kernel_rfl), (by kernel_rfl), (by kernel_rfl), (by kernel_rfl), (by kernel_rfl), (by kernel_rfl), (by kernel_rfl), (by kernel_rfl), (by kernel_rfl), (by kernel_rfl), (by kernel_rfl), (by kernel_rfl), (by kernel_rfl), (by kernel_rfl), (by kernel_rfl), (by kernel_rfl), (by kernel_rfl), (by kernel_rfl), (by kernel_rfl), (by kernel_rfl), (by kernel_rfl), (by kernel_rfl), (by kernel_rfl), (by kernel_rfl), (by kernel_rfl), (by kernel_rfl)⟩
theorem tab_7 : callable Tryd.prog 56 = true ∧ callable Tryd.prog 57 = true ∧ callable Tryd.prog 58 = true ∧ callable Tryd.prog 59 = true ∧ callable Tryd.prog 60 = true ∧ callable Tryd.prog 61 = true ∧ callable Tryd.prog 62 = true ∧ callable Tryd.prog 63 = true ∧ callable Tryd.prog 64 = true ∧ callable Tryd.prog 65 = true ∧ callable Tryd.prog 66 = true ∧ callable Tryd.prog 67 = true ∧ callable Tryd.prog 68 = true ∧ callable Tryd.prog 69 = true ∧ callable Tryd.prog 70 = true ∧ callable Tryd.prog 71 = true ∧ callable Tryd.prog 72 = true ∧ callable Tryd.prog 73 = true ∧ callable Tryd.prog 74 = true ∧ callable Tryd.prog 75 = true ∧ callable Tryd.prog 76 = true ∧ callable Tryd.prog 77 = true ∧ callable Tryd.prog 79 = true ∧ callable Tryd.prog 81 = true ∧ callable Tryd.prog 82 = true ∧ callable Tryd.prog 84 = true ∧ callable Tryd.prog 85 = true ∧ callable Tryd.prog 107 = true := by
  refine ⟨(by kernel_rfl), (by kernel_rfl), (by kernel_rfl), (by kernel_rfl), (by kernel_rfl), (by kernel_rfl), (by kernel_rfl), (by kernel_rfl), (by kernel_rfl), (by kernel_rfl), (by kernel_rfl), (by kernel_rfl), (by kernel_rfl), (by kernel_rfl), (by kernel_rfl), (by kernel_rfl), (by kernel_rfl), (by kernel_rfl), (by kernel_rfl), (by kernel_rfl), (by kernel_rfl), (by kernel_rfl), (by kernel_rfl), (by kernel_rfl), (by kernel_rfl), (by kernel_rfl), (by kernel_rfl), (by kernel_rfl)⟩
theorem tab : (SH Tryd.prog 1 = some .cell ∧ SH Tryd.prog 2 = some .cell ∧ SH Tryd.prog 3 = some .cell ∧ SH Tryd.prog 4 = some .cell ∧ SH Tryd.prog 5 = some .cell ∧ SH Tryd.prog 9 = some .cell ∧ SH Tryd.prog 12 = some .cell ∧ SH Tryd.prog 13 = some (.st [.cell, .cell]) ∧ SH Tryd.prog 20 = some .cell ∧ SH Tryd.prog 21 = some .cell ∧ SH Tryd.prog 22 = some .cell ∧ SH Tryd.prog 23 = some .cell ∧ SH Tryd.prog 24 = some .cell ∧ SH Tryd.prog 25 = some (.st [.cell, .cell, .cell]) ∧ SH Tryd.prog 26 = some (.st [.cell, .cell, .cell]) ∧ SH Tryd.prog 27 = some .cell ∧ SH Tryd.prog 31 = some .cell ∧ SH Tryd.prog 33 = some .cell ∧ SH Tryd.prog 35 = some .cell ∧ SH Tryd.prog 38 = some .cell ∧ SH Tryd.prog 39 = some (.st [.cell, .cell]) ∧ SH Tryd.prog 40 = some (.st [.cell, .cell]) ∧ SH Tryd.prog 41 = some (.arr 32 .cell) ∧ SH Tryd.prog 42 = some (.arr 32 .cell) ∧ SH Tryd.prog 43 = some .cell ∧ SH Tryd.prog 44 = some .cell ∧ SH Tryd.prog 45 = some .cell ∧ SH Tryd.prog 46 = some .cell ∧ SH Tryd.prog 49 = some .cell ∧ SH Tryd.prog 51 = some .cell ∧ SH Tryd.prog 54 = some .cell ∧ SH Tryd.prog 55 = some .cell ∧ SH Tryd.prog 56 = some .cell ∧ SH Tryd.prog 57 = some .cell ∧ SH Tryd.prog 59 = some .cell ∧ SH Tryd.prog 60 = some .cell ∧ SH Tryd.prog 65 = some .cell ∧ SH Tryd.prog 66 = some (.arr 8 .cell) ∧ SH Tryd.prog 67 = some .cell ∧ SH Tryd.prog 68 = some .cell) ∧ (SH Tryd.prog 69 = some .cell ∧ SH Tryd.prog 70 = some .cell ∧ SH Tryd.prog 71 = some .cell ∧ SH Tryd.prog 73 = some .cell ∧ SH Tryd.prog 74 = some .cell ∧ SH Tryd.prog 75 = some .cell ∧ SH Tryd.prog 76 = some (.st [.cell, .cell]) ∧ SH Tryd.prog 77 = some (.st [.cell, .cell]) ∧ SH Tryd.prog 78 = some .cell ∧ SH Tryd.prog 79 = some .cell ∧ SH Tryd.prog 81 = some .cell ∧ SH Tryd.prog 82 = some .cell ∧ SH Tryd.prog 83 = some .cell ∧ SH Tryd.prog 85 = some .cell ∧ SH Tryd.prog 86 = some .cell ∧ SH Tryd.prog 87 = some .cell ∧ SH Tryd.prog 89 = some .cell ∧ SH Tryd.prog 90 = some .cell ∧ SH Tryd.prog 91 = some .cell ∧ SH Tryd.prog 92 = some .cell ∧ SH Tryd.prog 93 = some (.arr 8 .cell) ∧ SH Tryd.prog 94 = some .cell ∧ SH Tryd.prog 95 = some (.arr 64 .cell) ∧ SH Tryd.prog 96 = some (.st [(.arr 8 .cell), (.arr 64 .cell), .cell, .cell]) ∧ SH Tryd.prog 97 = some (.st [(.arr 8 .cell), (.arr 64 .cell), .cell, .cell]) ∧ SH Tryd.prog 98 = some .cell ∧ SH Tryd.prog 99 = some .cell ∧ SH Tryd.prog 100 = some .cell ∧ SH Tryd.prog 101 = some (.arr 16 .cell) ∧ SH Tryd.prog 102 = some .cell ∧ SH Tryd.prog 103 = some .cell ∧ SH Tryd.prog 104 = some .cell ∧ SH Tryd.prog 106 = some .cell ∧ SH Tryd.prog 108 = some .cell ∧ SH Tryd.prog 109 = some .cell ∧ SH Tryd.prog 110 = some .cell ∧ SH Tryd.prog 111 = some .cell ∧ SH Tryd.prog 112 = some .cell ∧ SH Tryd.prog 113 = some .cell ∧ SH Tryd.prog 114 = some .cell) ∧ (SH Tryd.prog 115 = some .cell ∧ SH Tryd.prog 116 = some (.arr 16 .cell) ∧ SH Tryd.prog 117 = some (.arr 10 (.arr 16 .cell)) ∧ SH Tryd.prog 118 = some .cell ∧ SH Tryd.prog 119 = some .cell ∧ SH Tryd.prog 120 = some .cell ∧ SH Tryd.prog 128 = some .cell ∧ ZE Tryd.prog 1 = some (.raw .nilFunc) ∧ ZE Tryd.prog 2 = some (.int .i64 0) ∧ ZE Tryd.prog 3 = some (.int .i64 0) ∧ ZE Tryd.prog 4 = some (.bool false) ∧ ZE Tryd.prog 5 = some (.int .u8 0) ∧ ZE Tryd.prog 9 = some (.str []) ∧ ZE Tryd.prog 12 = some (.int .u64 0) ∧ ZE Tryd.prog 13 = some (.agg [(.str []), (.int .u64 0)]) ∧ ZE Tryd.prog 20 = some (.raw .nilIface) ∧ ZE Tryd.prog 21 = some (.int .i32 0) ∧ ZE Tryd.prog 22 = some (.sl none 0) ∧ ZE Tryd.prog 23 = some (.raw .nilFunc) ∧ ZE Tryd.prog 24 = some (.sl none 0) ∧ ZE Tryd.prog 25 = some (.agg [(.sl none 0), (.sl none 0), (.int .i64 0)]) ∧ ZE Tryd.prog 26 = some (.agg [(.sl none 0), (.sl none 0), (.int .i64 0)]) ∧ ZE Tryd.prog 27 = some (.int .i64 0) ∧ ZE Tryd.prog 31 = some (.raw .nilFunc) ∧ ZE Tryd.prog 33 = some (.raw .nilFunc) ∧ ZE Tryd.prog 35 = some (.raw .nilFunc) ∧ ZE Tryd.prog 38 = some (.raw .nilFunc) ∧ ZE Tryd.prog 39 = some (.agg [(.int .i64 0), (.str [])]) ∧ ZE Tryd.prog 40 = some (.agg [(.int .i64 0), (.str [])]) ∧ ZE Tryd.prog 41 = some (.agg (List.replicate 32 (.int .u8 0))) ∧ ZE Tryd.prog 42 = some (.agg (List.replicate 32 (.int .u8 0))) ∧ ZE Tryd.prog 43 = some (.raw .nilFunc) ∧ ZE Tryd.prog 44 = some (.sl none 0) ∧ ZE Tryd.prog 45 = some (.raw .nilFunc) ∧ ZE Tryd.prog 46 = some (.raw .nilFunc) ∧ ZE Tryd.prog 49 = some (.raw .nilFunc) ∧ ZE Tryd.prog 51 = some (.raw .nilFunc) ∧ ZE Tryd.prog 54 = some (.raw .nilFunc) ∧ ZE Tryd.prog 55 = some (.sl none 0) ∧ ZE Tryd.prog 56 = some (.raw .nilFunc)) ∧ (ZE Tryd.prog 57 = some (.raw .nilFunc) ∧ ZE Tryd.prog 59 = some (.raw .nilFunc) ∧ ZE Tryd.prog 60 = some (.raw .nilFunc) ∧ ZE Tryd.prog 65 = some (.int .u32 0) ∧ ZE Tryd.prog 66 = some (.agg (List.replicate 8 (.int .u32 0))) ∧ ZE Tryd.prog 67 = some (.raw .nilFunc) ∧ ZE Tryd.prog 68 = some (.raw .nilFunc) ∧ ZE Tryd.prog 69 = some (.raw .nilFunc) ∧ ZE Tryd.prog 70 = some (.raw .nilFunc) ∧ ZE Tryd.prog 71 = some (.int .u64 0) ∧ ZE Tryd.prog 73 = some (.raw .nilFunc) ∧ ZE Tryd.prog 74 = some (.sl none 0) ∧ ZE Tryd.prog 75 = some (.raw (.pointer none)) ∧ ZE Tryd.prog 76 = some (.agg [(.raw (.pointer none)), (.sl none 0)]) ∧ ZE Tryd.prog 77 = some (.agg [(.raw (.pointer none)), (.sl none 0)]) ∧ ZE Tryd.prog 78 = some (.raw .nilIface) ∧ ZE Tryd.prog 79 = some (.raw .nilIface) ∧ ZE Tryd.prog 81 = some (.raw .nilFunc) ∧ ZE Tryd.prog 82 = some (.raw .nilFunc) ∧ ZE Tryd.prog 83 = some (.raw .nilFunc) ∧ ZE Tryd.prog 85 = some (.raw .nilFunc) ∧ ZE Tryd.prog 86 = some (.raw .nilFunc) ∧ ZE Tryd.prog 87 = some (.int .u64 0) ∧ ZE Tryd.prog 89 = some (.raw .nilFunc) ∧ ZE Tryd.prog 90 = some (.raw .nilFunc) ∧ ZE Tryd.prog 91 = some (.raw .nilFunc) ∧ ZE Tryd.prog 92 = some (.raw .nilFunc) ∧ ZE Tryd.prog 93 = some (.agg (List.replicate 8 (.int .u8 0))) ∧ ZE Tryd.prog 94 = some (.raw (.pointer none)) ∧ ZE Tryd.prog 95 = some (.agg (List.replicate 64 (.int .u8 0))) ∧ ZE Tryd.prog 96 = some (.agg [(.agg (List.replicate 8 (.int .u32 0))), (.agg (List.replicate 64 (.int .u8 0))), (.int .i64 0), (.int .u64 0)]) ∧ ZE Tryd.prog 97 = some (.agg [(.agg (List.replicate 8 (.int .u32 0))), (.agg (List.replicate 64 (.int .u8 0))), (.int .i64 0), (.int .u64 0)]) ∧ ZE Tryd.prog 98 = some (.raw .nilFunc) ∧ ZE Tryd.prog 99 = some (.raw .nilFunc) ∧ ZE Tryd.prog 100 = some (.raw .nilFunc) ∧ ZE Tryd.prog 101 = some (.agg (List.replicate 16 (.int .u32 0))) ∧ ZE Tryd.prog 102 = some (.raw .nilFunc) ∧ ZE Tryd.prog 103 = some (.raw .nilFunc) ∧ ZE Tryd.prog 104 = some (.raw .nilFunc) ∧ ZE Tryd.prog 106 = some (.raw .nilFunc)) ∧ (ZE Tryd.prog 108 = some (.raw .nilFunc) ∧ ZE Tryd.prog 110 = some (.raw .nilFunc) ∧ ZE Tryd.prog 111 = some (.raw (.pointer none)) ∧ ZE Tryd.prog 112 = some (.raw .nilFunc) ∧ ZE Tryd.prog 113 = some (.raw .nilFunc) ∧ ZE Tryd.prog 114 = some (.raw .nilFunc) ∧ ZE Tryd.prog 115 = some (.sl none 0) ∧ ZE Tryd.prog 116 = some (.agg (List.replicate 16 (.int .u8 0))) ∧ ZE Tryd.prog 117 = some (.agg (List.replicate 10 (.agg (List.replicate 16 (.int .u8 0))))) ∧ ZE Tryd.prog 118 = some (.raw .nilFunc) ∧ ZE Tryd.prog 119 = some (.raw (.pointer none)) ∧ ZE Tryd.prog 120 = some (.raw .nilFunc) ∧ ZE Tryd.prog 128 = some (.raw .nilFunc) ∧ EL Tryd.prog 22 = some 9 ∧ EL Tryd.prog 24 = some 40 ∧ EL Tryd.prog 44 = some 5 ∧ EL Tryd.prog 55 = some 56 ∧ EL Tryd.prog 74 = some 4 ∧ EL Tryd.prog 115 = some 65 ∧ Tryd.prog.underlying 2 = some (.int .i64) ∧ Tryd.prog.underlying 3 = some (.int .i64) ∧ Tryd.prog.underlying 4 = some .bool ∧ Tryd.prog.underlying 5 = some (.int .u8) ∧ Tryd.prog.underlying 9 = some .string ∧ Tryd.prog.underlying 12 = some (.int .u64) ∧ Tryd.prog.underlying 21 = some (.int .i32) ∧ Tryd.prog.underlying 22 = some (.slice 9) ∧ Tryd.prog.underlying 24 = some (.slice 40) ∧ Tryd.prog.underlying 27 = some (.int .i64) ∧ Tryd.prog.underlying 41 = some (.array 32 5) ∧ Tryd.prog.underlying 42 = some (.array 32 5) ∧ Tryd.prog.underlying 44 = some (.slice 5) ∧ Tryd.prog.underlying 55 = some (.slice 56) ∧ Tryd.prog.underlying 65 = some (.int .u32) ∧ Tryd.prog.underlying 66 = some (.array 8 65) ∧ Tryd.prog.underlying 71 = some (.int .u64) ∧ Tryd.prog.underlying 74 = some (.slice 4) ∧ Tryd.prog.underlying 75 = some (.pointer 77) ∧ Tryd.prog.underlying 87 = some (.int .u64) ∧ Tryd.prog.underlying 93 = some (.array 8 5)) ∧ (Tryd.prog.underlying 94 = some (.pointer 5) ∧ Tryd.prog.underlying 95 = some (.array 64 5) ∧ Tryd.prog.underlying 101 = some (.array 16 65) ∧ Tryd.prog.underlying 111 = some (.pointer 97) ∧ Tryd.prog.underlying 115 = some (.slice 65) ∧ Tryd.prog.underlying 116 = some (.array 16 5) ∧ Tryd.prog.underlying 117 = some (.array 10 116) ∧ Tryd.prog.underlying 119 = some (.pointer 101) ∧ BY Tryd.prog 4 = 1 ∧ BY Tryd.prog 5 = 1 ∧ BY Tryd.prog 9 = 16 ∧ BY Tryd.prog 40 = 24 ∧ BY Tryd.prog 56 = 8 ∧ BY Tryd.prog 65 = 4 ∧ EQT Tryd.prog 4 = some .bool ∧ EQT Tryd.prog 39 = some (.st [(.int .i64), .str]) ∧ EQT Tryd.prog 40 = some (.st [(.int .i64), .str]) ∧ EQT Tryd.prog 41 = some (.arr 32 (.int .u8)) ∧ EQT Tryd.prog 42 = some (.arr 32 (.int .u8)) ∧ EQT Tryd.prog 66 = some (.arr 8 (.int .u32)) ∧ EQT Tryd.prog 93 = some (.arr 8 (.int .u8)) ∧ EQT Tryd.prog 95 = some (.arr 64 (.int .u8)) ∧ EQT Tryd.prog 96 = some (.st [(.arr 8 (.int .u32)), (.arr 64 (.int .u8)), (.int .i64), (.int .u64)]) ∧ EQT Tryd.prog 97 = some (.st [(.arr 8 (.int .u32)), (.arr 64 (.int .u8)), (.int .i64), (.int .u64)]) ∧ EQT Tryd.prog 101 = some (.arr 16 (.int .u32)) ∧ EQT Tryd.prog 116 = some (.arr 16 (.int .u8)) ∧ EQT Tryd.prog 117 = some (.arr 10 (.arr 16 (.int .u8))) ∧ callable Tryd.prog 3 = true ∧ callable Tryd.prog 4 = true ∧ callable Tryd.prog 5 = true ∧ callable Tryd.prog 6 = true ∧ callable Tryd.prog 7 = true ∧ callable Tryd.prog 8 = true ∧ callable Tryd.prog 9 = true ∧ callable Tryd.prog 10 = true ∧ callable Tryd.prog 11 = true ∧ callable Tryd.prog 12 = true ∧ callable Tryd.prog 13 = true ∧ callable Tryd.prog 14 = true ∧ callable Tryd.prog 15 = true) ∧ (callable Tryd.prog 16 = true ∧ callable Tryd.prog 17 = true ∧ callable Tryd.prog 18 = true ∧ callable Tryd.prog 19 = true ∧ callable Tryd.prog 20 = true ∧ callable Tryd.prog 21 = true ∧ callable Tryd.prog 22 = true ∧ callable Tryd.prog 23 = true ∧ callable Tryd.prog 24 = true ∧ callable Tryd.prog 25 = true ∧ callable Tryd.prog 26 = true ∧ callable Tryd.prog 27 = true ∧ callable Tryd.prog 28 = true ∧ callable Tryd.prog 29 = true ∧ callable Tryd.prog 30 = true ∧ callable Tryd.prog 31 = true ∧ callable Tryd.prog 32 = true ∧ callable Tryd.prog 33 = true ∧ callable Tryd.prog 34 = true ∧ callable Tryd.prog 35 = true ∧ callable Tryd.prog 36 = true ∧ callable Tryd.prog 37 = true ∧ callable Tryd.prog 38 = true ∧ callable Tryd.prog 39 = true ∧ callable Tryd.prog 40 = true ∧ callable Tryd.prog 41 = true ∧ callable Tryd.prog 42 = true ∧ callable Tryd.prog 43 = true ∧ callable Tryd.prog 44 = true ∧ callable Tryd.prog 45 = true ∧ callable Tryd.prog 46 = true ∧ callable Tryd.prog 47 = true ∧ callable Tryd.prog 48 = true ∧ callable Tryd.prog 49 = true ∧ callable Tryd.prog 50 = true ∧ callable Tryd.prog 51 = true ∧ callable Tryd.prog 52 = true ∧ callable Tryd.prog 53 = true ∧ callable Tryd.prog 54 = true ∧ callable Tryd.prog 55 = true) ∧ (callable Tryd.prog 56 = true ∧ callable Tryd.prog 57 = true ∧ callable Tryd.prog 58 = true ∧ callable Tryd.prog 59 = true ∧ callable Tryd.prog 60 = true ∧ callable Tryd.prog 61 = true ∧ callable Tryd.prog 62 = true ∧ callable Tryd.prog 63 = true ∧ callable Tryd.prog 64 = true ∧ callable Tryd.prog 65 = true ∧ callable Tryd.prog 66 = true ∧ callable Tryd.prog 67 = true ∧ callable Tryd.prog 68 = true ∧ callable Tryd.prog 69 = true ∧ callable Tryd.prog 70 = true ∧ callable Tryd.prog 71 = true ∧ callable Tryd.prog 72 = true ∧ callable Tryd.prog 73 = true ∧ callable Tryd.prog 74 = true ∧ callable Tryd.prog 75 = true ∧ callable Tryd.prog 76 = true ∧ callable Tryd.prog 77 = true ∧ callable Tryd.prog 79 = true ∧ callable Tryd.prog 81 = true ∧ callable Tryd.prog 82 = true ∧ callable Tryd.prog 84 = true ∧ callable Tryd.prog 85 = true ∧ callable Tryd.prog 107 = true) := by
  refine ⟨tab_0, tab_1, tab_2, tab_3, tab_4, tab_5, tab_6, tab_7⟩
end Go.Proofs.YtcilmfhncjfdbaaDoor.V
end
section
/-
  A MACHINE OF VALUES, TWENTY-FIRST PART: words for walks.
-/
set_option linter.unusedVariables false
set_option linter.unusedSimpArgs false
namespace Go.Proofs.YtcilmfhncjfdbaaDoor.V
open Go

/-! ### answers read -/
section
variable (H : Heap)
theorem rdt_t (vs ds : List VV) : RdT H (.tup vs) (.tup ds) = RdL H vs ds := by
  apply propext
  constructor
  · rintro ⟨ds', h, h'⟩
    injection h with h
    subst h
    exact h'
  · intro h
    exact ⟨ds, rfl, h⟩
theorem rdt_i (k : IntKind) (a b : Int) : RdT H (.int k a) (.int k b) = (a = b) := by simp [RdT, Rd, nl, eq_comm]
theorem rdt_b (a b : Bool) : RdT H (.bool a) (.bool b) = (a = b) := by simp [RdT, Rd, nl, eq_comm]
theorem rdt_s (a b : List UInt8) : RdT H (.str a) (.str b) = (a = b) := by simp [RdT, Rd, nl, eq_comm]
theorem rdt_a (vs ds : List VV) : RdT H (.agg vs) (.agg ds) = RdL H vs ds := by
  apply propext
  simp only [RdT,Rd]
  constructor
  · rintro ⟨ds', h, h'⟩
    injection h with h
    subst h
    exact h'
  · intro h
    exact ⟨ds, rfl, h⟩
theorem rd_i (k : IntKind) (a b : Int) : Rd H (.int k a) (.int k b) = (a = b) := by simp [Rd, nl, eq_comm]
theorem rd_b (a b : Bool) : Rd H (.bool a) (.bool b) = (a = b) := by simp [Rd, nl, eq_comm]
theorem rd_s (a b : List UInt8) : Rd H (.str a) (.str b) = (a = b) := by simp [Rd, nl, eq_comm]
theorem rd_a (vs ds : List VV) : Rd H (.agg vs) (.agg ds) = RdL H vs ds := by
  apply propext
  simp only [Rd]
  constructor
  · rintro ⟨ds', h, h'⟩
    injection h with h
    subst h
    exact h'
  · intro h
    exact ⟨ds, rfl, h⟩
theorem rdl_c (v d : VV) (vs ds : List VV) : RdL H (v :: vs) (d :: ds) = (Rd H v d ∧ RdL H vs ds) := by
  apply propext
  simp only [RdL]
  constructor
  · rintro ⟨d', ds', h, h1, h2⟩
    injection h with h h'
    subst h h'
    exact ⟨h1, h2⟩
  · rintro ⟨h1, h2⟩
    exact ⟨d, ds, rfl, h1, h2⟩
theorem rdl_n : RdL H [] [] = True := by simp [RdL]
end
theorem rd_own {H : Heap} {m k : Nat} {e : Sh} {els els' : List VV} {n : Nat} (h : H m = some (.row (.arr k e) (.agg els))) (hn : n = els.length) (he : els = els') (hl : nls els' = true) : Rd H (.sl (some (m, [], 0)) n) (.dat e els') := by
  subst he; exact rd_row h hn hl
theorem rd_nil {H : Heap} {e : Sh} : Rd H (.sl none 0) (.dat e []) := by simp only [Rd]; exact .inr ⟨trivial, e, rfl⟩
theorem rdt_of {H : Heap} {v d : VV} (h : Rd H v d) (hv : notTup v = true) : RdT H v d := by
  cases v <;> first | exact h | simp [notTup] at hv
/-! ### names of data -/
theorem je {l : List VV} (h : nls l = true) : nls l = true := h
theorem nls_nil : nls [] = true := rfl
theorem nls_cons (v : VV) (l : List VV) : nls (v :: l) = (nl v && nls l) := rfl
theorem nls_append : ∀ (a b : List VV), nls (a ++ b) = (nls a && nls b)
  | [], b => by simp [nls]
  | v :: a, b => by simp [nls, nls_append a b, Bool.and_assoc]
theorem nls_mapStr (l : List (List UInt8)) : nls (l.map .str) = true := nls_map _ (fun _ => rfl) l
theorem nls_mapB (l : List UInt8) : nls (l.map encB) = true := nls_map _ (fun _ => rfl) l
theorem nls_rep {n : Nat} {v : VV} (hv : nl v = true) : nls (List.replicate n v) = true := by
  rw [nls_iff]
  intro x hx
  rw [(List.mem_replicate.1 hx).2]; exact hv
theorem nls_repInt (n : Nat) (k : IntKind) (a : Int) : nls (List.replicate n (.int k a)) = true := nls_rep rfl
theorem nls_repBool (n : Nat) (a : Bool) : nls (List.replicate n (.bool a)) = true := nls_rep rfl
theorem nls_repStr (n : Nat) (a : List UInt8) : nls (List.replicate n (.str a)) = true := nls_rep rfl
theorem some_nat (a b : Nat) : (some a = some b) = (a = b) := by simp
theorem nl_slnil (n : Nat) : nl (.sl none n) = true := rfl
theorem nl_int (k : IntKind) (a : Int) : nl (.int k a) = true := rfl
theorem nl_bool (a : Bool) : nl (.bool a) = true := rfl
theorem nl_str (a : List UInt8) : nl (.str a) = true := rfl
theorem nl_agg (l : List VV) : nl (.agg l) = nls l := by simp only [nl]
theorem nl_dat (s : Sh) (l : List VV) : nl (.dat s l) = nls l := by simp only [nl]
theorem has_str (s : List UInt8) : Has .cell (.str s) := by simp [Has, VV.leaf]
theorem has_int (k : IntKind) (s : Int) : Has .cell (.int k s) := by simp [Has, VV.leaf]
theorem has_bool (s : Bool) : Has .cell (.bool s) := by simp [Has, VV.leaf]
theorem has_sl (p : Option (Nat × List Nat × Nat)) (n : Nat) : Has .cell (.sl p n) := by simp [Has, VV.leaf]
theorem has_dat (s : Sh) (l : List VV) : Has .cell (.dat s l) := by simp [Has, VV.leaf]
theorem has_ptr (m : Nat) (p : List Nat) : Has .cell (.ptr m p) := by simp [Has, VV.leaf]
theorem has_fn (f : FuncId) (c : List VV) : Has .cell (.fn f c) := by simp [Has, VV.leaf]
theorem has_map (m : Nat) : Has .cell (.map m) := by simp [Has, VV.leaf]
theorem has_pd (s : Sh) (v : VV) : Has .cell (.pd s v) := by simp [Has, VV.leaf]
theorem has_st (ls : List Sh) (vs : List VV) : Has (.st ls) (.agg vs) = HasL ls vs := by simp only [Has]
theorem hasl_c (s : Sh) (ls : List Sh) (v : VV) (vs : List VV) : HasL (s :: ls) (v :: vs) = (Has s v ∧ HasL ls vs) := by simp only [HasL]
theorem hasl_n : HasL [] [] = True := by simp [HasL]
theorem has_arr {s : Sh} {n : Nat} {l : List VV} (h1 : l.length = n) (h2 : ∀ v ∈ l, Has s v) : Has (.arr n s) (.agg l) := by simp only [Has]; exact ⟨h1, h2⟩
theorem has_arrMap {α : Type} {s : Sh} {n : Nat} {l : List α} {f : α → VV} (h1 : l.length = n) (h2 : ∀ x, Has s (f x)) : Has (.arr n s) (.agg (l.map f)) := has_arr (by simp [h1]) fun v hv => by
  obtain ⟨x, _, rfl⟩ := List.mem_map.1 hv
  exact h2 x
theorem ite_min (a b : Int) : (if b < a then b else a) = min a b := by split <;> omega
theorem ite_max (a b : Int) : (if a < b then b else a) = max a b := by split <;> omega
theorem ex_arr (n : Nat) (s : Sh) : (∃ j, some (Sh.arr n s) = some (Sh.arr j s)) = True := eq_true ⟨n, rfl⟩
theorem default_str : (default : List UInt8) = [] := rfl
theorem default_u8 : (default : UInt8) = 0 := rfl
theorem rep_one {α : Type} (a : α) : List.replicate 1 a = [a] := rfl
theorem rep_two {α : Type} (a : α) : List.replicate 2 a = [a, a] := rfl
theorem rep_three {α : Type} (a : α) : List.replicate 3 a = [a, a, a] := rfl
theorem bytes_one (b : UInt8) : bytesOf [VV.int .u8 (b.toNat : Int)] = some [b] := bytesOf_enc [b]
theorem bytes_two (a b : UInt8) : bytesOf [VV.int .u8 (a.toNat : Int), VV.int .u8 (b.toNat : Int)] = some [a, b] := bytesOf_enc [a, b]
theorem allm_cons {α : Type} (p : α → Prop) (x : α) (l : List α) : (∀ c, c ∈ x :: l → p c) = (p x ∧ ∀ c, c ∈ l → p c) := by simp
theorem allm_nil {α : Type} (p : α → Prop) : (∀ c, c ∈ ([] : List α) → p c) = True := by simp
theorem leaf_ptr (m : Nat) (p : List Nat) : (VV.ptr m p).leaf = true := rfl
theorem leaf_int (k : IntKind) (n : Int) : (VV.int k n).leaf = true := rfl
theorem leaf_str (s : List UInt8) : (VV.str s).leaf = true := rfl
theorem leaf_bool (s : Bool) : (VV.bool s).leaf = true := rfl
theorem leaf_sl (p : Option (Nat × List Nat × Nat)) (n : Nat) : (VV.sl p n).leaf = true := rfl
theorem leaf_dat (s : Sh) (l : List VV) : (VV.dat s l).leaf = true := rfl
theorem leaf_fn (f : FuncId) (l : List VV) : (VV.fn f l).leaf = true := rfl
theorem leaf_map (m : Nat) : (VV.map m).leaf = true := rfl
theorem take_lenMap {α β : Type} (f : α → β) (l : List α) : List.take l.length (l.map f) = l.map f := List.take_of_length_le (by simp)
theorem veq_bool (a b : Bool) : veq (.bool a) (.bool b) = (a == b) := by simp only [veq]
theorem fit_bool (a : Bool) : Fit .bool (.bool a) = True := by simp only [Fit]
theorem dvalid (a b : Int) (h : 0 ≤ a) : a.tdiv b = a / b := Int.tdiv_eq_ediv_of_nonneg h
theorem mvalid (a b : Int) (h : 0 ≤ a) : a.tmod b = a % b := Int.tmod_eq_emod_of_nonneg h
/-! ### frames written anew -/
section
variable {n0 : Nat} {σ : List (Nat × Nat)} {H : Heap} {fz : Bool} {tm : Nat → VV}
theorem jL {m : Nat} (h : (σ.map (·.1)).contains m = true) : known n0 σ m := .inr (by simpa using h)
theorem jM {m : Nat} (h : decide (m < n0) = true) : known n0 σ m := .inl (by simpa using h)
theorem jF : AllS n0 σ H fz tm [] := trivial
theorem jE {k : Nat} {v : VV} {l : List (Nat × VV)} (h : MR n0 σ H fz (tm k) v) (h' : AllS n0 σ H fz tm l) : AllS n0 σ H fz tm ((k, v) :: l) := ⟨h, h'⟩
theorem jG : AllB n0 σ H fz [] := trivial
theorem jH {k : Nat} {b0 b : Blk} {l : List (Nat × Blk)} (hk : known n0 σ k) (h : H (turn σ k) = some b0) (hm : MB n0 σ H fz b0 b) (h' : AllB n0 σ H fz l) : AllB n0 σ H fz ((k, b) :: l) := ⟨fun _ => ⟨b0, h, hm⟩, h'⟩
theorem jK {k : Nat} {b : Blk} {l : List (Nat × Blk)} (hk : (decide (k < n0) || (σ.map (·.1)).contains k) = false) (h' : AllB n0 σ H fz l) : AllB n0 σ H fz ((k, b) :: l) := by
  refine ⟨fun hn => ?_, h'⟩
  simp only [Bool.or_eq_false_iff,decide_eq_false_iff_not] at hk
  rcases hn with hn | hn
  · exact absurd hn hk.1
  · have : (σ.map (·.1)).contains k = true := by simpa using hn
    rw [hk.2] at this; cases this
theorem ju {k : IntKind} {a b : Int} (h : a = b) : MR n0 σ H fz (.int k a) (.int k b) := by subst h; exact .data _ rfl
theorem jw {a b : Bool} (h : a = b) : MR n0 σ H fz (.bool a) (.bool b) := by subst h; exact .data _ rfl
theorem jv {a b : List UInt8} (h : a = b) : MR n0 σ H fz (.str a) (.str b) := by subst h; exact .data _ rfl
theorem jx {s : Sh} {a b : List VV} (h : a = b) (hn : nls b = true) : MR n0 σ H fz (.dat s a) (.dat s b) := by subst h; exact .data _ (by simpa only [nl] using hn)
theorem jz {n : Nat} : MR n0 σ H fz (.sl none n) (.sl none n) := .data _ rfl
theorem jA {m : Nat} {p : List Nat} {i n : Nat} (h : 0 = n) : MR n0 σ H fz (.sl none 0) (.sl (some (m, p, i)) n) := by subst h; exact .empty
theorem jI {n n' : Nat} {e : Sh} {u v : VV} (hn : n = n') (h : MR n0 σ H fz u v) : MB n0 σ H fz (.row (.arr n e) u) (.row (.arr n' e) v) := by subst hn; exact .row h
theorem jy {v : Value} : MR n0 σ H fz (.raw v) (.raw v) := .data _ rfl
theorem jC {a b : List VV} (h : a = b) (hn : nls b = true) : MR n0 σ H fz (.agg a) (.agg b) := by subst h; exact .data _ (by simpa only [nl] using hn)
theorem jD {m m' : Nat} {p : List Nat} {i n n' : Nat} (h : known n0 σ m') (h' : turn σ m' = m) (hn : n = n') : MR n0 σ H fz (.sl (some (m, p, i)) n) (.sl (some (m', p, i)) n') := by subst hn; exact .sl h h'
theorem jB {m k n : Nat} {e : Sh} {els els' : List VV} (h : fz = true) (h1 : H m = some (.row (.arr k e) (.agg els))) (h2 : n = els.length) (he : els = els') (h3 : nls els' = true) (h4 : m ∉ σ.map (·.2)) : MR n0 σ H fz (.sl (some (m, [], 0)) n) (.dat e els') := by
  subst he; exact .row h h1 h2 h3 h4
end
theorem map_getD {α : Type} [Inhabited α] (f : α → VV) (l : List α) (i : Nat) (h : i < l.length) : (l.map f)[i]? = some (f (l.getD i default)) := by simp [h]
theorem rep_get {v : VV} {n i : Nat} (h : i < n) : (List.replicate n v)[i]? = some v := by simp [h]
end Go.Proofs.YtcilmfhncjfdbaaDoor.V
end
section
/-
  SIMP's WORDS, BUNDLED (printed by mkset.py).
-/
set_option linter.unusedVariables false
set_option linter.defProp false
namespace Go.Proofs.YtcilmfhncjfdbaaDoor.V
open Go Go.RowKit
def jt :=
  And.intro @s_nil <|
  And.intro @s_cons <|
  And.intro @s_guard <|
  And.intro @r_tmp <|
  And.intro @r_cell <|
  And.intro @vop.eq_1 <|
  And.intro @vBox.eq_1 <|
  And.intro @vPick.eq_1 <|
  And.intro @vLoad.eq_1 <|
  And.intro @vStore.eq_1 <|
  And.intro @vNilCheck.eq_1 <|
  And.intro @vBin.eq_1 <|
  And.intro @vBinX.eq_1 <|
  And.intro @vBinH.eq_1 <|
  And.intro @vMax.eq_1 <|
  And.intro @vArrPtr.eq_1 <|
  And.intro @vEq.eq_1 <|
  And.intro @vEq.eq_2 <|
  And.intro @vEq.eq_3 <|
  And.intro @vNil.eq_1 <|
  And.intro @vNil.eq_2 <|
  And.intro @vNil.eq_3 <|
  And.intro @vNil.eq_4 <|
  And.intro @vNil.eq_5 <|
  And.intro @vNil.eq_6 <|
  And.intro @vNil.eq_7 <|
  And.intro @vEither_w <|
  And.intro @vbin.eq_1 <|
  And.intro @vbin.eq_2 <|
  And.intro @vbin.eq_3 <|
  And.intro @vbin.eq_4 <|
  And.intro @vbin.eq_5 <|
  And.intro @vbin.eq_6 <|
  And.intro @vbin.eq_7 <|
  And.intro @vbin.eq_8 <|
  And.intro @vbin.eq_9 <|
  And.intro @vbin.eq_10 <|
  And.intro @vbin.eq_11 <|
  And.intro @vbin.eq_12 <|
  And.intro @vbin.eq_13 <|
  And.intro @vbin.eq_14 <|
  And.intro @vbin.eq_15 <|
  And.intro @vbin.eq_16 <|
  And.intro @vbin.eq_17 <|
  And.intro @vbin.eq_18 <|
  And.intro @vbin.eq_19 <|
  And.intro @vUn.eq_1 <|
  And.intro @vField.eq_1 <|
  And.intro @vConv.eq_1 <|
  And.intro @vConvert.eq_1 <|
  And.intro @vToStr.eq_1 <|
  And.intro @vToBytes.eq_1 <|
  And.intro @vIndexAddr.eq_1 <|
  And.intro @vFieldAddr.eq_1 <|
  And.intro @vIndex.eq_1 <|
  And.intro @vExtract.eq_1 <|
  And.intro @vAlloc.eq_1 <|
  And.intro @vBuild.eq_1 <|
  And.intro @vBuildSlice.eq_1 <|
  And.intro @vMakeSlice.eq_1 <|
  And.intro @vSlice.eq_1 <|
  And.intro @lohi.eq_1 <|
  And.intro @lohi.eq_2 <|
  And.intro @lohi.eq_3 <|
  And.intro @lohi.eq_4 <|
  And.intro @vAppend.eq_1 <|
  And.intro @srcOf.eq_1 <|
  And.intro @vCall.eq_1 <|
  And.intro @vBuiltin.eq_1 <|
  And.intro @vBuiltin.eq_2 <|
  And.intro @vBuiltin.eq_3 <|
  And.intro @vBuiltin.eq_4 <|
  And.intro @vBuiltin.eq_5 <|
  And.intro @vBuiltin.eq_6 <|
  And.intro @vBuiltin.eq_7 <|
  And.intro @vLenM.eq_1 <|
  And.intro @vLen.eq_1 <|
  And.intro @vClear.eq_1 <|
  And.intro @vCopy.eq_1 <|
  And.intro @vSplice.eq_1 <|
  And.intro @vMin.eq_1 <|
  And.intro @vMakeFunc.eq_1 <|
  And.intro @vMakeMap.eq_1 <|
  And.intro @vLookup.eq_1 <|
  And.intro @vMapUpdate.eq_1 <|
  And.intro @onV_w <|
  And.intro @bnd_w <|
  And.intro @cnd_w <|
  And.intro @vif_w <|
  And.intro @vcall_w <|
  And.intro @vres.eq_1 <|
  And.intro @vresL.eq_1 <|
  And.intro @vresL.eq_2 <|
  And.intro @h_nil <|
  And.intro @h_cons <|
  And.intro @h_guard <|
  And.intro @vopH.eq_1 <|
  And.intro @vCallH.eq_1 <|
  And.intro @vAppendH.eq_1 <|
  And.intro @vAppendF.eq_1 <|
  And.intro @vBuildSliceH.eq_1 <|
  And.intro @vcallH_w <|
  And.intro @allm_cons <|
  And.intro @allm_nil <| True.intro
def zvs :=
  And.intro @argsF.eq_1 <|
  And.intro @argsF.eq_2 <|
  And.intro @some_nat <|
  And.intro @untup.eq_1 <|
  And.intro @untup.eq_2 <|
  And.intro @isStrV.eq_1 <|
  And.intro @isStrV.eq_2 <|
  And.intro @keyV.eq_1 <|
  And.intro @keyV.eq_2 <|
  And.intro @keyV.eq_3 <|
  And.intro @keyV.eq_4 <|
  And.intro @bndW_some <|
  And.intro @cndW_true <|
  And.intro @vifW_true <|
  And.intro @vifW_false <|
  And.intro @onW_int <|
  And.intro @onW_bool <|
  And.intro @onW_str <|
  And.intro @onW_agg <|
  And.intro @onW_tup <|
  And.intro @onW_sl <|
  And.intro @onW_ptr <|
  And.intro @onW_fn <|
  And.intro @onW_map <|
  And.intro @onW_dat <|
  And.intro @onW_pd <|
  And.intro @onW_raw <|
  And.intro @ev.eq_1 <|
  And.intro @ev.eq_2 <|
  And.intro @ev.eq_3 <|
  And.intro @ev.eq_4 <|
  And.intro @ofV.eq_1 <|
  And.intro @ofV.eq_2 <|
  And.intro @ofV.eq_3 <|
  And.intro @ofV.eq_4 <|
  And.intro @ofV.eq_5 <|
  And.intro @ofV.eq_6 <|
  And.intro @ofV.eq_7 <|
  And.intro @ofV.eq_8 <|
  And.intro @ofV.eq_9 <|
  And.intro @ofV.eq_10 <|
  And.intro @put.eq_1 <|
  And.intro @put.eq_2 <|
  And.intro @upd_ap <|
  And.intro @dstAt.eq_1 <|
  And.intro @dstAt.eq_2 <|
  And.intro @dstAt.eq_3 <|
  And.intro @Bool.not_true <|
  And.intro @Bool.not_false <|
  And.intro @true_and <|
  And.intro @and_true <|
  And.intro @Bool.true_beq <|
  And.intro @Bool.false_beq <|
  And.intro @beq_true <|
  And.intro @beq_false <|
  And.intro @BEq.rfl.{0} <|
  And.intro @if_true.{1} <|
  And.intro @if_false.{1} <|
  And.intro @get_nil <|
  And.intro @get_cons <|
  And.intro @set_nil <|
  And.intro @set_cons <|
  And.intro @at_nil <|
  And.intro @at_st <|
  And.intro @at_arr <|
  And.intro @List.getElem?_toArray.{0} <|
  And.intro @List.getElem?_cons_zero.{0} <|
  And.intro @List.getElem?_cons_succ.{0} <|
  And.intro @List.map_cons.{0,0} <|
  And.intro @List.map_nil.{0,0} <|
  And.intro @Option.map_some.{0,0} <|
  And.intro @Option.map_none.{0,0} <|
  And.intro @List.set_cons_zero.{0} <|
  And.intro @List.set_cons_succ.{0} <|
  And.intro @List.nil_append.{0} <|
  And.intro @List.cons_append.{0} <|
  And.intro @List.append_nil.{0} <|
  And.intro @setParts.eq_1 <|
  And.intro @setParts.eq_2 <|
  And.intro @HasParts.eq_1 <|
  And.intro @HasParts.eq_2 <|
  And.intro @List.length_map.{0,0} <|
  And.intro @List.length_append.{0} <|
  And.intro @List.length_replicate.{0} <|
  And.intro @List.length_set.{0} <|
  And.intro @List.length_cons.{0} <|
  And.intro @List.length_nil.{0} <|
  And.intro @List.length_take.{0} <|
  And.intro @List.length_drop.{0} <|
  And.intro @Nat.zero_le <|
  And.intro @List.take_succ_cons.{0} <|
  And.intro @List.take_zero.{0} <|
  And.intro @List.drop_succ_cons.{0} <|
  And.intro @List.drop_zero.{0} <|
  And.intro @List.take_nil.{0} <|
  And.intro @List.drop_nil.{0} <|
  And.intro @Nat.le_refl <|
  And.intro @slots_cons <|
  And.intro @slots_nil <|
  And.intro @rows_cons <|
  And.intro @rows_nil <|
  And.intro @List.all_cons.{0} <|
  And.intro @List.all_nil.{0} <|
  And.intro @notTup.eq_1 <|
  And.intro @notTup.eq_2 <|
  And.intro @Bool.and_self <|
  And.intro @Bool.and_true <|
  And.intro @Bool.true_and <|
  And.intro @has_str <|
  And.intro @has_int <|
  And.intro @has_bool <|
  And.intro @has_sl <|
  And.intro @has_dat <|
  And.intro @has_ptr <|
  And.intro @has_fn <|
  And.intro @has_map <|
  And.intro @has_pd <|
  And.intro @has_st <|
  And.intro @hasl_c <|
  And.intro @hasl_n <|
  And.intro @Sh.size.eq_1 <|
  And.intro @Sh.size.eq_2 <|
  And.intro @Sh.size.eq_3 <|
  And.intro @Sh.sizes.eq_1 <|
  And.intro @Sh.sizes.eq_2 <|
  And.intro @ne_eq.{1} <|
  And.intro @not_false_eq_true <|
  And.intro @decide_true <|
  And.intro @decide_false <|
  And.intro @Bool.not_not <|
  And.intro @Int.toNat_natCast <|
  And.intro @ite_min <|
  And.intro @ite_max <|
  And.intro @ex_arr <|
  And.intro @Nat.sub_zero <|
  And.intro @Nat.add_zero <|
  And.intro @Nat.zero_add <|
  And.intro @default_str <|
  And.intro @default_u8 <|
  And.intro @List.size_toArray.{0} <|
  And.intro @eq_self.{1} <|
  And.intro @List.replicate_zero.{0} <|
  And.intro @rep_one <|
  And.intro @rep_two <|
  And.intro @rep_three <|
  And.intro @bytes_one <|
  And.intro @bytes_two <|
  And.intro @bytesOf_enc <|
  And.intro @leaf_ptr <|
  And.intro @leaf_int <|
  And.intro @leaf_str <|
  And.intro @leaf_bool <|
  And.intro @leaf_sl <|
  And.intro @leaf_dat <|
  And.intro @leaf_fn <|
  And.intro @leaf_map <|
  And.intro @take_lenMap <|
  And.intro @List.take_length.{0} <|
  And.intro @veq_bool <|
  And.intro @fit_bool <| True.intro
def zhb :=
  And.intro @Go.IntWalk.i64_in <|
  And.intro @Go.IntWalk.i32_in <|
  And.intro @Go.IntWalk.u8_in <|
  And.intro @Go.IntWalk.u64_in <|
  And.intro @Go.IntWalk.u32_in <|
  And.intro @Go.IntWalk.u16_in <|
  And.intro @dvalid <|
  And.intro @mvalid <|
  And.intro @decide_eq_true_eq <|
  And.intro @decide_eq_false_iff_not <|
  And.intro @beq_iff_eq.{0} <|
  And.intro @bne_iff_ne.{0} <|
  And.intro @beq_eq_false_iff_ne.{0} <|
  And.intro @bne_eq_false_iff_eq.{0} <|
  And.intro @ne_eq.{1} <|
  And.intro @Decidable.not_not <|
  And.intro @Bool.not_eq_true' <|
  And.intro @Bool.not_eq_false' <|
  And.intro @Int.not_lt <|
  And.intro @Int.not_le <|
  And.intro @ge_iff_le.{0} <|
  And.intro @gt_iff_lt.{0} <|
  And.intro @List.length_map.{0,0} <|
  And.intro @not_true_eq_false <|
  And.intro @not_false_eq_true <|
  And.intro @Bool.not_true <|
  And.intro @Bool.not_false <|
  And.intro @Bool.true_eq_false <|
  And.intro @Bool.false_eq_true <| True.intro
def zlk :=
  And.intro @ev.eq_1 <|
  And.intro @ev.eq_2 <|
  And.intro @ev.eq_3 <|
  And.intro @ev.eq_4 <|
  And.intro @ofV.eq_1 <|
  And.intro @ofV.eq_2 <|
  And.intro @ofV.eq_3 <|
  And.intro @ofV.eq_4 <|
  And.intro @ofV.eq_5 <|
  And.intro @ofV.eq_6 <|
  And.intro @ofV.eq_7 <|
  And.intro @ofV.eq_8 <|
  And.intro @ofV.eq_9 <|
  And.intro @ofV.eq_10 <|
  And.intro @put.eq_1 <|
  And.intro @put.eq_2 <|
  And.intro @argsF.eq_1 <|
  And.intro @argsF.eq_2 <|
  And.intro @upd_ap <|
  And.intro @slots_cons <|
  And.intro @slots_nil <|
  And.intro @rows_cons <|
  And.intro @rows_nil <|
  And.intro @turn_cons <|
  And.intro @turn_nil <|
  And.intro @if_true.{1} <|
  And.intro @if_false.{1} <| True.intro
def znl :=
  And.intro @nl_slnil <|
  And.intro @nls_append <|
  And.intro @nls_mapB <|
  And.intro @nls_mapStr <|
  And.intro @nls_repInt <|
  And.intro @nls_repBool <|
  And.intro @nls_repStr <|
  And.intro @nls_cons <|
  And.intro @nls_nil <|
  And.intro @nl_int <|
  And.intro @nl_bool <|
  And.intro @nl_str <|
  And.intro @nl_agg <|
  And.intro @nl_dat <|
  And.intro @Bool.and_self <|
  And.intro @Bool.and_true <| True.intro
def ziw :=
  And.intro @Go.IntWalk.i64_in <|
  And.intro @Go.IntWalk.i32_in <|
  And.intro @Go.IntWalk.u8_in <|
  And.intro @Go.IntWalk.u64_in <|
  And.intro @Go.IntWalk.u32_in <|
  And.intro @Go.IntWalk.u16_in <|
  And.intro @dvalid <|
  And.intro @mvalid <|
  And.intro @map_getD <|
  And.intro @rep_get <| True.intro
def zrds :=
  And.intro @rdt_t <|
  And.intro @rdt_i <|
  And.intro @rdt_b <|
  And.intro @rdt_s <|
  And.intro @rdt_a <|
  And.intro @rd_i <|
  And.intro @rd_b <|
  And.intro @rd_s <|
  And.intro @rd_a <|
  And.intro @rdl_c <|
  And.intro @rdl_n <|
  And.intro @and_true <|
  And.intro @true_and <| True.intro
/-! ### short ways: steps told in one word; sides that close by themselves -/
inductive Rl : Prop → Prop → Prop
  | seq {P : Program} {n0 : Nat} {x y : Code} {S : VS} {K : VX → VS → Prop} : Rl (Ok P n0 x S (VX.seq (fun S' => Ok P n0 y S' K) K)) (Ok P n0 (.seq x y) S K)
  | s1 {N : VS → Prop} {K : VX → VS → Prop} {S : VS} : Rl (N S) (VX.seq N K .normal S)
  | s2 {N : VS → Prop} {K : VX → VS → Prop} {S : VS} {i : Nat} : Rl (K (.exit i) S) (VX.seq N K (.exit i) S)
  | s3 {N : VS → Prop} {K : VX → VS → Prop} {S : VS} : Rl (K .ret S) (VX.seq N K .ret S)
  | b1 {i : Nat} {K : VX → VS → Prop} {S : VS} : Rl (K .normal S) (VX.block i K .normal S)
  | b2 {i : Nat} {K : VX → VS → Prop} {S : VS} : Rl (K .normal S) (VX.block i K (.exit i) S)
  | b4 {i : Nat} {K : VX → VS → Prop} {S : VS} : Rl (K .ret S) (VX.block i K .ret S)
  | l2 {α : Type} {n0 : Nat} {fr : α → VS} {I : α → Prop} {μ : α → Nat} {m : Nat} {K : VX → VS → Prop} {S : VS} {i : Nat} : Rl (K (.exit i) S) (LX n0 fr I μ m K (.exit i) S)
  | l3 {α : Type} {n0 : Nat} {fr : α → VS} {I : α → Prop} {μ : α → Nat} {m : Nat} {K : VX → VS → Prop} {S : VS} : Rl (K .ret S) (LX n0 fr I μ m K .ret S)
  | c2 {α : Type} {n0 : Nat} {fr : α → VS} {I : α → Prop} {K : VX → VS → Prop} {S : VS} {i : Nat} : Rl (K (.exit i) S) (CX n0 fr I K (.exit i) S)
  | c3 {α : Type} {n0 : Nat} {fr : α → VS} {I : α → Prop} {K : VX → VS → Prop} {S : VS} : Rl (K .ret S) (CX n0 fr I K .ret S)
  | block {P : Program} {n0 id : Nat} {c : Code} {S : VS} {K : VX → VS → Prop} : Rl (Ok P n0 c S (VX.block id K)) (Ok P n0 (.block id c) S K)
  | scope {P : Program} {n0 : Nat} {c : Code} {S : VS} {K : VX → VS → Prop} : Rl (Ok P n0 c S K) (Ok P n0 (.scope c) S K)
  | skip {P : Program} {n0 : Nat} {S : VS} {K : VX → VS → Prop} : Rl (K .normal S) (Ok P n0 .skip S K)
  | label {P : Program} {n0 l : Nat} {S : VS} {K : VX → VS → Prop} : Rl (K .normal S) (Ok P n0 (.label l) S K)
  | exit {P : Program} {n0 i : Nat} {S : VS} {K : VX → VS → Prop} : Rl (K (.exit i) S) (Ok P n0 (.exit i) S K)
  | ret {P : Program} {n0 : Nat} {S : VS} {K : VX → VS → Prop} : Rl (K .ret S) (Ok P n0 .ret S K)
  | t {A B : Prop} : Rl A (vif true A B)
  | f {A B : Prop} : Rl B (vif false A B)
  | en {P : Program} {rs : List ResultVar} {k : VV → Heap → Nat → Prop} {tm : Nat → VV} {H : Heap} {n : Nat} : Rl (vres P ⟨tm, H, n⟩ rs fun v => k v H n) (fin P rs k .normal ⟨tm, H, n⟩)
  | bl {A B : Prop} : Rl A (bldH A B)
  | er {P : Program} {rs : List ResultVar} {k : VV → Heap → Nat → Prop} {tm : Nat → VV} {H : Heap} {n : Nat} : Rl (vres P ⟨tm, H, n⟩ rs fun v => k v H n) (fin P rs k .ret ⟨tm, H, n⟩)
theorem yrl {a b : Prop} (h : Rl a b) (h' : a) : b := by
  cases h with
  | seq => exact jr h'
  | s1 => exact h'
  | s2 => exact h'
  | s3 => exact h'
  | b1 => exact h'
  | b2 => exact xb2 h'
  | b4 => exact h'
  | l2 => exact h'
  | l3 => exact h'
  | c2 => exact h'
  | c3 => exact h'
  | block => exact jl h'
  | scope => exact jm h'
  | skip => exact jn h'
  | label => exact jo h'
  | exit => exact jp h'
  | ret => exact jq h'
  | t => exact vif_t h'
  | f => exact vif_f h'
  | en => exact h'
  | er => exact h'
  | bl => exact .inl h'
theorem yqa {P : Program} {f : FuncId} {args : List VV} {H : Heap} {n : Nat} {K : VV → Heap → Nat → Prop} {t : Tag H} {t' : Tag K} {r : VV} (h : Spec P f args r) (hn : nls args = true) (hk : K r H n) (ht : args.all notTup = true := by with_unfolding_all rfl) : vcallW P H K t t' f args n := ja (jc h hn ht hk)
theorem yqb {P : Program} {f : FuncId} {args : List VV} {H : Heap} {n : Nat} {K : VV → Heap → Nat → Prop} {t : Tag H} {t' : Tag K} {r : VV} (h : Spec P f args r) (hn : nls args = true) (hk : K r H n) (ht : args.all notTup = true := by with_unfolding_all rfl) : vcallHW P H K t t' f args n := jb (jd h ht hn) hk
section
variable {n0 : Nat} {σ : List (Nat × Nat)} {H : Heap} {fz : Bool} {tm : Nat → VV}
theorem ya1 {k : IntKind} {a b : Int} (h : a = b := by first | rfl | omega) : MR n0 σ H fz (.int k a) (.int k b) := ju h
theorem ya2 {a b : List UInt8} (h : a = b := by rfl) : MR n0 σ H fz (.str a) (.str b) := jv h
theorem ya3 {a b : Bool} (h : a = b := by rfl) : MR n0 σ H fz (.bool a) (.bool b) := jw h
theorem ya5 {m m' : Nat} {p : List Nat} {i n n' : Nat} (hn : n = n' := by first | rfl | omega) (h : known n0 σ m' := by first | exact jL (by decide) | exact jM (by decide)) (h' : turn σ m' = m := by decide) : MR n0 σ H fz (.sl (some (m, p, i)) n) (.sl (some (m', p, i)) n') := jD h h' hn
theorem ya7 {m m' : Nat} {p : List Nat} (h : known n0 σ m' := by first | exact jL (by decide) | exact jM (by decide)) (h' : turn σ m' = m := by decide) : MR n0 σ H fz (.ptr m p) (.ptr m' p) := MR.ptr h h'
theorem ya8 {m m' : Nat} (h : known n0 σ m' := by first | exact jL (by decide) | exact jM (by decide)) (h' : turn σ m' = m := by decide) : MR n0 σ H fz (.map m) (.map m') := MR.map h h'
theorem ya9 {m k n : Nat} {e : Sh} {els els' : List VV} (h2 : n = els.length) (he : els = els') (h3 : nls els' = true) (h : fz = true := by rfl) (h1 : H m = some (.row (.arr k e) (.agg els)) := by simp only [↓reduceIte,zlk,Nat.reduceEqDiff,reduceCtorEq]; exact rfl) (h4 : m ∉ σ.map (·.2) := by decide) : MR n0 σ H fz (.sl (some (m, [], 0)) n) (.dat e els') := jB h h1 h2 he h3 h4
theorem yb1 {k : Nat} {b0 b : Blk} {l : List (Nat × Blk)} (hm : MB n0 σ H fz b0 b) (h' : AllB n0 σ H fz l) (hk : known n0 σ k := by first | exact jL (by decide) | exact jM (by decide)) (h : H (turn σ k) = some b0 := by simp only [↓reduceIte,zlk,Nat.reduceEqDiff,reduceCtorEq]; exact rfl) : AllB n0 σ H fz ((k, b) :: l) := jH hk h hm h'
theorem yb2 {k : Nat} {b : Blk} {l : List (Nat × Blk)} (h' : AllB n0 σ H fz l) (hk : (decide (k < n0) || (σ.map (·.1)).contains k) = false := by decide) : AllB n0 σ H fz ((k, b) :: l) := jK hk h'
theorem yrn {n n' : Nat} {l : List (Nat × VV)} {h : List (Nat × Blk)} (σ : List (Nat × Nat)) (fz : Bool) (h1 : AllS n0 σ H fz tm l) (h3 : AllB n0 σ H fz h) (hfz : fz = true → n0 = 0 := by first | (intro h; cases h; done) | exact fun _ => rfl) (hσ : jN n0 n' (h.map (·.1)) σ = true := by first | decide | rfl | (simp [jN]; done)) (hn : n0 ≤ n' := by decide) :
    Ren n0 ⟨tm, H, n⟩ ⟨slots l, rows h, n'⟩ := Ren.mk σ fz hfz hσ hn h1 h3
end
end Go.Proofs.YtcilmfhncjfdbaaDoor.V
end
section
/-
  MMU, part 1: a space, the frame and the place of an address.
-/
set_option linter.unusedVariables false
set_option linter.unusedSimpArgs false
namespace Go.Proofs.YtcilmfhncjfdbaaDoor.V
open Go
set_option maxRecDepth 100000
set_option maxHeartbeats 1000000
structure Pte where
  is : Bool
  wr : Bool
  fr : Int
instance : Inhabited Pte := ⟨⟨false, false, 0⟩⟩
abbrev encStrs (l : List (List UInt8)) : VV := .dat .cell (l.map .str)
end Go.Proofs.YtcilmfhncjfdbaaDoor.V
end
