/-
  A MACHINE OF VALUES: maps.
-/
import Derived.Test.YtndbfphmjmhkjaaVopJ
import Derived.MapKept
set_option linter.unusedVariables false
set_option linter.unusedSectionVars false
set_option linter.unusedSimpArgs false
namespace Go.Proofs.Ytndbfphmjmhkjaa.V
open Go Go.RowKit Go.MapKept

def untup : VV → Bool
  | .tup _ => false
  | _ => true
/-- a key of such a kind -/
def keyV (d : TypeDesc) (v : VV) : Bool := match d, v with
  | .int k, .int k' _ => k == k'
  | .string, .str _ => true
  | .bool, .bool _ => true
  | _, _ => false
def keq (a b : VV) : Bool := match a, b with
  | .int _ i, .int _ j => i == j
  | .str s, .str t => s == t
  | .bool x, .bool y => x == y
  | _, _ => false
def mget : List (VV × VV) → VV → Option VV
  | [], _ => none
  | (k, v) :: es, q => if keq q k = true then some v else mget es q
def mput : List (VV × VV) → VV → VV → List (VV × VV)
  | [], q, u => [(q, u)]
  | (k, v) :: es, q, u => if keq q k = true then (k, u) :: es else (k, v) :: mput es q u
/-- of a map's type: its keys' kind, its elements' type -/
def MP (P : Program) (t : TypeId) : Option (TypeDesc × TypeId) := match P.underlying t with
  | some (.map kt et) => (P.underlying kt).map fun d => (d, et)
  | _ => none
theorem MP_spec {P : Program} {t et : TypeId} {d : TypeDesc} (h : MP P t = some (d, et)) : ∃ kt, P.underlying t = some (.map kt et) ∧ P.underlying kt = some d := by
  unfold MP at h
  split at h
  · rename_i kt et' hu
    cases hk : P.underlying kt with
    | none => rw [hk] at h; cases h
    | some d' =>
      rw [hk] at h
      simp at h
      obtain ⟨rfl, rfl⟩ := h
      exact ⟨kt, hu, hk⟩
  · cases h
section
variable (P : Program) (e : Operand → VV) (H : Heap) (n : Nat) (K : VV → Heap → Nat → Prop)
def vMakeMap : Prop := K (.map n) (upd H n (some (.map []))) (n + 1)
def vLookup (t : TypeId) (x i : Operand) (c : Bool) : Prop := onV (e x) fun v => match v with
  | .map m => bnd (H m) fun b => match b with
    | .map es => bnd (MP P t) fun d => cnd (keyV d.1 (e i) = true ∧ (es.all fun q => keyV d.1 q.1) = true) (bnd (ZE P d.2) fun z => K (if c = true then .tup [(mget es (e i)).getD z, .bool (mget es (e i)).isSome] else (mget es (e i)).getD z) H n)
    | _ => False
  | _ => False
def vMapUpdate (t : TypeId) (m k x : Operand) : Prop := onV (e m) fun v => match v with
  | .map l => bnd (H l) fun b => match b with
    | .map es => bnd (MP P t) fun d => cnd (keyV d.1 (e k) = true ∧ (es.all fun q => keyV d.1 q.1) = true ∧ untup (e x) = true) (K .any (upd H l (some (.map (mput es (e k) (e x))))) n)
    | _ => False
  | _ => False
end
section
variable {P : Program} {Z : Nat → Nat → Prop} [Zone Z] {B : Nat} {ρ ρ' : Names} {w w' : World} {H : Heap} {n : Nat} {tm : Nat → VV} {a : Act} {K : VV → Heap → Nat → Prop} {o : Oper}
theorem bytes_eq (s t : List UInt8) : ((⟨s.toArray⟩ : ByteArray) == ⟨t.toArray⟩) = (s == t) := by
  rw [Bool.eq_iff_iff, bytes_beq, beq_iff_eq]
  constructor
  · intro h
    injection h with h
    simpa using congrArg Array.toList h
  · rintro rfl; rfl
theorem same_keq {d : TypeDesc} {q k : VV} {x y : Value} (hq : keyV d q = true) (hk : keyV d k = true) (ha : VR1 ρ w q x) (hb : VR1 ρ w k y) :
    Instr.sameNow d x y = some (keq q k) ∧ (keq q k = true → y = x) := by
  cases d <;> cases q <;> simp [keyV] at hq <;> cases k <;> simp [keyV] at hk <;> simp [VR1, C1] at ha hb <;> subst ha hb <;> simp_all [Instr.sameNow, keq, bytes_eq]
theorem keyV_leaf {d : TypeDesc} {q : VV} (hq : keyV d q = true) : q.leaf = true := by
  cases d <;> cases q <;> simp [keyV] at hq <;> rfl
theorem keyV_isKey {d : TypeDesc} {q : VV} {x : Value} (hq : keyV d q = true) (ha : VR1 ρ w q x) : IsKey d x := by
  cases d <;> cases q <;> simp [keyV] at hq <;> simp [VR1, C1] at ha <;> subst ha <;> simp_all [IsKey]
theorem keyV_one {d : TypeDesc} {q : VV} (hq : keyV d q = true) {x : Value} (h : VR ρ w q x) : VR1 ρ w q x := by
  cases d <;> cases q <;> simp [keyV] at hq <;> exact h
theorem ME_find {d : TypeDesc} {q u : VV} {key : Value} (hq : keyV d q = true) (hkey : VR1 ρ w q key) : ∀ (es : List (VV × VV)) (xs : List MapEntry), ME ρ w es xs → (∀ p ∈ es, keyV d p.1 = true) →
    (mget es q = none ∧ (∀ i, Instr.findNow d key xs i = some none) ∧ ∀ y : MapEntry, y.key = key → VR1 ρ w u y.val → ME ρ w (mput es q u) (xs ++ [y])) ∨
    (∃ j e v, mget es q = some v ∧ (∀ i, Instr.findNow d key xs i = some (some (i + j, e.val))) ∧ xs[j]? = some e ∧ e.key = key ∧ VR1 ρ w v e.val ∧
      ∀ val, VR1 ρ w u val → ME ρ w (mput es q u) (xs.modify j fun e => { e with key := key, val := val }))
  | [], xs, h, _ => by
    simp only [ME] at h
    subst h
    refine .inl ⟨rfl, fun _ => rfl, fun y hy hv => ?_⟩
    simp only [mput,List.nil_append,ME]
    exact ⟨y, [], rfl, keyV_leaf hq, by rw [hy]; exact hkey, hv, rfl⟩
  | (k, v) :: es, xs, h, hk => by
    simp only [ME] at h
    obtain ⟨x, ys, rfl, h1, h2, h3, h4⟩ := h
    obtain ⟨hs, he⟩ := same_keq hq (hk (k, v) (by simp)) hkey h2
    cases hb : keq q k with
    | true =>
      rw [hb] at hs he
      refine .inr ⟨0, x, v, by simp [mget, hb], fun i => by simp [Instr.findNow, hs], rfl, he rfl, h3, fun val hval => ?_⟩
      simp only [mput,hb,if_true,ME]
      refine ⟨_, ys, rfl, h1, ?_, hval, h4⟩
      show VR1 ρ w k key
      rw [← he rfl]
      exact h2
    | false =>
      rw [hb] at hs
      rcases ME_find (u := u) hq hkey es ys h4 (fun p hp => hk p (by simp [hp])) with ⟨g1, g2, g3⟩ | ⟨j, e, v', g1, g2, g3, g4, g5, g6⟩
      · refine .inl ⟨by simp [mget, hb, g1], fun i => by simp [Instr.findNow, hs, g2], fun y hy hv => ?_⟩
        simp only [mput,hb,Bool.false_eq_true,if_false,List.cons_append,ME]
        exact ⟨x, _, rfl, h1, h2, h3, g3 y hy hv⟩
      · refine .inr ⟨j + 1, e, v', by simp [mget, hb, g1], fun i => by simp [Instr.findNow, hs, g2]; omega, by simpa using g3, g4, g5, fun val hval => ?_⟩
        simp only [mput,hb,Bool.false_eq_true,if_false,List.modify_succ_cons,ME]
        exact ⟨x, _, rfl, h1, h2, h3, g6 val hval⟩
/-- a named map with other entries -/
theorem HR.putMap (h : HR Z B ρ H n w) {m : Nat} {l : Loc} {es : List (VV × VV)} (hm : ρ m = some l) (hlive : H m ≠ none) (hsz : w'.heap.size = w.heap.size) (hb : ∀ b, b ≠ l.block → w'.heap[b]? = w.heap[b]?)
    (hr : MapAt ρ w' l es) : HR Z B ρ (upd H m (some (.map es))) n w' := by
  have he : Ext ρ w ρ w' := ⟨fun _ _ h => h, by omega, fun b hb' hu => hb b (fun e => hu.2 m l hm e.symm), fun _ _ h => .inl h, fun _ h => h, fun _ h => .inl h⟩
  refine ⟨by rw [hsz]; exact h.base, h.fresh, fun m l hm => by rw [hsz]; exact h.lt m l hm, fun m1 m2 l1 l2 h1 h2 g1 g2 heq => ?_, fun m1 s1 v1 l' hm1 h1 => ?_, fun m1 es1 l' hm1 h1 => ?_⟩
  · refine h.apart m1 m2 l1 l2 h1 h2 ?_ ?_ heq
    · rw [upd_ap] at g1; split at g1
      · rename_i e; rw [e]; exact hlive
      · exact g1
    · rw [upd_ap] at g2; split at g2
      · rename_i e; rw [e]; exact hlive
      · exact g2
  · rw [upd_ap] at hm1
    by_cases e : m1 = m
    · rw [if_pos e] at hm1; cases hm1
    · rw [if_neg e] at hm1
      exact (h.row m1 s1 v1 l' hm1 h1).same he (hb _ fun eq => e (h.apart m1 m l' l h1 hm (by rw [hm1]; simp) hlive eq))
  · rw [upd_ap] at hm1
    by_cases e : m1 = m
    · rw [if_pos e] at hm1
      injection hm1 with hm1
      injection hm1 with e1
      subst e1 e
      rw [hm] at h1
      injection h1 with h1
      subst h1
      exact hr
    · rw [if_neg e] at hm1
      exact (h.map m1 es1 l' hm1 h1).same he (hb _ fun eq => e (h.apart m1 m l' l h1 hm (by rw [hm1]; simp) hlive eq))
theorem HR.newMap (h : HR Z B ρ H n w) (hZ : Zone.ok Z n) {es : List (VV × VV)} (l : Loc) (hl0 : w.heap.size ≤ l.block) (hl1 : l.block < w'.heap.size) (hsz : w.heap.size ≤ w'.heap.size) (hb : ∀ b, b < w.heap.size → w'.heap[b]? = w.heap[b]?)
    (hr : MapAt (ρ.give n l) w' l es) : HR Z B (ρ.give n l) (upd H n (some (.map es))) (n + 1) w' := by
  have he : Ext ρ w (ρ.give n l) w' := ext_new (h.fresh n (Zone.free n hZ)) l hsz (fun b hb' _ => hb b hb') (.inl hl0)
  have hbase := h.base
  refine ⟨Nat.le_trans h.base hsz, fun m hz => ?_, fun m l' hm => ?_, fun m m' l1 l2 h1 h2 g1 g2 heq => ?_, fun m s' v' l' hm h1 => ?_, fun m es' l' hm h1 => ?_⟩
  · rw [give_ap, if_neg (Zone.next _ _ hZ hz)]
    exact h.fresh m (Zone.mono _ _ _ (Nat.le_succ _) hz)
  · rw [give_ap] at hm
    split at hm
    · injection hm with hm
      subst hm
      exact ⟨by omega, hl1⟩
    · obtain ⟨g2, g3⟩ := h.lt m l' hm
      exact ⟨g2, by omega⟩
  · simp only [upd_ap,give_ap] at h1 h2 g1 g2
    by_cases e1 : m = n
    · by_cases e2 : m' = n
      · omega
      · rw [if_pos e1] at h1
        rw [if_neg e2] at h2
        injection h1 with h1
        subst h1
        have := (h.lt m' l2 h2).2
        omega
    · by_cases e2 : m' = n
      · rw [if_neg e1] at h1
        rw [if_pos e2] at h2
        injection h2 with h2
        subst h2
        have := (h.lt m l1 h1).2
        omega
      · rw [if_neg e1] at h1 g1
        rw [if_neg e2] at h2 g2
        exact h.apart m m' l1 l2 h1 h2 g1 g2 heq
  · rw [upd_ap] at hm
    by_cases e : m = n
    · rw [if_pos e] at hm
      cases hm
    · rw [if_neg e] at hm
      rw [give_ap, if_neg e] at h1
      exact (h.row m s' v' l' hm h1).same he (hb _ (h.lt m l' h1).2)
  · rw [upd_ap] at hm
    by_cases e : m = n
    · rw [if_pos e] at hm
      injection hm with hm
      injection hm with hm1
      subst hm1 e
      rw [give_ap, if_pos rfl] at h1
      injection h1 with h1
      subst h1
      exact hr
    · rw [if_neg e] at hm
      rw [give_ap, if_neg e] at h1
      exact (h.map m es' l' hm h1).same he (hb _ (h.lt m l' h1).2)
theorem makeMap_sound (hh : HR Z B ρ H n w) (hG : Gives Z n K) (t : TypeId) (ho : o.op = .makeMap t none) (h : vMakeMap H n K) : Runs P Z B K ρ w (execOp a.eval o) := by
  unfold vMakeMap at h
  have hZ := hG.one h
  have hsz : (w.alloc (.map #[] 0)).heap.size = w.heap.size + 1 := by show (w.heap.push _).size = _; simp
  have hl : MapAt (ρ.give n ⟨w.heap.size, 0, 0, .cell⟩) (w.alloc (.map #[] 0)) ⟨w.heap.size, 0, 0, .cell⟩ [] := ⟨#[], 0, (heap_alloc w _).1, rfl⟩
  have h1 := hh.newMap hZ ⟨w.heap.size, 0, 0, .cell⟩ (Nat.le_refl _) (by rw [hsz]; exact Nat.lt_succ_self _) (by rw [hsz]; exact Nat.le_succ _) (fun b hb => (heap_alloc w _).2 b hb) hl
  refine .inl ⟨.map (some w.heap.size), w.alloc (.map #[] 0), ?_, _, _, _, _, h, ?_, h1, ?_, ?_⟩
  · simp [execOp, ho, Instr.makeMap]
  · simp only [VR,VR1,C1]
    exact ⟨_, by rw [give_ap, if_pos rfl], rfl⟩
  · exact ext_new (hh.fresh n (Zone.free n hZ)) _ (by rw [hsz]; exact Nat.le_succ _) (fun b hb' _ => (heap_alloc w _).2 b hb') (.inl (Nat.le_refl _))
  · have := hh.base
    exact ⟨rfl, rfl, rfl, by rw [hsz]; exact Nat.le_succ _, fun k hk => (heap_alloc w _).2 k (by omega)⟩
theorem VR.map {m : Nat} {x : Value} (h : VR ρ w (.map m) x) : ∃ l, ρ m = some l ∧ x = .map (some l.block) := by simpa [VR, VR1, C1] using h
theorem VR.ofHas {s : Sh} {v : VV} {x : Value} (hs : Has s v) (h : VR ρ w v x) : VR1 ρ w v x := by
  cases v with
  | tup vs => cases s <;> simp [Has, VV.leaf] at hs
  | _ => exact h
theorem lookup_sound (hT : TM ρ w tm a) (hh : HR Z B ρ H n w) (t : TypeId) (x i : Operand) (c : Bool) (ho : o.op = .lookup t x i c) (h : vLookup P (ev tm) H n K t x i c) : Runs P Z B K ρ w (execOp a.eval o) := by
  unfold vLookup onV at h
  dsimp only at h
  have hx := ev_sound hT x
  have hi := ev_sound hT i
  split at h
  · rename_i m e
    rw [e] at hx
    obtain ⟨l, hl, hp⟩ := hx.map
    replace h := bnd_iff.1 h
    obtain ⟨b, hb, h⟩ := h
    split at h
    · rename_i es
      replace h := bnd_iff.1 h
      obtain ⟨⟨d, et⟩, hd, ⟨h1, h2⟩, h⟩ := h
      replace h := bnd_iff.1 h
      obtain ⟨z, hz, h⟩ := h
      dsimp only at h1 h2 hz
      obtain ⟨kt, hm, hk⟩ := MP_spec hd
      obtain ⟨s, zv, inf, _, hinf, hzv, hHz, _, hV⟩ := ZE_spec hz
      obtain ⟨xs, clock, ho1, ho2⟩ := (hh.map m es l hb hl).obj
      have hi1 := keyV_one h1 hi
      have hkey := keyV_isKey h1 hi1
      have hzr : (zeroValue et).run P w = .ok zv w := by simp [zeroValue, typeInfo, hinf, hzv]
      rcases ME_find (u := .any) h1 hi1 es xs.toList ho2 (fun p hp => List.all_eq_true.1 h2 p hp) with ⟨g1, g2, g3⟩ | ⟨j, en, v, g1, g2, g3, g4, g5, g6⟩
      · rw [g1] at h
        simp only [Option.getD_none,Option.isSome_none] at h
        refine runs_value (x := if c = true then .tuple #[zv, .bool false] else zv) ?_ h ?_ hh
        · have := run_findKey hk (g2 0) (w := w)
          simp [execOp, ho, hp, Instr.lookup, run_underlying hm, Go.MapKept.run_getObj_map ho1, run_checkKey hk hkey, this, hzr, Result.andThen]
        · split
          · simp only [VR,VRs]
            exact ⟨_, rfl, _, _, rfl, VR.ofHas hHz (hV ρ w).1, _, _, rfl, by simp [VR1, C1], rfl⟩
          · exact (hV ρ w).1
      · rw [g1] at h
        simp only [Option.getD_some,Option.isSome_some] at h
        refine runs_value (x := if c = true then .tuple #[en.val, .bool true] else en.val) ?_ h ?_ hh
        · have := run_findKey hk (g2 0) (w := w)
          simp [execOp, ho, hp, Instr.lookup, run_underlying hm, Go.MapKept.run_getObj_map ho1, run_checkKey hk hkey, this, Result.andThen]
        · split
          · simp only [VR,VRs]
            exact ⟨_, rfl, _, _, rfl, g5, _, _, rfl, by simp [VR1, C1], rfl⟩
          · exact VR.of1 g5
    · exact h.elim
  · exact h.elim
theorem VR.one {v : VV} {x : Value} (hn : untup v = true) (h : VR ρ w v x) : VR1 ρ w v x := by
  cases v with
  | tup vs => simp [untup] at hn
  | _ => exact h
theorem mapUpdate_sound (hT : TM ρ w tm a) (hh : HR Z B ρ H n w) (t : TypeId) (m k x : Operand) (ho : o.op = .mapUpdate t m k x ∨ o.op = .insert t m k x) (h : vMapUpdate P (ev tm) H n K t m k x) : Runs P Z B K ρ w (execOp a.eval o) := by
  unfold vMapUpdate onV at h
  dsimp only at h
  have hm := ev_sound hT m
  have hk := ev_sound hT k
  have hx := ev_sound hT x
  split at h
  · rename_i l0 e
    rw [e] at hm
    obtain ⟨l, hl, hp⟩ := hm.map
    replace h := bnd_iff.1 h
    obtain ⟨b, hb, h⟩ := h
    split at h
    · rename_i es
      replace h := bnd_iff.1 h
      obtain ⟨⟨d, et⟩, hd, ⟨h1, h2, h3⟩, h⟩ := h
      dsimp only at h1 h2
      obtain ⟨kt, hmt, hkt⟩ := MP_spec hd
      obtain ⟨xs, clock, ho1, ho2⟩ := (hh.map l0 es l hb hl).obj
      have hk1 := keyV_one h1 hk
      have hkey := keyV_isKey h1 hk1
      have hx1 := VR.one h3 hx
      have hlt := hh.lt l0 l hl
      have fin : ∀ es' c', (Instr.mapUpdate t (.map (some l.block)) (a.eval k) (a.eval x)).run P w = .ok () { w with heap := w.heap.setIfInBounds l.block (.map es' c') } → ME ρ w (mput es (ev tm k) (ev tm x)) es'.toList → Runs P Z B K ρ w (execOp a.eval o) := fun es' c' hr hme => by
        obtain ⟨q1, q2⟩ := heap_set (o' := .map es' c') ho1
        have hsz : ({ w with heap := w.heap.setIfInBounds l.block (.map es' c') } : World).heap.size = w.heap.size := by simp
        have he : Ext ρ w ρ { w with heap := w.heap.setIfInBounds l.block (.map es' c') } := ⟨fun _ _ h => h, by rw [hsz]; exact Nat.le_refl _, fun b hb' hu => q2 b (fun e => hu.2 l0 l hl e.symm), fun _ _ h => .inl h, fun _ h => h, fun _ h => .inl h⟩
        have h4 := hh.putMap (w' := { w with heap := w.heap.setIfInBounds l.block (.map es' c') }) hl (by rw [hb]; simp) hsz q2 ⟨es', c', q1, ME.ext he _ _ hme⟩
        refine .inr (.inl ⟨_, ?_, _, _, _, _, h, by simp [VR, VR1], h4, he, ?_⟩)
        · rcases ho with ho | ho <;> simp [execOp, ho, hp, hr]
        · exact ⟨rfl, rfl, rfl, by rw [hsz]; exact Nat.le_refl _, fun j hj => q2 j (by omega)⟩
      rcases ME_find (u := ev tm x) h1 hk1 es xs.toList ho2 (fun p hp => List.all_eq_true.1 h2 p hp) with ⟨g1, g2, g3⟩ | ⟨j, en, v, g1, g2, g3, g4, g5, g6⟩
      · have := run_findKey hkt (g2 0) (w := w)
        refine fin (xs.push { key := a.eval k, val := a.eval x, born := clock }) (clock + 1) ?_ ?_
        · simp [Instr.mapUpdate, run_underlying hmt, Go.MapKept.run_getObj_map ho1, run_checkKey hkt hkey, this, run_setObj_map _ ho1, Result.andThen]
        · rw [Array.toList_push]
          exact g3 _ rfl hx1
      · have := run_findKey hkt (g2 0) (w := w)
        have hj : xs[j]? = some en := by simpa using g3
        refine fin (xs.modify j fun e => { e with key := a.eval k, val := a.eval x }) clock ?_ ?_
        · simp [Instr.mapUpdate, run_underlying hmt, Go.MapKept.run_getObj_map ho1, run_checkKey hkt hkey, this, hj, g4, run_keyThatStays hkey, run_setObj_map _ ho1, Result.andThen]
        · rw [Array.toList_modify]
          exact g6 _ hx1
    · exact h.elim
  · exact h.elim
end
end Go.Proofs.Ytndbfphmjmhkjaa.V
