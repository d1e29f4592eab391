/-
  A MACHINE OF VALUES, ELEVENTH PART: append; bytes and strings.
-/
import Derived.Test.YtndbfphmjmhkjaaVopH
set_option linter.unusedVariables false
set_option linter.unusedSectionVars false
set_option linter.unusedSimpArgs false
namespace Go.Proofs.Ytndbfphmjmhkjaa.V
open Go Go.RowKit

section
variable {P : Program} {Z : Nat → Nat → Prop} [Zone Z] {B : Nat} {ρ ρ' : Names} {w w' : World} {H : Heap} {n : Nat} {tm : Nat → VV} {a : Act} {K : VV → Heap → Nat → Prop} {o : Oper}
theorem ext_drew (ρ : Names) (w : World) : Ext ρ w ρ w.drew := ⟨fun _ _ h => h, Nat.le_refl _, fun _ _ _ => rfl, fun _ _ h => .inl h, fun _ h => h, fun _ h => .inl h⟩
theorem HR.drew (h : HR Z B ρ H n w) : HR Z B ρ H n w.drew := h.kept (Nat.le_refl _) fun _ _ => rfl
/-- grown into a new block -/
theorem grown_good (hh : HR Z B ρ H n w) (hZ : Zone.ok Z n) {se : Sh} {olds news : List VV} {ocs ncs : List Value} (ho : CR ρ w olds ocs) (hso : ∀ e ∈ olds, Has se e) (hn : CR ρ w news ncs) (hsn : ∀ e ∈ news, Has se e)
    {et : TypeId} {zc : Array Value} (hz : zc.size = se.size) {c : Nat} (hc : olds.length + news.length ≤ c)
    (hk : K (.sl (some (n, [], 0)) (olds.length + news.length)) (upd H n (some (.row (.arr (olds.length + news.length) se) (.agg (olds ++ news))))) (n + 1)) :
    Good Z B K ρ w (.slice (some ⟨w.heap.size, 0, none⟩) (olds.length + news.length) c) (w.drew.alloc (.cells ((ocs ++ ncs).toArray ++ Builtin.zeroCells zc (c - (olds.length + news.length))) et)) := by
  have hd := hh.drew
  have hcr := CR.join _ _ _ _ (CR.ext (ext_drew ρ w) _ _ ho) (CR.ext (ext_drew ρ w) _ _ hn)
  have hhas : Has (.arr (olds.length + news.length) se) (.agg (olds ++ news)) := by
    simp only [Has]
    exact ⟨by simp, fun v hv => (List.mem_append.1 hv).elim (hso v) (hsn v)⟩
  obtain ⟨l, e1, e2, e3, e4, h1, h2, h3⟩ := new_block (t := et) (cells := (ocs ++ ncs).toArray ++ Builtin.zeroCells zc (c - (olds.length + news.length))) (tail := (Builtin.zeroCells zc (c - (olds.length + news.length))).toList) hd hZ hhas (by simp only [C1]; exact hcr) (by simp)
  have l1 := HasA.len _ _ hso ho
  have l2 := HasA.len _ _ hsn hn
  refine ⟨_, _, _, _, hk, ?_, h1, (ext_drew ρ w).trans h2, (Below.refl B w).drew.trans h3⟩
  simp only [VR,VR1,C1]
  refine .inr ⟨l, c, se, olds.length + news.length, by rw [give_ap, if_pos rfl], by rw [e1, e2, e4]; simp [Sh.off], hc, by rw [e4]; rfl, ?_⟩
  rw [e4, e3]
  simp only [Array.size_append,List.size_toArray,List.length_append,l1,l2,size_zeroCells,hz]
  have : c * se.size = olds.length * se.size + news.length * se.size + (c - (olds.length + news.length)) * se.size := by
    rw [← Nat.add_mul, ← Nat.add_mul]; congr 1; omega
  simp [Sh.off]
  omega
theorem append_sound (hT : TM ρ w tm a) (hh : HR Z B ρ H n w) (hG : Gives Z n K) (s x : Operand) (ts : Array TypeId) (hts : ts.size = 2) (ho : o.op = .call { callee := .builtin .append, args := #[s, x], argTypes := ts }) (h : vAppend P (ev tm) H n K ts s x) : Runs P Z B K ρ w (execOp a.eval o) := by
  unfold vAppend at h
  replace h := bnd_iff.1 h
  obtain ⟨t, ht0, h⟩ := h
  replace h := bnd_iff.1 h
  obtain ⟨tx, ht1, h⟩ := h
  replace h := bnd_iff.1 h
  obtain ⟨et, het, h⟩ := h
  replace h := bnd_iff.1 h
  obtain ⟨se, hse, h⟩ := h
  replace h := bnd_iff.1 h
  obtain ⟨z, hz, h⟩ := h
  replace h := bnd_iff.1 h
  obtain ⟨u, hu, h⟩ := h
  have hts' : ts = #[t, tx] := by
    obtain ⟨l⟩ := ts
    match l, hts with
    | [p, q], _ => simp at ht0 ht1; rw [ht0, ht1]
  subst hts'
  obtain ⟨news, m2, ncs, h, hsn, hcn, hsrc, hnl, _⟩ := src_sound hh hT hu _ h
  obtain ⟨s', zv, inf, hs', hi, hzv, hH, hsz, hV⟩ := ZE_spec hz
  rw [hse] at hs'
  injection hs' with hs'
  subst hs'
  have hul := EL_spec het
  obtain ⟨inf', d, hi', hud, hisz, hrow⟩ := shOf_spec hse
  rw [hi] at hi'
  injection hi' with hi'
  subst hi'
  have hbyv : BY P et = inf.bytes := by simp [BY, hi]
  rw [hbyv] at h
  rw [← hisz] at hsrc
  have hs := ev_sound hT s
  have run : ∀ (v : Value) (w' : World), (Builtin.append_ #[t, tx] o.type #[a.eval s, a.eval x]).run P w = .ok v w' → (execOp a.eval o).run P w = .ok (.value v) w' := by
    intro v w' hr
    simp [execOp, ho, resolve, invoke, builtin, hr]
  -- onto nothing
  have hnil : ∀ (A : Option Addr) (H' : Heap), HR Z B ρ H' n w → a.eval s = .slice A 0 0 → news.length * inf.bytes ≤ 140737488355328 → news.length ≤ 1000000000000 →
      K (.sl (some (n, [], 0)) news.length) (upd H' n (some (.row (.arr news.length se) (.agg news)))) (n + 1) → Runs P Z B K ρ w (execOp a.eval o) := by
    intro A H' hh' hp hb1 hb2 hk
    by_cases h0 : news.length = 0
    · have : news = [] := List.eq_nil_of_length_eq_zero h0
      subst this
      have hnc : ncs = [] := List.eq_nil_of_length_eq_zero (by simpa using hnl)
      subst hnc
      have hr := run_append_nothing (P := P) w t tx o.type et inf hul hi A 0 0 (Nat.le_refl _) (a.eval x) (by simpa using hsrc)
      rw [← hp] at hr
      exact .inl ⟨_, w, run _ _ hr, _, _, _, ρ, hk, by rw [hp]; exact VR_nil A, (hh'.ghost (hh'.fresh n (Zone.free n (hG.one hk))) _).more (Nat.le_succ _), Ext.refl _ _, Below.refl _ _⟩
    · have hold : (Builtin.firstCells inf.size 0 (.slice A 0 0)).run P w.drew = .ok ([] : List Value).toArray w.drew := by
        cases A with
        | none => exact run_firstCells_none _ _ _ _ _
        | some ad => exact run_firstCells_some _ _ _ ad 0 0 [] (by simp) (by simp)
      have hr := run_append_grow_src (P := P) w t tx o.type et inf zv hul hi hzv A 0 0 [] hold (a.eval x) news.length ncs hsrc (by omega) (by omega) (growslice_fits (by omega) (by simpa using hb1))
      rw [← hp] at hr
      have hg := grown_good (K := K) (olds := []) (ocs := []) (et := et) (zc := zv.cells) (c := grownCap w (0 + news.length) 0 et) hh' (hG.one hk) (by simp only [CR]) (by simp) hcn hsn hsz (by
        have := grownCap_ge w (0 + news.length) 0 et
        simpa using this) (by simpa using hk)
      exact .inl ⟨_, _, run _ _ hr, hg⟩
  generalize hv : ev tm s = v at h hs
  unfold onV at h
  dsimp only at h
  split at h
  · obtain ⟨⟨hb1, hb2⟩, h⟩ := h
    have hp : a.eval s = .slice none 0 0 := by simpa [VR, VR1, C1] using hs
    exact hnil none H hh hp hb1 hb2 h
  · rename_i m len
    replace h := bnd_iff.1 h
    obtain ⟨blk, hbk, h⟩ := h
    split at h
    · rename_i kk s' els
      obtain ⟨⟨rfl, rfl, hne, hb1, hb2⟩, h⟩ := h
      rcases hs.sl with ⟨h0, A, hp⟩ | ⟨l, cap, e', j', hl, hp, hcap, hate, hroom⟩
      · have : els = [] := List.eq_nil_of_length_eq_zero h0
        subst this
        exact hnil A (upd H m none) (hh.drop m) hp (by simpa using hb1) (by simpa using hb2) (by simpa using h)
      · have hrowAt := hh.row m _ _ l hbk hl
        obtain ⟨cs, q1, q2, q3⟩ := hrowAt.cells
        have hhas := hrowAt.has
        simp only [Has] at hhas
        simp only [C1] at q1
        have hlen := HasA.len _ _ hhas.2 q1
        have hoff0 : l.sh.off ([] ++ [0]) = 0 := by rw [hrowAt.sh]; simp [Sh.off]
        have he' : e' = s' := by
          rw [hrowAt.sh] at hate
          simp [Sh.at] at hate
          exact hate.2.symm
        subst he'
        rw [hoff0] at hroom hp
        rw [Nat.zero_add] at hroom
        rw [Nat.add_zero] at hp
        by_cases hfit : els.length + news.length ≤ cap
        · -- there is room
          have hneed : els.length * e'.size + ncs.length ≤ l.room := by
            have : (els.length + news.length) * e'.size ≤ cap * e'.size := Nat.mul_le_mul_right _ hfit
            rw [Nat.add_mul] at this
            omega
          have hth : w.there l.block (l.base + els.length * e'.size) ncs.length := there_part hrowAt.room (by omega)
          have hr := run_append_room_src (P := P) w t tx o.type et inf hul hi l.block l.base els.length cap (a.eval x) news.length ncs hsrc hfit (fun j hj => by rw [hisz]; exact (hth j hj).1) (fun j hj => by rw [hisz]; exact (hth j hj).2)
          rw [← hp, hisz] at hr
          have hot : ∀ b, b ≠ l.block → (w.setCells l.block (l.base + els.length * e'.size) ncs).heap[b]? = w.heap[b]? := fun b hb' => setCells_other l.block hb' ncs _ w
          have hsz2 := setCells_size l.block ncs (l.base + els.length * e'.size) w
          have hE : Ext ρ w (ρ.give n ⟨l.block, l.base, l.room, .arr (els.length + news.length) e'⟩) (w.setCells l.block (l.base + els.length * e'.size) ncs) :=
            ext_new (hh.fresh n (Zone.free n (hG.one h))) ⟨l.block, l.base, l.room, .arr (els.length + news.length) e'⟩ (by omega) (fun b _ hb' => hot b hb') (.inr ⟨m, l, hl, rfl⟩)
          have hrow' : RowAt (ρ.give n ⟨l.block, l.base, l.room, .arr (els.length + news.length) e'⟩) (w.setCells l.block (l.base + els.length * e'.size) ncs) ⟨l.block, l.base, l.room, .arr (els.length + news.length) e'⟩ (.arr (els.length + news.length) e') (.agg (els ++ news)) := by
            refine ⟨rfl, ?_, ⟨cs ++ ncs, ?_, ?_, ?_⟩, World.there_setCells hrowAt.room _ _ _⟩
            · simp only [Has]
              exact ⟨by simp, fun v hv => (List.mem_append.1 hv).elim (hhas.2 v) (hsn v)⟩
            · simp only [C1]
              exact CR.join _ _ _ _ (CR.ext hE _ _ q1) (CR.ext hE _ _ hcn)
            · simp only [List.length_append]; omega
            · rw [range_append]
              exact ⟨World.rangeAt_setCells_apart q3 _ _ _ (.inr (.inl (by omega))), by rw [hlen]; exact World.rangeAt_setCells_same w _ _ _ hth⟩
          obtain ⟨g1, g2⟩ := hh.again (hG.one h) hl (by rw [hbk]; simp) (l := ⟨l.block, l.base, l.room, .arr (els.length + news.length) e'⟩) rfl hsz2 hot hrow'
          refine .inl ⟨_, _, run _ _ hr, _, _, _, _, h, ?_, g1, g2, setCells_below (hh.lt m l hl).1 _ _ _ (Below.refl _ _)⟩
          simp only [VR,VR1,C1]
          exact .inr ⟨_, cap, e', els.length + news.length, by rw [give_ap, if_pos rfl], by simp [Sh.off], hfit, rfl, by simp [Sh.off]; exact hroom⟩
        · -- a new row
          have hold : (Builtin.firstCells inf.size els.length (.slice (some ⟨l.block, l.base, none⟩) els.length cap)).run P w.drew = .ok cs.toArray w.drew :=
            run_firstCells_some w.drew inf.size els.length ⟨l.block, l.base, none⟩ els.length cap cs (by rw [hisz]; exact hlen) (fun j v hj => by rw [Addr.add_mid]; simpa using q3 j v hj)
          have hr := run_append_grow_src (P := P) w t tx o.type et inf zv hul hi hzv _ els.length cap cs hold (a.eval x) news.length ncs hsrc (by omega) (by omega) (growslice_fits (by omega) hb1)
          rw [← hp] at hr
          exact .inl ⟨_, _, run _ _ hr, grown_good (hh.drop m) (hG.one h) q1 hhas.2 hcn hsn hsz (grownCap_ge _ _ _ _) h⟩
    · exact h.elim
  · exact h.elim
/-! ### bytes and strings -/
def bytesOf : List VV → Option (List UInt8)
  | [] => some []
  | v :: l => match v, bytesOf l with
    | .int .u8 n, some m => if 0 ≤ n ∧ n < 256 then some (UInt8.ofNat n.toNat :: m) else none
    | _, _ => none
theorem bytesOf_enc : ∀ (l : List UInt8), bytesOf (l.map encB) = some l
  | [] => rfl
  | x :: l => by
    have := x.toNat_lt
    simp [bytesOf, encB, bytesOf_enc l]
    omega
theorem bytes_cells : ∀ (vs : List VV) (cs : List Value) (l : List UInt8), bytesOf vs = some l → CR ρ w vs cs → cs = (l.map fun b => (b.toNat : Int)).map (Value.int .u8)
  | [], cs, l, h, hc => by
    simp only [bytesOf,Option.some.injEq] at h
    subst h
    simp only [CR] at hc
    simp [hc]
  | v :: vs, cs, l, h, hc => by
    simp only [bytesOf] at h
    split at h
    · rename_i k m hm
      split at h
      · rename_i hk
        injection h with h
        subst h
        simp only [CR,C1] at hc
        obtain ⟨c1, c2, rfl, rfl, h2⟩ := hc
        rw [bytes_cells vs c2 m hm h2]
        have : ((UInt8.ofNat k.toNat).toNat : Int) = k := by
          rw [UInt8.toNat_ofNat']
          omega
        rw [List.map_cons, List.map_cons, this]
        rfl
      · cases h
    · cases h
def vToStr (P : Program) (e : Operand → VV) (H : Heap) (n : Nat) (K : VV → Heap → Nat → Prop) (s d : TypeId) (x : Operand) : Prop :=
  bnd (EL P s) fun es => bnd (P.underlying es) fun eu => bnd (P.underlying d) fun ud => match eu, ud with
    | .int .u8, .string => srcOf H .cell (.slice es) (e x) fun els _ => bnd (bytesOf els) fun l => K (.str l) H n
    | _, _ => False
theorem toStr_sound (hT : TM ρ w tm a) (hh : HR Z B ρ H n w) (s d : TypeId) (x : Operand) (ho : o.op = .convert s d x) (h : vToStr P (ev tm) H n K s d x) : Runs P Z B K ρ w (execOp a.eval o) := by
  unfold vToStr at h
  replace h := bnd_iff.1 h
  obtain ⟨es, hes, h⟩ := h
  replace h := bnd_iff.1 h
  obtain ⟨eu, heu, h⟩ := h
  replace h := bnd_iff.1 h
  obtain ⟨ud, hud, h⟩ := h
  split at h
  · have hul := EL_spec hes
    obtain ⟨news, m2, ncs, h, hsn, hcn, hsrc, hnl, hf⟩ := src_sound hh hT hul _ h
    replace h := bnd_iff.1 h
    obtain ⟨l, hl, h⟩ := h
    have hcs := bytes_cells _ _ _ hl hcn
    have hlen : news.length = l.length := by
      have e1 := congrArg List.length hcs
      simp only [List.length_map,Sh.size,Nat.mul_one] at e1 hnl
      omega
    rcases hf with ⟨A, c, hp⟩ | ⟨s', hp⟩
    · refine runs_value (x := .string ⟨l.toArray⟩) ?_ h VR_str hh
      have hrun : (convert s d (a.eval x)).run P w = .ok (.string ⟨l.toArray⟩) w := by
        rw [hp, run_convert_bytes_string w s d es A news.length c hul heu hud]
        cases A with
        | none =>
          have hc := hsrc.cells
          rw [hp] at hc
          simp [Builtin.firstCells] at hc
          have : l = [] := by
            rw [hcs] at hc
            simpa using hc.symm
          subst this
          simp [Conv.bytesToString]
          rfl
        | some ad =>
          have hc := hsrc.cells
          rw [hp] at hc
          simp only [Builtin.firstCells,Sh.size,Nat.mul_one] at hc
          rw [hcs] at hc
          rw [run_bytesToString w ad news.length c _ hc, foldl_push_byteCells]
          have he0 : ByteArray.empty.data = #[] := rfl
          rw [he0]
          simp
      simp [execOp, ho, hrun]
    · cases hp.2
  · exact h.elim
def vToBytes (P : Program) (e : Operand → VV) (H : Heap) (n : Nat) (K : VV → Heap → Nat → Prop) (s d : TypeId) (x : Operand) : Prop := onV (e x) fun v => match v with
  | .str l => bnd (P.underlying s) fun us => bnd (EL P d) fun es => bnd (P.underlying es) fun eu => match us, eu with
    | .string, .int .u8 => K (.sl (some (n, [], 0)) l.length) (upd H n (some (.row (.arr l.length .cell) (.agg (l.map encB))))) (n + 1)
    | _, _ => False
  | _ => False
theorem toBytes_sound (hT : TM ρ w tm a) (hh : HR Z B ρ H n w) (hG : Gives Z n K) (s d : TypeId) (x : Operand) (ho : o.op = .convert s d x) (h : vToBytes P (ev tm) H n K s d x) : Runs P Z B K ρ w (execOp a.eval o) := by
  unfold vToBytes onV at h
  dsimp only at h
  have hx := ev_sound hT x
  split at h
  · rename_i l e
    rw [e] at hx
    replace h := bnd_iff.1 h
    obtain ⟨us, hus, h⟩ := h
    replace h := bnd_iff.1 h
    obtain ⟨es, hes, h⟩ := h
    replace h := bnd_iff.1 h
    obtain ⟨eu, heu, h⟩ := h
    split at h
    · have hul := EL_spec hes
      have hrun := run_bytes_of_string (P := P) w s d es ⟨l.toArray⟩ hus hul heu
      have hsz : (ByteArray.mk l.toArray).size = l.length := by show l.toArray.size = _; simp
      rw [hsz] at hrun
      generalize hcap : grownCap w l.length 0 es = cap at hrun
      have hcapge : l.length ≤ cap := by rw [← hcap]; exact grownCap_ge _ _ _ _
      have hrow : (bytesRow ⟨l.toArray⟩ cap).toList = (l.map fun (b : UInt8) => Value.int .u8 (b.toNat : Int)) ++ List.replicate (cap - l.length) (Value.int .u8 0) := by
        simp [bytesRow, hsz]
      have hbs : (bytesRow ⟨l.toArray⟩ cap).size = cap := by
        have := congrArg List.length hrow
        simp only [Array.length_toList,List.length_append,List.length_map,List.length_replicate] at this
        omega
      obtain ⟨lo, g1, g2, g3, g4, h1, h2, h3⟩ := new_blockF (t := es) (s := .arr l.length .cell) (v := .agg (l.map encB)) hh.drew (hG.one h) (by simp [Has, encB, VV.leaf]) (by simp only [C1]; exact encB_cells ρ w.drew l) hrow
        ((bytesRow ⟨l.toArray⟩ cap).size, (bytesRow ⟨l.toArray⟩ cap).size + 1) (fun j hj h => by omega)
      refine .inl ⟨.slice (some ⟨w.heap.size, 0, none⟩) l.length cap, _, ?_, _, _, _, _, h, ?_, h1, (ext_drew ρ w).trans h2, (Below.refl B w).drew.trans h3⟩
      · simp [execOp, ho, hx.str, hrun]
      · simp only [VR,VR1,C1]
        refine .inr ⟨lo, cap, .cell, l.length, by rw [give_ap, if_pos rfl], by rw [g1, g2, g4]; simp [Sh.off], hcapge, by rw [g4]; rfl, ?_⟩
        rw [g4, g3, hbs]
        simp [Sh.off, Sh.size]
    · exact h.elim
  · exact h.elim
end
end Go.Proofs.Ytndbfphmjmhkjaa.V
