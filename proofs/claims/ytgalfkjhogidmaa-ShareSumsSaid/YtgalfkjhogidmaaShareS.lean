/-
  THE WALK through the reference's Same; two shares, two keys compared.
-/
import Derived.Deep.MidRow
import Derived.Stop.BytesEq
import Derived.BigQuiet
import Derived.Test.YtgalfkjhogidmaaShareP
namespace Go.Proofs.Ytgalfkjhogidmaa
open Go.RowKit

theorem bytesize1 : ∀ w, (sizeOf 5).run Try.prog w = .ok 1 w := by intro w; rfl
theorem bvs_cell (l : List UInt8) : bvs l = l.map Extern.Stop.cell := by
  simp only [bvs]
  rfl
theorem eq_key (d : Nat) (a b : List UInt8) (ha : a.length = 32) (hb : b.length = 32) (w : World) :
    (Op.equalIn (d + 2) 23 (.agg (bvs a).toArray) (.agg (bvs b).toArray)).run Try.prog w = .ok (a == b) w := by
  rw [bvs_cell, bvs_cell]
  exact run_equalIn_bytes w d 23 5 32 Try.underlying23 Try.underlying5 bytesize1 a b ha hb
theorem share_fields : Try.prog.underlying 34 = some (.struct (Try.prog.fieldsOf 34)) := by kernel_rfl
theorem share_stood : Try.prog.stoodInHeld 34 = false := by kernel_rfl
def shl (x y : Sh) : Bool := x.1 == y.1 && x.2 == y.2
theorem shl_iff (x y : Sh) : shl x y = true ↔ x = y := by
  obtain ⟨a, b⟩ := x
  obtain ⟨c, d⟩ := y
  simp [shl]
theorem eq_share (d : Nat) (x y : Sh) (hx : x.2.length = 32) (hy : y.2.length = 32) (w : World) :
    (Op.equalIn (d + 3) 34 (.agg (shc x).toArray) (.agg (shc y).toArray)).run Try.prog w = .ok (shl x y) w := by
  rw [run_equalIn_struct w (d + 2) 34 _ _ share_fields share_stood]
  have hf : (Try.prog.fieldsOf 34).toList.map (fun f => (decide (f.name ≠ "_"), f.type, f.offset)) = [(true, 5, 0), (true, 23, 1)] := by kernel_rfl
  generalize (Try.prog.fieldsOf 34).toList = fs at hf
  obtain ⟨f, g, rfl⟩ : ∃ f g, fs = [f, g] := by
    rcases fs with _ | ⟨f, _ | ⟨g, _ | ⟨h, l⟩⟩⟩
    · simp at hf
    · simp at hf
    · exact ⟨f, g, rfl⟩
    · simp at hf
  · have hf := hf
    simp only [List.map_cons, List.map_nil, List.cons.injEq, Prod.mk.injEq, decide_eq_true_eq, and_true] at hf
    obtain ⟨⟨n1, t1, o1⟩, ⟨n2, t2, o2⟩⟩ := hf
    have p1 : ∀ (z : Sh) (w : World), (Go.part 5 (shc z).toArray 0).run Try.prog w = .ok (.int .u8 (B8 z.1)) w := fun z w => by
      simp [Go.part, isAgg, run_underlying Try.underlying5, shc]
    have hks : (Try.prog.info? 23).map (·.size) = some 32 := by kernel_rfl
    have p2 : ∀ (z : Sh), z.2.length = 32 → ∀ (w : World), (Go.part 23 (shc z).toArray 1).run Try.prog w = .ok (.agg (bvs z.2).toArray) w := fun z hz w => by
      cases hq : Try.prog.info? 23 with
      | none => simp [hq] at hks
      | some i =>
        have hs : i.size = 32 := by simpa [hq] using hks
        simp [Go.part, isAgg, run_underlying Try.underlying23, sizeOf, typeInfo, hq, hs, shc, bvs, hz]
        exact List.take_of_length_le (by simp [hz])
    have e1 : ∀ w, (Op.equalIn (d + 2) 5 (.int .u8 (B8 x.1)) (.int .u8 (B8 y.1))).run Try.prog w = .ok (x.1 == y.1) w := fun w => by
      rw [run_equalIn_int w (d + 1) 5 .u8 .u8 _ _ Try.underlying5, B8_beq]
    simp only [Op.eqFields, n1, n2, t1, t2, o1, o2, ne_eq, not_false_eq_true, if_true, Sem.run_bind, p1, e1, Result.andThen_ok, shl]
    cases x.1 == y.1
    · simp
    · simp only [Bool.not_true, Bool.false_eq_true, if_false, Sem.run_ite, Sem.run_bind, p2 x hx, p2 y hy, eq_key d x.2 y.2 hx hy, Result.andThen_ok, Bool.true_and]
      cases x.2 == y.2 <;> simp

theorem neq_share (x y : Sh) (hx : x.2.length = 32) (hy : y.2.length = 32) (w : World) :
    (binOp .neq 34 (.agg (shc x).toArray) (.agg (shc y).toArray)).run Try.prog w = .ok (.bool (!shl x y)) w := by
  rw [run_neq_struct, eq_share 9997 x y hx hy w]
  rfl
theorem eql_share (x y : Sh) (hx : x.2.length = 32) (hy : y.2.length = 32) (w : World) :
    (binOp .eql 34 (.agg (shc x).toArray) (.agg (shc y).toArray)).run Try.prog w = .ok (.bool (shl x y)) w := by
  rw [run_eql_struct, eq_share 9997 x y hx hy w]
  rfl
theorem RdS.range {w : World} {A : Option Addr} {l : List Sh} (h : RdS w A l) (hg : ∀ x ∈ l, good x) (h0 : 0 < l.length) :
    ∃ b o, A = some ⟨b, o, none⟩ ∧ ∀ j, (hj : j < l.length) → w.rangeAt b (o + j * 33) (shc l[j]) := by
  obtain ⟨b, o, e, hc⟩ := h h0
  refine ⟨b, o, e, fun j hj i v hv => ?_⟩
  have hgj : l[j].2.length = 32 := hg _ (List.getElem_mem _)
  obtain ⟨c0, c1⟩ := hc j hj
  cases i with
  | zero =>
    simp [shc] at hv
    subst hv
    simpa using c0
  | succ i =>
    simp only [shc, List.getElem?_cons_succ, bvs, List.getElem?_map, Option.map_eq_some_iff] at hv
    obtain ⟨y, hy, rfl⟩ := hv
    have hi : i < l[j].2.length := (List.getElem?_eq_some_iff.1 hy).1
    have hy2 := (List.getElem?_eq_some_iff.1 hy).2
    have := c1 i (by omega)
    rw [Gf.nth_lt hi, hy2] at this
    rw [show o + j * 33 + (i + 1) = o + j * 33 + 1 + i by omega]
    exact this

/-- a struct read by an operation of a region that only reads -/
theorem quiet_load_mid {P : Program} {C : World → Prop} {K : Act → Prop} {a : Act} {o : Oper} (ty : TypeId) (x : Operand) (ho : o.op = .load ty x)
    (b off : Nat) (hx : a.eval x = .pointer (some ⟨b, off, none⟩)) (cs : List Value) (d : TypeDesc) (hc : ∀ w, C w → w.rangeAt b off cs)
    (hu : P.underlying ty = some d) (hd : d.isRow = true) (hi : (P.info? ty).map (·.size) = some cs.length)
    (hk : K (a.put o.dst (.agg cs.toArray))) : o.quiet P a C K := by
  refine ⟨_, fun w hw => ?_, hk⟩
  unfold Oper.quietAt execOp
  simp only [ho, hx, Sem.run_bind, run_loadAt_mid w b off ty cs d (hc w hw) hu hd hi, Result.andThen_ok]
  exact ⟨rfl, rfl⟩
/-- two structs compared by an operation of a region that only reads -/
theorem quiet_cmp {P : Program} {C : World → Prop} {K : Act → Prop} {a : Act} {o : Oper} (op : BinOp) (ty : TypeId) (x y : Operand) (r : TypeId) (ho : o.op = .binOp op ty x y r)
    (xs ys : Array Value) (hx : a.eval x = .agg xs) (hy : a.eval y = .agg ys) (hm : P.eqGuardType P.depth ty = false) (v : Value) (hr : ∀ w, (binOp op ty (.agg xs) (.agg ys)).run P w = .ok v w)
    (hk : K (a.put o.dst v)) : o.quiet P a C K := by
  refine ⟨_, fun w hw => ?_, hk⟩
  unfold Oper.quietAt execOp
  simp only [ho, hx, hy, Sem.run_bind, run_eqGuard_agg w op ty x y xs ys hm, hr, Result.andThen_ok]
  exact ⟨rfl, rfl⟩
theorem range_drewN {w : World} {b o : Nat} {cs : List Value} (h : w.rangeAt b o cs) : ∀ w', (∃ n, w' = w.drewN n) → w'.rangeAt b o cs := by
  rintro w' ⟨n, rfl⟩
  intro j v hv
  rw [World.cell?_drewN]
  exact h j v hv
theorem shc_len {x : Sh} (h : good x) : (shc x).length = 33 := by
  have h : x.2.length = 32 := h
  simp [shc, bvs, h]

set_option maxHeartbeats 1000000 in
theorem same_len (A B : Option Addr) (ca cb n : Nat) (la lb : List Sh) (w : World) (hA : RdS w A la) (hB : RdS w B lb) (ga : ∀ x ∈ la, good x) (gb : ∀ x ∈ lb, good x) (hca : la.length = n) (hcb : lb.length = n) (hn : n ≤ 1000) :
    Calls Try.prog 21 #[.slice A n ca, .slice B n cb] w fun e w' => e = .returned (.bool (la == lb)) ∧ Drawn w w' := by
  have HA := Lib.hid hca
  have HB := Lib.hid hcb
  clear hca hcb
  go_enter Try.func21, Try.ntmps21
  go_wp2_with fail
  go_loopw [5] (fun i wr => ∃ k : Nat, k ≤ n ∧ i = .int .i64 k ∧ Drawn w wr ∧ ∀ j, j < k → la[j]? = lb[j]?) (fun i _ => n - (intOf i).toNat)
  case atStart => exact ⟨0, Nat.zero_le _, rfl, Drawn.refl _, fun j hj => by omega⟩
  case round =>
    obtain ⟨k, hk, rfl, hD, hE⟩ := hrel
    by_cases hlt : k < n
    · have ha : k < la.length := by rw [HA.out]; exact hlt
      have hb : k < lb.length := by rw [HB.out]; exact hlt
      obtain ⟨b1, o1, rfl, r1⟩ := (hA.kept hD.kept).range ga (by omega)
      obtain ⟨b2, o2, rfl, r2⟩ := (hB.kept hD.kept).range gb (by omega)
      have q1 := r1 k ha
      have q2 := r2 k hb
      have hne := neq_share la[k] lb[k] (ga _ (List.getElem_mem _)) (gb _ (List.getElem_mem _))
      have hl1 := shc_len (ga _ (List.getElem_mem ha))
      have hl2 := shc_len (gb _ (List.getElem_mem hb))
      have hab : shl la[k] lb[k] = true ↔ la[k]? = lb[k]? := by
        rw [shl_iff, List.getElem?_eq_getElem ha, List.getElem?_eq_getElem hb, Option.some_inj]
      clear r1 r2
      generalize shl la[k] lb[k] = eq at hne hab
      generalize shc la[k] = c1 at q1 hl1 hne
      generalize shc lb[k] = c2 at q2 hl2 hne
      have hi1 : (Try.prog.info? 34).map (·.size) = some c1.length := by rw [hl1]; exact sharesize
      have hi2 : (Try.prog.info? 34).map (·.size) = some c2.length := by rw [hl2]; exact sharesize
      have hu := Try.underlying34
      have hm : Try.prog.eqGuardType Try.prog.depth 34 = false := by kernel_rfl
      have hk0 : (0 : Int) ≤ (k : Int) := by omega
      have hk1 : (k : Int) < (n : Int) := by omega
      go_wp2_with fail
      refine wp_region_quiet_lit (by kernel_rfl) (by kernel_rfl) ?_
      iterate 3 (go_big_quiet_step (fail))
      go_big_quiet_want
      refine quiet_load_mid 34 _ rfl b1 (o1 + k * 33) rfl c1 _ (range_drewN q1) hu rfl hi1 ?_
      go_simp
      go_big_quiet_on
      iterate 3 (go_big_quiet_step (fail))
      go_big_quiet_want
      refine quiet_load_mid 34 _ rfl b2 (o2 + k * 33) rfl c2 _ (range_drewN q2) hu rfl hi2 ?_
      go_simp
      go_big_quiet_on
      go_big_quiet_want
      refine quiet_cmp .neq 34 _ _ _ rfl c1.toArray c2.toArray rfl rfl hm _ hne ?_
      go_simp
      go_big_quiet_on
      refine wpQuiet_nil ?_
      rintro _ ⟨nq, rfl⟩
      cases eq
      · go_wp2_with fail
        go_ret
        refine ⟨?_, hD.drewN nq⟩
        have : (la == lb) = false := by
          rw [Bool.eq_false_iff]
          intro h
          rw [eq_of_beq h] at hab
          simp at hab
        rw [this]
        rfl
      · go_wp2_with fail
        refine ⟨⟨k + 1, by omega, by go_num, hD.drewN nq, fun j hj => ?_⟩, ?_⟩
        · by_cases h : j = k
          · subst h; exact hab.1 rfl
          · exact hE j (by omega)
        · simp [intOf]; omega
    · have e : n = k := by omega
      subst e
      go_wp2_with fail
      go_ret
      refine ⟨?_, hD⟩
      have : la = lb := by
        apply List.ext_getElem? 
        intro j
        rcases Nat.lt_or_ge j n with h | h
        · exact hE j h
        · rw [List.getElem?_eq_none (by rw [HA.out]; exact h), List.getElem?_eq_none (by rw [HB.out]; exact h)]
      rw [this, beq_self_eq_true]
      rfl
theorem same_any (A B : Option Addr) (ca cb : Nat) (la lb : List Sh) (w : World) (hA : RdS w A la) (hB : RdS w B lb) (ga : ∀ x ∈ la, good x) (gb : ∀ x ∈ lb, good x) (hca : la.length ≤ 1000) (_hcb : lb.length ≤ 1000) :
    Calls Try.prog 21 #[.slice A la.length ca, .slice B lb.length cb] w fun e w' => e = .returned (.bool (la == lb)) ∧ Drawn w w' := by
  by_cases hl : la.length = lb.length
  · have := same_len A B ca cb la.length la lb w hA hB ga gb rfl hl.symm hca
    rw [← hl]
    exact this
  · have hl1 : ((la.length : Int) != (lb.length : Int)) = true := by simp; omega
    go_enter Try.func21, Try.ntmps21
    go_wp2_with fail
    go_ret
    refine ⟨?_, Drawn.refl _⟩
    have : (la == lb) = false := by
      rw [Bool.eq_false_iff]
      intro h
      rw [eq_of_beq h] at hl
      exact hl rfl
    rw [this]
    rfl
end Go.Proofs.Ytgalfkjhogidmaa
