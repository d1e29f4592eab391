/-
  THE WALK through the law ShareMore.
-/
import Derived.Test.YtgalfkjhogidmaaShareL
import Derived.Test.YtgalfkjhogidmaaRegionX
namespace Go.Proofs.Ytgalfkjhogidmaa
open Go.RowKit

theorem arr_in {w : World} {n : Nat} {v : Value} {x : List UInt8} (h : Ty.Val w (.arr n .u8) v x) : x.length = n ∧ v = .agg (kv x) := by
  obtain ⟨cs, rfl, h⟩ := h
  obtain ⟨h1, h2⟩ := bytes_of h
  refine ⟨h1, ?_⟩
  rw [kv, ← h2]
/-- a conversion in a region that only reads -/
theorem quiet_conv {P : Program} {C : World → Prop} {K : Act → Prop} {a : Act} {o : Oper} (s d : TypeId) (x : Operand) (ho : o.op = .convert s d x)
    (u v : Value) (hx : a.eval x = u) (hr : ∀ w, C w → (Go.convert s d u).run P w = .ok v w) (hk : K (a.put o.dst v)) : o.quiet P a C K := by
  refine ⟨_, fun w hw => ?_, hk⟩
  unfold Oper.quietAt execOp
  simp only [ho, hx, Sem.run_bind, hr w hw, Result.andThen_ok]
  exact ⟨rfl, rfl⟩
theorem Bk.range {w : World} {g : Nat} {T : TypeId} {l : List UInt8} (h : Bk w g T (kv l)) : w.rangeAt g 0 (bvs l) := fun j v hv => by
  rw [Nat.zero_add]
  exact h.cell (by rw [kv]; simpa using hv)
theorem Bk.rd {w : World} {g : Nat} {T : TypeId} {l : List UInt8} (h : Bk w g T (kv l)) : RdB w (some ⟨g, 0, none⟩) l := fun h0 =>
  ⟨g, 0, rfl, fun j hj => by rw [Nat.zero_add]; exact h.cell (kv_at l j hj)⟩
theorem RdS.take {w : World} {A : Option Addr} {l : List Sh} (h : RdS w A l) (n : Nat) : RdS w A (l.take n) := fun h0 => by
  obtain ⟨b, o, e, hc⟩ := h (by simp at h0; omega)
  refine ⟨b, o, e, fun j hj => ?_⟩
  rw [List.getElem_take]
  exact hc j (by simp at hj; omega)
theorem shares_take (s z : List UInt8) (a b : Nat) (h : a ≤ b) : (shares s z b).take a = shares s z a := by
  rw [shares, ← List.map_take, List.take_range, Nat.min_eq_left h, shares]

theorem add_rem (k : Nat) (x : UInt8) (hk : k ≤ 1000) : ∃ n : Nat, wrap64 ((k : Int) + (wrap64 (B8 x)).tmod 100) = (n : Int) ∧ k ≤ n ∧ n ≤ k + 99 := by
  have h1 : wrap64 (B8 x) = B8 x := IntWalk.wrap64_in _ (by have := B8_hi x; have := B8_lo x; omega)
  have h2 : (B8 x).tmod 100 = B8 x % 100 := Int.tmod_eq_emod_of_nonneg (B8_lo x)
  have h3 := B8_lo x
  have h4 := B8_hi x
  have h5 : 0 ≤ B8 x % 100 ∧ B8 x % 100 < 100 := by omega
  rw [h1, h2]
  have h6 : wrap64 ((k : Int) + B8 x % 100) = (k : Int) + B8 x % 100 := IntWalk.wrap64_in _ (by omega)
  refine ⟨((k : Int) + B8 x % 100).toNat, by rw [h6]; omega, by omega, by omega⟩

set_option maxHeartbeats 1000000 in
theorem shareMore_walk (w : World) (v0 v1 v2 v3 : Value) (x0 x1 : List UInt8) (x2 x3 : UInt8) (h0 : Ty.Val w (.arr 32 .u8) v0 x0) (h1 : Ty.Val w (.arr 64 .u8) v1 x1) (h2 : Ty.Val w .u8 v2 x2) (h3 : Ty.Val w .u8 v3 x3) :
    Calls Try.prog 6 #[v0, v1, v2, v3] w fun e w' => e = .returned (.bool true) ∧ Kept w w' := by
  obtain ⟨hs, rfl⟩ := arr_in h0
  obtain ⟨hz, rfl⟩ := arr_in h1
  obtain rfl : v2 = .int .u8 (B8 x2) := by injection h2
  obtain rfl : v3 = .int .u8 (B8 x3) := by injection h3
  clear h0 h1 h2 h3
  go_enter Try.func6, Try.ntmps6
  go_wp2_with (go_at_call 18; refine (alive_any _).mono ?_; rintro e w1 ⟨rfl, hK⟩)
  obtain ⟨na, ha, ha1, ha2⟩ : ∃ n : Nat, wrap64 (3 + (wrap64 (B8 x2)).tmod 100) = (n : Int) ∧ 3 ≤ n ∧ n ≤ 102 := add_rem 3 x2 (by omega)
  obtain ⟨nb, hb, hb1, hb2⟩ := add_rem na x3 (by omega)
  rw [ha, hb]
  clear ha hb
  have hBk := (Bk.new w 23 (kv x0)).alloc (.cells (kv x1) 31)
  have hBn := Bk.new (w.alloc (.cells (kv x0) 23)) 31 (kv x1)
  rw [World.size_alloc] at hBn
  have hBk := hBk.kept hK
  have hBn := hBn.kept hK
  have hu := Try.underlying23
  have hi : (Try.prog.info? 23).map (·.size) = some (bvs x0).length := by rw [bvs_length, hs]; exact keysize
  have hcv : ∀ w', (∃ n, w' = w1.drewN n) → (Go.convert 32 9 (.slice (some ⟨w.heap.size + 1, 0, none⟩) 64 64)).run Try.prog w' = .ok (.string (bs x1)) w' := by
    rintro _ ⟨n, rfl⟩
    exact conv_bytes (hBn.drewN n).rd (by omega) 64 64 hz
  refine region_tailX 4 2 (by kernel_rfl) (by kernel_rfl) ?_
  simp only [List.take_succ_cons, List.take_zero, List.drop_succ_cons, List.drop_zero]
  go_big_quiet_want
  refine quiet_load_mid 23 _ rfl w.heap.size 0 rfl (bvs x0) _ (range_drewN hBk.range) hu rfl hi ?_
  go_simp
  go_big_quiet_on
  iterate 2 (go_big_quiet_step (fail))
  go_big_quiet_want
  refine quiet_conv 32 9 _ rfl _ _ rfl hcv ?_
  go_simp
  go_big_quiet_on
  refine wpQuiet_nil ?_
  rintro _ ⟨nq, rfl⟩
  go_wp2_with (go_at_call 19; go_loud (refine (split_in _ na _ x0 x1 na _ rfl rfl rfl hs ha1 (by omega) hz).mono ?_; rintro e w2 ⟨g, rfl, hK2, hg, hS⟩))
  have hK2' := (Kept.drewN w1 nq).trans hK2
  clear hcv
  have hBk2 := hBk.kept hK2'
  have hBn2 := hBn.kept hK2'
  have hcv : ∀ w', (∃ n, w' = w2.drewN n) → (Go.convert 32 9 (.slice (some ⟨w.heap.size + 1, 0, none⟩) 64 64)).run Try.prog w' = .ok (.string (bs x1)) w' := by
    rintro _ ⟨n, rfl⟩
    exact conv_bytes (hBn2.drewN n).rd (by omega) 64 64 hz
  refine region_tailX 4 2 (by kernel_rfl) (by kernel_rfl) ?_
  simp only [List.take_succ_cons, List.take_zero, List.drop_succ_cons, List.drop_zero]
  go_big_quiet_want
  refine quiet_load_mid 23 _ rfl w.heap.size 0 rfl (bvs x0) _ (range_drewN hBk2.range) hu rfl hi ?_
  go_simp
  go_big_quiet_on
  iterate 2 (go_big_quiet_step (fail))
  go_big_quiet_want
  refine quiet_conv 32 9 _ rfl _ _ rfl hcv ?_
  go_simp
  go_big_quiet_on
  refine wpQuiet_nil ?_
  rintro _ ⟨nr, rfl⟩
  have ema : ((na : Int) == (na : Int)) = true := by simp
  have emb : ((nb : Int) == (nb : Int)) = true := by simp
  go_wp2_with (first
    | (go_at_call 19; go_loud (refine (split_in _ nb _ x0 x1 nb _ rfl rfl rfl hs (by omega) (by omega) hz).mono ?_; rintro e w3 ⟨g3, rfl, hK3, hg3, hS3⟩; have hK3' := (Kept.drewN w2 nr).trans hK3; have hR := (hS.kept hK3').rd; have hR3 := hS3.rd.take na; rw [shares_take _ _ _ _ hb1] at hR3))
    | (go_at_call 21; go_loud (refine (same_len _ _ _ _ na (shares x0 x1 na) (shares x0 x1 na) _ hR3 hR (shares_good x0 x1 na) (shares_good x0 x1 na) (shares_length x0 x1 na) (shares_length x0 x1 na) (by omega)).mono ?_; rw [beq_self_eq_true]; rintro e w4 ⟨rfl, hD⟩)))
  go_ret
  exact ⟨rfl, ((((((Kept.refl _).alloc _).alloc _).trans hK).trans hK2').trans hK3').trans hD.kept⟩
end Go.Proofs.Ytgalfkjhogidmaa
