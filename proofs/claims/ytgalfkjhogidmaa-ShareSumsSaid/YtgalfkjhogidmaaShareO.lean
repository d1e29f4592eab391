/-
  THE WALK through the law ShareSums.
-/
import Derived.Test.YtgalfkjhogidmaaShareM
namespace Go.Proofs.Ytgalfkjhogidmaa
open Go.RowKit

/-- two lists, place by place made one -/
def mixd (x y : List UInt8) (i : Nat) : UInt8 := Gf.nth x i ^^^ Gf.nth y i

theorem upto_wrap (f : Nat → UInt8) (k : Nat) : (upto f 32 (min k 32)).set (k % 32) (f (k % 32)) = upto f 32 (min (k + 1) 32) := by
  by_cases h : k < 32
  · rw [Nat.mod_eq_of_lt h, Nat.min_eq_left (by omega), Nat.min_eq_left (by omega)]
    exact upto_set f 32 k h
  · rw [Nat.min_eq_right (by omega), Nat.min_eq_right (by omega)]
    apply List.ext_getElem (by simp)
    intro i h1 h2
    rw [List.getElem_set]
    split
    · rename_i e
      subst e
      have : k % 32 < 32 := by omega
      simp [upto, this]
    · rfl
theorem dat_mix (s t x y : List UInt8) (i j : Nat) (hj : j < 32) : dat s x i j ^^^ dat t y i j = dat (fun32 (mixd s t)) (upto (mixd x y) 64 64) i j := by
  have e1 : Gf.nth (fun32 (mixd s t)) j = mixd s t j := fun32_nth _ j hj
  have e2 : ∀ k, k < 64 → Gf.nth (upto (mixd x y) 64 64) k = mixd x y k := fun k hk => by
    rw [upto_all]
    simp [Gf.nth, hk]
  unfold dat co
  rw [e1, e2 j (by omega), e2 (32 + j) (by omega)]
  unfold mixd
  simp only [Gf.eval, Gf.mul_left, Gf.zero_mul]
  simp only [UInt8.zero_xor]
  ac_rfl
/-- what the loop of ShareSums keeps -/
structure Sums (w1 wr : World) (b : Nat) (s t x y : List UInt8) (k : Nat) : Prop where
  kept : Kept w1 wr
  key : Bk wr w1.heap.size 23 (kv (upto (mixd s t) 32 (min k 32)))
  noise : Bk wr (w1.heap.size + 1) 31 (kv (upto (mixd x y) 64 k))

set_option maxHeartbeats 1000000 in
theorem shareSums_walk (w : World) (v0 v1 v2 v3 : Value) (s t x y : List UInt8) (h0 : Ty.Val w (.arr 32 .u8) v0 s) (h1 : Ty.Val w (.arr 32 .u8) v1 t) (h2 : Ty.Val w (.arr 64 .u8) v2 x) (h3 : Ty.Val w (.arr 64 .u8) v3 y) :
    Calls Try.prog 5 #[v0, v1, v2, v3] w fun e w' => e = .returned (.bool true) ∧ Kept w w' := by
  obtain ⟨hs, rfl⟩ := arr_in h0
  obtain ⟨ht, rfl⟩ := arr_in h1
  obtain ⟨hx, rfl⟩ := arr_in h2
  obtain ⟨hy, rfl⟩ := arr_in h3
  clear h0 h1 h2 h3
  go_enter Try.func5, Try.ntmps5
  go_wp2_with (go_at_call 18; refine (alive_any _).mono ?_; rintro e w1 ⟨rfl, hK⟩)
  have hS4 := (((Bk.new w 23 (kv s)).alloc (.cells (kv t) 23)).alloc (.cells (kv x) 31)).alloc (.cells (kv y) 31)
  have hT4 := ((Bk.new (w.alloc (.cells (kv s) 23)) 23 (kv t)).alloc (.cells (kv x) 31)).alloc (.cells (kv y) 31)
  have hX4 := (Bk.new ((w.alloc (.cells (kv s) 23)).alloc (.cells (kv t) 23)) 31 (kv x)).alloc (.cells (kv y) 31)
  have hY4 := Bk.new (((w.alloc (.cells (kv s) 23)).alloc (.cells (kv t) 23)).alloc (.cells (kv x) 31)) 31 (kv y)
  simp only [World.size_alloc] at hT4 hX4 hY4
  have hS1 := hS4.kept hK
  have hT1 := hT4.kept hK
  have hX1 := hX4.kept hK
  have hY1 := hY4.kept hK
  have hK0 : Kept w w1 := (((((Kept.refl _).alloc _).alloc _).alloc _).alloc _).trans hK
  clear hS4 hT4 hX4 hY4 hK
  have hz0 : Sums w1 ((w1.alloc (.cells (kv (List.replicate 32 0)) 23)).alloc (.cells (kv (List.replicate 64 0)) 31)) w1.heap.size s t x y 0 := by
    refine ⟨((Kept.refl _).alloc _).alloc _, ?_, ?_⟩
    · rw [Nat.min_eq_left (Nat.zero_le _), upto_zero]
      exact (Bk.new w1 _ _).alloc _
    · rw [upto_zero]
      have := Bk.new (w1.alloc (.cells (kv (List.replicate 32 0)) 23)) 31 (kv (List.replicate 64 0))
      rw [World.size_alloc] at this
      exact this
  go_loopw [11] (fun i wr => ∃ k : Nat, k ≤ 64 ∧ i = .int .i64 k ∧ Sums w1 wr w1.heap.size s t x y k) (fun i _ => 64 - (intOf i).toNat)
  case atStart => exact ⟨0, by omega, rfl, hz0⟩
  case round =>
    obtain ⟨k, hk, rfl, hR⟩ := hrel
    clear hz0
    by_cases hlt : k < 64
    · have hk0 : (0 : Int) ≤ (k : Int) := by omega
      have hk1 : (k : Int) < 64 := by omega
      have hr32 : ((k : Int)).tmod 32 = ((k % 32 : Nat) : Int) := by rw [Int.tmod_eq_emod_of_nonneg (by omega)]; omega
      have hm0 : (0 : Int) ≤ ((k % 32 : Nat) : Int) := by omega
      have hm1 : ((k % 32 : Nat) : Int) < 32 := by omega
      have hm2 : k % 32 < 32 := by omega
      generalize hm : k % 32 = m at hr32 hm0 hm1 hm2
      obtain ⟨hKr, hU, hC⟩ := hR
      have a1 := (hX1.kept hKr).cell (kv_at x k (by omega))
      have a2 := (hY1.kept hKr).cell (kv_at y k (by omega))
      have a3 := (hS1.kept hKr).cell (kv_at s m (by omega))
      have a4 := (hT1.kept hKr).cell (kv_at t m (by omega))
      have c1 := hC.cell (kv_at _ k (by rw [upto_length]; exact hlt))
      have c2 := hU.cell (kv_at _ m (by rw [upto_length]; exact hm2))
      have f1 := hC.frozen k
      have f2 := hU.frozen m
      generalize Gf.nth (upto (mixd x y) 64 k) k = y1 at c1
      generalize Gf.nth (upto (mixd s t) 32 (min k 32)) m = y2 at c2
      have b1 := bits_xor8 (Gf.nth x k) (Gf.nth y k)
      have b2 := bits_xor8 (Gf.nth s m) (Gf.nth t m)
      go_wp2_with fail
      refine region_tail 9 (by kernel_rfl) (by kernel_rfl) ?_
      simp only [List.take_succ_cons, List.take_zero, List.drop_succ_cons, List.drop_zero]
      repeat (go_big_quiet_step (fail))
      refine wpQuiet_nil ?_
      rintro _ ⟨nq, rfl⟩
      go_wp2_with fail
      have hKb : Kept w1 ((wr.drewN nq).setCell ⟨w1.heap.size + 1, k, none⟩ (.int .u8 (B8 (Gf.nth x k ^^^ Gf.nth y k)))) := (hKr.trans (Kept.drewN _ _)).put (Nat.le_succ _) _
      have hUb := (hU.drewN nq).other (p := ⟨w1.heap.size + 1, k, none⟩) (by show w1.heap.size + 1 ≠ w1.heap.size; omega) (.int .u8 (B8 (Gf.nth x k ^^^ Gf.nth y k)))
      have hCb := (hC.drewN nq).put k (.int .u8 (B8 (Gf.nth x k ^^^ Gf.nth y k)))
      rw [kv_set, show Gf.nth x k ^^^ Gf.nth y k = mixd x y k from rfl, upto_set (mixd x y) 64 k hlt] at hCb
      rw [show Gf.nth x k ^^^ Gf.nth y k = mixd x y k from rfl] at hKb hUb ⊢
      generalize (wr.drewN nq).setCell ⟨w1.heap.size + 1, k, none⟩ (.int .u8 (B8 (mixd x y k))) = wb at hKb hUb hCb ⊢
      clear hU hC hKr c1 f1 f2 a1 a2 a3 a4
      have a3 := (hS1.kept hKb).cell (kv_at s m (by omega))
      have a4 := (hT1.kept hKb).cell (kv_at t m (by omega))
      have c3 := hUb.cell (kv_at _ m (by rw [upto_length]; exact hm2))
      have f3 := hUb.frozen m
      generalize Gf.nth (upto (mixd s t) 32 (min k 32)) m = y3 at c3
      refine region_tail 12 (by kernel_rfl) (by kernel_rfl) ?_
      simp only [List.take_succ_cons, List.take_zero, List.drop_succ_cons, List.drop_zero]
      repeat (go_big_quiet_step (fail))
      refine wpQuiet_nil ?_
      rintro _ ⟨nr, rfl⟩
      go_wp2_with fail
      have hKe : Kept w1 ((wb.drewN nr).setCell ⟨w1.heap.size, m, none⟩ (.int .u8 (B8 (Gf.nth s m ^^^ Gf.nth t m)))) := (hKb.trans (Kept.drewN _ _)).put (Nat.le_refl _) _
      have hCe := (hCb.drewN nr).other (p := ⟨w1.heap.size, m, none⟩) (by show w1.heap.size ≠ w1.heap.size + 1; omega) (.int .u8 (B8 (Gf.nth s m ^^^ Gf.nth t m)))
      have hUe := (hUb.drewN nr).put m (.int .u8 (B8 (Gf.nth s m ^^^ Gf.nth t m)))
      rw [kv_set, show Gf.nth s m ^^^ Gf.nth t m = mixd s t m from rfl, ← hm, upto_wrap] at hUe
      rw [show Gf.nth s m ^^^ Gf.nth t m = mixd s t m from rfl, ← hm] at hKe hCe ⊢
      exact ⟨⟨k + 1, by omega, rfl, hKe, hUe, hCe⟩, by simp only [intOf]; omega⟩
    · obtain rfl : k = 64 := by omega
      obtain ⟨hKr, hU, hC⟩ := hR
      clear hk hlt
      rw [show min 64 32 = 32 from rfl, upto_32] at hU
      have hlu : (fun32 (mixd s t)).length = 32 := fun32_length _
      have hlc : (upto (mixd x y) 64 64).length = 64 := upto_length _ _ _
      generalize hfu : fun32 (mixd s t) = u at hU hlu
      generalize hfc : upto (mixd x y) 64 64 = c at hC hlc
      go_wp2_with fail
      have hia : (Try.prog.info? 23).map (·.size) = some (bvs s).length := by rw [bvs_length, hs]; exact keysize
      have hcva : ∀ w', (∃ n, w' = wr.drewN n) → (Go.convert 32 9 (.slice (some ⟨w.heap.size + 1 + 1, 0, none⟩) 64 64)).run Try.prog w' = .ok (.string (bs x)) w' := by
        rintro _ ⟨n, rfl⟩
        exact conv_bytes ((hX1.kept hKr).drewN n).rd (by omega) 64 64 hx
      refine region_tailX 3 2 (by kernel_rfl) (by kernel_rfl) ?_
      simp only [List.take_succ_cons, List.take_zero, List.drop_succ_cons, List.drop_zero]
      go_big_quiet_want
      refine quiet_load_mid 23 _ rfl (w.heap.size) 0 rfl (bvs s) _ (range_drewN (hS1.kept hKr).range) Try.underlying23 rfl hia ?_
      go_simp
      go_big_quiet_on
      iterate 1 (go_big_quiet_step (fail))
      go_big_quiet_want
      refine quiet_conv 32 9 _ rfl _ _ rfl hcva ?_
      go_simp
      go_big_quiet_on
      refine wpQuiet_nil ?_
      rintro _ ⟨nqa, rfl⟩
      go_wp2_with (go_at_call 19; go_loud (refine (split_in _ 5 _ s x 5 _ rfl rfl rfl hs (by omega) (by omega) hx).mono ?_; rintro e wa ⟨ga, rfl, hKa', hga, hSa⟩; have hKa := (Kept.drewN wr nqa).trans hKa'; clear hKa' hcva hia))
      have hKra := hKr.trans hKa
      have hib : (Try.prog.info? 23).map (·.size) = some (bvs t).length := by rw [bvs_length, ht]; exact keysize
      have hcvb : ∀ w', (∃ n, w' = wa.drewN n) → (Go.convert 32 9 (.slice (some ⟨w.heap.size + 1 + 1 + 1, 0, none⟩) 64 64)).run Try.prog w' = .ok (.string (bs y)) w' := by
        rintro _ ⟨n, rfl⟩
        exact conv_bytes ((hY1.kept hKra).drewN n).rd (by omega) 64 64 hy
      refine region_tailX 3 2 (by kernel_rfl) (by kernel_rfl) ?_
      simp only [List.take_succ_cons, List.take_zero, List.drop_succ_cons, List.drop_zero]
      go_big_quiet_want
      refine quiet_load_mid 23 _ rfl (w.heap.size + 1) 0 rfl (bvs t) _ (range_drewN (hT1.kept hKra).range) Try.underlying23 rfl hib ?_
      go_simp
      go_big_quiet_on
      iterate 1 (go_big_quiet_step (fail))
      go_big_quiet_want
      refine quiet_conv 32 9 _ rfl _ _ rfl hcvb ?_
      go_simp
      go_big_quiet_on
      refine wpQuiet_nil ?_
      rintro _ ⟨nqb, rfl⟩
      go_wp2_with (go_at_call 19; go_loud (refine (split_in _ 5 _ t y 5 _ rfl rfl rfl ht (by omega) (by omega) hy).mono ?_; rintro e wb ⟨gb, rfl, hKb', hgb, hSb⟩; have hKb := (Kept.drewN wa nqb).trans hKb'; clear hKb' hcvb hib))
      have hic : (Try.prog.info? 23).map (·.size) = some (bvs u).length := by rw [bvs_length, hlu]; exact keysize
      have hcvc : ∀ w', (∃ n, w' = wb.drewN n) → (Go.convert 32 9 (.slice (some ⟨w1.heap.size + 1, 0, none⟩) 64 64)).run Try.prog w' = .ok (.string (bs c)) w' := by
        rintro _ ⟨n, rfl⟩
        exact conv_bytes (((hC.kept hKa).kept hKb).drewN n).rd (by omega) 64 64 hlc
      refine region_tailX 3 2 (by kernel_rfl) (by kernel_rfl) ?_
      simp only [List.take_succ_cons, List.take_zero, List.drop_succ_cons, List.drop_zero]
      go_big_quiet_want
      refine quiet_load_mid 23 _ rfl (w1.heap.size) 0 rfl (bvs u) _ (range_drewN ((hU.kept hKa).kept hKb).range) Try.underlying23 rfl hic ?_
      go_simp
      go_big_quiet_on
      iterate 1 (go_big_quiet_step (fail))
      go_big_quiet_want
      refine quiet_conv 32 9 _ rfl _ _ rfl hcvc ?_
      go_simp
      go_big_quiet_on
      refine wpQuiet_nil ?_
      rintro _ ⟨nqc, rfl⟩
      go_wp2_with (go_at_call 19; go_loud (refine (split_in _ 5 _ u c 5 _ rfl rfl rfl hlu (by omega) (by omega) hlc).mono ?_; rintro e wc ⟨gc, rfl, hKc', hgc, hSc⟩; have hKc := (Kept.drewN wb nqc).trans hKc'; clear hKc' hcvc hic))
      have hE : ∀ i j, j < 32 → dat s x i j ^^^ dat t y i j = dat u c i j := by
        subst hfu hfc
        intro i j hj
        exact dat_mix s t x y i j hj
      obtain ⟨wd, hwd⟩ : ∃ wd : World, wd = wc := ⟨_, rfl⟩
      have hKw : Kept w wd := by rw [hwd]; exact (((hK0.trans hKr).trans hKa).trans hKb).trans hKc
      have hA := (hSa.kept hKb).kept hKc
      have hB := hSb.kept hKc
      have hC := hSc
      rw [← hwd] at hA hB hC ⊢
      clear hwd hSa hSb hSc
      go_loopw [18, 19] (fun i _ wr => ∃ k : Nat, k ≤ 5 ∧ i = .int .i64 k ∧ Drawn wd wr) (fun i _ _ => 5 - (intOf i).toNat)
      case atStart => exact ⟨0, by omega, rfl, Drawn.refl _⟩
      case round =>
        obtain ⟨i, hi, rfl, hD⟩ := hrel
        by_cases hli : i < 5
        · go_wp2_with fail
          go_loopw [19] (fun j wr => ∃ k : Nat, k ≤ 32 ∧ j = .int .i64 k ∧ Drawn wd wr) (fun j _ => 32 - (intOf j).toNat)
          case atStart => exact ⟨0, by omega, rfl, hD⟩
          case round =>
            obtain ⟨j, hj, rfl, hD2⟩ := hrel
            by_cases hlj : j < 32
            · have hi0 : (0 : Int) ≤ (i : Int) := by omega
              have hi1 : (i : Int) < 5 := by omega
              have hj0 : (0 : Int) ≤ (j : Int) := by omega
              have hj1 : (j : Int) < 32 := by omega
              have a1 := (hA.kept hD2.kept).cellD hli hlj
              have a2 := (hB.kept hD2.kept).cellD hli hlj
              have a3 := (hC.kept hD2.kept).cellD hli hlj
              have b1 : bits .xor .u8 (B8 (dat s x i j)) (B8 (dat t y i j)) = B8 (dat u c i j) := by rw [bits_xor8, hE i j hlj]
              go_wp2_with fail
              refine wp_region_quiet_lit (by kernel_rfl) (by kernel_rfl) ?_
              repeat (go_big_quiet_step (fail))
              refine wpQuiet_nil ?_
              rintro _ ⟨nr, rfl⟩
              go_wp2_with fail
              exact ⟨⟨j + 1, by omega, rfl, hD2.drewN nr⟩, by simp only [intOf]; omega⟩
            · have hj32 : j = 32 := by omega
              subst hj32
              go_wp2_with fail
              exact ⟨⟨i + 1, by omega, rfl, hD2⟩, by simp only [intOf]; omega⟩
        · have hi5 : i = 5 := by omega
          subst hi5
          go_wp2_with fail
          go_ret
          exact ⟨rfl, hKw.trans hD.kept⟩
end Go.Proofs.Ytgalfkjhogidmaa
