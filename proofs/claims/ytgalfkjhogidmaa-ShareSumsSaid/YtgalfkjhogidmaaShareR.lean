/-
  THE WALKS through the reference of package share: Right, At, Join, Third, Coefficients, Same.
-/
import Derived.Deep.RegionHeld3
import Derived.Test.YtgalfkjhogidmaaShare
namespace Go.Proofs.Ytgalfkjhogidmaa
open Go.RowKit

/-- shares that read: share j lies at o + j * 33 -/
def RdS (w : World) (A : Option Addr) (l : List Sh) : Prop :=
  0 < l.length → ∃ b o, A = some ⟨b, o, none⟩ ∧ ∀ j, (hj : j < l.length) → w.cell? ⟨b, o + j * 33, none⟩ = some (.int .u8 (B8 l[j].1)) ∧
    ∀ i, i < 32 → w.cell? ⟨b, o + j * 33 + 1 + i, none⟩ = some (.int .u8 (B8 (Gf.nth l[j].2 i)))
theorem RdS.kept {w w' : World} {A : Option Addr} {l : List Sh} (h : RdS w A l) (hk : Kept w w') : RdS w' A l := fun h0 => by
  obtain ⟨b, o, e, hc⟩ := h h0
  exact ⟨b, o, e, fun j hj => ⟨hk.cell (hc j hj).1, fun i hi => hk.cell ((hc j hj).2 i hi)⟩⟩

theorem RdS.three {w : World} {A : Option Addr} {l0 l1 l2 : Sh} (h : RdS w A [l0, l1, l2]) : ∃ b o, A = some ⟨b, o, none⟩ ∧
    w.cell? ⟨b, o, none⟩ = some (.int .u8 (B8 l0.1)) ∧ w.cell? ⟨b, o + 33, none⟩ = some (.int .u8 (B8 l1.1)) ∧ w.cell? ⟨b, o + 66, none⟩ = some (.int .u8 (B8 l2.1)) ∧
    ∀ i, i < 32 → w.cell? ⟨b, o + 1 + i, none⟩ = some (.int .u8 (B8 (Gf.nth l0.2 i))) ∧ w.cell? ⟨b, o + 33 + 1 + i, none⟩ = some (.int .u8 (B8 (Gf.nth l1.2 i))) ∧ w.cell? ⟨b, o + 66 + 1 + i, none⟩ = some (.int .u8 (B8 (Gf.nth l2.2 i))) := by
  obtain ⟨b, o, e, hc⟩ := h (by simp)
  have p0 := hc 0 (by simp)
  have p1 := hc 1 (by simp)
  have p2 := hc 2 (by simp)
  rw [Nat.zero_mul, Nat.add_zero] at p0
  exact ⟨b, o, e, p0.1, p1.1, p2.1, fun i hi => ⟨p0.2 i hi, p1.2 i hi, p2.2 i hi⟩⟩

def lagAt (l0 l1 l2 : Sh) (x : UInt8) (i : Nat) : UInt8 := atVal [l0.1, l1.1, l2.1] [Gf.nth l0.2 i, Gf.nth l1.2 i, Gf.nth l2.2 i] x

set_option maxHeartbeats 1000000 in
theorem refAt_any (A : Option Addr) (c : Nat) (l0 l1 l2 : Sh) (x : UInt8) (w : World) (hR : RdS w A [l0, l1, l2]) :
    Calls Try.prog 37 #[.slice A 3 c, .int .u8 (B8 x)] w fun e w' => e = .returned (.agg (kv (fun32 (lagAt l0 l1 l2 x)))) ∧ Kept w w' := by
  obtain ⟨b, o, rfl, p0, p1, p2, hc⟩ := hR.three
  clear hR
  have h0 : (3 : Nat) ≤ maxLen := small_len (by omega)
  go_enter Try.func37, Try.ntmps37
  go_wp2_with fail
  go_loopw [6] (fun i wr => ∃ k : Nat, k ≤ 32 ∧ i = .int .i64 k ∧ Kept w wr ∧ Bk wr w.heap.size 23 (kv (List.replicate 32 0)) ∧ Bk wr (w.heap.size + 1) 23 (kv (upto (lagAt l0 l1 l2 x) 32 k))) (fun i _ => 32 - (intOf i).toNat)
  case atStart => exact ⟨0, by omega, rfl, ((Kept.refl _).alloc _).alloc _, (Bk.new w _ (kv (List.replicate 32 0))).alloc _, by
    rw [upto_zero]
    have := Bk.new (w.alloc (.cells (kv (List.replicate 32 0)) 23)) 23 (kv (List.replicate 32 0))
    rw [World.size_alloc] at this
    exact this⟩
  case round =>
    obtain ⟨k, hk, rfl, hK, hB1, hB2⟩ := hrel
    by_cases hlt : k < 32
    · have hk0 : (0 : Int) ≤ (k : Int) := by omega
      have hk1 : (k : Int) < 32 := by omega
      have q0 := hK.cell p0
      have q1 := hK.cell p1
      have q2 := hK.cell p2
      have d0 := hK.cell (hc k hlt).1
      have d1 := hK.cell (hc k hlt).2.1
      have d2 := hK.cell (hc k hlt).2.2
      have HC := Lib.hid hc
      clear hc p0 p1 p2
      go_wp2_with fail
      go_region_held3 (fun w' => w'.cell? ⟨b, o, none⟩ = some (.int .u8 (B8 l0.1)) ∧ w'.cell? ⟨b, o + 33, none⟩ = some (.int .u8 (B8 l1.1)) ∧ w'.cell? ⟨b, o + 66, none⟩ = some (.int .u8 (B8 l2.1)) ∧ w'.cell? ⟨b, o + 1 + k, none⟩ = some (.int .u8 (B8 (Gf.nth l0.2 k))) ∧ w'.cell? ⟨b, o + 33 + 1 + k, none⟩ = some (.int .u8 (B8 (Gf.nth l1.2 k))) ∧ w'.cell? ⟨b, o + 66 + 1 + k, none⟩ = some (.int .u8 (B8 (Gf.nth l2.2 k))))
        (go_keep) ((go_at_call 30; (refine (refat_len _ _ 3 3 3 3 [l0.1, l1.1, l2.1] [Gf.nth l0.2 k, Gf.nth l1.2 k, Gf.nth l2.2 k] x _ rfl rfl h0 h0 ?_ ?_).mono ?_); (first | exact RdB.new1 _ _ _ _ | exact RdB.new2 _ _ _ _); (first | exact RdB.new1 _ _ _ _ | exact RdB.new2 _ _ _ _); rintro e w5 ⟨rfl, n5, rfl⟩))
      all_goals
        rename_i hHeld
        clear hHeld q0 q1 q2 d0 d1 d2
        refine then_gen (w0 := wr) ((((Kept.refl _).alloc _).alloc _).trans (Kept.drewN _ _)) (fun w6 hK6 => ?_)
        have hB3 := hB1.kept hK6
        have hB4 := hB2.kept hK6
        have hc4 := hB4.cell (kv_at _ k (by rw [upto_length]; exact hlt))
        have hf4 := hB4.frozen k
        have hB5 := hB4.put k (.int .u8 (B8 (lagAt l0 l1 l2 x k)))
        rw [kv_set, upto_set _ _ _ hlt] at hB5
        have hB6 := hB3.other (p := ⟨w.heap.size + 1, k, none⟩) (by show w.heap.size + 1 ≠ w.heap.size; omega) (.int .u8 (B8 (lagAt l0 l1 l2 x k)))
        have hK7 := (hK.trans hK6).put (p := ⟨w.heap.size + 1, k, none⟩) (by show w.heap.size ≤ w.heap.size + 1; omega) (.int .u8 (B8 (lagAt l0 l1 l2 x k)))
        rw [show lagAt l0 l1 l2 x k = atVal [l0.1, l1.1, l2.1] [Gf.nth l0.2 k, Gf.nth l1.2 k, Gf.nth l2.2 k] x from rfl] at hB5 hB6 hK7
        clear hB1 hB2 hB3 hB4 hK hK6
        go_wp2
        go_roundw
        case rel => exact ⟨k + 1, by omega, by go_num, hK7, hB6, hB5⟩
        case measure => simp [intOf]; omega
    · have hk : k = 32 := by omega
      subst hk
      rw [upto_32] at hB2
      have hl : (kv (fun32 (lagAt l0 l1 l2 x))).size = 32 := by rw [kv_size, fun32_length]
      go_wp2_with (first
        | (refine wpList_load_row rfl 23 _ rfl (w.heap.size + 1) rfl 23 _ (0, 0) _ hB2 Try.underlying23 rfl (by rw [hl]; exact keysize) ?_)
        | (refine wpList_store_row rfl 23 _ _ rfl w.heap.size _ rfl rfl 23 _ hB1 (by rw [hl]; exact keysize) (by rw [hl, kv_size]; simp) (kv_one _) ?_))
      have hB3 := hB1.row (kv (fun32 (lagAt l0 l1 l2 x)))
      refine bodyPost_ret (results_cell_row rfl _ _ w.heap.size 23 _ (0, 0) _ rfl hB3 Try.underlying23 rfl (by rw [hl]; exact keysize)) rfl ⟨rfl, hK.row (Nat.le_refl _) _⟩
end Go.Proofs.Ytgalfkjhogidmaa
