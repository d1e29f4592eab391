/-
  THE WALKS through the reference's Split, and Same.
-/
import Derived.Test.YtgalfkjhogidmaaShareQ
import Derived.Test.YtgalfkjhogidmaaBuild
import Derived.Stop.BytesEq
import Derived.Deep.DeepMust
import Derived.Deep.Onto
namespace Go.Proofs.Ytgalfkjhogidmaa
open Go.RowKit

/-- a share's cells, as one value -/
def sv (x : UInt8) (d : List UInt8) : Array Value := (shc (x, d)).toArray
theorem sv_size (x : UInt8) (d : List UInt8) : (sv x d).size = d.length + 1 := by simp [sv, shc, bvs]
theorem sv_set (x : UInt8) (d : List UInt8) (i : Nat) (y : UInt8) : (sv x d).setIfInBounds (1 + i) (.int .u8 (B8 y)) = sv x (d.set i y) := by
  simp [sv, shc, bvs, List.map_set, Nat.add_comm 1 i]
theorem sv_at (x : UInt8) (d : List UInt8) (i : Nat) (h : i < d.length) : (sv x d)[1 + i]? = some (.int .u8 (B8 (Gf.nth d i))) := by
  rw [Nat.add_comm]
  simp [sv, shc, bvs, h, Gf.nth_lt h]
theorem sv_head (x : UInt8) (d : List UInt8) : (sv x d)[0]? = some (.int .u8 (B8 x)) := by simp [sv, shc]
theorem sv_one (x : UInt8) (d : List UInt8) : (sv x d).all (·.oneCell') = true := by
  rw [Array.all_eq_true_iff_forall_mem]
  intro v hv
  have hv : v ∈ shc (x, d) := by simpa [sv] using hv
  rcases List.mem_cons.1 hv with rfl | hv
  · rfl
  · exact bvs_one hv
theorem sharesize : (Try.prog.info? 34).map (·.size) = some 33 := by kernel_rfl
def sv0 : Array Value := Array.replicate 33 (.int .u8 0)
theorem sv0_size : sv0.size = 33 := by simp [sv0]
theorem sv0_some : (sv0 = #[]) = False := by simp [sv0]
def svi (m : Int) : Array Value := sv0.setIfInBounds 0 (.int .u8 m)
theorem svi_eq (x : UInt8) : svi (B8 x) = sv x z32 := by
  have h0 : B8 0 = 0 := rfl
  apply Array.ext'
  simp [svi, sv0, sv, shc, z32, bvs, h0, List.replicate_succ]
theorem svi_size (m : Int) : (svi m).size = 33 := by simp [svi, sv0]
theorem svi_one (m : Int) : (svi m).all (·.oneCell') = true := by
  rw [Array.all_eq_true_iff_forall_mem]
  intro v hv
  rcases Array.mem_or_eq_of_mem_setIfInBounds hv with h | rfl
  · simp [sv0] at h
    subst h
    rfl
  · rfl
theorem zero_share (w : World) : (zeroValue 34).run Try.prog w = .ok (.agg sv0) w := by kernel_rfl

theorem refsplit_bad (s z : List UInt8) (n : Int) (w : World) (h : n < 3 ∨ 255 < n ∨ z.length ≠ 64) :
    Calls Try.prog 20 #[.agg (kv s), .int .i64 n, .string (bs z)] w fun e w' => e = .returned (.tuple #[.slice none 0 0, .int .i64 1]) ∧ Kept w w' := by
  have hz := bs_size z
  by_cases h1 : n < 3
  · go_enter Try.func20, Try.ntmps20
    go_wp2
    go_ret2
    exact ⟨rfl, (Kept.refl _).alloc _⟩
  by_cases h2 : 255 < n
  · go_enter Try.func20, Try.ntmps20
    go_wp2
    go_ret2
    exact ⟨rfl, (Kept.refl _).alloc _⟩
  have h3 : ((z.length : Int) != 64) = true := by simp; omega
  go_enter Try.func20, Try.ntmps20
  go_wp2
  go_ret2
  exact ⟨rfl, (Kept.refl _).alloc _⟩

theorem shc_length (s z : List UInt8) (k : Nat) : (shc (share s z k)).length = 33 := by simp [shc, share, bvs, fun32_length]
theorem shc_size (s z : List UInt8) (k : Nat) : (shc (share s z k)).toArray.size = 33 := by rw [List.size_toArray, shc_length]
theorem shc_one (s z : List UInt8) (k : Nat) : ∀ u ∈ shc (share s z k), u.oneCell' = true := by
  intro u hu
  rcases List.mem_cons.1 hu with rfl | hu
  · rfl
  · exact bvs_one hu
/-- the cells of so many shares -/
def shcs (l : List Sh) : List Value := l.flatMap shc
theorem shcs_succ (s z : List UInt8) (k : Nat) : shcs (shares s z (k + 1)) = shcs (shares s z k) ++ shc (share s z k) := by
  simp [shcs, shares, List.range_succ, List.flatMap_append]

set_option maxHeartbeats 1000000 in
theorem refsplit_ok (s z : List UInt8) (n : Nat) (w : World) (hs : s.length = 32) (hn : 3 ≤ n) (hn2 : n ≤ 255) (hz : z.length = 64) :
    Calls Try.prog 20 #[.agg (kv s), .int .i64 n, .string (bs z)] w fun e w' =>
      ∃ v, e = .returned (.tuple #[v, .int .i64 0]) ∧ Kept w w' ∧ w'.ownsRow w.heap.size 34 33 v n (shcs (shares s z n)) := by
  have hz1 := bs_size z
  have h3 : ((z.length : Int) != 64) = false := by rw [hz]; rfl
  have h4 : decide ((n : Int) < 3) = false := decide_eq_false (by omega)
  have h5 : decide (255 < (n : Int)) = false := decide_eq_false (by omega)
  have HZ := Lib.hid hz
  clear hz
  go_enter Try.func20, Try.ntmps20
  go_wp2_with fail
  go_loopw [8, 9] (fun v x wr => ∃ k : Nat, k ≤ n ∧ x = .int .i64 (k + 1) ∧ Kept w wr ∧ Bk wr w.heap.size 23 (kv s) ∧ wr.ownsRow (w.heap.size + 1) 34 33 v k (shcs (shares s z k))) (fun _ x _ => n + 1 - (intOf x).toNat)
  case atStart => exact ⟨0, Nat.zero_le _, rfl, (Kept.refl _).alloc _, Bk.new w _ _, World.ownsRow_nil _ _ _ _⟩
  case round =>
    obtain ⟨k, hk, rfl, hK, hB, hO⟩ := hrel
    by_cases hlt : k < n
    · have hz0 := zero_share
      have hz1' := sv0_some
      go_wp2_with (refine wpList_store_row rfl 34 _ _ rfl wr.heap.size (svi (k + 1)) rfl rfl 34 sv0 (Bk.new wr _ _) (by rw [svi_size]; exact sharesize) (by rw [svi_size, sv0_size]) (svi_one _) ?_)
      have hP : Bk ((wr.alloc (.cells sv0 34)).setRow wr.heap.size (svi (k + 1))) wr.heap.size 34 (sv (xat k) (upto (dat s z k) 32 0)) := by
        rw [upto_zero]
        have := (Bk.new wr 34 sv0).row (svi (k + 1))
        rw [← B8_xat k (by omega), svi_eq] at this
        rw [← B8_xat k (by omega), svi_eq]
        exact this
      have hKp : Kept wr ((wr.alloc (.cells sv0 34)).setRow wr.heap.size (svi (k + 1))) := ((Kept.refl wr).alloc _).row (Nat.le_refl _) _
      clear hz0 hz1'
      obtain ⟨wa, hwa⟩ : ∃ wa : World, wa = wr := ⟨_, rfl⟩
      rw [← hwa] at hP hKp hK hB hO ⊢
      clear hwa
      go_loopw [11] (fun i wr => ∃ j : Nat, j ≤ 32 ∧ i = .int .i64 j ∧ Kept wa wr ∧ Bk wr wa.heap.size 34 (sv (xat k) (upto (dat s z k) 32 j))) (fun i _ => 32 - (intOf i).toNat)
      case atStart => exact ⟨0, by omega, rfl, hKp, hP⟩
      case round =>
        obtain ⟨j, hj, rfl, hKr, hS⟩ := hrel
        clear hP hKp
        by_cases hlj : j < 32
        · have hj0 : (0 : Int) ≤ (j : Int) := by omega
          have hj1 : (j : Int) < 32 := by omega
          have hBr := hB.kept hKr
          have hcs := kv_at s j (by rw [hs]; exact hlj)
          have c0 := hBr.cell hcs
          have hne : wa.heap.size ≠ w.heap.size := by have := hB.lt; omega
          have hix2 := index_text (P := Try.prog) Try.underlying9 z j (by rw [HZ.out]; omega) (by rw [HZ.out]; omega)
          have hix3 : ∀ w, (Instr.index 9 (.string (bs z)) (.int .i64 (32 + (j : Int)))).run Try.prog w = .ok (.int .u8 (B8 (Gf.nth z (32 + j)))) w := index_text (P := Try.prog) Try.underlying9 z (32 + j) (by rw [HZ.out]; omega) (by rw [HZ.out]; omega)
          have hbx : IntKind.u8.wrap ((k : Int) + 1) = B8 (xat k) := by rw [B8_xat k (by omega)]; exact wrap_u8 _ (by omega) (by omega)
          have c1 := hS.cell (sv_at _ _ j (by rw [upto_length]; exact hlj))
          have f1 := hS.frozen (1 + j)
          have hsl := hS.lt
          have hwr : IntKind.i64.wrap (32 + (j : Int)) = 32 + (j : Int) := IntWalk.i64_in _ (by omega)
          have hl3 : (3 : Nat) ≤ maxLen := small_len (by omega)
          go_wp2_with fail
          generalize Gf.nth (upto (dat s z k) 32 j) j = y0 at *
          go_region_held3 (fun w' => w'.cell? ⟨w.heap.size, j, none⟩ = some (.int .u8 (B8 (Gf.nth s j)))) (first | go_keep | exact (((hBr.other (p := ⟨wa.heap.size, 1 + j, none⟩) hne _).alloc _).drew).cell hcs)
            ((go_at_call 32; refine (refeval_len _ 3 3 (co s z j) _ _ rfl hl3 ((RdB.new wr (co s z j) 5).kept (Kept.refl _).drew)).mono ?_; rintro e w5 ⟨rfl, rfl⟩))
          go_wp2_with fail
          all_goals
            rename_i hHeld
            clear hHeld
            have hP2 : Bk (wr.setCell ⟨wa.heap.size, 1 + j, none⟩ (.int .u8 (B8 (Gf.eval (co s z j) (xat k))))) wa.heap.size 34 (sv (xat k) (upto (dat s z k) 32 (j + 1))) := by
              have := hS.put (1 + j) (.int .u8 (B8 (Gf.eval (co s z j) (xat k))))
              rw [sv_set] at this
              rw [show Gf.eval (co s z j) (xat k) = dat s z k j from rfl] at this ⊢
              rw [upto_set (dat s z k) 32 j hlj] at this
              exact this
            have hP3 := hP2.alloc (.cells ((bvs (co s z j)).toArray) 5)
            refine ⟨⟨j + 1, by omega, rfl, ((hKr.put (p := ⟨wa.heap.size, 1 + j, none⟩) (Nat.le_refl _) _).alloc _).drew, hP3.drew⟩, ?_⟩
            simp only [intOf]
            omega
        · have hj32 : j = 32 := by omega
          subst hj32
          clear hj hlj
          have hS2 : Bk wr wa.heap.size 34 (shc (share s z k)).toArray := by
            have := hS
            rw [upto_32] at this
            exact this
          clear hS
          have hO2 := own_kept hO hKr
          have hwsz : w.heap.size + 1 ≤ wr.heap.size := by have := hB.lt; have := hKr.size; omega
          have hwsz2 : w.heap.size + 1 ≤ wa.heap.size := hB.lt
          have hl := shc_size s z k
          have hl2 := shc_length s z k
          have h1c := shc_one s z k
          obtain ⟨sh, hsh⟩ : ∃ sh : List Value, sh = shc (share s z k) := ⟨_, rfl⟩
          rw [← hsh] at hS2 hl hl2 h1c
          have hsz : (Try.prog.info? 34).map (·.size) = some sh.toArray.size := by rw [hl]; exact sharesize
          go_wp2_with (first
            | (refine wpList_load_row rfl 34 _ rfl wa.heap.size rfl _ sh.toArray _ _ hS2 Try.underlying34 rfl hsz ?_)
            | (refine wpList_build_one rfl 25 _ rfl Try.underlying25 shareinfo sh.toArray rfl hl (by decide) (by decide) ?_)
            | (at_builtin; go_must (refine wpList_push rfl _ _ _ rfl Try.underlying25 shareinfo rfl (by decide) rfl rfl hO2 hwsz hl2 h1c (by unfold maxLen; omega) (by omega) ?_; intro v' w' hP; have hKw := hP.kept ((hK.trans hKr).alloc _) (hO2.alloc _) (Nat.le_succ _); have hbl := hP.below (B' := w.heap.size + 1) (hO2.alloc _) (Nat.le_refl _) (by rw [World.size_alloc]; omega); have hB2 : Bk w' w.heap.size 23 (kv s) := (hbl.block _ (Nat.lt_succ_self _)).trans ((hB.kept hKr).alloc _); have hO3 := hP.own; clear hP hO2 hbl)))
          go_roundw
          case rel =>
            refine ⟨k + 1, by omega, by go_num, hKw, hB2, ?_⟩
            rw [shcs_succ, ← hsh]
            exact hO3
          case measure => simp [intOf]; omega
    · have e : n = k := by omega
      subst e
      go_wp2_with fail
      go_ret2
      exact ⟨_, rfl, hK, hO.mono (Nat.le_succ _)⟩
end Go.Proofs.Ytgalfkjhogidmaa
