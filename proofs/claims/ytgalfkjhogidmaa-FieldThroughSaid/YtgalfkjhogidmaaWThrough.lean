/-
  THE WALKS of the laws FieldThrough, FieldFree, FieldRoots.
-/
import Derived.Test.YtgalfkjhogidmaaWMuls
import Derived.Test.YtgalfkjhogidmaaOwn
import Derived.Deep.DeepMust
namespace Go.Proofs.Ytgalfkjhogidmaa
open Go.RowKit

theorem byteinfo : (Try.prog.info? 5).map (fun i => (i.zero, i.size, i.bytes)) = some (some (.int .u8 0), 1, 1) := by kernel_rfl
theorem one_bytes {u : Value} {x : UInt8} (h : u ∈ [(Value.int .u8 (B8 x))]) : u.oneCell' = true := by
  simp at h; subst h; rfl

/-- the places: so many steps of seven from one on -/
def stp (a : UInt8) (i : Nat) : UInt8 := a + UInt8.ofNat (i * 7)
def pts (a : UInt8) (n : Nat) : List UInt8 := (List.range n).map fun i => stp a i
theorem pts_succ (a : UInt8) (n : Nat) : pts a (n + 1) = pts a n ++ [stp a n] := by simp [pts, List.range_succ]
theorem vals_succ (f : UInt8 → UInt8) (a : UInt8) (n : Nat) : (pts a (n + 1)).map f = (pts a n).map f ++ [f (stp a n)] := by simp [pts_succ]
theorem pts_length (a : UInt8) (n : Nat) : (pts a n).length = n := by simp [pts]
theorem pts_nodup (a : UInt8) (n : Nat) (hn : n ≤ 12) : (pts a n).Nodup := by
  unfold pts
  rw [List.nodup_iff_pairwise_ne, List.pairwise_iff_getElem]
  intro i j hi hj hij
  simp at hi hj
  simp [stp]
  have h : (List.range 12).all (fun i => (List.range 12).all fun j => i == j || UInt8.ofNat (i * 7) != UInt8.ofNat (j * 7)) = true := by decide +kernel
  have := List.all_eq_true.1 (List.all_eq_true.1 h i (by simp; omega)) j (by simp; omega)
  simp at this
  intro e
  rcases this with h | h
  · omega
  · exact h (by simpa using e)
theorem through (l : List UInt8) (a x : UInt8) (hn : l.length ≤ 12) : atVal (pts a l.length) ((pts a l.length).map fun p => Gf.eval l p) x = Gf.eval l x ∧ atOk (pts a l.length) ((pts a l.length).map fun p => Gf.eval l p) = true := by
  have hok : atOk (pts a l.length) ((pts a l.length).map fun p => Gf.eval l p) = true := by
    simp [atOk, dis, pts_nodup a _ hn]
  refine ⟨?_, hok⟩
  unfold atVal
  rw [if_pos hok]
  refine Gf.lag_of_deg _ _ (by rw [pts_length]; exact Gf.deg_eval l) (pts_nodup a _ hn) (fun j hj => ?_) x
  rw [Gf.nth_lt (by simpa using hj), Gf.nth_lt hj]
  simp

theorem fieldThrough_walk (w : World) (v0 v1 v2 : Value) (x0 : List UInt8) (x1 x2 : UInt8) (h0 : Ty.Val w (.sl .u8) v0 x0) (h1 : Ty.Val w .u8 v1 x1) (h2 : Ty.Val w .u8 v2 x2) :
    Calls Try.prog 10 #[v0, v1, v2] w fun e w' => e = .returned (.bool true) ∧ Kept w w' := by
  obtain ⟨A, c, rfl, hm0, _, hR0⟩ := bytes_in h0
  obtain rfl : v1 = .int .u8 (B8 x1) := by injection h1
  obtain rfl : v2 = .int .u8 (B8 x2) := by injection h2
  clear h0 h1 h2
  have hn0 := hm0
  unfold maxLen at hn0
  by_cases c0 : 12 < x0.length
  · go_enter Try.func10, Try.ntmps10
    go_wp2_with (go_at_call 24; refine (alive05 _).mono ?_; rintro e w1 ⟨rfl, hK⟩)
    go_ret
    exact ⟨rfl, hK⟩
  have HT := Lib.hid (through x0 x1 x2 (by omega))
  go_enter Try.func10, Try.ntmps10
  go_wp2_with (go_at_call 24; refine (alive05 _).mono ?_; rintro e w1 ⟨rfl, hK⟩)
  go_loopw [7, 8, 20] (fun a b i wr => ∃ k : Nat, k ≤ x0.length ∧ i = .int .i64 k ∧ wr.ownsRow w.heap.size 5 1 a k (bvs (pts x1 k)) ∧ wr.ownsRow w.heap.size 5 1 b k (bvs ((pts x1 k).map fun p => Gf.eval x0 p)) ∧ Apart a b ∧ Kept w wr)
    (fun _ _ i _ => x0.length - (intOf i).toNat)
  case atStart => exact ⟨0, Nat.zero_le _, rfl, World.ownsRow_nil _ _ _ _, World.ownsRow_nil _ _ _ _, .inl rfl, hK⟩
  case round =>
    obtain ⟨k, hk, rfl, hA, hB, hAp, hKr⟩ := hrel
    by_cases hlt : k < x0.length
    · have f1 : IntKind.u8.wrap (B8 x1 + (k : Int) * 7) = B8 (stp x1 k) := by
        unfold stp; rw [← add_u8_nat]; simp
      go_wp2_with (first
        | (at_builtin; refine wpList_push rfl _ _ _ rfl Try.underlying32 byteinfo rfl (by decide) rfl rfl hA hKr.size rfl (fun _ => one_bytes) (by omega) (by omega) ?_; intro v' w' hP; have hKw := hP.kept (hKr.alloc _) (hA.alloc _) (Nat.le_refl _); have hO := hP.other (hB.alloc _) hAp.symm; have hA2 := hP.own; rw [bvs_push, ← pts_succ] at hA2; clear hP hA hB hAp)
        | (go_at_call 31; refine (eval_any _ _ _ _ _ hm0 (hR0.kept hKw)).mono ?_; rintro e w'' ⟨rfl, hD⟩; have hKd := hKw.trans hD.kept; have hA3 := own_kept hA2 hD.kept; have hB3 := own_kept hO.1 hD.kept; have hAp3 := hO.2; clear hD hA2 hO)
        | (at_builtin; refine wpList_push rfl _ _ _ rfl Try.underlying32 byteinfo rfl (by decide) rfl rfl hB3 hKd.size rfl (fun _ => one_bytes) (by omega) (by omega) ?_; intro v'' w3 hP2; have hKw3 := hP2.kept (hKd.alloc _) (hB3.alloc _) (Nat.le_refl _); have hO3 := hP2.other (hA3.alloc _) hAp3.symm; have hB4 := hP2.own; rw [bvs_push, ← vals_succ] at hB4; clear hP2 hA3 hB3 hAp3))
      go_roundw
      case rel => exact ⟨k + 1, by omega, by go_num, hO3.1, hB4, hO3.2, hKw3⟩
      case measure => simp [intOf]; omega
    · have e : x0.length = k := by omega
      rw [e] at HT
      clear e
      obtain ⟨A1, c1, rfl, hla, hma, hRa⟩ := bytes_own hA
      obtain ⟨A2, c2, rfl, hlb, hmb, hRb⟩ := bytes_own hB
      have e1 := b8_eq (x := Gf.eval x0 x2) rfl
      have Hla := Lib.hid hla
      have Hlb := Lib.hid hlb
      clear hla hlb
      go_wp2_with fail
      refine (at_len _ _ _ _ _ _ _ _ _ _ Hla.out Hlb.out hma hmb hRa hRb).mono ?_
      rintro e w4 ⟨rfl, hK4⟩
      rw [HT.out.1, HT.out.2]
      have hK5 := hKr.trans hK4
      clear hA hB hAp hRa hRb hKr hK4
      go_wp2_with fail
      refine (eval_any _ _ _ _ _ hm0 (hR0.kept hK5)).mono ?_
      rintro e w6 ⟨rfl, hD⟩
      go_wp2
      go_ret
      exact ⟨rfl, hK5.trans hD.kept⟩

/-! ### FieldFree -/
def inc8 (x : UInt8) : UInt8 := x + 1
def nxt (x : UInt8) (k : Nat) : UInt8 := inc8 x + UInt8.ofNat k
def npts (x : UInt8) (n : Nat) : List UInt8 := (List.range n).map fun i => nxt x i
theorem npts_succ (a : UInt8) (n : Nat) : npts a (n + 1) = npts a n ++ [nxt a n] := by simp [npts, List.range_succ]
theorem npts_length (a : UInt8) (n : Nat) : (npts a n).length = n := by simp [npts]
theorem npts_nodup (a : UInt8) (n : Nat) (hn : n ≤ 12) : (a :: npts a n).Nodup := by
  have h : (List.range 12).all (fun i => (UInt8.ofNat i + 1 != 0) && (List.range 12).all fun j => i == j || UInt8.ofNat i != UInt8.ofNat j) = true := by decide +kernel
  rw [List.nodup_cons]
  constructor
  · intro hm
    simp only [npts, List.mem_map, List.mem_range] at hm
    obtain ⟨i, hi, e⟩ := hm
    have := List.all_eq_true.1 h i (by simp; omega)
    simp only [Bool.and_eq_true, bne_iff_ne, ne_eq] at this
    refine this.1 ?_
    have e2 : a + (UInt8.ofNat i + 1) = a + 0 := by
      rw [UInt8.add_zero]
      simp only [nxt, inc8] at e
      rw [UInt8.add_comm (UInt8.ofNat i), ← UInt8.add_assoc]
      exact e
    exact (UInt8.add_right_inj a).1 e2
  · unfold npts
    rw [List.nodup_iff_pairwise_ne, List.pairwise_iff_getElem]
    intro i j hi hj hij
    simp at hi hj
    simp [nxt]
    have := List.all_eq_true.1 h i (by simp; omega)
    simp only [Bool.and_eq_true] at this
    have := List.all_eq_true.1 this.2 j (by simp; omega)
    simp at this
    intro e
    rcases this with h | h
    · omega
    · exact h (by simpa using e)
def allP (x : UInt8) (n : Nat) : List UInt8 := x :: npts x n
def valP (y : UInt8) (ys : List UInt8) : List UInt8 := y :: ys
theorem free_ok (x y : UInt8) (ys : List UInt8) (hn : ys.length ≤ 12) : atOk (allP x ys.length) (valP y ys) = true := by
  simp [atOk, dis, allP, valP, npts_length]
  exact List.nodup_cons.1 (npts_nodup x _ hn)
theorem free_at (x y : UInt8) (ys : List UInt8) (hn : ys.length ≤ 12) (k : Nat) (hk : k < 1 + ys.length) :
    atVal (allP x ys.length) (valP y ys) (Gf.nth (allP x ys.length) k) = Gf.nth (valP y ys) k := by
  unfold atVal
  rw [if_pos (free_ok x y ys hn)]
  exact Gf.lag_at _ _ (npts_nodup x _ hn) k (by simp [npts_length]; omega)
theorem free_twice (x y : UInt8) (ys : List UInt8) : atOk (allP x ys.length ++ [x]) (valP y ys ++ [y]) = false := by
  have : dis (allP x ys.length ++ [x]) = false := by
    simp only [dis, decide_eq_false_iff_not, List.nodup_append]
    intro h
    exact h.2.2 x (by simp [allP]) x (by simp) rfl
  simp [atOk, this]
theorem free_odd (x : UInt8) (ys : List UInt8) : atOk (allP x ys.length) ys = false := by
  simp [atOk, allP, npts_length]

theorem fieldFree_walk (w : World) (v0 v1 v2 : Value) (x0 : List UInt8) (x1 x2 : UInt8) (h0 : Ty.Val w (.sl .u8) v0 x0) (h1 : Ty.Val w .u8 v1 x1) (h2 : Ty.Val w .u8 v2 x2) :
    Calls Try.prog 11 #[v0, v1, v2] w fun e w' => e = .returned (.bool true) ∧ Kept w w' := by
  obtain ⟨A, c, rfl, hm0, _, hR0⟩ := bytes_in h0
  obtain rfl : v1 = .int .u8 (B8 x1) := by injection h1
  obtain rfl : v2 = .int .u8 (B8 x2) := by injection h2
  clear h0 h1 h2
  have hn0 := hm0
  unfold maxLen at hn0
  by_cases c0 : 12 < x0.length
  · go_enter Try.func11, Try.ntmps11
    go_wp2_with (go_at_call 24; refine (alive05 _).mono ?_; rintro e w1 ⟨rfl, hK⟩)
    go_ret
    exact ⟨rfl, hK⟩
  go_enter Try.func11, Try.ntmps11
  go_wp2_with (go_at_call 24; refine (alive05 _).mono ?_; rintro e w1 ⟨rfl, hK⟩)
  have f0 : IntKind.u8.wrap (B8 x1 + 1) = B8 (inc8 x1) := add_u8 x1 1
  go_loopw [7, 27] (fun a i wr => ∃ k : Nat, k ≤ x0.length ∧ i = .int .i64 k ∧ wr.ownsRow w.heap.size 5 1 a k (bvs (npts x1 k)) ∧ Kept w wr)
    (fun _ i _ => x0.length - (intOf i).toNat)
  case atStart => exact ⟨0, Nat.zero_le _, rfl, World.ownsRow_nil _ _ _ _, hK⟩
  case round =>
    obtain ⟨k, hk, rfl, hA, hKr⟩ := hrel
    by_cases hlt : k < x0.length
    · have f1 : IntKind.u8.wrap (B8 (inc8 x1) + (k : Int)) = B8 (nxt x1 k) := add_u8_nat _ _
      go_wp2_with (at_builtin; refine wpList_push rfl _ _ _ rfl Try.underlying32 byteinfo rfl (by decide) rfl rfl hA hKr.size rfl (fun _ => one_bytes) (by omega) (by omega) ?_; intro v' w' hP; have hKw := hP.kept (hKr.alloc _) (hA.alloc _) (Nat.le_refl _); have hA2 := hP.own; rw [bvs_push, ← npts_succ] at hA2; clear hP hA)
      go_roundw
      case rel => exact ⟨k + 1, by omega, by go_num, hA2, hKw⟩
      case measure => simp [intOf]; omega
    · have e : k = x0.length := by omega
      subst e
      obtain ⟨A1, c1, rfl, hla, hma, hRa⟩ := bytes_own hA
      have Hla := Lib.hid hla
      clear hla f0
      have hO1 : (wr.alloc (.cells #[.int .u8 (B8 x1)] 5)).ownsRow w.heap.size 5 1 (.slice (some ⟨wr.heap.size, 0, none⟩) 1 1) 1 (bvs [x1]) := bytes_lit wr [x1] _ _ hKr.size (small_len (by simp))
      have hRa1 := (hRa.kept ((Kept.refl wr).alloc (.cells #[.int .u8 (B8 x1)] 5))).cells
      have hlb : (bvs (npts x1 x0.length)).length = x0.length * 1 := by rw [bvs_length, npts_length, Nat.mul_one]
      have Hlb := Lib.hid hlb
      clear hlb hRa hma
      go_wp2_with (first
        | (at_builtin; refine wpList_cat rfl _ _ _ rfl Try.underlying32 byteinfo rfl (by decide) rfl rfl hO1 (by rw [World.size_alloc]; have := hKr.size; omega) Hlb.out hRa1 (fun _ => bvs_one) (small_len (by omega)) (by omega) ?_; intro v' w' hP; have hKw := hP.kept (hKr.alloc _) hO1 (Nat.le_refl _); have hX := hP.own; rw [bvs_append] at hX; clear hP hO1 hRa1; have hO2 : (w'.alloc (.cells #[.int .u8 (B8 x2)] 5)).ownsRow w.heap.size 5 1 (.slice (some ⟨w'.heap.size, 0, none⟩) 1 1) 1 (bvs [x2]) := bytes_lit w' [x2] _ _ hKw.size (small_len (by simp)); have hR2 := ((hR0.kept hKw).kept ((Kept.refl w').alloc (.cells #[.int .u8 (B8 x2)] 5))).cells)
        | (at_builtin; refine wpList_cat rfl _ _ _ rfl Try.underlying32 byteinfo rfl (by decide) rfl rfl hO2 (by rw [World.size_alloc]; have := hKw.size; omega) (by rw [bvs_length, Nat.mul_one]) hR2 (fun _ => bvs_one) (small_len (by omega)) (by omega) ?_; intro v'' w'' hP; have hKv := hP.kept (hKw.alloc _) hO2 (Nat.le_refl _); have hY := hP.own; rw [bvs_append] at hY; have hXo := hP.other (hX.alloc _) (Apart.fresh hX _ _); clear hP hO2 hR2 hX; obtain ⟨Xa, Xc, rfl, hlx, hmx, hRx⟩ := bytes_own hXo.1; obtain ⟨Ya, Yc, rfl, hly, hmy, hRy⟩ := bytes_own hY; have Hlx : Hid ((allP x1 x0.length).length = 1 + x0.length) := Lib.hid hlx; have Hly : Hid ((valP x2 x0).length = 1 + x0.length) := Lib.hid hly; clear hlx hly))
      have hX : w''.ownsRow w.heap.size 5 1 (.slice Xa (1 + x0.length) Xc) (1 + x0.length) (bvs (allP x1 x0.length)) := hXo.1
      have hV : w''.ownsRow w.heap.size 5 1 (.slice Ya (1 + x0.length) Yc) (1 + x0.length) (bvs (valP x2 x0)) := hY
      have hRx' : RdB w'' Xa (allP x1 x0.length) := hRx
      have hRy' : RdB w'' Ya (valP x2 x0) := hRy
      have hmx' : (allP x1 x0.length).length ≤ maxLen := hmx
      have hmy' : (valP x2 x0).length ≤ maxLen := hmy
      have hAp := hXo.2
      clear hXo hY hRx hRy hmx hmy
      clear hA Hla Hlb hKw hKr hK
      have HF := Lib.hid (free_at x1 x2 x0 (by omega))
      have HO := Lib.hid (free_ok x1 x2 x0 (by omega))
      go_loopw [50] (fun i wr => ∃ k : Nat, k ≤ 1 + x0.length ∧ i = .int .i64 k ∧ Kept w'' wr) (fun i _ => 1 + x0.length - (intOf i).toNat)
      case atStart => exact ⟨0, Nat.zero_le _, rfl, Kept.refl _⟩
      case round =>
        obtain ⟨k, hk, rfl, hKr⟩ := hrel
        by_cases hlt : k < 1 + x0.length
        · have hRx1 := hRx'.kept hKr
          have hRy1 := hRy'.kept hKr
          have HRx := Lib.hid hRx1
          have HRy := Lib.hid hRy1
          obtain ⟨b, o, rfl, hc⟩ := hRx1.op (by rw [Hlx.out]; omega)
          have hc1 := hc k (by rw [Hlx.out]; exact hlt)
          clear hc hRx1 hRy1
          go_wp2_with fail
          refine (at_len _ _ _ _ _ _ _ _ _ _ Hlx.out Hly.out hmx' hmy' HRx.out HRy.out).mono ?_
          rintro e w5 ⟨rfl, hK5⟩
          rw [HF.out k hlt, HO.out]
          have hK6 := hKr.trans hK5
          clear hK5 hKr hc1 HRx HRy
          have hRy1 := hRy'.kept hK6
          obtain ⟨b2, o2, rfl, hc2⟩ := hRy1.op (by rw [Hly.out]; omega)
          have hc3 := hc2 k (by rw [Hly.out]; exact hlt)
          clear hc2 hRy1
          have e3 := b8_ne (x := Gf.nth (valP x2 x0) k) rfl
          go_wp2
          go_roundw
          case rel => exact ⟨k + 1, by omega, by go_num, hK6⟩
          case measure => simp [intOf]; omega
        · have hX1 := own_kept hX hKr
          have hV1 := own_kept hV hKr
          have hKr2 := hKv.trans hKr
          clear hX hV hRx' hRy' hKr hKv HF HO
          have H1 := Lib.hid (free_twice x1 x2 x0)
          have H2 := Lib.hid (free_odd x1 x0)
          go_wp2_with (first
            | (at_builtin; refine wpList_push rfl _ _ _ rfl Try.underlying32 byteinfo rfl (by decide) rfl rfl hX1 hKr2.size rfl (fun _ => one_bytes) (by unfold maxLen; omega) (by omega) ?_; intro v1 y1 hP; have hKa := hP.kept (hKr2.alloc _) (hX1.alloc _) (Nat.le_refl _); have hV2 := hP.other (hV1.alloc _) hAp.symm; have hX2 := hP.old; have hN := hP.own; rw [bvs_push] at hN; clear hP hX1 hV1)
            | (at_builtin; refine wpList_push rfl _ _ _ rfl Try.underlying32 byteinfo rfl (by decide) rfl rfl hV2.1 hKa.size rfl (fun _ => one_bytes) (by unfold maxLen; omega) (by omega) ?_; intro v2 y2 hP; have hKb := hP.kept (hKa.alloc _) (hV2.1.alloc _) (Nat.le_refl _); have hX3 := hP.other (hX2.alloc _) hAp; have hN2 := hP.other (hN.alloc _) hV2.2.symm; have hM := hP.own; rw [bvs_push] at hM; clear hP hX2 hV2 hN; obtain ⟨Za, Zc, rfl, hlz, hmz, hRz⟩ := bytes_own hN2.1; obtain ⟨Qa, Qc, rfl, hlq, hmq, hRq⟩ := bytes_own hM; obtain ⟨Xb, Xd, ex, hlx, hmx, hRx⟩ := bytes_own hX3.1; injection ex with ex1 ex2; subst ex1; have Hlz := Lib.hid hlz; have Hlq := Lib.hid hlq; clear hlz hlq hlx ex2 hX3 hN2 hM)
            | fail)
          refine (at_len _ _ _ _ _ _ _ _ 0 _ Hlz.out Hlq.out hmz hmq hRz hRq).mono ?_
          rintro e y3 ⟨rfl, hK3⟩
          rw [H1.out]
          have hK4 := hKb.trans hK3
          have hRx1 := hRx.kept hK3
          clear hRz hRq hRx
          go_wp2_with fail
          refine (at_len _ _ _ _ _ _ _ _ 0 _ Hlx.out rfl hmx hm0 hRx1 (hR0.kept hK4)).mono ?_
          rintro e y4 ⟨rfl, hK5⟩
          rw [H2.out]
          go_wp2
          go_ret
          exact ⟨rfl, hK4.trans hK5⟩
end Go.Proofs.Ytgalfkjhogidmaa
