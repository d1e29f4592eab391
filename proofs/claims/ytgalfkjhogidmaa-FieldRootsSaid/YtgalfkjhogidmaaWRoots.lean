/-
  THE WALK of the law FieldRoots.
-/
import Derived.Test.YtgalfkjhogidmaaWThrough
import Derived.BigRegion
import Derived.RegionTactic
namespace Go.Proofs.Ytgalfkjhogidmaa
open Go.RowKit

def zer (l : List UInt8) (k : Nat) : Nat := ((List.range k).filter fun i => Gf.eval l (UInt8.ofNat i) == 0).length
theorem zer_yes (l : List UInt8) (k : Nat) (h : Gf.eval l (UInt8.ofNat k) = 0) : zer l (k + 1) = zer l k + 1 := by
  simp [zer, List.range_succ, h]
theorem zer_no (l : List UInt8) (k : Nat) (h : Gf.eval l (UInt8.ofNat k) ≠ 0) : zer l (k + 1) = zer l k := by
  simp [zer, List.range_succ, h]
theorem zer_le (l : List UInt8) (k : Nat) : zer l k ≤ k := by
  have := List.length_filter_le (fun i => Gf.eval l (UInt8.ofNat i) == 0) (List.range k)
  rwa [List.length_range] at this
def isz (l : List UInt8) (k : Nat) : Bool := (l.take k).all (· == 0)
theorem isz_succ (l : List UInt8) (k : Nat) (h : k < l.length) : isz l (k + 1) = (isz l k && Gf.nth l k == 0) := by
  unfold isz
  rw [List.take_succ_eq_append_getElem h, Gf.nth_lt h, List.all_append]
  simp
theorem isz_all {l : List UInt8} (h : isz l l.length = true) : ∀ c ∈ l, c = 0 := by
  simpa [isz] using h
theorem zer_all {l : List UInt8} (h : isz l l.length = true) : zer l 256 = 256 := by
  have : ((List.range 256).filter fun i => Gf.eval l (UInt8.ofNat i) == 0) = List.range 256 := by
    rw [List.filter_eq_self]
    intro i _
    rw [Gf.eval_zero_ l _ (isz_all h)]
    rfl
  unfold zer
  rw [this, List.length_range]
theorem zer_few {l : List UInt8} (h : isz l l.length = false) : zer l 256 < l.length := by
  rcases Nat.lt_or_ge (zer l 256) l.length with hlt | hge
  · exact hlt
  · exfalso
    have hz := Gf.roots l (((List.range 256).filter fun i => Gf.eval l (UInt8.ofNat i) == 0).map UInt8.ofNat) ?_ ?_ (by simpa [zer] using hge)
    · have : isz l l.length = true := by simpa [isz] using hz
      rw [this] at h
      cases h
    · exact List.Nodup.sublist (List.Sublist.map _ List.filter_sublist) (by decide +kernel)
    · intro x hx
      simp only [List.mem_map, List.mem_filter] at hx
      obtain ⟨i, ⟨_, hi⟩, rfl⟩ := hx
      simpa using hi
def xorTo (a b : List UInt8) (k : Nat) : List UInt8 := (List.range a.length).map fun i => if i < k then Gf.nth a i ^^^ Gf.nth b i else Gf.nth a i
theorem xorTo_length (a b : List UInt8) (k : Nat) : (xorTo a b k).length = a.length := by simp [xorTo]
theorem xorTo_zero (a b : List UInt8) : xorTo a b 0 = a := by
  apply List.ext_getElem (by simp [xorTo])
  intro i h1 h2
  simp [xorTo, Gf.nth_lt h2]
theorem xorTo_succ (a b : List UInt8) (k : Nat) (h : k < a.length) : (xorTo a b k).set k (Gf.nth a k ^^^ Gf.nth b k) = xorTo a b (k + 1) := by
  apply List.ext_getElem (by simp [xorTo])
  intro i h1 h2
  simp only [List.getElem_set, xorTo, List.getElem_map, List.getElem_range]
  split
  · subst_vars; rw [if_pos (by omega)]
  · by_cases hi : i < k
    · rw [if_pos hi, if_pos (by omega)]
    · rw [if_neg hi, if_neg (by omega)]
theorem xorTo_at (a b : List UInt8) (k : Nat) (h : k < a.length) : Gf.nth (xorTo a b k) k = Gf.nth a k := by
  rw [Gf.nth_lt (by rw [xorTo_length]; exact h)]
  simp [xorTo]
theorem padd_at (a b : List UInt8) (h : a.length = b.length) (i : Nat) (hi : i < a.length) : Gf.nth (Gf.padd a b) i = Gf.nth a i ^^^ Gf.nth b i := by
  induction a generalizing b i with
  | nil => simp at hi
  | cons x a ih =>
    cases b with
    | nil => simp at h
    | cons y b =>
      cases i with
      | zero => simp [Gf.padd, Gf.nth]
      | succ i =>
        have := ih b (by simpa using h) i (by simpa using hi)
        simpa [Gf.padd, Gf.nth] using this
theorem xorTo_all (a b : List UInt8) (h : a.length = b.length) : xorTo a b a.length = Gf.padd a b := by
  apply List.ext_getElem (by rw [xorTo_length, Gf.padd_length]; omega)
  intro i h1 h2
  have hi : i < a.length := by rw [xorTo_length] at h1; exact h1
  have := padd_at a b h i hi
  rw [Gf.nth_lt h2] at this
  rw [this]
  simp [xorTo, hi]
theorem eval_sum (a b : List UInt8) (h : a.length = b.length) (x : UInt8) : Gf.eval (xorTo a b a.length) x = Gf.eval a x ^^^ Gf.eval b x := by
  rw [xorTo_all a b h, Gf.eval_padd]
theorem bvs_set (l : List UInt8) (k : Nat) (x : UInt8) : (bvs l).set k (.int .u8 (B8 x)) = bvs (l.set k x) := by
  simp [bvs, List.map_set]

theorem own_stored {w : World} {B T sz g n c : Nat} {xs : List Value} (h : w.ownsRow B T sz (.slice (some ⟨g, 0, none⟩) n c) n xs) (j : Nat) (u : Value) :
    (w.setCell ⟨g, j, none⟩ u).ownsRow B T sz (.slice (some ⟨g, 0, none⟩) n c) n (xs.set j u) := (h.stored j u).1

set_option maxRecDepth 20000 in
set_option maxHeartbeats 1000000 in
theorem fieldRoots_walk (w : World) (v0 v1 v2 : Value) (x0 x1 : List UInt8) (x2 : UInt8) (h0 : Ty.Val w (.sl .u8) v0 x0) (h1 : Ty.Val w (.sl .u8) v1 x1) (h2 : Ty.Val w .u8 v2 x2) :
    Calls Try.prog 12 #[v0, v1, v2] w fun e w' => e = .returned (.bool true) ∧ Kept w w' := by
  obtain ⟨A, c, rfl, hm0, _, hR0⟩ := bytes_in h0
  obtain ⟨B, d, rfl, hm1, _, hR1⟩ := bytes_in h1
  obtain rfl : v2 = .int .u8 (B8 x2) := by injection h2
  clear h0 h1 h2
  have hn0 := hm0
  have hn1 := hm1
  unfold maxLen at hn0 hn1
  by_cases c0 : 12 < x0.length
  · go_enter Try.func12, Try.ntmps12
    go_wp2_with (go_at_call 24; refine (alive05 _).mono ?_; rintro e w1 ⟨rfl, hK⟩)
    go_ret
    exact ⟨rfl, hK⟩
  by_cases c1 : x0.length = x1.length
  · have c2 : ((x0.length : Int) != (x1.length : Int)) = false := by rw [c1]; simp
    have HL := Lib.hid c1
    clear c1
    have hn2 : x1.length ≤ 12 := by rw [← HL.out]; omega
    go_enter Try.func12, Try.ntmps12
    go_wp2_with (first
      | (go_at_call 24; refine (alive05 _).mono ?_; rintro e w1 ⟨rfl, hK⟩; have hO1 : (w1.alloc (.cells #[] 5)).ownsRow w.heap.size 5 1 (.slice (some ⟨w1.heap.size, 0, none⟩) 0 0) 0 (bvs []) := bytes_lit w1 [] _ _ hK.size (small_len (by simp)); have hRa := (hR0.kept (hK.alloc (.cells #[] 5))).cells)
      | (at_builtin; refine wpList_cat rfl _ _ _ rfl Try.underlying32 byteinfo rfl (by decide) rfl rfl hO1 (by rw [World.size_alloc]; have := hK.size; omega) (by rw [bvs_length, Nat.mul_one]) hRa (fun _ => bvs_one) (small_len (by omega)) (by omega) ?_; intro v' w' hP; have hKw := hP.kept (hK.alloc _) hO1 (Nat.le_refl _); have hX := hP.own; rw [bvs_append, Nat.zero_add] at hX; clear hP hO1 hRa; obtain ⟨Sa, Sc, rfl, _⟩ := bytes_own hX))
    have hX0 : w'.ownsRow w.heap.size 5 1 (.slice Sa x0.length Sc) x0.length (bvs (xorTo x0 x1 0)) := by rw [xorTo_zero]; exact hX
    clear hX
    go_loopw [7, 29] (fun z i wr => ∃ k : Nat, k ≤ x0.length ∧ i = .int .i64 k ∧ z = .bool (isz x0 k) ∧ wr.ownsRow w.heap.size 5 1 (.slice Sa x0.length Sc) x0.length (bvs (xorTo x0 x1 k)) ∧ Kept w wr) (fun _ i _ => x0.length - (intOf i).toNat)
    case atStart => exact ⟨0, Nat.zero_le _, rfl, rfl, hX0, hKw⟩
    case round =>
      obtain ⟨k, hk, rfl, rfl, hX, hKr⟩ := hrel
      clear hX0 hKw hK
      by_cases hlt : k < x0.length
      · obtain ⟨b, o, rfl, hc⟩ := (hR0.kept hKr).op (by omega)
        obtain ⟨b2, o2, rfl, hc'⟩ := (hR1.kept hKr).op (by rw [← HL.out]; omega)
        have hlt2 : k < x1.length := by rw [← HL.out]; exact hlt
        have hc1 := hc k hlt
        have hc2 := hc' k hlt2
        clear hc hc'
        obtain ⟨g, cap, ev⟩ := Go.Joins.ownsRow_form hX (by omega)
        injection ev with ev1 ev2 ev3
        subst ev1
        clear ev2 ev3
        have hc3 : wr.cell? ⟨g, k, none⟩ = some (.int .u8 (B8 (Gf.nth x0 k))) := by
          rw [hX.cellAt k (by omega), ← xorTo_at x0 x1 k hlt, Gf.nth_lt (by rw [xorTo_length]; exact hlt)]
          simp [bvs, xorTo_length, hlt]
        have hf := hX.frozenAt k
        have hx := bits_xor8 (Gf.nth x0 k) (Gf.nth x1 k)
        have HS := Lib.hid (isz_succ x0 k hlt)
        have hX2 := own_stored hX k (.int .u8 (B8 (Gf.nth x0 k ^^^ Gf.nth x1 k)))
        rw [bvs_set, xorTo_succ x0 x1 k hlt] at hX2
        have hKs : Kept w (wr.setCell ⟨g, k, none⟩ (.int .u8 (B8 (Gf.nth x0 k ^^^ Gf.nth x1 k)))) := Below.setCell hKr (by have := hX.lt g rfl; exact this.1) _
        clear hX
        generalize Gf.nth x0 k = p at *
        generalize Gf.nth x1 k = q at *
        cases hz : isz x0 k
        · rw [hz] at HS
          clear hz
          go_wp2_with fail
          go_region
          go_wp2
          go_roundw
          case rel => exact ⟨k + 1, by omega, by go_num, by rw [HS.out]; rfl, hX2.drew, Below.drew hKs⟩
          case measure => simp [intOf]; omega
        · rw [hz] at HS
          clear hz
          by_cases hp : p = 0
          · have hp1 := b8_eq (y := 0) hp
            have hp2 : (B8 p == 0) = true := hp1
            have HP := Lib.hid hp
            clear hp hp1
            go_wp2_with fail
            go_region
            go_wp2
            go_roundw
            case rel => exact ⟨k + 1, by omega, by go_num, by rw [HS.out, HP.out]; rfl, hX2.drew, Below.drew hKs⟩
            case measure => simp [intOf]; omega
          · have hp1 := b8_eq' (y := 0) hp
            have hp2 : (B8 p == 0) = false := hp1
            have HP : Hid ((true && p == 0) = false) := Lib.hid (by simpa using hp)
            clear hp hp1
            go_wp2_with fail
            go_region
            go_wp2
            go_roundw
            case rel => exact ⟨k + 1, by omega, by go_num, by rw [HS.out, HP.out], hX2.drew, Below.drew hKs⟩
            case measure => simp [intOf]; omega
      · have hkn : k = x0.length := by omega
        subst hkn
        have HE := Lib.hid (eval_sum x0 x1 HL.out x2)
        have HS1 := Lib.hid (zer_all (l := x0))
        have HS2 := Lib.hid (zer_few (l := x0))
        generalize isz x0 x0.length = z at *
        obtain ⟨wo, hwo⟩ : ∃ wo : World, wo = wr := ⟨_, rfl⟩
        rw [← hwo] at hX hKr ⊢
        clear hwo
        have HX := Lib.hid hX
        clear hX
        go_wp2_with fail
        go_loopw [8, 51] (fun n i wr => ∃ k : Nat, k ≤ 256 ∧ i = .int .i64 k ∧ n = .int .i64 (zer x0 k) ∧ Drawn wo wr) (fun _ i _ => 256 - (intOf i).toNat)
        case atStart => exact ⟨0, by omega, rfl, rfl, Drawn.refl _⟩
        case round =>
          obtain ⟨k, hk, rfl, rfl, hD⟩ := hrel
          by_cases hlt : k < 256
          · have h1 := wrap_u8_nat k
            have hzk := zer_le x0 k
            by_cases hev : Gf.eval x0 (UInt8.ofNat k) = 0
            · have e1 : (B8 (Gf.eval x0 (UInt8.ofNat k)) == 0) = true := b8_eq (y := 0) hev
              have HZ := Lib.hid (zer_yes x0 k hev)
              clear hev
              go_wp2_with (go_at_call 31; refine (eval_any _ _ _ _ _ hm0 (hR0.kept (hKr.trans hD.kept))).mono ?_; rintro e w5 ⟨rfl, hD2⟩)
              go_roundw
              case rel => exact ⟨k + 1, by omega, by go_num, by rw [HZ.out]; go_num, hD.trans hD2⟩
              case measure => simp [intOf]; omega
            · have e1 : (B8 (Gf.eval x0 (UInt8.ofNat k)) == 0) = false := b8_eq' (y := 0) hev
              have HZ := Lib.hid (zer_no x0 k hev)
              clear hev
              go_wp2_with (go_at_call 31; refine (eval_any _ _ _ _ _ hm0 (hR0.kept (hKr.trans hD.kept))).mono ?_; rintro e w5 ⟨rfl, hD2⟩)
              go_roundw
              case rel => exact ⟨k + 1, by omega, by go_num, by rw [HZ.out], hD.trans hD2⟩
              case measure => simp [intOf]; omega
          · have hk6 : k = 256 := by omega
            subst hk6
            obtain ⟨Ra, Rc, ev, hlr, hmr, hRr⟩ := bytes_own HX.out
            injection ev with ev1 ev2 ev3
            subst ev1
            have HL2 := Lib.hid hlr
            have hRr2 := hRr.kept hD.kept
            have hK5 := hKr.trans hD.kept
            have hx := bits_xor8 (Gf.eval x0 x2) (Gf.eval x1 x2)
            clear hlr ev2 ev3 hRr hD hKr
            cases z
            · have hm := HS2.out rfl
              clear HS1 HS2
              generalize zer x0 256 = m at *
              go_wp2_with fail
              refine (eval_len _ _ _ _ _ _ HL2.out hmr hRr2).mono ?_
              rintro e y1 ⟨rfl, hD1⟩
              rw [HE.out]
              have hK6 := hK5.trans hD1.kept
              clear hRr2 hK5 hD1
              have he := b8_eq (x := Gf.eval x0 x2 ^^^ Gf.eval x1 x2) rfl
              go_wp2_with fail
              refine (eval_any _ _ _ _ _ hm0 (hR0.kept hK6)).mono ?_
              rintro e y2 ⟨rfl, hD2⟩
              have hK7 := hK6.trans hD2.kept
              clear hK6 hD2
              go_wp2_with fail
              refine (eval_any _ _ _ _ _ hm1 (hR1.kept hK7)).mono ?_
              rintro e y3 ⟨rfl, hD3⟩
              go_wp2
              go_ret
              exact ⟨rfl, hK7.trans hD3.kept⟩
            · have hm : ((zer x0 256 : Int) == 256) = true := by rw [HS1.out rfl]; rfl
              clear HS1 HS2
              generalize zer x0 256 = m at *
              go_wp2_with fail
              refine (eval_len _ _ _ _ _ _ HL2.out hmr hRr2).mono ?_
              rintro e y1 ⟨rfl, hD1⟩
              rw [HE.out]
              have hK6 := hK5.trans hD1.kept
              clear hRr2 hK5 hD1
              have he := b8_eq (x := Gf.eval x0 x2 ^^^ Gf.eval x1 x2) rfl
              go_wp2_with fail
              refine (eval_any _ _ _ _ _ hm0 (hR0.kept hK6)).mono ?_
              rintro e y2 ⟨rfl, hD2⟩
              have hK7 := hK6.trans hD2.kept
              clear hK6 hD2
              go_wp2_with fail
              refine (eval_any _ _ _ _ _ hm1 (hR1.kept hK7)).mono ?_
              rintro e y3 ⟨rfl, hD3⟩
              go_wp2
              go_ret
              exact ⟨rfl, hK7.trans hD3.kept⟩
  · have c2 : ((x0.length : Int) != (x1.length : Int)) = true := by simp; omega
    go_enter Try.func12, Try.ntmps12
    go_wp2_with (go_at_call 24; refine (alive05 _).mono ?_; rintro e w1 ⟨rfl, hK⟩)
    go_ret
    exact ⟨rfl, hK⟩
end Go.Proofs.Ytgalfkjhogidmaa
