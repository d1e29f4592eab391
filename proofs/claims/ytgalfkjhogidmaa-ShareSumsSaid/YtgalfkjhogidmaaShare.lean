/-
  SHARES IN MEMORY: a share is its place and 32 bytes; keys; strings.
-/
import Derived.Deep.MidRow
import Derived.Test.YtgalfkjhogidmaaFieldT
import Derived.Test.YtgalfkjhogidmaaOwn
import Derived.Test.YtgalfkjhogidmaaRegion
namespace Go.Proofs.Ytgalfkjhogidmaa
open Go.RowKit

/-- a key's cells -/
def kv (s : List UInt8) : Array Value := (bvs s).toArray
theorem kv_size (s : List UInt8) : (kv s).size = s.length := by simp [kv, bvs]
theorem kv_at (s : List UInt8) (i : Nat) (h : i < s.length) : (kv s)[i]? = some (.int .u8 (B8 (Gf.nth s i))) := by
  simp [kv, bvs, h, Gf.nth_lt h]
theorem kv_set (s : List UInt8) (i : Nat) (x : UInt8) : (kv s).setIfInBounds i (.int .u8 (B8 x)) = kv (s.set i x) := by
  simp [kv, bvs, List.map_set]
theorem kv_one (s : List UInt8) : (kv s).all (·.oneCell') = true := by
  rw [Array.all_eq_true_iff_forall_mem]
  intro v hv
  exact bvs_one (l := s) (by simpa [kv] using hv)
/-- a list on its way: what is reckoned so far, 0 behind it -/
def upto (f : Nat → UInt8) (n k : Nat) : List UInt8 := (List.range n).map fun i => if i < k then f i else 0
theorem upto_length (f : Nat → UInt8) (n k : Nat) : (upto f n k).length = n := by simp [upto]
theorem upto_set (f : Nat → UInt8) (n k : Nat) (_h : k < n) : (upto f n k).set k (f k) = upto f n (k + 1) := by
  apply List.ext_getElem (by simp [upto])
  intro i h1 h2
  simp only [List.getElem_set, upto, List.getElem_map, List.getElem_range]
  split
  · subst_vars; rw [if_pos (by omega)]
  · by_cases hi : i < k
    · rw [if_pos hi, if_pos (by omega)]
    · rw [if_neg hi, if_neg (by omega)]
theorem upto_all (f : Nat → UInt8) (n : Nat) : upto f n n = (List.range n).map f := by
  apply List.ext_getElem (by simp [upto])
  intro i h1 h2
  have : i < n := by simpa using h2
  simp [upto, this]
/-- 32 bytes -/
def fun32 (f : Nat → UInt8) : List UInt8 := (List.range 32).map f
theorem fun32_length (f : Nat → UInt8) : (fun32 f).length = 32 := by simp [fun32]
theorem fun32_nth (f : Nat → UInt8) (i : Nat) (h : i < 32) : Gf.nth (fun32 f) i = f i := by
  rw [Gf.nth_lt (by rw [fun32_length]; exact h)]
  simp [fun32]
theorem upto_32 (f : Nat → UInt8) : upto f 32 32 = fun32 f := upto_all f 32
theorem list32 {l : List UInt8} (h : l.length = 32) : fun32 (Gf.nth l) = l := by
  apply List.ext_getElem (by rw [fun32_length, h])
  intro i h1 h2
  rw [← Gf.nth_lt h2]
  simp [fun32]
theorem fun32_ext {f g : Nat → UInt8} (h : ∀ i, i < 32 → f i = g i) : fun32 f = fun32 g := by
  unfold fun32
  exact List.map_congr_left fun i hi => h i (by simpa using hi)
theorem upto_zero (f : Nat → UInt8) (n : Nat) : upto f n 0 = List.replicate n 0 := by
  apply List.ext_getElem (by simp [upto])
  intro i h1 h2
  simp [upto]
/-- a text -/
def bs (z : List UInt8) : ByteArray := ⟨z.toArray⟩
theorem bs_size (z : List UInt8) : (bs z).size = z.length := by simp [bs, ByteArray.size]

abbrev Sh := UInt8 × List UInt8
/-- a share's cells -/
def shc (s : Sh) : List Value := .int .u8 (B8 s.1) :: bvs s.2
def good (s : Sh) : Prop := s.2.length = 32

/-- polynomials: of each byte of the secret the coefficients -/
def co (s z : List UInt8) (i : Nat) : List UInt8 := [Gf.nth s i, Gf.nth z i, Gf.nth z (32 + i)]
/-- the place of share j -/
def xat (j : Nat) : UInt8 := UInt8.ofNat (j + 1)
theorem B8_xat (j : Nat) (h : j < 255) : B8 (xat j) = (j : Int) + 1 := by unfold xat; rw [B8_of _ (by omega)]; omega
def dat (s z : List UInt8) (j i : Nat) : UInt8 := Gf.eval (co s z i) (xat j)
def share (s z : List UInt8) (j : Nat) : Sh := (xat j, fun32 (dat s z j))
def shares (s z : List UInt8) (n : Nat) : List Sh := (List.range n).map (share s z)
theorem shares_length (s z : List UInt8) (n : Nat) : (shares s z n).length = n := by simp [shares]

/-- block g holds so many shares; share j is X j and D j 0, D j 1, .. -/
def Shs (w : World) (g n : Nat) (X : Nat → UInt8) (D : Nat → Nat → UInt8) : Prop :=
  ∃ cs : Array Value, w.heap[g]? = some (.cells cs 34 (0, 0)) ∧ cs.size = n * 33 ∧
    ∀ j, j < n → cs[j * 33]? = some (.int .u8 (B8 (X j))) ∧ ∀ i, i < 32 → cs[j * 33 + 1 + i]? = some (.int .u8 (B8 (D j i)))
section
variable {w w' : World} {g n : Nat} {X : Nat → UInt8} {D : Nat → Nat → UInt8}
theorem Shs.lt (h : Shs w g n X D) : g < w.heap.size := by
  obtain ⟨cs, h1, _⟩ := h
  exact (Array.getElem?_eq_some_iff.1 h1).1
theorem Shs.cellX (h : Shs w g n X D) {j : Nat} (hj : j < n) : w.cell? ⟨g, j * 33, none⟩ = some (.int .u8 (B8 (X j))) := by
  obtain ⟨cs, h1, _, h2⟩ := h
  rw [cell_of_row w g _ cs _ _ h1]
  exact (h2 j hj).1
theorem Shs.cellD (h : Shs w g n X D) {j i : Nat} (hj : j < n) (hi : i < 32) : w.cell? ⟨g, j * 33 + 1 + i, none⟩ = some (.int .u8 (B8 (D j i))) := by
  obtain ⟨cs, h1, _, h2⟩ := h
  rw [cell_of_row w g _ cs _ _ h1]
  exact (h2 j hj).2 i hi
theorem Shs.frozen (h : Shs w g n X D) (o : Nat) : w.frozen? ⟨g, o, none⟩ = false := by
  obtain ⟨cs, h1, _⟩ := h
  exact frozen_of_row w g o cs _ h1
theorem Shs.kept (h : Shs w g n X D) (hk : Kept w w') : Shs w' g n X D := by
  have hl := h.lt
  obtain ⟨cs, h1, h2⟩ := h
  exact ⟨cs, (hk.block g hl).trans h1, h2⟩
theorem Shs.congr {X' : Nat → UInt8} {D' : Nat → Nat → UInt8} (h : Shs w g n X D) (hX : ∀ j, j < n → X j = X' j) (hD : ∀ j i, j < n → i < 32 → D j i = D' j i) : Shs w g n X' D' := by
  obtain ⟨cs, h1, h2, h3⟩ := h
  exact ⟨cs, h1, h2, fun j hj => ⟨by rw [← hX j hj]; exact (h3 j hj).1, fun i hi => by rw [← hD j i hj hi]; exact (h3 j hj).2 i hi⟩⟩
theorem Shs.setX (h : Shs w g n X D) {j : Nat} (hj : j < n) (x : UInt8) : Shs (w.setCell ⟨g, j * 33, none⟩ (.int .u8 (B8 x))) g n (fun k => if k = j then x else X k) D := by
  obtain ⟨cs, h1, h2, h3⟩ := h
  refine ⟨cs.setIfInBounds (j * 33) (.int .u8 (B8 x)), heap_setCell_same w g _ cs _ _ h1, by simpa using h2, fun k hk => ⟨?_, fun i hi => ?_⟩⟩
  · show _ = some (Value.int .u8 (B8 (if k = j then x else X k)))
    by_cases e : k = j
    · subst e
      rw [if_pos rfl, Array.getElem?_setIfInBounds_self_of_lt (by omega)]
    · rw [if_neg e, Array.getElem?_setIfInBounds_ne (by omega)]
      exact (h3 k hk).1
  · rw [Array.getElem?_setIfInBounds_ne (by omega)]
    exact (h3 k hk).2 i hi
theorem Shs.setD (h : Shs w g n X D) {j i : Nat} (hj : j < n) (hi : i < 32) (x : UInt8) :
    Shs (w.setCell ⟨g, j * 33 + 1 + i, none⟩ (.int .u8 (B8 x))) g n X (fun k l => if k = j ∧ l = i then x else D k l) := by
  obtain ⟨cs, h1, h2, h3⟩ := h
  refine ⟨cs.setIfInBounds (j * 33 + 1 + i) (.int .u8 (B8 x)), heap_setCell_same w g _ cs _ _ h1, by simpa using h2, fun k hk => ⟨?_, fun l hl => ?_⟩⟩
  · rw [Array.getElem?_setIfInBounds_ne (by omega)]
    exact (h3 k hk).1
  · show _ = some (Value.int .u8 (B8 (if k = j ∧ l = i then x else D k l)))
    by_cases e : k = j ∧ l = i
    · obtain ⟨rfl, rfl⟩ := e
      rw [if_pos ⟨rfl, rfl⟩, Array.getElem?_setIfInBounds_self_of_lt (by omega)]
    · rw [if_neg e, Array.getElem?_setIfInBounds_ne (by omega)]
      exact (h3 k hk).2 l hl
end

theorem split_bad (s z : List UInt8) (n : Int) (w : World) (h : n < 3 ∨ 255 < n ∨ z.length ≠ 64) :
    Calls Try.prog 19 #[.agg (kv s), .int .i64 n, .string (bs z)] w fun e w' => e = .returned (.tuple #[.slice none 0 0, .int .i64 1]) ∧ Kept w w' := by
  have hz := bs_size z
  by_cases h1 : n < 3
  · go_enter Try.func19, Try.ntmps19
    go_wp2
    go_ret2
    exact ⟨rfl, (Kept.refl _).alloc _⟩
  by_cases h2 : 255 < n
  · go_enter Try.func19, Try.ntmps19
    go_wp2
    go_ret2
    exact ⟨rfl, (Kept.refl _).alloc _⟩
  have h3 : ((z.length : Int) != 64) = true := by simp; omega
  go_enter Try.func19, Try.ntmps19
  go_wp2
  go_ret2
  exact ⟨rfl, (Kept.refl _).alloc _⟩

/-- one byte of an array of bytes, by value -/
theorem index_bytes {P : Program} {t e : TypeId} {n : Nat} (ht : P.underlying t = some (.array n e)) (he : P.underlying e = some (.int .u8)) (hi : (P.info? e).map (·.size) = some 1) (s : List UInt8) (hs : s.length = n) (k : Nat) (hk : k < n) (hn : n ≤ 1000) (w : World) :
    (Instr.index t (.agg (kv s)) (.int .i64 (k : Int))).run P w = .ok (.int .u8 (B8 (Gf.nth s k))) w := by
  have hw : IntKind.i64.wrap (k : Int) = k := by rw [IntKind.wrap_i64]; omega
  have ha : (isAgg e).run P w = .ok false w := by simp [isAgg, run_underlying he]
  have hz : (sizeOf e).run P w = .ok 1 w := by
    obtain ⟨i, hi1, hi2⟩ := Option.map_eq_some_iff.1 hi
    simp [sizeOf, typeInfo, hi1, hi2]
  have h2 : (k : Int) < (n : Int) := by omega
  have h3 := kv_at s k (by omega)
  simp only [Instr.index, asIntOf, Sem.run_bind, Sem.run_pure, Result.andThen_ok, run_underlying ht]
  simp [h2, hz, Go.part, ha, h3]
theorem index_text {P : Program} {t : TypeId} (ht : P.underlying t = some .string) (z : List UInt8) (k : Nat) (hk : k < z.length) (hz : z.length ≤ 1000000) (w : World) :
    (Instr.index t (.string (bs z)) (.int .i64 (k : Int))).run P w = .ok (.int .u8 (B8 (Gf.nth z k))) w := by
  have hw : IntKind.i64.wrap (k : Int) = k := by rw [IntKind.wrap_i64]; omega
  have h3 : (bs z)[k]? = some (Gf.nth z k) := by
    rw [Gf.nth_lt hk]
    have hk' : k < (bs z).size := by rw [bs_size]; exact hk
    rw [getElem?_pos (bs z) k hk']
    rfl
  simp only [Instr.index, asIntOf, Sem.run_bind, Sem.run_pure, Result.andThen_ok, run_underlying ht]
  simp [h3, B8]
theorem keysize : (Try.prog.info? 23).map (·.size) = some 32 := by kernel_rfl
theorem bytesize : (Try.prog.info? 5).map (·.size) = some 1 := by kernel_rfl

theorem madeCells_const (k m : Nat) (v : Value) (hk : 0 < k) : madeCells (Array.replicate k v) m = Array.replicate m v := by
  unfold madeCells
  apply Array.ext (by simp)
  intro i h1 h2
  have : i % k < k := Nat.mod_lt _ hk
  simp [this]
/-- new slices, their elements all one value over and over -/
theorem make_const {P : Program} {t e : TypeId} {k bytes : Nat} {z v : Value} (ht : P.underlying t = some (.slice e)) (hi : (P.info? e).map (fun i => (i.zero, i.size, i.bytes)) = some (some z, k, bytes)) (hz : z.cells = Array.replicate k v) (hk : 0 < k)
    (n : Nat) (hb : bytes * n ≤ 281474976710656) (hn : n ≤ 1000000) (w : World) :
    (Instr.makeSlice t (.int .i64 (n : Int)) (.int .i64 (n : Int))).run P w = .ok (.slice (some ⟨w.heap.size, 0, none⟩) n n) (w.alloc (.cells (Array.replicate (n * k) v) e)) := by
  obtain ⟨i, hi1, hz1, hsize, hby⟩ := info_parts hi
  subst hsize hby
  have hb' : (i.bytes : Int) * (n : Int) ≤ 281474976710656 := by
    have h : ((i.bytes * n : Nat) : Int) ≤ 281474976710656 := by omega
    rwa [Int.natCast_mul] at h
  have hr := run_make (P := P) w t e i z ht hi1 hz1 .i64 .i64 n n (by omega) (by omega) hb' (by omega)
  simp only [Int.toNat_natCast] at hr
  rw [hz, madeCells_const _ _ _ hk] at hr
  exact hr
theorem shareinfo : (Try.prog.info? 34).map (fun i => (i.zero, i.size, i.bytes)) = some (some (.agg (Array.replicate 33 (.int .u8 0))), 33, 33) := by kernel_rfl
def shz (n : Nat) : Array Value := Array.replicate (n * 33) (.int .u8 0)
theorem make_sh (n : Nat) (hn : n ≤ 1000) (w : World) : (Instr.makeSlice 25 (.int .i64 (n : Int)) (.int .i64 (n : Int))).run Try.prog w = .ok (.slice (some ⟨w.heap.size, 0, none⟩) n n) (w.alloc (.cells (shz n) 34)) :=
  make_const Try.underlying25 shareinfo rfl (by decide) n (by omega) (by omega) w
theorem Shs.zero (w : World) (n : Nat) : Shs (w.alloc (.cells (shz n) 34)) w.heap.size n (fun _ => 0) (fun _ _ => 0) := by
  refine ⟨shz n, heap_alloc_new w _, by simp [shz], fun j hj => ⟨?_, fun i hi => ?_⟩⟩
  · have : j * 33 < n * 33 := by omega
    simp [shz, this]
    rfl
  · have : j * 33 + 1 + i < n * 33 := by omega
    simp [shz, this]
    rfl

/-- what Split's memory is on its way -/
structure SpW (w wr : World) (s : List UInt8) (n : Nat) (X : Nat → UInt8) (D : Nat → Nat → UInt8) : Prop where
  kept : Kept w wr
  key : wr.heap[w.heap.size]? = some (.cells (kv s) 23 (0, 0))
  sh : Shs wr (w.heap.size + 1) n X D
theorem SpW.start (w : World) (s : List UInt8) (n : Nat) : SpW w ((w.alloc (.cells (kv s) 23)).alloc (.cells (shz n) 34)) s n (fun _ => 0) (fun _ _ => 0) := by
  refine ⟨((Kept.refl _).alloc _).alloc _, (Below.heap_alloc _ _ _ (by rw [World.size_alloc]; omega)).trans (heap_alloc_new w _), ?_⟩
  have := Shs.zero (w.alloc (.cells (kv s) 23)) n
  rw [World.size_alloc] at this
  exact this
section
variable {w wr wr' : World} {s : List UInt8} {n : Nat} {X : Nat → UInt8} {D : Nat → Nat → UInt8}
theorem SpW.later (h : SpW w wr s n X D) (hk : Kept wr wr') : SpW w wr' s n X D :=
  ⟨h.kept.trans hk, (hk.block _ (by have := h.sh.lt; omega)).trans h.key, h.sh.kept hk⟩
theorem SpW.setX (h : SpW w wr s n X D) {j : Nat} (hj : j < n) (x : UInt8) : SpW w (wr.setCell ⟨w.heap.size + 1, j * 33, none⟩ (.int .u8 (B8 x))) s n (fun k => if k = j then x else X k) D :=
  ⟨Below.setCell h.kept (by show w.heap.size ≤ w.heap.size + 1; omega) _, (Below.heap_setCell wr _ _ _ (by show w.heap.size ≠ w.heap.size + 1; omega)).trans h.key, h.sh.setX hj x⟩
theorem SpW.setD (h : SpW w wr s n X D) {j i : Nat} (hj : j < n) (hi : i < 32) (x : UInt8) :
    SpW w (wr.setCell ⟨w.heap.size + 1, j * 33 + 1 + i, none⟩ (.int .u8 (B8 x))) s n X (fun k l => if k = j ∧ l = i then x else D k l) :=
  ⟨Below.setCell h.kept (by show w.heap.size ≤ w.heap.size + 1; omega) _, (Below.heap_setCell wr _ _ _ (by show w.heap.size ≠ w.heap.size + 1; omega)).trans h.key, h.sh.setD hj hi x⟩
theorem SpW.congr {X' : Nat → UInt8} {D' : Nat → Nat → UInt8} (h : SpW w wr s n X D) (hX : ∀ j, j < n → X j = X' j) (hD : ∀ j i, j < n → i < 32 → D j i = D' j i) : SpW w wr s n X' D' :=
  ⟨h.kept, h.key, h.sh.congr hX hD⟩
end

theorem split_ok (s z : List UInt8) (n : Nat) (w : World) (hs : s.length = 32) (hn : 3 ≤ n) (hn2 : n ≤ 255) (hz : z.length = 64) :
    Calls Try.prog 19 #[.agg (kv s), .int .i64 n, .string (bs z)] w fun e w' =>
      ∃ g, e = .returned (.tuple #[.slice (some ⟨g, 0, none⟩) n n, .int .i64 0]) ∧ Kept w w' ∧ w.heap.size ≤ g ∧ Shs w' g n (fun j => xat j) (fun j i => dat s z j i) := by
  have hz1 := bs_size z
  have h3 : ((z.length : Int) != 64) = false := by rw [hz]; rfl
  have HZ := Lib.hid hz
  clear hz
  have hmk := make_sh n (by omega)
  go_enter Try.func19, Try.ntmps19
  go_wp2_with fail
  go_loopw [29] (fun i wr => ∃ k : Nat, k ≤ n ∧ i = .int .i64 k ∧ SpW w wr s n (fun j => if j < k then xat j else 0) (fun _ _ => 0)) (fun i _ => n - (intOf i).toNat)
  case atStart => exact ⟨0, Nat.zero_le _, rfl, (SpW.start w s n).congr (fun j _ => by simp) (fun _ _ _ _ => rfl)⟩
  case round =>
    obtain ⟨k, hk, rfl, hS⟩ := hrel
    by_cases hlt : k < n
    · have hc1 := hS.sh.cellX hlt
      have hf := hS.sh.frozen (k * 33)
      have hS2 := hS.setX hlt (xat k)
      rw [B8_xat _ (by omega)] at hS2
      go_wp2
      go_roundw
      case rel => exact ⟨k + 1, by omega, by go_num, hS2.congr (fun j hj => by
        by_cases e : j = k
        · subst e; simp
        · simp only [if_neg e]
          by_cases h : j < k
          · rw [if_pos h, if_pos (by omega)]
          · rw [if_neg h, if_neg (by omega)]) (fun _ _ _ _ => rfl)⟩
      case measure => simp [intOf]; omega
    · have hS3 := hS.congr (X' := fun j => xat j) (D' := fun _ _ => 0) (fun j hj => by rw [if_pos (by omega)]) (fun _ _ _ _ => rfl)
      clear hS
      obtain ⟨wo, hwo⟩ : ∃ wo : World, wo = wr := ⟨_, rfl⟩
      rw [← hwo] at hS3 ⊢
      clear hwo
      go_wp2_with (refine wpList_load_row rfl 23 _ rfl w.heap.size rfl 23 (kv s) (0, 0) _ hS3.key Try.underlying23 rfl (by rw [kv_size, hs]; exact keysize) ?_)
      go_loopw [41] (fun i wr => ∃ k : Nat, k ≤ 32 ∧ i = .int .i64 k ∧ SpW w wr s n (fun j => xat j) (fun j i => if i < k then dat s z j i else 0)) (fun i _ => 32 - (intOf i).toNat)
      case atStart => exact ⟨0, by omega, rfl, hS3.congr (fun _ _ => rfl) (fun _ _ _ _ => by simp)⟩
      case round =>
        obtain ⟨k, hk, rfl, hS⟩ := hrel
        clear hS3
        by_cases hlt : k < 32
        · have hix1 := index_bytes (P := Try.prog) Try.underlying23 Try.underlying5 bytesize s hs k hlt (by omega)
          have hix2 := index_text (P := Try.prog) Try.underlying9 z k (by rw [HZ.out]; omega) (by rw [HZ.out]; omega)
          have hix3 : ∀ w, (Instr.index 9 (.string (bs z)) (.int .i64 (32 + (k : Int)))).run Try.prog w = .ok (.int .u8 (B8 (Gf.nth z (32 + k)))) w := index_text (P := Try.prog) Try.underlying9 z (32 + k) (by rw [HZ.out]; omega) (by rw [HZ.out]; omega)
          have hb := RdB.new wr.drew (co s z k) 5
          have hSn : SpW w (wr.drew.alloc (.cells (bvs (co s z k)).toArray 5)) s n (fun j => xat j) (fun j i => if i < k then dat s z j i else 0) := hS.later (Below.alloc (Below.drew (Below.refl _ _)) (Nat.le_refl _) _)
          go_wp2_with fail
          go_region
          go_wp2_with fail
          clear hix1 hix2 hix3
          obtain ⟨wa, hwa⟩ : ∃ wa : World, wa = wr := ⟨_, rfl⟩
          have hwag : w.heap.size + 1 < wr.heap.size := hS.sh.lt
          rw [← hwa] at hb hSn hwag ⊢
          clear hwa hS
          go_loopw [56] (fun j wx => ∃ m : Nat, m ≤ n ∧ j = .int .i64 m ∧ RdB wx (some ⟨wa.heap.size, 0, none⟩) (co s z k) ∧ SpW w wx s n (fun j => xat j) (fun j i => if i < k ∨ (i = k ∧ j < m) then dat s z j i else 0)) (fun j _ => n - (intOf j).toNat)
          case atStart => exact ⟨0, Nat.zero_le _, rfl, hb, hSn.congr (fun _ _ => rfl) (fun _ _ _ _ => by simp)⟩
          case round =>
            obtain ⟨m, hm, rfl, hb1, hS1⟩ := hrel
            clear hb hSn
            by_cases hlm : m < n
            · have hc1 : wr.cell? ⟨w.heap.size + 1, m * 33, none⟩ = some (.int .u8 (B8 (xat m))) := hS1.sh.cellX hlm
              obtain ⟨y, hy⟩ : ∃ y, wr.cell? ⟨w.heap.size + 1, m * 33 + 1 + k, none⟩ = some (.int .u8 (B8 y)) := ⟨_, hS1.sh.cellD hlm hlt⟩
              have hf := hS1.sh.frozen (m * 33 + 1 + k)
              have hP := Lib.hid (And.intro hb1 hS1)
              clear hb1 hS1
              have hl3 : (3 : Nat) ≤ maxLen := small_len (by omega)
              go_wp2_with fail
              refine region_tail 13 (by kernel_rfl) (by kernel_rfl) ?_
              simp only [List.take_succ_cons, List.take_zero, List.drop_succ_cons, List.drop_zero]
              repeat (go_big_quiet_step ((go_at_call 31; exact quiet_drawn (eval_len _ 3 _ (co s z k) _ _ rfl hl3 (hP.out.1.kept (Kept.drewN _ _))))))
              refine wpQuiet_nil ?_
              rintro _ ⟨nq, rfl⟩
              go_wp2
              go_roundw
              case rel =>
                have hg : w.heap.size + 1 < wa.heap.size := hwag
                refine ⟨m + 1, by omega, by go_num, (hP.out.1.kept (Kept.drewN _ _)).setCell (by show w.heap.size + 1 ≠ wa.heap.size; omega) _, ?_⟩
                refine ((hP.out.2.later (Kept.drewN _ nq)).setD hlm hlt (Gf.eval (co s z k) (xat m))).congr (fun _ _ => rfl) (fun j i hj hi => ?_)
                by_cases e : j = m ∧ i = k
                · obtain ⟨rfl, rfl⟩ := e
                  rw [if_pos ⟨rfl, rfl⟩, if_pos (by omega)]
                  rfl
                · rw [if_neg e]
                  by_cases h : i < k ∨ (i = k ∧ j < m)
                  · rw [if_pos h, if_pos (by omega)]
                  · rw [if_neg h, if_neg (by omega)]
              case measure => simp [intOf]; omega
            · have hSe := hS1.congr (X' := fun j => xat j) (D' := fun j i => if i < k + 1 then dat s z j i else 0) (fun _ _ => rfl) (fun j i hj hi => by
                by_cases h : i < k + 1
                · rw [if_pos h, if_pos (by omega)]
                · rw [if_neg h, if_neg (by omega)])
              clear hS1 hb1
              go_wp2
              go_roundw
              case rel => exact ⟨k + 1, by omega, by go_num, hSe⟩
              case measure => simp [intOf]; omega
        · go_wp2
          go_ret2
          exact ⟨_, rfl, hS.kept, by omega, hS.sh.congr (fun _ _ => rfl) (fun j i hj hi => by rw [if_pos (by omega)])⟩
end Go.Proofs.Ytgalfkjhogidmaa
