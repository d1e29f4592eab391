/-
  A MACHINE OF VALUES, TWENTY-FIRST PART: words for walks.
-/
import Derived.Test.YtndbfphmjmhkjaaVtab
set_option linter.unusedVariables false
set_option linter.unusedSimpArgs false
namespace Go.Proofs.Ytndbfphmjmhkjaa.V
open Go

/-! ### answers read -/
section
variable (H : Heap)
theorem rdt_t (vs ds : List VV) : RdT H (.tup vs) (.tup ds) = RdL H vs ds := by
  apply propext
  constructor
  · rintro ⟨ds', h, h'⟩
    injection h with h
    subst h
    exact h'
  · intro h
    exact ⟨ds, rfl, h⟩
theorem rdt_i (k : IntKind) (a b : Int) : RdT H (.int k a) (.int k b) = (a = b) := by simp [RdT, Rd, nl, eq_comm]
theorem rdt_b (a b : Bool) : RdT H (.bool a) (.bool b) = (a = b) := by simp [RdT, Rd, nl, eq_comm]
theorem rdt_s (a b : List UInt8) : RdT H (.str a) (.str b) = (a = b) := by simp [RdT, Rd, nl, eq_comm]
theorem rdt_a (vs ds : List VV) : RdT H (.agg vs) (.agg ds) = RdL H vs ds := by
  apply propext
  simp only [RdT,Rd]
  constructor
  · rintro ⟨ds', h, h'⟩
    injection h with h
    subst h
    exact h'
  · intro h
    exact ⟨ds, rfl, h⟩
theorem rd_i (k : IntKind) (a b : Int) : Rd H (.int k a) (.int k b) = (a = b) := by simp [Rd, nl, eq_comm]
theorem rd_b (a b : Bool) : Rd H (.bool a) (.bool b) = (a = b) := by simp [Rd, nl, eq_comm]
theorem rd_s (a b : List UInt8) : Rd H (.str a) (.str b) = (a = b) := by simp [Rd, nl, eq_comm]
theorem rd_a (vs ds : List VV) : Rd H (.agg vs) (.agg ds) = RdL H vs ds := by
  apply propext
  simp only [Rd]
  constructor
  · rintro ⟨ds', h, h'⟩
    injection h with h
    subst h
    exact h'
  · intro h
    exact ⟨ds, rfl, h⟩
theorem rdl_c (v d : VV) (vs ds : List VV) : RdL H (v :: vs) (d :: ds) = (Rd H v d ∧ RdL H vs ds) := by
  apply propext
  simp only [RdL]
  constructor
  · rintro ⟨d', ds', h, h1, h2⟩
    injection h with h h'
    subst h h'
    exact ⟨h1, h2⟩
  · rintro ⟨h1, h2⟩
    exact ⟨d, ds, rfl, h1, h2⟩
theorem rdl_n : RdL H [] [] = True := by simp [RdL]
end
theorem rd_dat {H : Heap} {s : Sh} {a b : List VV} (hn : nls a = true) (h : a = b) : Rd H (.dat s a) (.dat s b) := by subst h; simp only [Rd]; exact ⟨by simpa only [nl] using hn, trivial⟩
theorem rd_own {H : Heap} {m k : Nat} {e : Sh} {els els' : List VV} {n : Nat} (h : H m = some (.row (.arr k e) (.agg els))) (hn : n = els.length) (he : els = els') (hl : nls els' = true) : Rd H (.sl (some (m, [], 0)) n) (.dat e els') := by
  subst he; exact rd_row h hn hl
theorem rd_nil {H : Heap} {e : Sh} : Rd H (.sl none 0) (.dat e []) := by simp only [Rd]; exact .inr ⟨trivial, e, rfl⟩
theorem rdt_of {H : Heap} {v d : VV} (h : Rd H v d) (hv : notTup v = true) : RdT H v d := by
  cases v <;> first | exact h | simp [notTup] at hv
/-! ### names of data -/
theorem nls_q {l : List VV} (h : nls l = true) : nls l = true := h
theorem nls_nil : nls [] = true := rfl
theorem nls_cons (v : VV) (l : List VV) : nls (v :: l) = (nl v && nls l) := rfl
theorem nls_append : ∀ (a b : List VV), nls (a ++ b) = (nls a && nls b)
  | [], b => by simp [nls]
  | v :: a, b => by simp [nls, nls_append a b, Bool.and_assoc]
theorem nls_mapStr (l : List (List UInt8)) : nls (l.map .str) = true := nls_map _ (fun _ => rfl) l
theorem nls_mapB (l : List UInt8) : nls (l.map encB) = true := nls_map _ (fun _ => rfl) l
theorem nls_set {l : List VV} {i : Nat} {v : VV} (h : nls l = true) (hv : nl v = true) : nls (l.set i v) = true := by
  rw [nls_iff] at h ⊢
  intro x hx
  rcases List.mem_or_eq_of_mem_set hx with h1 | h1
  · exact h x h1
  · rw [h1]; exact hv
theorem nls_rep {n : Nat} {v : VV} (hv : nl v = true) : nls (List.replicate n v) = true := by
  rw [nls_iff]
  intro x hx
  rw [(List.mem_replicate.1 hx).2]; exact hv
theorem nls_repInt (n : Nat) (k : IntKind) (a : Int) : nls (List.replicate n (.int k a)) = true := nls_rep rfl
theorem nls_repBool (n : Nat) (a : Bool) : nls (List.replicate n (.bool a)) = true := nls_rep rfl
theorem nls_repStr (n : Nat) (a : List UInt8) : nls (List.replicate n (.str a)) = true := nls_rep rfl
theorem some_nat (a b : Nat) : (some a = some b) = (a = b) := by simp
theorem nl_slnil (n : Nat) : nl (.sl none n) = true := rfl
theorem nl_int (k : IntKind) (a : Int) : nl (.int k a) = true := rfl
theorem nl_bool (a : Bool) : nl (.bool a) = true := rfl
theorem nl_str (a : List UInt8) : nl (.str a) = true := rfl
theorem nl_agg (l : List VV) : nl (.agg l) = nls l := by simp only [nl]
theorem nl_dat (s : Sh) (l : List VV) : nl (.dat s l) = nls l := by simp only [nl]
theorem nls_take {l : List VV} (n : Nat) (h : nls l = true) : nls (l.take n) = true := by
  rw [nls_iff] at h ⊢
  exact fun v hv => h v (List.mem_of_mem_take hv)
theorem nls_drop {l : List VV} (n : Nat) (h : nls l = true) : nls (l.drop n) = true := by
  rw [nls_iff] at h ⊢
  exact fun v hv => h v (List.mem_of_mem_drop hv)
theorem has_str (s : List UInt8) : Has .cell (.str s) := by simp [Has, VV.leaf]
theorem has_int (k : IntKind) (s : Int) : Has .cell (.int k s) := by simp [Has, VV.leaf]
theorem has_bool (s : Bool) : Has .cell (.bool s) := by simp [Has, VV.leaf]
theorem has_sl (p : Option (Nat × List Nat × Nat)) (n : Nat) : Has .cell (.sl p n) := by simp [Has, VV.leaf]
theorem has_dat (s : Sh) (l : List VV) : Has .cell (.dat s l) := by simp [Has, VV.leaf]
theorem has_ptr (m : Nat) (p : List Nat) : Has .cell (.ptr m p) := by simp [Has, VV.leaf]
theorem has_fn (f : FuncId) (c : List VV) : Has .cell (.fn f c) := by simp [Has, VV.leaf]
theorem has_map (m : Nat) : Has .cell (.map m) := by simp [Has, VV.leaf]
theorem has_pd (s : Sh) (v : VV) : Has .cell (.pd s v) := by simp [Has, VV.leaf]
theorem has_st (ls : List Sh) (vs : List VV) : Has (.st ls) (.agg vs) = HasL ls vs := by simp only [Has]
theorem hasl_c (s : Sh) (ls : List Sh) (v : VV) (vs : List VV) : HasL (s :: ls) (v :: vs) = (Has s v ∧ HasL ls vs) := by simp only [HasL]
theorem hasl_n : HasL [] [] = True := by simp [HasL]
theorem has_arr {s : Sh} {n : Nat} {l : List VV} (h1 : l.length = n) (h2 : ∀ v ∈ l, Has s v) : Has (.arr n s) (.agg l) := by simp only [Has]; exact ⟨h1, h2⟩
theorem has_arrMap {α : Type} {s : Sh} {n : Nat} {l : List α} {f : α → VV} (h1 : l.length = n) (h2 : ∀ x, Has s (f x)) : Has (.arr n s) (.agg (l.map f)) := has_arr (by simp [h1]) fun v hv => by
  obtain ⟨x, _, rfl⟩ := List.mem_map.1 hv
  exact h2 x
theorem ite_min (a b : Int) : (if b < a then b else a) = min a b := by split <;> omega
theorem ite_max (a b : Int) : (if a < b then b else a) = max a b := by split <;> omega
theorem ex_arr (n : Nat) (s : Sh) : (∃ j, some (Sh.arr n s) = some (Sh.arr j s)) = True := eq_true ⟨n, rfl⟩
theorem default_str : (default : List UInt8) = [] := rfl
theorem default_u8 : (default : UInt8) = 0 := rfl
theorem rep_one {α : Type} (a : α) : List.replicate 1 a = [a] := rfl
theorem rep_two {α : Type} (a : α) : List.replicate 2 a = [a, a] := rfl
theorem rep_three {α : Type} (a : α) : List.replicate 3 a = [a, a, a] := rfl
theorem bytes_one (b : UInt8) : bytesOf [VV.int .u8 (b.toNat : Int)] = some [b] := bytesOf_enc [b]
theorem bytes_two (a b : UInt8) : bytesOf [VV.int .u8 (a.toNat : Int), VV.int .u8 (b.toNat : Int)] = some [a, b] := bytesOf_enc [a, b]
theorem allm_cons {α : Type} (p : α → Prop) (x : α) (l : List α) : (∀ c, c ∈ x :: l → p c) = (p x ∧ ∀ c, c ∈ l → p c) := by simp
theorem allm_nil {α : Type} (p : α → Prop) : (∀ c, c ∈ ([] : List α) → p c) = True := by simp
theorem leaf_ptr (m : Nat) (p : List Nat) : (VV.ptr m p).leaf = true := rfl
theorem leaf_int (k : IntKind) (n : Int) : (VV.int k n).leaf = true := rfl
theorem leaf_str (s : List UInt8) : (VV.str s).leaf = true := rfl
theorem leaf_bool (s : Bool) : (VV.bool s).leaf = true := rfl
theorem leaf_sl (p : Option (Nat × List Nat × Nat)) (n : Nat) : (VV.sl p n).leaf = true := rfl
theorem leaf_dat (s : Sh) (l : List VV) : (VV.dat s l).leaf = true := rfl
theorem leaf_fn (f : FuncId) (l : List VV) : (VV.fn f l).leaf = true := rfl
theorem leaf_map (m : Nat) : (VV.map m).leaf = true := rfl
theorem take_lenMap {α β : Type} (f : α → β) (l : List α) : List.take l.length (l.map f) = l.map f := List.take_of_length_le (by simp)
theorem veq_bool (a b : Bool) : veq (.bool a) (.bool b) = (a == b) := by simp only [veq]
theorem fit_bool (a : Bool) : Fit .bool (.bool a) = True := by simp only [Fit]
theorem dvalid (a b : Int) (h : 0 ≤ a) : a.tdiv b = a / b := Int.tdiv_eq_ediv_of_nonneg h
theorem mvalid (a b : Int) (h : 0 ≤ a) : a.tmod b = a % b := Int.tmod_eq_emod_of_nonneg h
theorem getD_map {α : Type} (f : α → VV) (l : List α) (i : Nat) (h : i < l.length) : (l.map f)[i]? = some (f l[i]) := by simp [h]
/-! ### frames written anew -/
section
variable {n0 : Nat} {σ : List (Nat × Nat)} {H : Heap} {fz : Bool} {tm : Nat → VV}
theorem known_in {m : Nat} (h : (σ.map (·.1)).contains m = true) : known n0 σ m := .inr (by simpa using h)
theorem known_lt {m : Nat} (h : decide (m < n0) = true) : known n0 σ m := .inl (by simpa using h)
theorem turn_ok {m m' : Nat} (h : turn σ m = m') : turn σ m = m' := h
theorem alls_nil : AllS n0 σ H fz tm [] := trivial
theorem alls_cons {k : Nat} {v : VV} {l : List (Nat × VV)} (h : MR n0 σ H fz (tm k) v) (h' : AllS n0 σ H fz tm l) : AllS n0 σ H fz tm ((k, v) :: l) := ⟨h, h'⟩
theorem allb_nil : AllB n0 σ H fz [] := trivial
theorem allb_cons {k : Nat} {b0 b : Blk} {l : List (Nat × Blk)} (hk : known n0 σ k) (h : H (turn σ k) = some b0) (hm : MB n0 σ H fz b0 b) (h' : AllB n0 σ H fz l) : AllB n0 σ H fz ((k, b) :: l) := ⟨fun _ => ⟨b0, h, hm⟩, h'⟩
theorem allb_ghost {k : Nat} {b : Blk} {l : List (Nat × Blk)} (hk : (decide (k < n0) || (σ.map (·.1)).contains k) = false) (h' : AllB n0 σ H fz l) : AllB n0 σ H fz ((k, b) :: l) := by
  refine ⟨fun hn => ?_, h'⟩
  simp only [Bool.or_eq_false_iff,decide_eq_false_iff_not] at hk
  rcases hn with hn | hn
  · exact absurd hn hk.1
  · have : (σ.map (·.1)).contains k = true := by simpa using hn
    rw [hk.2] at this; cases this
theorem mr_int {k : IntKind} {a b : Int} (h : a = b) : MR n0 σ H fz (.int k a) (.int k b) := by subst h; exact .data _ rfl
theorem mr_bool {a b : Bool} (h : a = b) : MR n0 σ H fz (.bool a) (.bool b) := by subst h; exact .data _ rfl
theorem mr_str {a b : List UInt8} (h : a = b) : MR n0 σ H fz (.str a) (.str b) := by subst h; exact .data _ rfl
theorem mr_dat {s : Sh} {a b : List VV} (h : a = b) (hn : nls b = true) : MR n0 σ H fz (.dat s a) (.dat s b) := by subst h; exact .data _ (by simpa only [nl] using hn)
theorem mr_data {v w : VV} (h : v = w) (hn : nl w = true) : MR n0 σ H fz v w := by subst h; exact .data _ hn
theorem mr_pd {s : Sh} {a b : VV} (h : a = b) (hn : nl b = true) : MR n0 σ H fz (.pd s a) (.pd s b) := by subst h; exact .data _ (by simpa only [nl] using hn)
theorem mr_slnil {n : Nat} : MR n0 σ H fz (.sl none n) (.sl none n) := .data _ rfl
theorem mr_empty {m : Nat} {p : List Nat} {i n : Nat} (h : 0 = n) : MR n0 σ H fz (.sl none 0) (.sl (some (m, p, i)) n) := by subst h; exact .empty
theorem mb_row {s s' : Sh} {u v : VV} (hs : s = s') (h : MR n0 σ H fz u v) : MB n0 σ H fz (.row s u) (.row s' v) := by subst hs; exact .row h
theorem mb_arr {n n' : Nat} {e : Sh} {u v : VV} (hn : n = n') (h : MR n0 σ H fz u v) : MB n0 σ H fz (.row (.arr n e) u) (.row (.arr n' e) v) := by subst hn; exact .row h
theorem mr_raw {v : Value} : MR n0 σ H fz (.raw v) (.raw v) := .data _ rfl
theorem mr_aggD {a b : List VV} (h : a = b) (hn : nls b = true) : MR n0 σ H fz (.agg a) (.agg b) := by subst h; exact .data _ (by simpa only [nl] using hn)
theorem mr_sl {m m' : Nat} {p : List Nat} {i n n' : Nat} (h : known n0 σ m') (h' : turn σ m' = m) (hn : n = n') : MR n0 σ H fz (.sl (some (m, p, i)) n) (.sl (some (m', p, i)) n') := by subst hn; exact .sl h h'
theorem mr_row {m k n : Nat} {e : Sh} {els els' : List VV} (h : fz = true) (h1 : H m = some (.row (.arr k e) (.agg els))) (h2 : n = els.length) (he : els = els') (h3 : nls els' = true) (h4 : m ∉ σ.map (·.2)) : MR n0 σ H fz (.sl (some (m, [], 0)) n) (.dat e els') := by
  subst he; exact .row h h1 h2 h3 h4
end
theorem map_getD {α : Type} [Inhabited α] (f : α → VV) (l : List α) (i : Nat) (h : i < l.length) : (l.map f)[i]? = some (f (l.getD i default)) := by simp [h]
theorem lst_getD {α : Type} [Inhabited α] (l : List α) (i : Nat) (h : i < l.length) : l[i]? = some (l.getD i default) := by simp [h]
theorem rep_get {v : VV} {n i : Nat} (h : i < n) : (List.replicate n v)[i]? = some v := by simp [h]
end Go.Proofs.Ytndbfphmjmhkjaa.V
