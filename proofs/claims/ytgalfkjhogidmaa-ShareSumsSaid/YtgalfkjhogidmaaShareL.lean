/-
  THE WALKS through the laws of package share: what is split.
-/
import Derived.Test.YtgalfkjhogidmaaTy
import Derived.Test.YtgalfkjhogidmaaShareN
namespace Go.Proofs.Ytgalfkjhogidmaa
open Go.RowKit

theorem bytes_of {w : World} {n : Nat} {cs : List Value} {x : List UInt8} (h : Ty.Is w (.arr n .u8) cs x) : x.length = n ∧ cs = bvs x := by
  obtain ⟨h1, h2, h3⟩ := h
  have h1' : @List.length UInt8 x = n := h1
  have h2' : cs.length = n := h2.trans (Nat.mul_one n)
  clear h2
  refine ⟨h1, ?_⟩
  apply List.ext_getElem?
  intro i
  by_cases hi : i < x.length
  · have h4 : (cs.drop (i * 1)).take 1 = [Value.int .u8 (B8 x[i])] := h3 i hi
    have h5 := congrArg (fun l => l[0]?) h4
    simp only [List.getElem?_take, List.getElem?_drop, Nat.mul_one, Nat.add_zero, Nat.zero_lt_one, if_true, List.getElem?_cons_zero] at h5
    rw [h5]
    simp [bvs, hi]
  · rw [List.getElem?_eq_none (by omega), List.getElem?_eq_none (by simp [bvs]; omega)]
theorem key_in {w : World} {v : Value} {x : List UInt8} (h : Ty.Val w (.arr 32 .u8) v x) : x.length = 32 ∧ v = .agg (kv x) := by
  obtain ⟨cs, rfl, h⟩ := h
  obtain ⟨h1, h2⟩ := bytes_of h
  refine ⟨h1, ?_⟩
  rw [kv, ← h2]

theorem shares_get (s z : List UInt8) (n j : Nat) (hj : j < (shares s z n).length) : (shares s z n)[j] = share s z j := by simp [shares]
theorem shares_good (s z : List UInt8) (n : Nat) : ∀ x ∈ shares s z n, good x := by
  intro x hx
  obtain ⟨j, _, rfl⟩ := List.mem_map.1 hx
  exact fun32_length _
theorem Shs.rd {w : World} {g n : Nat} {s z : List UInt8} (h : Shs w g n (fun j => xat j) (fun j i => dat s z j i)) : RdS w (some ⟨g, 0, none⟩) (shares s z n) := fun _ =>
  ⟨g, 0, rfl, fun j hj => by
    rw [shares_get]
    rw [shares_length] at hj
    refine ⟨by rw [Nat.zero_add]; exact h.cellX hj, fun i hi => ?_⟩
    rw [Nat.zero_add]
    have e : Gf.nth (share s z j).2 i = dat s z j i := fun32_nth _ i hi
    rw [e]
    exact h.cellD hj hi⟩
theorem shcs_get (l : List Sh) (hg : ∀ x ∈ l, good x) (j i : Nat) (hj : j < l.length) (hi : i < 33) : (shcs l)[j * 33 + i]? = (shc l[j])[i]? := by
  induction l generalizing j with
  | nil => simp at hj
  | cons a l ih =>
    have ha : (shc a).length = 33 := shc_len (hg a (List.mem_cons_self ..))
    cases j with
    | zero =>
      simp only [shcs, List.flatMap_cons, Nat.zero_mul, Nat.zero_add, List.getElem_cons_zero]
      rw [List.getElem?_append_left (by omega)]
    | succ j =>
      simp only [shcs, List.flatMap_cons, List.getElem_cons_succ]
      rw [List.getElem?_append_right (by omega), ha, show (j + 1) * 33 + i - 33 = j * 33 + i by omega]
      exact ih (fun x hx => hg x (List.mem_cons_of_mem _ hx)) j (by simpa using hj)
theorem own_shares {w : World} {B n : Nat} {v : Value} {l : List Sh} (hg : ∀ x ∈ l, good x) (hl : l.length = n) (h0 : 0 < n) (h : w.ownsRow B 34 33 v n (shcs l)) :
    ∃ A c, v = .slice A n c ∧ RdS w A l := by
  rcases h.2 with ⟨rfl, hn⟩ | ⟨g, cap, cur, rfl, _, hgp, hc, hm, hs, ht⟩
  · omega
  · refine ⟨_, _, rfl, fun _ => ⟨g, 0, rfl, fun j hj => ?_⟩⟩
    have hcell : ∀ k, k < 33 → w.cell? ⟨g, 0 + j * 33 + k, none⟩ = (shc l[j])[k]? := fun k hk => by
      rw [Nat.zero_add, h.cellAt (j * 33 + k) (by omega)]
      exact shcs_get l hg j k hj hk
    refine ⟨?_, fun i hi => ?_⟩
    · have := hcell 0 (by omega)
      simpa [shc] using this
    · have := hcell (1 + i) (by omega)
      rw [show 0 + j * 33 + 1 + i = 0 + j * 33 + (1 + i) by omega, this, Nat.add_comm 1 i]
      have hgj : l[j].2.length = 32 := hg _ (List.getElem_mem _)
      simp [shc, bvs, hgj, hi, Gf.nth_lt (show i < l[j].2.length by omega)]

set_option maxHeartbeats 1000000 in
theorem shareSplits_walk (w : World) (v0 v1 v2 : Value) (x0 : List UInt8) (x1 : Int) (x2 : List UInt8) (h0 : Ty.Val w (.arr 32 .u8) v0 x0) (h1 : Ty.Val w (.int .i64) v1 x1) (h2 : Ty.Val w .str v2 x2) :
    Calls Try.prog 3 #[v0, v1, v2] w fun e w' => e = .returned (.bool true) ∧ Kept w w' := by
  obtain ⟨hs, rfl⟩ := key_in h0
  obtain ⟨e1, hwf⟩ := h1
  obtain rfl : v1 = .int .i64 x1 := by injection e1
  obtain ⟨e2, hm⟩ := h2
  obtain rfl : v2 = .string (bs x2) := by injection e2
  have hz := bs_size x2
  clear h0 e1 e2
  by_cases c0 : 200 < x2.length
  · go_enter Try.func3, Try.ntmps3
    go_wp2_with (go_at_call 18; refine (alive_any _).mono ?_; rintro e w1 ⟨rfl, hK⟩)
    go_ret
    exact ⟨rfl, ((Kept.refl _).alloc _).trans hK⟩
  have hks : (Try.prog.info? 23).map (·.size) = some (kv x0).size := by rw [kv_size, hs]; exact keysize
  by_cases c1 : x1 < 3 ∨ 255 < x1 ∨ x2.length ≠ 64
  · go_enter Try.func3, Try.ntmps3
    go_wp2_with (first
      | (go_at_call 18; refine (alive_any _).mono ?_; rintro e w1 ⟨rfl, hK⟩; have hB := (Bk.new w 23 (kv x0)).kept hK)
      | (refine wpList_load_row rfl 23 _ rfl w.heap.size rfl _ (kv x0) _ _ hB Try.underlying23 rfl hks ?_)
      | (refine wpList_load_row rfl 23 _ rfl w.heap.size rfl _ (kv x0) _ _ hB2 Try.underlying23 rfl hks ?_)
      | (go_at_call 19; refine (split_bad x0 x2 x1 _ c1).mono ?_; rintro e w2 ⟨rfl, hK2⟩; have hB2 := hB.kept hK2)
      | (go_at_call 20; refine (refsplit_bad x0 x2 x1 _ c1).mono ?_; rintro e w3 ⟨rfl, hK3⟩)
      | (go_at_call 21; refine (same_any none none 0 0 [] [] _ (fun h => absurd h (Nat.lt_irrefl 0)) (fun h => absurd h (Nat.lt_irrefl 0)) (fun _ h => by cases h) (fun _ h => by cases h) (Nat.zero_le _) (Nat.zero_le _)).mono ?_; rintro e w4 ⟨rfl, hD⟩))
    go_ret
    exact ⟨rfl, (((((Kept.refl _).alloc _).trans hK).trans hK2).trans hK3).trans hD.kept⟩
  · obtain ⟨n, rfl⟩ : ∃ n : Nat, x1 = (n : Int) := ⟨x1.toNat, by omega⟩
    have hn : 3 ≤ n := by omega
    have hn2 : n ≤ 255 := by omega
    have hz64 : x2.length = 64 := by omega
    clear c1
    go_enter Try.func3, Try.ntmps3
    go_wp2_with (first
      | (go_at_call 18; refine (alive_any _).mono ?_; rintro e w1 ⟨rfl, hK⟩; have hB := (Bk.new w 23 (kv x0)).kept hK)
      | (refine wpList_load_row rfl 23 _ rfl w.heap.size rfl _ (kv x0) _ _ hB Try.underlying23 rfl hks ?_)
      | (refine wpList_load_row rfl 23 _ rfl w.heap.size rfl _ (kv x0) _ _ hB2 Try.underlying23 rfl hks ?_)
      | (go_at_call 19; refine (split_ok x0 x2 n _ hs hn hn2 hz64).mono ?_; rintro e w2 ⟨g, rfl, hK2, hg, hS⟩; have hB2 := hB.kept hK2)
      | (go_at_call 20; refine (refsplit_ok x0 x2 n _ hs hn hn2 hz64).mono ?_; rintro e w3 ⟨v, rfl, hK3, hO⟩; obtain ⟨A, c, rfl, hR⟩ := own_shares (shares_good x0 x2 n) (shares_length x0 x2 n) (by omega) hO; have hS3 := (hS.kept hK3).rd)
      | (go_at_call 21; refine (same_len _ A n c n (shares x0 x2 n) (shares x0 x2 n) _ hS3 hR (shares_good x0 x2 n) (shares_good x0 x2 n) (shares_length x0 x2 n) (shares_length x0 x2 n) (by omega)).mono ?_; rw [beq_self_eq_true]; rintro e w4 ⟨rfl, hD⟩))
    go_ret
    exact ⟨rfl, (((((Kept.refl _).alloc _).trans hK).trans hK2).trans hK3).trans hD.kept⟩
end Go.Proofs.Ytgalfkjhogidmaa
