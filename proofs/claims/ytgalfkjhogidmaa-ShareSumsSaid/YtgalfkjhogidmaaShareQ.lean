/-
  THE WALKS through the reference of package share: Right, Join, Third, Coefficients, Same, Split.
-/
import Derived.Stop.BytesEq
import Derived.Deep.DeepMust
import Derived.Test.YtgalfkjhogidmaaShareR
namespace Go.Proofs.Ytgalfkjhogidmaa
open Go.RowKit

/-- three places that are none of them 0, and no two of them one -/
def rightB (a b c : UInt8) : Bool := (B8 a != 0) && ((B8 b != 0) && ((B8 c != 0) && ((B8 a != B8 b) && ((B8 a != B8 c) && (B8 b != B8 c)))))
theorem rightB_iff (a b c : UInt8) : rightB a b c = true ↔ a ≠ 0 ∧ b ≠ 0 ∧ c ≠ 0 ∧ a ≠ b ∧ a ≠ c ∧ b ≠ c := by
  have z : ∀ x : UInt8, (B8 x = 0) = (x = 0) := fun x => propext ⟨fun h => B8_inj (y := 0) h, fun h => by rw [h]; rfl⟩
  simp only [rightB, bne, B8_beq, Bool.and_eq_true, Bool.not_eq_true', beq_eq_false_iff_ne, ne_eq, z]

theorem right_len (A : Option Addr) (n c : Nat) (w : World) (hn : n ≠ 3) :
    Calls Try.prog 39 #[.slice A n c] w fun e w' => e = .returned (.bool false) ∧ Drawn w w' := by
  have h : ((n : Int) != 3) = true := by simp; omega
  go_enter Try.func39, Try.ntmps39
  go_wp2_with fail
  go_ret
  exact ⟨rfl, Drawn.refl _⟩

set_option maxHeartbeats 2000000 in
theorem right_three (A : Option Addr) (c : Nat) (l0 l1 l2 : Sh) (w : World) (hR : RdS w A [l0, l1, l2]) :
    Calls Try.prog 39 #[.slice A 3 c] w fun e w' => e = .returned (.bool (rightB l0.1 l1.1 l2.1)) ∧ Drawn w w' := by
  obtain ⟨b, o, rfl, p0, p1, p2, _⟩ := hR.three
  clear hR
  cases e0 : (B8 l0.1 != 0)
  · have HR : Hid (rightB l0.1 l1.1 l2.1 = false) := Lib.hid (by simp only [rightB, e0]; rfl)
    go_enter Try.func39, Try.ntmps39
    go_wp2_with fail
    go_quiet (fail)
    go_wp2
    go_ret
    exact ⟨ret_bool HR.out.symm, (Drawn.refl _).drewN _⟩
  · skip
    cases e1 : (B8 l1.1 != 0)
    · have HR : Hid (rightB l0.1 l1.1 l2.1 = false) := Lib.hid (by simp only [rightB, e0, e1]; rfl)
      go_enter Try.func39, Try.ntmps39
      go_wp2_with fail
      go_quiet (fail)
      go_wp2
      go_ret
      exact ⟨ret_bool HR.out.symm, (Drawn.refl _).drewN _⟩
    · skip
      cases e2 : (B8 l2.1 != 0)
      · have HR : Hid (rightB l0.1 l1.1 l2.1 = false) := Lib.hid (by simp only [rightB, e0, e1, e2]; rfl)
        go_enter Try.func39, Try.ntmps39
        go_wp2_with fail
        go_quiet (fail)
        go_wp2
        go_ret
        exact ⟨ret_bool HR.out.symm, (Drawn.refl _).drewN _⟩
      · skip
        cases e3 : (B8 l0.1 != B8 l1.1)
        · have HR : Hid (rightB l0.1 l1.1 l2.1 = false) := Lib.hid (by simp only [rightB, e0, e1, e2, e3]; rfl)
          go_enter Try.func39, Try.ntmps39
          go_wp2_with fail
          go_quiet (fail)
          go_wp2
          go_ret
          exact ⟨ret_bool HR.out.symm, (Drawn.refl _).drewN _⟩
        · skip
          cases e4 : (B8 l0.1 != B8 l2.1)
          · have HR : Hid (rightB l0.1 l1.1 l2.1 = false) := Lib.hid (by simp only [rightB, e0, e1, e2, e3, e4]; rfl)
            go_enter Try.func39, Try.ntmps39
            go_wp2_with fail
            go_quiet (fail)
            go_wp2
            go_ret
            exact ⟨ret_bool HR.out.symm, (Drawn.refl _).drewN _⟩
          · skip
            cases e5 : (B8 l1.1 != B8 l2.1)
            · have HR : Hid (rightB l0.1 l1.1 l2.1 = false) := Lib.hid (by simp only [rightB, e0, e1, e2, e3, e4, e5]; rfl)
              go_enter Try.func39, Try.ntmps39
              go_wp2_with fail
              go_quiet (fail)
              go_wp2
              go_ret
              exact ⟨ret_bool HR.out.symm, (Drawn.refl _).drewN _⟩
            · skip
              have HR : Hid (rightB l0.1 l1.1 l2.1 = true) := Lib.hid (by simp only [rightB, e0, e1, e2, e3, e4, e5]; rfl)
              go_enter Try.func39, Try.ntmps39
              go_wp2_with fail
              go_quiet (fail)
              go_wp2
              go_ret
              exact ⟨ret_bool HR.out.symm, (Drawn.refl _).drewN _⟩


/-- a result that lies in a variable of many cells, and a second one -/
theorem results_row_tmp {P : Program} {fn : Func} {p u : Tmp} {ty : TypeId} (h : fn.results = #[.cell p ty, .tmp u]) (tmps : Array Value) (w : World) (g : Nat) (t : TypeId) (cs : Array Value) (d : TypeDesc)
    (hp : tmps.getD p undef = .pointer (some ⟨g, 0, none⟩)) (hg : Bk w g t cs) (hu : P.underlying ty = some d) (hd : (match d with | .struct _ | .array _ _ => true | _ => false) = true) (hi : (P.info? ty).map (·.size) = some cs.size) :
    (results fn tmps).run P w = .ok (.tuple #[.agg cs, tmps.getD u undef]) w := by
  have hp' : tmps[p]?.getD undef = .pointer (some ⟨g, 0, none⟩) := by simpa using hp
  simp [results, h, hp', asAddr, run_loadVar_row w g t ty cs (0, 0) d hg hu hd hi]

def z32 : List UInt8 := List.replicate 32 0
theorem z32_length : z32.length = 32 := by simp [z32]
def refJoinOk (l0 l1 l2 : Sh) : Bool := rightB l0.1 l1.1 l2.1

theorem refJoin_no (A : Option Addr) (n c : Nat) (w : World) (hRight : ∀ w', Kept w w' → Calls Try.prog 39 #[.slice A n c] w' fun e w'' => e = .returned (.bool false) ∧ Drawn w' w'') :
    Calls Try.prog 34 #[.slice A n c] w fun e w' => e = .returned (.tuple #[.agg (kv z32), .int .i64 1]) ∧ Kept w w' := by
  have hr := Lib.hid hRight
  clear hRight
  go_enter Try.func34, Try.ntmps34
  go_wp2_with fail
  refine (hr.out _ ((Kept.refl _).alloc _)).mono ?_
  rintro e w1 ⟨rfl, hD⟩
  have hB : Bk w1 w.heap.size 23 (kv z32) := (Bk.new w 23 (kv z32)).kept hD.kept
  have hK : Kept w w1 := ((Kept.refl w).alloc _).trans hD.kept
  have hl : (kv z32).size = 32 := by rw [kv_size]; rfl
  clear hD hr
  go_wp2_with (refine wpList_store_row rfl 23 _ _ rfl w.heap.size (kv z32) rfl rfl 23 _ hB (by rw [hl]; exact keysize) rfl (kv_one _) ?_)
  exact bodyPost_ret (results_row_tmp rfl _ _ w.heap.size _ _ _ rfl (hB.row (kv z32)) Try.underlying23 rfl (by rw [hl]; exact keysize)) rfl ⟨rfl, hK.row (Nat.le_refl _) _⟩

theorem refJoin_yes (A : Option Addr) (c : Nat) (l0 l1 l2 : Sh) (w : World) (hR : RdS w A [l0, l1, l2]) (hOk : rightB l0.1 l1.1 l2.1 = true) :
    Calls Try.prog 34 #[.slice A 3 c] w fun e w' => e = .returned (.tuple #[.agg (kv (fun32 (lagAt l0 l1 l2 0))), .int .i64 0]) ∧ Kept w w' := by
  have HO := Lib.hid hOk
  clear hOk
  go_enter Try.func34, Try.ntmps34
  go_wp2_with fail
  refine (right_three A c l0 l1 l2 _ (hR.kept ((Kept.refl _).alloc _))).mono ?_
  rintro e w1 ⟨rfl, hD⟩
  rw [HO.out]
  have hB : Bk w1 w.heap.size 23 (kv z32) := (Bk.new w 23 (kv z32)).kept hD.kept
  have hK : Kept w w1 := ((Kept.refl w).alloc _).trans hD.kept
  clear hD
  go_wp2_with fail
  refine (refAt_any A c l0 l1 l2 0 _ (hR.kept hK)).mono ?_
  rintro e w2 ⟨rfl, hK2⟩
  have hB2 := hB.kept hK2
  have hK3 := hK.trans hK2
  have hl : (kv (fun32 (lagAt l0 l1 l2 0))).size = 32 := by rw [kv_size, fun32_length]
  clear hB hK hK2
  go_wp2_with (refine wpList_store_row rfl 23 _ _ rfl w.heap.size _ rfl rfl 23 _ hB2 (by rw [hl]; exact keysize) (by rw [hl, kv_size]; rfl) (kv_one _) ?_)
  exact bodyPost_ret (results_row_tmp rfl _ _ w.heap.size _ _ _ rfl (hB2.row _) Try.underlying23 rfl (by rw [hl]; exact keysize)) rfl ⟨rfl, hK3.row (Nat.le_refl _) _⟩
end Go.Proofs.Ytgalfkjhogidmaa
