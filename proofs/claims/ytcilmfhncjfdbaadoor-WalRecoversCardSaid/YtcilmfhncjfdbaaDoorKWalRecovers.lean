/-
  WalRecovers: the statement, out of its walk: for every input the law returns true, and the input reads as it did.
  Conditions: none.
-/
import Derived.Test.YtcilmfhncjfdbaaDoorRows
import Derived.Test.YtcilmfhncjfdbaaDoorCards
import Derived.Test.YtcilmfhncjfdbaaDoorTie
import Derived.Test.YtcilmfhncjfdbaaDoorWWalRecovers03
import Derived.Test.YtcilmfhncjfdbaaDoorWWalRecovers12
import Derived.ProofKit
import Derived.LaidMore
import Derived.Stop.Joined
import Derived.SevenTiedAt
namespace Go.Proofs.YtcilmfhncjfdbaaDoor.walRecovers
open Go.ChangeShapes Go.WideShapes Go.ChangeAt Go.RowKit
set_option linter.unusedVariables false
theorem own : ownKnob Tryd.prog.godebug = none := by kernel_rfl
theorem laidOut : laidOutB Tryd.prog = true := by kernel_rfl
theorem fits0 : Ty.fits Tryd.prog (.fcons (.sl .str) (.fcons (.sl (.fcons (.int .i64) (.fcons .str .fnil))) (.fcons (.int .i64) .fnil))) false 26 [] 0 = true := by kernel_rfl
theorem readable : (Tryd.f7.params.toList.all fun t => Tryd.prog.readableRec t && decide (t < Tryd.prog.types.size)) = true := by kernel_rfl
set_option maxRecDepth 100000 in
theorem door_met (os : Os) (args : Array Value) : laidMetH Tryd.prog Rows.walRecoversRow.laid ((World.doorLaid Tryd.prog 29 os).forCall (fun _ _ => 0) ⟨#[], args, []⟩).memory :=
  laidMetH_of_parts3 (fuel := 8) (laidMet_of_run' 8 (by kernel_rfl) (by kernel_rfl)) (by kernel_rfl) (by kernel_rfl)
set_option maxRecDepth 100000 in
theorem lifted (os : Os) (started : os.Started) (H : Type) (enc : TypeId × Value → H) :
    ReturnsInHanded {} Tryd.checked os 7 .any (fun w args => (Rows.walRecoversSpec.pre enc Tryd.prog Tryd.f7 Rows.walRecoversRow.domain false w args ∧ laidMetH Tryd.prog Rows.walRecoversRow.laid w) ∧ sizedMet enc Tryd.prog Tryd.f7 (OpenSpec.ofChange Rows.walRecoversSpec) false w args) (Rows.walRecoversSpec.post enc Tryd.prog Tryd.f7 false true false false) := by
  refine returnsInHanded_of_change_and (C := Tryd.checked) (X := fun w _ => laidMetH Tryd.prog Rows.walRecoversRow.laid w) (fun _ _ _ hh h => h.of_heap hh) own started (by kernel_rfl) Tryd.func7
    (ChangeSpec.witness_shaped (enc := enc) (C := Tryd.checked) (os := os) (X := fun w _ => laidMetH Tryd.prog Rows.walRecoversRow.laid w) false (World.doorLaid Tryd.prog 29 os) #[.agg #[.slice none 0 0, .slice none 0 0, .int .i64 0]] 8 rfl (World.shaped_of_RefB (by kernel_rfl) (by kernel_rfl)) (by kernel_rfl) (by kernel_rfl) (by kernel_rfl) (door_met os _)) ?_
  intro W base args ds gs before hval0 hW hcnd hsz hL _
  have hval : ∀ (j : Nat) t v, Tryd.f7.params[j]? = some t → args[j]? = some v → Value.okWide Tryd.prog W .any base t v := hval0
  have hW' := hW
  obtain ⟨p, q, hA0, hV, rfl, hfz, hnd⟩ := hW
  have hA : DataW.TrodAll enc Tryd.prog W 0 (fun _ => true) true Tryd.f7.params.toList args.toList ds p := hA0
  have hread := readable
  rw [Tryd.params7] at hA hval hread
  have hA1 := hA
  obtain ⟨v0, vs0, d0, ds0, p0, q0, hargs, rfl, e0, h0, r0⟩ := trodAll_cons hA1
  obtain ⟨rfl, rfl, e1⟩ := trodAll_nil r0
  obtain rfl : args = #[v0] := by cases args; simp_all
  obtain ⟨rfl, rfl⟩ := trodVars_none hV
  obtain ⟨x0, k0, w0⟩ := Ty.opened (.fcons (.sl .str) (.fcons (.sl (.fcons (.int .i64) (.fcons .str .fnil))) (.fcons (.int .i64) .fnil))) fits0 (hval 0 _ v0 rfl rfl) h0
  have l0 := w0 fun m hm => by
    have := List.all_eq_true.1 hsz m (DataW.weights_mem_each (j := 0) rfl rfl m hm)
    simpa using this
  clear hA0 hval0
  refine (V.law_true (xs := [v0]) (V.recovers_law x0 (V.good_val k0) l0) (V.base_wal hL) ⟨_, _, rfl, V.val_sound (by rfl) k0, rfl⟩).mono fun e W' ⟨he, bel⟩ => ?_
  subst he
  exact ⟨_, rfl, _, _, _, [], p, [], hW', trodAll_mk1 (shut_bool (show Tryd.prog.underlying 4 = some .bool from Tryd.underlying4) _), trodAll_below laidOut bel _ _ _ _ hread hA, rfl, Below.frame bel _, fun h => by cases h⟩

theorem over : Rows.walRecoversRow.holds Tryd.pinned (OpenSpec.ofChange Rows.walRecoversSpec) :=
  OpenClaim.holds_of_wide 7 Tryd.f7 rfl rfl rfl rfl rfl rfl rfl ⟨rfl, rfl, rfl, rfl, rfl⟩ rfl rfl rfl rfl rfl (by kernel_rfl) Tryd.func7 (by kernel_rfl)
    (of_decide_eq_true (by kernel_rfl)) (by unfold Func.isWrapper; first | (rw [if_pos (by decide +kernel)]; kernel_rfl) | (rw [if_neg (by decide +kernel)]; exact ⟨rfl, rfl⟩))
    (fun os started H enc _ => lifted os started H enc)

theorem proved : Rows.WalRecoversCardSaid :=
  Claim7.holds_tied_plain_at .later [] [.data, .data] true (true, "570e987a7464176aa72b98e3e8a6c6507c71641d08a02231a6415a08330e3dca") false
    over (fun _ h => by cases h) (by kernel_rfl) (fun _ h => by cases h) walRecovers_row_tie rfl ⟨rfl, rfl⟩ (by kernel_rfl) rfl
    (fun f fn hf hfn => by
      obtain rfl : f = 7 := Option.some.inj ((show Tryd.prog.funcNamed "hibernacle/hibernaclelaw16.WalRecovers" = some 7 by kernel_rfl).symm.trans hf) |>.symm
      obtain rfl : fn = Tryd.f7 := (Option.some.inj (Tryd.func7.symm.trans hfn)).symm
      exact ⟨by kernel_rfl, fun j t ht => by
        rw [Tryd.params7] at ht
        have hm : t ∈ [26] := by simpa using Array.mem_of_getElem? ht
        have hall : ([26].all fun u => !Tryd.prog.wantsStandIn u) = true := by kernel_rfl
        exact (show Tryd.prog.wantsStandIn t = false by simpa using List.all_eq_true.1 hall t hm)⟩)
    (by kernel_rfl)
#print axioms proved
end Go.Proofs.YtcilmfhncjfdbaaDoor.walRecovers
