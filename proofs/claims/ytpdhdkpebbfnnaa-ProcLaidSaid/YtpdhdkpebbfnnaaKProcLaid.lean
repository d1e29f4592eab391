/-
  ProcLaid: the statement, out of its walk: for every input the law returns true, and the input reads as it did.
  Conditions: none.
-/
import Derived.Test.YtpdhdkpebbfnnaaRows
import Derived.Test.YtpdhdkpebbfnnaaWProcLaid03
import Derived.Test.YtpdhdkpebbfnnaaWProcLaid10
namespace Go.Proofs.Ytpdhdkpebbfnnaa.procLaid
open Go.ChangeShapes Go.WideShapes Go.ChangeAt Go.RowKit
set_option linter.unusedVariables false
theorem own : ownKnob Try.prog.godebug = none := by kernel_rfl
theorem laidOut : laidOutB Try.prog = true := by kernel_rfl
theorem fits0 : Ty.fits Try.prog (.fcons (.int .u64) (.fcons (.int .i64) (.fcons (.int .i64) (.fcons (.int .i64) (.fcons (.sl .str) (.fcons (.sl (.fcons (.int .i64) (.fcons (.int .i64) (.fcons (.int .i64) (.fcons (.fcons (.arr 16 (.int .u32)) (.fcons (.int .u32) .fnil)) (.fcons (.arr 16 (.fcons .bool (.fcons .bool (.fcons (.int .i64) .fnil)))) (.fcons (.arr 8 (.fcons (.int .i64) (.fcons (.int .i64) (.fcons (.int .i64) .fnil)))) (.fcons .bool (.fcons (.int .u32) (.fcons (.int .i64) (.fcons (.int .u64) .fnil))))))))))) (.fcons (.int .i64) (.fcons .str (.fcons (.sl (.fcons (.int .i64) (.fcons .str .fnil))) (.fcons (.int .i64) (.fcons .str (.fcons .bool (.fcons (.int .u64) (.fcons (.fcons (.sl .str) (.fcons (.sl (.fcons (.int .i64) (.fcons .str .fnil))) (.fcons (.int .i64) .fnil))) (.fcons (.sl (.fcons (.int .i64) (.fcons .str .fnil))) .fnil))))))))))))))) false 30 [] 0 = true := by kernel_rfl
theorem fits1 : Ty.fits Try.prog (.fcons (.sl (.int .u32)) (.fcons .str (.fcons (.int .i64) (.fcons (.int .u32) .fnil)))) false 34 [] 0 = true := by kernel_rfl
theorem readable : (Try.f8.params.toList.all fun t => Try.prog.readableRec t && decide (t < Try.prog.types.size)) = true := by kernel_rfl
set_option maxRecDepth 100000 in
theorem lifted (os : Os) (started : os.Started) (H : Type) (enc : TypeId × Value → H) :
    ReturnsInHanded {} Try.checked os 8 .any (Rows.procLaidSpec.pre6 enc Try.prog Try.f8 Rows.procLaidRow.domain false) (Rows.procLaidSpec.post enc Try.prog Try.f8 false true false false) := by
  refine returnsInHanded_of_change_sized (C := Try.checked) own started (by kernel_rfl) Try.func8
    (ChangeSpec.witness6 (enc := enc) (C := Try.checked) false ⟨#[], #[.agg #[.int .u64 0, .int .i64 0, .int .i64 0, .int .i64 0, .slice none 0 0, .slice none 0 0, .int .i64 0, .string ⟨#[]⟩, .slice none 0 0, .int .i64 0, .string ⟨#[]⟩, .bool false, .int .u64 0, .slice none 0 0, .slice none 0 0, .int .i64 0, .slice none 0 0], .agg #[.slice none 0 0, .string ⟨#[]⟩, .int .i64 0, .int .u32 0]], []⟩ 8 (by kernel_rfl) (by kernel_rfl) (by kernel_rfl) (by kernel_rfl)) ?_
  intro W base args ds gs before hval0 hW hcnd hsz _
  have hval : ∀ (j : Nat) t v, Try.f8.params[j]? = some t → args[j]? = some v → Value.okWide Try.prog W .any base t v := hval0
  have hW' := hW
  obtain ⟨p, q, hA0, hV, rfl, hfz, hnd⟩ := hW
  have hA : DataW.TrodAll enc Try.prog W 0 (fun _ => true) true Try.f8.params.toList args.toList ds p := hA0
  have hread := readable
  rw [Try.params8] at hA hval hread
  have hA1 := hA
  obtain ⟨v0, vs0, d0, ds0, p0, q0, hargs, rfl, e0, h0, r0⟩ := trodAll_cons hA1
  obtain ⟨v1, vs1, d1, ds1, p1, q1, rfl, rfl, e1, h1, r1⟩ := trodAll_cons r0
  obtain ⟨rfl, rfl, e2⟩ := trodAll_nil r1
  obtain rfl : args = #[v0, v1] := by cases args; simp_all
  obtain ⟨rfl, rfl⟩ := trodVars_none hV
  obtain ⟨x0, k0, w0⟩ := Ty.opened (.fcons (.int .u64) (.fcons (.int .i64) (.fcons (.int .i64) (.fcons (.int .i64) (.fcons (.sl .str) (.fcons (.sl (.fcons (.int .i64) (.fcons (.int .i64) (.fcons (.int .i64) (.fcons (.fcons (.arr 16 (.int .u32)) (.fcons (.int .u32) .fnil)) (.fcons (.arr 16 (.fcons .bool (.fcons .bool (.fcons (.int .i64) .fnil)))) (.fcons (.arr 8 (.fcons (.int .i64) (.fcons (.int .i64) (.fcons (.int .i64) .fnil)))) (.fcons .bool (.fcons (.int .u32) (.fcons (.int .i64) (.fcons (.int .u64) .fnil))))))))))) (.fcons (.int .i64) (.fcons .str (.fcons (.sl (.fcons (.int .i64) (.fcons .str .fnil))) (.fcons (.int .i64) (.fcons .str (.fcons .bool (.fcons (.int .u64) (.fcons (.fcons (.sl .str) (.fcons (.sl (.fcons (.int .i64) (.fcons .str .fnil))) (.fcons (.int .i64) .fnil))) (.fcons (.sl (.fcons (.int .i64) (.fcons .str .fnil))) .fnil))))))))))))))) fits0 (hval 0 _ v0 rfl rfl) h0
  have l0 := w0 fun m hm => by
    have := List.all_eq_true.1 hsz m (DataW.weights_mem_each (j := 0) rfl rfl m hm)
    simpa using this
  obtain ⟨x1, k1, w1⟩ := Ty.opened (.fcons (.sl (.int .u32)) (.fcons .str (.fcons (.int .i64) (.fcons (.int .u32) .fnil)))) fits1 (hval 1 _ v1 rfl rfl) h1
  have l1 := w1 fun m hm => by
    have := List.all_eq_true.1 hsz m (DataW.weights_mem_each (j := 1) rfl rfl m hm)
    simpa using this
  clear hA0 hval0
  refine (V.law_true (xs := [v0, v1]) (V.laid_law x0 x1 (V.good_val k0) (V.good_val k1) l0 l1) ⟨_, _, rfl, V.val_sound (by rfl) k0, ⟨_, _, rfl, V.val_sound (by rfl) k1, rfl⟩⟩).mono fun e W' ⟨he, bel⟩ => ?_
  subst he
  exact ⟨_, rfl, _, _, _, [], p, [], hW', trodAll_mk1 (shut_bool (show Try.prog.underlying 4 = some .bool from Try.underlying4) _), trodAll_below laidOut bel _ _ _ _ hread hA, rfl, Below.frame bel _, fun h => by cases h⟩

theorem over : Rows.procLaidRow.holds Try.pinned (OpenSpec.ofChange Rows.procLaidSpec) :=
  OpenClaim.holds_of_wide 8 Try.f8 rfl rfl rfl rfl rfl rfl rfl ⟨rfl, rfl, rfl, rfl, rfl⟩ rfl rfl rfl rfl rfl (by kernel_rfl) Try.func8 (by kernel_rfl)
    (of_decide_eq_true (by kernel_rfl)) (by unfold Func.isWrapper; first | (rw [if_pos (by decide +kernel)]; kernel_rfl) | (rw [if_neg (by decide +kernel)]; exact ⟨rfl, rfl⟩))
    (fun os started H enc _ => lifted os started H enc)

theorem proved : Rows.ProcLaidSaid := over
#print axioms proved
end Go.Proofs.Ytpdhdkpebbfnnaa.procLaid
