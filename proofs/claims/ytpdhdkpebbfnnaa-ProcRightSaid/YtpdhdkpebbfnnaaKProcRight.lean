/-
 ProcRight: the statement, out of its walk: for every input the law returns true, and the input reads as it did.
 Conditions: none.
-/
import Derived.Test.YtpdhdkpebbfnnaaRows
import Derived.Test.YtpdhdkpebbfnnaaWProcRight03
import Derived.Test.YtpdhdkpebbfnnaaWProcRight11
namespace Go.Proofs.Ytpdhdkpebbfnnaa.procRight
open Go.ChangeShapes Go.WideShapes Go.ChangeAt Go.RowKit
set_option linter.unusedVariables false
theorem own : ownKnob Try.prog.godebug = none := by kernel_rfl
theorem laidOut : laidOutB Try.prog = true := by kernel_rfl
theorem fits0 : Ty.fits Try.prog (.fcons (.int .u64) (.fcons (.int .i64) (.fcons (.int .i64) (.fcons (.int .i64) (.fcons (.sl .str) (.fcons (.sl (.fcons (.int .i64) (.fcons (.int .i64) (.fcons (.int .i64) (.fcons (.fcons (.arr 16 (.int .u32)) (.fcons (.int .u32) .fnil)) (.fcons (.arr 16 (.fcons .bool (.fcons .bool (.fcons (.int .i64) .fnil)))) (.fcons (.arr 8 (.fcons (.int .i64) (.fcons (.int .i64) (.fcons (.int .i64) .fnil)))) (.fcons .bool (.fcons (.int .u32) (.fcons (.int .i64) (.fcons (.int .u64) .fnil))))))))))) (.fcons (.int .i64) (.fcons .str (.fcons (.sl (.fcons (.int .i64) (.fcons .str .fnil))) (.fcons (.int .i64) (.fcons .str (.fcons .bool (.fcons (.int .u64) (.fcons (.fcons (.sl .str) (.fcons (.sl (.fcons (.int .i64) (.fcons .str .fnil))) (.fcons (.int .i64) .fnil))) (.fcons (.sl (.fcons (.int .i64) (.fcons .str .fnil))) .fnil))))))))))))))) false 30 [] 0 = true := by kernel_rfl
theorem fits1 : Ty.fits Try.prog (.fcons (.sl (.int .u32)) (.fcons .str (.fcons (.int .i64) (.fcons (.int .u32) .fnil)))) false 34 [] 0 = true := by kernel_rfl
theorem fits2 : Ty.fits Try.prog (.int .i64) false 3 [] 0 = true := by kernel_rfl
theorem fits3 : Ty.fits Try.prog (.int .i64) false 3 [] 0 = true := by kernel_rfl
theorem fits4 : Ty.fits Try.prog (.int .i64) false 3 [] 0 = true := by kernel_rfl
theorem readable : (Try.f12.params.toList.all fun t => Try.prog.readableRec t && decide (t < Try.prog.types.size)) = true := by kernel_rfl
set_option maxRecDepth 100000 in
theorem lifted (os : Os) (started : os.Started) (H : Type) (enc : TypeId × Value → H) :
  ReturnsInHanded {} Try.checked os 12 .any (Rows.procRightSpec.pre6 enc Try.prog Try.f12 Rows.procRightRow.domain false) (Rows.procRightSpec.post enc Try.prog Try.f12 false true false false) := by
 refine returnsInHanded_of_change_sized (C := Try.checked) own started (by kernel_rfl) Try.func12
  (ChangeSpec.witness6 (enc := enc) (C := Try.checked) false ⟨#[], #[.agg #[.int .u64 0, .int .i64 0, .int .i64 0, .int .i64 0, .slice none 0 0, .slice none 0 0, .int .i64 0, .string ⟨#[]⟩, .slice none 0 0, .int .i64 0, .string ⟨#[]⟩, .bool false, .int .u64 0, .slice none 0 0, .slice none 0 0, .int .i64 0, .slice none 0 0], .agg #[.slice none 0 0, .string ⟨#[]⟩, .int .i64 0, .int .u32 0], .int .i64 0, .int .i64 0, .int .i64 0], []⟩ 8 (by kernel_rfl) (by kernel_rfl) (by kernel_rfl) (by kernel_rfl)) ?_
 intro W base args ds gs before hval0 hW hcnd hsz _
 have hval : ∀ (j : Nat) t v, Try.f12.params[j]? = some t → args[j]? = some v → Value.okWide Try.prog W .any base t v := hval0
 have hW' := hW
 obtain ⟨p, q, hA0, hV, rfl, hfz, hnd⟩ := hW
 have hA : DataW.TrodAll enc Try.prog W 0 (fun _ => true) true Try.f12.params.toList args.toList ds p := hA0
 have hread := readable
 rw [Try.params12] at hA hval hread
 have hA1 := hA
 obtain ⟨v0, vs0, d0, ds0, p0, q0, hargs, rfl, e0, h0, r0⟩ := trodAll_cons hA1
 obtain ⟨v1, vs1, d1, ds1, p1, q1, rfl, rfl, e1, h1, r1⟩ := trodAll_cons r0
 obtain ⟨v2, vs2, d2, ds2, p2, q2, rfl, rfl, e2, h2, r2⟩ := trodAll_cons r1
 obtain ⟨v3, vs3, d3, ds3, p3, q3, rfl, rfl, e3, h3, r3⟩ := trodAll_cons r2
 obtain ⟨v4, vs4, d4, ds4, p4, q4, rfl, rfl, e4, h4, r4⟩ := trodAll_cons r3
 obtain ⟨rfl, rfl, e5⟩ := trodAll_nil r4
 obtain rfl : args = #[v0, v1, v2, v3, v4] := by cases args; simp_all
 obtain ⟨rfl, rfl⟩ := trodVars_none hV
 obtain ⟨x0, k0, w0⟩ := Ty.opened (.fcons (.int .u64) (.fcons (.int .i64) (.fcons (.int .i64) (.fcons (.int .i64) (.fcons (.sl .str) (.fcons (.sl (.fcons (.int .i64) (.fcons (.int .i64) (.fcons (.int .i64) (.fcons (.fcons (.arr 16 (.int .u32)) (.fcons (.int .u32) .fnil)) (.fcons (.arr 16 (.fcons .bool (.fcons .bool (.fcons (.int .i64) .fnil)))) (.fcons (.arr 8 (.fcons (.int .i64) (.fcons (.int .i64) (.fcons (.int .i64) .fnil)))) (.fcons .bool (.fcons (.int .u32) (.fcons (.int .i64) (.fcons (.int .u64) .fnil))))))))))) (.fcons (.int .i64) (.fcons .str (.fcons (.sl (.fcons (.int .i64) (.fcons .str .fnil))) (.fcons (.int .i64) (.fcons .str (.fcons .bool (.fcons (.int .u64) (.fcons (.fcons (.sl .str) (.fcons (.sl (.fcons (.int .i64) (.fcons .str .fnil))) (.fcons (.int .i64) .fnil))) (.fcons (.sl (.fcons (.int .i64) (.fcons .str .fnil))) .fnil))))))))))))))) fits0 (hval 0 _ v0 rfl rfl) h0
 have l0 := w0 fun m hm => by
  have := List.all_eq_true.1 hsz m (DataW.weights_mem_each (j := 0) rfl rfl m hm)
  simpa using this
 obtain ⟨x1, k1, w1⟩ := Ty.opened (.fcons (.sl (.int .u32)) (.fcons .str (.fcons (.int .i64) (.fcons (.int .u32) .fnil)))) fits1 (hval 1 _ v1 rfl rfl) h1
 have l1 := w1 fun m hm => by
  have := List.all_eq_true.1 hsz m (DataW.weights_mem_each (j := 1) rfl rfl m hm)
  simpa using this
 obtain ⟨x2, k2, w2⟩ := Ty.opened (.int .i64) fits2 (hval 2 _ v2 rfl rfl) h2
 have l2 := w2 fun m hm => by
  have := List.all_eq_true.1 hsz m (DataW.weights_mem_each (j := 2) rfl rfl m hm)
  simpa using this
 obtain ⟨x3, k3, w3⟩ := Ty.opened (.int .i64) fits3 (hval 3 _ v3 rfl rfl) h3
 have l3 := w3 fun m hm => by
  have := List.all_eq_true.1 hsz m (DataW.weights_mem_each (j := 3) rfl rfl m hm)
  simpa using this
 obtain ⟨x4, k4, w4⟩ := Ty.opened (.int .i64) fits4 (hval 4 _ v4 rfl rfl) h4
 have l4 := w4 fun m hm => by
  have := List.all_eq_true.1 hsz m (DataW.weights_mem_each (j := 4) rfl rfl m hm)
  simpa using this
 clear hA0 hval0
 refine (V.law_true (xs := [v0, v1, v2, v3, v4]) (V.right_law x0 x1 x2 x3 x4 (V.good_val k0) (V.good_val k1) (V.good_val k2) (V.good_val k3) (V.good_val k4) l0 l1 l2 l3 l4) ⟨_, _, rfl, V.val_sound (by rfl) k0, ⟨_, _, rfl, V.val_sound (by rfl) k1, ⟨_, _, rfl, V.val_sound (by rfl) k2, ⟨_, _, rfl, V.val_sound (by rfl) k3, ⟨_, _, rfl, V.val_sound (by rfl) k4, rfl⟩⟩⟩⟩⟩).mono fun e W' ⟨he, bel⟩ => ?_
 subst he
 exact ⟨_, rfl, _, _, _, [], p, [], hW', trodAll_mk1 (shut_bool (show Try.prog.underlying 4 = some .bool from Try.underlying4) _), trodAll_below laidOut bel _ _ _ _ hread hA, rfl, Below.frame bel _, fun h => by cases h⟩

theorem over : Rows.procRightRow.holds Try.pinned (OpenSpec.ofChange Rows.procRightSpec) :=
 OpenClaim.holds_of_wide 12 Try.f12 rfl rfl rfl rfl rfl rfl rfl ⟨rfl, rfl, rfl, rfl, rfl⟩ rfl rfl rfl rfl rfl (by kernel_rfl) Try.func12 (by kernel_rfl)
  (of_decide_eq_true (by kernel_rfl)) (by unfold Func.isWrapper; first | (rw [if_pos (by decide +kernel)]; kernel_rfl) | (rw [if_neg (by decide +kernel)]; exact ⟨rfl, rfl⟩))
  (fun os started H enc _ => lifted os started H enc)

theorem proved : Rows.ProcRightSaid := over
#print axioms proved
end Go.Proofs.Ytpdhdkpebbfnnaa.procRight
