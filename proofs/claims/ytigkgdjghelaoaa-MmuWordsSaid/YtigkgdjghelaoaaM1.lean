/-
  MMU, part 1: a space, the frame and the place of an address.
-/
import Derived.Test.YtigkgdjghelaoaaVset
set_option linter.unusedVariables false
set_option linter.unusedSimpArgs false
namespace Go.Proofs.Ytigkgdjghelaoaa.V
open Go
set_option maxRecDepth 100000
set_option maxHeartbeats 1000000
structure Pte where
  is : Bool
  wr : Bool
  fr : Int
instance : Inhabited Pte := ⟨⟨false, false, 0⟩⟩
def encPte (p : Pte) : VV := .agg [.bool p.is, .bool p.wr, .int .i64 p.fr]
abbrev encSpace (l : List Pte) : VV := .agg (l.map encPte)
abbrev encStrs (l : List (List UInt8)) : VV := .dat .cell (l.map .str)
theorem hasPte (x : Pte) : Has (.st [.cell, .cell, .cell]) (encPte x) := by simp [encPte, Has, HasL, VV.leaf]
theorem hasSpace (l : List Pte) (h : l.length = 16) : Has (.arr 16 (.st [.cell, .cell, .cell])) (.agg (l.map encPte)) := has_arrMap h hasPte
theorem nls_pte (l : List Pte) : nls (l.map encPte) = true := nls_map _ (fun _ => rfl) l
/-- the frame, and the place in it, of an address -/
def findO (s : List Pte) (a size : Int) (wr : Bool) : Option (Int × Int) :=
  if ¬(size = 1 ∨ size = 4) ∨ 2048 ≤ a ∨ a % size ≠ 0 then none
  else if (s.getD (a / 128).toNat default).is = false then none
  else if wr = true ∧ (s.getD (a / 128).toNat default).wr = false then none
  else some ((s.getD (a / 128).toNat default).fr, a % 128)
def findV : Option (Int × Int) → VV
  | some (f, i) => .tup [.int .i64 f, .int .i64 i, .bool true]
  | none => .tup [.int .i64 0, .int .i64 0, .bool false]
theorem find_spec (l : List Pte) (hl : l.length = 16) (a : Int) (ha : 0 ≤ a ∧ a < 2 ^ 32) (size : Int) (wr : Bool) :
    Spec Try.prog 24 [encSpace l, .int .u32 a, .int .i64 size, .bool wr] (findV (findO l a size wr)) := by
  have hS := hasSpace l hl
  refine spec_ok Try.func24 rfl rfl (by kernel_rfl) (k := 4) rfl (by decide) ?_
  repeat' (first | (with_reducible first | refine ok_seq ?_ | refine xs1 ?_ | refine xs2 ?_ | refine xs3 ?_ | refine xb1 ?_ | refine xb2 ?_ | refine xb3 (by decide) ?_ | refine xb4 ?_ | refine xl2 ?_ | refine xl3 ?_ | refine xc2 ?_ | refine xc3 ?_ | refine ok_block ?_ | refine ok_scope ?_ | refine ok_skip ?_ | refine ok_label ?_ | refine ok_exit ?_ | refine ok_ret ?_ | refine ok_region (fun M hM => ?_) | refine vif_t ?_ | refine vif_f ?_ | refine fin_normal ?_ | refine fin_ret ?_ | (refine hM _ ?_; clear hM M)) | ((with_reducible refine nls_q ?_) <;> (first | rfl | assumption | (simp only [znl]; (first | done | fail)))) | (with_reducible refine ok_cond (by (simp only [↓reduceIte,zlk,Nat.reduceEqDiff,reduceCtorEq]); exact rfl) ?_) | ((with_reducible first | refine vif_intro (fun hc => ?_) (fun hc => ?_) | refine vifW_intro (fun hc => ?_) (fun hc => ?_)) <;> (try simp (disch := omega) only [zhb] at hc) <;> (try (exfalso; omega)) <;> (try subst hc)) | (with_reducible refine cndW_intro (by omega) ?_) | (simp (config := { maxSteps := 400000 }) only [↓zvs_pre,↓reduceIte,zvs,reduceCtorEq,Nat.reduceEqDiff,Nat.reduceAdd,Nat.reduceLeDiff,Nat.reduceMul,Int.reduceBNe,Int.reduceBEq,Int.reduceEq,Int.reduceNe,Int.reduceLT,Int.reduceLE,Int.reduceGT,Int.reduceGE,Int.reduceNeg,Int.reduceToNat,Nat.reduceLT,Nat.reduceSub,tab,hS,encPte, Try.results24,List.toList_toArray]) | (simp (disch := omega) only [ziw]))
  all_goals (unfold findO; (repeat' split))
  all_goals first
    | (exfalso; omega)
    | (simp only [findV]; simp only [zrds]; done)
    | (exfalso; simp_all; done)
    | (simp only [findV]; simp only [zrds]; simp_all; done)
theorem findO_some {s : List Pte} {a size : Int} {wr : Bool} {f i : Int} (h0 : 0 ≤ a) (h : findO s a size wr = some (f, i)) :
    (size = 1 ∨ size = 4) ∧ a < 2048 ∧ a % size = 0 ∧ (s.getD (a / 128).toNat default).is = true ∧ (wr = true → (s.getD (a / 128).toNat default).wr = true) ∧ f = (s.getD (a / 128).toNat default).fr ∧ i = a % 128 ∧ 0 ≤ i ∧ i + size ≤ 128 := by
  unfold findO at h
  split at h
  · cases h
  · split at h
    · cases h
    · split at h
      · cases h
      · rename_i h1 h2 h3
        injection h with h
        injection h with h4 h5
        have h6 : (size = 1 ∨ size = 4) ∧ a < 2048 ∧ a % size = 0 := by
          refine ⟨?_, ?_, ?_⟩
          · exact Decidable.byContradiction fun hc => h1 (.inl hc)
          · exact Decidable.byContradiction fun hc => h1 (.inr (.inl (by omega)))
          · exact Decidable.byContradiction fun hc => h1 (.inr (.inr hc))
        refine ⟨h6.1, h6.2.1, h6.2.2, by simpa using h2, fun hw => by simpa [hw] using h3, h4.symm, h5.symm, by omega, ?_⟩
        obtain ⟨h7, h8, h9⟩ := h6
        rcases h7 with rfl | rfl <;> omega
end Go.Proofs.Ytigkgdjghelaoaa.V
