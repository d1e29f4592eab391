/-
  MMU, part 1: a space, the frame and the place of an address.
-/
import Derived.Test.YtigkgdjghelaoaaVlib
set_option linter.unusedVariables false
set_option linter.unusedSimpArgs false
namespace Go.Proofs.Ytigkgdjghelaoaa.V
open Go
set_option maxRecDepth 100000
set_option maxHeartbeats 1000000
structure Pte where
  is : Bool
  wr : Bool
  fr : Int
instance : Inhabited Pte := ⟨⟨false, false, 0⟩⟩
def encPte (p : Pte) : VV := .agg [.bool p.is, .bool p.wr, .int .i64 p.fr]
abbrev encSpace (l : List Pte) : VV := .agg (l.map encPte)
abbrev encStrs (l : List (List UInt8)) : VV := .dat .cell (l.map .str)
theorem hasPte (x : Pte) : Has (.st [.cell, .cell, .cell]) (encPte x) := by simp [encPte, Has, HasL, VV.leaf]
theorem hasSpace (l : List Pte) (h : l.length = 16) : Has (.arr 16 (.st [.cell, .cell, .cell])) (.agg (l.map encPte)) := has_arrMap h hasPte
theorem nls_pte (l : List Pte) : nls (l.map encPte) = true := nls_map _ (fun _ => rfl) l
/-- the frame, and the place in it, of an address -/
def findO (s : List Pte) (a size : Int) (wr : Bool) : Option (Int × Int) :=
  if ¬(size = 1 ∨ size = 4) ∨ 2048 ≤ a ∨ a % size ≠ 0 then none
  else if (s.getD (a / 128).toNat default).is = false then none
  else if wr = true ∧ (s.getD (a / 128).toNat default).wr = false then none
  else some ((s.getD (a / 128).toNat default).fr, a % 128)
def findV : Option (Int × Int) → VV
  | some (f, i) => .tup [.int .i64 f, .int .i64 i, .bool true]
  | none => .tup [.int .i64 0, .int .i64 0, .bool false]
theorem find_spec (l : List Pte) (hl : l.length = 16) (a : Int) (ha : 0 ≤ a ∧ a < 2 ^ 32) (size : Int) (wr : Bool) :
    Spec Try.prog 24 [encSpace l, .int .u32 a, .int .i64 size, .bool wr] (findV (findO l a size wr)) := by
  have hS := hasSpace l hl
  refine spec_ok Try.func24 rfl rfl (by kernel_rfl) (k := 4) rfl (by decide) ?_
  repeat' (first | (with_reducible refine ok_seq ?_) | (with_reducible refine xs1 ?_) | (with_reducible refine xs2 ?_) | (with_reducible refine xs3 ?_) | (with_reducible refine xb1 ?_) | (with_reducible refine xb2 ?_) | (with_reducible refine xb3 (by decide) ?_) | (with_reducible refine xb4 ?_) | (with_reducible refine xl2 ?_) | (with_reducible refine xl3 ?_) | (with_reducible refine xc2 ?_) | (with_reducible refine xc3 ?_) | (with_reducible refine ok_block ?_) | (with_reducible refine ok_scope ?_) | (with_reducible refine ok_skip ?_) | (with_reducible refine ok_label ?_) | (with_reducible refine ok_exit ?_) | (with_reducible refine ok_ret ?_) | (with_reducible refine ok_region (fun M hM => ?_)) | (with_reducible refine vif_t ?_) | (with_reducible refine vif_f ?_) | (with_reducible refine fin_normal ?_) | (with_reducible refine fin_ret ?_) | (with_reducible refine hM _ ?_; clear hM M) | (with_reducible refine ok_cond (by (simp (config := { dsimp := false, implicitDefEqProofs := false }) only [ev,ofV,put,argsF,upd_ap,slots_cons,slots_nil,Nat.reduceEqDiff,reduceCtorEq,if_true,if_false,↓reduceIte]); exact rfl) ?_) | ((with_reducible refine vif_intro (fun hc => ?_) (fun hc => ?_)) <;> (try simp (config := { dsimp := false, implicitDefEqProofs := false }) (disch := omega) only [IntWalk.i64_in,IntWalk.i32_in,IntWalk.u8_in,IntWalk.u64_in,IntWalk.u32_in,IntWalk.u16_in,dvalid,mvalid,decide_eq_true_eq,decide_eq_false_iff_not,beq_iff_eq,bne_iff_ne,beq_eq_false_iff_ne,bne_eq_false_iff_eq,ne_eq,Decidable.not_not,Bool.not_eq_true',Bool.not_eq_false',Int.not_lt,Int.not_le,ge_iff_le,gt_iff_lt,List.length_map,not_true_eq_false,not_false_eq_true,Bool.not_true,Bool.not_false,Bool.true_eq_false,Bool.false_eq_true] at hc) <;> (try (exfalso; omega)) <;> (try subst hc)) | ((with_reducible refine vifW_intro (fun hc => ?_) (fun hc => ?_)) <;> (try simp (config := { dsimp := false, implicitDefEqProofs := false }) (disch := omega) only [IntWalk.i64_in,IntWalk.i32_in,IntWalk.u8_in,IntWalk.u64_in,IntWalk.u32_in,IntWalk.u16_in,dvalid,mvalid,decide_eq_true_eq,decide_eq_false_iff_not,beq_iff_eq,bne_iff_ne,beq_eq_false_iff_ne,bne_eq_false_iff_eq,ne_eq,Decidable.not_not,Bool.not_eq_true',Bool.not_eq_false',Int.not_lt,Int.not_le,ge_iff_le,gt_iff_lt,List.length_map,not_true_eq_false,not_false_eq_true,Bool.not_true,Bool.not_false,Bool.true_eq_false,Bool.false_eq_true] at hc) <;> (try (exfalso; omega)) <;> (try subst hc)) | (with_reducible refine cndW_intro (by omega) ?_) | (simp (config := { maxSteps := 400000, dsimp := false, implicitDefEqProofs := false }) only [argsF,↓s_nil,↓s_cons,↓s_guard,↓r_tmp,↓r_cell,↓vop,↓vBox,↓vPick,↓vLoad,↓vStore,↓vNilCheck,↓vBin,↓vBinX,↓vBinH,↓vMax,↓vArrPtr,↓vEq,↓vNil,↓vEither_w,↓vbin,↓vUn,↓vField,↓vConv,↓vConvert,↓vToStr,↓vToBytes,↓vIndexAddr,↓vFieldAddr,↓vIndex,↓vExtract,↓vAlloc,↓vBuild,↓vBuildSlice,↓vMakeSlice,↓vSlice,↓lohi,↓vAppend,↓srcOf,↓vCall,↓vBuiltin,↓vLen,↓vMin,↓vMakeFunc,↓onV_w,↓bnd_w,↓cnd_w,↓vif_w,↓vcall_w,bndW_some,cndW_true,vifW_true,vifW_false,onW_int,onW_bool,onW_str,onW_agg,onW_tup,onW_sl,onW_ptr,onW_fn,onW_map,onW_dat,onW_pd,onW_raw,ev,ofV,put,upd_ap,reduceCtorEq,dstAt,Bool.not_true,Bool.not_false,true_and,and_true,Bool.true_beq,Bool.false_beq,beq_true,beq_false,BEq.rfl,Nat.reduceEqDiff,if_true,if_false,↓reduceIte,get_nil,get_cons,set_nil,set_cons,at_nil,at_st,at_arr,List.getElem?_toArray,List.getElem?_cons_zero,List.getElem?_cons_succ,List.map_cons,List.map_nil,Option.map_some,Option.map_none,↓vres,↓vresL,Nat.reduceAdd,List.set_cons_zero,List.set_cons_succ,List.nil_append,List.cons_append,List.append_nil,setParts,HasParts,List.length_map,List.length_append,List.length_replicate,List.length_set,List.length_cons,List.length_nil,List.length_take,List.length_drop,Nat.zero_le,↓h_nil,↓h_cons,↓h_guard,↓vopH,↓vCallH,↓vAppendH,↓vcallH_w,List.take_succ_cons,List.take_zero,List.drop_succ_cons,List.drop_zero,List.take_nil,List.drop_nil,Nat.reduceLeDiff,Nat.le_refl,slots_cons,slots_nil,rows_cons,rows_nil,List.all_cons,List.all_nil,notTup,Bool.and_self,Bool.and_true,Bool.true_and,has_str,has_int,has_bool,has_sl,has_dat,has_ptr,has_fn,has_map,has_pd,has_st,hasl_c,hasl_n,Sh.size,Sh.sizes,Nat.reduceMul,ne_eq,not_false_eq_true,Int.reduceBNe,Int.reduceBEq,Int.reduceEq,Int.reduceNe,Int.reduceLT,Int.reduceLE,Int.reduceGT,Int.reduceGE,decide_true,decide_false,Int.reduceNeg,Int.reduceToNat,Bool.not_not,Int.toNat_natCast,ite_min,ite_max,ex_arr,Nat.sub_zero,Nat.add_zero,Nat.zero_add,default_str,default_u8,List.size_toArray,eq_self,List.replicate_zero,Nat.reduceLT,Nat.reduceSub,rep_one,rep_two,rep_three,bytes_one,bytes_two,bytesOf_enc,↓allm_cons,↓allm_nil,leaf_ptr,leaf_int,leaf_str,leaf_bool,leaf_sl,leaf_dat,leaf_fn,leaf_map,take_lenMap,List.take_length,veq_bool,fit_bool,tab,hS,encPte, Try.results24,List.toList_toArray]) | (simp (config := { dsimp := false, implicitDefEqProofs := false }) (disch := omega) only [IntWalk.i64_in,IntWalk.i32_in,IntWalk.u8_in,IntWalk.u64_in,IntWalk.u32_in,IntWalk.u16_in,dvalid,mvalid,map_getD,rep_get]))
  all_goals (unfold findO; (repeat' split))
  all_goals first
    | (exfalso; omega)
    | (simp only [findV]; simp only [rdt_t,rdt_i,rdt_b,rdt_s,rdt_a,rd_i,rd_b,rd_s,rd_a,rdl_c,rdl_n,and_true,true_and]; done)
    | (exfalso; simp_all; done)
    | (simp only [findV]; simp only [rdt_t,rdt_i,rdt_b,rdt_s,rdt_a,rd_i,rd_b,rd_s,rd_a,rdl_c,rdl_n,and_true,true_and]; simp_all; done)
theorem findO_some {s : List Pte} {a size : Int} {wr : Bool} {f i : Int} (h0 : 0 ≤ a) (h : findO s a size wr = some (f, i)) :
    (size = 1 ∨ size = 4) ∧ a < 2048 ∧ a % size = 0 ∧ (s.getD (a / 128).toNat default).is = true ∧ (wr = true → (s.getD (a / 128).toNat default).wr = true) ∧ f = (s.getD (a / 128).toNat default).fr ∧ i = a % 128 ∧ 0 ≤ i ∧ i + size ≤ 128 := by
  unfold findO at h
  split at h
  · cases h
  · split at h
    · cases h
    · split at h
      · cases h
      · rename_i h1 h2 h3
        injection h with h
        injection h with h4 h5
        have h6 : (size = 1 ∨ size = 4) ∧ a < 2048 ∧ a % size = 0 := by
          refine ⟨?_, ?_, ?_⟩
          · exact Decidable.byContradiction fun hc => h1 (.inl hc)
          · exact Decidable.byContradiction fun hc => h1 (.inr (.inl (by omega)))
          · exact Decidable.byContradiction fun hc => h1 (.inr (.inr hc))
        refine ⟨h6.1, h6.2.1, h6.2.2, by simpa using h2, fun hw => by simpa [hw] using h3, h4.symm, h5.symm, by omega, ?_⟩
        obtain ⟨h7, h8, h9⟩ := h6
        rcases h7 with rfl | rfl <;> omega
end Go.Proofs.Ytigkgdjghelaoaa.V
