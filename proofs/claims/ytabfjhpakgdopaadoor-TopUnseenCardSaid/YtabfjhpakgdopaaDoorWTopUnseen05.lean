/-
  Parts of the proof of TopUnseen: Vset, E0, E1, E2, E3, M1, M2, M3, Vshelf, M4, M5, M6, M7.
  Conditions: none.
-/
import Derived.Test.YtabfjhpakgdopaaDoorWTopUnseen04
import Derived.Lib.EndianBits
import Derived.Shelf.Strings.Builder1
import Derived.Shelf.Strings.Builder2
import Derived.Shelf.Strings.BuilderF
import Derived.Shelf.Strings.BuilderK
import Derived.Shelf.Strings.Builder2Cap
import Derived.Shelf.Strings.Prefix
import Derived.Shelf.Bits.Mul64
import Derived.Shelf.Strings.Repeat
import Derived.Shelf.Strings.BuilderCap
import Derived.Test.YtabfjhpakgdopaaDoorProg
section
/-
  SIMP's WORDS, BUNDLED (printed by mkset.py).
-/
set_option linter.unusedVariables false
set_option linter.defProp false
namespace Go.Proofs.YtabfjhpakgdopaaDoor.V
open Go Go.RowKit
def jt :=
  And.intro @s_nil <|
  And.intro @s_cons <|
  And.intro @s_guard <|
  And.intro @r_tmp <|
  And.intro @r_cell <|
  And.intro @vop.eq_1 <|
  And.intro @vBox.eq_1 <|
  And.intro @vPick.eq_1 <|
  And.intro @vLoad.eq_1 <|
  And.intro @vStore.eq_1 <|
  And.intro @vNilCheck.eq_1 <|
  And.intro @vBin.eq_1 <|
  And.intro @vBinX.eq_1 <|
  And.intro @vBinH.eq_1 <|
  And.intro @vMax.eq_1 <|
  And.intro @vArrPtr.eq_1 <|
  And.intro @vEq.eq_1 <|
  And.intro @vEq.eq_2 <|
  And.intro @vEq.eq_3 <|
  And.intro @vNil.eq_1 <|
  And.intro @vNil.eq_2 <|
  And.intro @vNil.eq_3 <|
  And.intro @vNil.eq_4 <|
  And.intro @vNil.eq_5 <|
  And.intro @vNil.eq_6 <|
  And.intro @vNil.eq_7 <|
  And.intro @vEither_w <|
  And.intro @vbin.eq_1 <|
  And.intro @vbin.eq_2 <|
  And.intro @vbin.eq_3 <|
  And.intro @vbin.eq_4 <|
  And.intro @vbin.eq_5 <|
  And.intro @vbin.eq_6 <|
  And.intro @vbin.eq_7 <|
  And.intro @vbin.eq_8 <|
  And.intro @vbin.eq_9 <|
  And.intro @vbin.eq_10 <|
  And.intro @vbin.eq_11 <|
  And.intro @vbin.eq_12 <|
  And.intro @vbin.eq_13 <|
  And.intro @vbin.eq_14 <|
  And.intro @vbin.eq_15 <|
  And.intro @vbin.eq_16 <|
  And.intro @vbin.eq_17 <|
  And.intro @vbin.eq_18 <|
  And.intro @vbin.eq_19 <|
  And.intro @vUn.eq_1 <|
  And.intro @vField.eq_1 <|
  And.intro @vConv.eq_1 <|
  And.intro @vConvert.eq_1 <|
  And.intro @vToStr.eq_1 <|
  And.intro @vToBytes.eq_1 <|
  And.intro @vIndexAddr.eq_1 <|
  And.intro @vFieldAddr.eq_1 <|
  And.intro @vIndex.eq_1 <|
  And.intro @vExtract.eq_1 <|
  And.intro @vAlloc.eq_1 <|
  And.intro @vBuild.eq_1 <|
  And.intro @vBuildSlice.eq_1 <|
  And.intro @vMakeSlice.eq_1 <|
  And.intro @vSlice.eq_1 <|
  And.intro @lohi.eq_1 <|
  And.intro @lohi.eq_2 <|
  And.intro @lohi.eq_3 <|
  And.intro @lohi.eq_4 <|
  And.intro @vAppend.eq_1 <|
  And.intro @srcOf.eq_1 <|
  And.intro @vCall.eq_1 <|
  And.intro @vBuiltin.eq_1 <|
  And.intro @vBuiltin.eq_2 <|
  And.intro @vBuiltin.eq_3 <|
  And.intro @vBuiltin.eq_4 <|
  And.intro @vBuiltin.eq_5 <|
  And.intro @vBuiltin.eq_6 <|
  And.intro @vBuiltin.eq_7 <|
  And.intro @vLenM.eq_1 <|
  And.intro @vLen.eq_1 <|
  And.intro @vClear.eq_1 <|
  And.intro @vCopy.eq_1 <|
  And.intro @vSplice.eq_1 <|
  And.intro @vMin.eq_1 <|
  And.intro @vMakeFunc.eq_1 <|
  And.intro @vMakeMap.eq_1 <|
  And.intro @vLookup.eq_1 <|
  And.intro @vMapUpdate.eq_1 <|
  And.intro @onV_w <|
  And.intro @bnd_w <|
  And.intro @cnd_w <|
  And.intro @vif_w <|
  And.intro @vcall_w <|
  And.intro @vres.eq_1 <|
  And.intro @vresL.eq_1 <|
  And.intro @vresL.eq_2 <|
  And.intro @h_nil <|
  And.intro @h_cons <|
  And.intro @h_guard <|
  And.intro @vopH.eq_1 <|
  And.intro @vCallH.eq_1 <|
  And.intro @vAppendH.eq_1 <|
  And.intro @vAppendF.eq_1 <|
  And.intro @vBuildSliceH.eq_1 <|
  And.intro @vcallH_w <|
  And.intro @allm_cons <|
  And.intro @allm_nil <| True.intro
def zvs :=
  And.intro @argsF.eq_1 <|
  And.intro @argsF.eq_2 <|
  And.intro @some_nat <|
  And.intro @untup.eq_1 <|
  And.intro @untup.eq_2 <|
  And.intro @isStrV.eq_1 <|
  And.intro @isStrV.eq_2 <|
  And.intro @keyV.eq_1 <|
  And.intro @keyV.eq_2 <|
  And.intro @keyV.eq_3 <|
  And.intro @keyV.eq_4 <|
  And.intro @bndW_some <|
  And.intro @cndW_true <|
  And.intro @vifW_true <|
  And.intro @vifW_false <|
  And.intro @onW_int <|
  And.intro @onW_bool <|
  And.intro @onW_str <|
  And.intro @onW_agg <|
  And.intro @onW_tup <|
  And.intro @onW_sl <|
  And.intro @onW_ptr <|
  And.intro @onW_fn <|
  And.intro @onW_map <|
  And.intro @onW_dat <|
  And.intro @onW_pd <|
  And.intro @onW_raw <|
  And.intro @ev.eq_1 <|
  And.intro @ev.eq_2 <|
  And.intro @ev.eq_3 <|
  And.intro @ev.eq_4 <|
  And.intro @ofV.eq_1 <|
  And.intro @ofV.eq_2 <|
  And.intro @ofV.eq_3 <|
  And.intro @ofV.eq_4 <|
  And.intro @ofV.eq_5 <|
  And.intro @ofV.eq_6 <|
  And.intro @ofV.eq_7 <|
  And.intro @ofV.eq_8 <|
  And.intro @ofV.eq_9 <|
  And.intro @ofV.eq_10 <|
  And.intro @put.eq_1 <|
  And.intro @put.eq_2 <|
  And.intro @upd_ap <|
  And.intro @dstAt.eq_1 <|
  And.intro @dstAt.eq_2 <|
  And.intro @dstAt.eq_3 <|
  And.intro @Bool.not_true <|
  And.intro @Bool.not_false <|
  And.intro @true_and <|
  And.intro @and_true <|
  And.intro @Bool.true_beq <|
  And.intro @Bool.false_beq <|
  And.intro @beq_true <|
  And.intro @beq_false <|
  And.intro @BEq.rfl.{0} <|
  And.intro @if_true.{1} <|
  And.intro @if_false.{1} <|
  And.intro @get_nil <|
  And.intro @get_cons <|
  And.intro @set_nil <|
  And.intro @set_cons <|
  And.intro @at_nil <|
  And.intro @at_st <|
  And.intro @at_arr <|
  And.intro @List.getElem?_toArray.{0} <|
  And.intro @List.getElem?_cons_zero.{0} <|
  And.intro @List.getElem?_cons_succ.{0} <|
  And.intro @List.map_cons.{0,0} <|
  And.intro @List.map_nil.{0,0} <|
  And.intro @Option.map_some.{0,0} <|
  And.intro @Option.map_none.{0,0} <|
  And.intro @List.set_cons_zero.{0} <|
  And.intro @List.set_cons_succ.{0} <|
  And.intro @List.nil_append.{0} <|
  And.intro @List.cons_append.{0} <|
  And.intro @List.append_nil.{0} <|
  And.intro @setParts.eq_1 <|
  And.intro @setParts.eq_2 <|
  And.intro @HasParts.eq_1 <|
  And.intro @HasParts.eq_2 <|
  And.intro @List.length_map.{0,0} <|
  And.intro @List.length_append.{0} <|
  And.intro @List.length_replicate.{0} <|
  And.intro @List.length_set.{0} <|
  And.intro @List.length_cons.{0} <|
  And.intro @List.length_nil.{0} <|
  And.intro @List.length_take.{0} <|
  And.intro @List.length_drop.{0} <|
  And.intro @Nat.zero_le <|
  And.intro @List.take_succ_cons.{0} <|
  And.intro @List.take_zero.{0} <|
  And.intro @List.drop_succ_cons.{0} <|
  And.intro @List.drop_zero.{0} <|
  And.intro @List.take_nil.{0} <|
  And.intro @List.drop_nil.{0} <|
  And.intro @Nat.le_refl <|
  And.intro @slots_cons <|
  And.intro @slots_nil <|
  And.intro @rows_cons <|
  And.intro @rows_nil <|
  And.intro @List.all_cons.{0} <|
  And.intro @List.all_nil.{0} <|
  And.intro @notTup.eq_1 <|
  And.intro @notTup.eq_2 <|
  And.intro @Bool.and_self <|
  And.intro @Bool.and_true <|
  And.intro @Bool.true_and <|
  And.intro @has_str <|
  And.intro @has_int <|
  And.intro @has_bool <|
  And.intro @has_sl <|
  And.intro @has_dat <|
  And.intro @has_ptr <|
  And.intro @has_fn <|
  And.intro @has_map <|
  And.intro @has_pd <|
  And.intro @has_st <|
  And.intro @hasl_c <|
  And.intro @hasl_n <|
  And.intro @Sh.size.eq_1 <|
  And.intro @Sh.size.eq_2 <|
  And.intro @Sh.size.eq_3 <|
  And.intro @Sh.sizes.eq_1 <|
  And.intro @Sh.sizes.eq_2 <|
  And.intro @ne_eq.{1} <|
  And.intro @not_false_eq_true <|
  And.intro @decide_true <|
  And.intro @decide_false <|
  And.intro @Bool.not_not <|
  And.intro @Int.toNat_natCast <|
  And.intro @ite_min <|
  And.intro @ite_max <|
  And.intro @ex_arr <|
  And.intro @Nat.sub_zero <|
  And.intro @Nat.add_zero <|
  And.intro @Nat.zero_add <|
  And.intro @default_str <|
  And.intro @default_u8 <|
  And.intro @List.size_toArray.{0} <|
  And.intro @eq_self.{1} <|
  And.intro @List.replicate_zero.{0} <|
  And.intro @rep_one <|
  And.intro @rep_two <|
  And.intro @rep_three <|
  And.intro @bytes_one <|
  And.intro @bytes_two <|
  And.intro @bytesOf_enc <|
  And.intro @leaf_ptr <|
  And.intro @leaf_int <|
  And.intro @leaf_str <|
  And.intro @leaf_bool <|
  And.intro @leaf_sl <|
  And.intro @leaf_dat <|
  And.intro @leaf_fn <|
  And.intro @leaf_map <|
  And.intro @take_lenMap <|
  And.intro @List.take_length.{0} <|
  And.intro @veq_bool <|
  And.intro @fit_bool <| True.intro
def zhb :=
  And.intro @Go.IntWalk.i64_in <|
  And.intro @Go.IntWalk.i32_in <|
  And.intro @Go.IntWalk.u8_in <|
  And.intro @Go.IntWalk.u64_in <|
  And.intro @Go.IntWalk.u32_in <|
  And.intro @Go.IntWalk.u16_in <|
  And.intro @dvalid <|
  And.intro @mvalid <|
  And.intro @decide_eq_true_eq <|
  And.intro @decide_eq_false_iff_not <|
  And.intro @beq_iff_eq.{0} <|
  And.intro @bne_iff_ne.{0} <|
  And.intro @beq_eq_false_iff_ne.{0} <|
  And.intro @bne_eq_false_iff_eq.{0} <|
  And.intro @ne_eq.{1} <|
  And.intro @Decidable.not_not <|
  And.intro @Bool.not_eq_true' <|
  And.intro @Bool.not_eq_false' <|
  And.intro @Int.not_lt <|
  And.intro @Int.not_le <|
  And.intro @ge_iff_le.{0} <|
  And.intro @gt_iff_lt.{0} <|
  And.intro @List.length_map.{0,0} <|
  And.intro @not_true_eq_false <|
  And.intro @not_false_eq_true <|
  And.intro @Bool.not_true <|
  And.intro @Bool.not_false <|
  And.intro @Bool.true_eq_false <|
  And.intro @Bool.false_eq_true <| True.intro
def zlk :=
  And.intro @ev.eq_1 <|
  And.intro @ev.eq_2 <|
  And.intro @ev.eq_3 <|
  And.intro @ev.eq_4 <|
  And.intro @ofV.eq_1 <|
  And.intro @ofV.eq_2 <|
  And.intro @ofV.eq_3 <|
  And.intro @ofV.eq_4 <|
  And.intro @ofV.eq_5 <|
  And.intro @ofV.eq_6 <|
  And.intro @ofV.eq_7 <|
  And.intro @ofV.eq_8 <|
  And.intro @ofV.eq_9 <|
  And.intro @ofV.eq_10 <|
  And.intro @put.eq_1 <|
  And.intro @put.eq_2 <|
  And.intro @argsF.eq_1 <|
  And.intro @argsF.eq_2 <|
  And.intro @upd_ap <|
  And.intro @slots_cons <|
  And.intro @slots_nil <|
  And.intro @rows_cons <|
  And.intro @rows_nil <|
  And.intro @turn_cons <|
  And.intro @turn_nil <|
  And.intro @if_true.{1} <|
  And.intro @if_false.{1} <| True.intro
def znl :=
  And.intro @nl_slnil <|
  And.intro @nls_append <|
  And.intro @nls_mapB <|
  And.intro @nls_mapStr <|
  And.intro @nls_repInt <|
  And.intro @nls_repBool <|
  And.intro @nls_repStr <|
  And.intro @nls_cons <|
  And.intro @nls_nil <|
  And.intro @nl_int <|
  And.intro @nl_bool <|
  And.intro @nl_str <|
  And.intro @nl_agg <|
  And.intro @nl_dat <|
  And.intro @Bool.and_self <|
  And.intro @Bool.and_true <| True.intro
def ziw :=
  And.intro @Go.IntWalk.i64_in <|
  And.intro @Go.IntWalk.i32_in <|
  And.intro @Go.IntWalk.u8_in <|
  And.intro @Go.IntWalk.u64_in <|
  And.intro @Go.IntWalk.u32_in <|
  And.intro @Go.IntWalk.u16_in <|
  And.intro @dvalid <|
  And.intro @mvalid <|
  And.intro @map_getD <|
  And.intro @rep_get <| True.intro
def zrds :=
  And.intro @rdt_t <|
  And.intro @rdt_i <|
  And.intro @rdt_b <|
  And.intro @rdt_s <|
  And.intro @rdt_a <|
  And.intro @rd_i <|
  And.intro @rd_b <|
  And.intro @rd_s <|
  And.intro @rd_a <|
  And.intro @rdl_c <|
  And.intro @rdl_n <|
  And.intro @and_true <|
  And.intro @true_and <| True.intro
/-! ### short ways: steps told in one word; sides that close by themselves -/
inductive Rl : Prop → Prop → Prop
  | seq {P : Program} {n0 : Nat} {x y : Code} {S : VS} {K : VX → VS → Prop} : Rl (Ok P n0 x S (VX.seq (fun S' => Ok P n0 y S' K) K)) (Ok P n0 (.seq x y) S K)
  | s1 {N : VS → Prop} {K : VX → VS → Prop} {S : VS} : Rl (N S) (VX.seq N K .normal S)
  | s2 {N : VS → Prop} {K : VX → VS → Prop} {S : VS} {i : Nat} : Rl (K (.exit i) S) (VX.seq N K (.exit i) S)
  | s3 {N : VS → Prop} {K : VX → VS → Prop} {S : VS} : Rl (K .ret S) (VX.seq N K .ret S)
  | b1 {i : Nat} {K : VX → VS → Prop} {S : VS} : Rl (K .normal S) (VX.block i K .normal S)
  | b2 {i : Nat} {K : VX → VS → Prop} {S : VS} : Rl (K .normal S) (VX.block i K (.exit i) S)
  | b4 {i : Nat} {K : VX → VS → Prop} {S : VS} : Rl (K .ret S) (VX.block i K .ret S)
  | l2 {α : Type} {n0 : Nat} {fr : α → VS} {I : α → Prop} {μ : α → Nat} {m : Nat} {K : VX → VS → Prop} {S : VS} {i : Nat} : Rl (K (.exit i) S) (LX n0 fr I μ m K (.exit i) S)
  | l3 {α : Type} {n0 : Nat} {fr : α → VS} {I : α → Prop} {μ : α → Nat} {m : Nat} {K : VX → VS → Prop} {S : VS} : Rl (K .ret S) (LX n0 fr I μ m K .ret S)
  | c2 {α : Type} {n0 : Nat} {fr : α → VS} {I : α → Prop} {K : VX → VS → Prop} {S : VS} {i : Nat} : Rl (K (.exit i) S) (CX n0 fr I K (.exit i) S)
  | c3 {α : Type} {n0 : Nat} {fr : α → VS} {I : α → Prop} {K : VX → VS → Prop} {S : VS} : Rl (K .ret S) (CX n0 fr I K .ret S)
  | block {P : Program} {n0 id : Nat} {c : Code} {S : VS} {K : VX → VS → Prop} : Rl (Ok P n0 c S (VX.block id K)) (Ok P n0 (.block id c) S K)
  | scope {P : Program} {n0 : Nat} {c : Code} {S : VS} {K : VX → VS → Prop} : Rl (Ok P n0 c S K) (Ok P n0 (.scope c) S K)
  | skip {P : Program} {n0 : Nat} {S : VS} {K : VX → VS → Prop} : Rl (K .normal S) (Ok P n0 .skip S K)
  | label {P : Program} {n0 l : Nat} {S : VS} {K : VX → VS → Prop} : Rl (K .normal S) (Ok P n0 (.label l) S K)
  | exit {P : Program} {n0 i : Nat} {S : VS} {K : VX → VS → Prop} : Rl (K (.exit i) S) (Ok P n0 (.exit i) S K)
  | ret {P : Program} {n0 : Nat} {S : VS} {K : VX → VS → Prop} : Rl (K .ret S) (Ok P n0 .ret S K)
  | t {A B : Prop} : Rl A (vif true A B)
  | f {A B : Prop} : Rl B (vif false A B)
  | en {P : Program} {rs : List ResultVar} {k : VV → Heap → Nat → Prop} {tm : Nat → VV} {H : Heap} {n : Nat} : Rl (vres P ⟨tm, H, n⟩ rs fun v => k v H n) (fin P rs k .normal ⟨tm, H, n⟩)
  | bl {A B : Prop} : Rl A (bldH A B)
  | er {P : Program} {rs : List ResultVar} {k : VV → Heap → Nat → Prop} {tm : Nat → VV} {H : Heap} {n : Nat} : Rl (vres P ⟨tm, H, n⟩ rs fun v => k v H n) (fin P rs k .ret ⟨tm, H, n⟩)
theorem yrl {a b : Prop} (h : Rl a b) (h' : a) : b := by
  cases h with
  | seq => exact jr h'
  | s1 => exact h'
  | s2 => exact h'
  | s3 => exact h'
  | b1 => exact h'
  | b2 => exact xb2 h'
  | b4 => exact h'
  | l2 => exact h'
  | l3 => exact h'
  | c2 => exact h'
  | c3 => exact h'
  | block => exact jl h'
  | scope => exact jm h'
  | skip => exact jn h'
  | label => exact jo h'
  | exit => exact jp h'
  | ret => exact jq h'
  | t => exact vif_t h'
  | f => exact vif_f h'
  | en => exact h'
  | er => exact h'
  | bl => exact .inl h'
theorem yqa {P : Program} {f : FuncId} {args : List VV} {H : Heap} {n : Nat} {K : VV → Heap → Nat → Prop} {t : Tag H} {t' : Tag K} {r : VV} (h : Spec P f args r) (hn : nls args = true) (hk : K r H n) (ht : args.all notTup = true := by with_unfolding_all rfl) : vcallW P H K t t' f args n := ja (jc h hn ht hk)
theorem yqb {P : Program} {f : FuncId} {args : List VV} {H : Heap} {n : Nat} {K : VV → Heap → Nat → Prop} {t : Tag H} {t' : Tag K} {r : VV} (h : Spec P f args r) (hn : nls args = true) (hk : K r H n) (ht : args.all notTup = true := by with_unfolding_all rfl) : vcallHW P H K t t' f args n := jb (jd h ht hn) hk
section
variable {n0 : Nat} {σ : List (Nat × Nat)} {H : Heap} {fz : Bool} {tm : Nat → VV}
theorem ya1 {k : IntKind} {a b : Int} (h : a = b := by first | rfl | omega) : MR n0 σ H fz (.int k a) (.int k b) := ju h
theorem ya2 {a b : List UInt8} (h : a = b := by rfl) : MR n0 σ H fz (.str a) (.str b) := jv h
theorem ya3 {a b : Bool} (h : a = b := by rfl) : MR n0 σ H fz (.bool a) (.bool b) := jw h
theorem ya5 {m m' : Nat} {p : List Nat} {i n n' : Nat} (hn : n = n' := by first | rfl | omega) (h : known n0 σ m' := by first | exact jL (by decide) | exact jM (by decide)) (h' : turn σ m' = m := by decide) : MR n0 σ H fz (.sl (some (m, p, i)) n) (.sl (some (m', p, i)) n') := jD h h' hn
theorem ya7 {m m' : Nat} {p : List Nat} (h : known n0 σ m' := by first | exact jL (by decide) | exact jM (by decide)) (h' : turn σ m' = m := by decide) : MR n0 σ H fz (.ptr m p) (.ptr m' p) := MR.ptr h h'
theorem ya8 {m m' : Nat} (h : known n0 σ m' := by first | exact jL (by decide) | exact jM (by decide)) (h' : turn σ m' = m := by decide) : MR n0 σ H fz (.map m) (.map m') := MR.map h h'
theorem ya9 {m k n : Nat} {e : Sh} {els els' : List VV} (h2 : n = els.length) (he : els = els') (h3 : nls els' = true) (h : fz = true := by rfl) (h1 : H m = some (.row (.arr k e) (.agg els)) := by simp only [↓reduceIte,zlk,Nat.reduceEqDiff,reduceCtorEq]; exact rfl) (h4 : m ∉ σ.map (·.2) := by decide) : MR n0 σ H fz (.sl (some (m, [], 0)) n) (.dat e els') := jB h h1 h2 he h3 h4
theorem yb1 {k : Nat} {b0 b : Blk} {l : List (Nat × Blk)} (hm : MB n0 σ H fz b0 b) (h' : AllB n0 σ H fz l) (hk : known n0 σ k := by first | exact jL (by decide) | exact jM (by decide)) (h : H (turn σ k) = some b0 := by simp only [↓reduceIte,zlk,Nat.reduceEqDiff,reduceCtorEq]; exact rfl) : AllB n0 σ H fz ((k, b) :: l) := jH hk h hm h'
theorem yb2 {k : Nat} {b : Blk} {l : List (Nat × Blk)} (h' : AllB n0 σ H fz l) (hk : (decide (k < n0) || (σ.map (·.1)).contains k) = false := by decide) : AllB n0 σ H fz ((k, b) :: l) := jK hk h'
theorem yrn {n n' : Nat} {l : List (Nat × VV)} {h : List (Nat × Blk)} (σ : List (Nat × Nat)) (fz : Bool) (h1 : AllS n0 σ H fz tm l) (h3 : AllB n0 σ H fz h) (hfz : fz = true → n0 = 0 := by first | (intro h; cases h; done) | exact fun _ => rfl) (hσ : jN n0 n' (h.map (·.1)) σ = true := by first | decide | rfl | (simp [jN]; done)) (hn : n0 ≤ n' := by decide) :
    Ren n0 ⟨tm, H, n⟩ ⟨slots l, rows h, n'⟩ := Ren.mk σ fz hfz hσ hn h1 h3
end
end Go.Proofs.YtabfjhpakgdopaaDoor.V
end
section
/-
  TABLES of the program.
-/
set_option linter.unusedVariables false
namespace Go.Proofs.YtabfjhpakgdopaaDoor.V
open Go
theorem tab0 : tabOf (.pointer (some ⟨0, 0, none⟩)) = some (.arr 5 .cell, .agg (numL.map (.int .u8))) := rfl
theorem tab1 : tabOf (.pointer (some ⟨1, 0, none⟩)) = some (.arr 32 .cell, .agg (nameL.map .str)) := rfl
end Go.Proofs.YtabfjhpakgdopaaDoor.V
end
section
/-
  INSTRUCTIONS: what an operation has; words and instructions.
-/
set_option linter.unusedVariables false
set_option linter.unusedSimpArgs false
namespace Go.Proofs.YtabfjhpakgdopaaDoor.V
open Go
set_option maxRecDepth 100000
set_option maxHeartbeats 4000000
structure Ins where
  op : Int
  a : Int
  b : Int
  c : Int
  imm : Int
deriving DecidableEq
instance : Inhabited Ins := ⟨⟨0, 0, 0, 0, 0⟩⟩
def encIns (x : Ins) : VV := .agg [.int .u8 x.op, .int .u8 x.a, .int .u8 x.b, .int .u8 x.c, .int .i32 x.imm]
structure InsR (x : Ins) : Prop where
  op : 0 ≤ x.op ∧ x.op ≤ 255
  a : 0 ≤ x.a ∧ x.a ≤ 255
  b : 0 ≤ x.b ∧ x.b ≤ 255
  c : 0 ≤ x.c ∧ x.c ≤ 255
  imm : -2147483648 ≤ x.imm ∧ x.imm ≤ 2147483647
def hA (op : Int) : Bool := decide (1 ≤ op ∧ op ≤ 30)
def hB (op : Int) : Bool := decide (1 ≤ op ∧ op ≤ 30 ∧ op ≠ 19 ∧ op ≠ 29)
def hC (op : Int) : Bool := decide (1 ≤ op ∧ op ≤ 13)
def hI (op : Int) : Bool := decide (14 ≤ op ∧ op ≤ 31)
def okOp (op : Int) : Bool := decide (1 ≤ op ∧ op ≤ 31)
theorem pfields_spec (op : Int) (h : 0 ≤ op ∧ op ≤ 255) : Spec Tryd.prog 65 [.int .u8 op] (.tup [.agg [.bool (hA op), .bool (hB op), .bool (hC op), .bool (hI op)], .bool (okOp op)]) := by
  obtain ⟨a, ha⟩ : ∃ a, a = hA op := ⟨_, rfl⟩
  obtain ⟨b, hb⟩ : ∃ a, a = hB op := ⟨_, rfl⟩
  obtain ⟨c, hcc⟩ : ∃ a, a = hC op := ⟨_, rfl⟩
  obtain ⟨i, hi⟩ : ∃ a, a = hI op := ⟨_, rfl⟩
  obtain ⟨k, hk⟩ : ∃ a, a = okOp op := ⟨_, rfl⟩
  rw [← ha, ← hb, ← hcc, ← hi, ← hk]
  refine spec_ok Tryd.func65 rfl rfl (by kernel_rfl) (k := 1) rfl (by decide) ?_
  repeat' (first|(with_reducible first|refine yrl (by constructor) ?_|refine jk (fun M hM=>?_)|(refine hM _ ?_;clear hM M)|refine xb3 (by decide) ?_)|((with_reducible refine je ?_)<;>(first|rfl|assumption|(simp only [znl];(first|done|fail))))|(with_reducible refine jf (by (simp only [↓reduceIte,zlk,Nat.reduceEqDiff,reduceCtorEq]);exact rfl) ?_)|((with_reducible first|refine jg (fun hc=>?_) (fun hc=>?_)|refine jh (fun hc=>?_) (fun hc=>?_))<;>(try simp (disch:=omega) only [zhb] at hc)<;>(try (exfalso;omega))<;>(try subst hc))|(with_reducible refine ji (by omega) ?_)|(simp (config := { maxSteps := 400000 }) only [↓jt,↓reduceIte,zvs,reduceCtorEq,Nat.reduceEqDiff,Nat.reduceAdd,Nat.reduceLeDiff,Nat.reduceMul,Int.reduceBNe,Int.reduceBEq,Int.reduceEq,Int.reduceNe,Int.reduceLT,Int.reduceLE,Int.reduceGT,Int.reduceGE,Int.reduceNeg,Int.reduceToNat,Nat.reduceLT,Nat.reduceSub,tab,Tryd.results65,List.toList_toArray])|(simp (disch:=omega) only [ziw]))
  all_goals first
    | (exfalso; omega)
    | skip
  all_goals (
    unfold hA at ha; unfold hB at hb; unfold hC at hcc; unfold hI at hi; unfold okOp at hk
    first
    | rw [decide_eq_true (by omega)] at ha
    | rw [decide_eq_false (by omega)] at ha
    first
    | rw [decide_eq_true (by omega)] at hb
    | rw [decide_eq_false (by omega)] at hb
    first
    | rw [decide_eq_true (by omega)] at hcc
    | rw [decide_eq_false (by omega)] at hcc
    first
    | rw [decide_eq_true (by omega)] at hi
    | rw [decide_eq_false (by omega)] at hi
    first
    | rw [decide_eq_true (by omega)] at hk
    | rw [decide_eq_false (by omega)] at hk
    subst ha hb hcc hi hk
    simp only [zrds])
def unsB (op : Int) : Bool := decide ((15 ≤ op ∧ op ≤ 17) ∨ op = 19 ∨ op = 31)
theorem punsigned_spec (op : Int) (h : 0 ≤ op ∧ op ≤ 255) : Spec Tryd.prog 73 [.int .u8 op] (.bool (unsB op)) := by
  obtain ⟨a, ha⟩ : ∃ a, a = unsB op := ⟨_, rfl⟩
  rw [← ha]
  unfold unsB at ha
  refine spec_ok Tryd.func73 rfl rfl (by kernel_rfl) (k := 1) rfl (by decide) ?_
  repeat' (first|(with_reducible first|refine yrl (by constructor) ?_|refine jk (fun M hM=>?_)|(refine hM _ ?_;clear hM M)|refine xb3 (by decide) ?_)|((with_reducible refine je ?_)<;>(first|rfl|assumption|(simp only [znl];(first|done|fail))))|(with_reducible refine jf (by (simp only [↓reduceIte,zlk,Nat.reduceEqDiff,reduceCtorEq]);exact rfl) ?_)|((with_reducible first|refine jg (fun hc=>?_) (fun hc=>?_)|refine jh (fun hc=>?_) (fun hc=>?_))<;>(try simp (disch:=omega) only [zhb] at hc)<;>(try (exfalso;omega))<;>(try subst hc))|(with_reducible refine ji (by omega) ?_)|(simp (config := { maxSteps := 400000 }) only [↓jt,↓reduceIte,zvs,reduceCtorEq,Nat.reduceEqDiff,Nat.reduceAdd,Nat.reduceLeDiff,Nat.reduceMul,Int.reduceBNe,Int.reduceBEq,Int.reduceEq,Int.reduceNe,Int.reduceLT,Int.reduceLE,Int.reduceGT,Int.reduceGE,Int.reduceNeg,Int.reduceToNat,Nat.reduceLT,Nat.reduceSub,tab,Tryd.results73,List.toList_toArray])|(simp (disch:=omega) only [ziw]))
  all_goals first
    | (exfalso; omega)
    | (simp only [zrds]; rw [ha]; first | (simp; done) | (simp; omega))
    | (simp only [zrds]; rw [ha, Bool.eq_iff_iff]; simp; omega)
    | trace_state
def fitsI (op n : Int) : Bool := if unsB op = true then decide (0 ≤ n ∧ n ≤ 65535) else decide (-32768 ≤ n ∧ n ≤ 32767)
theorem pfits_spec (op n : Int) (h : 0 ≤ op ∧ op ≤ 255) : Spec Tryd.prog 66 [.int .u8 op, .int .i32 n] (.bool (fitsI op n)) := by
  have hU := punsigned_spec op h
  obtain ⟨a, ha⟩ : ∃ a, a = fitsI op n := ⟨_, rfl⟩
  rw [← ha]
  unfold fitsI at ha
  cases hu : unsB op with
  | true =>
    rw [hu] at hU ha
    rw [if_pos rfl] at ha
    refine spec_ok Tryd.func66 rfl rfl (by kernel_rfl) (k := 2) rfl (by decide) ?_
    repeat' (first|(with_reducible first|refine yrl (by constructor) ?_|refine jk (fun M hM=>?_)|(refine hM _ ?_;clear hM M)|refine xb3 (by decide) ?_|refine yqa (by assumption) ?_ ?_|refine yqb (by assumption) ?_ ?_)|((with_reducible refine je ?_)<;>(first|rfl|assumption|(simp only [znl];(first|done|fail))))|(with_reducible refine jf (by (simp only [↓reduceIte,zlk,Nat.reduceEqDiff,reduceCtorEq]);exact rfl) ?_)|((with_reducible first|refine jg (fun hc=>?_) (fun hc=>?_)|refine jh (fun hc=>?_) (fun hc=>?_))<;>(try simp (disch:=omega) only [zhb] at hc)<;>(try (exfalso;omega))<;>(try subst hc))|(with_reducible refine ji (by omega) ?_)|(simp (config := { maxSteps := 400000 }) only [↓jt,↓reduceIte,zvs,reduceCtorEq,Nat.reduceEqDiff,Nat.reduceAdd,Nat.reduceLeDiff,Nat.reduceMul,Int.reduceBNe,Int.reduceBEq,Int.reduceEq,Int.reduceNe,Int.reduceLT,Int.reduceLE,Int.reduceGT,Int.reduceGE,Int.reduceNeg,Int.reduceToNat,Nat.reduceLT,Nat.reduceSub,tab,Tryd.results66,List.toList_toArray])|(simp (disch:=omega) only [ziw]))
    all_goals first
      | (exfalso; omega)
      | (simp only [zrds]; rw [ha]; first | (simp; done) | (simp; omega))
      | (simp only [zrds]; rw [ha, Bool.eq_iff_iff]; simp; omega)
      | trace_state
  | false =>
    rw [hu] at hU ha
    rw [if_neg (by decide)] at ha
    refine spec_ok Tryd.func66 rfl rfl (by kernel_rfl) (k := 2) rfl (by decide) ?_
    repeat' (first|(with_reducible first|refine yrl (by constructor) ?_|refine jk (fun M hM=>?_)|(refine hM _ ?_;clear hM M)|refine xb3 (by decide) ?_|refine yqa (by assumption) ?_ ?_|refine yqb (by assumption) ?_ ?_)|((with_reducible refine je ?_)<;>(first|rfl|assumption|(simp only [znl];(first|done|fail))))|(with_reducible refine jf (by (simp only [↓reduceIte,zlk,Nat.reduceEqDiff,reduceCtorEq]);exact rfl) ?_)|((with_reducible first|refine jg (fun hc=>?_) (fun hc=>?_)|refine jh (fun hc=>?_) (fun hc=>?_))<;>(try simp (disch:=omega) only [zhb] at hc)<;>(try (exfalso;omega))<;>(try subst hc))|(with_reducible refine ji (by omega) ?_)|(simp (config := { maxSteps := 400000 }) only [↓jt,↓reduceIte,zvs,reduceCtorEq,Nat.reduceEqDiff,Nat.reduceAdd,Nat.reduceLeDiff,Nat.reduceMul,Int.reduceBNe,Int.reduceBEq,Int.reduceEq,Int.reduceNe,Int.reduceLT,Int.reduceLE,Int.reduceGT,Int.reduceGE,Int.reduceNeg,Int.reduceToNat,Nat.reduceLT,Nat.reduceSub,tab,Tryd.results66,List.toList_toArray])|(simp (disch:=omega) only [ziw]))
    all_goals first
      | (exfalso; omega)
      | (simp only [zrds]; rw [ha]; first | (simp; done) | (simp; omega))
      | (simp only [zrds]; rw [ha, Bool.eq_iff_iff]; simp; omega)
      | trace_state
def encW (x : Ins) : Int := bits .or .u32 (bits .or .u32 (bits .or .u32 (bits .or .u32 (IntKind.u32.wrap (x.op * 2 ^ min 26 IntKind.u32.bits)) (IntKind.u32.wrap (x.a * 2 ^ min 22 IntKind.u32.bits))) (IntKind.u32.wrap (x.b * 2 ^ min 18 IntKind.u32.bits))) (IntKind.u32.wrap (x.c * 2 ^ min 14 IntKind.u32.bits))) (bits .and .u32 (IntKind.u32.wrap x.imm) 65535)
def encE (x : Ins) : Int :=
  if okOp x.op = false then 16
  else if 15 < x.a ∨ 15 < x.b ∨ 15 < x.c then 1
  else if (hA x.op = false ∧ x.a ≠ 0) ∨ (hB x.op = false ∧ x.b ≠ 0) ∨ (hC x.op = false ∧ x.c ≠ 0) ∨ (hI x.op = false ∧ x.imm ≠ 0) then 1
  else if hI x.op = true ∧ fitsI x.op x.imm = false then 2
  else 0
theorem penc_spec (x : Ins) (h : InsR x) : Spec Tryd.prog 32 [encIns x] (.tup [.int .u32 (if encE x = 0 then encW x else 0), .int .i64 (encE x)]) := by
  have hF := pfields_spec x.op h.op
  have hT := pfits_spec x.op x.imm h.op
  obtain ⟨h1, h2, h3, h4, h5⟩ := h
  obtain ⟨W, hW⟩ : ∃ W, W = encW x := ⟨_, rfl⟩
  rw [← hW]
  unfold encW at hW
  obtain ⟨R, hR⟩ : ∃ R, R = encE x := ⟨_, rfl⟩
  rw [← hR]
  unfold encE at hR
  have hcs : okOp x.op = false ∨ (okOp x.op = true ∧ ((hA x.op = true ∧ hB x.op = true ∧ hC x.op = true ∧ hI x.op = false) ∨ (hA x.op = true ∧ hB x.op = false ∧ hC x.op = false ∧ hI x.op = true) ∨ (hA x.op = false ∧ hB x.op = false ∧ hC x.op = false ∧ hI x.op = true) ∨ (hA x.op = true ∧ hB x.op = true ∧ hC x.op = false ∧ hI x.op = true))) := by
    unfold hA hB hC hI okOp
    simp only [decide_eq_true_eq,decide_eq_false_iff_not]
    omega
  rcases hcs with h0 | ⟨h0, hcs⟩
  · rw [h0] at hF hR
    rw [if_pos rfl] at hR
    rw [hR, if_neg (by decide)]
    refine spec_ok Tryd.func32 rfl rfl (by kernel_rfl) (k := 1) rfl (by decide) ?_
    repeat' (first|(with_reducible first|refine yrl (by constructor) ?_|refine jk (fun M hM=>?_)|(refine hM _ ?_;clear hM M)|refine xb3 (by decide) ?_|refine yqa (by assumption) ?_ ?_|refine yqb (by assumption) ?_ ?_)|((with_reducible refine je ?_)<;>(first|rfl|assumption|(simp only [znl];(first|done|fail))))|(with_reducible refine jf (by (simp only [↓reduceIte,zlk,Nat.reduceEqDiff,reduceCtorEq]);exact rfl) ?_)|((with_reducible first|refine jg (fun hc=>?_) (fun hc=>?_)|refine jh (fun hc=>?_) (fun hc=>?_))<;>(try simp (disch:=omega) only [zhb] at hc)<;>(try (exfalso;omega))<;>(try subst hc))|(with_reducible refine ji (by omega) ?_)|(simp (config := { maxSteps := 400000 }) only [↓jt,↓reduceIte,zvs,reduceCtorEq,Nat.reduceEqDiff,Nat.reduceAdd,Nat.reduceLeDiff,Nat.reduceMul,Int.reduceBNe,Int.reduceBEq,Int.reduceEq,Int.reduceNe,Int.reduceLT,Int.reduceLE,Int.reduceGT,Int.reduceGE,Int.reduceNeg,Int.reduceToNat,Nat.reduceLT,Nat.reduceSub,tab,encIns,Tryd.results32,List.toList_toArray])|(simp (disch:=omega) only [ziw]))
    all_goals first
      | (exfalso; omega)
      | (simp only [zrds]; done)
      | trace_state
  rw [h0] at hF hR
  rw [if_neg (by decide)] at hR
  generalize fitsI x.op x.imm = ft at hT hR
  rcases hcs with ⟨a1, a2, a3, a4⟩ | ⟨a1, a2, a3, a4⟩ | ⟨a1, a2, a3, a4⟩ | ⟨a1, a2, a3, a4⟩
  all_goals (
    rw [a1, a2, a3, a4] at hF hR
    simp only [Bool.true_eq_false,Bool.false_eq_true,false_and,true_and,false_or,or_false] at hR
    cases ft
    all_goals (
      simp only [Bool.true_eq_false,if_false,if_true,if_true_left] at hR
      refine spec_ok Tryd.func32 rfl rfl (by kernel_rfl) (k := 1) rfl (by decide) ?_
      repeat' (first|(with_reducible first|refine yrl (by constructor) ?_|refine jk (fun M hM=>?_)|(refine hM _ ?_;clear hM M)|refine xb3 (by decide) ?_|refine yqa (by assumption) ?_ ?_|refine yqb (by assumption) ?_ ?_)|((with_reducible refine je ?_)<;>(first|rfl|assumption|(simp only [znl];(first|done|fail))))|(with_reducible refine jf (by (simp only [↓reduceIte,zlk,Nat.reduceEqDiff,reduceCtorEq]);exact rfl) ?_)|((with_reducible first|refine jg (fun hc=>?_) (fun hc=>?_)|refine jh (fun hc=>?_) (fun hc=>?_))<;>(try simp (disch:=omega) only [zhb] at hc)<;>(try (exfalso;omega))<;>(try subst hc))|(with_reducible refine ji (by omega) ?_)|(simp (config := { maxSteps := 400000 }) only [↓jt,↓reduceIte,zvs,reduceCtorEq,Nat.reduceEqDiff,Nat.reduceAdd,Nat.reduceLeDiff,Nat.reduceMul,Int.reduceBNe,Int.reduceBEq,Int.reduceEq,Int.reduceNe,Int.reduceLT,Int.reduceLE,Int.reduceGT,Int.reduceGE,Int.reduceNeg,Int.reduceToNat,Nat.reduceLT,Nat.reduceSub,tab,encIns,Tryd.results32,List.toList_toArray])|(simp (disch:=omega) only [ziw]))
      all_goals (try (exfalso; omega))
      all_goals (repeat' split at hR)
      all_goals first
        | (exfalso; omega)
        | (rw [hR, if_neg (by decide)]; simp only [zrds]; done)
        | (rw [hR, if_pos rfl, hW]; simp only [zrds]; done)
        | (rw [hR, if_pos rfl, hW]; simp (disch := omega) only [ziw]; simp only [zrds]; done)
        | trace_state))
end Go.Proofs.YtabfjhpakgdopaaDoor.V
end
section
/-
  INSTRUCTIONS: of a word; what operations reckon.
-/
set_option linter.unusedVariables false
set_option linter.unusedSimpArgs false
namespace Go.Proofs.YtabfjhpakgdopaaDoor.V
open Go
set_option maxRecDepth 100000
set_option maxHeartbeats 4000000
theorem wr_u8 (x : Int) : 0 ≤ IntKind.u8.wrap x ∧ IntKind.u8.wrap x ≤ 255 := by rw [IntKind.wrap_u8]; omega
theorem wr_u32 (x : Int) : 0 ≤ IntKind.u32.wrap x ∧ IntKind.u32.wrap x ≤ 4294967295 := by rw [IntKind.wrap_u32]; omega
theorem wr_i32 (x : Int) : -2147483648 ≤ IntKind.i32.wrap x ∧ IntKind.i32.wrap x ≤ 2147483647 := by rw [IntKind.wrap_i32]; omega
def decX (w : Int) : Ins :=
  ⟨IntKind.u8.wrap (w.fdiv (2 ^ min 26 IntKind.u32.bits)), IntKind.u8.wrap (bits .and .u32 (w.fdiv (2 ^ min 22 IntKind.u32.bits)) 15), IntKind.u8.wrap (bits .and .u32 (w.fdiv (2 ^ min 18 IntKind.u32.bits)) 15),
   if hC (IntKind.u8.wrap (w.fdiv (2 ^ min 26 IntKind.u32.bits))) = true then IntKind.u8.wrap (bits .and .u32 (w.fdiv (2 ^ min 14 IntKind.u32.bits)) 15) else 0,
   if hI (IntKind.u8.wrap (w.fdiv (2 ^ min 26 IntKind.u32.bits))) = true then (if unsB (IntKind.u8.wrap (w.fdiv (2 ^ min 26 IntKind.u32.bits))) = true then IntKind.i32.wrap (bits .and .u32 w 65535) else IntKind.i32.wrap (IntKind.i16.wrap (bits .and .u32 w 65535))) else 0⟩
theorem decX_R (w : Int) : InsR (decX w) := by
  refine ⟨wr_u8 _, wr_u8 _, wr_u8 _, ?_, ?_⟩
  · unfold decX
    dsimp only
    split
    · exact wr_u8 _
    · decide
  · unfold decX
    dsimp only
    split
    · split
      · exact wr_i32 _
      · exact wr_i32 _
    · decide
def decO (w : Int) : Option Ins := if okOp (decX w).op = true ∧ encE (decX w) = 0 ∧ encW (decX w) = w then some (decX w) else none
def decV : Option Ins → VV
  | none => .tup [.agg [.int .u8 0, .int .u8 0, .int .u8 0, .int .u8 0, .int .i32 0], .bool false]
  | some x => .tup [encIns x, .bool true]
theorem decO_ok {w : Int} {x : Ins} (h : decO w = some x) : 1 ≤ x.op ∧ x.op ≤ 31 ∧ 0 ≤ x.a ∧ x.a ≤ 15 ∧ 0 ≤ x.b ∧ x.b ≤ 15 ∧ 0 ≤ x.c ∧ x.c ≤ 15 ∧ InsR x := by
  unfold decO at h
  split at h
  · rename_i hc
    injection h with h
    obtain ⟨h1, h2, _⟩ := hc
    have hR := decX_R w
    rw [h] at h1 h2 hR
    unfold okOp at h1
    have h1 := of_decide_eq_true h1
    unfold encE at h2
    split at h2
    · omega
    split at h2
    · omega
    have := hR.a
    have := hR.b
    have := hR.c
    exact ⟨by omega, by omega, by omega, by omega, by omega, by omega, by omega, by omega, hR⟩
  · cases h
theorem pdec_spec (w : Int) (hw : 0 ≤ w ∧ w ≤ 4294967295) : Spec Tryd.prog 36 [.int .u32 w] (decV (decO w)) := by
  obtain ⟨o, ho⟩ : ∃ o, o = IntKind.u8.wrap (w.fdiv (2 ^ min 26 IntKind.u32.bits)) := ⟨_, rfl⟩
  have hF := pfields_spec o (by rw [ho]; exact wr_u8 _)
  have hU := punsigned_spec o (by rw [ho]; exact wr_u8 _)
  have hE := penc_spec (decX w) (decX_R w)
  obtain ⟨R, hR⟩ : ∃ R, R = decV (decO w) := ⟨_, rfl⟩
  rw [← hR]
  unfold decO at hR
  obtain ⟨E, hEE⟩ : ∃ E, E = encE (decX w) := ⟨_, rfl⟩
  rw [← hEE] at hE hR
  obtain ⟨V, hV⟩ : ∃ V, V = if E = 0 then encW (decX w) else 0 := ⟨_, rfl⟩
  rw [← hV] at hE
  have hop : (decX w).op = o := by rw [ho]; rfl
  rw [hop] at hR
  have n1 : okOp o = false → R = decV none := fun h => by rw [hR, if_neg fun h' => by rw [h] at h'; cases h'.1]
  have n2 : ¬E = 0 → R = decV none := fun h => by rw [hR, if_neg fun h' => h h'.2.1]
  have n3 : E = 0 → ¬V = w → R = decV none := fun h h2 => by
    rw [if_pos h] at hV
    rw [hR, if_neg fun h' => h2 (by rw [hV]; exact h'.2.2)]
  have y1 : okOp o = true → E = 0 → V = w → R = .tup [encIns (decX w), .bool true] := fun h1 h2 h3 => by
    rw [if_pos h2] at hV
    rw [hR, if_pos ⟨h1, h2, by rw [← hV, h3]⟩]
    rfl
  clear hR hEE hV hop
  unfold decX at hE y1
  rw [← ho] at hE y1
  cases hk : okOp o with
  | false =>
    rw [hk] at hF
    rw [n1 hk]
    refine spec_ok Tryd.func36 rfl rfl (by kernel_rfl) (k := 1) rfl (by decide) ?_
    repeat' (first|(with_reducible first|refine yrl (by constructor) ?_|refine jk (fun M hM=>?_)|(refine hM _ ?_;clear hM M)|refine xb3 (by decide) ?_|refine yqa (by assumption) ?_ ?_|refine yqb (by assumption) ?_ ?_)|((with_reducible refine je ?_)<;>(first|rfl|assumption|(simp only [znl];(first|done|fail))))|(with_reducible refine jf (by (simp only [↓reduceIte,zlk,Nat.reduceEqDiff,reduceCtorEq]);exact rfl) ?_)|((with_reducible first|refine jg (fun hc=>?_) (fun hc=>?_)|refine jh (fun hc=>?_) (fun hc=>?_))<;>(try simp (disch:=omega) only [zhb] at hc)<;>(try (exfalso;omega))<;>(try subst hc))|(with_reducible refine ji (by omega) ?_)|(simp (config := { maxSteps := 400000 }) only [↓jt,↓reduceIte,zvs,reduceCtorEq,Nat.reduceEqDiff,Nat.reduceAdd,Nat.reduceLeDiff,Nat.reduceMul,Int.reduceBNe,Int.reduceBEq,Int.reduceEq,Int.reduceNe,Int.reduceLT,Int.reduceLE,Int.reduceGT,Int.reduceGE,Int.reduceNeg,Int.reduceToNat,Nat.reduceLT,Nat.reduceSub,tab,← ho,Tryd.results36,List.toList_toArray])|(simp (disch:=omega) only [ziw]))
    all_goals first
      | (exfalso; omega)
      | (simp only [zrds]; done)
      | (((try simp only [decV,List.map_nil]); simp only [zrds]; (repeat' (first | exact rd_nil | exact Rd.refl _ _ (by first|rfl|assumption|(simp only [znl];(first|done|fail))) | (refine And.intro ?_ ?_) | (refine rd_own (by (simp only [↓reduceIte,zlk,Nat.reduceEqDiff,reduceCtorEq]); exact rfl) ?_ ?_ ?_) | rfl | assumption | (simp only [znl];(first|done|fail)) | (simp; done) | (simp; omega)))); done)
      | trace_state
  | true =>
    rw [hk] at hF
    replace y1 := y1 hk
    generalize hA o = ha at hF
    generalize hB o = hb at hF
    cases hcc : hC o <;> cases hi : hI o <;> cases hu : unsB o
    all_goals (
      rw [hcc, hi] at hF
      rw [hu] at hU
      rw [hcc, hi, hu] at hE y1
      simp only [Bool.false_eq_true,if_false,if_true,encIns] at hE y1
      refine spec_ok Tryd.func36 rfl rfl (by kernel_rfl) (k := 1) rfl (by decide) ?_
      repeat' (first|(with_reducible first|refine yrl (by constructor) ?_|refine jk (fun M hM=>?_)|(refine hM _ ?_;clear hM M)|refine xb3 (by decide) ?_|refine yqa (by assumption) ?_ ?_|refine yqb (by assumption) ?_ ?_)|((with_reducible refine je ?_)<;>(first|rfl|assumption|(simp only [znl];(first|done|fail))))|(with_reducible refine jf (by (simp only [↓reduceIte,zlk,Nat.reduceEqDiff,reduceCtorEq]);exact rfl) ?_)|((with_reducible first|refine jg (fun hc=>?_) (fun hc=>?_)|refine jh (fun hc=>?_) (fun hc=>?_))<;>(try simp (disch:=omega) only [zhb] at hc)<;>(try (exfalso;omega))<;>(try subst hc))|(with_reducible refine ji (by omega) ?_)|(simp (config := { maxSteps := 400000 }) only [↓jt,↓reduceIte,zvs,reduceCtorEq,Nat.reduceEqDiff,Nat.reduceAdd,Nat.reduceLeDiff,Nat.reduceMul,Int.reduceBNe,Int.reduceBEq,Int.reduceEq,Int.reduceNe,Int.reduceLT,Int.reduceLE,Int.reduceGT,Int.reduceGE,Int.reduceNeg,Int.reduceToNat,Nat.reduceLT,Nat.reduceSub,tab,← ho,Tryd.results36,List.toList_toArray])|(simp (disch:=omega) only [ziw]))
      all_goals first
        | (exfalso; omega)
        | (rw [n2 (by omega)]; ((try simp only [decV,List.map_nil]); simp only [zrds]; (repeat' (first | exact rd_nil | exact Rd.refl _ _ (by first|rfl|assumption|(simp only [znl];(first|done|fail))) | (refine And.intro ?_ ?_) | (refine rd_own (by (simp only [↓reduceIte,zlk,Nat.reduceEqDiff,reduceCtorEq]); exact rfl) ?_ ?_ ?_) | rfl | assumption | (simp only [znl];(first|done|fail)) | (simp; done) | (simp; omega)))); done)
        | (rw [n3 (by omega) (by omega)]; ((try simp only [decV,List.map_nil]); simp only [zrds]; (repeat' (first | exact rd_nil | exact Rd.refl _ _ (by first|rfl|assumption|(simp only [znl];(first|done|fail))) | (refine And.intro ?_ ?_) | (refine rd_own (by (simp only [↓reduceIte,zlk,Nat.reduceEqDiff,reduceCtorEq]); exact rfl) ?_ ?_ ?_) | rfl | assumption | (simp only [znl];(first|done|fail)) | (simp; done) | (simp; omega)))); done)
        | (rw [y1 (by omega) (by omega)]; ((try simp only [encIns,List.map_nil]); simp only [zrds]; (repeat' (first | exact rd_nil | exact Rd.refl _ _ (by first|rfl|assumption|(simp only [znl];(first|done|fail))) | (refine And.intro ?_ ?_) | (refine rd_own (by (simp only [↓reduceIte,zlk,Nat.reduceEqDiff,reduceCtorEq]); exact rfl) ?_ ?_ ?_) | rfl | assumption | (simp only [znl];(first|done|fail)) | (simp; done) | (simp; omega)))); done)
        | trace_state)
end Go.Proofs.YtabfjhpakgdopaaDoor.V
end
section
/-
  OPERATIONS of three registers.
-/
set_option linter.unusedVariables false
set_option linter.unusedSimpArgs false
namespace Go.Proofs.YtabfjhpakgdopaaDoor.V
open Go
set_option maxRecDepth 100000
set_option maxHeartbeats 4000000
def rW (x : Int) : Prop := 0 ≤ x ∧ x ≤ 4294967295
theorem bit_R (op : BinOp) (x y : Int) (h : op = .and ∨ op = .or ∨ op = .xor) : rW (bits op .u32 x y) := by
  rcases h with rfl | rfl | rfl <;> exact wr_u32 _
theorem ptruth_spec (b : Bool) : Spec Tryd.prog 86 [.bool b] (.int .u32 (if b = true then 1 else 0)) := by
  cases b
  all_goals (
    refine spec_ok Tryd.func86 rfl rfl (by kernel_rfl) (k := 1) rfl (by decide) ?_
    repeat' (first|(with_reducible first|refine yrl (by constructor) ?_|refine jk (fun M hM=>?_)|(refine hM _ ?_;clear hM M)|refine xb3 (by decide) ?_|refine yqa (by assumption) ?_ ?_|refine yqb (by assumption) ?_ ?_)|((with_reducible refine je ?_)<;>(first|rfl|assumption|(simp only [znl];(first|done|fail))))|(with_reducible refine jf (by (simp only [↓reduceIte,zlk,Nat.reduceEqDiff,reduceCtorEq]);exact rfl) ?_)|((with_reducible first|refine jg (fun hc=>?_) (fun hc=>?_)|refine jh (fun hc=>?_) (fun hc=>?_))<;>(try simp (disch:=omega) only [zhb] at hc)<;>(try (exfalso;omega))<;>(try subst hc))|(with_reducible refine ji (by omega) ?_)|(simp (config := { maxSteps := 400000 }) only [↓jt,↓reduceIte,zvs,reduceCtorEq,Nat.reduceEqDiff,Nat.reduceAdd,Nat.reduceLeDiff,Nat.reduceMul,Int.reduceBNe,Int.reduceBEq,Int.reduceEq,Int.reduceNe,Int.reduceLT,Int.reduceLE,Int.reduceGT,Int.reduceGE,Int.reduceNeg,Int.reduceToNat,Nat.reduceLT,Nat.reduceSub,tab,Tryd.results86,List.toList_toArray])|(simp (disch:=omega) only [ziw]))
    all_goals first
      | (exfalso; omega)
      | (simp only [zrds]; done)
      | trace_state)
theorem pless_spec (b c : Int) : Spec Tryd.prog 87 [.int .u32 b, .int .u32 c] (.bool (decide (IntKind.i32.wrap b < IntKind.i32.wrap c))) := by
  refine spec_ok Tryd.func87 rfl rfl (by kernel_rfl) (k := 2) rfl (by decide) ?_
  repeat' (first|(with_reducible first|refine yrl (by constructor) ?_|refine jk (fun M hM=>?_)|(refine hM _ ?_;clear hM M)|refine xb3 (by decide) ?_|refine yqa (by assumption) ?_ ?_|refine yqb (by assumption) ?_ ?_)|((with_reducible refine je ?_)<;>(first|rfl|assumption|(simp only [znl];(first|done|fail))))|(with_reducible refine jf (by (simp only [↓reduceIte,zlk,Nat.reduceEqDiff,reduceCtorEq]);exact rfl) ?_)|((with_reducible first|refine jg (fun hc=>?_) (fun hc=>?_)|refine jh (fun hc=>?_) (fun hc=>?_))<;>(try simp (disch:=omega) only [zhb] at hc)<;>(try (exfalso;omega))<;>(try subst hc))|(with_reducible refine ji (by omega) ?_)|(simp (config := { maxSteps := 400000 }) only [↓jt,↓reduceIte,zvs,reduceCtorEq,Nat.reduceEqDiff,Nat.reduceAdd,Nat.reduceLeDiff,Nat.reduceMul,Int.reduceBNe,Int.reduceBEq,Int.reduceEq,Int.reduceNe,Int.reduceLT,Int.reduceLE,Int.reduceGT,Int.reduceGE,Int.reduceNeg,Int.reduceToNat,Nat.reduceLT,Nat.reduceSub,tab,Tryd.results87,List.toList_toArray])|(simp (disch:=omega) only [ziw]))
  all_goals first
    | (exfalso; omega)
    | (simp only [zrds]; done)
    | trace_state
theorem rk1 (b c : Int) (hb : rW b) (hc0 : rW c) : Spec Tryd.prog 74 [.int .u32 b, .int .u32 c] (.int .u32 (IntKind.u32.wrap (b + c))) := by
  obtain ⟨hb1, hb2⟩ := hb
  obtain ⟨hc1, hc2⟩ := hc0
  refine spec_ok Tryd.func74 rfl rfl (by kernel_rfl) (k := 2) rfl (by decide) ?_
  repeat' (first|(with_reducible first|refine yrl (by constructor) ?_|refine jk (fun M hM=>?_)|(refine hM _ ?_;clear hM M)|refine xb3 (by decide) ?_|refine yqa (by assumption) ?_ ?_|refine yqb (by assumption) ?_ ?_)|((with_reducible refine je ?_)<;>(first|rfl|assumption|(simp only [znl];(first|done|fail))))|(with_reducible refine jf (by (simp only [↓reduceIte,zlk,Nat.reduceEqDiff,reduceCtorEq]);exact rfl) ?_)|((with_reducible first|refine jg (fun hc=>?_) (fun hc=>?_)|refine jh (fun hc=>?_) (fun hc=>?_))<;>(try simp (disch:=omega) only [zhb] at hc)<;>(try (exfalso;omega))<;>(try subst hc))|(with_reducible refine ji (by omega) ?_)|(simp (config := { maxSteps := 400000 }) only [↓jt,↓reduceIte,zvs,reduceCtorEq,Nat.reduceEqDiff,Nat.reduceAdd,Nat.reduceLeDiff,Nat.reduceMul,Int.reduceBNe,Int.reduceBEq,Int.reduceEq,Int.reduceNe,Int.reduceLT,Int.reduceLE,Int.reduceGT,Int.reduceGE,Int.reduceNeg,Int.reduceToNat,Nat.reduceLT,Nat.reduceSub,tab,Tryd.results74,List.toList_toArray])|(simp (disch:=omega) only [ziw]))
  all_goals first
    | (exfalso; omega)
    | (simp only [zrds]; done)
    | trace_state
theorem rk2 (b c : Int) (hb : rW b) (hc0 : rW c) : Spec Tryd.prog 75 [.int .u32 b, .int .u32 c] (.int .u32 (IntKind.u32.wrap (b - c))) := by
  obtain ⟨hb1, hb2⟩ := hb
  obtain ⟨hc1, hc2⟩ := hc0
  refine spec_ok Tryd.func75 rfl rfl (by kernel_rfl) (k := 2) rfl (by decide) ?_
  repeat' (first|(with_reducible first|refine yrl (by constructor) ?_|refine jk (fun M hM=>?_)|(refine hM _ ?_;clear hM M)|refine xb3 (by decide) ?_|refine yqa (by assumption) ?_ ?_|refine yqb (by assumption) ?_ ?_)|((with_reducible refine je ?_)<;>(first|rfl|assumption|(simp only [znl];(first|done|fail))))|(with_reducible refine jf (by (simp only [↓reduceIte,zlk,Nat.reduceEqDiff,reduceCtorEq]);exact rfl) ?_)|((with_reducible first|refine jg (fun hc=>?_) (fun hc=>?_)|refine jh (fun hc=>?_) (fun hc=>?_))<;>(try simp (disch:=omega) only [zhb] at hc)<;>(try (exfalso;omega))<;>(try subst hc))|(with_reducible refine ji (by omega) ?_)|(simp (config := { maxSteps := 400000 }) only [↓jt,↓reduceIte,zvs,reduceCtorEq,Nat.reduceEqDiff,Nat.reduceAdd,Nat.reduceLeDiff,Nat.reduceMul,Int.reduceBNe,Int.reduceBEq,Int.reduceEq,Int.reduceNe,Int.reduceLT,Int.reduceLE,Int.reduceGT,Int.reduceGE,Int.reduceNeg,Int.reduceToNat,Nat.reduceLT,Nat.reduceSub,tab,Tryd.results75,List.toList_toArray])|(simp (disch:=omega) only [ziw]))
  all_goals first
    | (exfalso; omega)
    | (simp only [zrds]; done)
    | trace_state
theorem rk3 (b c : Int) (hb : rW b) (hc0 : rW c) : Spec Tryd.prog 76 [.int .u32 b, .int .u32 c] (.int .u32 (IntKind.u32.wrap (b * c))) := by
  obtain ⟨hb1, hb2⟩ := hb
  obtain ⟨hc1, hc2⟩ := hc0
  refine spec_ok Tryd.func76 rfl rfl (by kernel_rfl) (k := 2) rfl (by decide) ?_
  repeat' (first|(with_reducible first|refine yrl (by constructor) ?_|refine jk (fun M hM=>?_)|(refine hM _ ?_;clear hM M)|refine xb3 (by decide) ?_|refine yqa (by assumption) ?_ ?_|refine yqb (by assumption) ?_ ?_)|((with_reducible refine je ?_)<;>(first|rfl|assumption|(simp only [znl];(first|done|fail))))|(with_reducible refine jf (by (simp only [↓reduceIte,zlk,Nat.reduceEqDiff,reduceCtorEq]);exact rfl) ?_)|((with_reducible first|refine jg (fun hc=>?_) (fun hc=>?_)|refine jh (fun hc=>?_) (fun hc=>?_))<;>(try simp (disch:=omega) only [zhb] at hc)<;>(try (exfalso;omega))<;>(try subst hc))|(with_reducible refine ji (by omega) ?_)|(simp (config := { maxSteps := 400000 }) only [↓jt,↓reduceIte,zvs,reduceCtorEq,Nat.reduceEqDiff,Nat.reduceAdd,Nat.reduceLeDiff,Nat.reduceMul,Int.reduceBNe,Int.reduceBEq,Int.reduceEq,Int.reduceNe,Int.reduceLT,Int.reduceLE,Int.reduceGT,Int.reduceGE,Int.reduceNeg,Int.reduceToNat,Nat.reduceLT,Nat.reduceSub,tab,Tryd.results76,List.toList_toArray])|(simp (disch:=omega) only [ziw]))
  all_goals first
    | (exfalso; omega)
    | (simp only [zrds]; done)
    | trace_state
theorem rk4 (b c : Int) (hb : rW b) (hc0 : rW c) : Spec Tryd.prog 77 [.int .u32 b, .int .u32 c] (.int .u32 (if c = 0 then 4294967295 else IntKind.u32.wrap (b / c))) := by
  obtain ⟨hb1, hb2⟩ := hb
  obtain ⟨hc1, hc2⟩ := hc0
  by_cases h0 : c = 0
  all_goals (
    first | rw [if_pos h0] | rw [if_neg h0]
    refine spec_ok Tryd.func77 rfl rfl (by kernel_rfl) (k := 2) rfl (by decide) ?_
    repeat' (first|(with_reducible first|refine yrl (by constructor) ?_|refine jk (fun M hM=>?_)|(refine hM _ ?_;clear hM M)|refine xb3 (by decide) ?_|refine yqa (by assumption) ?_ ?_|refine yqb (by assumption) ?_ ?_)|((with_reducible refine je ?_)<;>(first|rfl|assumption|(simp only [znl];(first|done|fail))))|(with_reducible refine jf (by (simp only [↓reduceIte,zlk,Nat.reduceEqDiff,reduceCtorEq]);exact rfl) ?_)|((with_reducible first|refine jg (fun hc=>?_) (fun hc=>?_)|refine jh (fun hc=>?_) (fun hc=>?_))<;>(try simp (disch:=omega) only [zhb] at hc)<;>(try (exfalso;omega))<;>(try subst hc))|(with_reducible refine ji (by omega) ?_)|(simp (config := { maxSteps := 400000 }) only [↓jt,↓reduceIte,zvs,reduceCtorEq,Nat.reduceEqDiff,Nat.reduceAdd,Nat.reduceLeDiff,Nat.reduceMul,Int.reduceBNe,Int.reduceBEq,Int.reduceEq,Int.reduceNe,Int.reduceLT,Int.reduceLE,Int.reduceGT,Int.reduceGE,Int.reduceNeg,Int.reduceToNat,Nat.reduceLT,Nat.reduceSub,tab,Tryd.results77,List.toList_toArray])|(simp (disch:=omega) only [ziw]))
    all_goals first
      | (exfalso; omega)
      | (simp only [zrds]; done)
      | trace_state)
theorem rk5 (b c : Int) (hb : rW b) (hc0 : rW c) : Spec Tryd.prog 78 [.int .u32 b, .int .u32 c] (.int .u32 (if c = 0 then b else b % c)) := by
  obtain ⟨hb1, hb2⟩ := hb
  obtain ⟨hc1, hc2⟩ := hc0
  by_cases h0 : c = 0
  all_goals (
    first | rw [if_pos h0] | rw [if_neg h0]
    refine spec_ok Tryd.func78 rfl rfl (by kernel_rfl) (k := 2) rfl (by decide) ?_
    repeat' (first|(with_reducible first|refine yrl (by constructor) ?_|refine jk (fun M hM=>?_)|(refine hM _ ?_;clear hM M)|refine xb3 (by decide) ?_|refine yqa (by assumption) ?_ ?_|refine yqb (by assumption) ?_ ?_)|((with_reducible refine je ?_)<;>(first|rfl|assumption|(simp only [znl];(first|done|fail))))|(with_reducible refine jf (by (simp only [↓reduceIte,zlk,Nat.reduceEqDiff,reduceCtorEq]);exact rfl) ?_)|((with_reducible first|refine jg (fun hc=>?_) (fun hc=>?_)|refine jh (fun hc=>?_) (fun hc=>?_))<;>(try simp (disch:=omega) only [zhb] at hc)<;>(try (exfalso;omega))<;>(try subst hc))|(with_reducible refine ji (by omega) ?_)|(simp (config := { maxSteps := 400000 }) only [↓jt,↓reduceIte,zvs,reduceCtorEq,Nat.reduceEqDiff,Nat.reduceAdd,Nat.reduceLeDiff,Nat.reduceMul,Int.reduceBNe,Int.reduceBEq,Int.reduceEq,Int.reduceNe,Int.reduceLT,Int.reduceLE,Int.reduceGT,Int.reduceGE,Int.reduceNeg,Int.reduceToNat,Nat.reduceLT,Nat.reduceSub,tab,Tryd.results78,List.toList_toArray])|(simp (disch:=omega) only [ziw]))
    all_goals first
      | (exfalso; omega)
      | (simp only [zrds]; done)
      | trace_state)
theorem rk6 (b c : Int) (hb : rW b) (hc0 : rW c) : Spec Tryd.prog 79 [.int .u32 b, .int .u32 c] (.int .u32 (bits .and .u32 b c)) := by
  obtain ⟨hb1, hb2⟩ := hb
  obtain ⟨hc1, hc2⟩ := hc0
  refine spec_ok Tryd.func79 rfl rfl (by kernel_rfl) (k := 2) rfl (by decide) ?_
  repeat' (first|(with_reducible first|refine yrl (by constructor) ?_|refine jk (fun M hM=>?_)|(refine hM _ ?_;clear hM M)|refine xb3 (by decide) ?_|refine yqa (by assumption) ?_ ?_|refine yqb (by assumption) ?_ ?_)|((with_reducible refine je ?_)<;>(first|rfl|assumption|(simp only [znl];(first|done|fail))))|(with_reducible refine jf (by (simp only [↓reduceIte,zlk,Nat.reduceEqDiff,reduceCtorEq]);exact rfl) ?_)|((with_reducible first|refine jg (fun hc=>?_) (fun hc=>?_)|refine jh (fun hc=>?_) (fun hc=>?_))<;>(try simp (disch:=omega) only [zhb] at hc)<;>(try (exfalso;omega))<;>(try subst hc))|(with_reducible refine ji (by omega) ?_)|(simp (config := { maxSteps := 400000 }) only [↓jt,↓reduceIte,zvs,reduceCtorEq,Nat.reduceEqDiff,Nat.reduceAdd,Nat.reduceLeDiff,Nat.reduceMul,Int.reduceBNe,Int.reduceBEq,Int.reduceEq,Int.reduceNe,Int.reduceLT,Int.reduceLE,Int.reduceGT,Int.reduceGE,Int.reduceNeg,Int.reduceToNat,Nat.reduceLT,Nat.reduceSub,tab,Tryd.results79,List.toList_toArray])|(simp (disch:=omega) only [ziw]))
  all_goals first
    | (exfalso; omega)
    | (simp only [zrds]; done)
    | trace_state
theorem rk7 (b c : Int) (hb : rW b) (hc0 : rW c) : Spec Tryd.prog 80 [.int .u32 b, .int .u32 c] (.int .u32 (bits .or .u32 b c)) := by
  obtain ⟨hb1, hb2⟩ := hb
  obtain ⟨hc1, hc2⟩ := hc0
  refine spec_ok Tryd.func80 rfl rfl (by kernel_rfl) (k := 2) rfl (by decide) ?_
  repeat' (first|(with_reducible first|refine yrl (by constructor) ?_|refine jk (fun M hM=>?_)|(refine hM _ ?_;clear hM M)|refine xb3 (by decide) ?_|refine yqa (by assumption) ?_ ?_|refine yqb (by assumption) ?_ ?_)|((with_reducible refine je ?_)<;>(first|rfl|assumption|(simp only [znl];(first|done|fail))))|(with_reducible refine jf (by (simp only [↓reduceIte,zlk,Nat.reduceEqDiff,reduceCtorEq]);exact rfl) ?_)|((with_reducible first|refine jg (fun hc=>?_) (fun hc=>?_)|refine jh (fun hc=>?_) (fun hc=>?_))<;>(try simp (disch:=omega) only [zhb] at hc)<;>(try (exfalso;omega))<;>(try subst hc))|(with_reducible refine ji (by omega) ?_)|(simp (config := { maxSteps := 400000 }) only [↓jt,↓reduceIte,zvs,reduceCtorEq,Nat.reduceEqDiff,Nat.reduceAdd,Nat.reduceLeDiff,Nat.reduceMul,Int.reduceBNe,Int.reduceBEq,Int.reduceEq,Int.reduceNe,Int.reduceLT,Int.reduceLE,Int.reduceGT,Int.reduceGE,Int.reduceNeg,Int.reduceToNat,Nat.reduceLT,Nat.reduceSub,tab,Tryd.results80,List.toList_toArray])|(simp (disch:=omega) only [ziw]))
  all_goals first
    | (exfalso; omega)
    | (simp only [zrds]; done)
    | trace_state
theorem rk8 (b c : Int) (hb : rW b) (hc0 : rW c) : Spec Tryd.prog 81 [.int .u32 b, .int .u32 c] (.int .u32 (bits .xor .u32 b c)) := by
  obtain ⟨hb1, hb2⟩ := hb
  obtain ⟨hc1, hc2⟩ := hc0
  refine spec_ok Tryd.func81 rfl rfl (by kernel_rfl) (k := 2) rfl (by decide) ?_
  repeat' (first|(with_reducible first|refine yrl (by constructor) ?_|refine jk (fun M hM=>?_)|(refine hM _ ?_;clear hM M)|refine xb3 (by decide) ?_|refine yqa (by assumption) ?_ ?_|refine yqb (by assumption) ?_ ?_)|((with_reducible refine je ?_)<;>(first|rfl|assumption|(simp only [znl];(first|done|fail))))|(with_reducible refine jf (by (simp only [↓reduceIte,zlk,Nat.reduceEqDiff,reduceCtorEq]);exact rfl) ?_)|((with_reducible first|refine jg (fun hc=>?_) (fun hc=>?_)|refine jh (fun hc=>?_) (fun hc=>?_))<;>(try simp (disch:=omega) only [zhb] at hc)<;>(try (exfalso;omega))<;>(try subst hc))|(with_reducible refine ji (by omega) ?_)|(simp (config := { maxSteps := 400000 }) only [↓jt,↓reduceIte,zvs,reduceCtorEq,Nat.reduceEqDiff,Nat.reduceAdd,Nat.reduceLeDiff,Nat.reduceMul,Int.reduceBNe,Int.reduceBEq,Int.reduceEq,Int.reduceNe,Int.reduceLT,Int.reduceLE,Int.reduceGT,Int.reduceGE,Int.reduceNeg,Int.reduceToNat,Nat.reduceLT,Nat.reduceSub,tab,Tryd.results81,List.toList_toArray])|(simp (disch:=omega) only [ziw]))
  all_goals first
    | (exfalso; omega)
    | (simp only [zrds]; done)
    | trace_state
theorem rk9 (b c : Int) (hb : rW b) (hc0 : rW c) : Spec Tryd.prog 82 [.int .u32 b, .int .u32 c] (.int .u32 (IntKind.u32.wrap (b * 2 ^ min (bits .and .u32 c 31).toNat IntKind.u32.bits))) := by
  obtain ⟨hb1, hb2⟩ := hb
  obtain ⟨hc1, hc2⟩ := hc0
  have hs := (bit_R .and c 31 (.inl rfl)).1
  refine spec_ok Tryd.func82 rfl rfl (by kernel_rfl) (k := 2) rfl (by decide) ?_
  repeat' (first|(with_reducible first|refine yrl (by constructor) ?_|refine jk (fun M hM=>?_)|(refine hM _ ?_;clear hM M)|refine xb3 (by decide) ?_|refine yqa (by assumption) ?_ ?_|refine yqb (by assumption) ?_ ?_)|((with_reducible refine je ?_)<;>(first|rfl|assumption|(simp only [znl];(first|done|fail))))|(with_reducible refine jf (by (simp only [↓reduceIte,zlk,Nat.reduceEqDiff,reduceCtorEq]);exact rfl) ?_)|((with_reducible first|refine jg (fun hc=>?_) (fun hc=>?_)|refine jh (fun hc=>?_) (fun hc=>?_))<;>(try simp (disch:=omega) only [zhb] at hc)<;>(try (exfalso;omega))<;>(try subst hc))|(with_reducible refine ji (by omega) ?_)|(simp (config := { maxSteps := 400000 }) only [↓jt,↓reduceIte,zvs,reduceCtorEq,Nat.reduceEqDiff,Nat.reduceAdd,Nat.reduceLeDiff,Nat.reduceMul,Int.reduceBNe,Int.reduceBEq,Int.reduceEq,Int.reduceNe,Int.reduceLT,Int.reduceLE,Int.reduceGT,Int.reduceGE,Int.reduceNeg,Int.reduceToNat,Nat.reduceLT,Nat.reduceSub,tab,Tryd.results82,List.toList_toArray])|(simp (disch:=omega) only [ziw]))
  all_goals first
    | (exfalso; omega)
    | (simp only [zrds]; done)
    | trace_state
theorem rk10 (b c : Int) (hb : rW b) (hc0 : rW c) : Spec Tryd.prog 83 [.int .u32 b, .int .u32 c] (.int .u32 (b.fdiv (2 ^ min (bits .and .u32 c 31).toNat IntKind.u32.bits))) := by
  obtain ⟨hb1, hb2⟩ := hb
  obtain ⟨hc1, hc2⟩ := hc0
  have hs := (bit_R .and c 31 (.inl rfl)).1
  refine spec_ok Tryd.func83 rfl rfl (by kernel_rfl) (k := 2) rfl (by decide) ?_
  repeat' (first|(with_reducible first|refine yrl (by constructor) ?_|refine jk (fun M hM=>?_)|(refine hM _ ?_;clear hM M)|refine xb3 (by decide) ?_|refine yqa (by assumption) ?_ ?_|refine yqb (by assumption) ?_ ?_)|((with_reducible refine je ?_)<;>(first|rfl|assumption|(simp only [znl];(first|done|fail))))|(with_reducible refine jf (by (simp only [↓reduceIte,zlk,Nat.reduceEqDiff,reduceCtorEq]);exact rfl) ?_)|((with_reducible first|refine jg (fun hc=>?_) (fun hc=>?_)|refine jh (fun hc=>?_) (fun hc=>?_))<;>(try simp (disch:=omega) only [zhb] at hc)<;>(try (exfalso;omega))<;>(try subst hc))|(with_reducible refine ji (by omega) ?_)|(simp (config := { maxSteps := 400000 }) only [↓jt,↓reduceIte,zvs,reduceCtorEq,Nat.reduceEqDiff,Nat.reduceAdd,Nat.reduceLeDiff,Nat.reduceMul,Int.reduceBNe,Int.reduceBEq,Int.reduceEq,Int.reduceNe,Int.reduceLT,Int.reduceLE,Int.reduceGT,Int.reduceGE,Int.reduceNeg,Int.reduceToNat,Nat.reduceLT,Nat.reduceSub,tab,Tryd.results83,List.toList_toArray])|(simp (disch:=omega) only [ziw]))
  all_goals first
    | (exfalso; omega)
    | (simp only [zrds]; done)
    | trace_state
theorem rk11 (b c : Int) (hb : rW b) (hc0 : rW c) : Spec Tryd.prog 84 [.int .u32 b, .int .u32 c] (.int .u32 (IntKind.u32.wrap ((IntKind.i32.wrap b).fdiv (2 ^ min (bits .and .u32 c 31).toNat IntKind.i32.bits)))) := by
  obtain ⟨hb1, hb2⟩ := hb
  obtain ⟨hc1, hc2⟩ := hc0
  have hs := (bit_R .and c 31 (.inl rfl)).1
  refine spec_ok Tryd.func84 rfl rfl (by kernel_rfl) (k := 2) rfl (by decide) ?_
  repeat' (first|(with_reducible first|refine yrl (by constructor) ?_|refine jk (fun M hM=>?_)|(refine hM _ ?_;clear hM M)|refine xb3 (by decide) ?_|refine yqa (by assumption) ?_ ?_|refine yqb (by assumption) ?_ ?_)|((with_reducible refine je ?_)<;>(first|rfl|assumption|(simp only [znl];(first|done|fail))))|(with_reducible refine jf (by (simp only [↓reduceIte,zlk,Nat.reduceEqDiff,reduceCtorEq]);exact rfl) ?_)|((with_reducible first|refine jg (fun hc=>?_) (fun hc=>?_)|refine jh (fun hc=>?_) (fun hc=>?_))<;>(try simp (disch:=omega) only [zhb] at hc)<;>(try (exfalso;omega))<;>(try subst hc))|(with_reducible refine ji (by omega) ?_)|(simp (config := { maxSteps := 400000 }) only [↓jt,↓reduceIte,zvs,reduceCtorEq,Nat.reduceEqDiff,Nat.reduceAdd,Nat.reduceLeDiff,Nat.reduceMul,Int.reduceBNe,Int.reduceBEq,Int.reduceEq,Int.reduceNe,Int.reduceLT,Int.reduceLE,Int.reduceGT,Int.reduceGE,Int.reduceNeg,Int.reduceToNat,Nat.reduceLT,Nat.reduceSub,tab,Tryd.results84,List.toList_toArray])|(simp (disch:=omega) only [ziw]))
  all_goals first
    | (exfalso; omega)
    | (simp only [zrds]; done)
    | trace_state
theorem rk12 (b c : Int) (hb : rW b) (hc0 : rW c) : Spec Tryd.prog 85 [.int .u32 b, .int .u32 c] (.int .u32 (if IntKind.i32.wrap b < IntKind.i32.wrap c then 1 else 0)) := by
  obtain ⟨hb1, hb2⟩ := hb
  obtain ⟨hc1, hc2⟩ := hc0
  have hL := pless_spec b c
  have hT := ptruth_spec (decide (IntKind.i32.wrap b < IntKind.i32.wrap c))
  simp only [decide_eq_true_eq] at hT
  refine spec_ok Tryd.func85 rfl rfl (by kernel_rfl) (k := 2) rfl (by decide) ?_
  repeat' (first|(with_reducible first|refine yrl (by constructor) ?_|refine jk (fun M hM=>?_)|(refine hM _ ?_;clear hM M)|refine xb3 (by decide) ?_|refine yqa (by assumption) ?_ ?_|refine yqb (by assumption) ?_ ?_)|((with_reducible refine je ?_)<;>(first|rfl|assumption|(simp only [znl];(first|done|fail))))|(with_reducible refine jf (by (simp only [↓reduceIte,zlk,Nat.reduceEqDiff,reduceCtorEq]);exact rfl) ?_)|((with_reducible first|refine jg (fun hc=>?_) (fun hc=>?_)|refine jh (fun hc=>?_) (fun hc=>?_))<;>(try simp (disch:=omega) only [zhb] at hc)<;>(try (exfalso;omega))<;>(try subst hc))|(with_reducible refine ji (by omega) ?_)|(simp (config := { maxSteps := 400000 }) only [↓jt,↓reduceIte,zvs,reduceCtorEq,Nat.reduceEqDiff,Nat.reduceAdd,Nat.reduceLeDiff,Nat.reduceMul,Int.reduceBNe,Int.reduceBEq,Int.reduceEq,Int.reduceNe,Int.reduceLT,Int.reduceLE,Int.reduceGT,Int.reduceGE,Int.reduceNeg,Int.reduceToNat,Nat.reduceLT,Nat.reduceSub,tab,Tryd.results85,List.toList_toArray])|(simp (disch:=omega) only [ziw]))
  all_goals first
    | (exfalso; omega)
    | (simp only [zrds]; done)
    | trace_state
theorem rk13 (b c : Int) (hb : rW b) (hc0 : rW c) : Spec Tryd.prog 88 [.int .u32 b, .int .u32 c] (.int .u32 (if b < c then 1 else 0)) := by
  obtain ⟨hb1, hb2⟩ := hb
  obtain ⟨hc1, hc2⟩ := hc0
  have hT := ptruth_spec (decide (b < c))
  simp only [decide_eq_true_eq] at hT
  refine spec_ok Tryd.func88 rfl rfl (by kernel_rfl) (k := 2) rfl (by decide) ?_
  repeat' (first|(with_reducible first|refine yrl (by constructor) ?_|refine jk (fun M hM=>?_)|(refine hM _ ?_;clear hM M)|refine xb3 (by decide) ?_|refine yqa (by assumption) ?_ ?_|refine yqb (by assumption) ?_ ?_)|((with_reducible refine je ?_)<;>(first|rfl|assumption|(simp only [znl];(first|done|fail))))|(with_reducible refine jf (by (simp only [↓reduceIte,zlk,Nat.reduceEqDiff,reduceCtorEq]);exact rfl) ?_)|((with_reducible first|refine jg (fun hc=>?_) (fun hc=>?_)|refine jh (fun hc=>?_) (fun hc=>?_))<;>(try simp (disch:=omega) only [zhb] at hc)<;>(try (exfalso;omega))<;>(try subst hc))|(with_reducible refine ji (by omega) ?_)|(simp (config := { maxSteps := 400000 }) only [↓jt,↓reduceIte,zvs,reduceCtorEq,Nat.reduceEqDiff,Nat.reduceAdd,Nat.reduceLeDiff,Nat.reduceMul,Int.reduceBNe,Int.reduceBEq,Int.reduceEq,Int.reduceNe,Int.reduceLT,Int.reduceLE,Int.reduceGT,Int.reduceGE,Int.reduceNeg,Int.reduceToNat,Nat.reduceLT,Nat.reduceSub,tab,Tryd.results88,List.toList_toArray])|(simp (disch:=omega) only [ziw]))
  all_goals first
    | (exfalso; omega)
    | (simp only [zrds]; done)
    | trace_state
def reckF (op b c : Int) : Int :=
  if op = 1 then (IntKind.u32.wrap (b + c)) else if op = 2 then (IntKind.u32.wrap (b - c)) else if op = 3 then (IntKind.u32.wrap (b * c)) else if op = 4 then (if c = 0 then 4294967295 else IntKind.u32.wrap (b / c)) else if op = 5 then (if c = 0 then b else b % c) else if op = 6 then (bits .and .u32 b c) else if op = 7 then (bits .or .u32 b c) else if op = 8 then (bits .xor .u32 b c) else if op = 9 then (IntKind.u32.wrap (b * 2 ^ min (bits .and .u32 c 31).toNat IntKind.u32.bits)) else if op = 10 then (b.fdiv (2 ^ min (bits .and .u32 c 31).toNat IntKind.u32.bits)) else if op = 11 then (IntKind.u32.wrap ((IntKind.i32.wrap b).fdiv (2 ^ min (bits .and .u32 c 31).toNat IntKind.i32.bits))) else if op = 12 then (if IntKind.i32.wrap b < IntKind.i32.wrap c then 1 else 0) else (if b < c then 1 else 0)
theorem reck_R (op : Int) {b c : Int} (hb : rW b) (hc : rW c) : rW (reckF op b c) := by
  obtain ⟨hb1, hb2⟩ := hb
  obtain ⟨hc1, hc2⟩ := hc
  unfold reckF
  (repeat' (first | exact wr_u32 _ | (refine iteInduction (motive := rW) (fun _ => ?_) (fun _ => ?_))))
  all_goals first
    | exact wr_u32 _
    | exact bit_R _ _ _ (by simp)
    | (unfold rW; omega)
    | (unfold rW; refine ⟨Int.ediv_nonneg hb1 hc1, Int.le_trans (Int.ediv_le_self _ hb1) hb2⟩)
    | (unfold rW; rename_i h; refine ⟨Int.emod_nonneg _ h, ?_⟩; have := Int.emod_lt_of_pos b (show 0 < c by omega); omega)
    | (unfold rW; rw [Int.fdiv_eq_ediv_of_nonneg _ (Int.le_of_lt (Int.pow_pos (by decide)))]; exact ⟨Int.ediv_nonneg hb1 (Int.le_of_lt (Int.pow_pos (by decide))), Int.le_trans (Int.ediv_le_self _ hb1) hb2⟩)
    | trace_state
theorem reck_spec (op b c : Int) (hop : 0 ≤ op ∧ op ≤ 255) (hb : rW b) (hc : rW c) : ∃ g, Spec Tryd.prog 37 [.int .u8 op] (.fn g []) ∧ callable Tryd.prog g = true ∧ Spec Tryd.prog g [.int .u32 b, .int .u32 c] (.int .u32 (reckF op b c)) := by
  unfold reckF
  by_cases h1 : op = 1
  · rw [if_pos h1]
    subst h1
    refine ⟨74, ?_, by kernel_rfl, rk1 b c hb hc⟩
    refine spec_ok Tryd.func37 rfl rfl (by kernel_rfl) (k := 1) rfl (by decide) ?_
    repeat' (first|(with_reducible first|refine yrl (by constructor) ?_|refine jk (fun M hM=>?_)|(refine hM _ ?_;clear hM M)|refine xb3 (by decide) ?_|refine yqa (by assumption) ?_ ?_|refine yqb (by assumption) ?_ ?_)|((with_reducible refine je ?_)<;>(first|rfl|assumption|(simp only [znl];(first|done|fail))))|(with_reducible refine jf (by (simp only [↓reduceIte,zlk,Nat.reduceEqDiff,reduceCtorEq]);exact rfl) ?_)|((with_reducible first|refine jg (fun hc=>?_) (fun hc=>?_)|refine jh (fun hc=>?_) (fun hc=>?_))<;>(try simp (disch:=omega) only [zhb] at hc)<;>(try (exfalso;omega))<;>(try subst hc))|(with_reducible refine ji (by omega) ?_)|(simp (config := { maxSteps := 400000 }) only [↓jt,↓reduceIte,zvs,reduceCtorEq,Nat.reduceEqDiff,Nat.reduceAdd,Nat.reduceLeDiff,Nat.reduceMul,Int.reduceBNe,Int.reduceBEq,Int.reduceEq,Int.reduceNe,Int.reduceLT,Int.reduceLE,Int.reduceGT,Int.reduceGE,Int.reduceNeg,Int.reduceToNat,Nat.reduceLT,Nat.reduceSub,tab,Tryd.results37,List.toList_toArray])|(simp (disch:=omega) only [ziw]))
    all_goals first
      | (exfalso; omega)
      | (simp only [zrds]; done)
      | exact ⟨rfl, rfl⟩
      | trace_state
  rw [if_neg h1]
  by_cases h2 : op = 2
  · rw [if_pos h2]
    subst h2
    refine ⟨75, ?_, by kernel_rfl, rk2 b c hb hc⟩
    refine spec_ok Tryd.func37 rfl rfl (by kernel_rfl) (k := 1) rfl (by decide) ?_
    repeat' (first|(with_reducible first|refine yrl (by constructor) ?_|refine jk (fun M hM=>?_)|(refine hM _ ?_;clear hM M)|refine xb3 (by decide) ?_|refine yqa (by assumption) ?_ ?_|refine yqb (by assumption) ?_ ?_)|((with_reducible refine je ?_)<;>(first|rfl|assumption|(simp only [znl];(first|done|fail))))|(with_reducible refine jf (by (simp only [↓reduceIte,zlk,Nat.reduceEqDiff,reduceCtorEq]);exact rfl) ?_)|((with_reducible first|refine jg (fun hc=>?_) (fun hc=>?_)|refine jh (fun hc=>?_) (fun hc=>?_))<;>(try simp (disch:=omega) only [zhb] at hc)<;>(try (exfalso;omega))<;>(try subst hc))|(with_reducible refine ji (by omega) ?_)|(simp (config := { maxSteps := 400000 }) only [↓jt,↓reduceIte,zvs,reduceCtorEq,Nat.reduceEqDiff,Nat.reduceAdd,Nat.reduceLeDiff,Nat.reduceMul,Int.reduceBNe,Int.reduceBEq,Int.reduceEq,Int.reduceNe,Int.reduceLT,Int.reduceLE,Int.reduceGT,Int.reduceGE,Int.reduceNeg,Int.reduceToNat,Nat.reduceLT,Nat.reduceSub,tab,Tryd.results37,List.toList_toArray])|(simp (disch:=omega) only [ziw]))
    all_goals first
      | (exfalso; omega)
      | (simp only [zrds]; done)
      | exact ⟨rfl, rfl⟩
      | trace_state
  rw [if_neg h2]
  by_cases h3 : op = 3
  · rw [if_pos h3]
    subst h3
    refine ⟨76, ?_, by kernel_rfl, rk3 b c hb hc⟩
    refine spec_ok Tryd.func37 rfl rfl (by kernel_rfl) (k := 1) rfl (by decide) ?_
    repeat' (first|(with_reducible first|refine yrl (by constructor) ?_|refine jk (fun M hM=>?_)|(refine hM _ ?_;clear hM M)|refine xb3 (by decide) ?_|refine yqa (by assumption) ?_ ?_|refine yqb (by assumption) ?_ ?_)|((with_reducible refine je ?_)<;>(first|rfl|assumption|(simp only [znl];(first|done|fail))))|(with_reducible refine jf (by (simp only [↓reduceIte,zlk,Nat.reduceEqDiff,reduceCtorEq]);exact rfl) ?_)|((with_reducible first|refine jg (fun hc=>?_) (fun hc=>?_)|refine jh (fun hc=>?_) (fun hc=>?_))<;>(try simp (disch:=omega) only [zhb] at hc)<;>(try (exfalso;omega))<;>(try subst hc))|(with_reducible refine ji (by omega) ?_)|(simp (config := { maxSteps := 400000 }) only [↓jt,↓reduceIte,zvs,reduceCtorEq,Nat.reduceEqDiff,Nat.reduceAdd,Nat.reduceLeDiff,Nat.reduceMul,Int.reduceBNe,Int.reduceBEq,Int.reduceEq,Int.reduceNe,Int.reduceLT,Int.reduceLE,Int.reduceGT,Int.reduceGE,Int.reduceNeg,Int.reduceToNat,Nat.reduceLT,Nat.reduceSub,tab,Tryd.results37,List.toList_toArray])|(simp (disch:=omega) only [ziw]))
    all_goals first
      | (exfalso; omega)
      | (simp only [zrds]; done)
      | exact ⟨rfl, rfl⟩
      | trace_state
  rw [if_neg h3]
  by_cases h4 : op = 4
  · rw [if_pos h4]
    subst h4
    refine ⟨77, ?_, by kernel_rfl, rk4 b c hb hc⟩
    refine spec_ok Tryd.func37 rfl rfl (by kernel_rfl) (k := 1) rfl (by decide) ?_
    repeat' (first|(with_reducible first|refine yrl (by constructor) ?_|refine jk (fun M hM=>?_)|(refine hM _ ?_;clear hM M)|refine xb3 (by decide) ?_|refine yqa (by assumption) ?_ ?_|refine yqb (by assumption) ?_ ?_)|((with_reducible refine je ?_)<;>(first|rfl|assumption|(simp only [znl];(first|done|fail))))|(with_reducible refine jf (by (simp only [↓reduceIte,zlk,Nat.reduceEqDiff,reduceCtorEq]);exact rfl) ?_)|((with_reducible first|refine jg (fun hc=>?_) (fun hc=>?_)|refine jh (fun hc=>?_) (fun hc=>?_))<;>(try simp (disch:=omega) only [zhb] at hc)<;>(try (exfalso;omega))<;>(try subst hc))|(with_reducible refine ji (by omega) ?_)|(simp (config := { maxSteps := 400000 }) only [↓jt,↓reduceIte,zvs,reduceCtorEq,Nat.reduceEqDiff,Nat.reduceAdd,Nat.reduceLeDiff,Nat.reduceMul,Int.reduceBNe,Int.reduceBEq,Int.reduceEq,Int.reduceNe,Int.reduceLT,Int.reduceLE,Int.reduceGT,Int.reduceGE,Int.reduceNeg,Int.reduceToNat,Nat.reduceLT,Nat.reduceSub,tab,Tryd.results37,List.toList_toArray])|(simp (disch:=omega) only [ziw]))
    all_goals first
      | (exfalso; omega)
      | (simp only [zrds]; done)
      | exact ⟨rfl, rfl⟩
      | trace_state
  rw [if_neg h4]
  by_cases h5 : op = 5
  · rw [if_pos h5]
    subst h5
    refine ⟨78, ?_, by kernel_rfl, rk5 b c hb hc⟩
    refine spec_ok Tryd.func37 rfl rfl (by kernel_rfl) (k := 1) rfl (by decide) ?_
    repeat' (first|(with_reducible first|refine yrl (by constructor) ?_|refine jk (fun M hM=>?_)|(refine hM _ ?_;clear hM M)|refine xb3 (by decide) ?_|refine yqa (by assumption) ?_ ?_|refine yqb (by assumption) ?_ ?_)|((with_reducible refine je ?_)<;>(first|rfl|assumption|(simp only [znl];(first|done|fail))))|(with_reducible refine jf (by (simp only [↓reduceIte,zlk,Nat.reduceEqDiff,reduceCtorEq]);exact rfl) ?_)|((with_reducible first|refine jg (fun hc=>?_) (fun hc=>?_)|refine jh (fun hc=>?_) (fun hc=>?_))<;>(try simp (disch:=omega) only [zhb] at hc)<;>(try (exfalso;omega))<;>(try subst hc))|(with_reducible refine ji (by omega) ?_)|(simp (config := { maxSteps := 400000 }) only [↓jt,↓reduceIte,zvs,reduceCtorEq,Nat.reduceEqDiff,Nat.reduceAdd,Nat.reduceLeDiff,Nat.reduceMul,Int.reduceBNe,Int.reduceBEq,Int.reduceEq,Int.reduceNe,Int.reduceLT,Int.reduceLE,Int.reduceGT,Int.reduceGE,Int.reduceNeg,Int.reduceToNat,Nat.reduceLT,Nat.reduceSub,tab,Tryd.results37,List.toList_toArray])|(simp (disch:=omega) only [ziw]))
    all_goals first
      | (exfalso; omega)
      | (simp only [zrds]; done)
      | exact ⟨rfl, rfl⟩
      | trace_state
  rw [if_neg h5]
  by_cases h6 : op = 6
  · rw [if_pos h6]
    subst h6
    refine ⟨79, ?_, by kernel_rfl, rk6 b c hb hc⟩
    refine spec_ok Tryd.func37 rfl rfl (by kernel_rfl) (k := 1) rfl (by decide) ?_
    repeat' (first|(with_reducible first|refine yrl (by constructor) ?_|refine jk (fun M hM=>?_)|(refine hM _ ?_;clear hM M)|refine xb3 (by decide) ?_|refine yqa (by assumption) ?_ ?_|refine yqb (by assumption) ?_ ?_)|((with_reducible refine je ?_)<;>(first|rfl|assumption|(simp only [znl];(first|done|fail))))|(with_reducible refine jf (by (simp only [↓reduceIte,zlk,Nat.reduceEqDiff,reduceCtorEq]);exact rfl) ?_)|((with_reducible first|refine jg (fun hc=>?_) (fun hc=>?_)|refine jh (fun hc=>?_) (fun hc=>?_))<;>(try simp (disch:=omega) only [zhb] at hc)<;>(try (exfalso;omega))<;>(try subst hc))|(with_reducible refine ji (by omega) ?_)|(simp (config := { maxSteps := 400000 }) only [↓jt,↓reduceIte,zvs,reduceCtorEq,Nat.reduceEqDiff,Nat.reduceAdd,Nat.reduceLeDiff,Nat.reduceMul,Int.reduceBNe,Int.reduceBEq,Int.reduceEq,Int.reduceNe,Int.reduceLT,Int.reduceLE,Int.reduceGT,Int.reduceGE,Int.reduceNeg,Int.reduceToNat,Nat.reduceLT,Nat.reduceSub,tab,Tryd.results37,List.toList_toArray])|(simp (disch:=omega) only [ziw]))
    all_goals first
      | (exfalso; omega)
      | (simp only [zrds]; done)
      | exact ⟨rfl, rfl⟩
      | trace_state
  rw [if_neg h6]
  by_cases h7 : op = 7
  · rw [if_pos h7]
    subst h7
    refine ⟨80, ?_, by kernel_rfl, rk7 b c hb hc⟩
    refine spec_ok Tryd.func37 rfl rfl (by kernel_rfl) (k := 1) rfl (by decide) ?_
    repeat' (first|(with_reducible first|refine yrl (by constructor) ?_|refine jk (fun M hM=>?_)|(refine hM _ ?_;clear hM M)|refine xb3 (by decide) ?_|refine yqa (by assumption) ?_ ?_|refine yqb (by assumption) ?_ ?_)|((with_reducible refine je ?_)<;>(first|rfl|assumption|(simp only [znl];(first|done|fail))))|(with_reducible refine jf (by (simp only [↓reduceIte,zlk,Nat.reduceEqDiff,reduceCtorEq]);exact rfl) ?_)|((with_reducible first|refine jg (fun hc=>?_) (fun hc=>?_)|refine jh (fun hc=>?_) (fun hc=>?_))<;>(try simp (disch:=omega) only [zhb] at hc)<;>(try (exfalso;omega))<;>(try subst hc))|(with_reducible refine ji (by omega) ?_)|(simp (config := { maxSteps := 400000 }) only [↓jt,↓reduceIte,zvs,reduceCtorEq,Nat.reduceEqDiff,Nat.reduceAdd,Nat.reduceLeDiff,Nat.reduceMul,Int.reduceBNe,Int.reduceBEq,Int.reduceEq,Int.reduceNe,Int.reduceLT,Int.reduceLE,Int.reduceGT,Int.reduceGE,Int.reduceNeg,Int.reduceToNat,Nat.reduceLT,Nat.reduceSub,tab,Tryd.results37,List.toList_toArray])|(simp (disch:=omega) only [ziw]))
    all_goals first
      | (exfalso; omega)
      | (simp only [zrds]; done)
      | exact ⟨rfl, rfl⟩
      | trace_state
  rw [if_neg h7]
  by_cases h8 : op = 8
  · rw [if_pos h8]
    subst h8
    refine ⟨81, ?_, by kernel_rfl, rk8 b c hb hc⟩
    refine spec_ok Tryd.func37 rfl rfl (by kernel_rfl) (k := 1) rfl (by decide) ?_
    repeat' (first|(with_reducible first|refine yrl (by constructor) ?_|refine jk (fun M hM=>?_)|(refine hM _ ?_;clear hM M)|refine xb3 (by decide) ?_|refine yqa (by assumption) ?_ ?_|refine yqb (by assumption) ?_ ?_)|((with_reducible refine je ?_)<;>(first|rfl|assumption|(simp only [znl];(first|done|fail))))|(with_reducible refine jf (by (simp only [↓reduceIte,zlk,Nat.reduceEqDiff,reduceCtorEq]);exact rfl) ?_)|((with_reducible first|refine jg (fun hc=>?_) (fun hc=>?_)|refine jh (fun hc=>?_) (fun hc=>?_))<;>(try simp (disch:=omega) only [zhb] at hc)<;>(try (exfalso;omega))<;>(try subst hc))|(with_reducible refine ji (by omega) ?_)|(simp (config := { maxSteps := 400000 }) only [↓jt,↓reduceIte,zvs,reduceCtorEq,Nat.reduceEqDiff,Nat.reduceAdd,Nat.reduceLeDiff,Nat.reduceMul,Int.reduceBNe,Int.reduceBEq,Int.reduceEq,Int.reduceNe,Int.reduceLT,Int.reduceLE,Int.reduceGT,Int.reduceGE,Int.reduceNeg,Int.reduceToNat,Nat.reduceLT,Nat.reduceSub,tab,Tryd.results37,List.toList_toArray])|(simp (disch:=omega) only [ziw]))
    all_goals first
      | (exfalso; omega)
      | (simp only [zrds]; done)
      | exact ⟨rfl, rfl⟩
      | trace_state
  rw [if_neg h8]
  by_cases h9 : op = 9
  · rw [if_pos h9]
    subst h9
    refine ⟨82, ?_, by kernel_rfl, rk9 b c hb hc⟩
    refine spec_ok Tryd.func37 rfl rfl (by kernel_rfl) (k := 1) rfl (by decide) ?_
    repeat' (first|(with_reducible first|refine yrl (by constructor) ?_|refine jk (fun M hM=>?_)|(refine hM _ ?_;clear hM M)|refine xb3 (by decide) ?_|refine yqa (by assumption) ?_ ?_|refine yqb (by assumption) ?_ ?_)|((with_reducible refine je ?_)<;>(first|rfl|assumption|(simp only [znl];(first|done|fail))))|(with_reducible refine jf (by (simp only [↓reduceIte,zlk,Nat.reduceEqDiff,reduceCtorEq]);exact rfl) ?_)|((with_reducible first|refine jg (fun hc=>?_) (fun hc=>?_)|refine jh (fun hc=>?_) (fun hc=>?_))<;>(try simp (disch:=omega) only [zhb] at hc)<;>(try (exfalso;omega))<;>(try subst hc))|(with_reducible refine ji (by omega) ?_)|(simp (config := { maxSteps := 400000 }) only [↓jt,↓reduceIte,zvs,reduceCtorEq,Nat.reduceEqDiff,Nat.reduceAdd,Nat.reduceLeDiff,Nat.reduceMul,Int.reduceBNe,Int.reduceBEq,Int.reduceEq,Int.reduceNe,Int.reduceLT,Int.reduceLE,Int.reduceGT,Int.reduceGE,Int.reduceNeg,Int.reduceToNat,Nat.reduceLT,Nat.reduceSub,tab,Tryd.results37,List.toList_toArray])|(simp (disch:=omega) only [ziw]))
    all_goals first
      | (exfalso; omega)
      | (simp only [zrds]; done)
      | exact ⟨rfl, rfl⟩
      | trace_state
  rw [if_neg h9]
  by_cases h10 : op = 10
  · rw [if_pos h10]
    subst h10
    refine ⟨83, ?_, by kernel_rfl, rk10 b c hb hc⟩
    refine spec_ok Tryd.func37 rfl rfl (by kernel_rfl) (k := 1) rfl (by decide) ?_
    repeat' (first|(with_reducible first|refine yrl (by constructor) ?_|refine jk (fun M hM=>?_)|(refine hM _ ?_;clear hM M)|refine xb3 (by decide) ?_|refine yqa (by assumption) ?_ ?_|refine yqb (by assumption) ?_ ?_)|((with_reducible refine je ?_)<;>(first|rfl|assumption|(simp only [znl];(first|done|fail))))|(with_reducible refine jf (by (simp only [↓reduceIte,zlk,Nat.reduceEqDiff,reduceCtorEq]);exact rfl) ?_)|((with_reducible first|refine jg (fun hc=>?_) (fun hc=>?_)|refine jh (fun hc=>?_) (fun hc=>?_))<;>(try simp (disch:=omega) only [zhb] at hc)<;>(try (exfalso;omega))<;>(try subst hc))|(with_reducible refine ji (by omega) ?_)|(simp (config := { maxSteps := 400000 }) only [↓jt,↓reduceIte,zvs,reduceCtorEq,Nat.reduceEqDiff,Nat.reduceAdd,Nat.reduceLeDiff,Nat.reduceMul,Int.reduceBNe,Int.reduceBEq,Int.reduceEq,Int.reduceNe,Int.reduceLT,Int.reduceLE,Int.reduceGT,Int.reduceGE,Int.reduceNeg,Int.reduceToNat,Nat.reduceLT,Nat.reduceSub,tab,Tryd.results37,List.toList_toArray])|(simp (disch:=omega) only [ziw]))
    all_goals first
      | (exfalso; omega)
      | (simp only [zrds]; done)
      | exact ⟨rfl, rfl⟩
      | trace_state
  rw [if_neg h10]
  by_cases h11 : op = 11
  · rw [if_pos h11]
    subst h11
    refine ⟨84, ?_, by kernel_rfl, rk11 b c hb hc⟩
    refine spec_ok Tryd.func37 rfl rfl (by kernel_rfl) (k := 1) rfl (by decide) ?_
    repeat' (first|(with_reducible first|refine yrl (by constructor) ?_|refine jk (fun M hM=>?_)|(refine hM _ ?_;clear hM M)|refine xb3 (by decide) ?_|refine yqa (by assumption) ?_ ?_|refine yqb (by assumption) ?_ ?_)|((with_reducible refine je ?_)<;>(first|rfl|assumption|(simp only [znl];(first|done|fail))))|(with_reducible refine jf (by (simp only [↓reduceIte,zlk,Nat.reduceEqDiff,reduceCtorEq]);exact rfl) ?_)|((with_reducible first|refine jg (fun hc=>?_) (fun hc=>?_)|refine jh (fun hc=>?_) (fun hc=>?_))<;>(try simp (disch:=omega) only [zhb] at hc)<;>(try (exfalso;omega))<;>(try subst hc))|(with_reducible refine ji (by omega) ?_)|(simp (config := { maxSteps := 400000 }) only [↓jt,↓reduceIte,zvs,reduceCtorEq,Nat.reduceEqDiff,Nat.reduceAdd,Nat.reduceLeDiff,Nat.reduceMul,Int.reduceBNe,Int.reduceBEq,Int.reduceEq,Int.reduceNe,Int.reduceLT,Int.reduceLE,Int.reduceGT,Int.reduceGE,Int.reduceNeg,Int.reduceToNat,Nat.reduceLT,Nat.reduceSub,tab,Tryd.results37,List.toList_toArray])|(simp (disch:=omega) only [ziw]))
    all_goals first
      | (exfalso; omega)
      | (simp only [zrds]; done)
      | exact ⟨rfl, rfl⟩
      | trace_state
  rw [if_neg h11]
  by_cases h12 : op = 12
  · rw [if_pos h12]
    subst h12
    refine ⟨85, ?_, by kernel_rfl, rk12 b c hb hc⟩
    refine spec_ok Tryd.func37 rfl rfl (by kernel_rfl) (k := 1) rfl (by decide) ?_
    repeat' (first|(with_reducible first|refine yrl (by constructor) ?_|refine jk (fun M hM=>?_)|(refine hM _ ?_;clear hM M)|refine xb3 (by decide) ?_|refine yqa (by assumption) ?_ ?_|refine yqb (by assumption) ?_ ?_)|((with_reducible refine je ?_)<;>(first|rfl|assumption|(simp only [znl];(first|done|fail))))|(with_reducible refine jf (by (simp only [↓reduceIte,zlk,Nat.reduceEqDiff,reduceCtorEq]);exact rfl) ?_)|((with_reducible first|refine jg (fun hc=>?_) (fun hc=>?_)|refine jh (fun hc=>?_) (fun hc=>?_))<;>(try simp (disch:=omega) only [zhb] at hc)<;>(try (exfalso;omega))<;>(try subst hc))|(with_reducible refine ji (by omega) ?_)|(simp (config := { maxSteps := 400000 }) only [↓jt,↓reduceIte,zvs,reduceCtorEq,Nat.reduceEqDiff,Nat.reduceAdd,Nat.reduceLeDiff,Nat.reduceMul,Int.reduceBNe,Int.reduceBEq,Int.reduceEq,Int.reduceNe,Int.reduceLT,Int.reduceLE,Int.reduceGT,Int.reduceGE,Int.reduceNeg,Int.reduceToNat,Nat.reduceLT,Nat.reduceSub,tab,Tryd.results37,List.toList_toArray])|(simp (disch:=omega) only [ziw]))
    all_goals first
      | (exfalso; omega)
      | (simp only [zrds]; done)
      | exact ⟨rfl, rfl⟩
      | trace_state
  rw [if_neg h12]
  refine ⟨88, ?_, by kernel_rfl, rk13 b c hb hc⟩
  refine spec_ok Tryd.func37 rfl rfl (by kernel_rfl) (k := 1) rfl (by decide) ?_
  repeat' (first|(with_reducible first|refine yrl (by constructor) ?_|refine jk (fun M hM=>?_)|(refine hM _ ?_;clear hM M)|refine xb3 (by decide) ?_|refine yqa (by assumption) ?_ ?_|refine yqb (by assumption) ?_ ?_)|((with_reducible refine je ?_)<;>(first|rfl|assumption|(simp only [znl];(first|done|fail))))|(with_reducible refine jf (by (simp only [↓reduceIte,zlk,Nat.reduceEqDiff,reduceCtorEq]);exact rfl) ?_)|((with_reducible first|refine jg (fun hc=>?_) (fun hc=>?_)|refine jh (fun hc=>?_) (fun hc=>?_))<;>(try simp (disch:=omega) only [zhb] at hc)<;>(try (exfalso;omega))<;>(try subst hc))|(with_reducible refine ji (by omega) ?_)|(simp (config := { maxSteps := 400000 }) only [↓jt,↓reduceIte,zvs,reduceCtorEq,Nat.reduceEqDiff,Nat.reduceAdd,Nat.reduceLeDiff,Nat.reduceMul,Int.reduceBNe,Int.reduceBEq,Int.reduceEq,Int.reduceNe,Int.reduceLT,Int.reduceLE,Int.reduceGT,Int.reduceGE,Int.reduceNeg,Int.reduceToNat,Nat.reduceLT,Nat.reduceSub,tab,Tryd.results37,List.toList_toArray])|(simp (disch:=omega) only [ziw]))
  all_goals first
    | (exfalso; omega)
    | (simp only [zrds]; done)
    | exact ⟨rfl, rfl⟩
    | trace_state
end Go.Proofs.YtabfjhpakgdopaaDoor.V
end
section
/-
  MMU, part 1: a space, the frame and the place of an address.
-/
set_option linter.unusedVariables false
set_option linter.unusedSimpArgs false
namespace Go.Proofs.YtabfjhpakgdopaaDoor.V
open Go
set_option maxRecDepth 100000
set_option maxHeartbeats 1000000
structure Pte where
  is : Bool
  wr : Bool
  fr : Int
instance : Inhabited Pte := ⟨⟨false, false, 0⟩⟩
def encPte (p : Pte) : VV := .agg [.bool p.is, .bool p.wr, .int .i64 p.fr]
abbrev encSpace (l : List Pte) : VV := .agg (l.map encPte)
abbrev encStrs (l : List (List UInt8)) : VV := .dat .cell (l.map .str)
theorem hasPte (x : Pte) : Has (.st [.cell, .cell, .cell]) (encPte x) := by simp [encPte, Has, HasL, VV.leaf]
theorem hasSpace (l : List Pte) (h : l.length = 16) : Has (.arr 16 (.st [.cell, .cell, .cell])) (.agg (l.map encPte)) := has_arrMap h hasPte
theorem jO (l : List Pte) : nls (l.map encPte) = true := nls_map _ (fun _ => rfl) l
def findO (s : List Pte) (a size : Int) (wr : Bool) : Option (Int × Int) :=
  if ¬(size = 1 ∨ size = 4) ∨ 2048 ≤ a ∨ a % size ≠ 0 then none
  else if (s.getD (a / 128).toNat default).is = false then none
  else if wr = true ∧ (s.getD (a / 128).toNat default).wr = false then none
  else some ((s.getD (a / 128).toNat default).fr, a % 128)
def findV : Option (Int × Int) → VV
  | some (f, i) => .tup [.int .i64 f, .int .i64 i, .bool true]
  | none => .tup [.int .i64 0, .int .i64 0, .bool false]
theorem find_spec (l : List Pte) (hl : l.length = 16) (a : Int) (ha : 0 ≤ a ∧ a < 2 ^ 32) (size : Int) (wr : Bool) :
    Spec Tryd.prog 70 [encSpace l, .int .u32 a, .int .i64 size, .bool wr] (findV (findO l a size wr)) := by
  have hS := hasSpace l hl
  refine spec_ok Tryd.func70 rfl rfl (by kernel_rfl) (k := 4) rfl (by decide) ?_
  repeat' (first|(with_reducible first|refine yrl (by constructor) ?_|refine jk (fun M hM=>?_)|(refine hM _ ?_;clear hM M)|refine xb3 (by decide) ?_)|((with_reducible refine je ?_)<;>(first|rfl|assumption|(simp only [znl];(first|done|fail))))|(with_reducible refine jf (by (simp only [↓reduceIte,zlk,Nat.reduceEqDiff,reduceCtorEq]);exact rfl) ?_)|((with_reducible first|refine jg (fun hc=>?_) (fun hc=>?_)|refine jh (fun hc=>?_) (fun hc=>?_))<;>(try simp (disch:=omega) only [zhb] at hc)<;>(try (exfalso;omega))<;>(try subst hc))|(with_reducible refine ji (by omega) ?_)|(simp (config := { maxSteps := 400000 }) only [↓jt,↓reduceIte,zvs,reduceCtorEq,Nat.reduceEqDiff,Nat.reduceAdd,Nat.reduceLeDiff,Nat.reduceMul,Int.reduceBNe,Int.reduceBEq,Int.reduceEq,Int.reduceNe,Int.reduceLT,Int.reduceLE,Int.reduceGT,Int.reduceGE,Int.reduceNeg,Int.reduceToNat,Nat.reduceLT,Nat.reduceSub,tab,hS,encPte, Tryd.results70,List.toList_toArray])|(simp (disch:=omega) only [ziw]))
  all_goals (unfold findO; (repeat' split))
  all_goals first
    | (exfalso; omega)
    | (simp only [findV]; simp only [zrds]; done)
    | (exfalso; simp_all; done)
    | (simp only [findV]; simp only [zrds]; simp_all; done)
theorem findO_some {s : List Pte} {a size : Int} {wr : Bool} {f i : Int} (h0 : 0 ≤ a) (h : findO s a size wr = some (f, i)) :
    (size = 1 ∨ size = 4) ∧ a < 2048 ∧ a % size = 0 ∧ (s.getD (a / 128).toNat default).is = true ∧ (wr = true → (s.getD (a / 128).toNat default).wr = true) ∧ f = (s.getD (a / 128).toNat default).fr ∧ i = a % 128 ∧ 0 ≤ i ∧ i + size ≤ 128 := by
  unfold findO at h
  split at h
  · cases h
  · split at h
    · cases h
    · split at h
      · cases h
      · rename_i h1 h2 h3
        injection h with h
        injection h with h4 h5
        have h6 : (size = 1 ∨ size = 4) ∧ a < 2048 ∧ a % size = 0 := by
          refine ⟨?_, ?_, ?_⟩
          · exact Decidable.byContradiction fun hc => h1 (.inl hc)
          · exact Decidable.byContradiction fun hc => h1 (.inr (.inl (by omega)))
          · exact Decidable.byContradiction fun hc => h1 (.inr (.inr hc))
        refine ⟨h6.1, h6.2.1, h6.2.2, by simpa using h2, fun hw => by simpa [hw] using h3, h4.symm, h5.symm, by omega, ?_⟩
        obtain ⟨h7, h8, h9⟩ := h6
        rcases h7 with rfl | rfl <;> omega
end Go.Proofs.YtabfjhpakgdopaaDoor.V
end
section
/-
  MMU, part 2: numbers as bytes.
-/
set_option linter.unusedVariables false
set_option linter.unusedSimpArgs false
namespace Go.Proofs.YtabfjhpakgdopaaDoor.V
open Go
set_option maxRecDepth 100000
set_option maxHeartbeats 1000000
def getLE : List UInt8 → Nat
  | [] => 0
  | b :: l => b.toNat + 256 * getLE l
theorem getLE_lt : ∀ l : List UInt8, getLE l < 256 ^ l.length
  | [] => by simp [getLE]
  | b :: l => by
    have h1 := getLE_lt l
    have h2 := b.toNat_lt
    simp only [getLE,List.length_cons,Nat.pow_succ]
    omega
theorem getLE_snoc : ∀ (l : List UInt8) (b : UInt8), getLE (l ++ [b]) = getLE l + 256 ^ l.length * b.toNat
  | [], b => by simp [getLE]
  | a :: l, b => by
    simp only [List.cons_append,getLE,getLE_snoc l b,List.length_cons,Nat.pow_succ]
    rw [Nat.mul_add, Nat.add_assoc, ← Nat.mul_assoc, Nat.mul_comm 256 (256 ^ l.length)]
theorem take_snoc {α : Type} [Inhabited α] (l : List α) (i : Nat) (h : i < l.length) : l.take (i + 1) = l.take i ++ [l.getD i default] := by
  rw [List.take_succ_eq_append_getElem h]; simp [h]
theorem or_step (l : List UInt8) (b : UInt8) (hl : l.length < 8) : bits .or .u64 (getLE l : Int) (IntKind.u64.wrap (IntKind.u64.wrap (b.toNat : Int) * 2 ^ min (8 * (l.length : Int)).toNat IntKind.u64.bits)) = (getLE (l ++ [b]) : Int) := by
  have h1 := getLE_lt l
  have h2 := b.toNat_lt
  have e1 : IntKind.u64.wrap (b.toNat : Int) = b.toNat := wraps_u64 _ (by omega) (by omega)
  have e2 : min (8 * (l.length : Int)).toNat IntKind.u64.bits = 8 * l.length := by
    have : IntKind.u64.bits = 64 := rfl
    rw [this]; omega
  have e3 : (256 : Nat) ^ l.length = 2 ^ (8 * l.length) := by rw [Nat.pow_mul]
  have e4 : (256 : Nat) ^ l.length * 256 ≤ 2 ^ 64 := by
    have : (256 : Nat) ^ (l.length + 1) ≤ 256 ^ 8 := Nat.pow_le_pow_right (by omega) (by omega)
    rw [Nat.pow_succ] at this
    exact this
  have e5 : b.toNat * 256 ^ l.length < 2 ^ 64 := by
    have : b.toNat * 256 ^ l.length ≤ 255 * 256 ^ l.length := Nat.mul_le_mul_right _ (by omega)
    have : 0 < 256 ^ l.length := Nat.pow_pos (by omega)
    omega
  have e6 : ((b.toNat : Int) * 2 ^ (8 * l.length)) = ((b.toNat * 256 ^ l.length : Nat) : Int) := by rw [e3]; push_cast; rfl
  rw [e1, e2, e6, wraps_u64 _ (by omega) (by exact_mod_cast e5), getLE_snoc]
  have hb := bits_join_low .u64 64 (by decide) (fun n h0 h1 => wraps_u64 n h0 (by simpa using h1)) (8 * l.length) (getLE l : Int) ((b.toNat * 256 ^ l.length : Nat) : Int) (by omega)
    (by rw [e3] at h1; exact_mod_cast h1) (by have : getLE l < 2 ^ 64 := by omega
                                              exact_mod_cast this) (by omega) (by rw [e3]; push_cast; exact Int.mul_emod_left _ _) (by exact_mod_cast e5)
  rw [hb, Nat.mul_comm]
  push_cast
  rfl
theorem num_get_spec (s : List UInt8) (hs : s.length < 2 ^ 62) : Spec Tryd.prog 72 [.str s] (.int .u64 (getLE (s.take 8))) := by
  refine spec_ok Tryd.func72 rfl rfl (by kernel_rfl) (k := 1) rfl (by decide) ?_
  repeat' (first|(with_reducible first|refine yrl (by constructor) ?_|refine jk (fun M hM=>?_)|(refine hM _ ?_;clear hM M)|refine xb3 (by decide) ?_)|((with_reducible refine je ?_)<;>(first|rfl|assumption|(simp only [znl];(first|done|fail))))|(with_reducible refine jf (by (simp only [↓reduceIte,zlk,Nat.reduceEqDiff,reduceCtorEq]);exact rfl) ?_)|((with_reducible first|refine jg (fun hc=>?_) (fun hc=>?_)|refine jh (fun hc=>?_) (fun hc=>?_))<;>(try simp (disch:=omega) only [zhb] at hc)<;>(try (exfalso;omega))<;>(try subst hc))|(with_reducible refine ji (by omega) ?_)|(simp (config := { maxSteps := 400000 }) only [↓jt,↓reduceIte,zvs,reduceCtorEq,Nat.reduceEqDiff,Nat.reduceAdd,Nat.reduceLeDiff,Nat.reduceMul,Int.reduceBNe,Int.reduceBEq,Int.reduceEq,Int.reduceNe,Int.reduceLT,Int.reduceLE,Int.reduceGT,Int.reduceGE,Int.reduceNeg,Int.reduceToNat,Nat.reduceLT,Nat.reduceSub,tab,Tryd.results72,List.toList_toArray])|(simp (disch:=omega) only [ziw]))
  obtain ⟨b, hb⟩ : ∃ b : Int, b = min (s.length : Int) 8 := ⟨_, rfl⟩
  have hb1 : b ≤ 8 := by omega
  have hb2 : b ≤ s.length := by omega
  have hb3 : 0 ≤ b := by omega
  refine ok_loop (fun k : Nat => ⟨slots [(0, .str s), (2, .int .u64 0), (3, .int .u64 (getLE (s.take k))), (7, .int .i64 b), (8, .int .i64 k)], rows [], 0⟩) (fun k => (k : Int) ≤ b) (fun k => 8 - k) 0 ?_ (by omega) (fun k hk => ?_)
  · (refine yrn [] false ?_ ?_<;>(repeat' (first|(with_reducible first|exact ya1|exact ya2|exact ya3|refine jx rfl (by first|rfl|assumption|(simp only [znl];(first|done|fail)))|exact ya5|exact ya7|exact jy|exact jz|refine jA ?_|refine ya9 ?_ ?_ ?_|refine jC rfl (by first|rfl|assumption|(simp only [znl];(first|done|fail)))|refine MR.agg (MRL.cons ?_ ?_)|refine MR.fn ?_|refine MRL.cons ?_ ?_|exact MRL.nil|refine jE ?_ ?_|exact jF|exact jG|refine yb1 ?_ ?_|refine MB.row ?_|refine jI ?_ ?_|exact ya8|refine jJ rfl (by first|rfl|assumption|(simp only [znl];(first|done|fail)))|refine yb2 ?_|rfl)|(simp only [znl];(first|done|fail))|(simp only [↓reduceIte,zlk,Nat.reduceEqDiff,reduceCtorEq])|(with_reducible first|refine jJ ?_ ?_|refine ya5 ?_|refine ju ?_|refine jv ?_|refine jw ?_|refine jx ?_ (by first|rfl|assumption|(simp only [znl];(first|done|fail)))|refine jC ?_ (by first|rfl|assumption|(simp only [znl];(first|done|fail)))))))
    rfl
  by_cases hlt : (k : Int) < b
  · repeat' (first|(with_reducible first|refine yrl (by constructor) ?_|refine jk (fun M hM=>?_)|(refine hM _ ?_;clear hM M)|refine xb3 (by decide) ?_)|((with_reducible refine je ?_)<;>(first|rfl|assumption|(simp only [znl];(first|done|fail))))|(with_reducible refine jf (by (simp only [↓reduceIte,zlk,Nat.reduceEqDiff,reduceCtorEq]);exact rfl) ?_)|((with_reducible first|refine jg (fun hc=>?_) (fun hc=>?_)|refine jh (fun hc=>?_) (fun hc=>?_))<;>(try simp (disch:=omega) only [zhb] at hc)<;>(try (exfalso;omega))<;>(try subst hc))|(with_reducible refine ji (by omega) ?_)|(simp (config := { maxSteps := 400000 }) only [↓jt,↓reduceIte,zvs,reduceCtorEq,Nat.reduceEqDiff,Nat.reduceAdd,Nat.reduceLeDiff,Nat.reduceMul,Int.reduceBNe,Int.reduceBEq,Int.reduceEq,Int.reduceNe,Int.reduceLT,Int.reduceLE,Int.reduceGT,Int.reduceGE,Int.reduceNeg,Int.reduceToNat,Nat.reduceLT,Nat.reduceSub,tab])|(simp (disch:=omega) only [ziw]))
    refine xl1 (k + 1) ?_ ?_ ?_
    · (refine yrn [] false ?_ ?_<;>(repeat' (first|(with_reducible first|exact ya1|exact ya2|exact ya3|refine jx rfl (by first|rfl|assumption|(simp only [znl];(first|done|fail)))|exact ya5|exact ya7|exact jy|exact jz|refine jA ?_|refine ya9 ?_ ?_ ?_|refine jC rfl (by first|rfl|assumption|(simp only [znl];(first|done|fail)))|refine MR.agg (MRL.cons ?_ ?_)|refine MR.fn ?_|refine MRL.cons ?_ ?_|exact MRL.nil|refine jE ?_ ?_|exact jF|exact jG|refine yb1 ?_ ?_|refine MB.row ?_|refine jI ?_ ?_|exact ya8|refine jJ rfl (by first|rfl|assumption|(simp only [znl];(first|done|fail)))|refine yb2 ?_|rfl)|(simp only [znl];(first|done|fail))|(simp only [↓reduceIte,zlk,Nat.reduceEqDiff,reduceCtorEq])|(with_reducible first|refine jJ ?_ ?_|refine ya5 ?_|refine ju ?_|refine jv ?_|refine jw ?_|refine jx ?_ (by first|rfl|assumption|(simp only [znl];(first|done|fail)))|refine jC ?_ (by first|rfl|assumption|(simp only [znl];(first|done|fail)))))))
      have hk8 : (s.take k).length = k := by rw [List.length_take]; omega
      have := or_step (s.take k) (s.getD k 0) (by omega)
      rw [hk8] at this
      rw [this, take_snoc s k (by omega)]
      rfl
    · show ((k + 1 : Nat) : Int) ≤ b
      omega
    · show 8 - (k + 1) < 8 - k
      omega
  · repeat' (first|(with_reducible first|refine yrl (by constructor) ?_|refine jk (fun M hM=>?_)|(refine hM _ ?_;clear hM M)|refine xb3 (by decide) ?_)|((with_reducible refine je ?_)<;>(first|rfl|assumption|(simp only [znl];(first|done|fail))))|(with_reducible refine jf (by (simp only [↓reduceIte,zlk,Nat.reduceEqDiff,reduceCtorEq]);exact rfl) ?_)|((with_reducible first|refine jg (fun hc=>?_) (fun hc=>?_)|refine jh (fun hc=>?_) (fun hc=>?_))<;>(try simp (disch:=omega) only [zhb] at hc)<;>(try (exfalso;omega))<;>(try subst hc))|(with_reducible refine ji (by omega) ?_)|(simp (config := { maxSteps := 400000 }) only [↓jt,↓reduceIte,zvs,reduceCtorEq,Nat.reduceEqDiff,Nat.reduceAdd,Nat.reduceLeDiff,Nat.reduceMul,Int.reduceBNe,Int.reduceBEq,Int.reduceEq,Int.reduceNe,Int.reduceLT,Int.reduceLE,Int.reduceGT,Int.reduceGE,Int.reduceNeg,Int.reduceToNat,Nat.reduceLT,Nat.reduceSub,tab])|(simp (disch:=omega) only [ziw]))
    simp only [zrds]
    have e : k = min 8 s.length := by omega
    rw [e]
    congr 2
    by_cases h : s.length ≤ 8
    · rw [Nat.min_eq_right h, List.take_of_length_le (Nat.le_refl _), List.take_of_length_le h]
    · rw [Nat.min_eq_left (by omega)]
def putLE (n : Nat) : Nat → List UInt8
  | 0 => []
  | k + 1 => putLE n k ++ [UInt8.ofNat (n / 256 ^ k)]
theorem putLE_len (n : Nat) : ∀ k, (putLE n k).length = k
  | 0 => rfl
  | k + 1 => by simp [putLE, putLE_len n k]
theorem put_step (n k : Nat) (hk : k < 8) : ((putLE n k).map encB ++ List.replicate (8 - k) (VV.int .u8 0)).set k (.int .u8 (IntKind.u8.wrap ((n : Int).fdiv (2 ^ min (8 * (k : Int)).toNat IntKind.u64.bits)))) = (putLE n (k + 1)).map encB ++ List.replicate (8 - (k + 1)) (VV.int .u8 0) := by
  have e1 : min (8 * (k : Int)).toNat IntKind.u64.bits = 8 * k := by
    have : IntKind.u64.bits = 64 := rfl
    rw [this]; omega
  have e2 : IntKind.u8.wrap ((n : Int).fdiv (2 ^ (8 * k))) = ((UInt8.ofNat (n / 256 ^ k)).toNat : Int) := by
    have e3 : (2 : Int) ^ (8 * k) = ((256 ^ k : Nat) : Int) := by
      rw [show (256 : Nat) = 2 ^ 8 from rfl, ← Nat.pow_mul]; push_cast; rfl
    rw [e3, Int.fdiv_eq_ediv_of_nonneg _ (Int.natCast_nonneg _), IntKind.wrap_u8, UInt8.toNat_ofNat']
    push_cast
    rfl
  have hl : ((putLE n k).map encB).length = k := by simp [putLE_len]
  have e4 : List.replicate (8 - k) (VV.int .u8 0) = VV.int .u8 0 :: List.replicate (8 - (k + 1)) (VV.int .u8 0) := by
    rw [show 8 - k = (8 - (k + 1)) + 1 by omega, List.replicate_succ]
  rw [e1, e2, List.set_append_right _ _ (by omega), hl, e4, Nat.sub_self, List.set_cons_zero]
  simp [putLE, encB]
theorem num_put_spec (n : Nat) (hn : n < 2 ^ 64) (size : Int) : Spec Tryd.prog 95 [.int .u64 n, .int .i64 size] (.str (putLE n (min size.toNat 8))) := by
  refine spec_ok Tryd.func95 rfl rfl (by kernel_rfl) (k := 2) rfl (by decide) ?_
  repeat' (first|(with_reducible first|refine yrl (by constructor) ?_|refine jk (fun M hM=>?_)|(refine hM _ ?_;clear hM M)|refine xb3 (by decide) ?_)|((with_reducible refine je ?_)<;>(first|rfl|assumption|(simp only [znl];(first|done|fail))))|(with_reducible refine jf (by (simp only [↓reduceIte,zlk,Nat.reduceEqDiff,reduceCtorEq]);exact rfl) ?_)|((with_reducible first|refine jg (fun hc=>?_) (fun hc=>?_)|refine jh (fun hc=>?_) (fun hc=>?_))<;>(try simp (disch:=omega) only [zhb] at hc)<;>(try (exfalso;omega))<;>(try subst hc))|(with_reducible refine ji (by omega) ?_)|(simp (config := { maxSteps := 400000 }) only [↓jt,↓reduceIte,zvs,reduceCtorEq,Nat.reduceEqDiff,Nat.reduceAdd,Nat.reduceLeDiff,Nat.reduceMul,Int.reduceBNe,Int.reduceBEq,Int.reduceEq,Int.reduceNe,Int.reduceLT,Int.reduceLE,Int.reduceGT,Int.reduceGE,Int.reduceNeg,Int.reduceToNat,Nat.reduceLT,Nat.reduceSub,tab,Tryd.results95,List.toList_toArray])|(simp (disch:=omega) only [ziw]))
  obtain ⟨m, hm⟩ : ∃ m : Nat, m = min size.toNat 8 := ⟨_, rfl⟩
  refine ok_loop (fun k : Nat => ⟨slots [(0, .int .u64 n), (1, .int .i64 m), (4, .str []), (5, .ptr 0 []), (10, .int .i64 m), (11, .int .i64 k)], rows [(0, .row (.arr 8 .cell) (.agg ((putLE n k).map encB ++ List.replicate (8 - k) (.int .u8 0))))], 1⟩)
    (fun k => k ≤ m) (fun k => 8 - k) 0 ?_ (by omega) (fun k hk => ?_)
  · (refine yrn [(0, 0)] false ?_ ?_<;>(repeat' (first|(with_reducible first|exact ya1|exact ya2|exact ya3|refine jx rfl (by first|rfl|assumption|(simp only [znl];(first|done|fail)))|exact ya5|exact ya7|exact jy|exact jz|refine jA ?_|refine ya9 ?_ ?_ ?_|refine jC rfl (by first|rfl|assumption|(simp only [znl];(first|done|fail)))|refine MR.agg (MRL.cons ?_ ?_)|refine MR.fn ?_|refine MRL.cons ?_ ?_|exact MRL.nil|refine jE ?_ ?_|exact jF|exact jG|refine yb1 ?_ ?_|refine MB.row ?_|refine jI ?_ ?_|exact ya8|refine jJ rfl (by first|rfl|assumption|(simp only [znl];(first|done|fail)))|refine yb2 ?_|rfl)|(simp only [znl];(first|done|fail))|(simp only [↓reduceIte,zlk,Nat.reduceEqDiff,reduceCtorEq])|(with_reducible first|refine jJ ?_ ?_|refine ya5 ?_|refine ju ?_|refine jv ?_|refine jw ?_|refine jx ?_ (by first|rfl|assumption|(simp only [znl];(first|done|fail)))|refine jC ?_ (by first|rfl|assumption|(simp only [znl];(first|done|fail)))))))
  have hl : ((putLE n k).map encB ++ List.replicate (8 - k) (VV.int .u8 0)).length = 8 := by rw [List.length_append, List.length_map, List.length_replicate, putLE_len]; omega
  by_cases hlt : k < m
  · have hg : ((putLE n k).map encB ++ List.replicate (8 - k) (VV.int .u8 0))[k]? = some (.int .u8 0) := by
      rw [List.getElem?_append_right (by simp [putLE_len]), List.getElem?_replicate, if_pos (by rw [List.length_map, putLE_len]; omega)]
    repeat' (first|(with_reducible first|refine yrl (by constructor) ?_|refine jk (fun M hM=>?_)|(refine hM _ ?_;clear hM M)|refine xb3 (by decide) ?_)|((with_reducible refine je ?_)<;>(first|rfl|assumption|(simp only [znl];(first|done|fail))))|(with_reducible refine jf (by (simp only [↓reduceIte,zlk,Nat.reduceEqDiff,reduceCtorEq]);exact rfl) ?_)|((with_reducible first|refine jg (fun hc=>?_) (fun hc=>?_)|refine jh (fun hc=>?_) (fun hc=>?_))<;>(try simp (disch:=omega) only [zhb] at hc)<;>(try (exfalso;omega))<;>(try subst hc))|(with_reducible refine ji (by omega) ?_)|(simp (config := { maxSteps := 400000 }) only [↓jt,↓reduceIte,zvs,reduceCtorEq,Nat.reduceEqDiff,Nat.reduceAdd,Nat.reduceLeDiff,Nat.reduceMul,Int.reduceBNe,Int.reduceBEq,Int.reduceEq,Int.reduceNe,Int.reduceLT,Int.reduceLE,Int.reduceGT,Int.reduceGE,Int.reduceNeg,Int.reduceToNat,Nat.reduceLT,Nat.reduceSub,tab,hg])|(simp (disch:=omega) only [ziw]))
    refine xl1 (k + 1) ?_ (by omega) (by show 8 - (k + 1) < 8 - k; omega)
    (refine yrn [(0, 0)] false ?_ ?_<;>(repeat' (first|(with_reducible first|exact ya1|exact ya2|exact ya3|refine jx rfl (by first|rfl|assumption|(simp only [znl];(first|done|fail)))|exact ya5|exact ya7|exact jy|exact jz|refine jA ?_|refine ya9 ?_ ?_ ?_|refine jC rfl (by first|rfl|assumption|(simp only [znl];(first|done|fail)))|refine MR.agg (MRL.cons ?_ ?_)|refine MR.fn ?_|refine MRL.cons ?_ ?_|exact MRL.nil|refine jE ?_ ?_|exact jF|exact jG|refine yb1 ?_ ?_|refine MB.row ?_|refine jI ?_ ?_|exact ya8|refine jJ rfl (by first|rfl|assumption|(simp only [znl];(first|done|fail)))|refine yb2 ?_|rfl)|(simp only [znl];(first|done|fail))|(simp only [↓reduceIte,zlk,Nat.reduceEqDiff,reduceCtorEq])|(with_reducible first|refine jJ ?_ ?_|refine ya5 ?_|refine ju ?_|refine jv ?_|refine jw ?_|refine jx ?_ (by first|rfl|assumption|(simp only [znl];(first|done|fail)))|refine jC ?_ (by first|rfl|assumption|(simp only [znl];(first|done|fail)))))))
    rw [put_step n k (by omega)]
  · have e : k = m := by omega
    subst e
    have hb : bytesOf (((putLE n k).map encB ++ List.replicate (8 - k) (VV.int .u8 0)).take k) = some (putLE n k) := by
      rw [List.take_append_of_le_length (by simp [putLE_len]), List.take_of_length_le (by simp [putLE_len]), bytesOf_enc]
    repeat' (first|(with_reducible first|refine yrl (by constructor) ?_|refine jk (fun M hM=>?_)|(refine hM _ ?_;clear hM M)|refine xb3 (by decide) ?_)|((with_reducible refine je ?_)<;>(first|rfl|assumption|(simp only [znl];(first|done|fail))))|(with_reducible refine jf (by (simp only [↓reduceIte,zlk,Nat.reduceEqDiff,reduceCtorEq]);exact rfl) ?_)|((with_reducible first|refine jg (fun hc=>?_) (fun hc=>?_)|refine jh (fun hc=>?_) (fun hc=>?_))<;>(try simp (disch:=omega) only [zhb] at hc)<;>(try (exfalso;omega))<;>(try subst hc))|(with_reducible refine ji (by omega) ?_)|(simp (config := { maxSteps := 400000 }) only [↓jt,↓reduceIte,zvs,reduceCtorEq,Nat.reduceEqDiff,Nat.reduceAdd,Nat.reduceLeDiff,Nat.reduceMul,Int.reduceBNe,Int.reduceBEq,Int.reduceEq,Int.reduceNe,Int.reduceLT,Int.reduceLE,Int.reduceGT,Int.reduceGE,Int.reduceNeg,Int.reduceToNat,Nat.reduceLT,Nat.reduceSub,tab,hl,hb])|(simp (disch:=omega) only [ziw]))
    simp only [zrds]
    rw [← hm]
end Go.Proofs.YtabfjhpakgdopaaDoor.V
end
section
/-
  MMU, part 3: frames; a byte, a number of memory.
-/
set_option linter.unusedVariables false
set_option linter.unusedSimpArgs false
namespace Go.Proofs.YtabfjhpakgdopaaDoor.V
open Go
set_option maxRecDepth 100000
-- nlx: jO
set_option maxHeartbeats 1000000
abbrev Frames := List (List UInt8)
def thereF (fr : Frames) (f : Int) : Bool := decide (0 ≤ f) && decide (f < fr.length) && decide ((fr.getD f.toNat []).length = 128)
theorem thereF_iff {fr : Frames} {f : Int} : thereF fr f = true ↔ 0 ≤ f ∧ f < fr.length ∧ (fr.getD f.toNat []).length = 128 := by
  unfold thereF; simp [and_assoc]
def fits (l : Frames) : Prop := l.length < 2 ^ 36 ∧ ∀ s ∈ l, s.length < 2 ^ 36
theorem there_spec (l : Frames) (hl : fits l) (n : Int) : Spec Tryd.prog 71 [encStrs l, .int .i64 n] (.bool (thereF l n)) := by
  obtain ⟨hl1, hl2⟩ := hl
  refine spec_ok Tryd.func71 rfl rfl (by kernel_rfl) (k := 2) rfl (by decide) ?_
  repeat' (first|(with_reducible first|refine yrl (by constructor) ?_|refine jk (fun M hM=>?_)|(refine hM _ ?_;clear hM M)|refine xb3 (by decide) ?_)|((with_reducible refine je ?_)<;>(first|rfl|assumption|(simp only [znl,jO];(first|done|fail))))|(with_reducible refine jf (by (simp only [↓reduceIte,zlk,Nat.reduceEqDiff,reduceCtorEq]);exact rfl) ?_)|((with_reducible first|refine jg (fun hc=>?_) (fun hc=>?_)|refine jh (fun hc=>?_) (fun hc=>?_))<;>(try simp (disch:=omega) only [zhb] at hc)<;>(try (exfalso;omega))<;>(try subst hc))|(with_reducible refine ji (by omega) ?_)|(simp (config := { maxSteps := 400000 }) only [↓jt,↓reduceIte,zvs,reduceCtorEq,Nat.reduceEqDiff,Nat.reduceAdd,Nat.reduceLeDiff,Nat.reduceMul,Int.reduceBNe,Int.reduceBEq,Int.reduceEq,Int.reduceNe,Int.reduceLT,Int.reduceLE,Int.reduceGT,Int.reduceGE,Int.reduceNeg,Int.reduceToNat,Nat.reduceLT,Nat.reduceSub,tab,Tryd.results71,List.toList_toArray])|(simp (disch:=omega) only [ziw]))
  all_goals simp only [zrds]
  all_goals (rw [Bool.eq_iff_iff, thereF_iff]; simp; omega)
def putF (p : List UInt8) (k : Nat) (s : List UInt8) : List UInt8 := p.take k ++ s ++ p.drop (k + s.length)
theorem put_spec (p s : List UInt8) (k : Int) (h0 : 0 ≤ k) (h : k + s.length ≤ p.length) (hp : p.length < 2 ^ 62) : Spec Tryd.prog 69 [.str p, .int .i64 k, .str s] (.str (putF p k.toNat s)) := by
  refine spec_ok Tryd.func69 rfl rfl (by kernel_rfl) (k := 3) rfl (by decide) ?_
  repeat' (first|(with_reducible first|refine yrl (by constructor) ?_|refine jk (fun M hM=>?_)|(refine hM _ ?_;clear hM M)|refine xb3 (by decide) ?_)|((with_reducible refine je ?_)<;>(first|rfl|assumption|(simp only [znl,jO];(first|done|fail))))|(with_reducible refine jf (by (simp only [↓reduceIte,zlk,Nat.reduceEqDiff,reduceCtorEq]);exact rfl) ?_)|((with_reducible first|refine jg (fun hc=>?_) (fun hc=>?_)|refine jh (fun hc=>?_) (fun hc=>?_))<;>(try simp (disch:=omega) only [zhb] at hc)<;>(try (exfalso;omega))<;>(try subst hc))|(with_reducible refine ji (by omega) ?_)|(simp (config := { maxSteps := 400000 }) only [↓jt,↓reduceIte,zvs,reduceCtorEq,Nat.reduceEqDiff,Nat.reduceAdd,Nat.reduceLeDiff,Nat.reduceMul,Int.reduceBNe,Int.reduceBEq,Int.reduceEq,Int.reduceNe,Int.reduceLT,Int.reduceLE,Int.reduceGT,Int.reduceGE,Int.reduceNeg,Int.reduceToNat,Nat.reduceLT,Nat.reduceSub,tab,Tryd.results69,List.toList_toArray])|(simp (disch:=omega) only [ziw]))
  refine ok_draw 12 (by kernel_rfl) (by decide +kernel) (by intro m hm; simp only [upd_ap,rows_cons,rows_nil]; (repeat (first | rfl | rw [if_neg (by omega)]))) (fun M hM => ?_); simp only [List.take_succ_cons,List.take_zero,List.drop_succ_cons,List.drop_zero]
  repeat' (first|(with_reducible first|refine yrl (by constructor) ?_|refine jk (fun M hM=>?_)|(refine hM _ ?_;clear hM M)|refine xb3 (by decide) ?_)|((with_reducible refine je ?_)<;>(first|rfl|assumption|(simp only [znl,jO];(first|done|fail))))|(with_reducible refine jf (by (simp only [↓reduceIte,zlk,Nat.reduceEqDiff,reduceCtorEq]);exact rfl) ?_)|((with_reducible first|refine jg (fun hc=>?_) (fun hc=>?_)|refine jh (fun hc=>?_) (fun hc=>?_))<;>(try simp (disch:=omega) only [zhb] at hc)<;>(try (exfalso;omega))<;>(try subst hc))|(with_reducible refine ji (by omega) ?_)|(simp (config := { maxSteps := 400000 }) only [↓jt,↓reduceIte,zvs,reduceCtorEq,Nat.reduceEqDiff,Nat.reduceAdd,Nat.reduceLeDiff,Nat.reduceMul,Int.reduceBNe,Int.reduceBEq,Int.reduceEq,Int.reduceNe,Int.reduceLT,Int.reduceLE,Int.reduceGT,Int.reduceGE,Int.reduceNeg,Int.reduceToNat,Nat.reduceLT,Nat.reduceSub,tab,Tryd.results69,List.toList_toArray])|(simp (disch:=omega) only [ziw]))
  all_goals simp only [zrds]
  unfold putF
  rw [show (k + (s.length : Int)).toNat = k.toNat + s.length by omega]
  congr 1
  exact List.take_of_length_le (by rw [List.length_drop]; omega)
theorem clone_spec (l : Frames) (hl : fits l) : Spec Tryd.prog 34 [encStrs l] (encStrs l) := by
  obtain ⟨hl1, hl2⟩ := hl
  refine spec_ok Tryd.func34 rfl rfl (by kernel_rfl) (k := 1) rfl (by decide) ?_
  repeat' (first|(with_reducible first|refine yrl (by constructor) ?_|refine jk (fun M hM=>?_)|(refine hM _ ?_;clear hM M)|refine xb3 (by decide) ?_)|((with_reducible refine je ?_)<;>(first|rfl|assumption|(simp only [znl,jO];(first|done|fail))))|(with_reducible refine jf (by (simp only [↓reduceIte,zlk,Nat.reduceEqDiff,reduceCtorEq]);exact rfl) ?_)|((with_reducible first|refine jg (fun hc=>?_) (fun hc=>?_)|refine jh (fun hc=>?_) (fun hc=>?_))<;>(try simp (disch:=omega) only [zhb] at hc)<;>(try (exfalso;omega))<;>(try subst hc))|(with_reducible refine ji (by omega) ?_)|(simp (config := { maxSteps := 400000 }) only [↓jt,↓reduceIte,zvs,reduceCtorEq,Nat.reduceEqDiff,Nat.reduceAdd,Nat.reduceLeDiff,Nat.reduceMul,Int.reduceBNe,Int.reduceBEq,Int.reduceEq,Int.reduceNe,Int.reduceLT,Int.reduceLE,Int.reduceGT,Int.reduceGE,Int.reduceNeg,Int.reduceToNat,Nat.reduceLT,Nat.reduceSub,tab,Tryd.results34, List.toList_toArray])|(simp (disch:=omega) only [ziw]))
  refine eithW_intro fun b hb => ?_
  repeat' (first|(with_reducible first|refine yrl (by constructor) ?_|refine jk (fun M hM=>?_)|(refine hM _ ?_;clear hM M)|refine xb3 (by decide) ?_)|((with_reducible refine je ?_)<;>(first|rfl|assumption|(simp only [znl,jO];(first|done|fail))))|(with_reducible refine jf (by (simp only [↓reduceIte,zlk,Nat.reduceEqDiff,reduceCtorEq]);exact rfl) ?_)|((with_reducible first|refine jg (fun hc=>?_) (fun hc=>?_)|refine jh (fun hc=>?_) (fun hc=>?_))<;>(try simp (disch:=omega) only [zhb] at hc)<;>(try (exfalso;omega))<;>(try subst hc))|(with_reducible refine ji (by omega) ?_)|(simp (config := { maxSteps := 400000 }) only [↓jt,↓reduceIte,zvs,reduceCtorEq,Nat.reduceEqDiff,Nat.reduceAdd,Nat.reduceLeDiff,Nat.reduceMul,Int.reduceBNe,Int.reduceBEq,Int.reduceEq,Int.reduceNe,Int.reduceLT,Int.reduceLE,Int.reduceGT,Int.reduceGE,Int.reduceNeg,Int.reduceToNat,Nat.reduceLT,Nat.reduceSub,tab,Tryd.results34, List.toList_toArray, nls_mapStr])|(simp (disch:=omega) only [ziw]))
  · have e : l = [] := by
      cases l with
      | nil => rfl
      | cons x l => exact absurd (hb (by simp)) (by simp)
    subst e
    exact rdt_of rd_nil rfl
  · skip
    refine rdt_of ?_ (by rfl)
    (refine rd_own (by (simp only [↓reduceIte,zlk,Nat.reduceEqDiff,reduceCtorEq]); exact rfl) ?_ ?_ ?_) <;> (first | rfl | assumption | (simp only [znl,jO];(first|done|fail)) | (simp; done) | (simp; omega) | skip)
end Go.Proofs.YtabfjhpakgdopaaDoor.V
end
section
/-
  DERIVED: THE SHELF's CONTRACTS AT THIS DUMP, IN PLAIN WORDS (tools/lay-plain.mjs out of 'TrydShelf.lean', which tools/lay-shelf.mjs wrote): THE SAME DECLARATIONS UNDER THE SAME NAMES: 'import', 'namespace', 'open', 'def', 'theorem' AND NOTHING ELSE: no command of the shelf's: FOR A HAND-IN. Each laying: the table of numbers ('.._ren') and one theorem, a field a fact of the dump's own or the kernel's comparison; each contract: ONE APPLICATION.
-/
namespace Go.Proofs
open Go.Shelf
def Tryd.lays170_ren : Go.Shelf.Ren := ⟨fun | 170 => 109 | n => n, fun | 70 => 129 | 3 => 3 | 0 => 0 | 72 => 131 | 37 => 58 | 5 => 5 | n => n, fun | n => n⟩
theorem Tryd.lays170 : Go.Proofs.Lays.n170 Tryd.prog Tryd.lays170_ren := {
  mixed := by kernel_rfl
  f170 := Tryd.func109.trans (congrArg some (by kernel_rfl))
  t0 := Tryd.underlying0
  a0 := Tryd.isAgg0
  z0 := Tryd.sizeOf0
  v0 := Tryd.zeroValue0
  t3 := Tryd.underlying3
  a3 := Tryd.isAgg3
  z3 := Tryd.sizeOf3
  v3 := Tryd.zeroValue3
  t37 := Tryd.underlying58
  a37 := Tryd.isAgg58
  z37 := Tryd.sizeOf58
  v37 := Tryd.zeroValue58
  t70 := Tryd.underlying129
  a70 := Tryd.isAgg129
  z70 := Tryd.sizeOf129
  v70 := Tryd.zeroValue129
  t72 := Tryd.underlying131
  a72 := Tryd.isAgg131
  z72 := Tryd.sizeOf131
  v72 := Tryd.zeroValue131 }
open Go.RowKit in
theorem Tryd.Builder_Len (B b : Nat) (bs : List Value) (w : World) (h : Lib.IsBuilder 131 5 B b bs w) :
    Calls Tryd.prog 109 #[.pointer (some ⟨b, 0, none⟩)] w fun e w' => e = .returned (.int .i64 bs.length) ∧ w' = w := Any.Builder_Len Tryd.lays170 B b bs w h
def Tryd.lays169_ren : Go.Shelf.Ren := ⟨fun | 169 => 97 | n => n, fun | 70 => 129 | 9 => 9 | 0 => 0 | 72 => 131 | 37 => 58 | 127 => 146 | 3 => 3 | 5 => 5 | n => n, fun | n => n⟩
theorem Tryd.lays169 : Go.Proofs.Lays.n169 Tryd.prog Tryd.lays169_ren := {
  mixed := by kernel_rfl
  f169 := Tryd.func97.trans (congrArg some (by kernel_rfl))
  t0 := Tryd.underlying0
  a0 := Tryd.isAgg0
  z0 := Tryd.sizeOf0
  v0 := Tryd.zeroValue0
  t3 := Tryd.underlying3
  a3 := Tryd.isAgg3
  z3 := Tryd.sizeOf3
  v3 := Tryd.zeroValue3
  t9 := Tryd.underlying9
  a9 := Tryd.isAgg9
  z9 := Tryd.sizeOf9
  v9 := Tryd.zeroValue9
  t37 := Tryd.underlying58
  a37 := Tryd.isAgg58
  z37 := Tryd.sizeOf58
  v37 := Tryd.zeroValue58
  t70 := Tryd.underlying129
  a70 := Tryd.isAgg129
  z70 := Tryd.sizeOf129
  v70 := Tryd.zeroValue129
  t72 := Tryd.underlying131
  a72 := Tryd.isAgg131
  z72 := Tryd.sizeOf131
  v72 := Tryd.zeroValue131
  t127 := Tryd.underlying146
  a127 := Tryd.isAgg146
  z127 := Tryd.sizeOf146
  v127 := Tryd.zeroValue146 }
theorem Tryd.Builder_Extra_169 : Builder.Extra Tryd.prog Tryd.lays169_ren := {
  sizeBuilder := by kernel_rfl
  liesBuilder := by kernel_rfl
  t5 := Tryd.underlying5
  a5 := Tryd.isAgg5
  z5 := Tryd.sizeOf5
  v5 := Tryd.zeroValue5
  infoByte := by kernel_rfl
  cellsByte := by kernel_rfl
  sizeByte := by kernel_rfl
  neB5 := by decide }
open Go.RowKit in
theorem Tryd.Builder_String (B b : Nat) (l : List UInt8) (w : World) (h : Lib.IsBuilder 131 5 B b (Lib.byteCells l) w) (h0 : l ≠ []) :
    Calls Tryd.prog 97 #[.pointer (some ⟨b, 0, none⟩)] w fun e w' => e = .returned (.string ⟨l.toArray⟩) ∧ Below B w w' := Any.Builder_String Tryd.lays169 Tryd.Builder_Extra_169 B b l w h h0
open Go.RowKit in
theorem Tryd.Builder_String_empty (B b : Nat) (w : World) (h : Lib.IsBuilder 131 5 B b [] w) (hBw : B ≤ w.heap.size) :
    Calls Tryd.prog 97 #[.pointer (some ⟨b, 0, none⟩)] w fun e w' => e = .returned (.string ⟨#[]⟩) ∧ Below B w w' := Any.Builder_String_empty Tryd.lays169 Tryd.Builder_Extra_169 B b w h hBw
open Go.RowKit in
theorem Tryd.Builder_String_any (B b : Nat) (l : List UInt8) (w : World) (h : Lib.IsBuilder 131 5 B b (Lib.byteCells l) w) (hBw : B ≤ w.heap.size) :
    Calls Tryd.prog 97 #[.pointer (some ⟨b, 0, none⟩)] w fun e w' => e = .returned (.string ⟨l.toArray⟩) ∧ Below B w w' := Any.Builder_String_any Tryd.lays169 Tryd.Builder_Extra_169 B b l w h hBw
def Tryd.lays241_ren : Go.Shelf.Ren := ⟨fun | 241 => 120 | 277 => 124 | n => n, fun | 70 => 129 | 3 => 3 | 0 => 0 | 72 => 131 | 37 => 58 | 5 => 5 | n => n, fun | n => n⟩
theorem Tryd.lays241 : Go.Proofs.Lays.n241 Tryd.prog Tryd.lays241_ren := {
  mixed := by kernel_rfl
  f241 := Tryd.func120.trans (congrArg some (by kernel_rfl))
  f277 := Tryd.func124.trans (congrArg some (by kernel_rfl))
  t0 := Tryd.underlying0
  a0 := Tryd.isAgg0
  z0 := Tryd.sizeOf0
  v0 := Tryd.zeroValue0
  t3 := Tryd.underlying3
  a3 := Tryd.isAgg3
  z3 := Tryd.sizeOf3
  v3 := Tryd.zeroValue3
  t37 := Tryd.underlying58
  a37 := Tryd.isAgg58
  z37 := Tryd.sizeOf58
  v37 := Tryd.zeroValue58
  t70 := Tryd.underlying129
  a70 := Tryd.isAgg129
  z70 := Tryd.sizeOf129
  v70 := Tryd.zeroValue129
  t72 := Tryd.underlying131
  a72 := Tryd.isAgg131
  z72 := Tryd.sizeOf131
  v72 := Tryd.zeroValue131 }
theorem Tryd.Builder_Extra_241 : Builder.Extra Tryd.prog Tryd.lays241_ren := {
  sizeBuilder := by kernel_rfl
  liesBuilder := by kernel_rfl
  t5 := Tryd.underlying5
  a5 := Tryd.isAgg5
  z5 := Tryd.sizeOf5
  v5 := Tryd.zeroValue5
  infoByte := by kernel_rfl
  cellsByte := by kernel_rfl
  sizeByte := by kernel_rfl
  neB5 := by decide }
open Go.RowKit in
theorem Tryd.Builder_grow_fresh (B b n : Nat) (w : World) (hB : B ≤ b) (hbk : w.heap[b]? = some (.cells #[.pointer (some ⟨b, 0, none⟩), .slice none 0 0] 131 (0, 0))) (hBw : B ≤ w.heap.size) (hn : n ≤ 281474976710656) :
    Calls Tryd.prog 120 #[.pointer (some ⟨b, 0, none⟩), .int .i64 n] w fun e w' => e = .returned (.tuple #[]) ∧ (Lib.BuilderAt 131 5 B b (.pointer (some ⟨b, 0, none⟩)) [] w' ∧ Below B w w') := Any.Builder_grow_fresh Tryd.lays241 Tryd.Builder_Extra_241 B b n w hB hbk hBw hn
def Tryd.lays165_ren : Go.Shelf.Ren := ⟨fun | 165 => 108 | 240 => 110 | 241 => 120 | 276 => 121 | 277 => 124 | n => n, fun | 70 => 129 | 3 => 3 | 0 => 0 | 4 => 4 | 9 => 9 | 20 => 20 | 72 => 131 | 37 => 58 | 164 => 160 | 5 => 5 | n => n, fun | n => n⟩
theorem Tryd.lays165 : Go.Proofs.Lays.n165 Tryd.prog Tryd.lays165_ren := {
  mixed := by kernel_rfl
  f165 := Tryd.func108.trans (congrArg some (by kernel_rfl))
  f240 := Tryd.func110.trans (congrArg some (by kernel_rfl))
  f241 := Tryd.func120.trans (congrArg some (by kernel_rfl))
  f276 := Tryd.func121.trans (congrArg some (by kernel_rfl))
  f277 := Tryd.func124.trans (congrArg some (by kernel_rfl))
  t0 := Tryd.underlying0
  a0 := Tryd.isAgg0
  z0 := Tryd.sizeOf0
  v0 := Tryd.zeroValue0
  t3 := Tryd.underlying3
  a3 := Tryd.isAgg3
  z3 := Tryd.sizeOf3
  v3 := Tryd.zeroValue3
  t4 := Tryd.underlying4
  a4 := Tryd.isAgg4
  z4 := Tryd.sizeOf4
  v4 := Tryd.zeroValue4
  t9 := Tryd.underlying9
  a9 := Tryd.isAgg9
  z9 := Tryd.sizeOf9
  v9 := Tryd.zeroValue9
  t20 := Tryd.underlying20
  a20 := Tryd.isAgg20
  z20 := Tryd.sizeOf20
  v20 := Tryd.zeroValue20
  t37 := Tryd.underlying58
  a37 := Tryd.isAgg58
  z37 := Tryd.sizeOf58
  v37 := Tryd.zeroValue58
  t70 := Tryd.underlying129
  a70 := Tryd.isAgg129
  z70 := Tryd.sizeOf129
  v70 := Tryd.zeroValue129
  t72 := Tryd.underlying131
  a72 := Tryd.isAgg131
  z72 := Tryd.sizeOf131
  v72 := Tryd.zeroValue131
  t164 := Tryd.underlying160
  a164 := Tryd.isAgg160
  z164 := Tryd.sizeOf160
  v164 := Tryd.zeroValue160 }
theorem Tryd.Builder_Extra_165 : Builder.Extra Tryd.prog Tryd.lays165_ren := {
  sizeBuilder := by kernel_rfl
  liesBuilder := by kernel_rfl
  t5 := Tryd.underlying5
  a5 := Tryd.isAgg5
  z5 := Tryd.sizeOf5
  v5 := Tryd.zeroValue5
  infoByte := by kernel_rfl
  cellsByte := by kernel_rfl
  sizeByte := by kernel_rfl
  neB5 := by decide }
open Go.RowKit in
theorem Tryd.Builder_Grow_fresh (B b n : Nat) (w : World) (hB : B ≤ b) (hbk : w.heap[b]? = some (.cells #[.pointer none, .slice none 0 0] 131 (0, 0))) (hBw : B ≤ w.heap.size) (hn : n ≤ 281474976710656) :
    Calls Tryd.prog 108 #[.pointer (some ⟨b, 0, none⟩), .int .i64 n] w fun e w' => e = .returned (.tuple #[]) ∧ (Lib.BuilderAt 131 5 B b (.pointer (some ⟨b, 0, none⟩)) [] w' ∧ Below B w w') := Any.Builder_Grow_fresh Tryd.lays165 Tryd.Builder_Extra_165 B b n w hB hbk hBw hn
open Go.RowKit in
theorem Tryd.Builder_Len_f (B b : Nat) (bs : List Value) (w : World) (h : Lib.IsBuilderF 131 5 B b bs w) :
    Calls Tryd.prog 109 #[.pointer (some ⟨b, 0, none⟩)] w fun e w' => e = .returned (.int .i64 bs.length) ∧ w' = w := Any.Builder_Len_f Tryd.lays170 B b bs w h
open Go.RowKit in
theorem Tryd.Builder_String_f (B b : Nat) (l : List UInt8) (w : World) (h : Lib.IsBuilderF 131 5 B b (Lib.byteCells l) w) (h0 : l ≠ []) :
    Calls Tryd.prog 97 #[.pointer (some ⟨b, 0, none⟩)] w fun e w' => e = .returned (.string ⟨l.toArray⟩) ∧ (Lib.IsBuilderF 131 5 B b (Lib.byteCells l) w' ∧ Below B w w') := Any.Builder_String_f Tryd.lays169 Tryd.Builder_Extra_169 B b l w h h0
open Go.RowKit in
theorem Tryd.Builder_String_empty_f (B b : Nat) (w : World) (h : Lib.IsBuilderF 131 5 B b [] w) (hBw : B ≤ w.heap.size) :
    Calls Tryd.prog 97 #[.pointer (some ⟨b, 0, none⟩)] w fun e w' => e = .returned (.string ⟨#[]⟩) ∧ (Lib.IsBuilderF 131 5 B b [] w' ∧ Below B w w') := Any.Builder_String_empty_f Tryd.lays169 Tryd.Builder_Extra_169 B b w h hBw
open Go.RowKit in
theorem Tryd.Builder_String_any_f (B b : Nat) (l : List UInt8) (w : World) (h : Lib.IsBuilderF 131 5 B b (Lib.byteCells l) w) (hBw : B ≤ w.heap.size) :
    Calls Tryd.prog 97 #[.pointer (some ⟨b, 0, none⟩)] w fun e w' => e = .returned (.string ⟨l.toArray⟩) ∧ (Lib.IsBuilderF 131 5 B b (Lib.byteCells l) w' ∧ Below B w w') := Any.Builder_String_any_f Tryd.lays169 Tryd.Builder_Extra_169 B b l w h hBw
open Go.RowKit in
theorem Tryd.Builder_String_k (B b : Nat) (l : List UInt8) (w : World) (h : Lib.IsBuilderF 131 5 B b (Lib.byteCells l) w) (h0 : l ≠ []) :
    Calls Tryd.prog 97 #[.pointer (some ⟨b, 0, none⟩)] w fun e w' => e = .returned (.string ⟨l.toArray⟩) ∧ (Lib.IsBuilderF 131 5 B b (Lib.byteCells l) w' ∧ Below B w w' ∧ Lib.OthersKept 5 (some b) w w') := Any.Builder_String_k Tryd.lays169 Tryd.Builder_Extra_169 B b l w h h0
open Go.RowKit in
theorem Tryd.Builder_String_empty_k (B b : Nat) (w : World) (h : Lib.IsBuilderF 131 5 B b [] w) (hBw : B ≤ w.heap.size) :
    Calls Tryd.prog 97 #[.pointer (some ⟨b, 0, none⟩)] w fun e w' => e = .returned (.string ⟨#[]⟩) ∧ (Lib.IsBuilderF 131 5 B b [] w' ∧ Below B w w' ∧ Lib.OthersKept 5 (some b) w w') := Any.Builder_String_empty_k Tryd.lays169 Tryd.Builder_Extra_169 B b w h hBw
open Go.RowKit in
theorem Tryd.Builder_String_any_k (B b : Nat) (l : List UInt8) (w : World) (h : Lib.IsBuilderF 131 5 B b (Lib.byteCells l) w) (hBw : B ≤ w.heap.size) :
    Calls Tryd.prog 97 #[.pointer (some ⟨b, 0, none⟩)] w fun e w' => e = .returned (.string ⟨l.toArray⟩) ∧ (Lib.IsBuilderF 131 5 B b (Lib.byteCells l) w' ∧ Below B w w' ∧ Lib.OthersKept 5 (some b) w w') := Any.Builder_String_any_k Tryd.lays169 Tryd.Builder_Extra_169 B b l w h hBw
open Go.RowKit in
theorem Tryd.Builder_grow_fresh_cap (B b n : Nat) (w : World) (hB : B ≤ b) (hbk : w.heap[b]? = some (.cells #[.pointer (some ⟨b, 0, none⟩), .slice none 0 0] 131 (0, 0))) (hBw : B ≤ w.heap.size) (hn : n ≤ 281474976710656) :
    Calls Tryd.prog 120 #[.pointer (some ⟨b, 0, none⟩), .int .i64 n] w fun e w' => e = .returned (.tuple #[]) ∧ (Lib.BuilderAt 131 5 B b (.pointer (some ⟨b, 0, none⟩)) [] w' ∧ Below B w w') ∧ ∃ p cap, w'.cell? ⟨b, 1, none⟩ = some (.slice p 0 cap) ∧ n ≤ cap := Any.Builder_grow_fresh_cap Tryd.lays241 Tryd.Builder_Extra_241 B b n w hB hbk hBw hn
open Go.RowKit in
theorem Tryd.Builder_Grow_fresh_cap (B b n : Nat) (w : World) (hB : B ≤ b) (hbk : w.heap[b]? = some (.cells #[.pointer none, .slice none 0 0] 131 (0, 0))) (hBw : B ≤ w.heap.size) (hn : n ≤ 281474976710656) :
    Calls Tryd.prog 108 #[.pointer (some ⟨b, 0, none⟩), .int .i64 n] w fun e w' => e = .returned (.tuple #[]) ∧ (Lib.BuilderAt 131 5 B b (.pointer (some ⟨b, 0, none⟩)) [] w' ∧ Below B w w') ∧ ∃ p cap, w'.cell? ⟨b, 1, none⟩ = some (.slice p 0 cap) ∧ n ≤ cap := Any.Builder_Grow_fresh_cap Tryd.lays165 Tryd.Builder_Extra_165 B b n w hB hbk hBw hn
def Tryd.lays206_ren : Go.Shelf.Ren := ⟨fun | 206 => 119 | n => n, fun | 9 => 9 | 4 => 4 | 3 => 3 | n => n, fun | n => n⟩
theorem Tryd.lays206 : Go.Proofs.Lays.n206 Tryd.prog Tryd.lays206_ren := {
  mixed := by kernel_rfl
  f206 := Tryd.func119.trans (congrArg some (by kernel_rfl))
  t3 := Tryd.underlying3
  a3 := Tryd.isAgg3
  z3 := Tryd.sizeOf3
  v3 := Tryd.zeroValue3
  t4 := Tryd.underlying4
  a4 := Tryd.isAgg4
  z4 := Tryd.sizeOf4
  v4 := Tryd.zeroValue4
  t9 := Tryd.underlying9
  a9 := Tryd.isAgg9
  z9 := Tryd.sizeOf9
  v9 := Tryd.zeroValue9 }
open Go.RowKit Go.Lib in
theorem Tryd.stringslite_HasPrefix (s p : ByteArray) (w : World) :
    Calls Tryd.prog 119 #[.string s, .string p] w fun e w' => e = .returned (.bool (Lib.hasPrefix s.data.toList p.data.toList)) ∧ w' = w := Any.stringslite_HasPrefix Tryd.lays206 s p w
def Tryd.lays99_ren : Go.Shelf.Ren := ⟨fun | 99 => 107 | 206 => 119 | n => n, fun | 9 => 9 | 4 => 4 | 3 => 3 | n => n, fun | n => n⟩
theorem Tryd.lays99 : Go.Proofs.Lays.n99 Tryd.prog Tryd.lays99_ren := {
  mixed := by kernel_rfl
  f99 := Tryd.func107.trans (congrArg some (by kernel_rfl))
  f206 := Tryd.func119.trans (congrArg some (by kernel_rfl))
  t3 := Tryd.underlying3
  a3 := Tryd.isAgg3
  z3 := Tryd.sizeOf3
  v3 := Tryd.zeroValue3
  t4 := Tryd.underlying4
  a4 := Tryd.isAgg4
  z4 := Tryd.sizeOf4
  v4 := Tryd.zeroValue4
  t9 := Tryd.underlying9
  a9 := Tryd.isAgg9
  z9 := Tryd.sizeOf9
  v9 := Tryd.zeroValue9 }
open Go.RowKit Go.Lib in
theorem Tryd.strings_HasPrefix (s p : ByteArray) (w : World) :
    Calls Tryd.prog 107 #[.string s, .string p] w fun e w' => e = .returned (.bool (Lib.hasPrefix s.data.toList p.data.toList)) ∧ w' = w := Any.strings_HasPrefix Tryd.lays99 s p w
def Tryd.lays264_ren : Go.Shelf.Ren := ⟨fun | 264 => 118 | n => n, fun | 53 => 106 | 46 => 73 | n => n, fun | n => n⟩
theorem Tryd.lays264 : Go.Proofs.Lays.n264 Tryd.prog Tryd.lays264_ren := {
  mixed := by kernel_rfl
  f264 := Tryd.func118.trans (congrArg some (by kernel_rfl))
  t46 := Tryd.underlying73
  a46 := Tryd.isAgg73
  z46 := Tryd.sizeOf73
  v46 := Tryd.zeroValue73
  t53 := Tryd.underlying106
  a53 := Tryd.isAgg106
  z53 := Tryd.sizeOf106
  v53 := Tryd.zeroValue106 }
open Go.RowKit Go.Lib in
theorem Tryd.bits_Mul64 (x y : Nat) (hx : x < 18446744073709551616) (hy : y < 18446744073709551616) (w : World) :
    Calls Tryd.prog 118 #[.int .u64 x, .int .u64 y] w fun e w' => e = .returned (.tuple #[.int .u64 ((x * y / 18446744073709551616 : Nat) : Int), .int .u64 ((x * y % 18446744073709551616 : Nat) : Int)]) ∧ w' = w := Any.bits_Mul64 Tryd.lays264 x y hx hy w
def Tryd.lays212_ren : Go.Shelf.Ren := ⟨fun | 212 => 106 | 263 => 117 | 264 => 118 | n => n, fun | 46 => 73 | 51 => 22 | 146 => 156 | 53 => 106 | 148 => 158 | n => n, fun | n => n⟩
theorem Tryd.lays212 : Go.Proofs.Lays.n212 Tryd.prog Tryd.lays212_ren := {
  mixed := by kernel_rfl
  f212 := Tryd.func106.trans (congrArg some (by kernel_rfl))
  f263 := Tryd.func117.trans (congrArg some (by kernel_rfl))
  f264 := Tryd.func118.trans (congrArg some (by kernel_rfl))
  t46 := Tryd.underlying73
  a46 := Tryd.isAgg73
  z46 := Tryd.sizeOf73
  v46 := Tryd.zeroValue73
  t51 := Tryd.underlying22
  a51 := Tryd.isAgg22
  z51 := Tryd.sizeOf22
  v51 := Tryd.zeroValue22
  t53 := Tryd.underlying106
  a53 := Tryd.isAgg106
  z53 := Tryd.sizeOf106
  v53 := Tryd.zeroValue106
  t146 := Tryd.underlying156
  a146 := Tryd.isAgg156
  z146 := Tryd.sizeOf156
  v146 := Tryd.zeroValue156
  t148 := Tryd.underlying158
  a148 := Tryd.isAgg158
  z148 := Tryd.sizeOf158
  v148 := Tryd.zeroValue158 }
open Go.RowKit Go.Lib in
theorem Tryd.bits_Mul (x y : Nat) (hx : x < 18446744073709551616) (hy : y < 18446744073709551616) (w : World) :
    Calls Tryd.prog 106 #[.int .u64 x, .int .u64 y] w fun e w' => e = .returned (.tuple #[.int .u64 ((x * y / 18446744073709551616 : Nat) : Int), .int .u64 ((x * y % 18446744073709551616 : Nat) : Int)]) ∧ w' = w := Any.bits_Mul Tryd.lays212 x y hx hy w
def Tryd.lays105_ren : Go.Shelf.Ren := ⟨fun | 105 => 90 | 212 => 106 | 99 => 107 | 165 => 108 | 166 => 94 | 170 => 109 | 169 => 97 | 263 => 117 | 264 => 118 | 206 => 119 | 240 => 110 | 241 => 120 | 276 => 121 | 277 => 124 | n => n, fun | 9 => 9 | 3 => 3 | 4 => 4 | 20 => 20 | 0 => 0 | 46 => 73 | 109 => 140 | 5 => 5 | 72 => 131 | 76 => 134 | 51 => 22 | 146 => 156 | 53 => 106 | 148 => 158 | 70 => 129 | 37 => 58 | 75 => 133 | 127 => 146 | 164 => 160 | 80 => 136 | n => n, fun | n => n⟩
theorem Tryd.lays105 : Go.Proofs.Lays.n105 Tryd.prog Tryd.lays105_ren := {
  mixed := by kernel_rfl
  f99 := Tryd.func107.trans (congrArg some (by kernel_rfl))
  f105 := Tryd.func90.trans (congrArg some (by kernel_rfl))
  f165 := Tryd.func108.trans (congrArg some (by kernel_rfl))
  f166 := Tryd.func94.trans (congrArg some (by kernel_rfl))
  f169 := Tryd.func97.trans (congrArg some (by kernel_rfl))
  f170 := Tryd.func109.trans (congrArg some (by kernel_rfl))
  f206 := Tryd.func119.trans (congrArg some (by kernel_rfl))
  f212 := Tryd.func106.trans (congrArg some (by kernel_rfl))
  f240 := Tryd.func110.trans (congrArg some (by kernel_rfl))
  f241 := Tryd.func120.trans (congrArg some (by kernel_rfl))
  f263 := Tryd.func117.trans (congrArg some (by kernel_rfl))
  f264 := Tryd.func118.trans (congrArg some (by kernel_rfl))
  f276 := Tryd.func121.trans (congrArg some (by kernel_rfl))
  f277 := Tryd.func124.trans (congrArg some (by kernel_rfl))
  t0 := Tryd.underlying0
  a0 := Tryd.isAgg0
  z0 := Tryd.sizeOf0
  v0 := Tryd.zeroValue0
  t3 := Tryd.underlying3
  a3 := Tryd.isAgg3
  z3 := Tryd.sizeOf3
  v3 := Tryd.zeroValue3
  t4 := Tryd.underlying4
  a4 := Tryd.isAgg4
  z4 := Tryd.sizeOf4
  v4 := Tryd.zeroValue4
  t5 := Tryd.underlying5
  a5 := Tryd.isAgg5
  z5 := Tryd.sizeOf5
  v5 := Tryd.zeroValue5
  t9 := Tryd.underlying9
  a9 := Tryd.isAgg9
  z9 := Tryd.sizeOf9
  v9 := Tryd.zeroValue9
  t20 := Tryd.underlying20
  a20 := Tryd.isAgg20
  z20 := Tryd.sizeOf20
  v20 := Tryd.zeroValue20
  t37 := Tryd.underlying58
  a37 := Tryd.isAgg58
  z37 := Tryd.sizeOf58
  v37 := Tryd.zeroValue58
  t46 := Tryd.underlying73
  a46 := Tryd.isAgg73
  z46 := Tryd.sizeOf73
  v46 := Tryd.zeroValue73
  t51 := Tryd.underlying22
  a51 := Tryd.isAgg22
  z51 := Tryd.sizeOf22
  v51 := Tryd.zeroValue22
  t53 := Tryd.underlying106
  a53 := Tryd.isAgg106
  z53 := Tryd.sizeOf106
  v53 := Tryd.zeroValue106
  t70 := Tryd.underlying129
  a70 := Tryd.isAgg129
  z70 := Tryd.sizeOf129
  v70 := Tryd.zeroValue129
  t72 := Tryd.underlying131
  a72 := Tryd.isAgg131
  z72 := Tryd.sizeOf131
  v72 := Tryd.zeroValue131
  t75 := Tryd.underlying133
  a75 := Tryd.isAgg133
  z75 := Tryd.sizeOf133
  v75 := Tryd.zeroValue133
  t76 := Tryd.underlying134
  a76 := Tryd.isAgg134
  z76 := Tryd.sizeOf134
  v76 := Tryd.zeroValue134
  t109 := Tryd.underlying140
  a109 := Tryd.isAgg140
  z109 := Tryd.sizeOf140
  v109 := Tryd.zeroValue140
  t127 := Tryd.underlying146
  a127 := Tryd.isAgg146
  z127 := Tryd.sizeOf146
  v127 := Tryd.zeroValue146
  t146 := Tryd.underlying156
  a146 := Tryd.isAgg156
  z146 := Tryd.sizeOf156
  v146 := Tryd.zeroValue156
  t148 := Tryd.underlying158
  a148 := Tryd.isAgg158
  z148 := Tryd.sizeOf158
  v148 := Tryd.zeroValue158
  t164 := Tryd.underlying160
  a164 := Tryd.isAgg160
  z164 := Tryd.sizeOf160
  v164 := Tryd.zeroValue160 }
theorem Tryd.Builder_Extra_105 : Builder.Extra Tryd.prog Tryd.lays105_ren := {
  sizeBuilder := by kernel_rfl
  liesBuilder := by kernel_rfl
  t5 := Tryd.underlying5
  a5 := Tryd.isAgg5
  z5 := Tryd.sizeOf5
  v5 := Tryd.zeroValue5
  infoByte := by kernel_rfl
  cellsByte := by kernel_rfl
  sizeByte := by kernel_rfl
  neB5 := by decide }
open Go.RowKit Go.Lib in
theorem Tryd.strings_Repeat_main (s : ByteArray) (c : Nat) (w : World) (hc2 : 2 ≤ c) (hc : c ≤ 9223372036854775807) (hlen : s.size * c ≤ 140737488355328) (h0 : 0 < s.size) :
    Calls Tryd.prog 90 #[.string s, .int .i64 c] w fun e w' => e = .returned (.string ⟨(Lib.repeatL s.data.toList c).toArray⟩) ∧ Below w.heap.size w w' := Any.strings_Repeat_main Tryd.lays105 Tryd.Builder_Extra_105 s c w hc2 hc hlen h0
open Go.RowKit Go.Lib in
theorem Tryd.strings_Repeat_zero (s : ByteArray) (w : World) :
    Calls Tryd.prog 90 #[.string s, .int .i64 0] w fun e w' => e = .returned (.string ⟨#[]⟩) ∧ w' = w := Any.strings_Repeat_zero Tryd.lays105 s w
open Go.RowKit Go.Lib in
theorem Tryd.strings_Repeat_one (s : ByteArray) (w : World) :
    Calls Tryd.prog 90 #[.string s, .int .i64 1] w fun e w' => e = .returned (.string s) ∧ w' = w := Any.strings_Repeat_one Tryd.lays105 s w
open Go.RowKit Go.Lib in
theorem Tryd.strings_Repeat_empty (s : ByteArray) (c : Nat) (w : World) (hc2 : 2 ≤ c) (hc : c ≤ 9223372036854775807) (h0 : s.size = 0) :
    Calls Tryd.prog 90 #[.string s, .int .i64 c] w fun e w' => e = .returned (.string ⟨#[]⟩) ∧ w' = w := Any.strings_Repeat_empty Tryd.lays105 s c w hc2 hc h0
open Go.RowKit Go.Lib in
theorem Tryd.strings_Repeat_negative (s : ByteArray) (c : Int) (w : World) (hc : c < 0) :
    Calls Tryd.prog 90 #[.string s, .int .i64 c] w fun e w' => e = .panicked [{ v := repeatPanic Tryd.lays105_ren "strings: negative Repeat count", recovered := false }] ∧ w' = w := Any.strings_Repeat_negative Tryd.lays105 s c w hc
open Go.RowKit Go.Lib in
theorem Tryd.strings_Repeat_overflow (s : ByteArray) (c : Nat) (w : World) (hc : c ≤ 9223372036854775807) (hs : s.size ≤ 9223372036854775807) (hbig : 9223372036854775807 < s.size * c) :
    Calls Tryd.prog 90 #[.string s, .int .i64 c] w fun e w' => e = .panicked [{ v := repeatPanic Tryd.lays105_ren "strings: Repeat output length overflow", recovered := false }] ∧ w' = w := Any.strings_Repeat_overflow Tryd.lays105 s c w hc hs hbig
open Go.RowKit Go.Lib in
theorem Tryd.strings_Repeat (s : ByteArray) (c : Nat) (w : World) (hc : c ≤ 9223372036854775807) (hlen : s.size * c ≤ 140737488355328) :
    Calls Tryd.prog 90 #[.string s, .int .i64 c] w fun e w' => e = .returned (.string ⟨(Lib.repeatL s.data.toList c).toArray⟩) ∧ Below w.heap.size w w' := Any.strings_Repeat Tryd.lays105 Tryd.Builder_Extra_105 s c w hc hlen
end Go.Proofs
end
section
/-
  MMU, part 4: the reference's bytes set, laid, copied; numbers of memory.
-/
set_option linter.unusedVariables false
set_option linter.unusedSimpArgs false
namespace Go.Proofs.YtabfjhpakgdopaaDoor.V
open Go
set_option maxRecDepth 100000
-- nlx: jO
set_option maxHeartbeats 1000000
def framesV : Option Frames → VV
  | some fr => .tup [encStrs fr, .bool true]
  | none => .tup [encStrs [], .bool false]
end Go.Proofs.YtabfjhpakgdopaaDoor.V
end
section
/-
  MMU, part 5: the reference's bytes copied, and laid.
-/
set_option linter.unusedVariables false
set_option linter.unusedSimpArgs false
namespace Go.Proofs.YtabfjhpakgdopaaDoor.V
open Go
set_option maxRecDepth 100000
-- nlx: jO
set_option maxHeartbeats 1000000
end Go.Proofs.YtabfjhpakgdopaaDoor.V
end
section
/-
  MMU, part 6: numbers of memory, loaded and stored; frames compared.
-/
set_option linter.unusedVariables false
set_option linter.unusedSimpArgs false
namespace Go.Proofs.YtabfjhpakgdopaaDoor.V
open Go
set_option maxRecDepth 100000
-- nlx: jO
set_option maxHeartbeats 1000000
def u32V : Option Nat → VV
  | some n => .tup [.int .u32 n, .bool true]
  | none => .tup [.int .u32 0, .bool false]
def loadP (fr : Frames) (s : List Pte) (a size : Int) : Option Nat := match findO s a size false with
  | some (f, i) => if thereF fr f = true then some (getLE (((fr.getD f.toNat []).drop i.toNat).take size.toNat)) else none
  | none => none
theorem PLoad_spec (fr : Frames) (hf : fits fr) (s : List Pte) (hs : s.length = 16) (a : Int) (ha : 0 ≤ a ∧ a < 2 ^ 32) (size : Int) :
    Spec Tryd.prog 35 [encStrs fr, encSpace s, .int .u32 a, .int .i64 size] (u32V (loadP fr s a size)) := by
  have hS := hasSpace s hs
  have h1 := find_spec s hs a ha size false
  obtain ⟨hf1, hf2⟩ := id hf
  unfold loadP
  rcases hF : findO s a size false with _ | ⟨f, i⟩
  · rw [hF] at h1
    simp only [findV] at h1
    dsimp only
    refine spec_ok Tryd.func35 rfl rfl (by kernel_rfl) (k := 4) rfl (by decide) ?_
    repeat' (first|(with_reducible first|refine yrl (by constructor) ?_|refine jk (fun M hM=>?_)|(refine hM _ ?_;clear hM M)|refine xb3 (by decide) ?_|refine yqa (by assumption) ?_ ?_|refine yqb (by assumption) ?_ ?_)|((with_reducible refine je ?_)<;>(first|rfl|assumption|(simp only [znl,jO];(first|done|fail))))|(with_reducible refine jf (by (simp only [↓reduceIte,zlk,Nat.reduceEqDiff,reduceCtorEq]);exact rfl) ?_)|((with_reducible first|refine jg (fun hc=>?_) (fun hc=>?_)|refine jh (fun hc=>?_) (fun hc=>?_))<;>(try simp (disch:=omega) only [zhb] at hc)<;>(try (exfalso;omega))<;>(try subst hc))|(with_reducible refine ji (by omega) ?_)|(simp (config := { maxSteps := 400000 }) only [↓jt,↓reduceIte,zvs,reduceCtorEq,Nat.reduceEqDiff,Nat.reduceAdd,Nat.reduceLeDiff,Nat.reduceMul,Int.reduceBNe,Int.reduceBEq,Int.reduceEq,Int.reduceNe,Int.reduceLT,Int.reduceLE,Int.reduceGT,Int.reduceGE,Int.reduceNeg,Int.reduceToNat,Nat.reduceLT,Nat.reduceSub,tab,hS,Tryd.results35,List.toList_toArray])|(simp (disch:=omega) only [ziw]))
    simp only [u32V]
    simp only [zrds]
  · rw [hF] at h1
    simp only [findV] at h1
    obtain ⟨g0, g1, g2, g3, g4, g5, g6, g7, g8⟩ := findO_some ha.1 hF
    dsimp only
    have hsz : 1 ≤ size ∧ size ≤ 4 := by omega
    have h2 := there_spec fr hf f
    by_cases ht : thereF fr f = true
    · have ht' := thereF_iff.1 ht
      rw [ht] at h2
      rw [if_pos ht]
      refine spec_ok Tryd.func35 rfl rfl (by kernel_rfl) (k := 4) rfl (by decide) ?_
      repeat' (first|(with_reducible first|refine yrl (by constructor) ?_|refine jk (fun M hM=>?_)|(refine hM _ ?_;clear hM M)|refine xb3 (by decide) ?_|refine yqa (by assumption) ?_ ?_|refine yqb (by assumption) ?_ ?_)|((with_reducible refine je ?_)<;>(first|rfl|assumption|(simp only [znl,jO];(first|done|fail))))|(with_reducible refine jf (by (simp only [↓reduceIte,zlk,Nat.reduceEqDiff,reduceCtorEq]);exact rfl) ?_)|((with_reducible first|refine jg (fun hc=>?_) (fun hc=>?_)|refine jh (fun hc=>?_) (fun hc=>?_))<;>(try simp (disch:=omega) only [zhb] at hc)<;>(try (exfalso;omega))<;>(try subst hc))|(with_reducible refine ji (by omega) ?_)|(simp (config := { maxSteps := 400000 }) only [↓jt,↓reduceIte,zvs,reduceCtorEq,Nat.reduceEqDiff,Nat.reduceAdd,Nat.reduceLeDiff,Nat.reduceMul,Int.reduceBNe,Int.reduceBEq,Int.reduceEq,Int.reduceNe,Int.reduceLT,Int.reduceLE,Int.reduceGT,Int.reduceGE,Int.reduceNeg,Int.reduceToNat,Nat.reduceLT,Nat.reduceSub,tab,hS,Tryd.results35,List.toList_toArray])|(simp (disch:=omega) only [ziw]))
      have hlen : (List.take ((i + size).toNat - i.toNat) (List.drop i.toNat (fr.getD f.toNat []))).length = size.toNat := by rw [List.length_take, List.length_drop]; omega
      have h3 := num_get_spec (List.take ((i + size).toNat - i.toNat) (List.drop i.toNat (fr.getD f.toNat []))) (by rw [hlen]; omega)
      rw [List.take_of_length_le (i := 8) (by omega)] at h3
      have hlt := getLE_lt (List.take ((i + size).toNat - i.toNat) (List.drop i.toNat (fr.getD f.toNat [])))
      rw [hlen] at hlt
      have hp : 256 ^ size.toNat ≤ 256 ^ 4 := Nat.pow_le_pow_right (by omega) (by omega)
      refine ja (jc (h3) (by first|rfl|assumption|(simp only [znl,jO];(first|done|fail))) rfl ?_)
      repeat' (first|(with_reducible first|refine yrl (by constructor) ?_|refine jk (fun M hM=>?_)|(refine hM _ ?_;clear hM M)|refine xb3 (by decide) ?_|refine yqa (by assumption) ?_ ?_|refine yqb (by assumption) ?_ ?_)|((with_reducible refine je ?_)<;>(first|rfl|assumption|(simp only [znl,jO];(first|done|fail))))|(with_reducible refine jf (by (simp only [↓reduceIte,zlk,Nat.reduceEqDiff,reduceCtorEq]);exact rfl) ?_)|((with_reducible first|refine jg (fun hc=>?_) (fun hc=>?_)|refine jh (fun hc=>?_) (fun hc=>?_))<;>(try simp (disch:=omega) only [zhb] at hc)<;>(try (exfalso;omega))<;>(try subst hc))|(with_reducible refine ji (by omega) ?_)|(simp (config := { maxSteps := 400000 }) only [↓jt,↓reduceIte,zvs,reduceCtorEq,Nat.reduceEqDiff,Nat.reduceAdd,Nat.reduceLeDiff,Nat.reduceMul,Int.reduceBNe,Int.reduceBEq,Int.reduceEq,Int.reduceNe,Int.reduceLT,Int.reduceLE,Int.reduceGT,Int.reduceGE,Int.reduceNeg,Int.reduceToNat,Nat.reduceLT,Nat.reduceSub,tab,hS,Tryd.results35,List.toList_toArray])|(simp (disch:=omega) only [ziw]))
      simp only [u32V]
      simp only [zrds]
      rw [show (i + size).toNat - i.toNat = size.toNat by omega]
    · have ht2 := ht
      rw [Bool.not_eq_true] at ht
      rw [ht] at h2
      rw [if_neg ht2]
      refine spec_ok Tryd.func35 rfl rfl (by kernel_rfl) (k := 4) rfl (by decide) ?_
      repeat' (first|(with_reducible first|refine yrl (by constructor) ?_|refine jk (fun M hM=>?_)|(refine hM _ ?_;clear hM M)|refine xb3 (by decide) ?_|refine yqa (by assumption) ?_ ?_|refine yqb (by assumption) ?_ ?_)|((with_reducible refine je ?_)<;>(first|rfl|assumption|(simp only [znl,jO];(first|done|fail))))|(with_reducible refine jf (by (simp only [↓reduceIte,zlk,Nat.reduceEqDiff,reduceCtorEq]);exact rfl) ?_)|((with_reducible first|refine jg (fun hc=>?_) (fun hc=>?_)|refine jh (fun hc=>?_) (fun hc=>?_))<;>(try simp (disch:=omega) only [zhb] at hc)<;>(try (exfalso;omega))<;>(try subst hc))|(with_reducible refine ji (by omega) ?_)|(simp (config := { maxSteps := 400000 }) only [↓jt,↓reduceIte,zvs,reduceCtorEq,Nat.reduceEqDiff,Nat.reduceAdd,Nat.reduceLeDiff,Nat.reduceMul,Int.reduceBNe,Int.reduceBEq,Int.reduceEq,Int.reduceNe,Int.reduceLT,Int.reduceLE,Int.reduceGT,Int.reduceGE,Int.reduceNeg,Int.reduceToNat,Nat.reduceLT,Nat.reduceSub,tab,hS,Tryd.results35,List.toList_toArray])|(simp (disch:=omega) only [ziw]))
      simp only [u32V]
      simp only [zrds]
end Go.Proofs.YtabfjhpakgdopaaDoor.V
end
section
/-
  MMU, part 7: numbers stored.
-/
set_option linter.unusedVariables false
set_option linter.unusedSimpArgs false
namespace Go.Proofs.YtabfjhpakgdopaaDoor.V
open Go
set_option maxRecDepth 100000
-- nlx: jO
set_option maxHeartbeats 1000000
theorem clone_call (l : Frames) (hl : fits l) {H : Heap} {n : Nat} {K : VV → Heap → Nat → Prop} (h0 : l = [] → K (.sl none 0) H n)
    (h : K (.sl (some (n + 1, [], 0)) l.length) (upd (upd (upd H n (some (.row (.arr 0 .cell) (.agg [])))) n none) (n + 1) (some (.row (.arr l.length .cell) (.agg (l.map .str))))) (n + 2)) :
    vcall Tryd.prog 34 [encStrs l] H n K := by
  obtain ⟨hl1, hl2⟩ := hl
  refine ok_body Tryd.func34 rfl rfl (by kernel_rfl) (k := 1) rfl (by decide) ?_
  repeat' (first|(with_reducible first|refine yrl (by constructor) ?_|refine jk (fun M hM=>?_)|(refine hM _ ?_;clear hM M)|refine xb3 (by decide) ?_|refine yqa (by assumption) ?_ ?_|refine yqb (by assumption) ?_ ?_)|((with_reducible refine je ?_)<;>(first|rfl|assumption|(simp only [znl,jO];(first|done|fail))))|(with_reducible refine jf (by (simp only [↓reduceIte,zlk,Nat.reduceEqDiff,reduceCtorEq]);exact rfl) ?_)|((with_reducible first|refine jg (fun hc=>?_) (fun hc=>?_)|refine jh (fun hc=>?_) (fun hc=>?_))<;>(try simp (disch:=omega) only [zhb] at hc)<;>(try (exfalso;omega))<;>(try subst hc))|(with_reducible refine ji (by omega) ?_)|(simp (config := { maxSteps := 400000 }) only [↓jt,↓reduceIte,zvs,reduceCtorEq,Nat.reduceEqDiff,Nat.reduceAdd,Nat.reduceLeDiff,Nat.reduceMul,Int.reduceBNe,Int.reduceBEq,Int.reduceEq,Int.reduceNe,Int.reduceLT,Int.reduceLE,Int.reduceGT,Int.reduceGE,Int.reduceNeg,Int.reduceToNat,Nat.reduceLT,Nat.reduceSub,tab,Tryd.results34, List.toList_toArray])|(simp (disch:=omega) only [ziw]))
  refine eithW_intro fun b hb => ?_
  repeat' (first|(with_reducible first|refine yrl (by constructor) ?_|refine jk (fun M hM=>?_)|(refine hM _ ?_;clear hM M)|refine xb3 (by decide) ?_|refine yqa (by assumption) ?_ ?_|refine yqb (by assumption) ?_ ?_)|((with_reducible refine je ?_)<;>(first|rfl|assumption|(simp only [znl,jO];(first|done|fail))))|(with_reducible refine jf (by (simp only [↓reduceIte,zlk,Nat.reduceEqDiff,reduceCtorEq]);exact rfl) ?_)|((with_reducible first|refine jg (fun hc=>?_) (fun hc=>?_)|refine jh (fun hc=>?_) (fun hc=>?_))<;>(try simp (disch:=omega) only [zhb] at hc)<;>(try (exfalso;omega))<;>(try subst hc))|(with_reducible refine ji (by omega) ?_)|(simp (config := { maxSteps := 400000 }) only [↓jt,↓reduceIte,zvs,reduceCtorEq,Nat.reduceEqDiff,Nat.reduceAdd,Nat.reduceLeDiff,Nat.reduceMul,Int.reduceBNe,Int.reduceBEq,Int.reduceEq,Int.reduceNe,Int.reduceLT,Int.reduceLE,Int.reduceGT,Int.reduceGE,Int.reduceNeg,Int.reduceToNat,Nat.reduceLT,Nat.reduceSub,tab,Tryd.results34, List.toList_toArray])|(simp (disch:=omega) only [ziw]))
  · have e : l = [] := by
      cases l with
      | nil => rfl
      | cons x l => exact absurd (hb (by simp)) (by simp)
    exact h0 e
  · exact h
def storeP (fr : Frames) (s : List Pte) (a size : Int) (v : Nat) : Option Frames := match findO s a size true with
  | some (f, i) => if thereF fr f = true then some (fr.set f.toNat (putF (fr.getD f.toNat []) i.toNat (putLE v (min size.toNat 8)))) else none
  | none => none
theorem PStore_spec (fr : Frames) (hf : fits fr) (s : List Pte) (hs : s.length = 16) (a : Int) (ha : 0 ≤ a ∧ a < 2 ^ 32) (size : Int) (v : Nat) (hv : v < 2 ^ 32) :
    Spec Tryd.prog 89 [encStrs fr, encSpace s, .int .u32 a, .int .i64 size, .int .u32 v] (framesV (storeP fr s a size v)) := by
  have hS := hasSpace s hs
  have h1 := find_spec s hs a ha size true
  obtain ⟨hf1, hf2⟩ := id hf
  unfold storeP
  rcases hF : findO s a size true with _ | ⟨f, i⟩
  · rw [hF] at h1
    simp only [findV] at h1
    refine spec_ok Tryd.func89 rfl rfl (by kernel_rfl) (k := 5) rfl (by decide) ?_
    repeat' (first|(with_reducible first|refine yrl (by constructor) ?_|refine jk (fun M hM=>?_)|(refine hM _ ?_;clear hM M)|refine xb3 (by decide) ?_|refine yqa (by assumption) ?_ ?_|refine yqb (by assumption) ?_ ?_)|((with_reducible refine je ?_)<;>(first|rfl|assumption|(simp only [znl,jO];(first|done|fail))))|(with_reducible refine jf (by (simp only [↓reduceIte,zlk,Nat.reduceEqDiff,reduceCtorEq]);exact rfl) ?_)|((with_reducible first|refine jg (fun hc=>?_) (fun hc=>?_)|refine jh (fun hc=>?_) (fun hc=>?_))<;>(try simp (disch:=omega) only [zhb] at hc)<;>(try (exfalso;omega))<;>(try subst hc))|(with_reducible refine ji (by omega) ?_)|(simp (config := { maxSteps := 400000 }) only [↓jt,↓reduceIte,zvs,reduceCtorEq,Nat.reduceEqDiff,Nat.reduceAdd,Nat.reduceLeDiff,Nat.reduceMul,Int.reduceBNe,Int.reduceBEq,Int.reduceEq,Int.reduceNe,Int.reduceLT,Int.reduceLE,Int.reduceGT,Int.reduceGE,Int.reduceNeg,Int.reduceToNat,Nat.reduceLT,Nat.reduceSub,tab,hS,Tryd.results89,List.toList_toArray])|(simp (disch:=omega) only [ziw]))
    simp only [framesV]
    simp only [zrds]
    exact rd_nil
  · rw [hF] at h1
    simp only [findV] at h1
    obtain ⟨g0, g1, g2, g3, g4, g5, g6, g7, g8⟩ := findO_some ha.1 hF
    have hsz : 1 ≤ size ∧ size ≤ 4 := by omega
    have h2 := there_spec fr hf f
    dsimp only
    by_cases ht : thereF fr f = true
    · have ht' := thereF_iff.1 ht
      rw [ht] at h2
      rw [if_pos ht]
      have h3 := num_put_spec v (by omega) size
      have h4 := put_spec (fr.getD f.toNat []) (putLE v (min size.toNat 8)) i g7 (by rw [putLE_len]; omega) (by omega)
      refine spec_ok Tryd.func89 rfl rfl (by kernel_rfl) (k := 5) rfl (by decide) ?_
      repeat' (first|(with_reducible first|refine yrl (by constructor) ?_|refine jk (fun M hM=>?_)|(refine hM _ ?_;clear hM M)|refine xb3 (by decide) ?_|refine yqa (by assumption) ?_ ?_|refine yqb (by assumption) ?_ ?_)|((with_reducible refine je ?_)<;>(first|rfl|assumption|(simp only [znl,jO];(first|done|fail))))|(with_reducible refine jf (by (simp only [↓reduceIte,zlk,Nat.reduceEqDiff,reduceCtorEq]);exact rfl) ?_)|((with_reducible first|refine jg (fun hc=>?_) (fun hc=>?_)|refine jh (fun hc=>?_) (fun hc=>?_))<;>(try simp (disch:=omega) only [zhb] at hc)<;>(try (exfalso;omega))<;>(try subst hc))|(with_reducible refine ji (by omega) ?_)|(simp (config := { maxSteps := 400000 }) only [↓jt,↓reduceIte,zvs,reduceCtorEq,Nat.reduceEqDiff,Nat.reduceAdd,Nat.reduceLeDiff,Nat.reduceMul,Int.reduceBNe,Int.reduceBEq,Int.reduceEq,Int.reduceNe,Int.reduceLT,Int.reduceLE,Int.reduceGT,Int.reduceGE,Int.reduceNeg,Int.reduceToNat,Nat.reduceLT,Nat.reduceSub,tab,hS,Tryd.results89,List.toList_toArray])|(simp (disch:=omega) only [ziw]))
      refine ja (clone_call fr hf (fun h => by subst h; simp at ht') ?_)
      repeat' (first|(with_reducible first|refine yrl (by constructor) ?_|refine jk (fun M hM=>?_)|(refine hM _ ?_;clear hM M)|refine xb3 (by decide) ?_|refine yqa (by assumption) ?_ ?_|refine yqb (by assumption) ?_ ?_)|((with_reducible refine je ?_)<;>(first|rfl|assumption|(simp only [znl,jO];(first|done|fail))))|(with_reducible refine jf (by (simp only [↓reduceIte,zlk,Nat.reduceEqDiff,reduceCtorEq]);exact rfl) ?_)|((with_reducible first|refine jg (fun hc=>?_) (fun hc=>?_)|refine jh (fun hc=>?_) (fun hc=>?_))<;>(try simp (disch:=omega) only [zhb] at hc)<;>(try (exfalso;omega))<;>(try subst hc))|(with_reducible refine ji (by omega) ?_)|(simp (config := { maxSteps := 400000 }) only [↓jt,↓reduceIte,zvs,reduceCtorEq,Nat.reduceEqDiff,Nat.reduceAdd,Nat.reduceLeDiff,Nat.reduceMul,Int.reduceBNe,Int.reduceBEq,Int.reduceEq,Int.reduceNe,Int.reduceLT,Int.reduceLE,Int.reduceGT,Int.reduceGE,Int.reduceNeg,Int.reduceToNat,Nat.reduceLT,Nat.reduceSub,tab,hS,Tryd.results89,List.toList_toArray])|(simp (disch:=omega) only [ziw]))
      refine ok_draw 13 (by kernel_rfl) (by decide +kernel) (by intro m hm; simp only [upd_ap,rows_cons,rows_nil]; (repeat (first | rfl | rw [if_neg (by omega)]))) (fun M hM => ?_); simp only [List.take_succ_cons,List.take_zero,List.drop_succ_cons,List.drop_zero]
      repeat' (first|(with_reducible first|refine yrl (by constructor) ?_|refine jk (fun M hM=>?_)|(refine hM _ ?_;clear hM M)|refine xb3 (by decide) ?_|refine yqa (by assumption) ?_ ?_|refine yqb (by assumption) ?_ ?_)|((with_reducible refine je ?_)<;>(first|rfl|assumption|(simp only [znl,jO];(first|done|fail))))|(with_reducible refine jf (by (simp only [↓reduceIte,zlk,Nat.reduceEqDiff,reduceCtorEq]);exact rfl) ?_)|((with_reducible first|refine jg (fun hc=>?_) (fun hc=>?_)|refine jh (fun hc=>?_) (fun hc=>?_))<;>(try simp (disch:=omega) only [zhb] at hc)<;>(try (exfalso;omega))<;>(try subst hc))|(with_reducible refine ji (by omega) ?_)|(simp (config := { maxSteps := 400000 }) only [↓jt,↓reduceIte,zvs,reduceCtorEq,Nat.reduceEqDiff,Nat.reduceAdd,Nat.reduceLeDiff,Nat.reduceMul,Int.reduceBNe,Int.reduceBEq,Int.reduceEq,Int.reduceNe,Int.reduceLT,Int.reduceLE,Int.reduceGT,Int.reduceGE,Int.reduceNeg,Int.reduceToNat,Nat.reduceLT,Nat.reduceSub,tab,hS,Tryd.results89,List.toList_toArray])|(simp (disch:=omega) only [ziw]))
      simp only [framesV]
      simp only [zrds]
      (refine rd_own (by (simp only [↓reduceIte,zlk,Nat.reduceEqDiff,reduceCtorEq]); exact rfl) ?_ ?_ ?_) <;> (first | rfl | assumption | (simp only [znl,jO];(first|done|fail)) | (simp; done) | (simp; omega) | skip)
    · have ht2 := ht
      rw [Bool.not_eq_true] at ht
      rw [ht] at h2
      rw [if_neg ht2]
      refine spec_ok Tryd.func89 rfl rfl (by kernel_rfl) (k := 5) rfl (by decide) ?_
      repeat' (first|(with_reducible first|refine yrl (by constructor) ?_|refine jk (fun M hM=>?_)|(refine hM _ ?_;clear hM M)|refine xb3 (by decide) ?_|refine yqa (by assumption) ?_ ?_|refine yqb (by assumption) ?_ ?_)|((with_reducible refine je ?_)<;>(first|rfl|assumption|(simp only [znl,jO];(first|done|fail))))|(with_reducible refine jf (by (simp only [↓reduceIte,zlk,Nat.reduceEqDiff,reduceCtorEq]);exact rfl) ?_)|((with_reducible first|refine jg (fun hc=>?_) (fun hc=>?_)|refine jh (fun hc=>?_) (fun hc=>?_))<;>(try simp (disch:=omega) only [zhb] at hc)<;>(try (exfalso;omega))<;>(try subst hc))|(with_reducible refine ji (by omega) ?_)|(simp (config := { maxSteps := 400000 }) only [↓jt,↓reduceIte,zvs,reduceCtorEq,Nat.reduceEqDiff,Nat.reduceAdd,Nat.reduceLeDiff,Nat.reduceMul,Int.reduceBNe,Int.reduceBEq,Int.reduceEq,Int.reduceNe,Int.reduceLT,Int.reduceLE,Int.reduceGT,Int.reduceGE,Int.reduceNeg,Int.reduceToNat,Nat.reduceLT,Nat.reduceSub,tab,hS,Tryd.results89,List.toList_toArray])|(simp (disch:=omega) only [ziw]))
      simp only [framesV]
      simp only [zrds]
      exact rd_nil
end Go.Proofs.YtabfjhpakgdopaaDoor.V
end
