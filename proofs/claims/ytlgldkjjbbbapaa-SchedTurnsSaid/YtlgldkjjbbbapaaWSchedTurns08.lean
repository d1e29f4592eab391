/-
  Parts of the proof of SchedTurns: D3, N1, N2, N4.
  Conditions: none.
-/
import Derived.Test.YtlgldkjjbbbapaaWSchedTurns07
section
/-
  Drive, part 3: a new drive, a block of ones, a block got.
-/
set_option linter.unusedVariables false
set_option linter.unusedSimpArgs false
namespace Go.Proofs.Ytlgldkjjbbbapaa.V
open Go
set_option maxRecDepth 100000
-- nlx: nls_wr
set_option maxHeartbeats 1000000
def zeros : List UInt8 := List.replicate 128 0
/-- a drive, and why not -/
def drV (x : Dr × Int) : VV := .tup [encDr x.1, .int .i64 x.2]
def newD (n : Int) : Dr × Int := if n < 0 ∨ 256 < n then (⟨[], [], 0⟩, 2) else (⟨List.replicate n.toNat zeros, [], -1⟩, 0)
theorem rep_set {α : Type} (k n : Nat) (a b : α) (h : k < n) : (List.replicate k a ++ List.replicate (n - k) b).set k a = List.replicate (k + 1) a ++ List.replicate (n - (k + 1)) b := by
  rw [List.set_append_right _ _ (by simp), List.length_replicate, Nat.sub_self, show n - k = (n - (k + 1)) + 1 by omega, List.replicate_succ, List.set_cons_zero, List.replicate_succ', List.append_assoc]
  rfl
theorem rep_at {α : Type} (k n : Nat) (a b : α) (h : k < n) : (List.replicate k a ++ List.replicate (n - k) b)[k]? = some b := by
  rw [List.getElem?_append_right (by simp), List.getElem?_replicate, if_pos (by rw [List.length_replicate]; omega)]
theorem z128 : bytesOf (List.take 128 (List.replicate 128 (VV.int .u8 0))) = some zeros := by rfl
/-- a block as it was last written -/
def getP (pe : List Wr) (i : Int) (s : List UInt8) : List UInt8 := pe.foldl (fun s w => if w.b = i then w.d else s) s
theorem getP_snoc (pe : List Wr) (w : Wr) (i : Int) (s : List UInt8) : getP (pe ++ [w]) i s = if w.b = i then w.d else getP pe i s := by
  simp [getP, List.foldl_append]
def getV (d : Dr) (i : Int) : VV := if 0 ≤ i ∧ i < d.bl.length then .tup [.str (getP d.pe i (d.bl.getD i.toNat [])), .int .i64 0] else .tup [.str [], .int .i64 2]
theorem rget_spec (d : Dr) (hd : dfit d) (i : Int) (hi : -2 ^ 63 ≤ i ∧ i < 2 ^ 63) : Spec Try.prog 127 [encDr d, .int .i64 i] (getV d i) := by
  obtain ⟨⟨hf1, hf2⟩, hf3, hf4⟩ := hd
  by_cases hb : 0 ≤ i ∧ i < d.bl.length
  · rw [getV, if_pos hb]
    obtain ⟨R, hR⟩ : ∃ R, R = getP d.pe i (d.bl.getD i.toNat []) := ⟨_, rfl⟩
    rw [← hR]
    refine spec_ok Try.func127 rfl rfl (by kernel_rfl) (k := 2) rfl (by decide) ?_
    repeat' (first | (with_reducible first | refine ok_seq ?_ | refine xs1 ?_ | refine xs2 ?_ | refine xs3 ?_ | refine xb1 ?_ | refine xb2 ?_ | refine xb3 (by decide) ?_ | refine xb4 ?_ | refine xl2 ?_ | refine xl3 ?_ | refine xc2 ?_ | refine xc3 ?_ | refine ok_block ?_ | refine ok_scope ?_ | refine ok_skip ?_ | refine ok_label ?_ | refine ok_exit ?_ | refine ok_ret ?_ | refine ok_region (fun M hM => ?_) | refine vif_t ?_ | refine vif_f ?_ | refine fin_normal ?_ | refine fin_ret ?_ | (refine hM _ ?_; clear hM M) | refine vcallW_intro (call_data (by assumption) ?_ rfl ?_) | refine vcallHW_intro (hcall_data (by assumption) rfl ?_) ?_) | ((with_reducible refine nls_q ?_) <;> (first | rfl | assumption | (simp only [znl,nls_wr]; (first | done | fail)))) | (with_reducible refine ok_cond (by (simp only [↓reduceIte,zlk,Nat.reduceEqDiff,reduceCtorEq]); exact rfl) ?_) | ((with_reducible first | refine vif_intro (fun hc => ?_) (fun hc => ?_) | refine vifW_intro (fun hc => ?_) (fun hc => ?_)) <;> (try simp (disch := omega) only [zhb] at hc) <;> (try (exfalso; omega)) <;> (try subst hc)) | (with_reducible refine cndW_intro (by omega) ?_) | (simp (config := { maxSteps := 400000 }) only [↓zvs_pre,↓reduceIte,zvs,reduceCtorEq,Nat.reduceEqDiff,Nat.reduceAdd,Nat.reduceLeDiff,Nat.reduceMul,Int.reduceBNe,Int.reduceBEq,Int.reduceEq,Int.reduceNe,Int.reduceLT,Int.reduceLE,Int.reduceGT,Int.reduceGE,Int.reduceNeg,Int.reduceToNat,Nat.reduceLT,Nat.reduceSub,tab,encDr,Try.results127,List.toList_toArray]) | (simp (disch := omega) only [ziw]))
    refine ok_loop (fun k : Nat => ⟨slots [(1, .int .i64 i), (2, .ptr 0 []), (4, .str []), (5, .int .i64 0), (6, .str (getP (d.pe.take k) i (d.bl.getD i.toNat []))), (7, .int .i64 k)], rows [(0, .row (.st [.cell, .cell, .cell]) (encDr d))], 1⟩) (fun k => k ≤ d.pe.length) (fun k => d.pe.length - k) 0 ?_ (Nat.zero_le _) (fun k hk => ?_)
    · (refine Ren.mk [(0, 0)] false (by first | (intro h; cases h; done) | exact fun _ => rfl) (by first | decide | rfl | (simp [turnOk]; done)) (by decide) ?_ ?_ <;> (repeat' (first | (with_reducible first | refine mr_int (by first | rfl | omega) | refine mr_str rfl | refine mr_bool rfl | refine mr_dat rfl (by first | rfl | assumption | (simp only [znl,nls_wr]; (first | done | fail))) | refine mr_sl ?_ ?_ (by first | rfl | omega) | refine MR.ptr ?_ ?_ | refine mr_raw | refine mr_slnil | refine mr_empty ?_ | refine mr_row rfl (by (simp only [↓reduceIte,zlk,Nat.reduceEqDiff,reduceCtorEq]); exact rfl) ?_ ?_ ?_ (by decide) | refine mr_aggD rfl (by first | rfl | assumption | (simp only [znl,nls_wr]; (first | done | fail))) | refine MR.agg (MRL.cons ?_ ?_) | refine mr_aggD ?_ (by first | rfl | assumption | (simp only [znl,nls_wr]; (first | done | fail))) | refine MR.fn ?_ | refine MRL.cons ?_ ?_ | refine MRL.nil | refine alls_cons ?_ ?_ | refine alls_nil | refine allb_nil | refine allb_cons ?_ (by (simp only [↓reduceIte,zlk,Nat.reduceEqDiff,reduceCtorEq]); exact rfl) ?_ ?_ | refine MB.row ?_ | refine mb_arr ?_ ?_ | refine MR.map ?_ ?_ | refine mb_map rfl (by first | rfl | assumption | (simp only [znl,nls_wr]; (first | done | fail))) | rfl) | (simp only [znl,nls_wr]; (first | done | fail)) | (refine allb_ghost rfl ?_) | exact known_in rfl | exact known_lt rfl | ((with_reducible refine turn_ok ?_) <;> rfl) | (simp only [↓reduceIte,zlk,Nat.reduceEqDiff,reduceCtorEq]) | (with_reducible first | refine mb_map ?_ ?_ | refine mr_sl ?_ ?_ ?_ | refine mr_int ?_ | refine mr_str ?_ | refine mr_bool ?_ | refine mr_dat ?_ (by first | rfl | assumption | (simp only [znl,nls_wr]; (first | done | fail))) | refine mr_aggD ?_ ?_))))
      all_goals rfl
    by_cases hlt : k < d.pe.length
    · have e1 := take_snoc d.pe k (by omega)
      have e2 := getP_snoc (d.pe.take k) (d.pe.getD k default) i (d.bl.getD i.toNat [])
      rw [← e1] at e2
      repeat' (first | (with_reducible first | refine ok_seq ?_ | refine xs1 ?_ | refine xs2 ?_ | refine xs3 ?_ | refine xb1 ?_ | refine xb2 ?_ | refine xb3 (by decide) ?_ | refine xb4 ?_ | refine xl2 ?_ | refine xl3 ?_ | refine xc2 ?_ | refine xc3 ?_ | refine ok_block ?_ | refine ok_scope ?_ | refine ok_skip ?_ | refine ok_label ?_ | refine ok_exit ?_ | refine ok_ret ?_ | refine ok_region (fun M hM => ?_) | refine vif_t ?_ | refine vif_f ?_ | refine fin_normal ?_ | refine fin_ret ?_ | (refine hM _ ?_; clear hM M) | refine vcallW_intro (call_data (by assumption) ?_ rfl ?_) | refine vcallHW_intro (hcall_data (by assumption) rfl ?_) ?_) | ((with_reducible refine nls_q ?_) <;> (first | rfl | assumption | (simp only [znl,nls_wr]; (first | done | fail)))) | (with_reducible refine ok_cond (by (simp only [↓reduceIte,zlk,Nat.reduceEqDiff,reduceCtorEq]); exact rfl) ?_) | ((with_reducible first | refine vif_intro (fun hc => ?_) (fun hc => ?_) | refine vifW_intro (fun hc => ?_) (fun hc => ?_)) <;> (try simp (disch := omega) only [zhb] at hc) <;> (try (exfalso; omega)) <;> (try subst hc)) | (with_reducible refine cndW_intro (by omega) ?_) | (simp (config := { maxSteps := 400000 }) only [↓zvs_pre,↓reduceIte,zvs,reduceCtorEq,Nat.reduceEqDiff,Nat.reduceAdd,Nat.reduceLeDiff,Nat.reduceMul,Int.reduceBNe,Int.reduceBEq,Int.reduceEq,Int.reduceNe,Int.reduceLT,Int.reduceLE,Int.reduceGT,Int.reduceGE,Int.reduceNeg,Int.reduceToNat,Nat.reduceLT,Nat.reduceSub,tab,encWr,Try.results127,List.toList_toArray]) | (simp (disch := omega) only [ziw]))
      · rw [if_pos rfl] at e2
        refine xl1 (k + 1) ?_ (by show k + 1 ≤ d.pe.length; omega) (by show d.pe.length - (k + 1) < d.pe.length - k; omega)
        (refine Ren.mk [(0, 0)] false (by first | (intro h; cases h; done) | exact fun _ => rfl) (by first | decide | rfl | (simp [turnOk]; done)) (by decide) ?_ ?_ <;> (repeat' (first | (with_reducible first | refine mr_int (by first | rfl | omega) | refine mr_str rfl | refine mr_bool rfl | refine mr_dat rfl (by first | rfl | assumption | (simp only [znl,nls_wr]; (first | done | fail))) | refine mr_sl ?_ ?_ (by first | rfl | omega) | refine MR.ptr ?_ ?_ | refine mr_raw | refine mr_slnil | refine mr_empty ?_ | refine mr_row rfl (by (simp only [↓reduceIte,zlk,Nat.reduceEqDiff,reduceCtorEq]); exact rfl) ?_ ?_ ?_ (by decide) | refine mr_aggD rfl (by first | rfl | assumption | (simp only [znl,nls_wr]; (first | done | fail))) | refine MR.agg (MRL.cons ?_ ?_) | refine mr_aggD ?_ (by first | rfl | assumption | (simp only [znl,nls_wr]; (first | done | fail))) | refine MR.fn ?_ | refine MRL.cons ?_ ?_ | refine MRL.nil | refine alls_cons ?_ ?_ | refine alls_nil | refine allb_nil | refine allb_cons ?_ (by (simp only [↓reduceIte,zlk,Nat.reduceEqDiff,reduceCtorEq]); exact rfl) ?_ ?_ | refine MB.row ?_ | refine mb_arr ?_ ?_ | refine MR.map ?_ ?_ | refine mb_map rfl (by first | rfl | assumption | (simp only [znl,nls_wr]; (first | done | fail))) | rfl) | (simp only [znl,nls_wr]; (first | done | fail)) | (refine allb_ghost rfl ?_) | exact known_in rfl | exact known_lt rfl | ((with_reducible refine turn_ok ?_) <;> rfl) | (simp only [↓reduceIte,zlk,Nat.reduceEqDiff,reduceCtorEq]) | (with_reducible first | refine mb_map ?_ ?_ | refine mr_sl ?_ ?_ ?_ | refine mr_int ?_ | refine mr_str ?_ | refine mr_bool ?_ | refine mr_dat ?_ (by first | rfl | assumption | (simp only [znl,nls_wr]; (first | done | fail))) | refine mr_aggD ?_ ?_))))
        rw [e2]
      · rw [if_neg hc] at e2
        refine xl1 (k + 1) ?_ (by show k + 1 ≤ d.pe.length; omega) (by show d.pe.length - (k + 1) < d.pe.length - k; omega)
        (refine Ren.mk [(0, 0)] false (by first | (intro h; cases h; done) | exact fun _ => rfl) (by first | decide | rfl | (simp [turnOk]; done)) (by decide) ?_ ?_ <;> (repeat' (first | (with_reducible first | refine mr_int (by first | rfl | omega) | refine mr_str rfl | refine mr_bool rfl | refine mr_dat rfl (by first | rfl | assumption | (simp only [znl,nls_wr]; (first | done | fail))) | refine mr_sl ?_ ?_ (by first | rfl | omega) | refine MR.ptr ?_ ?_ | refine mr_raw | refine mr_slnil | refine mr_empty ?_ | refine mr_row rfl (by (simp only [↓reduceIte,zlk,Nat.reduceEqDiff,reduceCtorEq]); exact rfl) ?_ ?_ ?_ (by decide) | refine mr_aggD rfl (by first | rfl | assumption | (simp only [znl,nls_wr]; (first | done | fail))) | refine MR.agg (MRL.cons ?_ ?_) | refine mr_aggD ?_ (by first | rfl | assumption | (simp only [znl,nls_wr]; (first | done | fail))) | refine MR.fn ?_ | refine MRL.cons ?_ ?_ | refine MRL.nil | refine alls_cons ?_ ?_ | refine alls_nil | refine allb_nil | refine allb_cons ?_ (by (simp only [↓reduceIte,zlk,Nat.reduceEqDiff,reduceCtorEq]); exact rfl) ?_ ?_ | refine MB.row ?_ | refine mb_arr ?_ ?_ | refine MR.map ?_ ?_ | refine mb_map rfl (by first | rfl | assumption | (simp only [znl,nls_wr]; (first | done | fail))) | rfl) | (simp only [znl,nls_wr]; (first | done | fail)) | (refine allb_ghost rfl ?_) | exact known_in rfl | exact known_lt rfl | ((with_reducible refine turn_ok ?_) <;> rfl) | (simp only [↓reduceIte,zlk,Nat.reduceEqDiff,reduceCtorEq]) | (with_reducible first | refine mb_map ?_ ?_ | refine mr_sl ?_ ?_ ?_ | refine mr_int ?_ | refine mr_str ?_ | refine mr_bool ?_ | refine mr_dat ?_ (by first | rfl | assumption | (simp only [znl,nls_wr]; (first | done | fail))) | refine mr_aggD ?_ ?_))))
        rw [e2]
    · obtain rfl : k = d.pe.length := by omega
      rw [List.take_length] at *
      repeat' (first | (with_reducible first | refine ok_seq ?_ | refine xs1 ?_ | refine xs2 ?_ | refine xs3 ?_ | refine xb1 ?_ | refine xb2 ?_ | refine xb3 (by decide) ?_ | refine xb4 ?_ | refine xl2 ?_ | refine xl3 ?_ | refine xc2 ?_ | refine xc3 ?_ | refine ok_block ?_ | refine ok_scope ?_ | refine ok_skip ?_ | refine ok_label ?_ | refine ok_exit ?_ | refine ok_ret ?_ | refine ok_region (fun M hM => ?_) | refine vif_t ?_ | refine vif_f ?_ | refine fin_normal ?_ | refine fin_ret ?_ | (refine hM _ ?_; clear hM M) | refine vcallW_intro (call_data (by assumption) ?_ rfl ?_) | refine vcallHW_intro (hcall_data (by assumption) rfl ?_) ?_) | ((with_reducible refine nls_q ?_) <;> (first | rfl | assumption | (simp only [znl,nls_wr]; (first | done | fail)))) | (with_reducible refine ok_cond (by (simp only [↓reduceIte,zlk,Nat.reduceEqDiff,reduceCtorEq]); exact rfl) ?_) | ((with_reducible first | refine vif_intro (fun hc => ?_) (fun hc => ?_) | refine vifW_intro (fun hc => ?_) (fun hc => ?_)) <;> (try simp (disch := omega) only [zhb] at hc) <;> (try (exfalso; omega)) <;> (try subst hc)) | (with_reducible refine cndW_intro (by omega) ?_) | (simp (config := { maxSteps := 400000 }) only [↓zvs_pre,↓reduceIte,zvs,reduceCtorEq,Nat.reduceEqDiff,Nat.reduceAdd,Nat.reduceLeDiff,Nat.reduceMul,Int.reduceBNe,Int.reduceBEq,Int.reduceEq,Int.reduceNe,Int.reduceLT,Int.reduceLE,Int.reduceGT,Int.reduceGE,Int.reduceNeg,Int.reduceToNat,Nat.reduceLT,Nat.reduceSub,tab,List.take_length,encWr,Try.results127,List.toList_toArray]) | (simp (disch := omega) only [ziw]))
      rw [hR]
      simp only [zrds]
  · rw [getV, if_neg hb]
    refine spec_ok Try.func127 rfl rfl (by kernel_rfl) (k := 2) rfl (by decide) ?_
    repeat' (first | (with_reducible first | refine ok_seq ?_ | refine xs1 ?_ | refine xs2 ?_ | refine xs3 ?_ | refine xb1 ?_ | refine xb2 ?_ | refine xb3 (by decide) ?_ | refine xb4 ?_ | refine xl2 ?_ | refine xl3 ?_ | refine xc2 ?_ | refine xc3 ?_ | refine ok_block ?_ | refine ok_scope ?_ | refine ok_skip ?_ | refine ok_label ?_ | refine ok_exit ?_ | refine ok_ret ?_ | refine ok_region (fun M hM => ?_) | refine vif_t ?_ | refine vif_f ?_ | refine fin_normal ?_ | refine fin_ret ?_ | (refine hM _ ?_; clear hM M) | refine vcallW_intro (call_data (by assumption) ?_ rfl ?_) | refine vcallHW_intro (hcall_data (by assumption) rfl ?_) ?_) | ((with_reducible refine nls_q ?_) <;> (first | rfl | assumption | (simp only [znl,nls_wr]; (first | done | fail)))) | (with_reducible refine ok_cond (by (simp only [↓reduceIte,zlk,Nat.reduceEqDiff,reduceCtorEq]); exact rfl) ?_) | ((with_reducible first | refine vif_intro (fun hc => ?_) (fun hc => ?_) | refine vifW_intro (fun hc => ?_) (fun hc => ?_)) <;> (try simp (disch := omega) only [zhb] at hc) <;> (try (exfalso; omega)) <;> (try subst hc)) | (with_reducible refine cndW_intro (by omega) ?_) | (simp (config := { maxSteps := 400000 }) only [↓zvs_pre,↓reduceIte,zvs,reduceCtorEq,Nat.reduceEqDiff,Nat.reduceAdd,Nat.reduceLeDiff,Nat.reduceMul,Int.reduceBNe,Int.reduceBEq,Int.reduceEq,Int.reduceNe,Int.reduceLT,Int.reduceLE,Int.reduceGT,Int.reduceGE,Int.reduceNeg,Int.reduceToNat,Nat.reduceLT,Nat.reduceSub,tab,encDr,Try.results127,List.toList_toArray]) | (simp (disch := omega) only [ziw]))
    all_goals simp only [zrds]
end Go.Proofs.Ytlgldkjjbbbapaa.V
end
section
/-
  MACHINES, part 1: what a machine is; what is more than is gone through.
-/
set_option linter.unusedVariables false
set_option linter.unusedSimpArgs false
namespace Go.Proofs.Ytlgldkjjbbbapaa.V
open Go
set_option maxRecDepth 100000
set_option maxHeartbeats 1000000
structure Fdd where
  kind : Int
  n : Int
  pos : Int
deriving DecidableEq
instance : Inhabited Fdd := ⟨⟨0, 0, 0⟩⟩
deriving instance DecidableEq for Pte
structure Pr where
  pid : Int
  par : Int
  st : Int
  rs : List Int
  pc : Int
  sp : List Pte
  fds : List Fdd
  mask : Bool
  code : Int
  why : Int
  n : Int
deriving DecidableEq
instance : Inhabited Pr := ⟨⟨0, 0, 0, [], 0, [], [], false, 0, 0, 0⟩⟩
structure Pip where
  id : Int
  d : List UInt8
deriving DecidableEq
instance : Inhabited Pip := ⟨⟨0, []⟩⟩
structure Mach where
  clock : Int
  quantum : Int
  cur : Int
  left : Int
  fr : Frames
  pr : List Pr
  next : Int
  init : List UInt8
  pipes : List Pip
  newp : Int
  inp : List UInt8
  fin : Bool
  told : Int
  dr : Dr
  dirty : List Wr
def encFd (f : Fdd) : VV := .agg [.int .i64 f.kind, .int .i64 f.n, .int .i64 f.pos]
def encPr (p : Pr) : VV := .agg [.int .i64 p.pid, .int .i64 p.par, .int .i64 p.st, .agg [.agg (p.rs.map (.int .u32)), .int .u32 p.pc], .agg (p.sp.map encPte), .agg (p.fds.map encFd), .bool p.mask, .int .u32 p.code, .int .i64 p.why, .int .u64 p.n]
def encPi (p : Pip) : VV := .agg [.int .i64 p.id, .str p.d]
abbrev pteSh : Sh := .st [.cell, .cell, .cell]
abbrev prSh : Sh := .st [.cell, .cell, .cell, .st [.arr 16 .cell, .cell], .arr 16 pteSh, .arr 8 pteSh, .cell, .cell, .cell, .cell]
abbrev piSh : Sh := .st [.cell, .cell]
abbrev encPrs (l : List Pr) : VV := .dat prSh (l.map encPr)
abbrev encPis (l : List Pip) : VV := .dat piSh (l.map encPi)
abbrev encM (m : Mach) : VV := .agg [.int .u64 m.clock, .int .i64 m.quantum, .int .i64 m.cur, .int .i64 m.left, encStrs m.fr, encPrs m.pr, .int .i64 m.next, .str m.init, encPis m.pipes, .int .i64 m.newp, .str m.inp, .bool m.fin, .int .u64 m.told, encDr m.dr, encWrs m.dirty]
theorem hasFd (f : Fdd) : Has pteSh (encFd f) := by simp [encFd, Has, HasL, VV.leaf]
theorem hasFds (l : List Fdd) (h : l.length = 8) : Has (.arr 8 pteSh) (.agg (l.map encFd)) := has_arrMap h hasFd
theorem hasPi (p : Pip) : Has piSh (encPi p) := by simp [encPi, Has, HasL, VV.leaf]
theorem hasRs (l : List Int) (h : l.length = 16) : Has (.arr 16 .cell) (.agg (l.map (.int .u32))) := has_arrMap h (fun x => by simp [Has, VV.leaf])
def i64R (x : Int) : Prop := -9223372036854775808 ≤ x ∧ x ≤ 9223372036854775807
def u64R (x : Int) : Prop := 0 ≤ x ∧ x ≤ 18446744073709551615
def u32R (x : Int) : Prop := 0 ≤ x ∧ x ≤ 4294967295
def fdR (f : Fdd) : Prop := i64R f.kind ∧ i64R f.n ∧ i64R f.pos
/-- a process's numbers are in their ranges, its arrays of their lengths -/
structure PrR (p : Pr) : Prop where
  pid : i64R p.pid
  par : i64R p.par
  st : i64R p.st
  rs : p.rs.length = 16
  rsR : ∀ x ∈ p.rs, u32R x
  pc : u32R p.pc
  sp : p.sp.length = 16
  spR : ∀ x ∈ p.sp, i64R x.fr
  fds : p.fds.length = 8
  fdsR : ∀ x ∈ p.fds, fdR x
  code : u32R p.code
  why : i64R p.why
  n : u64R p.n
theorem hasPr (p : Pr) (h : PrR p) : Has prSh (encPr p) := by
  have h1 := hasRs p.rs h.rs
  have h2 := hasSpace p.sp h.sp
  have h3 := hasFds p.fds h.fds
  simp only [encPr,Has,HasL] at *
  simp [h1, h2, h3, VV.leaf]
  exact ⟨fun a _ => by have := hasPte a; simpa only [Has,HasL] using this, fun a _ => by have := hasFd a; simpa only [Has,HasL] using this⟩
theorem nls_fd (l : List Fdd) : nls (l.map encFd) = true := nls_map _ (fun _ => rfl) l
theorem nls_pi (l : List Pip) : nls (l.map encPi) = true := nls_map _ (fun _ => rfl) l
theorem nls_u32 (l : List Int) : nls (l.map (.int .u32)) = true := nls_map _ (fun _ => rfl) l
theorem nl_pr (p : Pr) : nl (encPr p) = true := by
  simp only [encPr,nl,nls,nls_fd,nls_pte,nls_u32,Bool.and_self]
theorem nls_pr (l : List Pr) : nls (l.map encPr) = true := nls_map _ nl_pr l
/-- a machine's numbers are in their ranges, its lists no longer than n -/
structure MFit (N : Nat) (m : Mach) : Prop where
  clock : u64R m.clock
  quantum : i64R m.quantum
  cur : i64R m.cur
  left : i64R m.left
  fr : m.fr.length ≤ N
  frS : ∀ s ∈ m.fr, s.length ≤ N
  pr : m.pr.length ≤ N
  prR : ∀ p ∈ m.pr, PrR p
  next : i64R m.next
  init : m.init.length ≤ N
  pipes : m.pipes.length ≤ N
  pipesR : ∀ p ∈ m.pipes, i64R p.id ∧ p.d.length ≤ N
  newp : i64R m.newp
  inp : m.inp.length ≤ N
  told : u64R m.told
  bl : m.dr.bl.length ≤ N
  blS : ∀ s ∈ m.dr.bl, s.length ≤ N
  pe : m.dr.pe.length ≤ N
  peS : ∀ w ∈ m.dr.pe, i64R w.b ∧ w.d.length ≤ N
  dleft : i64R m.dr.left
  dirty : m.dirty.length ≤ N
  dirtyS : ∀ w ∈ m.dirty, i64R w.b ∧ w.d.length ≤ N
end Go.Proofs.Ytlgldkjjbbbapaa.V
end
section
/-
  MACHINES, part 2: what the document says of a machine, in plain words.
-/
set_option linter.unusedVariables false
set_option linter.unusedSimpArgs false
namespace Go.Proofs.Ytlgldkjjbbbapaa.V
open Go
set_option maxRecDepth 100000
set_option maxHeartbeats 1000000
/-- how much there is of a machine -/
def sizeM (m : Mach) : Nat := m.fr.length + m.pr.length + m.pipes.length + m.dirty.length + m.dr.bl.length + m.dr.pe.length + (m.inp.length + m.init.length) / 64
/-- more than is looked at -/
def greatM (m : Mach) : Bool := decide (250 < sizeM m) || decide (12 < m.pr.length) || m.fr.any (longB 300) || m.dr.bl.any (longB 300) || (m.dirty.any fun w => longB 300 w.d) || (m.dr.pe.any fun w => longB 300 w.d) || m.pipes.any fun p => longB 300 p.d
def livesP (p : Pr) : Bool := decide (p.st = 1) || decide (p.st = 2)
/-- a process of that number lives -/
def livesB (l : List Pr) (pid : Int) : Bool := l.any fun p => decide (p.pid = pid) && livesP p
/-- how many of the pages have a frame -/
def usersS (f : Int) (s : List Pte) : Nat := s.countP fun x => x.is && decide (x.fr = f)
def usersN (l : List Pr) (f : Int) : Nat := (l.map fun p => usersS f p.sp).sum
theorem usersS_snoc (f : Int) (s : List Pte) (x : Pte) : usersS f (s ++ [x]) = usersS f s + if x.is = true ∧ x.fr = f then 1 else 0 := by
  simp only [usersS,List.countP_append,List.countP_cons,List.countP_nil,Nat.zero_add]
  congr 1
  by_cases h1 : x.is = true <;> by_cases h2 : x.fr = f <;> simp [h1, h2]
theorem usersS_le (f : Int) (s : List Pte) : usersS f s ≤ s.length := List.countP_le_length
theorem usersN_snoc (l : List Pr) (p : Pr) (f : Int) : usersN (l ++ [p]) f = usersN l f + usersS f p.sp := by
  simp [usersN]
theorem usersN_le (f : Int) : ∀ (l : List Pr), (∀ p ∈ l, p.sp.length = 16) → usersN l f ≤ 16 * l.length
  | [], _ => Nat.le_refl _
  | p :: l, h => by
    have h1 := usersN_le f l fun q hq => h q (by simp [hq])
    have h2 := usersS_le f p.sp
    have h3 := h p (by simp)
    have e : usersN (p :: l) f = usersS f p.sp + usersN l f := by simp [usersN]
    rw [e, List.length_cons]
    omega
/-- a pipe -/
def pipeO (l : List Pip) (id : Int) : Option Pip := l.find? fun p => decide (p.id = id)
def pipeV : Option Pip → VV
  | some p => .tup [encPi p, .bool true]
  | none => .tup [.agg [.int .i64 0, .str []], .bool false]
/-- an open file may be -/
def fdB (l : List Pip) (f : Fdd) : Bool :=
  if f.kind = 0 ∨ f.kind = 1 ∨ f.kind = 2 then decide (f.n = 0 ∧ f.pos = 0)
  else if f.kind = 3 then decide (1 ≤ f.n ∧ f.n ≤ 64 ∧ 0 ≤ f.pos ∧ f.pos ≤ 8960)
  else if f.kind = 4 ∨ f.kind = 5 then decide (f.pos = 0) && (pipeO l f.n).isSome
  else false
/-- a page may be -/
def pteB (m : Mach) (p : Pr) (x : Pte) : Bool :=
  if x.is = true then decide (p.st ≠ 3 ∧ 0 ≤ x.fr ∧ x.fr < m.fr.length ∧ usersN m.pr x.fr = 1) else decide (x.wr = false ∧ x.fr = 0)
/-- the numbers of a process may be -/
def procH (m : Mach) (p : Pr) : Bool :=
  if p.pid < 1 ∨ m.next ≤ p.pid ∨ (p.st ≠ 1 ∧ p.st ≠ 2 ∧ p.st ≠ 3) ∨ p.rs.getD 0 0 ≠ 0 then false
  else if livesB m.pr p.par = false ∧ (p.st = 3 ∨ p.par ≠ 0) then false
  else if ¬(p.st = 2 ↔ p.why ≠ 0) ∨ p.why < 0 ∨ 5 < p.why ∨ (p.st ≠ 2 ∧ p.n ≠ 0) ∨ (p.st ≠ 3 ∧ p.code ≠ 0) then false
  else true
def fdsB (m : Mach) (p : Pr) (f : Fdd) : Bool := fdB m.pipes f && !(decide (p.st = 3) && decide (f.kind ≠ 0))
def procB (m : Mach) (p : Pr) : Bool := procH m p && p.sp.all (pteB m p) && p.fds.all (fdsB m p)
def numB (m : Mach) : Bool := decide (m.quantum < 1 ∨ 1000 < m.quantum ∨ m.left < 0 ∨ m.quantum < m.left ∨ m.cur < 0 ∨ m.next < 1 ∨ 1000000000 < m.next ∨ m.newp < 1 ∨ 1000000000 < m.newp)
/-- processes, rising, each of which may be -/
def procsB (m : Mach) : Bool := (List.range m.pr.length).all fun i => !(decide (0 < i) && decide ((m.pr.getD i default).pid ≤ (m.pr.getD (i - 1) default).pid)) && procB m (m.pr.getD i default)
def pipeB (m : Mach) (i : Nat) : Bool := !(decide ((m.pipes.getD i default).id < 1) || decide (m.newp ≤ (m.pipes.getD i default).id) || (decide (0 < i) && decide ((m.pipes.getD i default).id ≤ (m.pipes.getD (i - 1) default).id)) || longB 64 (m.pipes.getD i default).d)
def pipesB (m : Mach) : Bool := (List.range m.pipes.length).all (pipeB m)
def homeB (d : Dr) (i : Nat) : List UInt8 := getP d.pe ((33 + i : Nat) : Int) (d.bl.getD (33 + i) [])
/-- the home blocks of a drive that may be -/
def homeD (d : Dr) : Frames := if checkD d = 0 ∧ 33 < d.bl.length then (List.range (d.bl.length - 33)).map (homeB d) else []
def bitB (s : List UInt8) (i : Nat) : Bool := bits BinOp.and IntKind.u8 (((s.getD ((i : Int) / 8).toNat 0).toNat : Int).fdiv (2 ^ min ((i : Int) % 8).toNat IntKind.u8.bits)) 1 == 1
/-- where things are on a volume: the places, the error -/
structure Geo where
  bl : Int
  ino : Int
  quo : Int
  map : Int
  tab : Int
  dat : Int
deriving DecidableEq
def planG (b i : Int) : Geo × Int := if b < 16 ∨ 223 < b ∨ i < 4 ∨ 64 < i then (⟨0, 0, 0, 0, 0, 0⟩, 2) else if b ≤ 3 + (i + 1) / 2 then (⟨0, 0, 0, 0, 0, 0⟩, 10) else (⟨b, i, 1, 2, 3, 3 + (i + 1) / 2⟩, 0)
def headG (b i : Int) : List UInt8 := [104, 105, 98, 49] ++ putLE b.toNat 2 ++ putLE i.toNat 2 ++ List.replicate 120 0
def volE (v : Frames) : Int :=
  if v.length < 16 then 3
  else if (v.any fun s => decide (s.length ≠ 128)) = true then 3
  else
    let i : Int := getLE (((v.getD 0 []).drop 6).take 2)
    let g := planG v.length i
    if g.2 ≠ 0 ∨ v.getD 0 [] ≠ headG v.length i then 3
    else if (List.range 1024).all (fun k => !((decide ((k : Int) < g.1.dat) && !bitB (v.getD 2 []) k) || (decide (g.1.bl ≤ k) && bitB (v.getD 2 []) k))) = true then 0 else 3
def wrV (v : Frames) (w : Wr) : Frames := if 0 ≤ w.b ∧ w.b < v.length then v.set w.b.toNat w.d else v
def volM (m : Mach) : Frames := m.dirty.foldl wrV (homeD m.dr)
def dirtyE (v : Frames) (l : List Wr) : Bool := (List.range l.length).all fun i => !(decide ((l.getD i default).b < 0) || decide ((v.length : Int) ≤ (l.getD i default).b) || decide ((l.getD i default).d.length ≠ 128) || (decide (0 < i) && decide ((l.getD i default).b ≤ (l.getD (i - 1) default).b)))
def diskE (m : Mach) : Int :=
  if checkD m.dr ≠ 0 then checkD m.dr
  else if homeD m.dr = [] then 3
  else if 32 < m.dirty.length then 6
  else if dirtyE (homeD m.dr) m.dirty = false then 3
  else volE (volM m)
/-- why a machine may not be -/
def chkM (m : Mach) : Int :=
  if numB m = true then 2
  else if m.fr.length < 1 ∨ 64 < m.fr.length then 6
  else if (m.fr.any fun s => decide (s.length ≠ 128)) = true then 3
  else if 8 < m.pr.length then 6
  else if procsB m = false then 3
  else if 64 < m.pipes.length then 6
  else if pipesB m = false then 3
  else if 65536 < m.inp.length ∨ 128 < m.init.length then 6
  else diskE m
/-- the least number above one of who is ready; 0: nobody is -/
def nextF (l : List Pr) (a : Int) : Int := l.foldl (fun s p => if p.st = 1 ∧ a < p.pid ∧ (s = 0 ∨ p.pid < s) then p.pid else s) 0
theorem nextF_snoc (l : List Pr) (p : Pr) (a : Int) : nextF (l ++ [p]) a = if p.st = 1 ∧ a < p.pid ∧ (nextF l a = 0 ∨ p.pid < nextF l a) then p.pid else nextF l a := by
  unfold nextF
  rw [List.foldl_append]
  rfl
def nextM (m : Mach) : Int := if nextF m.pr m.cur = 0 then nextF m.pr 0 else nextF m.pr m.cur
/-- who goes on -/
def pickM (m : Mach) : Mach :=
  if (m.pr.any fun p => decide (p.pid = m.cur) && decide (p.st = 1)) = true ∧ 0 < m.left then m
  else if 0 < nextM m then { m with cur := nextM m, left := m.quantum } else m
end Go.Proofs.Ytlgldkjjbbbapaa.V
end
section
/-
  MACHINES, part 4: who lives, a pipe, its ends, who has a frame.
-/
set_option linter.unusedVariables false
set_option linter.unusedSimpArgs false
namespace Go.Proofs.Ytlgldkjjbbbapaa.V
open Go
set_option maxRecDepth 100000
-- nlx: nls_wr, nls_pr, nls_pi, nls_pte, nls_fd, nls_u32, nl_pr
set_option maxHeartbeats 1000000
abbrev machSh : Sh := .st [.cell, .cell, .cell, .cell, .cell, .cell, .cell, .cell, .cell, .cell, .cell, .cell, .cell, .st [.cell, .cell, .cell], .cell]
theorem pr3 {p : Pr} (h : PrR p) : Has (.arr 16 .cell) (.agg (p.rs.map (.int .u32))) ∧ Has (.arr 16 (.st [.cell, .cell, .cell])) (.agg (p.sp.map encPte)) ∧ Has (.arr 8 (.st [.cell, .cell, .cell])) (.agg (p.fds.map encFd)) := ⟨hasRs _ h.rs, hasSpace _ h.sp, hasFds _ h.fds⟩
def livesQ (pid : Int) (p : Pr) : Bool := decide (p.pid = pid) && livesP p
theorem livesQ_t {pid : Int} {p : Pr} (h : livesQ pid p = true) : p.pid = pid ∧ (p.st = 1 ∨ p.st = 2) := by
  simpa [livesQ, livesP] using h
theorem livesQ_f {pid : Int} {p : Pr} (h : livesQ pid p = false) : ¬(p.pid = pid ∧ (p.st = 1 ∨ p.st = 2)) := by
  intro h2
  rw [show livesQ pid p = true by simpa [livesQ, livesP] using h2] at h
  cases h
theorem lives_spec (m : Mach) (hm : MFit 20000 m) (pid : Int) (hp : i64R pid) : Spec Try.prog 101 [encM m, .int .i64 pid] (.bool (livesB m.pr pid)) := by
  obtain ⟨R, hR⟩ : ∃ R, R = livesB m.pr pid := ⟨_, rfl⟩
  rw [← hR]
  have hl := hm.pr
  have hpR := hm.prR
  obtain ⟨hp1, hp2⟩ := hp
  refine spec_ok Try.func101 rfl rfl (by kernel_rfl) (k := 2) rfl (by decide) ?_
  repeat' (first | (with_reducible first | refine ok_seq ?_ | refine xs1 ?_ | refine xs2 ?_ | refine xs3 ?_ | refine xb1 ?_ | refine xb2 ?_ | refine xb3 (by decide) ?_ | refine xb4 ?_ | refine xl2 ?_ | refine xl3 ?_ | refine xc2 ?_ | refine xc3 ?_ | refine ok_block ?_ | refine ok_scope ?_ | refine ok_skip ?_ | refine ok_label ?_ | refine ok_exit ?_ | refine ok_ret ?_ | refine ok_region (fun M hM => ?_) | refine vif_t ?_ | refine vif_f ?_ | refine fin_normal ?_ | refine fin_ret ?_ | (refine hM _ ?_; clear hM M) | refine vcallW_intro (call_data (by assumption) ?_ rfl ?_) | refine vcallHW_intro (hcall_data (by assumption) rfl ?_) ?_) | ((with_reducible refine nls_q ?_) <;> (first | rfl | assumption | (simp only [znl,nls_wr,nls_pr,nls_pi,nls_pte,nls_fd,nls_u32,nl_pr]; (first | done | fail)))) | (with_reducible refine ok_cond (by (simp only [↓reduceIte,zlk,Nat.reduceEqDiff,reduceCtorEq]); exact rfl) ?_) | ((with_reducible first | refine vif_intro (fun hc => ?_) (fun hc => ?_) | refine vifW_intro (fun hc => ?_) (fun hc => ?_)) <;> (try simp (disch := omega) only [zhb] at hc) <;> (try (exfalso; omega)) <;> (try subst hc)) | (with_reducible refine cndW_intro (by omega) ?_) | (simp (config := { maxSteps := 400000 }) only [↓zvs_pre,↓reduceIte,zvs,reduceCtorEq,Nat.reduceEqDiff,Nat.reduceAdd,Nat.reduceLeDiff,Nat.reduceMul,Int.reduceBNe,Int.reduceBEq,Int.reduceEq,Int.reduceNe,Int.reduceLT,Int.reduceLE,Int.reduceGT,Int.reduceGE,Int.reduceNeg,Int.reduceToNat,Nat.reduceLT,Nat.reduceSub,tab,Try.results101,List.toList_toArray]) | (simp (disch := omega) only [ziw]))
  refine ok_loop (fun k : Nat => ⟨slots [(1, .int .i64 pid), (2, .ptr 0 []), (4, .bool false), (8, encPrs m.pr), (9, .int .i64 m.pr.length), (10, .int .i64 k)], rows [(0, .row machSh (encM m))], 1⟩) (fun k => k ≤ m.pr.length ∧ ∀ j, j < k → livesQ pid (m.pr.getD j default) = false) (fun k => m.pr.length - k) 0 ?_ ⟨Nat.zero_le _, fun j hj => by omega⟩ (fun k hk => ?_)
  · (refine Ren.mk [(0, 0)] false (by first | (intro h; cases h; done) | exact fun _ => rfl) (by first | decide | rfl | (simp [turnOk]; done)) (by decide) ?_ ?_ <;> (repeat' (first | (with_reducible first | refine mr_int (by first | rfl | omega) | refine mr_str rfl | refine mr_bool rfl | refine mr_dat rfl (by first | rfl | assumption | (simp only [znl,nls_wr,nls_pr,nls_pi,nls_pte,nls_fd,nls_u32,nl_pr]; (first | done | fail))) | refine mr_sl ?_ ?_ (by first | rfl | omega) | refine MR.ptr ?_ ?_ | refine mr_raw | refine mr_slnil | refine mr_empty ?_ | refine mr_row rfl (by (simp only [↓reduceIte,zlk,Nat.reduceEqDiff,reduceCtorEq]); exact rfl) ?_ ?_ ?_ (by decide) | refine mr_aggD rfl (by first | rfl | assumption | (simp only [znl,nls_wr,nls_pr,nls_pi,nls_pte,nls_fd,nls_u32,nl_pr]; (first | done | fail))) | refine MR.agg (MRL.cons ?_ ?_) | refine mr_aggD ?_ (by first | rfl | assumption | (simp only [znl,nls_wr,nls_pr,nls_pi,nls_pte,nls_fd,nls_u32,nl_pr]; (first | done | fail))) | refine MR.fn ?_ | refine MRL.cons ?_ ?_ | refine MRL.nil | refine alls_cons ?_ ?_ | refine alls_nil | refine allb_nil | refine allb_cons ?_ (by (simp only [↓reduceIte,zlk,Nat.reduceEqDiff,reduceCtorEq]); exact rfl) ?_ ?_ | refine MB.row ?_ | refine mb_arr ?_ ?_ | refine MR.map ?_ ?_ | refine mb_map rfl (by first | rfl | assumption | (simp only [znl,nls_wr,nls_pr,nls_pi,nls_pte,nls_fd,nls_u32,nl_pr]; (first | done | fail))) | rfl) | (simp only [znl,nls_wr,nls_pr,nls_pi,nls_pte,nls_fd,nls_u32,nl_pr]; (first | done | fail)) | (refine allb_ghost rfl ?_) | exact known_in rfl | exact known_lt rfl | ((with_reducible refine turn_ok ?_) <;> rfl) | (simp only [↓reduceIte,zlk,Nat.reduceEqDiff,reduceCtorEq]) | (with_reducible first | refine mb_map ?_ ?_ | refine mr_sl ?_ ?_ ?_ | refine mr_int ?_ | refine mr_str ?_ | refine mr_bool ?_ | refine mr_dat ?_ (by first | rfl | assumption | (simp only [znl,nls_wr,nls_pr,nls_pi,nls_pte,nls_fd,nls_u32,nl_pr]; (first | done | fail))) | refine mr_aggD ?_ ?_))))
  obtain ⟨hk, hn⟩ := hk
  by_cases hlt : k < m.pr.length
  · have hb := hpR _ (getD_mem' hlt)
    obtain ⟨hS1, hS2, hS3⟩ := pr3 hb
    have ha := any_of m.pr (livesQ pid) k hlt
    have hstep : livesQ pid (m.pr.getD k default) = false → ∀ j, j < k + 1 → livesQ pid (m.pr.getD j default) = false := fun h j hj => by
      by_cases e : j = k
      · rw [e]; exact h
      · exact hn j (by omega)
    cases hq : livesQ pid (m.pr.getD k default) with
    | true =>
      obtain ⟨q1, q2⟩ := livesQ_t hq
      repeat' (first | (with_reducible first | refine ok_seq ?_ | refine xs1 ?_ | refine xs2 ?_ | refine xs3 ?_ | refine xb1 ?_ | refine xb2 ?_ | refine xb3 (by decide) ?_ | refine xb4 ?_ | refine xl2 ?_ | refine xl3 ?_ | refine xc2 ?_ | refine xc3 ?_ | refine ok_block ?_ | refine ok_scope ?_ | refine ok_skip ?_ | refine ok_label ?_ | refine ok_exit ?_ | refine ok_ret ?_ | refine ok_region (fun M hM => ?_) | refine vif_t ?_ | refine vif_f ?_ | refine fin_normal ?_ | refine fin_ret ?_ | (refine hM _ ?_; clear hM M) | refine vcallW_intro (call_data (by assumption) ?_ rfl ?_) | refine vcallHW_intro (hcall_data (by assumption) rfl ?_) ?_) | ((with_reducible refine nls_q ?_) <;> (first | rfl | assumption | (simp only [znl,nls_wr,nls_pr,nls_pi,nls_pte,nls_fd,nls_u32,nl_pr]; (first | done | fail)))) | (with_reducible refine ok_cond (by (simp only [↓reduceIte,zlk,Nat.reduceEqDiff,reduceCtorEq]); exact rfl) ?_) | ((with_reducible first | refine vif_intro (fun hc => ?_) (fun hc => ?_) | refine vifW_intro (fun hc => ?_) (fun hc => ?_)) <;> (try simp (disch := omega) only [zhb] at hc) <;> (try (exfalso; omega)) <;> (try subst hc)) | (with_reducible refine cndW_intro (by omega) ?_) | (simp (config := { maxSteps := 400000 }) only [↓zvs_pre,↓reduceIte,zvs,reduceCtorEq,Nat.reduceEqDiff,Nat.reduceAdd,Nat.reduceLeDiff,Nat.reduceMul,Int.reduceBNe,Int.reduceBEq,Int.reduceEq,Int.reduceNe,Int.reduceLT,Int.reduceLE,Int.reduceGT,Int.reduceGE,Int.reduceNeg,Int.reduceToNat,Nat.reduceLT,Nat.reduceSub,tab,hS1,hS2,hS3,encPr,Try.results101,List.toList_toArray]) | (simp (disch := omega) only [ziw]))
      all_goals first
        | (exfalso; omega)
        | (simp only [zrds]; first | exact hR.trans (ha hq) | exact (hR.trans (ha hq)).symm)
        | trace_state
    | false =>
      have q1 := livesQ_f hq
      repeat' (first | (with_reducible first | refine ok_seq ?_ | refine xs1 ?_ | refine xs2 ?_ | refine xs3 ?_ | refine xb1 ?_ | refine xb2 ?_ | refine xb3 (by decide) ?_ | refine xb4 ?_ | refine xl2 ?_ | refine xl3 ?_ | refine xc2 ?_ | refine xc3 ?_ | refine ok_block ?_ | refine ok_scope ?_ | refine ok_skip ?_ | refine ok_label ?_ | refine ok_exit ?_ | refine ok_ret ?_ | refine ok_region (fun M hM => ?_) | refine vif_t ?_ | refine vif_f ?_ | refine fin_normal ?_ | refine fin_ret ?_ | (refine hM _ ?_; clear hM M) | refine vcallW_intro (call_data (by assumption) ?_ rfl ?_) | refine vcallHW_intro (hcall_data (by assumption) rfl ?_) ?_) | ((with_reducible refine nls_q ?_) <;> (first | rfl | assumption | (simp only [znl,nls_wr,nls_pr,nls_pi,nls_pte,nls_fd,nls_u32,nl_pr]; (first | done | fail)))) | (with_reducible refine ok_cond (by (simp only [↓reduceIte,zlk,Nat.reduceEqDiff,reduceCtorEq]); exact rfl) ?_) | ((with_reducible first | refine vif_intro (fun hc => ?_) (fun hc => ?_) | refine vifW_intro (fun hc => ?_) (fun hc => ?_)) <;> (try simp (disch := omega) only [zhb] at hc) <;> (try (exfalso; omega)) <;> (try subst hc)) | (with_reducible refine cndW_intro (by omega) ?_) | (simp (config := { maxSteps := 400000 }) only [↓zvs_pre,↓reduceIte,zvs,reduceCtorEq,Nat.reduceEqDiff,Nat.reduceAdd,Nat.reduceLeDiff,Nat.reduceMul,Int.reduceBNe,Int.reduceBEq,Int.reduceEq,Int.reduceNe,Int.reduceLT,Int.reduceLE,Int.reduceGT,Int.reduceGE,Int.reduceNeg,Int.reduceToNat,Nat.reduceLT,Nat.reduceSub,tab,hS1,hS2,hS3,encPr,Try.results101,List.toList_toArray]) | (simp (disch := omega) only [ziw]))
      all_goals first
        | (exfalso; omega)
        | (refine xl1 (k + 1) ?_ ⟨by omega, hstep hq⟩ (by show m.pr.length - (k + 1) < m.pr.length - k; omega); (refine Ren.mk [(0, 0)] false (by first | (intro h; cases h; done) | exact fun _ => rfl) (by first | decide | rfl | (simp [turnOk]; done)) (by decide) ?_ ?_ <;> (repeat' (first | (with_reducible first | refine mr_int (by first | rfl | omega) | refine mr_str rfl | refine mr_bool rfl | refine mr_dat rfl (by first | rfl | assumption | (simp only [znl,nls_wr,nls_pr,nls_pi,nls_pte,nls_fd,nls_u32,nl_pr]; (first | done | fail))) | refine mr_sl ?_ ?_ (by first | rfl | omega) | refine MR.ptr ?_ ?_ | refine mr_raw | refine mr_slnil | refine mr_empty ?_ | refine mr_row rfl (by (simp only [↓reduceIte,zlk,Nat.reduceEqDiff,reduceCtorEq]); exact rfl) ?_ ?_ ?_ (by decide) | refine mr_aggD rfl (by first | rfl | assumption | (simp only [znl,nls_wr,nls_pr,nls_pi,nls_pte,nls_fd,nls_u32,nl_pr]; (first | done | fail))) | refine MR.agg (MRL.cons ?_ ?_) | refine mr_aggD ?_ (by first | rfl | assumption | (simp only [znl,nls_wr,nls_pr,nls_pi,nls_pte,nls_fd,nls_u32,nl_pr]; (first | done | fail))) | refine MR.fn ?_ | refine MRL.cons ?_ ?_ | refine MRL.nil | refine alls_cons ?_ ?_ | refine alls_nil | refine allb_nil | refine allb_cons ?_ (by (simp only [↓reduceIte,zlk,Nat.reduceEqDiff,reduceCtorEq]); exact rfl) ?_ ?_ | refine MB.row ?_ | refine mb_arr ?_ ?_ | refine MR.map ?_ ?_ | refine mb_map rfl (by first | rfl | assumption | (simp only [znl,nls_wr,nls_pr,nls_pi,nls_pte,nls_fd,nls_u32,nl_pr]; (first | done | fail))) | rfl) | (simp only [znl,nls_wr,nls_pr,nls_pi,nls_pte,nls_fd,nls_u32,nl_pr]; (first | done | fail)) | (refine allb_ghost rfl ?_) | exact known_in rfl | exact known_lt rfl | ((with_reducible refine turn_ok ?_) <;> rfl) | (simp only [↓reduceIte,zlk,Nat.reduceEqDiff,reduceCtorEq]) | (with_reducible first | refine mb_map ?_ ?_ | refine mr_sl ?_ ?_ ?_ | refine mr_int ?_ | refine mr_str ?_ | refine mr_bool ?_ | refine mr_dat ?_ (by first | rfl | assumption | (simp only [znl,nls_wr,nls_pr,nls_pi,nls_pte,nls_fd,nls_u32,nl_pr]; (first | done | fail))) | refine mr_aggD ?_ ?_)))); done)
  · obtain rfl : k = m.pr.length := by omega
    repeat' (first | (with_reducible first | refine ok_seq ?_ | refine xs1 ?_ | refine xs2 ?_ | refine xs3 ?_ | refine xb1 ?_ | refine xb2 ?_ | refine xb3 (by decide) ?_ | refine xb4 ?_ | refine xl2 ?_ | refine xl3 ?_ | refine xc2 ?_ | refine xc3 ?_ | refine ok_block ?_ | refine ok_scope ?_ | refine ok_skip ?_ | refine ok_label ?_ | refine ok_exit ?_ | refine ok_ret ?_ | refine ok_region (fun M hM => ?_) | refine vif_t ?_ | refine vif_f ?_ | refine fin_normal ?_ | refine fin_ret ?_ | (refine hM _ ?_; clear hM M) | refine vcallW_intro (call_data (by assumption) ?_ rfl ?_) | refine vcallHW_intro (hcall_data (by assumption) rfl ?_) ?_) | ((with_reducible refine nls_q ?_) <;> (first | rfl | assumption | (simp only [znl,nls_wr,nls_pr,nls_pi,nls_pte,nls_fd,nls_u32,nl_pr]; (first | done | fail)))) | (with_reducible refine ok_cond (by (simp only [↓reduceIte,zlk,Nat.reduceEqDiff,reduceCtorEq]); exact rfl) ?_) | ((with_reducible first | refine vif_intro (fun hc => ?_) (fun hc => ?_) | refine vifW_intro (fun hc => ?_) (fun hc => ?_)) <;> (try simp (disch := omega) only [zhb] at hc) <;> (try (exfalso; omega)) <;> (try subst hc)) | (with_reducible refine cndW_intro (by omega) ?_) | (simp (config := { maxSteps := 400000 }) only [↓zvs_pre,↓reduceIte,zvs,reduceCtorEq,Nat.reduceEqDiff,Nat.reduceAdd,Nat.reduceLeDiff,Nat.reduceMul,Int.reduceBNe,Int.reduceBEq,Int.reduceEq,Int.reduceNe,Int.reduceLT,Int.reduceLE,Int.reduceGT,Int.reduceGE,Int.reduceNeg,Int.reduceToNat,Nat.reduceLT,Nat.reduceSub,tab,encPr,Try.results101,List.toList_toArray]) | (simp (disch := omega) only [ziw]))
    simp only [zrds]
    rw [hR]
    exact (any_none m.pr (livesQ pid) hn).symm
end Go.Proofs.Ytlgldkjjbbbapaa.V
end
