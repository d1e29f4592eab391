/-
  Parts of the proof of WalHeads: HH, HR, HS, HX, HV, I1, HW.
  Conditions: none.
-/
import Derived.Test.YtcilmfhncjfdbaaDoorWWalHeads09
import Derived.Test.YtcilmfhncjfdbaaDoorWWalHeads10
import Derived.Test.YtcilmfhncjfdbaaDoorWWalHeads03
import Derived.Test.YtcilmfhncjfdbaaDoorWWalHeads04
import Derived.Test.YtcilmfhncjfdbaaDoorRows
import Derived.LaidMore
import Derived.OpenShut
import Derived.FnData
import Derived.MakeChecks
section
/-
  WAL: a commit, by the program.
-/
set_option linter.unusedVariables false
set_option linter.unusedSimpArgs false
namespace Go.Proofs.YtcilmfhncjfdbaaDoor.V
open Go
set_option maxRecDepth 100000
set_option linter.defProp false in
def znHH := And.intro @jO <| And.intro @nls_mapB <| And.intro @nls_cls <| And.intro @nl_pd <| And.intro @nl_fn <| True.intro
set_option maxHeartbeats 8000000
theorem mr_put2 {σ : List (Nat × Nat)} {H : Heap} {A : List VV} {f g : FuncId} {a b : Nat} {u v : VV} (hA : nls A = true) (ha : H a = some (.row .cell u)) (hb : H b = some (.row .cell v)) (hu : nl u = true) (hv : nl v = true) (h1 : a ∉ σ.map (·.2)) (h2 : b ∉ σ.map (·.2)) :
    MR 0 σ H true (.agg (A ++ [.fn f [.ptr a [], .ptr b []], .fn g []])) (.agg (A ++ [.fn f [.pd .cell u, .pd .cell v], .fn g []])) :=
  .agg (mrl_app (MRL.data A hA) (.cons (.fn (.cons (.place rfl ha hu h1) (.cons (.place rfl hb hv h2) .nil))) (.cons (.fn .nil) .nil)))
theorem pcommit_spec (d : Dr) {N : Nat} (hd : DOk N d) (l : List Wr) (hf : LFit l) (hN : N < 2 ^ 30) : Spec Tryd.prog 16 [encDr d, encWrs l] (drV (commitD d l)) := by
  have hB := pbad_spec d (hd.fit (by omega))
  have hdf := hd.fit (show N < 2 ^ 36 by omega)
  have hK := pcopied_spec d hdf
  unfold commitD
  by_cases hb : badD d = 0
  case neg =>
    rw [if_pos hb]
    simp only [drV]
    refine spec_ok Tryd.func16 rfl rfl (by kernel_rfl) (k := 2) rfl (by decide) ?_
    repeat' (first|(with_reducible first|refine yrl (by constructor) ?_|refine jk (fun M hM=>?_)|(refine hM _ ?_;clear hM M)|refine xb3 (by decide) ?_|refine yqa (by assumption) ?_ ?_|refine yqb (by assumption) ?_ ?_)|((with_reducible refine je ?_)<;>(first|rfl|assumption|(simp only [znl,znHH];(first|done|fail))))|(with_reducible refine jf (by (simp only [↓reduceIte,zlk,Nat.reduceEqDiff,reduceCtorEq]);exact rfl) ?_)|((with_reducible first|refine jg (fun hc=>?_) (fun hc=>?_)|refine jh (fun hc=>?_) (fun hc=>?_))<;>(try simp (disch:=omega) only [zhb] at hc)<;>(try (exfalso;omega))<;>(try subst hc))|(with_reducible refine ji (by omega) ?_)|(simp (config := { maxSteps := 400000 }) only [↓jt,↓reduceIte,zvs,reduceCtorEq,Nat.reduceEqDiff,Nat.reduceAdd,Nat.reduceLeDiff,Nat.reduceMul,Int.reduceBNe,Int.reduceBEq,Int.reduceEq,Int.reduceNe,Int.reduceLT,Int.reduceLE,Int.reduceGT,Int.reduceGE,Int.reduceNeg,Int.reduceToNat,Nat.reduceLT,Nat.reduceSub,tab,Tryd.results16,List.toList_toArray])|(simp (disch:=omega) only [ziw]))
    all_goals first
      | (exfalso; omega)
      | (((try simp only [encDr,encWrs,List.map_nil]); simp only [zrds]; (repeat' (first | exact rd_nil | exact Rd.refl _ _ (by first|rfl|assumption|(simp only [znl,znHH];(first|done|fail))) | (refine And.intro ?_ ?_) | (refine rd_own (by (simp only [↓reduceIte,zlk,Nat.reduceEqDiff,reduceCtorEq]); exact rfl) ?_ ?_ ?_) | rfl | assumption | (simp only [znl,znHH];(first|done|fail)) | (simp; done) | (simp; omega)))); done)
      | trace_state
  rw [hb] at hB ⊢
  rw [if_neg (fun h => h rfl)]
  obtain ⟨c1, c2, c3⟩ := badD_ok hb
  have hlb := hf.len
  have hM : Spec Tryd.prog 29 [.int .i64 ((d.bl.length : Int) - 33), encWrs l] (.int .i64 (mayD ((d.bl.length - 33 : Nat) : Int) l)) := by
    have := pallowed_spec l hf (d.bl.length - 33) (by omega)
    rwa [show (((d.bl.length - 33 : Nat) : Int)) = (d.bl.length : Int) - 33 from by omega] at this ⊢
  by_cases hm : mayD ((d.bl.length - 33 : Nat) : Int) l = 0
  case neg =>
    rw [if_pos hm]
    simp only [drV]
    refine spec_ok Tryd.func16 rfl rfl (by kernel_rfl) (k := 2) rfl (by decide) ?_
    repeat' (first|(with_reducible first|refine yrl (by constructor) ?_|refine jk (fun M hM=>?_)|(refine hM _ ?_;clear hM M)|refine xb3 (by decide) ?_|refine yqa (by assumption) ?_ ?_|refine yqb (by assumption) ?_ ?_)|((with_reducible refine je ?_)<;>(first|rfl|assumption|(simp only [znl,znHH];(first|done|fail))))|(with_reducible refine jf (by (simp only [↓reduceIte,zlk,Nat.reduceEqDiff,reduceCtorEq]);exact rfl) ?_)|((with_reducible first|refine jg (fun hc=>?_) (fun hc=>?_)|refine jh (fun hc=>?_) (fun hc=>?_))<;>(try simp (disch:=omega) only [zhb] at hc)<;>(try (exfalso;omega))<;>(try subst hc))|(with_reducible refine ji (by omega) ?_)|(simp (config := { maxSteps := 400000 }) only [↓jt,↓reduceIte,zvs,reduceCtorEq,Nat.reduceEqDiff,Nat.reduceAdd,Nat.reduceLeDiff,Nat.reduceMul,Int.reduceBNe,Int.reduceBEq,Int.reduceEq,Int.reduceNe,Int.reduceLT,Int.reduceLE,Int.reduceGT,Int.reduceGE,Int.reduceNeg,Int.reduceToNat,Nat.reduceLT,Nat.reduceSub,tab,encDr,Tryd.results16,List.toList_toArray])|(simp (disch:=omega) only [ziw]))
    all_goals first
      | (exfalso; omega)
      | (((try simp only [encDr,encWrs,List.map_nil]); simp only [zrds]; (repeat' (first | exact rd_nil | exact Rd.refl _ _ (by first|rfl|assumption|(simp only [znl,znHH];(first|done|fail))) | (refine And.intro ?_ ?_) | (refine rd_own (by (simp only [↓reduceIte,zlk,Nat.reduceEqDiff,reduceCtorEq]); exact rfl) ?_ ?_ ?_) | rfl | assumption | (simp only [znl,znHH];(first|done|fail)) | (simp; done) | (simp; omega)))); done)
      | trace_state
  have hH := mayD_hd (by omega) hm
  have hW := hH.wok
  have hl32 := hH.len
  rw [hm] at hM ⊢
  rw [if_neg (fun h => h rfl)]
  by_cases he : l = []
  · rw [if_pos he]
    subst he
    simp only [drV]
    refine spec_ok Tryd.func16 rfl rfl (by kernel_rfl) (k := 2) rfl (by decide) ?_
    repeat' (first|(with_reducible first|refine yrl (by constructor) ?_|refine jk (fun M hM=>?_)|(refine hM _ ?_;clear hM M)|refine xb3 (by decide) ?_|refine yqa (by assumption) ?_ ?_|refine yqb (by assumption) ?_ ?_)|((with_reducible refine je ?_)<;>(first|rfl|assumption|(simp only [znl,znHH];(first|done|fail))))|(with_reducible refine jf (by (simp only [↓reduceIte,zlk,Nat.reduceEqDiff,reduceCtorEq]);exact rfl) ?_)|((with_reducible first|refine jg (fun hc=>?_) (fun hc=>?_)|refine jh (fun hc=>?_) (fun hc=>?_))<;>(try simp (disch:=omega) only [zhb] at hc)<;>(try (exfalso;omega))<;>(try subst hc))|(with_reducible refine ji (by omega) ?_)|(simp (config := { maxSteps := 400000 }) only [↓jt,↓reduceIte,zvs,reduceCtorEq,Nat.reduceEqDiff,Nat.reduceAdd,Nat.reduceLeDiff,Nat.reduceMul,Int.reduceBNe,Int.reduceBEq,Int.reduceEq,Int.reduceNe,Int.reduceLT,Int.reduceLE,Int.reduceGT,Int.reduceGE,Int.reduceNeg,Int.reduceToNat,Nat.reduceLT,Nat.reduceSub,tab,encDr,Tryd.results16,List.toList_toArray])|(simp (disch:=omega) only [ziw]))
    all_goals first
      | (exfalso; omega)
      | (((try simp only [encDr,encWrs,List.map_nil]); simp only [zrds]; (repeat' (first | exact rd_nil | exact Rd.refl _ _ (by first|rfl|assumption|(simp only [znl,znHH];(first|done|fail))) | (refine And.intro ?_ ?_) | (refine rd_own (by (simp only [↓reduceIte,zlk,Nat.reduceEqDiff,reduceCtorEq]); exact rfl) ?_ ?_ ?_) | rfl | assumption | (simp only [znl,znHH];(first|done|fail)) | (simp; done) | (simp; omega)))); done)
      | trace_state
  rw [if_neg he]
  have hll : 0 < l.length := List.length_pos_iff.2 he
  have hHd := phead_spec l hH
  have hhl := headF_len hl32
  have hHo := phomeward_spec l (by omega) fun w hw => by have := hH.wr w hw; omega
  obtain ⟨x, hx⟩ : ∃ x, x = runC d (callsC l) := ⟨_, rfl⟩
  have hDn := pdone_spec d hd (callsC l) (by simp only [callsC,List.length_append,ptP_len,homeC_len,List.length_cons,List.length_nil]; omega) fun c hc => by
    rcases List.mem_append.1 hc with hc | hc
    · exact ptP_R hW (Nat.le_refl _) c hc
    · rcases List.mem_append.1 hc with hc | hc
      · simp only [List.mem_cons,List.not_mem_nil,or_false] at hc
        rcases hc with rfl | rfl
        · exact ⟨by decide, by decide, by omega⟩
        · trivial
      · exact homeC_R hW c hc
  rw [← hx] at hDn ⊢
  obtain ⟨y, e⟩ := x
  simp only [drV] at hDn ⊢
  refine spec_ok Tryd.func16 rfl rfl (by kernel_rfl) (k := 2) rfl (by decide) ?_
  repeat' (first|(with_reducible first|refine yrl (by constructor) ?_|refine jk (fun M hM=>?_)|(refine hM _ ?_;clear hM M)|refine xb3 (by decide) ?_|refine yqa (by assumption) ?_ ?_|refine yqb (by assumption) ?_ ?_)|((with_reducible refine je ?_)<;>(first|rfl|assumption|(simp only [znl,znHH];(first|done|fail))))|(with_reducible refine jf (by (simp only [↓reduceIte,zlk,Nat.reduceEqDiff,reduceCtorEq]);exact rfl) ?_)|((with_reducible first|refine jg (fun hc=>?_) (fun hc=>?_)|refine jh (fun hc=>?_) (fun hc=>?_))<;>(try simp (disch:=omega) only [zhb] at hc)<;>(try (exfalso;omega))<;>(try subst hc))|(with_reducible refine ji (by omega) ?_)|(simp (config := { maxSteps := 400000 }) only [↓jt,↓reduceIte,zvs,reduceCtorEq,Nat.reduceEqDiff,Nat.reduceAdd,Nat.reduceLeDiff,Nat.reduceMul,Int.reduceBNe,Int.reduceBEq,Int.reduceEq,Int.reduceNe,Int.reduceLT,Int.reduceLE,Int.reduceGT,Int.reduceGE,Int.reduceNeg,Int.reduceToNat,Nat.reduceLT,Nat.reduceSub,tab,encDr,Tryd.results16,List.toList_toArray])|(simp (disch:=omega) only [ziw]))
  all_goals (try (exfalso; omega))
  refine ok_loop (fun k : Nat => ⟨slots [(1, encWrs l), (2, .ptr 0 []), (4, .ptr 1 []), (8, .sl (some (2, [], 0)) k), (33, encWrs l), (34, .int .i64 l.length), (35, .int .i64 k)], rows [(0, .row (.st [.cell, .cell, .cell]) (encDr d)), (1, .row (.st [.cell, .cell, .cell]) (.agg [.sl none 0, .sl none 0, .int .i64 0])), (2, .row (.arr k .cell) (.agg ((ptP l k).map encCl)))], 3⟩) (fun k => k ≤ l.length) (fun k => l.length - k) 0 ?_ (Nat.zero_le _) (fun k hk => ?_)
  · (refine yrn [(0, 0), (1, 1)] false ?_ ?_<;>(repeat' (first|(with_reducible first|exact ya1|exact ya2|exact ya3|refine jx rfl (by first|rfl|assumption|(simp only [znl,znHH];(first|done|fail)))|exact ya5|exact ya7|exact jy|exact jz|refine jA ?_|refine ya9 ?_ ?_ ?_|refine jC rfl (by first|rfl|assumption|(simp only [znl,znHH];(first|done|fail)))|refine MR.agg (MRL.cons ?_ ?_)|refine MR.fn ?_|refine MRL.cons ?_ ?_|exact MRL.nil|refine jE ?_ ?_|exact jF|exact jG|refine yb1 ?_ ?_|refine MB.row ?_|refine jI ?_ ?_|exact ya8|refine jJ rfl (by first|rfl|assumption|(simp only [znl,znHH];(first|done|fail)))|refine yb2 ?_|rfl)|(simp only [znl,znHH];(first|done|fail))|(simp only [↓reduceIte,zlk,Nat.reduceEqDiff,reduceCtorEq])|(with_reducible first|refine jJ ?_ ?_|refine ya5 ?_|refine ju ?_|refine jv ?_|refine jw ?_|refine jx ?_ (by first|rfl|assumption|(simp only [znl,znHH];(first|done|fail)))|refine jC ?_ (by first|rfl|assumption|(simp only [znl,znHH];(first|done|fail)))))))
    all_goals (first | rfl | trace_state)
  have hpl := ptP_len l k
  have hnc := nls_cls (ptP l k)
  by_cases hlt : k < l.length
  · repeat' (first|(with_reducible first|refine yrl (by constructor) ?_|refine jk (fun M hM=>?_)|(refine hM _ ?_;clear hM M)|refine xb3 (by decide) ?_|refine yqa (by assumption) ?_ ?_|refine yqb (by assumption) ?_ ?_)|((with_reducible refine je ?_)<;>(first|rfl|assumption|(simp only [znl,znHH];(first|done|fail))))|(with_reducible refine jf (by (simp only [↓reduceIte,zlk,Nat.reduceEqDiff,reduceCtorEq]);exact rfl) ?_)|((with_reducible first|refine jg (fun hc=>?_) (fun hc=>?_)|refine jh (fun hc=>?_) (fun hc=>?_))<;>(try simp (disch:=omega) only [zhb] at hc)<;>(try (exfalso;omega))<;>(try subst hc))|(with_reducible refine ji (by omega) ?_)|(simp (config := { maxSteps := 400000 }) only [↓jt,↓reduceIte,zvs,reduceCtorEq,Nat.reduceEqDiff,Nat.reduceAdd,Nat.reduceLeDiff,Nat.reduceMul,Int.reduceBNe,Int.reduceBEq,Int.reduceEq,Int.reduceNe,Int.reduceLT,Int.reduceLE,Int.reduceGT,Int.reduceGE,Int.reduceNeg,Int.reduceToNat,Nat.reduceLT,Nat.reduceSub,tab,hpl,encWr,Tryd.results16,List.toList_toArray])|(simp (disch:=omega) only [ziw]))
    all_goals (try (exfalso; omega))
    refine ja (ok_body Tryd.func30 rfl rfl (by kernel_rfl) (k := 2) (by rfl) (by decide) ?_)
    repeat' (first|(with_reducible first|refine yrl (by constructor) ?_|refine jk (fun M hM=>?_)|(refine hM _ ?_;clear hM M)|refine xb3 (by decide) ?_|refine yqa (by assumption) ?_ ?_|refine yqb (by assumption) ?_ ?_)|((with_reducible refine je ?_)<;>(first|rfl|assumption|(simp only [znl,znHH];(first|done|fail))))|(with_reducible refine jf (by (simp only [↓reduceIte,zlk,Nat.reduceEqDiff,reduceCtorEq]);exact rfl) ?_)|((with_reducible first|refine jg (fun hc=>?_) (fun hc=>?_)|refine jh (fun hc=>?_) (fun hc=>?_))<;>(try simp (disch:=omega) only [zhb] at hc)<;>(try (exfalso;omega))<;>(try subst hc))|(with_reducible refine ji (by omega) ?_)|(simp (config := { maxSteps := 400000 }) only [↓jt,↓reduceIte,zvs,reduceCtorEq,Nat.reduceEqDiff,Nat.reduceAdd,Nat.reduceLeDiff,Nat.reduceMul,Int.reduceBNe,Int.reduceBEq,Int.reduceEq,Int.reduceNe,Int.reduceLT,Int.reduceLE,Int.reduceGT,Int.reduceGE,Int.reduceNeg,Int.reduceToNat,Nat.reduceLT,Nat.reduceSub,tab,hpl,Tryd.results30,Tryd.results16,List.toList_toArray])|(simp (disch:=omega) only [ziw]))
    all_goals (try (exfalso; omega))
    have hs := ptP_succ l k
    refine xl1 (k + 1) ?_ (by show k + 1 ≤ l.length; omega) (by show l.length - (k + 1) < l.length - k; omega)
    refine yrn [(0, 0), (1, 1), (2, 7)] true ?_ ?_
    · (repeat' (first|(with_reducible first|exact ya1|exact ya2|exact ya3|refine jx rfl (by first|rfl|assumption|(simp only [znl,znHH];(first|done|fail)))|exact ya5|exact ya7|exact jy|exact jz|refine jA ?_|refine ya9 ?_ ?_ ?_|refine jC rfl (by first|rfl|assumption|(simp only [znl,znHH];(first|done|fail)))|refine MR.agg (MRL.cons ?_ ?_)|refine MR.fn ?_|refine MRL.cons ?_ ?_|exact MRL.nil|refine jE ?_ ?_|exact jF|exact jG|refine yb1 ?_ ?_|refine MB.row ?_|refine jI ?_ ?_|exact ya8|refine jJ rfl (by first|rfl|assumption|(simp only [znl,znHH];(first|done|fail)))|refine yb2 ?_|rfl)|(simp only [znl,znHH];(first|done|fail))|(simp only [↓reduceIte,zlk,Nat.reduceEqDiff,reduceCtorEq])|(with_reducible first|refine jJ ?_ ?_|refine ya5 ?_|refine ju ?_|refine jv ?_|refine jw ?_|refine jx ?_ (by first|rfl|assumption|(simp only [znl,znHH];(first|done|fail)))|refine jC ?_ (by first|rfl|assumption|(simp only [znl,znHH];(first|done|fail))))))
      all_goals (first | rfl | trace_state)
    · refine yb1 ?_ (yb1 ?_ (yb1 (jI ?_ ?_) jG))
      · (repeat' (first|(with_reducible first|exact ya1|exact ya2|exact ya3|refine jx rfl (by first|rfl|assumption|(simp only [znl,znHH];(first|done|fail)))|exact ya5|exact ya7|exact jy|exact jz|refine jA ?_|refine ya9 ?_ ?_ ?_|refine jC rfl (by first|rfl|assumption|(simp only [znl,znHH];(first|done|fail)))|refine MR.agg (MRL.cons ?_ ?_)|refine MR.fn ?_|refine MRL.cons ?_ ?_|exact MRL.nil|refine jE ?_ ?_|exact jF|exact jG|refine yb1 ?_ ?_|refine MB.row ?_|refine jI ?_ ?_|exact ya8|refine jJ rfl (by first|rfl|assumption|(simp only [znl,znHH];(first|done|fail)))|refine yb2 ?_|rfl)|(simp only [znl,znHH];(first|done|fail))|(simp only [↓reduceIte,zlk,Nat.reduceEqDiff,reduceCtorEq])|(with_reducible first|refine jJ ?_ ?_|refine ya5 ?_|refine ju ?_|refine jv ?_|refine jw ?_|refine jx ?_ (by first|rfl|assumption|(simp only [znl,znHH];(first|done|fail)))|refine jC ?_ (by first|rfl|assumption|(simp only [znl,znHH];(first|done|fail))))))
        all_goals (first | rfl | trace_state)
      · (repeat' (first|(with_reducible first|exact ya1|exact ya2|exact ya3|refine jx rfl (by first|rfl|assumption|(simp only [znl,znHH];(first|done|fail)))|exact ya5|exact ya7|exact jy|exact jz|refine jA ?_|refine ya9 ?_ ?_ ?_|refine jC rfl (by first|rfl|assumption|(simp only [znl,znHH];(first|done|fail)))|refine MR.agg (MRL.cons ?_ ?_)|refine MR.fn ?_|refine MRL.cons ?_ ?_|exact MRL.nil|refine jE ?_ ?_|exact jF|exact jG|refine yb1 ?_ ?_|refine MB.row ?_|refine jI ?_ ?_|exact ya8|refine jJ rfl (by first|rfl|assumption|(simp only [znl,znHH];(first|done|fail)))|refine yb2 ?_|rfl)|(simp only [znl,znHH];(first|done|fail))|(simp only [↓reduceIte,zlk,Nat.reduceEqDiff,reduceCtorEq])|(with_reducible first|refine jJ ?_ ?_|refine ya5 ?_|refine ju ?_|refine jv ?_|refine jw ?_|refine jx ?_ (by first|rfl|assumption|(simp only [znl,znHH];(first|done|fail)))|refine jC ?_ (by first|rfl|assumption|(simp only [znl,znHH];(first|done|fail))))))
        all_goals (first | rfl | trace_state)
      · rfl
      · rw [hs]
        exact mr_put hnc (by simp only [↓reduceIte,zlk,Nat.reduceEqDiff,reduceCtorEq]) (by simp only [↓reduceIte,zlk,Nat.reduceEqDiff,reduceCtorEq]) rfl rfl (by decide) (by decide)
  obtain rfl : k = l.length := by omega
  repeat' (first|(with_reducible first|refine yrl (by constructor) ?_|refine jk (fun M hM=>?_)|(refine hM _ ?_;clear hM M)|refine xb3 (by decide) ?_|refine yqa (by assumption) ?_ ?_|refine yqb (by assumption) ?_ ?_)|((with_reducible refine je ?_)<;>(first|rfl|assumption|(simp only [znl,znHH];(first|done|fail))))|(with_reducible refine jf (by (simp only [↓reduceIte,zlk,Nat.reduceEqDiff,reduceCtorEq]);exact rfl) ?_)|((with_reducible first|refine jg (fun hc=>?_) (fun hc=>?_)|refine jh (fun hc=>?_) (fun hc=>?_))<;>(try simp (disch:=omega) only [zhb] at hc)<;>(try (exfalso;omega))<;>(try subst hc))|(with_reducible refine ji (by omega) ?_)|(simp (config := { maxSteps := 400000 }) only [↓jt,↓reduceIte,zvs,reduceCtorEq,Nat.reduceEqDiff,Nat.reduceAdd,Nat.reduceLeDiff,Nat.reduceMul,Int.reduceBNe,Int.reduceBEq,Int.reduceEq,Int.reduceNe,Int.reduceLT,Int.reduceLE,Int.reduceGT,Int.reduceGE,Int.reduceNeg,Int.reduceToNat,Nat.reduceLT,Nat.reduceSub,tab,hpl,Tryd.results16,List.toList_toArray])|(simp (disch:=omega) only [ziw]))
  all_goals (try (exfalso; omega))
  refine ja (ok_body Tryd.func30 rfl rfl (by kernel_rfl) (k := 2) (by rfl) (by decide) ?_)
  repeat' ((fail_if_success (with_reducible refine ok_stop 17 ?_));first|(with_reducible first|refine yrl (by constructor) ?_|refine jk (fun M hM=>?_)|(refine hM _ ?_;clear hM M)|refine xb3 (by decide) ?_|refine yqa (by assumption) ?_ ?_|refine yqb (by assumption) ?_ ?_)|((with_reducible refine je ?_)<;>(first|rfl|assumption|(simp only [znl,znHH];(first|done|fail))))|(with_reducible refine jf (by (simp only [↓reduceIte,zlk,Nat.reduceEqDiff,reduceCtorEq]);exact rfl) ?_)|((with_reducible first|refine jg (fun hc=>?_) (fun hc=>?_)|refine jh (fun hc=>?_) (fun hc=>?_))<;>(try simp (disch:=omega) only [zhb] at hc)<;>(try (exfalso;omega))<;>(try subst hc))|(with_reducible refine ji (by omega) ?_)|(simp (config := { maxSteps := 400000 }) only [↓jt,↓reduceIte,zvs,reduceCtorEq,Nat.reduceEqDiff,Nat.reduceAdd,Nat.reduceLeDiff,Nat.reduceMul,Int.reduceBNe,Int.reduceBEq,Int.reduceEq,Int.reduceNe,Int.reduceLT,Int.reduceLE,Int.reduceGT,Int.reduceGE,Int.reduceNeg,Int.reduceToNat,Nat.reduceLT,Nat.reduceSub,tab,hpl,Tryd.results30,Tryd.results16,List.toList_toArray])|(simp (disch:=omega) only [ziw]))
  all_goals (try (exfalso; omega))
  have hcl1 : (ptP l l.length).map encCl ++ [.fn 50 [.pd .cell (.int .i64 0), .pd .cell (.str (headF l))], .fn 32 []] ++ (homeC l).map encCl = (callsC l).map encCl := by simp only [callsC,List.map_append,List.map_cons,List.map_nil,encCl,List.append_assoc]
  have hhc := nls_cls (homeC l)
  have hcc := nls_cls (callsC l)
  have hhn := homeC_len l
  have hcn : (callsC l).length = l.length + 2 + (l.length + 1) := by simp only [callsC,List.length_append,ptP_len,homeC_len,List.length_cons,List.length_nil]; omega
  refine ok_ren (T := ⟨slots [(1, encWrs l), (2, .ptr 0 []), (4, .ptr 1 []), (8, .sl (some (2, [], 0)) (l.length + 2))], rows [(0, .row (.st [.cell, .cell, .cell]) (encDr d)), (1, .row (.st [.cell, .cell, .cell]) (.agg [.sl none 0, .sl none 0, .int .i64 0])), (2, .row (.arr (l.length + 2) .cell) (.agg ((ptP l l.length).map encCl ++ [.fn 50 [.pd .cell (.int .i64 0), .pd .cell (.str (headF l))], .fn 32 []])))], 3⟩) ?_ ?_
  · refine yrn [(0, 0), (1, 1), (2, 6)] true ?_ ?_
    · (repeat' (first|(with_reducible first|exact ya1|exact ya2|exact ya3|refine jx rfl (by first|rfl|assumption|(simp only [znl,znHH];(first|done|fail)))|exact ya5|exact ya7|exact jy|exact jz|refine jA ?_|refine ya9 ?_ ?_ ?_|refine jC rfl (by first|rfl|assumption|(simp only [znl,znHH];(first|done|fail)))|refine MR.agg (MRL.cons ?_ ?_)|refine MR.fn ?_|refine MRL.cons ?_ ?_|exact MRL.nil|refine jE ?_ ?_|exact jF|exact jG|refine yb1 ?_ ?_|refine MB.row ?_|refine jI ?_ ?_|exact ya8|refine jJ rfl (by first|rfl|assumption|(simp only [znl,znHH];(first|done|fail)))|refine yb2 ?_|rfl)|(simp only [znl,znHH];(first|done|fail))|(simp only [↓reduceIte,zlk,Nat.reduceEqDiff,reduceCtorEq])|(with_reducible first|refine jJ ?_ ?_|refine ya5 ?_|refine ju ?_|refine jv ?_|refine jw ?_|refine jx ?_ (by first|rfl|assumption|(simp only [znl,znHH];(first|done|fail)))|refine jC ?_ (by first|rfl|assumption|(simp only [znl,znHH];(first|done|fail))))))
      all_goals (first | rfl | trace_state)
    · refine yb1 ?_ (yb1 ?_ (yb1 (jI ?_ ?_) jG))
      · (repeat' (first|(with_reducible first|exact ya1|exact ya2|exact ya3|refine jx rfl (by first|rfl|assumption|(simp only [znl,znHH];(first|done|fail)))|exact ya5|exact ya7|exact jy|exact jz|refine jA ?_|refine ya9 ?_ ?_ ?_|refine jC rfl (by first|rfl|assumption|(simp only [znl,znHH];(first|done|fail)))|refine MR.agg (MRL.cons ?_ ?_)|refine MR.fn ?_|refine MRL.cons ?_ ?_|exact MRL.nil|refine jE ?_ ?_|exact jF|exact jG|refine yb1 ?_ ?_|refine MB.row ?_|refine jI ?_ ?_|exact ya8|refine jJ rfl (by first|rfl|assumption|(simp only [znl,znHH];(first|done|fail)))|refine yb2 ?_|rfl)|(simp only [znl,znHH];(first|done|fail))|(simp only [↓reduceIte,zlk,Nat.reduceEqDiff,reduceCtorEq])|(with_reducible first|refine jJ ?_ ?_|refine ya5 ?_|refine ju ?_|refine jv ?_|refine jw ?_|refine jx ?_ (by first|rfl|assumption|(simp only [znl,znHH];(first|done|fail)))|refine jC ?_ (by first|rfl|assumption|(simp only [znl,znHH];(first|done|fail))))))
        all_goals (first | rfl | trace_state)
      · (repeat' (first|(with_reducible first|exact ya1|exact ya2|exact ya3|refine jx rfl (by first|rfl|assumption|(simp only [znl,znHH];(first|done|fail)))|exact ya5|exact ya7|exact jy|exact jz|refine jA ?_|refine ya9 ?_ ?_ ?_|refine jC rfl (by first|rfl|assumption|(simp only [znl,znHH];(first|done|fail)))|refine MR.agg (MRL.cons ?_ ?_)|refine MR.fn ?_|refine MRL.cons ?_ ?_|exact MRL.nil|refine jE ?_ ?_|exact jF|exact jG|refine yb1 ?_ ?_|refine MB.row ?_|refine jI ?_ ?_|exact ya8|refine jJ rfl (by first|rfl|assumption|(simp only [znl,znHH];(first|done|fail)))|refine yb2 ?_|rfl)|(simp only [znl,znHH];(first|done|fail))|(simp only [↓reduceIte,zlk,Nat.reduceEqDiff,reduceCtorEq])|(with_reducible first|refine jJ ?_ ?_|refine ya5 ?_|refine ju ?_|refine jv ?_|refine jw ?_|refine jx ?_ (by first|rfl|assumption|(simp only [znl,znHH];(first|done|fail)))|refine jC ?_ (by first|rfl|assumption|(simp only [znl,znHH];(first|done|fail))))))
        all_goals (first | rfl | trace_state)
      · rfl
      · exact mr_put2 hnc (by simp only [↓reduceIte,zlk,Nat.reduceEqDiff,reduceCtorEq]) (by simp only [↓reduceIte,zlk,Nat.reduceEqDiff,reduceCtorEq]) rfl rfl (by decide) (by decide)
  refine ok_any (by kernel_rfl) (fun M hM => ?_)
  repeat' (first|(exact any_nil)|(refine any_step [5] (by decide +kernel) (by decide) (any_one rfl (⟨slots [(4, .ptr 1 []), (55, encDr d), (59, .dat .cell ((callsC l).map encCl))], rows [(0, .row (.st [.cell, .cell, .cell]) (encDr d)), (1, .row (.st [.cell, .cell, .cell]) (.agg (.sl none 0 :: .sl none 0 :: .int .i64 0 :: .nil)))], 2⟩) ?_ ?_ any_nil))|(refine any_step [0] (by decide +kernel) (by decide) ?_)|(refine any_step [0, 1] (by decide +kernel) (by decide) ?_)|(refine any_step [0, 1, 2] (by decide +kernel) (by decide) ?_)|(refine any_step [0, 1, 3] (by decide +kernel) (by decide) ?_)|(refine any_step [0, 2] (by decide +kernel) (by decide) ?_)|(refine any_step [0, 3] (by decide +kernel) (by decide) ?_)|(refine any_step [0, 4] (by decide +kernel) (by decide) ?_)|(refine any_step [1] (by decide +kernel) (by decide) ?_)|(refine any_step [1, 2] (by decide +kernel) (by decide) ?_)|(refine any_step [1, 3] (by decide +kernel) (by decide) ?_)|(refine any_step [2] (by decide +kernel) (by decide) ?_)|(refine any_step [3] (by decide +kernel) (by decide) ?_)|(refine any_step [4] (by decide +kernel) (by decide) ?_)|(refine any_step [6] (by decide +kernel) (by decide) ?_)|(refine any_step [6, 7] (by decide +kernel) (by decide) ?_)|(refine any_step [7] (by decide +kernel) (by decide) ?_)|(refine any_step [8] (by decide +kernel) (by decide) ?_)|(refine any_step [9] (by decide +kernel) (by decide) ?_)|(refine any_same rfl ?_ ?_)|(refine any_end (by decide +kernel) ?_)|(with_reducible first|refine yrl (by constructor) ?_|refine jk (fun M hM=>?_)|(refine hM _ ?_;clear hM M)|refine xb3 (by decide) ?_|refine yqa (by assumption) ?_ ?_|refine yqb (by assumption) ?_ ?_)|((with_reducible refine je ?_)<;>(first|rfl|assumption|(simp only [znl,znHH];(first|done|fail))))|(with_reducible refine jf (by (simp only [↓reduceIte,zlk,Nat.reduceEqDiff,reduceCtorEq]);exact rfl) ?_)|((with_reducible first|refine jg (fun hc=>?_) (fun hc=>?_)|refine jh (fun hc=>?_) (fun hc=>?_))<;>(try simp (disch:=omega) only [zhb] at hc)<;>(try (exfalso;omega))<;>(try subst hc))|(with_reducible refine ji (by omega) ?_)|(simp (config := { maxSteps := 400000 }) only [↓jt,↓reduceIte,zvs,reduceCtorEq,Nat.reduceEqDiff,Nat.reduceAdd,Nat.reduceLeDiff,Nat.reduceMul,Int.reduceBNe,Int.reduceBEq,Int.reduceEq,Int.reduceNe,Int.reduceLT,Int.reduceLE,Int.reduceGT,Int.reduceGE,Int.reduceNeg,Int.reduceToNat,Nat.reduceLT,Nat.reduceSub,tab,hpl,hcl1,Tryd.results16,List.toList_toArray])|(simp (disch:=omega) only [ziw]))
  all_goals first
    | ((refine yrn [(0, 0), (1, 1)] true ?_ ?_<;>(repeat' (first|(with_reducible first|exact ya1|exact ya2|exact ya3|refine jx rfl (by first|rfl|assumption|(simp only [znl,znHH];(first|done|fail)))|exact ya5|exact ya7|exact jy|exact jz|refine jA ?_|refine ya9 ?_ ?_ ?_|refine jC rfl (by first|rfl|assumption|(simp only [znl,znHH];(first|done|fail)))|refine MR.agg (MRL.cons ?_ ?_)|refine MR.fn ?_|refine MRL.cons ?_ ?_|exact MRL.nil|refine jE ?_ ?_|exact jF|exact jG|refine yb1 ?_ ?_|refine MB.row ?_|refine jI ?_ ?_|exact ya8|refine jJ rfl (by first|rfl|assumption|(simp only [znl,znHH];(first|done|fail)))|refine yb2 ?_|rfl)|(simp only [znl,znHH];(first|done|fail))|(simp only [↓reduceIte,zlk,Nat.reduceEqDiff,reduceCtorEq])|(with_reducible first|refine jJ ?_ ?_|refine ya5 ?_|refine ju ?_|refine jv ?_|refine jw ?_|refine jx ?_ (by first|rfl|assumption|(simp only [znl,znHH];(first|done|fail)))|refine jC ?_ (by first|rfl|assumption|(simp only [znl,znHH];(first|done|fail))))))); all_goals (first | rfl | (rw [List.length_map]; omega) | trace_state); done)
    | (((try simp only [encDr,encWrs,List.map_nil]); simp only [zrds]; (repeat' (first | exact rd_nil | exact Rd.refl _ _ (by first|rfl|assumption|(simp only [znl,znHH];(first|done|fail))) | (refine And.intro ?_ ?_) | (refine rd_own (by (simp only [↓reduceIte,zlk,Nat.reduceEqDiff,reduceCtorEq]); exact rfl) ?_ ?_ ?_) | rfl | assumption | (simp only [znl,znHH];(first|done|fail)) | (simp; done) | (simp; omega)))); done)
    | trace_state
end Go.Proofs.YtcilmfhncjfdbaaDoor.V
end
section
/-
  WAL: the document's example.
-/
set_option linter.unusedVariables false
set_option linter.unusedSimpArgs false
namespace Go.Proofs.YtcilmfhncjfdbaaDoor.V
open Go
set_option maxRecDepth 100000
set_option linter.defProp false in
def znHR := And.intro @jO <| And.intro @nls_mapB <| And.intro @nls_frames <| True.intro
set_option maxHeartbeats 4000000
set_option linter.defProp false in
def zbdW := And.intro @vBuildSliceD.eq_1 <| True.intro
theorem awake_spec : Spec Tryd.prog 8 [] (.bool true) := by
  have hV : Spec Tryd.prog 24 [.int .i64 2] (encStrs (volN 2)) := volume_spec 2 (by omega)
  obtain ⟨v, hv⟩ : ∃ v, v = volN 2 := ⟨_, rfl⟩
  rw [← hv] at hV
  have hvl : v.length = 2 := by rw [hv]; rfl
  have hv8 : ∀ s ∈ v, s.length = 128 := by rw [hv]; decide
  have hF := pformat_spec v ⟨by omega, fun s hs => by have := hv8 s hs; omega⟩
  obtain ⟨b, hb⟩ : ∃ b, b = List.replicate 33 zeros ++ v := ⟨_, rfl⟩
  have hf0 : (formatD v).2 = 0 := by
    unfold formatD
    rw [if_neg (by omega), if_neg (by simp only [List.any_eq_true,not128,decide_eq_true_eq,not_exists,not_and,Decidable.not_not]; exact hv8)]
  obtain ⟨e1, q1, l1⟩ := format_ok hf0
  obtain ⟨y, hy⟩ : ∃ y, y = formatD v := ⟨_, rfl⟩
  rw [← hy] at hF hf0 e1 q1 l1
  obtain ⟨y1, y2⟩ := y
  dsimp only at hf0 e1 q1 l1
  subst hf0
  rw [← hb] at e1
  subst e1
  dsimp only at l1
  rw [hvl] at l1
  have hbl : b.length = 35 := l1
  obtain ⟨s, hs⟩ : ∃ s, s = v.getD 0 [] := ⟨_, rfl⟩
  have hs8 : s.length = 128 := by rw [hs]; exact hv8 _ (getD_mem' (α := List UInt8) (by omega : 0 < v.length))
  have g4 : DGood ⟨b, [], 4⟩ := ⟨by show 33 < b.length; omega, by show b.length ≤ 256; omega, q1.good.bl, fun w hw => by cases hw⟩
  have g5 : DGood ⟨b, [], 5⟩ := ⟨by show 33 < b.length; omega, by show b.length ≤ 256; omega, q1.good.bl, fun w hw => by cases hw⟩
  have k4 : DOk 0 ⟨b, [], 4⟩ := ⟨by show b.length ≤ _; omega, fun t ht => by rw [g4.bl t ht]; omega, by show 0 ≤ 0; omega, fun w hw => (by cases hw), by show (-2 ^ 63 : Int) ≤ 4; decide, by show (4 : Int) < 2 ^ 63; decide⟩
  have k5 : DOk 0 ⟨b, [], 5⟩ := ⟨by show b.length ≤ _; omega, fun t ht => by rw [g4.bl t ht]; omega, by show 0 ≤ 0; omega, fun w hw => (by cases hw), by show (-2 ^ 63 : Int) ≤ 5; decide, by show (5 : Int) < 2 ^ 63; decide⟩
  obtain ⟨x4, c4, f4⟩ := awake_four g4 (by omega) hs8
  obtain ⟨x5, c5, f5, n5, h5, o5⟩ := awake_five g5 hbl hs8
  have hl : LFit [⟨1, s⟩] := ⟨by show 1 < _; decide, fun w hw => by (simp only [List.mem_cons,List.not_mem_nil,or_false] at hw; subst hw; exact ⟨by show (-2 ^ 63 : Int) ≤ 1; decide, by show (1 : Int) < 2 ^ 63; decide⟩), fun w hw => by (simp only [List.mem_cons,List.not_mem_nil,or_false] at hw; subst hw; show s.length ≤ _; omega)⟩
  have hC4 : Spec Tryd.prog 16 [.agg [encStrs b, encWrs [], .int .i64 4], .dat (.st [.cell, .cell]) [.agg [.int .i64 1, .str s]]] (drV (commitD ⟨b, [], 4⟩ [⟨1, s⟩])) := pcommit_spec ⟨b, [], 4⟩ k4 [⟨1, s⟩] hl (by omega)
  have hC5 : Spec Tryd.prog 16 [.agg [encStrs b, encWrs [], .int .i64 5], .dat (.st [.cell, .cell]) [.agg [.int .i64 1, .str s]]] (drV (commitD ⟨b, [], 5⟩ [⟨1, s⟩])) := pcommit_spec ⟨b, [], 5⟩ k5 [⟨1, s⟩] hl (by omega)
  have hH := phomeV_spec x5 o5 (by omega)
  rw [c4] at hC4
  rw [c5] at hC5
  obtain ⟨h, hh⟩ : ∃ h, h = volB x5 := ⟨_, rfl⟩
  rw [← hh] at hH n5 h5
  clear hv hy g4 g5 k4 k5 q1 hb hh c4 c5
  simp only [drV] at hF hC4 hC5
  obtain ⟨a4, p4, n4⟩ := x4
  obtain ⟨a5, p5, n5'⟩ := x5
  dsimp only at f4 f5 hC4 hC5 hH
  subst f4
  subst f5
  have hg0 : (v.map VV.str)[0]? = some (.str s) := by rw [hs]; simp [hvl]
  have hg1 : (h.map VV.str)[1]? = some (.str s) := by rw [← h5]; simp [n5]
  refine spec_ok Tryd.func8 rfl rfl (by kernel_rfl) (k := 0) rfl (by decide) ?_
  repeat' (first|(with_reducible first|refine yrl (by constructor) ?_|refine jk (fun M hM=>?_)|(refine hM _ ?_;clear hM M)|refine xb3 (by decide) ?_|refine yqa (by assumption) ?_ ?_|refine yqb (by assumption) ?_ ?_)|((with_reducible refine je ?_)<;>(first|rfl|assumption|(simp only [znl,znHR];(first|done|fail))))|(with_reducible refine jf (by (simp only [↓reduceIte,zlk,Nat.reduceEqDiff,reduceCtorEq]);exact rfl) ?_)|((with_reducible first|refine jg (fun hc=>?_) (fun hc=>?_)|refine jh (fun hc=>?_) (fun hc=>?_))<;>(try simp (disch:=omega) only [zhb] at hc)<;>(try (exfalso;omega))<;>(try subst hc))|(with_reducible refine ji (by omega) ?_)|(simp (config := { maxSteps := 400000 }) only [↓jt,↓reduceIte,zvs,reduceCtorEq,Nat.reduceEqDiff,Nat.reduceAdd,Nat.reduceLeDiff,Nat.reduceMul,Int.reduceBNe,Int.reduceBEq,Int.reduceEq,Int.reduceNe,Int.reduceLT,Int.reduceLE,Int.reduceGT,Int.reduceGE,Int.reduceNeg,Int.reduceToNat,Nat.reduceLT,Nat.reduceSub,tab,encDr,hg0,Tryd.results8,List.toList_toArray])|(simp (disch:=omega) only [ziw]))
  refine ok_drawF 12 [0, 1, 2, 3, 4, 5, 6, 7, 8, 9, 10] 11 10 641 (by kernel_rfl) (by decide +kernel) (by decide) (by decide) (by intro m hm; simp only [upd_ap,rows_cons,rows_nil]; (repeat (first | rfl | rw [if_neg (by omega)]))) (fun M hM => ?_); simp only [picks,List.getElem?_cons_succ,List.getElem?_cons_zero,List.drop_succ_cons,List.drop_zero]
  repeat' (first|(with_reducible refine bldH_r ?_)|(with_reducible first|refine yrl (by constructor) ?_|refine jk (fun M hM=>?_)|(refine hM _ ?_;clear hM M)|refine xb3 (by decide) ?_|refine yqa (by assumption) ?_ ?_|refine yqb (by assumption) ?_ ?_)|((with_reducible refine je ?_)<;>(first|rfl|assumption|(simp only [znl,znHR];(first|done|fail))))|(with_reducible refine jf (by (simp only [↓reduceIte,zlk,Nat.reduceEqDiff,reduceCtorEq]);exact rfl) ?_)|((with_reducible first|refine jg (fun hc=>?_) (fun hc=>?_)|refine jh (fun hc=>?_) (fun hc=>?_))<;>(try simp (disch:=omega) only [zhb] at hc)<;>(try (exfalso;omega))<;>(try subst hc))|(with_reducible refine ji (by omega) ?_)|(simp (config := { maxSteps := 400000 }) only [↓jt,↓reduceIte,zvs,reduceCtorEq,Nat.reduceEqDiff,Nat.reduceAdd,Nat.reduceLeDiff,Nat.reduceMul,Int.reduceBNe,Int.reduceBEq,Int.reduceEq,Int.reduceNe,Int.reduceLT,Int.reduceLE,Int.reduceGT,Int.reduceGE,Int.reduceNeg,Int.reduceToNat,Nat.reduceLT,Nat.reduceSub,zbdW,tab,hg0,Tryd.results8,List.toList_toArray])|(simp (disch:=omega) only [ziw]))
  repeat' (first|(with_reducible first|refine yrl (by constructor) ?_|refine jk (fun M hM=>?_)|(refine hM _ ?_;clear hM M)|refine xb3 (by decide) ?_|refine yqa (by assumption) ?_ ?_|refine yqb (by assumption) ?_ ?_)|((with_reducible refine je ?_)<;>(first|rfl|assumption|(simp only [znl,znHR];(first|done|fail))))|(with_reducible refine jf (by (simp only [↓reduceIte,zlk,Nat.reduceEqDiff,reduceCtorEq]);exact rfl) ?_)|((with_reducible first|refine jg (fun hc=>?_) (fun hc=>?_)|refine jh (fun hc=>?_) (fun hc=>?_))<;>(try simp (disch:=omega) only [zhb] at hc)<;>(try (exfalso;omega))<;>(try subst hc))|(with_reducible refine ji (by omega) ?_)|(simp (config := { maxSteps := 400000 }) only [↓jt,↓reduceIte,zvs,reduceCtorEq,Nat.reduceEqDiff,Nat.reduceAdd,Nat.reduceLeDiff,Nat.reduceMul,Int.reduceBNe,Int.reduceBEq,Int.reduceEq,Int.reduceNe,Int.reduceLT,Int.reduceLE,Int.reduceGT,Int.reduceGE,Int.reduceNeg,Int.reduceToNat,Nat.reduceLT,Nat.reduceSub,tab,storeAt_go,isP_ptr,setParts,rep_one,hg0,Tryd.results8,List.toList_toArray])|(simp (disch:=omega) only [ziw]))
  refine ok_drawF 12 [0, 1, 2, 3, 4, 5, 6, 7, 8, 9, 10] 11 10 1409 (by kernel_rfl) (by decide +kernel) (by decide) (by decide) (by intro m hm; simp only [upd_ap,rows_cons,rows_nil]; (repeat (first | rfl | rw [if_neg (by omega)]))) (fun M hM => ?_); simp only [picks,List.getElem?_cons_succ,List.getElem?_cons_zero,List.drop_succ_cons,List.drop_zero]
  repeat' (first|(with_reducible refine bldH_r ?_)|(with_reducible first|refine yrl (by constructor) ?_|refine jk (fun M hM=>?_)|(refine hM _ ?_;clear hM M)|refine xb3 (by decide) ?_|refine yqa (by assumption) ?_ ?_|refine yqb (by assumption) ?_ ?_)|((with_reducible refine je ?_)<;>(first|rfl|assumption|(simp only [znl,znHR];(first|done|fail))))|(with_reducible refine jf (by (simp only [↓reduceIte,zlk,Nat.reduceEqDiff,reduceCtorEq]);exact rfl) ?_)|((with_reducible first|refine jg (fun hc=>?_) (fun hc=>?_)|refine jh (fun hc=>?_) (fun hc=>?_))<;>(try simp (disch:=omega) only [zhb] at hc)<;>(try (exfalso;omega))<;>(try subst hc))|(with_reducible refine ji (by omega) ?_)|(simp (config := { maxSteps := 400000 }) only [↓jt,↓reduceIte,zvs,reduceCtorEq,Nat.reduceEqDiff,Nat.reduceAdd,Nat.reduceLeDiff,Nat.reduceMul,Int.reduceBNe,Int.reduceBEq,Int.reduceEq,Int.reduceNe,Int.reduceLT,Int.reduceLE,Int.reduceGT,Int.reduceGE,Int.reduceNeg,Int.reduceToNat,Nat.reduceLT,Nat.reduceSub,zbdW,tab,hg0,Tryd.results8,List.toList_toArray])|(simp (disch:=omega) only [ziw]))
  repeat' (first|(with_reducible first|refine yrl (by constructor) ?_|refine jk (fun M hM=>?_)|(refine hM _ ?_;clear hM M)|refine xb3 (by decide) ?_|refine yqa (by assumption) ?_ ?_|refine yqb (by assumption) ?_ ?_)|((with_reducible refine je ?_)<;>(first|rfl|assumption|(simp only [znl,znHR];(first|done|fail))))|(with_reducible refine jf (by (simp only [↓reduceIte,zlk,Nat.reduceEqDiff,reduceCtorEq]);exact rfl) ?_)|((with_reducible first|refine jg (fun hc=>?_) (fun hc=>?_)|refine jh (fun hc=>?_) (fun hc=>?_))<;>(try simp (disch:=omega) only [zhb] at hc)<;>(try (exfalso;omega))<;>(try subst hc))|(with_reducible refine ji (by omega) ?_)|(simp (config := { maxSteps := 400000 }) only [↓jt,↓reduceIte,zvs,reduceCtorEq,Nat.reduceEqDiff,Nat.reduceAdd,Nat.reduceLeDiff,Nat.reduceMul,Int.reduceBNe,Int.reduceBEq,Int.reduceEq,Int.reduceNe,Int.reduceLT,Int.reduceLE,Int.reduceGT,Int.reduceGE,Int.reduceNeg,Int.reduceToNat,Nat.reduceLT,Nat.reduceSub,tab,storeAt_go,isP_ptr,setParts,rep_one,hg0,Tryd.results8,List.toList_toArray])|(simp (disch:=omega) only [ziw]))
  refine ok_drawC 34 (by kernel_rfl) (by decide +kernel) (by intro m hm; simp only [upd_ap,rows_cons,rows_nil]; (repeat (first | rfl | rw [if_neg (by omega)]))) (fun M hM => ?_); simp only [List.take_succ_cons,List.take_zero,List.drop_succ_cons,List.drop_zero]
  repeat' (first|(with_reducible first|refine yrl (by constructor) ?_|refine jk (fun M hM=>?_)|(refine hM _ ?_;clear hM M)|refine xb3 (by decide) ?_|refine yqa (by assumption) ?_ ?_|refine yqb (by assumption) ?_ ?_)|((with_reducible refine je ?_)<;>(first|rfl|assumption|(simp only [znl,znHR];(first|done|fail))))|(with_reducible refine jf (by (simp only [↓reduceIte,zlk,Nat.reduceEqDiff,reduceCtorEq]);exact rfl) ?_)|((with_reducible first|refine jg (fun hc=>?_) (fun hc=>?_)|refine jh (fun hc=>?_) (fun hc=>?_))<;>(try simp (disch:=omega) only [zhb] at hc)<;>(try (exfalso;omega))<;>(try subst hc))|(with_reducible refine ji (by omega) ?_)|(simp (config := { maxSteps := 400000 }) only [↓jt,↓reduceIte,zvs,reduceCtorEq,Nat.reduceEqDiff,Nat.reduceAdd,Nat.reduceLeDiff,Nat.reduceMul,Int.reduceBNe,Int.reduceBEq,Int.reduceEq,Int.reduceNe,Int.reduceLT,Int.reduceLE,Int.reduceGT,Int.reduceGE,Int.reduceNeg,Int.reduceToNat,Nat.reduceLT,Nat.reduceSub,tab,hg0,hg1,n5,hvl,Tryd.results8,List.toList_toArray])|(simp (disch:=omega) only [ziw]))
  all_goals first
    | (simp only [zrds]; done)
    | trace_state
end Go.Proofs.YtcilmfhncjfdbaaDoor.V
end
section
/-
  WAL: a drive, writes, a volume as arguments.
-/
set_option linter.unusedVariables false
set_option linter.unusedSimpArgs false
namespace Go.Proofs.YtcilmfhncjfdbaaDoor.V
open Go
set_option maxRecDepth 100000
set_option maxHeartbeats 1000000
abbrev wrT : Ty := .fcons (.int .i64) (.fcons .str .fnil)
def mkWr (x : Int × List UInt8 × Unit) : Wr := ⟨x.1, x.2.1⟩
theorem toV_strsW (a : List (List UInt8)) : toV (.sl .str) a = encStrs a := by
  simp only [toV,tsh]
  congr 1
theorem toV_wrs (b : List (Int × List UInt8 × Unit)) : toV (.sl wrT) b = encWrs (b.map mkWr) := by
  have : toV (.sl wrT) b = .dat (.st [.cell, .cell]) (b.map (toV wrT)) := rfl
  rw [this]
  unfold encWrs
  rw [List.map_map]
  congr 1
theorem reach47 : reachBytes ≤ 2 ^ 47 := by decide
structure VArg (v : Frames) : Prop where
  len : v.length ≤ 2 ^ 47
  s : ∀ s ∈ v, s.length ≤ 2 ^ 47
structure LArg (l : List Wr) : Prop where
  len : l.length ≤ 2 ^ 47
  b : ∀ w ∈ l, -2 ^ 63 ≤ w.b ∧ w.b < 2 ^ 63
  d : ∀ w ∈ l, w.d.length ≤ 2 ^ 47
theorem v_arg (x : List (List UInt8)) (l : Ty.lite (.sl .str) x) : VArg x := ⟨Nat.le_trans l.1 reach47, fun s hs => Nat.le_trans (l.2 s hs) reach47⟩
theorem l_arg (x : List (Int × List UInt8 × Unit)) (g : good (.sl wrT) x) (l : Ty.lite (.sl wrT) x) : LArg (x.map mkWr) := by
  refine ⟨by rw [List.length_map]; exact Nat.le_trans l.1 reach47, fun w hw => ?_, fun w hw => ?_⟩
  · obtain ⟨y, hy, rfl⟩ := List.mem_map.1 hw
    have h : -9223372036854775808 ≤ y.1 ∧ y.1 ≤ 9223372036854775807 := bounds_i64 (g y hy).1
    show -2 ^ 63 ≤ y.1 ∧ y.1 < 2 ^ 63
    omega
  · obtain ⟨y, hy, rfl⟩ := List.mem_map.1 hw
    exact Nat.le_trans (show y.2.1.length ≤ reachBytes from (l.2 y hy).2.1) reach47
structure DArg (d : Dr) : Prop where
  left : -2 ^ 63 ≤ d.left ∧ d.left < 2 ^ 63
  bl : VArg d.bl
  pe : LArg d.pe
theorem DArg.dok {d : Dr} (h : DArg d) (hb : bigW d = false) : DOk 60 d := by
  simp only [bigW,Bool.or_eq_false_iff,decide_eq_false_iff_not,List.any_eq_false,longB,longW,decide_eq_true_eq] at hb
  obtain ⟨⟨⟨h1, h2⟩, h3⟩, h4⟩ := hb
  exact ⟨by omega, fun s hs => by have := h3 s hs; omega, by omega, fun w hw => by have := h4 w hw; omega, h.left.1, h.left.2⟩
theorem LArg.fit {l : List Wr} (h : LArg l) (hb : bigL l = false) : LFit l := by
  simp only [bigL,Bool.or_eq_false_iff,decide_eq_false_iff_not] at hb
  exact ⟨by omega, h.b, h.d⟩
end Go.Proofs.YtcilmfhncjfdbaaDoor.V
end
section
/-
  WAL: how great drives are behind a commit, behind Format.
-/
set_option linter.unusedVariables false
set_option linter.unusedSimpArgs false
namespace Go.Proofs.YtcilmfhncjfdbaaDoor.V
open Go
set_option maxRecDepth 100000
end Go.Proofs.YtcilmfhncjfdbaaDoor.V
end
section
/-
  WAL: the law WalSwaps.
-/
set_option linter.unusedVariables false
set_option linter.unusedSimpArgs false
namespace Go.Proofs.YtcilmfhncjfdbaaDoor.V
open Go
set_option maxRecDepth 100000
set_option maxHeartbeats 4000000
theorem Quiet.dok {d : Dr} (h : Quiet d) : DOk 0 d :=
  ⟨by have := h.good.hi; omega, fun s hs => by rw [h.good.bl s hs]; omega, by rw [h.pe]; exact Nat.le_refl _, fun w hw => (by rw [h.pe] at hw; cases hw), by rw [h.left]; decide, by rw [h.left]; decide⟩
structure FitsR (v : Frames) (l : List Wr) : Prop where
  lo : 1 ≤ v.length
  hi : v.length ≤ 40
  big : bigL l = false
  may : mayD v.length l = 0
  ok : (formatD v).2 = 0
theorem fits_of {v : Frames} {l : List Wr} (h : fitsD v l = true) : FitsR v l := by
  simp only [fitsD,Bool.and_eq_true,decide_eq_true_eq,Bool.not_eq_true'] at h
  obtain ⟨h1, h2, h3, h4, h5⟩ := h
  exact ⟨h1, h2, h3, h4, h5⟩
end Go.Proofs.YtcilmfhncjfdbaaDoor.V
end
section
/-
  WAL: the law WalHeads.
-/
set_option linter.unusedVariables false
set_option linter.unusedSimpArgs false
namespace Go.Proofs.YtcilmfhncjfdbaaDoor.V
open Go
set_option maxRecDepth 100000
-- nlx: jO, nls_mapB, nls_frames, nls_allK
set_option maxHeartbeats 4000000
def allK (s : List UInt8) (l : List Wr) (k : Nat) : List VV := (s :: (l.take k).map Wr.d).map VV.str
theorem allK_len (s : List UInt8) (l : List Wr) {k : Nat} (h : k ≤ l.length) : (allK s l k).length = k + 1 := by simp only [allK,List.length_map,List.length_cons,List.length_take]; omega
theorem allK_snoc (s : List UInt8) (l : List Wr) {k : Nat} (h : k < l.length) : allK s l k ++ [VV.str (l.getD k default).d] = allK s l (k + 1) := by
  unfold allK
  rw [List.take_succ_eq_append_getElem h, List.map_append, List.map_cons, List.map_cons, List.map_append, List.getD_eq_getElem?_getD, List.getElem?_eq_getElem h]
  rfl
theorem nls_allK (s : List UInt8) (l : List Wr) (k : Nat) : nls (allK s l k) = true := nls_map _ (fun _ => rfl) _
theorem head_70 {l : List Wr} (h : l.length ≤ 32) : (headF l).take 70 = firstF l := by
  unfold headF
  rw [List.append_assoc, List.take_append_of_le_length (by rw [firstF_len h]; exact Nat.le_refl _), List.take_of_length_le (by rw [firstF_len h]; exact Nat.le_refl _)]
theorem head_102 {l : List Wr} (h : l.length ≤ 32) : ((headF l).drop 70).take 32 = sumF (firstF l ++ (l.map Wr.d).flatten) := by
  unfold headF
  rw [List.append_assoc, List.drop_left' (firstF_len h), List.take_append_of_le_length (by rw [sumF_len]; exact Nat.le_refl _), List.take_of_length_le (by rw [sumF_len]; exact Nat.le_refl _)]
theorem heads_law (x0 : List (List UInt8)) (x1 : List (Int × List UInt8 × Unit)) (g0 : good (.sl .str) x0) (g1 : good (.sl wrT) x1) (l0 : Ty.lite (.sl .str) x0) (l1 : Ty.lite (.sl wrT) x1) :
    Spec Tryd.prog 5 [toV (.sl .str) x0, toV (.sl wrT) x1] (.bool true) := by
  have hA := v_arg x0 l0
  have hL := l_arg x1 g1 l1
  rw [toV_strsW, toV_wrs x1]
  generalize x0 = v at hA
  generalize x1.map mkWr = l at hL
  clear g0 l0 x0 g1 l1 x1
  have hW := awake_spec
  have hF1 := fits_spec v hA.len hA.s l hL.len hL.b hL.d
  refine spec_ok Tryd.func5 rfl rfl (by kernel_rfl) (k := 2) rfl (by decide) ?_
  cases h1 : fitsD v l with
  | false =>
    rw [h1] at hF1
    repeat' (first|(with_reducible first|refine yrl (by constructor) ?_|refine jk (fun M hM=>?_)|(refine hM _ ?_;clear hM M)|refine xb3 (by decide) ?_|refine yqa (by assumption) ?_ ?_|refine yqb (by assumption) ?_ ?_)|((with_reducible refine je ?_)<;>(first|rfl|assumption|(simp only [znl,jO,nls_mapB,nls_frames,nls_allK];(first|done|fail))))|(with_reducible refine jf (by (simp only [↓reduceIte,zlk,Nat.reduceEqDiff,reduceCtorEq]);exact rfl) ?_)|((with_reducible first|refine jg (fun hc=>?_) (fun hc=>?_)|refine jh (fun hc=>?_) (fun hc=>?_))<;>(try simp (disch:=omega) only [zhb] at hc)<;>(try (exfalso;omega))<;>(try subst hc))|(with_reducible refine ji (by omega) ?_)|(simp (config := { maxSteps := 400000 }) only [↓jt,↓reduceIte,zvs,reduceCtorEq,Nat.reduceEqDiff,Nat.reduceAdd,Nat.reduceLeDiff,Nat.reduceMul,Int.reduceBNe,Int.reduceBEq,Int.reduceEq,Int.reduceNe,Int.reduceLT,Int.reduceLE,Int.reduceGT,Int.reduceGE,Int.reduceNeg,Int.reduceToNat,Nat.reduceLT,Nat.reduceSub,tab,Tryd.results5,List.toList_toArray])|(simp (disch:=omega) only [ziw]))
    all_goals first
      | (simp only [zrds]; done)
      | trace_state
  | true =>
  rw [h1] at hF1
  obtain ⟨f1, f2, f3, f4, f5⟩ := fits_of h1
  have hll : l.length ≤ 40 := by
    simp only [bigL,Bool.or_eq_false_iff,decide_eq_false_iff_not] at f3; omega
  clear h1
  by_cases h0 : l.length = 0
  · repeat' (first|(with_reducible first|refine yrl (by constructor) ?_|refine jk (fun M hM=>?_)|(refine hM _ ?_;clear hM M)|refine xb3 (by decide) ?_|refine yqa (by assumption) ?_ ?_|refine yqb (by assumption) ?_ ?_)|((with_reducible refine je ?_)<;>(first|rfl|assumption|(simp only [znl,jO,nls_mapB,nls_frames,nls_allK];(first|done|fail))))|(with_reducible refine jf (by (simp only [↓reduceIte,zlk,Nat.reduceEqDiff,reduceCtorEq]);exact rfl) ?_)|((with_reducible first|refine jg (fun hc=>?_) (fun hc=>?_)|refine jh (fun hc=>?_) (fun hc=>?_))<;>(try simp (disch:=omega) only [zhb] at hc)<;>(try (exfalso;omega))<;>(try subst hc))|(with_reducible refine ji (by omega) ?_)|(simp (config := { maxSteps := 400000 }) only [↓jt,↓reduceIte,zvs,reduceCtorEq,Nat.reduceEqDiff,Nat.reduceAdd,Nat.reduceLeDiff,Nat.reduceMul,Int.reduceBNe,Int.reduceBEq,Int.reduceEq,Int.reduceNe,Int.reduceLT,Int.reduceLE,Int.reduceGT,Int.reduceGE,Int.reduceNeg,Int.reduceToNat,Nat.reduceLT,Nat.reduceSub,tab,Tryd.results5,List.toList_toArray])|(simp (disch:=omega) only [ziw]))
    all_goals first
      | (exfalso; omega)
      | (simp only [zrds]; done)
      | trace_state
  have hFo := pformat_spec v ⟨by omega, hA.s⟩
  obtain ⟨q0, q1, q2⟩ := format_ok f5
  obtain ⟨x, hxe⟩ : ∃ x, x = formatD v := ⟨_, rfl⟩
  rw [← hxe] at hFo q0 q1 q2 f5
  obtain ⟨d, e⟩ := x
  dsimp only at f5 q0 q1 q2
  subst f5
  have hv : ((d.bl.length - 33 : Nat) : Int) = (v.length : Int) := by omega
  obtain ⟨hw, hl32⟩ := may_wv f4
  have hHd : HdR l := ⟨hl32, fun w hw' => by have := hw w hw'; omega⟩
  have hH := rhead_spec l hHd
  have h70 := head_70 hl32
  have h102 := head_102 hl32
  have hfl2 := firstF_len hl32
  have hhl := headF_len hl32
  obtain ⟨a, ca, cm⟩ := commit_quiet q1 (l := l) (by rw [hv]; exact f4)
  have s1 := pcommit_spec d q1.dok l (hL.fit f3) (by omega)
  rw [ca] at s1
  have al := cm.len
  have ap := cm.quiet.pe
  have ah := cm.head (fun e => h0 (by rw [e]; rfl))
  have ad := cm.dat
  have hfd : (firstF l :: l.map Wr.d).flatten.length ≤ 70 + 32 * 128 := by
    have k2 : ∀ l : List Wr, (∀ w ∈ l, w.d.length = 128) → (l.map Wr.d).flatten.length = l.length * 128 := by
      intro l hl
      induction l with
      | nil => rfl
      | cons x l ih =>
        rw [List.map_cons, List.flatten_cons, List.length_append, ih fun w hw => hl w (by simp [hw]), hl x (by simp), List.length_cons]; omega
    rw [List.flatten_cons, List.length_append, k2 l fun w hw' => (hw w hw').2.2, hfl2]; omega
  have hS := rsum_spec (firstF l :: l.map Wr.d) (by simp only [List.length_cons,List.length_map]; omega) (by omega)
  rw [List.flatten_cons] at hS
  obtain ⟨D, hD⟩ : ∃ D, D = sumF (firstF l ++ (l.map Wr.d).flatten) := ⟨_, rfl⟩
  have hDl : D.length = 32 := by rw [hD]; exact sumF_len _
  rw [← hD] at hS h102
  obtain ⟨h, hhe⟩ : ∃ h, h = headF l := ⟨_, rfl⟩
  obtain ⟨s, hse⟩ : ∃ s, s = firstF l := ⟨_, rfl⟩
  rw [← hhe] at hH h70 h102 hhl ah
  rw [← hse] at hS h70 hfl2
  obtain ⟨bl, pe, n⟩ := a
  dsimp only at al ap
  subst ap
  have ah : bl.getD 0 [] = h := ah
  have ad : ∀ i, i < l.length → bl.getD (i + 1) [] = (l.getD i default).d := ad
  clear cm ca hxe q0 q1 hhe hse hD hfd hHd
  simp only [drV] at hFo s1
  repeat' (first|(with_reducible first|refine yrl (by constructor) ?_|refine jk (fun M hM=>?_)|(refine hM _ ?_;clear hM M)|refine xb3 (by decide) ?_|refine yqa (by assumption) ?_ ?_|refine yqb (by assumption) ?_ ?_)|((with_reducible refine je ?_)<;>(first|rfl|assumption|(simp only [znl,jO,nls_mapB,nls_frames,nls_allK];(first|done|fail))))|(with_reducible refine jf (by (simp only [↓reduceIte,zlk,Nat.reduceEqDiff,reduceCtorEq]);exact rfl) ?_)|((with_reducible first|refine jg (fun hc=>?_) (fun hc=>?_)|refine jh (fun hc=>?_) (fun hc=>?_))<;>(try simp (disch:=omega) only [zhb] at hc)<;>(try (exfalso;omega))<;>(try subst hc))|(with_reducible refine ji (by omega) ?_)|(simp (config := { maxSteps := 400000 }) only [↓jt,↓reduceIte,zvs,reduceCtorEq,Nat.reduceEqDiff,Nat.reduceAdd,Nat.reduceLeDiff,Nat.reduceMul,Int.reduceBNe,Int.reduceBEq,Int.reduceEq,Int.reduceNe,Int.reduceLT,Int.reduceLE,Int.reduceGT,Int.reduceGE,Int.reduceNeg,Int.reduceToNat,Nat.reduceLT,Nat.reduceSub,tab,encDr,h70,ah,al,hhl,Tryd.results5,List.toList_toArray])|(simp (disch:=omega) only [ziw]))
  refine ok_loop (fun k : Nat => ⟨slots [(1, encWrs l), (4, .bool false), (7, .ptr 0 []), (9, .str h), (10, .sl (some (1, [], 0)) (k + 1)), (11, .int .i64 k)], rows [(0, .row (.st [.cell, .cell, .cell]) (.agg [encStrs bl, encWrs [], .int .i64 n])), (1, .row (.arr (k + 1) .cell) (.agg (allK s l k)))], 2⟩) (fun k => k ≤ l.length) (fun k => l.length - k) 0 ?_ (Nat.zero_le _) (fun k hk => ?_)
  · (refine yrn [(0, 1), (1, 2)] false ?_ ?_<;>(repeat' (first|(with_reducible first|exact ya1|exact ya2|exact ya3|refine jx rfl (by first|rfl|assumption|(simp only [znl,jO,nls_mapB,nls_frames,nls_allK];(first|done|fail)))|exact ya5|exact ya7|exact jy|exact jz|refine jA ?_|refine ya9 ?_ ?_ ?_|refine jC rfl (by first|rfl|assumption|(simp only [znl,jO,nls_mapB,nls_frames,nls_allK];(first|done|fail)))|refine MR.agg (MRL.cons ?_ ?_)|refine MR.fn ?_|refine MRL.cons ?_ ?_|exact MRL.nil|refine jE ?_ ?_|exact jF|exact jG|refine yb1 ?_ ?_|refine MB.row ?_|refine jI ?_ ?_|exact ya8|refine jJ rfl (by first|rfl|assumption|(simp only [znl,jO,nls_mapB,nls_frames,nls_allK];(first|done|fail)))|refine yb2 ?_|rfl)|(simp only [znl,jO,nls_mapB,nls_frames,nls_allK];(first|done|fail))|(simp only [↓reduceIte,zlk,Nat.reduceEqDiff,reduceCtorEq])|(with_reducible first|refine jJ ?_ ?_|refine ya5 ?_|refine ju ?_|refine jv ?_|refine jw ?_|refine jx ?_ (by first|rfl|assumption|(simp only [znl,jO,nls_mapB,nls_frames,nls_allK];(first|done|fail)))|refine jC ?_ (by first|rfl|assumption|(simp only [znl,jO,nls_mapB,nls_frames,nls_allK];(first|done|fail)))))))
    all_goals (first | rfl | trace_state)
  have hdl := allK_len s l hk
  have hdn := nls_allK s l k
  by_cases hlt : k < l.length
  · have hds := allK_snoc s l hlt
    have hdk : List.getD bl ((k : Int) + 1).toNat [] = (l.getD k default).d := by rw [show ((k : Int) + 1).toNat = k + 1 by omega]; exact ad k hlt
    repeat' (first|(with_reducible first|refine yrl (by constructor) ?_|refine jk (fun M hM=>?_)|(refine hM _ ?_;clear hM M)|refine xb3 (by decide) ?_|refine yqa (by assumption) ?_ ?_|refine yqb (by assumption) ?_ ?_)|((with_reducible refine je ?_)<;>(first|rfl|assumption|(simp only [znl,jO,nls_mapB,nls_frames,nls_allK];(first|done|fail))))|(with_reducible refine jf (by (simp only [↓reduceIte,zlk,Nat.reduceEqDiff,reduceCtorEq]);exact rfl) ?_)|((with_reducible first|refine jg (fun hc=>?_) (fun hc=>?_)|refine jh (fun hc=>?_) (fun hc=>?_))<;>(try simp (disch:=omega) only [zhb] at hc)<;>(try (exfalso;omega))<;>(try subst hc))|(with_reducible refine ji (by omega) ?_)|(simp (config := { maxSteps := 400000 }) only [↓jt,↓reduceIte,zvs,reduceCtorEq,Nat.reduceEqDiff,Nat.reduceAdd,Nat.reduceLeDiff,Nat.reduceMul,Int.reduceBNe,Int.reduceBEq,Int.reduceEq,Int.reduceNe,Int.reduceLT,Int.reduceLE,Int.reduceGT,Int.reduceGE,Int.reduceNeg,Int.reduceToNat,Nat.reduceLT,Nat.reduceSub,tab,Tryd.results5,List.toList_toArray])|(simp (disch:=omega) only [ziw]))
    all_goals (try (exfalso; omega))
    refine ok_drawC 11 (by kernel_rfl) (by decide +kernel) (by intro m hm; simp only [upd_ap,rows_cons,rows_nil]; (repeat (first | rfl | rw [if_neg (by omega)]))) (fun M hM => ?_); simp only [List.take_succ_cons,List.take_zero,List.drop_succ_cons,List.drop_zero]
    repeat' (first|(with_reducible first|refine yrl (by constructor) ?_|refine jk (fun M hM=>?_)|(refine hM _ ?_;clear hM M)|refine xb3 (by decide) ?_|refine yqa (by assumption) ?_ ?_|refine yqb (by assumption) ?_ ?_)|((with_reducible refine je ?_)<;>(first|rfl|assumption|(simp only [znl,jO,nls_mapB,nls_frames,nls_allK];(first|done|fail))))|(with_reducible refine jf (by (simp only [↓reduceIte,zlk,Nat.reduceEqDiff,reduceCtorEq]);exact rfl) ?_)|((with_reducible first|refine jg (fun hc=>?_) (fun hc=>?_)|refine jh (fun hc=>?_) (fun hc=>?_))<;>(try simp (disch:=omega) only [zhb] at hc)<;>(try (exfalso;omega))<;>(try subst hc))|(with_reducible refine ji (by omega) ?_)|(simp (config := { maxSteps := 400000 }) only [↓jt,↓reduceIte,zvs,reduceCtorEq,Nat.reduceEqDiff,Nat.reduceAdd,Nat.reduceLeDiff,Nat.reduceMul,Int.reduceBNe,Int.reduceBEq,Int.reduceEq,Int.reduceNe,Int.reduceLT,Int.reduceLE,Int.reduceGT,Int.reduceGE,Int.reduceNeg,Int.reduceToNat,Nat.reduceLT,Nat.reduceSub,tab,encWr,hdk,default_str,hds,hdl,Tryd.results5,List.toList_toArray])|(simp (disch:=omega) only [ziw]))
    all_goals first
      | (exfalso; omega)
      | (refine xl1 (k + 1) ?_ (by show k + 1 ≤ l.length; omega) (by show l.length - (k + 1) < l.length - k; omega); (refine yrn [(0, 0), (1, 707)] false ?_ ?_<;>(repeat' (first|(with_reducible first|exact ya1|exact ya2|exact ya3|refine jx rfl (by first|rfl|assumption|(simp only [znl,jO,nls_mapB,nls_frames,nls_allK];(first|done|fail)))|exact ya5|exact ya7|exact jy|exact jz|refine jA ?_|refine ya9 ?_ ?_ ?_|refine jC rfl (by first|rfl|assumption|(simp only [znl,jO,nls_mapB,nls_frames,nls_allK];(first|done|fail)))|refine MR.agg (MRL.cons ?_ ?_)|refine MR.fn ?_|refine MRL.cons ?_ ?_|exact MRL.nil|refine jE ?_ ?_|exact jF|exact jG|refine yb1 ?_ ?_|refine MB.row ?_|refine jI ?_ ?_|exact ya8|refine jJ rfl (by first|rfl|assumption|(simp only [znl,jO,nls_mapB,nls_frames,nls_allK];(first|done|fail)))|refine yb2 ?_|rfl)|(simp only [znl,jO,nls_mapB,nls_frames,nls_allK];(first|done|fail))|(simp only [↓reduceIte,zlk,Nat.reduceEqDiff,reduceCtorEq])|(with_reducible first|refine jJ ?_ ?_|refine ya5 ?_|refine ju ?_|refine jv ?_|refine jw ?_|refine jx ?_ (by first|rfl|assumption|(simp only [znl,jO,nls_mapB,nls_frames,nls_allK];(first|done|fail)))|refine jC ?_ (by first|rfl|assumption|(simp only [znl,jO,nls_mapB,nls_frames,nls_allK];(first|done|fail))))))); all_goals (first | rfl | trace_state); done)
      | trace_state
  obtain rfl : k = l.length := by omega
  repeat' (first|(with_reducible first|refine yrl (by constructor) ?_|refine jk (fun M hM=>?_)|(refine hM _ ?_;clear hM M)|refine xb3 (by decide) ?_|refine yqa (by assumption) ?_ ?_|refine yqb (by assumption) ?_ ?_)|((with_reducible refine je ?_)<;>(first|rfl|assumption|(simp only [znl,jO,nls_mapB,nls_frames,nls_allK];(first|done|fail))))|(with_reducible refine jf (by (simp only [↓reduceIte,zlk,Nat.reduceEqDiff,reduceCtorEq]);exact rfl) ?_)|((with_reducible first|refine jg (fun hc=>?_) (fun hc=>?_)|refine jh (fun hc=>?_) (fun hc=>?_))<;>(try simp (disch:=omega) only [zhb] at hc)<;>(try (exfalso;omega))<;>(try subst hc))|(with_reducible refine ji (by omega) ?_)|(simp (config := { maxSteps := 400000 }) only [↓jt,↓reduceIte,zvs,reduceCtorEq,Nat.reduceEqDiff,Nat.reduceAdd,Nat.reduceLeDiff,Nat.reduceMul,Int.reduceBNe,Int.reduceBEq,Int.reduceEq,Int.reduceNe,Int.reduceLT,Int.reduceLE,Int.reduceGT,Int.reduceGE,Int.reduceNeg,Int.reduceToNat,Nat.reduceLT,Nat.reduceSub,tab,hdl,Tryd.results5,List.toList_toArray])|(simp (disch:=omega) only [ziw]))
  all_goals (try (exfalso; omega))
  have hLe : (s :: l.map Wr.d).map VV.str = allK s l l.length := by rw [allK, List.take_length]
  have hS : Spec Tryd.prog 20 [.dat .cell (allK s l l.length)] (.agg (D.map encB)) := by rw [← hLe]; exact hS
  have hHD := has_w hDl
  refine ja (call_plain hS (rdl_cons (rd_own (by simp only [↓reduceIte,zlk,Nat.reduceEqDiff,reduceCtorEq]; exact rfl) hdl.symm rfl hdn) rdl_nil) rfl (by simp only [pl]; exact pls_mapB _) ?_)
  repeat' (first|(with_reducible first|refine yrl (by constructor) ?_|refine jk (fun M hM=>?_)|(refine hM _ ?_;clear hM M)|refine xb3 (by decide) ?_|refine yqa (by assumption) ?_ ?_|refine yqb (by assumption) ?_ ?_)|((with_reducible refine je ?_)<;>(first|rfl|assumption|(simp only [znl,jO,nls_mapB,nls_frames,nls_allK];(first|done|fail))))|(with_reducible refine jf (by (simp only [↓reduceIte,zlk,Nat.reduceEqDiff,reduceCtorEq]);exact rfl) ?_)|((with_reducible first|refine jg (fun hc=>?_) (fun hc=>?_)|refine jh (fun hc=>?_) (fun hc=>?_))<;>(try simp (disch:=omega) only [zhb] at hc)<;>(try (exfalso;omega))<;>(try subst hc))|(with_reducible refine ji (by omega) ?_)|(simp (config := { maxSteps := 400000 }) only [↓jt,↓reduceIte,zvs,reduceCtorEq,Nat.reduceEqDiff,Nat.reduceAdd,Nat.reduceLeDiff,Nat.reduceMul,Int.reduceBNe,Int.reduceBEq,Int.reduceEq,Int.reduceNe,Int.reduceLT,Int.reduceLE,Int.reduceGT,Int.reduceGE,Int.reduceNeg,Int.reduceToNat,Nat.reduceLT,Nat.reduceSub,tab,hHD,hDl,Tryd.results5,List.toList_toArray])|(simp (disch:=omega) only [ziw]))
  have hbt : bytesOf (List.take 32 (D.map encB)) = some D := by rw [List.take_of_length_le (by rw [List.length_map, hDl]; exact Nat.le_refl _)]; exact bytesOf_enc D
  refine ok_drawC 14 (by kernel_rfl) (by decide +kernel) (by intro m hm; simp only [upd_ap,rows_cons,rows_nil]; (repeat (first | rfl | rw [if_neg (by omega)]))) (fun M hM => ?_); simp only [List.take_succ_cons,List.take_zero,List.drop_succ_cons,List.drop_zero]
  repeat' (first|(with_reducible first|refine yrl (by constructor) ?_|refine jk (fun M hM=>?_)|(refine hM _ ?_;clear hM M)|refine xb3 (by decide) ?_|refine yqa (by assumption) ?_ ?_|refine yqb (by assumption) ?_ ?_)|((with_reducible refine je ?_)<;>(first|rfl|assumption|(simp only [znl,jO,nls_mapB,nls_frames,nls_allK];(first|done|fail))))|(with_reducible refine jf (by (simp only [↓reduceIte,zlk,Nat.reduceEqDiff,reduceCtorEq]);exact rfl) ?_)|((with_reducible first|refine jg (fun hc=>?_) (fun hc=>?_)|refine jh (fun hc=>?_) (fun hc=>?_))<;>(try simp (disch:=omega) only [zhb] at hc)<;>(try (exfalso;omega))<;>(try subst hc))|(with_reducible refine ji (by omega) ?_)|(simp (config := { maxSteps := 400000 }) only [↓jt,↓reduceIte,zvs,reduceCtorEq,Nat.reduceEqDiff,Nat.reduceAdd,Nat.reduceLeDiff,Nat.reduceMul,Int.reduceBNe,Int.reduceBEq,Int.reduceEq,Int.reduceNe,Int.reduceLT,Int.reduceLE,Int.reduceGT,Int.reduceGE,Int.reduceNeg,Int.reduceToNat,Nat.reduceLT,Nat.reduceSub,tab,hbt,h102,hHD,hDl,hhl,Tryd.results5,List.toList_toArray])|(simp (disch:=omega) only [ziw]))
  all_goals first
    | (exfalso; omega)
    | contradiction
    | (simp only [zrds]; done)
    | trace_state
end Go.Proofs.YtcilmfhncjfdbaaDoor.V
end
section
/-
  THE TABLES of hash, as start-up code laid them.
-/
set_option linter.unusedVariables false
namespace Go.Proofs.YtcilmfhncjfdbaaDoor.V
open Go
set_option maxRecDepth 100000
section
variable {H : Type} {enc : TypeId × Value → H} {P : Program} {w : World} {base : Nat} {spare : Nat → Bool} {held : Bool}
theorem take1 {cs : List Value} {i : Nat} {v : Value} (h : (cs.drop (i * 1)).take 1 = [v]) : cs[i]? = some v := by
  rw [Nat.mul_one] at h
  have h2 : ((cs.drop i).take 1)[0]? = some v := by rw [h]; rfl
  rw [List.getElem?_take] at h2
  simpa [List.getElem?_drop] using h2
theorem trod_nums {k : IntKind} {n fuel : Nat} {t e : TypeId} {cs : List Value} {x : DataW H × List MemPlace} (ht : P.underlying t = some (.array n e)) (he : P.underlying e = some (.int k)) (hc : P.cellsOf e = 1) {L : List Int} (hL : L.length = n)
    (h : DataW.trod enc P w base spare held fuel t cs = some x) (hx : x.1 = .agg (L.map fun s => .lit (.int k s))) : ∀ i, i < n → cs[i]? = some (.int k (L.getD i 0)) := fun i hi => by
  obtain ⟨xs, m, _, hxs, _, hlen, hel⟩ := DataW.trod_array ht h
  rw [hxs] at hx
  simp only [DataW.agg.injEq] at hx
  have h1 := hel i hi
  rw [hc, List.getElem?_eq_getElem (by omega)] at h1
  obtain ⟨s, e1, e2, _⟩ := DataW.trod_int he h1
  have h3 := take1 e1
  have h4 : (xs.map (·.1))[i]? = (L.map fun s => (DataW.lit (.int k s) : DataW H))[i]? := by rw [hx]
  rw [List.getElem?_map, List.getElem?_map, List.getElem?_eq_getElem (by omega), List.getElem?_eq_getElem (by omega)] at h4
  simp only [Option.map_some,Option.some.injEq] at h4
  rw [e2] at h4
  simp only [DataW.lit.injEq,Lit.int.injEq,true_and] at h4
  rw [h3, List.getD_eq_getElem?_getD, List.getElem?_eq_getElem (by omega)]
  simp only [Option.getD_some,← h4]
theorem trod_rows {k : IntKind} {n q fuel : Nat} {t e f : TypeId} {cs : List Value} {x : DataW H × List MemPlace} (ht : P.underlying t = some (.array n e)) (he : P.underlying e = some (.array q f)) (hf : P.underlying f = some (.int k)) (hc : P.cellsOf f = 1) (hq : P.cellsOf e = q) {L : List (List Int)} (hL : L.length = n) (hL2 : ∀ l ∈ L, l.length = q)
    (h : DataW.trod enc P w base spare held fuel t cs = some x) (hx : x.1 = .agg (L.map fun l => .agg (l.map fun s => .lit (.int k s)))) : ∀ i, i < n → ∀ j, j < q → cs[i * q + j]? = some (.int k ((L.getD i []).getD j 0)) := fun i hi j hj => by
  obtain ⟨xs, m, _, hxs, _, hlen, hel⟩ := DataW.trod_array ht h
  rw [hxs] at hx
  simp only [DataW.agg.injEq] at hx
  have h1 := hel i hi
  rw [hq, List.getElem?_eq_getElem (by omega)] at h1
  have h4 : (xs.map (·.1))[i]? = (L.map fun l => (DataW.agg (l.map fun s => .lit (.int k s)) : DataW H))[i]? := by rw [hx]
  rw [List.getElem?_map, List.getElem?_map, List.getElem?_eq_getElem (by omega), List.getElem?_eq_getElem (by omega)] at h4
  simp only [Option.map_some,Option.some.injEq] at h4
  have hg : L.getD i [] = L[i] := by rw [List.getD_eq_getElem?_getD, List.getElem?_eq_getElem (by omega)]; rfl
  have h5 := trod_nums he hf hc (hL2 _ (List.getElem_mem (by omega : i < L.length))) h1 h4 j hj
  rw [List.getElem?_take, if_pos hj, List.getElem?_drop] at h5
  rw [hg]; exact h5
theorem c1_nums (ρ : Names) (w : World) (k : IntKind) : ∀ L : List Int, CR ρ w (L.map (.int k)) (L.map fun s => Value.int k s)
  | [] => by simp only [List.map_nil,CR]
  | s :: L => by
    simp only [List.map_cons,CR,C1]
    exact ⟨_, _, rfl, rfl, c1_nums ρ w k L⟩
theorem c1_rows (ρ : Names) (w : World) (k : IntKind) : ∀ L : List (List Int), CR ρ w (L.map fun l => .agg (l.map (.int k))) (L.flatten.map fun s => Value.int k s)
  | [] => by simp only [List.map_nil,List.flatten_nil,CR]
  | l :: L => by
    simp only [List.map_cons,CR,C1,List.flatten_cons,List.map_append]
    exact ⟨_, _, rfl, c1_nums ρ w k l, c1_rows ρ w k L⟩
theorem there_size {w : World} {g : Nat} {v : Value} (h : w.cell? ⟨g, 0, none⟩ = some v) : g < w.heap.size := by
  rcases Nat.lt_or_ge g w.heap.size with h1 | h1
  · exact h1
  · unfold World.cell? at h
    rw [Array.getElem?_eq_none h1] at h
    cases h
theorem tab_nums {w : World} {g : Nat} {k : IntKind} {L : List Int} (h0 : 0 < L.length) (h : ∀ i, i < L.length → w.cell? ⟨g, i, none⟩ = some (.int k (L.getD i 0))) :
    g < w.heap.size ∧ ∃ cs, (∀ ρ w, C1 ρ w (.agg (L.map (.int k))) cs) ∧ Has (.arr L.length .cell) (.agg (L.map (.int k))) ∧ w.rangeAt g 0 cs := by
  refine ⟨there_size (h 0 h0), L.map fun s => Value.int k s, fun ρ w => by simp only [C1]; exact c1_nums ρ w k L, has_arrMap rfl (fun x => by simp [Has, VV.leaf]), fun j v hv => ?_⟩
  rw [List.getElem?_map] at hv
  obtain ⟨s, hs, rfl⟩ := Option.map_eq_some_iff.1 hv
  have hj := (List.getElem?_eq_some_iff.1 hs).1
  rw [Nat.zero_add, h j hj, List.getD_eq_getElem?_getD, hs]; rfl
theorem tab_rows {w : World} {g : Nat} {k : IntKind} {q : Nat} {L : List (List Int)} (h0 : 0 < L.flatten.length) (hq : ∀ l ∈ L, l.length = q) (h : ∀ i, i < L.flatten.length → w.cell? ⟨g, i, none⟩ = some (.int k (L.flatten.getD i 0))) :
    g < w.heap.size ∧ ∃ cs, (∀ ρ w, C1 ρ w (.agg (L.map fun l => .agg (l.map (.int k)))) cs) ∧ Has (.arr L.length (.arr q .cell)) (.agg (L.map fun l => .agg (l.map (.int k)))) ∧ w.rangeAt g 0 cs := by
  refine ⟨there_size (h 0 h0), L.flatten.map fun s => Value.int k s, fun ρ w => by simp only [C1]; exact c1_rows ρ w k L, ?_, fun j v hv => ?_⟩
  · simp only [Has]
    refine ⟨by rw [List.length_map], fun v hv => ?_⟩
    obtain ⟨l, hl, rfl⟩ := List.mem_map.1 hv
    exact has_arrMap (hq l hl) (fun x => by simp [Has, VV.leaf])
  · rw [List.getElem?_map] at hv
    obtain ⟨s, hs, rfl⟩ := Option.map_eq_some_iff.1 hv
    have hj := (List.getElem?_eq_some_iff.1 hs).1
    rw [Nat.zero_add, h j hj, List.getD_eq_getElem?_getD, hs]; rfl
end
theorem gEight : Tryd.prog.globalNamed "hibernacle/hash.eight" = some 0 := by kernel_rfl
theorem gRows : Tryd.prog.globalNamed "hibernacle/hash.rows" = some 1 := by kernel_rfl
theorem tEight : (Tryd.prog.globals[0]?).map (·.type) = some 66 := by kernel_rfl
theorem tRows : (Tryd.prog.globals[1]?).map (·.type) = some 117 := by kernel_rfl
theorem rows_flat : ∀ i, i < 160 → rowsL.flatten.getD i 0 = (rowsL.getD (i / 16) []).getD (i % 16) 0 := by decide
theorem rows_16 : ∀ l ∈ rowsL, l.length = 16 := by decide
theorem rows_160 : rowsL.flatten.length = 160 := by decide
theorem base_wal {W : World} (h : laidMetH Tryd.prog [("hibernacle/hash.eight", Rows.laid_hibernacle_hash_eight), ("hibernacle/hash.rows", Rows.laid_hibernacle_hash_rows)] W) : Base W.heap.size (.bare fun _ => True) W := by
  rw [MakeChecks.laidMetH_plain _ _ _ (by kernel_rfl)] at h
  obtain ⟨ps, ⟨g0, t0, cs0, f0, p0, q0, hg0, ht0, hv0, hd0, ⟨g1, t1, cs1, f1, p1, q1, hg1, ht1, hv1, hd1, _, _⟩, _⟩, _, _⟩ := h
  obtain rfl := Option.some.inj (gEight.symm.trans hg0)
  obtain rfl := Option.some.inj (gRows.symm.trans hg1)
  obtain rfl := Option.some.inj (tEight.symm.trans ht0)
  obtain rfl := Option.some.inj (tRows.symm.trans ht1)
  have h1 := trod_nums (L := eightL) (show Tryd.prog.underlying 66 = some (.array 8 65) from Tryd.underlying66) (show Tryd.prog.underlying 65 = some (.int .u32) from Tryd.underlying65) (by kernel_rfl) rfl hd0 rfl
  have h2 := trod_rows (L := rowsL) (show Tryd.prog.underlying 117 = some (.array 10 116) from Tryd.underlying117) (show Tryd.prog.underlying 116 = some (.array 16 5) from Tryd.underlying116) (show Tryd.prog.underlying 5 = some (.int .u8) from Tryd.underlying5) (by kernel_rfl) (by kernel_rfl) rfl rows_16 hd1 rfl
  have k1 := tab_nums (w := W) (g := 0) (k := .u32) (L := eightL) (by decide) fun i hi => by
    rw [World.var?_cell hg0 hv0 i, ← Array.getElem?_toList]
    exact h1 i hi
  have k2 := tab_rows (w := W) (g := 1) (k := .u8) (L := rowsL) (by decide) rows_16 fun i hi => by
    rw [World.var?_cell hg1 hv1 i, ← Array.getElem?_toList]
    rw [rows_160] at hi
    have := h2 (i / 16) (by omega) (i % 16) (by omega)
    rw [show i / 16 * 16 + i % 16 = i by omega] at this
    rw [rows_flat i hi]; exact this
  refine ⟨Nat.le_refl _, fun g s v hg => ?_⟩
  unfold tabs at hg
  simp only [List.mem_cons,Prod.mk.injEq,List.not_mem_nil,or_false] at hg
  rcases hg with ⟨rfl, rfl, rfl⟩ | ⟨rfl, rfl, rfl⟩
  · exact ⟨k1.1, trivial, k1.2⟩
  · exact ⟨k2.1, trivial, k2.2⟩
end Go.Proofs.YtcilmfhncjfdbaaDoor.V
end
