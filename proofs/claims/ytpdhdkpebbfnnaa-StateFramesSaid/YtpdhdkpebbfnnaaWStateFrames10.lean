/-
  Parts of the proof of StateFrames: QA.
  Conditions: none.
-/
import Derived.Test.YtpdhdkpebbfnnaaWStateFrames07
import Derived.Test.YtpdhdkpebbfnnaaWStateFrames08
import Derived.Test.YtpdhdkpebbfnnaaWStateFrames06
import Derived.Test.YtpdhdkpebbfnnaaWStateFrames05
import Derived.Test.YtpdhdkpebbfnnaaWStateFrames09
set_option linter.unusedVariables false
set_option linter.unusedSimpArgs false
set_option linter.unusedSectionVars false
set_option linter.defProp false
section
namespace Go.Proofs.Ytpdhdkpebbfnnaa.V
open Go
set_option maxRecDepth 100000
set_option maxHeartbeats 8000000
def oneM (L : List Int) : List (VV × VV) := L.map fun f => (.int .i64 f, .int .i64 1)
theorem oneM_len (L : List Int) : (oneM L).length = L.length := by simp [oneM]
theorem oneM_snoc : ∀ (L : List Int) (f : Int), f ∉ L → mput (oneM L) (.int .i64 f) (.int .i64 1) = oneM (L ++ [f])
  | [], f, _ => rfl
  | g :: L, f, h => by
    simp only [List.mem_cons,not_or] at h
    show mput ((VV.int .i64 g, VV.int .i64 1) :: oneM L) (.int .i64 f) (.int .i64 1) = (VV.int .i64 g, VV.int .i64 1) :: oneM (L ++ [f])
    rw [mput, if_neg (by simp [keq]; exact h.1), oneM_snoc L f h.2]
theorem look_oneM : ∀ (L : List Int) (f : Int), f ∉ L → (mget (oneM L) (.int .i64 f)).getD (.int .i64 0) = .int .i64 0
  | [], f, _ => rfl
  | g :: L, f, h => by
    simp only [List.mem_cons,not_or] at h
    show (mget ((VV.int .i64 g, VV.int .i64 1) :: oneM L) (.int .i64 f)).getD (.int .i64 0) = .int .i64 0
    rw [mget, if_neg (by simp [keq]; exact h.1), look_oneM L f h.2]
theorem keys_oneM (L : List Int) : ((oneM L).all fun q => keyV (.int .i64) q.1) = true := by
  unfold oneM
  rw [List.all_map]
  exact List.all_eq_true.2 fun _ _ => rfl
theorem nls_oneM (L : List Int) : ((oneM L).all fun q => nl q.1 && nl q.2) = true := by
  unfold oneM
  rw [List.all_map]
  exact List.all_eq_true.2 fun _ _ => rfl
theorem len_filter_two {α : Type} (q : α → Bool) : ∀ l : List α, (l.filter q).length + (l.filter fun x => !q x).length = l.length
  | [] => rfl
  | x :: l => by
    have := len_filter_two q l
    cases h : q x <;> simp [List.filter_cons, h] <;> omega
theorem frames_sum {m : Mach} (hR : ∀ p ∈ m.pr, PrR p) (hu : ∀ f, (metF m m.pr.length 0).count f ≤ 1) (hin : ∀ f ∈ metF m m.pr.length 0, 0 ≤ f ∧ f < m.fr.length) : (freeK m.pr m.fr.length).length + (metF m m.pr.length 0).length = m.fr.length := by
  have hmet := fun f => usersN_met hR (m := m) f
  generalize metF m m.pr.length 0 = L at hu hin hmet ⊢
  have h2 := len_filter_two (fun i : Nat => decide (usersN m.pr (i : Nat) = 0)) (List.range m.fr.length)
  rw [List.length_range] at h2
  have hL : L.Nodup := List.nodup_iff_count.2 hu
  have hr : (((List.range m.fr.length).filter fun i : Nat => !decide (usersN m.pr (i : Nat) = 0)).map fun i : Nat => (i : Int)).Nodup := by
    refine List.Pairwise.map _ ?_ (List.Pairwise.filter _ List.nodup_range)
    intro a b hab e
    exact hab (by omega)
  have hp : (((List.range m.fr.length).filter fun i : Nat => !decide (usersN m.pr (i : Nat) = 0)).map fun i : Nat => (i : Int)).Perm L := by
    rw [List.perm_iff_count]
    intro f
    rw [hr.count, hL.count]
    congr 1
    rw [eq_iff_iff, hmet f]
    simp only [List.mem_map,List.mem_filter,List.mem_range]
    constructor
    · rintro ⟨i, ⟨h1, h2⟩, rfl⟩
      simpa using h2
    · intro h
      obtain ⟨g1, g2⟩ := hin f ((hmet f).2 h)
      refine ⟨f.toNat, ⟨by omega, ?_⟩, by omega⟩
      rw [Int.toNat_of_nonneg g1]
      simpa using h
  have hl := hp.length_eq
  rw [List.length_map] at hl
  unfold freeK
  omega
theorem ok_stop {P : Program} {n0 : Nat} {S : VS} {K : VX → VS → Prop} {l : Array Oper} {d : Bool} {c : Code} (i : Nat) (h : Ok P n0 (.seq (.region i l d) c) S K) : Ok P n0 (.seq (.region i l d) c) S K := h
theorem freeK_at (l : List Pr) (n : Nat) : (freeK l n).Pairwise (· < ·) ∧ ∀ i ∈ freeK l n, i < n ∧ usersN l (i : Nat) = 0 := by
  unfold freeK
  refine ⟨List.Pairwise.filter _ List.pairwise_lt_range, fun i hi => ?_⟩
  obtain ⟨h1, h2⟩ := List.mem_filter.1 hi
  exact ⟨List.mem_range.1 h1, by simpa using h2⟩
theorem frames_law (x0 : MachD) (g0 : good machT x0) (l0 : Ty.lite machT x0) : Spec Try.prog 11 [toV machT x0] (.bool true) := by
  have hm := mach_good x0 g0 l0
  rw [toV_mach]
  generalize mMach x0 = m at hm
  clear g0 l0 x0
  have hA := salive_spec
  have hG := great_spec m hm
  cases hg : greatM m with
  | true =>
    rw [hg, if_pos rfl] at hG
    refine spec_ok Try.func11 rfl rfl (by kernel_rfl) (k := 1) rfl (by decide) ?_
    repeat' (first|(with_reducible first|refine yrl (by constructor) ?_|refine jk (fun M hM=>?_)|(refine hM _ ?_;clear hM M)|refine xb3 (by decide) ?_|refine yqa (by assumption) ?_ ?_|refine yqb (by assumption) ?_ ?_)|((with_reducible refine je ?_)<;>(first|rfl|assumption|(simp only [znl,jO,jP,jQ,jR,jS,jT,jU,nls_oneM,nls_nats];(first|done|fail))))|(with_reducible refine jf (by (simp only [↓reduceIte,zlk,Nat.reduceEqDiff,reduceCtorEq]);exact rfl) ?_)|((with_reducible first|refine jg (fun hc=>?_) (fun hc=>?_)|refine jh (fun hc=>?_) (fun hc=>?_))<;>(try simp (disch:=omega) only [zhb] at hc)<;>(try (exfalso;omega))<;>(try subst hc))|(with_reducible refine ji (by omega) ?_)|(simp (config := { maxSteps := 400000 }) only [↓jt,↓reduceIte,zvs,reduceCtorEq,Nat.reduceEqDiff,Nat.reduceAdd,Nat.reduceLeDiff,Nat.reduceMul,Int.reduceBNe,Int.reduceBEq,Int.reduceEq,Int.reduceNe,Int.reduceLT,Int.reduceLE,Int.reduceGT,Int.reduceGE,Int.reduceNeg,Int.reduceToNat,Nat.reduceLT,Nat.reduceSub,tab,Try.results11,jTA])|(simp (disch:=omega) only [ziw]))
    all_goals first
      | (exfalso; omega)
      | (simp only [zrds]; done)
  | false =>
    rw [hg, if_neg (by simp)] at hG
    obtain ⟨hfit, hsz, _⟩ := hm.small hg
    have hC := scheck_ex m hfit
    by_cases h0 : chkM m = 0
    · rw [h0] at hC
      obtain ⟨_, q2, _, q4, q5, _⟩ := chk_parts h0
      have hpR := hfit.prR
      have hF := sfree_spec m hfit
      have hpg : ∀ k, k < m.pr.length → ∀ j, j < 16 → pteB m (m.pr.getD k default) ((m.pr.getD k default).sp.getD j default) = true := fun k hk j hj => by
        have h1 := (List.all_eq_true.1 q5) k (List.mem_range.2 hk)
        have h2 := (Bool.and_eq_true _ _ ▸ h1).2
        unfold procB at h2
        simp only [Bool.and_eq_true] at h2
        exact (List.all_eq_true.1 h2.1.2) _ (getD_mem' (by rw [(hpR _ (getD_mem' hk)).sp]; exact hj))
      refine spec_ok Try.func11 rfl rfl (by kernel_rfl) (k := 1) rfl (by decide) ?_
      repeat' (first|(with_reducible first|refine yrl (by constructor) ?_|refine jk (fun M hM=>?_)|(refine hM _ ?_;clear hM M)|refine xb3 (by decide) ?_|refine yqa (by assumption) ?_ ?_|refine yqb (by assumption) ?_ ?_)|((with_reducible refine je ?_)<;>(first|rfl|assumption|(simp only [znl,jO,jP,jQ,jR,jS,jT,jU,nls_oneM,nls_nats];(first|done|fail))))|(with_reducible refine jf (by (simp only [↓reduceIte,zlk,Nat.reduceEqDiff,reduceCtorEq]);exact rfl) ?_)|((with_reducible first|refine jg (fun hc=>?_) (fun hc=>?_)|refine jh (fun hc=>?_) (fun hc=>?_))<;>(try simp (disch:=omega) only [zhb] at hc)<;>(try (exfalso;omega))<;>(try subst hc))|(with_reducible refine ji (by omega) ?_)|(simp (config := { maxSteps := 400000 }) only [↓jt,↓reduceIte,zvs,reduceCtorEq,Nat.reduceEqDiff,Nat.reduceAdd,Nat.reduceLeDiff,Nat.reduceMul,Int.reduceBNe,Int.reduceBEq,Int.reduceEq,Int.reduceNe,Int.reduceLT,Int.reduceLE,Int.reduceGT,Int.reduceGE,Int.reduceNeg,Int.reduceToNat,Nat.reduceLT,Nat.reduceSub,tab,Try.results11,jTA])|(simp (disch:=omega) only [ziw]))
      all_goals (try (exfalso; omega))
      refine ok_loop (fun k : Nat => ⟨slots [(1, .ptr 0 []), (3, .map 1), (25, encPrs m.pr), (26, .int .i64 m.pr.length), (27, .int .i64 k)], rows [(0, .row machSh (encM m)), (1, .map (oneM (metF m k 0)))], 2⟩) (fun k => k ≤ m.pr.length) (fun k => m.pr.length - k) 0 ?_ (Nat.zero_le _) (fun k hk => ?_)
      · (refine yrn [(0, 0), (1, 1)] false ?_ ?_<;>(repeat' (first|(with_reducible first|exact ya1|exact ya2|exact ya3|refine jx rfl (by first|rfl|assumption|(simp only [znl,jO,jP,jQ,jR,jS,jT,jU,nls_oneM,nls_nats];(first|done|fail)))|exact ya5|exact ya7|exact jy|exact jz|refine jA ?_|refine ya9 ?_ ?_ ?_|refine jC rfl (by first|rfl|assumption|(simp only [znl,jO,jP,jQ,jR,jS,jT,jU,nls_oneM,nls_nats];(first|done|fail)))|refine MR.agg (MRL.cons ?_ ?_)|refine MR.fn ?_|refine MRL.cons ?_ ?_|exact MRL.nil|refine jE ?_ ?_|exact jF|exact jG|refine yb1 ?_ ?_|refine MB.row ?_|refine jI ?_ ?_|exact ya8|refine jJ rfl (by first|rfl|assumption|(simp only [znl,jO,jP,jQ,jR,jS,jT,jU,nls_oneM,nls_nats];(first|done|fail)))|refine yb2 ?_|rfl)|(simp only [znl,jO,jP,jQ,jR,jS,jT,jU,nls_oneM,nls_nats];(first|done|fail))|(simp only [↓reduceIte,zlk,Nat.reduceEqDiff,reduceCtorEq])|(with_reducible first|refine jJ ?_ ?_|refine ya5 ?_|refine ju ?_|refine jv ?_|refine jw ?_|refine jx ?_ (by first|rfl|assumption|(simp only [znl,jO,jP,jQ,jR,jS,jT,jU,nls_oneM,nls_nats];(first|done|fail)))|refine jC ?_ (by first|rfl|assumption|(simp only [znl,jO,jP,jQ,jR,jS,jT,jU,nls_oneM,nls_nats];(first|done|fail)))))))
        all_goals (first | rfl | (rw [metF_zero]; rfl))
      by_cases hlt : k < m.pr.length
      · have hb := hpR _ (getD_mem' hlt)
        obtain ⟨hS1, hS2, hS3⟩ := pr3 hb
        have hsl := hb.sp
        have hsR := hb.spR
        have hpg := hpg k hlt
        repeat' (first|(with_reducible first|refine yrl (by constructor) ?_|refine jk (fun M hM=>?_)|(refine hM _ ?_;clear hM M)|refine xb3 (by decide) ?_|refine yqa (by assumption) ?_ ?_|refine yqb (by assumption) ?_ ?_)|((with_reducible refine je ?_)<;>(first|rfl|assumption|(simp only [znl,jO,jP,jQ,jR,jS,jT,jU,nls_oneM,nls_nats];(first|done|fail))))|(with_reducible refine jf (by (simp only [↓reduceIte,zlk,Nat.reduceEqDiff,reduceCtorEq]);exact rfl) ?_)|((with_reducible first|refine jg (fun hc=>?_) (fun hc=>?_)|refine jh (fun hc=>?_) (fun hc=>?_))<;>(try simp (disch:=omega) only [zhb] at hc)<;>(try (exfalso;omega))<;>(try subst hc))|(with_reducible refine ji (by omega) ?_)|(simp (config := { maxSteps := 400000 }) only [↓jt,↓reduceIte,zvs,reduceCtorEq,Nat.reduceEqDiff,Nat.reduceAdd,Nat.reduceLeDiff,Nat.reduceMul,Int.reduceBNe,Int.reduceBEq,Int.reduceEq,Int.reduceNe,Int.reduceLT,Int.reduceLE,Int.reduceGT,Int.reduceGE,Int.reduceNeg,Int.reduceToNat,Nat.reduceLT,Nat.reduceSub,tab,hS1,hS2,hS3,encPr,Try.results11,jTA])|(simp (disch:=omega) only [ziw]))
        all_goals (try (exfalso; omega))
        refine ok_loop (fun j : Nat => ⟨slots [(1, .ptr 0 []), (3, .map 1), (5, .ptr 2 []), (25, encPrs m.pr), (26, .int .i64 m.pr.length), (27, .int .i64 k), (32, .agg ((m.pr.getD k default).sp.map encPte)), (33, .int .i64 j)], rows [(0, .row machSh (encM m)), (1, .map (oneM (metF m k j))), (2, .row prSh (encPrA (m.pr.getD k default)))], 3⟩) (fun j => j ≤ 16) (fun j => 16 - j) 0 ?_ (Nat.zero_le _) (fun j hj => ?_)
        · (refine yrn [(0, 0), (1, 1), (2, 2)] false ?_ ?_<;>(repeat' (first|(with_reducible first|exact ya1|exact ya2|exact ya3|refine jx rfl (by first|rfl|assumption|(simp only [znl,jO,jP,jQ,jR,jS,jT,jU,nls_oneM,nls_nats];(first|done|fail)))|exact ya5|exact ya7|exact jy|exact jz|refine jA ?_|refine ya9 ?_ ?_ ?_|refine jC rfl (by first|rfl|assumption|(simp only [znl,jO,jP,jQ,jR,jS,jT,jU,nls_oneM,nls_nats];(first|done|fail)))|refine MR.agg (MRL.cons ?_ ?_)|refine MR.fn ?_|refine MRL.cons ?_ ?_|exact MRL.nil|refine jE ?_ ?_|exact jF|exact jG|refine yb1 ?_ ?_|refine MB.row ?_|refine jI ?_ ?_|exact ya8|refine jJ rfl (by first|rfl|assumption|(simp only [znl,jO,jP,jQ,jR,jS,jT,jU,nls_oneM,nls_nats];(first|done|fail)))|refine yb2 ?_|rfl)|(simp only [znl,jO,jP,jQ,jR,jS,jT,jU,nls_oneM,nls_nats];(first|done|fail))|(simp only [↓reduceIte,zlk,Nat.reduceEqDiff,reduceCtorEq])|(with_reducible first|refine jJ ?_ ?_|refine ya5 ?_|refine ju ?_|refine jv ?_|refine jw ?_|refine jx ?_ (by first|rfl|assumption|(simp only [znl,jO,jP,jQ,jR,jS,jT,jU,nls_oneM,nls_nats];(first|done|fail)))|refine jC ?_ (by first|rfl|assumption|(simp only [znl,jO,jP,jQ,jR,jS,jT,jU,nls_oneM,nls_nats];(first|done|fail)))))))
          all_goals (first | rfl)
        by_cases hjlt : j < 16
        · have hpb := hsR _ (getD_mem' (show j < (m.pr.getD k default).sp.length by omega))
          have hp0 := hpg j hjlt
          cases hi : ((m.pr.getD k default).sp.getD j default).is with
          | true =>
            have hp1 := (pteB_is hi).1 hp0
            have hnew := metF_new hpR hlt hjlt hi hp1.2.2.2
            have hin := metF_in hlt (by omega) hi
            have hlook := look_oneM _ _ hnew
            have hput : mput (oneM (metF m k j)) (.int .i64 ((m.pr.getD k default).sp.getD j default).fr) (.int .i64 (0 + 1)) = oneM (metF m k j ++ [((m.pr.getD k default).sp.getD j default).fr]) := oneM_snoc _ _ hnew
            have hst := hp1.1
            repeat' (first|(with_reducible first|refine yrl (by constructor) ?_|refine jk (fun M hM=>?_)|(refine hM _ ?_;clear hM M)|refine xb3 (by decide) ?_|refine yqa (by assumption) ?_ ?_|refine yqb (by assumption) ?_ ?_)|((with_reducible refine je ?_)<;>(first|rfl|assumption|(simp only [znl,jO,jP,jQ,jR,jS,jT,jU,nls_oneM,nls_nats];(first|done|fail))))|(with_reducible refine jf (by (simp only [↓reduceIte,zlk,Nat.reduceEqDiff,reduceCtorEq]);exact rfl) ?_)|((with_reducible first|refine jg (fun hc=>?_) (fun hc=>?_)|refine jh (fun hc=>?_) (fun hc=>?_))<;>(try simp (disch:=omega) only [zhb] at hc)<;>(try (exfalso;omega))<;>(try subst hc))|(with_reducible refine ji (by omega) ?_)|(simp (config := { maxSteps := 400000 }) only [↓jt,↓reduceIte,zvs,reduceCtorEq,Nat.reduceEqDiff,Nat.reduceAdd,Nat.reduceLeDiff,Nat.reduceMul,Int.reduceBNe,Int.reduceBEq,Int.reduceEq,Int.reduceNe,Int.reduceLT,Int.reduceLE,Int.reduceGT,Int.reduceGE,Int.reduceNeg,Int.reduceToNat,Nat.reduceLT,Nat.reduceSub,tab,hS1,hS2,hS3,encPr,encPte,hi,hlook,keys_oneM,hput,Try.results11,jTA])|(simp (disch:=omega) only [ziw]))
            all_goals first
              | (exfalso; omega)
              | (refine xl1 (j + 1) ?_ (by show j + 1 ≤ 16; omega) (by show 16 - (j + 1) < 16 - j; omega); (refine yrn [(0, 0), (1, 1), (2, 2)] false ?_ ?_<;>(repeat' (first|(with_reducible first|exact ya1|exact ya2|exact ya3|refine jx rfl (by first|rfl|assumption|(simp only [znl,jO,jP,jQ,jR,jS,jT,jU,nls_oneM,nls_nats];(first|done|fail)))|exact ya5|exact ya7|exact jy|exact jz|refine jA ?_|refine ya9 ?_ ?_ ?_|refine jC rfl (by first|rfl|assumption|(simp only [znl,jO,jP,jQ,jR,jS,jT,jU,nls_oneM,nls_nats];(first|done|fail)))|refine MR.agg (MRL.cons ?_ ?_)|refine MR.fn ?_|refine MRL.cons ?_ ?_|exact MRL.nil|refine jE ?_ ?_|exact jF|exact jG|refine yb1 ?_ ?_|refine MB.row ?_|refine jI ?_ ?_|exact ya8|refine jJ rfl (by first|rfl|assumption|(simp only [znl,jO,jP,jQ,jR,jS,jT,jU,nls_oneM,nls_nats];(first|done|fail)))|refine yb2 ?_|rfl)|(simp only [znl,jO,jP,jQ,jR,jS,jT,jU,nls_oneM,nls_nats];(first|done|fail))|(simp only [↓reduceIte,zlk,Nat.reduceEqDiff,reduceCtorEq])|(with_reducible first|refine jJ ?_ ?_|refine ya5 ?_|refine ju ?_|refine jv ?_|refine jw ?_|refine jx ?_ (by first|rfl|assumption|(simp only [znl,jO,jP,jQ,jR,jS,jT,jU,nls_oneM,nls_nats];(first|done|fail)))|refine jC ?_ (by first|rfl|assumption|(simp only [znl,jO,jP,jQ,jR,jS,jT,jU,nls_oneM,nls_nats];(first|done|fail))))))); all_goals (rw [hin]))
          | false =>
            have hout := metF_out hlt (by omega) hi
            repeat' (first|(with_reducible first|refine yrl (by constructor) ?_|refine jk (fun M hM=>?_)|(refine hM _ ?_;clear hM M)|refine xb3 (by decide) ?_|refine yqa (by assumption) ?_ ?_|refine yqb (by assumption) ?_ ?_)|((with_reducible refine je ?_)<;>(first|rfl|assumption|(simp only [znl,jO,jP,jQ,jR,jS,jT,jU,nls_oneM,nls_nats];(first|done|fail))))|(with_reducible refine jf (by (simp only [↓reduceIte,zlk,Nat.reduceEqDiff,reduceCtorEq]);exact rfl) ?_)|((with_reducible first|refine jg (fun hc=>?_) (fun hc=>?_)|refine jh (fun hc=>?_) (fun hc=>?_))<;>(try simp (disch:=omega) only [zhb] at hc)<;>(try (exfalso;omega))<;>(try subst hc))|(with_reducible refine ji (by omega) ?_)|(simp (config := { maxSteps := 400000 }) only [↓jt,↓reduceIte,zvs,reduceCtorEq,Nat.reduceEqDiff,Nat.reduceAdd,Nat.reduceLeDiff,Nat.reduceMul,Int.reduceBNe,Int.reduceBEq,Int.reduceEq,Int.reduceNe,Int.reduceLT,Int.reduceLE,Int.reduceGT,Int.reduceGE,Int.reduceNeg,Int.reduceToNat,Nat.reduceLT,Nat.reduceSub,tab,hS1,hS2,hS3,encPr,encPte,hi,Try.results11,jTA])|(simp (disch:=omega) only [ziw]))
            all_goals first
              | (exfalso; omega)
              | (refine xl1 (j + 1) ?_ (by show j + 1 ≤ 16; omega) (by show 16 - (j + 1) < 16 - j; omega); (refine yrn [(0, 0), (1, 1), (2, 2)] false ?_ ?_<;>(repeat' (first|(with_reducible first|exact ya1|exact ya2|exact ya3|refine jx rfl (by first|rfl|assumption|(simp only [znl,jO,jP,jQ,jR,jS,jT,jU,nls_oneM,nls_nats];(first|done|fail)))|exact ya5|exact ya7|exact jy|exact jz|refine jA ?_|refine ya9 ?_ ?_ ?_|refine jC rfl (by first|rfl|assumption|(simp only [znl,jO,jP,jQ,jR,jS,jT,jU,nls_oneM,nls_nats];(first|done|fail)))|refine MR.agg (MRL.cons ?_ ?_)|refine MR.fn ?_|refine MRL.cons ?_ ?_|exact MRL.nil|refine jE ?_ ?_|exact jF|exact jG|refine yb1 ?_ ?_|refine MB.row ?_|refine jI ?_ ?_|exact ya8|refine jJ rfl (by first|rfl|assumption|(simp only [znl,jO,jP,jQ,jR,jS,jT,jU,nls_oneM,nls_nats];(first|done|fail)))|refine yb2 ?_|rfl)|(simp only [znl,jO,jP,jQ,jR,jS,jT,jU,nls_oneM,nls_nats];(first|done|fail))|(simp only [↓reduceIte,zlk,Nat.reduceEqDiff,reduceCtorEq])|(with_reducible first|refine jJ ?_ ?_|refine ya5 ?_|refine ju ?_|refine jv ?_|refine jw ?_|refine jx ?_ (by first|rfl|assumption|(simp only [znl,jO,jP,jQ,jR,jS,jT,jU,nls_oneM,nls_nats];(first|done|fail)))|refine jC ?_ (by first|rfl|assumption|(simp only [znl,jO,jP,jQ,jR,jS,jT,jU,nls_oneM,nls_nats];(first|done|fail))))))); all_goals (rw [hout]))
        · obtain rfl : j = 16 := by omega
          have e := metF_next hlt
          repeat' (first|(with_reducible first|refine yrl (by constructor) ?_|refine jk (fun M hM=>?_)|(refine hM _ ?_;clear hM M)|refine xb3 (by decide) ?_|refine yqa (by assumption) ?_ ?_|refine yqb (by assumption) ?_ ?_)|((with_reducible refine je ?_)<;>(first|rfl|assumption|(simp only [znl,jO,jP,jQ,jR,jS,jT,jU,nls_oneM,nls_nats];(first|done|fail))))|(with_reducible refine jf (by (simp only [↓reduceIte,zlk,Nat.reduceEqDiff,reduceCtorEq]);exact rfl) ?_)|((with_reducible first|refine jg (fun hc=>?_) (fun hc=>?_)|refine jh (fun hc=>?_) (fun hc=>?_))<;>(try simp (disch:=omega) only [zhb] at hc)<;>(try (exfalso;omega))<;>(try subst hc))|(with_reducible refine ji (by omega) ?_)|(simp (config := { maxSteps := 400000 }) only [↓jt,↓reduceIte,zvs,reduceCtorEq,Nat.reduceEqDiff,Nat.reduceAdd,Nat.reduceLeDiff,Nat.reduceMul,Int.reduceBNe,Int.reduceBEq,Int.reduceEq,Int.reduceNe,Int.reduceLT,Int.reduceLE,Int.reduceGT,Int.reduceGE,Int.reduceNeg,Int.reduceToNat,Nat.reduceLT,Nat.reduceSub,tab,hS1,hS2,hS3,Try.results11,jTA])|(simp (disch:=omega) only [ziw]))
          all_goals first
            | (exfalso; omega)
            | (refine xl1 (k + 1) ?_ (by show k + 1 ≤ m.pr.length; omega) (by show m.pr.length - (k + 1) < m.pr.length - k; omega); (refine yrn [(0, 0), (1, 1)] false ?_ ?_<;>(repeat' (first|(with_reducible first|exact ya1|exact ya2|exact ya3|refine jx rfl (by first|rfl|assumption|(simp only [znl,jO,jP,jQ,jR,jS,jT,jU,nls_oneM,nls_nats];(first|done|fail)))|exact ya5|exact ya7|exact jy|exact jz|refine jA ?_|refine ya9 ?_ ?_ ?_|refine jC rfl (by first|rfl|assumption|(simp only [znl,jO,jP,jQ,jR,jS,jT,jU,nls_oneM,nls_nats];(first|done|fail)))|refine MR.agg (MRL.cons ?_ ?_)|refine MR.fn ?_|refine MRL.cons ?_ ?_|exact MRL.nil|refine jE ?_ ?_|exact jF|exact jG|refine yb1 ?_ ?_|refine MB.row ?_|refine jI ?_ ?_|exact ya8|refine jJ rfl (by first|rfl|assumption|(simp only [znl,jO,jP,jQ,jR,jS,jT,jU,nls_oneM,nls_nats];(first|done|fail)))|refine yb2 ?_|rfl)|(simp only [znl,jO,jP,jQ,jR,jS,jT,jU,nls_oneM,nls_nats];(first|done|fail))|(simp only [↓reduceIte,zlk,Nat.reduceEqDiff,reduceCtorEq])|(with_reducible first|refine jJ ?_ ?_|refine ya5 ?_|refine ju ?_|refine jv ?_|refine jw ?_|refine jx ?_ (by first|rfl|assumption|(simp only [znl,jO,jP,jQ,jR,jS,jT,jU,nls_oneM,nls_nats];(first|done|fail)))|refine jC ?_ (by first|rfl|assumption|(simp only [znl,jO,jP,jQ,jR,jS,jT,jU,nls_oneM,nls_nats];(first|done|fail))))))); all_goals (first | rfl | (rw [e]; done)))
      obtain rfl : k = m.pr.length := by omega
      have hmem : ∀ f ∈ metF m m.pr.length 0, 0 ≤ f ∧ f < m.fr.length := fun f hf => by
        have h1 : f ∈ m.pr.flatMap fun p => own p.sp 16 := by
          unfold metF at hf
          rw [List.take_length] at hf
          simpa [own] using hf
        obtain ⟨p, hp, h2⟩ := List.mem_flatMap.1 h1
        obtain ⟨i, hi, rfl⟩ := List.mem_iff_getElem.1 hp
        obtain ⟨x, hx, rfl⟩ := List.mem_map.1 h2
        obtain ⟨hx1, hx2⟩ := List.mem_filter.1 hx
        have hx1 := List.mem_of_mem_take hx1
        obtain ⟨j, hj, rfl⟩ := List.mem_iff_getElem.1 hx1
        have hl := (hpR _ (getD_mem' hi)).sp
        have e1 : m.pr.getD i default = m.pr[i] := by rw [List.getD_eq_getElem?_getD, List.getElem?_eq_getElem hi]; rfl
        rw [e1] at hl
        have h3 := hpg i hi j (by omega)
        rw [e1] at h3
        have e2 : (m.pr[i]).sp.getD j default = (m.pr[i]).sp[j] := by rw [List.getD_eq_getElem?_getD, List.getElem?_eq_getElem hj]; rfl
        rw [e2] at h3
        have := (pteB_is hx2).1 h3
        exact ⟨this.2.1, this.2.2.1⟩
      have hcnt : ∀ f, (metF m m.pr.length 0).count f ≤ 1 := fun f => by
        by_cases hf : f ∈ metF m m.pr.length 0
        · have h1 := usersN_metF hpR f m.pr.length (Nat.le_refl _)
          rw [List.take_length] at h1
          rw [← h1]
          have h1 : f ∈ m.pr.flatMap fun p => own p.sp 16 := by
            unfold metF at hf
            rw [List.take_length] at hf
            simpa [own] using hf
          obtain ⟨p, hp, h2⟩ := List.mem_flatMap.1 h1
          obtain ⟨i, hi, rfl⟩ := List.mem_iff_getElem.1 hp
          obtain ⟨x, hx, rfl⟩ := List.mem_map.1 h2
          obtain ⟨hx1, hx2⟩ := List.mem_filter.1 hx
          have hx1 := List.mem_of_mem_take hx1
          obtain ⟨j, hj, rfl⟩ := List.mem_iff_getElem.1 hx1
          have hl := (hpR _ (getD_mem' hi)).sp
          have e1 : m.pr.getD i default = m.pr[i] := by rw [List.getD_eq_getElem?_getD, List.getElem?_eq_getElem hi]; rfl
          rw [e1] at hl
          have h3 := hpg i hi j (by omega)
          rw [e1] at h3
          have e2 : (m.pr[i]).sp.getD j default = (m.pr[i]).sp[j] := by rw [List.getD_eq_getElem?_getD, List.getElem?_eq_getElem hj]; rfl
          rw [e2] at h3
          have := (pteB_is hx2).1 h3
          omega
        · rw [List.count_eq_zero.2 hf]; omega
      have hsum := frames_sum hpR hcnt hmem
      have hmet := fun f => usersN_met hpR (m := m) f
      generalize metF m m.pr.length 0 = L at hmem hcnt hsum hmet ⊢
      obtain ⟨hfs, hfm⟩ := freeK_at m.pr m.fr.length
      have hfl := freeK_le m.pr m.fr.length
      simp only [freeV] at hF
      generalize freeK m.pr m.fr.length = F at hF hfs hfm hsum hfl
      repeat' (first|(with_reducible first|refine yrl (by constructor) ?_|refine jk (fun M hM=>?_)|(refine hM _ ?_;clear hM M)|refine xb3 (by decide) ?_|refine yqa (by assumption) ?_ ?_|refine yqb (by assumption) ?_ ?_)|((with_reducible refine je ?_)<;>(first|rfl|assumption|(simp only [znl,jO,jP,jQ,jR,jS,jT,jU,nls_oneM,nls_nats];(first|done|fail))))|(with_reducible refine jf (by (simp only [↓reduceIte,zlk,Nat.reduceEqDiff,reduceCtorEq]);exact rfl) ?_)|((with_reducible first|refine jg (fun hc=>?_) (fun hc=>?_)|refine jh (fun hc=>?_) (fun hc=>?_))<;>(try simp (disch:=omega) only [zhb] at hc)<;>(try (exfalso;omega))<;>(try subst hc))|(with_reducible refine ji (by omega) ?_)|(simp (config := { maxSteps := 400000 }) only [↓jt,↓reduceIte,zvs,reduceCtorEq,Nat.reduceEqDiff,Nat.reduceAdd,Nat.reduceLeDiff,Nat.reduceMul,Int.reduceBNe,Int.reduceBEq,Int.reduceEq,Int.reduceNe,Int.reduceLT,Int.reduceLE,Int.reduceGT,Int.reduceGE,Int.reduceNeg,Int.reduceToNat,Nat.reduceLT,Nat.reduceSub,tab,Try.results11,jTA])|(simp (disch:=omega) only [ziw]))
      all_goals (try (exfalso; omega))
      refine ok_loop (fun k : Nat => ⟨slots [(1, .ptr 0 []), (3, .map 1), (8, .dat .cell (encNats F)), (50, .dat .cell (encNats F)), (51, .int .i64 F.length), (52, .int .i64 k)], rows [(0, .row machSh (encM m)), (1, .map (oneM L))], 2⟩) (fun k => k ≤ F.length) (fun k => F.length - k) 0 ?_ (Nat.zero_le _) (fun k hk => ?_)
      · (refine yrn [(0, 0), (1, 1)] false ?_ ?_<;>(repeat' (first|(with_reducible first|exact ya1|exact ya2|exact ya3|refine jx rfl (by first|rfl|assumption|(simp only [znl,jO,jP,jQ,jR,jS,jT,jU,nls_oneM,nls_nats];(first|done|fail)))|exact ya5|exact ya7|exact jy|exact jz|refine jA ?_|refine ya9 ?_ ?_ ?_|refine jC rfl (by first|rfl|assumption|(simp only [znl,jO,jP,jQ,jR,jS,jT,jU,nls_oneM,nls_nats];(first|done|fail)))|refine MR.agg (MRL.cons ?_ ?_)|refine MR.fn ?_|refine MRL.cons ?_ ?_|exact MRL.nil|refine jE ?_ ?_|exact jF|exact jG|refine yb1 ?_ ?_|refine MB.row ?_|refine jI ?_ ?_|exact ya8|refine jJ rfl (by first|rfl|assumption|(simp only [znl,jO,jP,jQ,jR,jS,jT,jU,nls_oneM,nls_nats];(first|done|fail)))|refine yb2 ?_|rfl)|(simp only [znl,jO,jP,jQ,jR,jS,jT,jU,nls_oneM,nls_nats];(first|done|fail))|(simp only [↓reduceIte,zlk,Nat.reduceEqDiff,reduceCtorEq])|(with_reducible first|refine jJ ?_ ?_|refine ya5 ?_|refine ju ?_|refine jv ?_|refine jw ?_|refine jx ?_ (by first|rfl|assumption|(simp only [znl,jO,jP,jQ,jR,jS,jT,jU,nls_oneM,nls_nats];(first|done|fail)))|refine jC ?_ (by first|rfl|assumption|(simp only [znl,jO,jP,jQ,jR,jS,jT,jU,nls_oneM,nls_nats];(first|done|fail)))))))
        all_goals (first | rfl)
      by_cases hlt : k < F.length
      · obtain ⟨f1, f2⟩ := hfm _ (getD_mem' hlt)
        have hno : ((F.getD k default : Nat) : Int) ∉ L := fun h => (hmet _).1 h f2
        have hlook := look_oneM _ _ hno
        have hinc : 0 < k → F.getD ((k : Int) - 1).toNat default < F.getD k default := fun h => by
          have h1 : k - 1 < F.length := by omega
          rw [show ((k : Int) - 1).toNat = k - 1 by omega]
          rw [List.getD_eq_getElem?_getD, List.getD_eq_getElem?_getD, List.getElem?_eq_getElem h1, List.getElem?_eq_getElem hlt]
          exact (List.pairwise_iff_getElem.1 hfs) (k - 1) k h1 hlt (by omega)
        repeat' (first|(with_reducible first|refine yrl (by constructor) ?_|refine jk (fun M hM=>?_)|(refine hM _ ?_;clear hM M)|refine xb3 (by decide) ?_|refine yqa (by assumption) ?_ ?_|refine yqb (by assumption) ?_ ?_)|((with_reducible refine je ?_)<;>(first|rfl|assumption|(simp only [znl,jO,jP,jQ,jR,jS,jT,jU,nls_oneM,nls_nats];(first|done|fail))))|(with_reducible refine jf (by (simp only [↓reduceIte,zlk,Nat.reduceEqDiff,reduceCtorEq]);exact rfl) ?_)|((with_reducible first|refine jg (fun hc=>?_) (fun hc=>?_)|refine jh (fun hc=>?_) (fun hc=>?_))<;>(try simp (disch:=omega) only [zhb] at hc)<;>(try (exfalso;omega))<;>(try subst hc))|(with_reducible refine ji (by omega) ?_)|(simp (config := { maxSteps := 400000 }) only [↓jt,↓reduceIte,zvs,reduceCtorEq,Nat.reduceEqDiff,Nat.reduceAdd,Nat.reduceLeDiff,Nat.reduceMul,Int.reduceBNe,Int.reduceBEq,Int.reduceEq,Int.reduceNe,Int.reduceLT,Int.reduceLE,Int.reduceGT,Int.reduceGE,Int.reduceNeg,Int.reduceToNat,Nat.reduceLT,Nat.reduceSub,tab,encNats,hlook,keys_oneM,Try.results11,jTA])|(simp (disch:=omega) only [ziw]))
        all_goals first
          | (exfalso; omega)
          | (refine xl1 (k + 1) ?_ (by show k + 1 ≤ F.length; omega) (by show F.length - (k + 1) < F.length - k; omega); (refine yrn [(0, 0), (1, 1)] false ?_ ?_<;>(repeat' (first|(with_reducible first|exact ya1|exact ya2|exact ya3|refine jx rfl (by first|rfl|assumption|(simp only [znl,jO,jP,jQ,jR,jS,jT,jU,nls_oneM,nls_nats];(first|done|fail)))|exact ya5|exact ya7|exact jy|exact jz|refine jA ?_|refine ya9 ?_ ?_ ?_|refine jC rfl (by first|rfl|assumption|(simp only [znl,jO,jP,jQ,jR,jS,jT,jU,nls_oneM,nls_nats];(first|done|fail)))|refine MR.agg (MRL.cons ?_ ?_)|refine MR.fn ?_|refine MRL.cons ?_ ?_|exact MRL.nil|refine jE ?_ ?_|exact jF|exact jG|refine yb1 ?_ ?_|refine MB.row ?_|refine jI ?_ ?_|exact ya8|refine jJ rfl (by first|rfl|assumption|(simp only [znl,jO,jP,jQ,jR,jS,jT,jU,nls_oneM,nls_nats];(first|done|fail)))|refine yb2 ?_|rfl)|(simp only [znl,jO,jP,jQ,jR,jS,jT,jU,nls_oneM,nls_nats];(first|done|fail))|(simp only [↓reduceIte,zlk,Nat.reduceEqDiff,reduceCtorEq])|(with_reducible first|refine jJ ?_ ?_|refine ya5 ?_|refine ju ?_|refine jv ?_|refine jw ?_|refine jx ?_ (by first|rfl|assumption|(simp only [znl,jO,jP,jQ,jR,jS,jT,jU,nls_oneM,nls_nats];(first|done|fail)))|refine jC ?_ (by first|rfl|assumption|(simp only [znl,jO,jP,jQ,jR,jS,jT,jU,nls_oneM,nls_nats];(first|done|fail))))))); all_goals (first | rfl))
      obtain rfl : k = F.length := by omega
      have hone : ∀ e ∈ oneM L, e.2 = .int .i64 1 := fun e he => by
        obtain ⟨f, _, rfl⟩ := List.mem_map.1 he
        rfl
      repeat' ((fail_if_success (with_reducible refine ok_stop 25 ?_));first|(with_reducible first|refine yrl (by constructor) ?_|refine jk (fun M hM=>?_)|(refine hM _ ?_;clear hM M)|refine xb3 (by decide) ?_|refine yqa (by assumption) ?_ ?_|refine yqb (by assumption) ?_ ?_)|((with_reducible refine je ?_)<;>(first|rfl|assumption|(simp only [znl,jO,jP,jQ,jR,jS,jT,jU,nls_oneM,nls_nats];(first|done|fail))))|(with_reducible refine jf (by (simp only [↓reduceIte,zlk,Nat.reduceEqDiff,reduceCtorEq]);exact rfl) ?_)|((with_reducible first|refine jg (fun hc=>?_) (fun hc=>?_)|refine jh (fun hc=>?_) (fun hc=>?_))<;>(try simp (disch:=omega) only [zhb] at hc)<;>(try (exfalso;omega))<;>(try subst hc))|(with_reducible refine ji (by omega) ?_)|(simp (config := { maxSteps := 400000 }) only [↓jt,↓reduceIte,zvs,reduceCtorEq,Nat.reduceEqDiff,Nat.reduceAdd,Nat.reduceLeDiff,Nat.reduceMul,Int.reduceBNe,Int.reduceBEq,Int.reduceEq,Int.reduceNe,Int.reduceLT,Int.reduceLE,Int.reduceGT,Int.reduceGE,Int.reduceNeg,Int.reduceToNat,Nat.reduceLT,Nat.reduceSub,tab,Try.results11,jTA])|(simp (disch:=omega) only [ziw]))
      refine ok_ones (m := 1) (es := oneM L) Try.underlying87 (by simp only [↓reduceIte,zlk,Nat.reduceEqDiff,reduceCtorEq]) (by simp only [↓reduceIte,zlk,Nat.reduceEqDiff,reduceCtorEq]) hone (by decide) ?_
      simp only [anyAt_cons,anyAt_nil]
      refine xs1 ?_
      refine ok_ren (T := ⟨slots [(1, .ptr 0 []), (3, .map 1), (8, .dat .cell (encNats F))], rows [(0, .row machSh (encM m)), (1, .map (oneM L))], 2⟩) ?_ ?_
      · (refine yrn [(0, 0), (1, 1)] false ?_ ?_<;>(repeat' (first|(with_reducible first|exact ya1|exact ya2|exact ya3|refine jx rfl (by first|rfl|assumption|(simp only [znl,jO,jP,jQ,jR,jS,jT,jU,nls_oneM,nls_nats];(first|done|fail)))|exact ya5|exact ya7|exact jy|exact jz|refine jA ?_|refine ya9 ?_ ?_ ?_|refine jC rfl (by first|rfl|assumption|(simp only [znl,jO,jP,jQ,jR,jS,jT,jU,nls_oneM,nls_nats];(first|done|fail)))|refine MR.agg (MRL.cons ?_ ?_)|refine MR.fn ?_|refine MRL.cons ?_ ?_|exact MRL.nil|refine jE ?_ ?_|exact jF|exact jG|refine yb1 ?_ ?_|refine MB.row ?_|refine jI ?_ ?_|exact ya8|refine jJ rfl (by first|rfl|assumption|(simp only [znl,jO,jP,jQ,jR,jS,jT,jU,nls_oneM,nls_nats];(first|done|fail)))|refine yb2 ?_|rfl)|(simp only [znl,jO,jP,jQ,jR,jS,jT,jU,nls_oneM,nls_nats];(first|done|fail))|(simp only [↓reduceIte,zlk,Nat.reduceEqDiff,reduceCtorEq])|(with_reducible first|refine jJ ?_ ?_|refine ya5 ?_|refine ju ?_|refine jv ?_|refine jw ?_|refine jx ?_ (by first|rfl|assumption|(simp only [znl,jO,jP,jQ,jR,jS,jT,jU,nls_oneM,nls_nats];(first|done|fail)))|refine jC ?_ (by first|rfl|assumption|(simp only [znl,jO,jP,jQ,jR,jS,jT,jU,nls_oneM,nls_nats];(first|done|fail)))))))
        all_goals (first | rfl)
      have hsb : ((F.length : Int) + (L.length : Int) == (m.fr.length : Int)) = true := beq_iff_eq.2 (by omega)
      repeat' (first|(with_reducible first|refine yrl (by constructor) ?_|refine jk (fun M hM=>?_)|(refine hM _ ?_;clear hM M)|refine xb3 (by decide) ?_|refine yqa (by assumption) ?_ ?_|refine yqb (by assumption) ?_ ?_)|((with_reducible refine je ?_)<;>(first|rfl|assumption|(simp only [znl,jO,jP,jQ,jR,jS,jT,jU,nls_oneM,nls_nats];(first|done|fail))))|(with_reducible refine jf (by (simp only [↓reduceIte,zlk,Nat.reduceEqDiff,reduceCtorEq]);exact rfl) ?_)|((with_reducible first|refine jg (fun hc=>?_) (fun hc=>?_)|refine jh (fun hc=>?_) (fun hc=>?_))<;>(try simp (disch:=omega) only [zhb] at hc)<;>(try (exfalso;omega))<;>(try subst hc))|(with_reducible refine ji (by omega) ?_)|(simp (config := { maxSteps := 400000 }) only [↓jt,↓reduceIte,zvs,reduceCtorEq,Nat.reduceEqDiff,Nat.reduceAdd,Nat.reduceLeDiff,Nat.reduceMul,Int.reduceBNe,Int.reduceBEq,Int.reduceEq,Int.reduceNe,Int.reduceLT,Int.reduceLE,Int.reduceGT,Int.reduceGE,Int.reduceNeg,Int.reduceToNat,Nat.reduceLT,Nat.reduceSub,tab,encNats,oneM_len,hsb,Try.results11,jTA])|(simp (disch:=omega) only [ziw]))
      all_goals first
        | (exfalso; omega)
        | (simp only [zrds]; done)
    · generalize chkM m = c at hC h0
      refine spec_ok Try.func11 rfl rfl (by kernel_rfl) (k := 1) rfl (by decide) ?_
      repeat' (first|(with_reducible first|refine yrl (by constructor) ?_|refine jk (fun M hM=>?_)|(refine hM _ ?_;clear hM M)|refine xb3 (by decide) ?_|refine yqa (by assumption) ?_ ?_|refine yqb (by assumption) ?_ ?_)|((with_reducible refine je ?_)<;>(first|rfl|assumption|(simp only [znl,jO,jP,jQ,jR,jS,jT,jU,nls_oneM,nls_nats];(first|done|fail))))|(with_reducible refine jf (by (simp only [↓reduceIte,zlk,Nat.reduceEqDiff,reduceCtorEq]);exact rfl) ?_)|((with_reducible first|refine jg (fun hc=>?_) (fun hc=>?_)|refine jh (fun hc=>?_) (fun hc=>?_))<;>(try simp (disch:=omega) only [zhb] at hc)<;>(try (exfalso;omega))<;>(try subst hc))|(with_reducible refine ji (by omega) ?_)|(simp (config := { maxSteps := 400000 }) only [↓jt,↓reduceIte,zvs,reduceCtorEq,Nat.reduceEqDiff,Nat.reduceAdd,Nat.reduceLeDiff,Nat.reduceMul,Int.reduceBNe,Int.reduceBEq,Int.reduceEq,Int.reduceNe,Int.reduceLT,Int.reduceLE,Int.reduceGT,Int.reduceGE,Int.reduceNeg,Int.reduceToNat,Nat.reduceLT,Nat.reduceSub,tab,Try.results11,jTA])|(simp (disch:=omega) only [ziw]))
      all_goals first
        | (exfalso; omega)
        | (simp only [zrds]; done)
end Go.Proofs.Ytpdhdkpebbfnnaa.V
end
