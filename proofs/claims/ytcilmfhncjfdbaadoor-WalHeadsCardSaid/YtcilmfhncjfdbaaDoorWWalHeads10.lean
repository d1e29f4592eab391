/-
  Parts of the proof of WalHeads: HJ, HK, HL, HM, HN, HO, HP, HQ.
  Conditions: none.
-/
import Derived.Test.YtcilmfhncjfdbaaDoorWWalHeads09
import Derived.Test.YtcilmfhncjfdbaaDoorWWalHeads08
section
/-
  WAL: what a journal tells, by the program.
-/
set_option linter.unusedVariables false
set_option linter.unusedSimpArgs false
namespace Go.Proofs.YtcilmfhncjfdbaaDoor.V
open Go
set_option maxRecDepth 100000
-- nlx: jO, nls_mapB, nls_cls, nl_pd, nl_fn, nls_upT
set_option maxHeartbeats 4000000
def upT (d : Dr) (h : List UInt8) (n k : Nat) : List VV := (toldL d h k).map encWr ++ List.replicate (n - k) (.agg [.int .i64 0, .str []])
theorem upT_len (d : Dr) (h : List UInt8) {n k : Nat} (hk : k ≤ n) : (upT d h n k).length = n := by simp only [upT,List.length_append,List.length_map,toldL_len,List.length_replicate]; omega
theorem upT_get (d : Dr) (h : List UInt8) {n k : Nat} (hk : k < n) : (upT d h n k)[k]? = some (.agg [.int .i64 0, .str []]) := by
  unfold upT
  rw [List.getElem?_append_right (by simp [toldL_len]), List.length_map, toldL_len, Nat.sub_self, List.getElem?_replicate, if_pos (by omega)]
theorem upT_set (d : Dr) (h : List UInt8) {n k : Nat} (hk : k < n) : (upT d h n k).set k (.agg [.int .i64 (blkF h k : Int), .str (gotF d (k + 1))]) = upT d h n (k + 1) := by
  unfold upT
  have hl : ((toldL d h k).map encWr).length = k := by rw [List.length_map, toldL_len]
  rw [List.set_append_right _ _ (by omega), hl, Nat.sub_self, show n - k = (n - (k + 1)) + 1 by omega, List.replicate_succ, List.set_cons_zero, toldL_succ, List.map_append, List.append_assoc]
  rfl
theorem upT_all (d : Dr) (h : List UInt8) (n : Nat) : upT d h n n = (toldL d h n).map encWr := by simp [upT]
theorem upT_zero (d : Dr) (h : List UInt8) (n : Nat) : List.replicate n (VV.agg [.int .i64 0, .str []]) = upT d h n 0 := by simp [upT, toldL]
theorem nls_upT (d : Dr) (h : List UInt8) (n k : Nat) : nls (upT d h n k) = true := by
  unfold upT
  rw [nls_append, jO, nls_rep (by rfl)]; rfl
theorem ptold_spec (d : Dr) {N : Nat} (hd : DOk N d) (hN : N < 2 ^ 30) (hb : badD d = 0) : Spec Tryd.prog 46 [encDr d] (encWrs (toldD d)) := by
  have hdf := hd.fit (show N < 2 ^ 36 by omega)
  obtain ⟨c1, c2, c3⟩ := badD_ok hb
  have hG0 : Spec Tryd.prog 62 [encDr d, .int .i64 0] (.tup [.str (gotF d 0), .int .i64 0]) := by
    have := get_spec d hdf 0 (by omega)
    have e := getV_got (d := d) (i := 0) (by omega)
    rw [show ((0 : Nat) : Int) = 0 from rfl] at e
    rwa [e] at this
  have hg128 := got_128 c1 (show 0 < d.bl.length by omega)
  obtain ⟨h, hh⟩ : ∃ h, h = gotF d 0 := ⟨_, rfl⟩
  rw [← hh] at hG0 hg128
  have hNm := num_get_spec ((h.drop 4).take 2) (by rw [List.length_take]; omega)
  have hc0 : getLE (((h.drop 4).take 2).take 8) = cntF h := by rw [List.take_of_length_le (by rw [List.length_take]; omega)]; rfl
  rw [hc0] at hNm
  have hcl : cntF h < 65536 := getLE_lt2 _ (by rw [List.length_take]; omega)
  obtain ⟨n, hn⟩ : ∃ n, n = cntF h := ⟨_, rfl⟩
  rw [← hn] at hNm hcl
  obtain ⟨R, hR⟩ : ∃ R, R = toldD d := ⟨_, rfl⟩
  rw [← hR]
  unfold toldD at hR
  rw [← hh] at hR
  dsimp only at hR
  rw [← hn] at hR
  have hRn : ¬(1 ≤ n ∧ n ≤ 32) → R = [] := fun h => by rw [hR, if_pos (by omega)]
  refine spec_ok Tryd.func46 rfl rfl (by kernel_rfl) (k := 1) rfl (by decide) ?_
  repeat' (first|(with_reducible first|refine yrl (by constructor) ?_|refine jk (fun M hM=>?_)|(refine hM _ ?_;clear hM M)|refine xb3 (by decide) ?_|refine yqa (by assumption) ?_ ?_|refine yqb (by assumption) ?_ ?_)|((with_reducible refine je ?_)<;>(first|rfl|assumption|(simp only [znl,jO,nls_mapB,nls_cls,nl_pd,nl_fn,nls_upT];(first|done|fail))))|(with_reducible refine jf (by (simp only [↓reduceIte,zlk,Nat.reduceEqDiff,reduceCtorEq]);exact rfl) ?_)|((with_reducible first|refine jg (fun hc=>?_) (fun hc=>?_)|refine jh (fun hc=>?_) (fun hc=>?_))<;>(try simp (disch:=omega) only [zhb] at hc)<;>(try (exfalso;omega))<;>(try subst hc))|(with_reducible refine ji (by omega) ?_)|(simp (config := { maxSteps := 400000 }) only [↓jt,↓reduceIte,zvs,reduceCtorEq,Nat.reduceEqDiff,Nat.reduceAdd,Nat.reduceLeDiff,Nat.reduceMul,Int.reduceBNe,Int.reduceBEq,Int.reduceEq,Int.reduceNe,Int.reduceLT,Int.reduceLE,Int.reduceGT,Int.reduceGE,Int.reduceNeg,Int.reduceToNat,Nat.reduceLT,Nat.reduceSub,tab,Tryd.results46,List.toList_toArray])|(simp (disch:=omega) only [ziw]))
  all_goals first
    | (exfalso; omega)
    | (rw [hRn (by omega)]; exact rdt_of rd_nil rfl)
    | skip
  have hn1 : 1 ≤ n := by omega
  have hn2 : n ≤ 32 := by omega
  rw [if_neg (by omega)] at hR
  refine ok_loop (fun k : Nat => ⟨slots [(1, .ptr 0 []), (3, .str h), (6, .sl (some (1, [], 0)) n), (31, .int .i64 n), (32, .int .i64 k)], rows [(0, .row (.st [.cell, .cell, .cell]) (encDr d)), (1, .row (.arr n (.st [.cell, .cell])) (.agg (upT d h n k)))], 2⟩) (fun k => k ≤ n) (fun k => n - k) 0 ?_ (Nat.zero_le _) (fun k hk => ?_)
  · (refine yrn [(0, 0), (1, 1)] false ?_ ?_<;>(repeat' (first|(with_reducible first|exact ya1|exact ya2|exact ya3|refine jx rfl (by first|rfl|assumption|(simp only [znl,jO,nls_mapB,nls_cls,nl_pd,nl_fn,nls_upT];(first|done|fail)))|exact ya5|exact ya7|exact jy|exact jz|refine jA ?_|refine ya9 ?_ ?_ ?_|refine jC rfl (by first|rfl|assumption|(simp only [znl,jO,nls_mapB,nls_cls,nl_pd,nl_fn,nls_upT];(first|done|fail)))|refine MR.agg (MRL.cons ?_ ?_)|refine MR.fn ?_|refine MRL.cons ?_ ?_|exact MRL.nil|refine jE ?_ ?_|exact jF|exact jG|refine yb1 ?_ ?_|refine MB.row ?_|refine jI ?_ ?_|exact ya8|refine jJ rfl (by first|rfl|assumption|(simp only [znl,jO,nls_mapB,nls_cls,nl_pd,nl_fn,nls_upT];(first|done|fail)))|refine yb2 ?_|rfl)|(simp only [znl,jO,nls_mapB,nls_cls,nl_pd,nl_fn,nls_upT];(first|done|fail))|(simp only [↓reduceIte,zlk,Nat.reduceEqDiff,reduceCtorEq])|(with_reducible first|refine jJ ?_ ?_|refine ya5 ?_|refine ju ?_|refine jv ?_|refine jw ?_|refine jx ?_ (by first|rfl|assumption|(simp only [znl,jO,nls_mapB,nls_cls,nl_pd,nl_fn,nls_upT];(first|done|fail)))|refine jC ?_ (by first|rfl|assumption|(simp only [znl,jO,nls_mapB,nls_cls,nl_pd,nl_fn,nls_upT];(first|done|fail)))))))
    all_goals (first | rfl | exact upT_zero _ _ _ | trace_state)
  have htl := upT_len d h hk
  by_cases hlt : k < n
  · have hG : Spec Tryd.prog 62 [encDr d, .int .i64 (1 + (k : Int))] (.tup [.str (gotF d (k + 1)), .int .i64 0]) := by
      have := get_spec d hdf (1 + (k : Int)) (by omega)
      have e := getV_got (d := d) (i := k + 1) (by omega)
      rw [show ((k + 1 : Nat) : Int) = 1 + (k : Int) from by omega] at e
      rwa [e] at this
    have t1 : (6 + 2 * (k : Int)).toNat = 6 + 2 * k := by omega
    have t2 : (8 + 2 * (k : Int)).toNat = 8 + 2 * k := by omega
    have t3 : 8 + 2 * k - (6 + 2 * k) = 2 := by omega
    have hN2 := num_get_spec ((h.drop (6 + 2 * k)).take 2) (by rw [List.length_take]; omega)
    have hb0 : getLE (((h.drop (6 + 2 * k)).take 2).take 8) = blkF h k := by rw [List.take_of_length_le (by rw [List.length_take]; omega)]; rfl
    rw [hb0] at hN2
    have hbl : blkF h k < 65536 := getLE_lt2 _ (by rw [List.length_take]; omega)
    have hgz := upT_get d h hlt
    have hsn := upT_set d h hlt
    repeat' (first|(with_reducible first|refine yrl (by constructor) ?_|refine jk (fun M hM=>?_)|(refine hM _ ?_;clear hM M)|refine xb3 (by decide) ?_|refine yqa (by assumption) ?_ ?_|refine yqb (by assumption) ?_ ?_)|((with_reducible refine je ?_)<;>(first|rfl|assumption|(simp only [znl,jO,nls_mapB,nls_cls,nl_pd,nl_fn,nls_upT];(first|done|fail))))|(with_reducible refine jf (by (simp only [↓reduceIte,zlk,Nat.reduceEqDiff,reduceCtorEq]);exact rfl) ?_)|((with_reducible first|refine jg (fun hc=>?_) (fun hc=>?_)|refine jh (fun hc=>?_) (fun hc=>?_))<;>(try simp (disch:=omega) only [zhb] at hc)<;>(try (exfalso;omega))<;>(try subst hc))|(with_reducible refine ji (by omega) ?_)|(simp (config := { maxSteps := 400000 }) only [↓jt,↓reduceIte,zvs,reduceCtorEq,Nat.reduceEqDiff,Nat.reduceAdd,Nat.reduceLeDiff,Nat.reduceMul,Int.reduceBNe,Int.reduceBEq,Int.reduceEq,Int.reduceNe,Int.reduceLT,Int.reduceLE,Int.reduceGT,Int.reduceGE,Int.reduceNeg,Int.reduceToNat,Nat.reduceLT,Nat.reduceSub,tab,t1,t2,t3,htl,hgz,hsn,Tryd.results46,List.toList_toArray])|(simp (disch:=omega) only [ziw]))
    all_goals first
      | (exfalso; omega)
      | skip
    refine xl1 (k + 1) ?_ (by show k + 1 ≤ n; omega) (by show n - (k + 1) < n - k; omega)
    (refine yrn [(0, 0), (1, 1)] false ?_ ?_<;>(repeat' (first|(with_reducible first|exact ya1|exact ya2|exact ya3|refine jx rfl (by first|rfl|assumption|(simp only [znl,jO,nls_mapB,nls_cls,nl_pd,nl_fn,nls_upT];(first|done|fail)))|exact ya5|exact ya7|exact jy|exact jz|refine jA ?_|refine ya9 ?_ ?_ ?_|refine jC rfl (by first|rfl|assumption|(simp only [znl,jO,nls_mapB,nls_cls,nl_pd,nl_fn,nls_upT];(first|done|fail)))|refine MR.agg (MRL.cons ?_ ?_)|refine MR.fn ?_|refine MRL.cons ?_ ?_|exact MRL.nil|refine jE ?_ ?_|exact jF|exact jG|refine yb1 ?_ ?_|refine MB.row ?_|refine jI ?_ ?_|exact ya8|refine jJ rfl (by first|rfl|assumption|(simp only [znl,jO,nls_mapB,nls_cls,nl_pd,nl_fn,nls_upT];(first|done|fail)))|refine yb2 ?_|rfl)|(simp only [znl,jO,nls_mapB,nls_cls,nl_pd,nl_fn,nls_upT];(first|done|fail))|(simp only [↓reduceIte,zlk,Nat.reduceEqDiff,reduceCtorEq])|(with_reducible first|refine jJ ?_ ?_|refine ya5 ?_|refine ju ?_|refine jv ?_|refine jw ?_|refine jx ?_ (by first|rfl|assumption|(simp only [znl,jO,nls_mapB,nls_cls,nl_pd,nl_fn,nls_upT];(first|done|fail)))|refine jC ?_ (by first|rfl|assumption|(simp only [znl,jO,nls_mapB,nls_cls,nl_pd,nl_fn,nls_upT];(first|done|fail)))))))
    all_goals (first | rfl | trace_state)
  obtain rfl : k = n := by omega
  rw [upT_all] at htl ⊢
  obtain ⟨T, hT⟩ : ∃ T, T = toldL d h k := ⟨_, rfl⟩
  have hnw := jO (toldL d h k)
  rw [← hT] at hR htl hnw ⊢
  have hTf : LFit T := by rw [hT]; exact toldL_fit hd h hn2
  have hM : Spec Tryd.prog 29 [.int .i64 ((d.bl.length : Int) - 33), encWrs T] (.int .i64 (mayD ((d.bl.length - 33 : Nat) : Int) T)) := by
    have := pallowed_spec T hTf (d.bl.length - 33) (by omega)
    rwa [show (((d.bl.length - 33 : Nat) : Int)) = (d.bl.length : Int) - 33 from by omega] at this ⊢
  repeat' ((fail_if_success (with_reducible refine ok_stop 14 ?_));first|(with_reducible first|refine yrl (by constructor) ?_|refine jk (fun M hM=>?_)|(refine hM _ ?_;clear hM M)|refine xb3 (by decide) ?_|refine yqa (by assumption) ?_ ?_|refine yqb (by assumption) ?_ ?_)|((with_reducible refine je ?_)<;>(first|rfl|assumption|(simp only [znl,jO,nls_mapB,nls_cls,nl_pd,nl_fn,nls_upT];(first|done|fail))))|(with_reducible refine jf (by (simp only [↓reduceIte,zlk,Nat.reduceEqDiff,reduceCtorEq]);exact rfl) ?_)|((with_reducible first|refine jg (fun hc=>?_) (fun hc=>?_)|refine jh (fun hc=>?_) (fun hc=>?_))<;>(try simp (disch:=omega) only [zhb] at hc)<;>(try (exfalso;omega))<;>(try subst hc))|(with_reducible refine ji (by omega) ?_)|(simp (config := { maxSteps := 400000 }) only [↓jt,↓reduceIte,zvs,reduceCtorEq,Nat.reduceEqDiff,Nat.reduceAdd,Nat.reduceLeDiff,Nat.reduceMul,Int.reduceBNe,Int.reduceBEq,Int.reduceEq,Int.reduceNe,Int.reduceLT,Int.reduceLE,Int.reduceGT,Int.reduceGE,Int.reduceNeg,Int.reduceToNat,Nat.reduceLT,Nat.reduceSub,tab,htl,Tryd.results46,List.toList_toArray])|(simp (disch:=omega) only [ziw]))
  all_goals (try (exfalso; omega))
  refine ok_ren (T := ⟨slots [(1, .ptr 0 []), (3, .str h), (6, encWrs T)], rows [(0, .row (.st [.cell, .cell, .cell]) (encDr d))], 1⟩) ?_ ?_
  · (refine yrn [(0, 0)] true ?_ ?_<;>(repeat' (first|(with_reducible first|exact ya1|exact ya2|exact ya3|refine jx rfl (by first|rfl|assumption|(simp only [znl,jO,nls_mapB,nls_cls,nl_pd,nl_fn,nls_upT];(first|done|fail)))|exact ya5|exact ya7|exact jy|exact jz|refine jA ?_|refine ya9 ?_ ?_ ?_|refine jC rfl (by first|rfl|assumption|(simp only [znl,jO,nls_mapB,nls_cls,nl_pd,nl_fn,nls_upT];(first|done|fail)))|refine MR.agg (MRL.cons ?_ ?_)|refine MR.fn ?_|refine MRL.cons ?_ ?_|exact MRL.nil|refine jE ?_ ?_|exact jF|exact jG|refine yb1 ?_ ?_|refine MB.row ?_|refine jI ?_ ?_|exact ya8|refine jJ rfl (by first|rfl|assumption|(simp only [znl,jO,nls_mapB,nls_cls,nl_pd,nl_fn,nls_upT];(first|done|fail)))|refine yb2 ?_|rfl)|(simp only [znl,jO,nls_mapB,nls_cls,nl_pd,nl_fn,nls_upT];(first|done|fail))|(simp only [↓reduceIte,zlk,Nat.reduceEqDiff,reduceCtorEq])|(with_reducible first|refine jJ ?_ ?_|refine ya5 ?_|refine ju ?_|refine jv ?_|refine jw ?_|refine jx ?_ (by first|rfl|assumption|(simp only [znl,jO,nls_mapB,nls_cls,nl_pd,nl_fn,nls_upT];(first|done|fail)))|refine jC ?_ (by first|rfl|assumption|(simp only [znl,jO,nls_mapB,nls_cls,nl_pd,nl_fn,nls_upT];(first|done|fail)))))))
    all_goals (first | rfl | (rw [htl]; done) | trace_state)
  by_cases hm : mayD ((d.bl.length - 33 : Nat) : Int) T = 0
  · rw [hm] at hM hR
    have hH := phead_spec T (mayD_hd (by omega) hm)
    repeat' (first|(with_reducible first|refine yrl (by constructor) ?_|refine jk (fun M hM=>?_)|(refine hM _ ?_;clear hM M)|refine xb3 (by decide) ?_|refine yqa (by assumption) ?_ ?_|refine yqb (by assumption) ?_ ?_)|((with_reducible refine je ?_)<;>(first|rfl|assumption|(simp only [znl,jO,nls_mapB,nls_cls,nl_pd,nl_fn,nls_upT];(first|done|fail))))|(with_reducible refine jf (by (simp only [↓reduceIte,zlk,Nat.reduceEqDiff,reduceCtorEq]);exact rfl) ?_)|((with_reducible first|refine jg (fun hc=>?_) (fun hc=>?_)|refine jh (fun hc=>?_) (fun hc=>?_))<;>(try simp (disch:=omega) only [zhb] at hc)<;>(try (exfalso;omega))<;>(try subst hc))|(with_reducible refine ji (by omega) ?_)|(simp (config := { maxSteps := 400000 }) only [↓jt,↓reduceIte,zvs,reduceCtorEq,Nat.reduceEqDiff,Nat.reduceAdd,Nat.reduceLeDiff,Nat.reduceMul,Int.reduceBNe,Int.reduceBEq,Int.reduceEq,Int.reduceNe,Int.reduceLT,Int.reduceLE,Int.reduceGT,Int.reduceGE,Int.reduceNeg,Int.reduceToNat,Nat.reduceLT,Nat.reduceSub,tab,encDr,Tryd.results46,List.toList_toArray])|(simp (disch:=omega) only [ziw]))
    all_goals first
      | (exfalso; omega)
      | (rw [hR, if_pos (.inr (by assumption))]; exact rdt_of rd_nil rfl)
      | (rw [hR, if_neg (by intro hq; rcases hq with hq | hq; exact hq rfl; first | exact hq rfl | exact hq (by assumption))]; exact rdt_of (Rd.refl _ _ hnw) rfl)
      | trace_state
  · rw [if_pos (.inl hm)] at hR
    repeat' (first|(with_reducible first|refine yrl (by constructor) ?_|refine jk (fun M hM=>?_)|(refine hM _ ?_;clear hM M)|refine xb3 (by decide) ?_|refine yqa (by assumption) ?_ ?_|refine yqb (by assumption) ?_ ?_)|((with_reducible refine je ?_)<;>(first|rfl|assumption|(simp only [znl,jO,nls_mapB,nls_cls,nl_pd,nl_fn,nls_upT];(first|done|fail))))|(with_reducible refine jf (by (simp only [↓reduceIte,zlk,Nat.reduceEqDiff,reduceCtorEq]);exact rfl) ?_)|((with_reducible first|refine jg (fun hc=>?_) (fun hc=>?_)|refine jh (fun hc=>?_) (fun hc=>?_))<;>(try simp (disch:=omega) only [zhb] at hc)<;>(try (exfalso;omega))<;>(try subst hc))|(with_reducible refine ji (by omega) ?_)|(simp (config := { maxSteps := 400000 }) only [↓jt,↓reduceIte,zvs,reduceCtorEq,Nat.reduceEqDiff,Nat.reduceAdd,Nat.reduceLeDiff,Nat.reduceMul,Int.reduceBNe,Int.reduceBEq,Int.reduceEq,Int.reduceNe,Int.reduceLT,Int.reduceLE,Int.reduceGT,Int.reduceGE,Int.reduceNeg,Int.reduceToNat,Nat.reduceLT,Nat.reduceSub,tab,encDr,Tryd.results46,List.toList_toArray])|(simp (disch:=omega) only [ziw]))
    all_goals first
      | (exfalso; omega)
      | (rw [hR]; exact rdt_of rd_nil rfl)
      | trace_state
def recD (d : Dr) : Dr × Int := if badD d ≠ 0 then (d, badD d) else if toldD d = [] then (d, 0) else runC d (homeC (toldD d))
theorem toldD_hd {d : Dr} (hb : badD d = 0) : HdR (toldD d) := by
  obtain ⟨c1, c2, c3⟩ := badD_ok hb
  unfold toldD
  dsimp only
  split
  · exact ⟨by simp, fun w hw => by cases hw⟩
  · split
    · exact ⟨by simp, fun w hw => by cases hw⟩
    · rename_i h
      exact mayD_hd (by omega) (Decidable.byContradiction fun h2 => h (.inl h2))
end Go.Proofs.YtcilmfhncjfdbaaDoor.V
end
section
/-
  WAL: Recover by the program; a volume, by both.
-/
set_option linter.unusedVariables false
set_option linter.unusedSimpArgs false
namespace Go.Proofs.YtcilmfhncjfdbaaDoor.V
open Go
set_option maxRecDepth 100000
set_option linter.defProp false in
def znHK := And.intro @jO <| And.intro @nls_mapB <| And.intro @nls_cls <| And.intro @nl_pd <| And.intro @nl_fn <| True.intro
set_option maxHeartbeats 4000000
theorem precover_spec (d : Dr) {N : Nat} (hd : DOk N d) (hN : N < 2 ^ 30) : Spec Tryd.prog 22 [encDr d] (drV (recD d)) := by
  have hdf := hd.fit (show N < 2 ^ 36 by omega)
  have hB := pbad_spec d hdf
  have hK := pcopied_spec d hdf
  unfold recD
  by_cases hb : badD d = 0
  case neg =>
    rw [if_pos hb]
    simp only [drV]
    refine spec_ok Tryd.func22 rfl rfl (by kernel_rfl) (k := 1) rfl (by decide) ?_
    repeat' (first|(with_reducible first|refine yrl (by constructor) ?_|refine jk (fun M hM=>?_)|(refine hM _ ?_;clear hM M)|refine xb3 (by decide) ?_|refine yqa (by assumption) ?_ ?_|refine yqb (by assumption) ?_ ?_)|((with_reducible refine je ?_)<;>(first|rfl|assumption|(simp only [znl,znHK];(first|done|fail))))|(with_reducible refine jf (by (simp only [↓reduceIte,zlk,Nat.reduceEqDiff,reduceCtorEq]);exact rfl) ?_)|((with_reducible first|refine jg (fun hc=>?_) (fun hc=>?_)|refine jh (fun hc=>?_) (fun hc=>?_))<;>(try simp (disch:=omega) only [zhb] at hc)<;>(try (exfalso;omega))<;>(try subst hc))|(with_reducible refine ji (by omega) ?_)|(simp (config := { maxSteps := 400000 }) only [↓jt,↓reduceIte,zvs,reduceCtorEq,Nat.reduceEqDiff,Nat.reduceAdd,Nat.reduceLeDiff,Nat.reduceMul,Int.reduceBNe,Int.reduceBEq,Int.reduceEq,Int.reduceNe,Int.reduceLT,Int.reduceLE,Int.reduceGT,Int.reduceGE,Int.reduceNeg,Int.reduceToNat,Nat.reduceLT,Nat.reduceSub,tab,Tryd.results22,List.toList_toArray])|(simp (disch:=omega) only [ziw]))
    all_goals first
      | (exfalso; omega)
      | (((try simp only [encDr,encWrs,List.map_nil]); simp only [zrds]; (repeat' (first | exact rd_nil | exact Rd.refl _ _ (by first|rfl|assumption|(simp only [znl,znHK];(first|done|fail))) | (refine And.intro ?_ ?_) | (refine rd_own (by (simp only [↓reduceIte,zlk,Nat.reduceEqDiff,reduceCtorEq]); exact rfl) ?_ ?_ ?_) | rfl | assumption | (simp only [znl,znHK];(first|done|fail)) | (simp; done) | (simp; omega)))); done)
      | trace_state
  have hT := ptold_spec d hd hN hb
  have hH := toldD_hd hb
  rw [hb] at hB ⊢
  rw [if_neg (fun h => h rfl)]
  obtain ⟨T, hTT⟩ : ∃ T, T = toldD d := ⟨_, rfl⟩
  rw [← hTT] at hT hH ⊢
  by_cases he : T = []
  · rw [if_pos he]
    subst he
    simp only [drV]
    refine spec_ok Tryd.func22 rfl rfl (by kernel_rfl) (k := 1) rfl (by decide) ?_
    repeat' (first|(with_reducible first|refine yrl (by constructor) ?_|refine jk (fun M hM=>?_)|(refine hM _ ?_;clear hM M)|refine xb3 (by decide) ?_|refine yqa (by assumption) ?_ ?_|refine yqb (by assumption) ?_ ?_)|((with_reducible refine je ?_)<;>(first|rfl|assumption|(simp only [znl,znHK];(first|done|fail))))|(with_reducible refine jf (by (simp only [↓reduceIte,zlk,Nat.reduceEqDiff,reduceCtorEq]);exact rfl) ?_)|((with_reducible first|refine jg (fun hc=>?_) (fun hc=>?_)|refine jh (fun hc=>?_) (fun hc=>?_))<;>(try simp (disch:=omega) only [zhb] at hc)<;>(try (exfalso;omega))<;>(try subst hc))|(with_reducible refine ji (by omega) ?_)|(simp (config := { maxSteps := 400000 }) only [↓jt,↓reduceIte,zvs,reduceCtorEq,Nat.reduceEqDiff,Nat.reduceAdd,Nat.reduceLeDiff,Nat.reduceMul,Int.reduceBNe,Int.reduceBEq,Int.reduceEq,Int.reduceNe,Int.reduceLT,Int.reduceLE,Int.reduceGT,Int.reduceGE,Int.reduceNeg,Int.reduceToNat,Nat.reduceLT,Nat.reduceSub,tab,Tryd.results22,List.toList_toArray])|(simp (disch:=omega) only [ziw]))
    all_goals first
      | (exfalso; omega)
      | (((try simp only [encDr,encWrs,List.map_nil]); simp only [zrds]; (repeat' (first | exact rd_nil | exact Rd.refl _ _ (by first|rfl|assumption|(simp only [znl,znHK];(first|done|fail))) | (refine And.intro ?_ ?_) | (refine rd_own (by (simp only [↓reduceIte,zlk,Nat.reduceEqDiff,reduceCtorEq]); exact rfl) ?_ ?_ ?_) | rfl | assumption | (simp only [znl,znHK];(first|done|fail)) | (simp; done) | (simp; omega)))); done)
      | trace_state
  rw [if_neg he]
  have hll : 0 < T.length := List.length_pos_iff.2 he
  have h32 := hH.len
  have hHo := phomeward_spec T (by omega) fun w hw => by have := hH.wr w hw; omega
  have hDn := pdone_spec d hd (homeC T) (by rw [homeC_len]; omega) (homeC_R hH.wok)
  obtain ⟨x, hx⟩ : ∃ x, x = runC d (homeC T) := ⟨_, rfl⟩
  rw [← hx] at hDn ⊢
  obtain ⟨y, e⟩ := x
  simp only [drV] at hDn ⊢
  refine spec_ok Tryd.func22 rfl rfl (by kernel_rfl) (k := 1) rfl (by decide) ?_
  repeat' (first|(with_reducible first|refine yrl (by constructor) ?_|refine jk (fun M hM=>?_)|(refine hM _ ?_;clear hM M)|refine xb3 (by decide) ?_|refine yqa (by assumption) ?_ ?_|refine yqb (by assumption) ?_ ?_)|((with_reducible refine je ?_)<;>(first|rfl|assumption|(simp only [znl,znHK];(first|done|fail))))|(with_reducible refine jf (by (simp only [↓reduceIte,zlk,Nat.reduceEqDiff,reduceCtorEq]);exact rfl) ?_)|((with_reducible first|refine jg (fun hc=>?_) (fun hc=>?_)|refine jh (fun hc=>?_) (fun hc=>?_))<;>(try simp (disch:=omega) only [zhb] at hc)<;>(try (exfalso;omega))<;>(try subst hc))|(with_reducible refine ji (by omega) ?_)|(simp (config := { maxSteps := 400000 }) only [↓jt,↓reduceIte,zvs,reduceCtorEq,Nat.reduceEqDiff,Nat.reduceAdd,Nat.reduceLeDiff,Nat.reduceMul,Int.reduceBNe,Int.reduceBEq,Int.reduceEq,Int.reduceNe,Int.reduceLT,Int.reduceLE,Int.reduceGT,Int.reduceGE,Int.reduceNeg,Int.reduceToNat,Nat.reduceLT,Nat.reduceSub,tab,Tryd.results22,List.toList_toArray])|(simp (disch:=omega) only [ziw]))
  all_goals (try (exfalso; omega))
  refine ok_drawC 6 (by kernel_rfl) (by decide +kernel) (by intro m hm; simp only [upd_ap,rows_cons,rows_nil]; (repeat (first | rfl | rw [if_neg (by omega)]))) (fun M hM => ?_); simp only [List.take_succ_cons,List.take_zero,List.drop_succ_cons,List.drop_zero]
  repeat' (first|(with_reducible first|refine yrl (by constructor) ?_|refine jk (fun M hM=>?_)|(refine hM _ ?_;clear hM M)|refine xb3 (by decide) ?_|refine yqa (by assumption) ?_ ?_|refine yqb (by assumption) ?_ ?_)|((with_reducible refine je ?_)<;>(first|rfl|assumption|(simp only [znl,znHK];(first|done|fail))))|(with_reducible refine jf (by (simp only [↓reduceIte,zlk,Nat.reduceEqDiff,reduceCtorEq]);exact rfl) ?_)|((with_reducible first|refine jg (fun hc=>?_) (fun hc=>?_)|refine jh (fun hc=>?_) (fun hc=>?_))<;>(try simp (disch:=omega) only [zhb] at hc)<;>(try (exfalso;omega))<;>(try subst hc))|(with_reducible refine ji (by omega) ?_)|(simp (config := { maxSteps := 400000 }) only [↓jt,↓reduceIte,zvs,reduceCtorEq,Nat.reduceEqDiff,Nat.reduceAdd,Nat.reduceLeDiff,Nat.reduceMul,Int.reduceBNe,Int.reduceBEq,Int.reduceEq,Int.reduceNe,Int.reduceLT,Int.reduceLE,Int.reduceGT,Int.reduceGE,Int.reduceNeg,Int.reduceToNat,Nat.reduceLT,Nat.reduceSub,tab,Tryd.results22,List.toList_toArray])|(simp (disch:=omega) only [ziw]))
  all_goals first
    | (exfalso; omega)
    | (((try simp only [encDr,encWrs,List.map_nil]); simp only [zrds]; (repeat' (first | exact rd_nil | exact Rd.refl _ _ (by first|rfl|assumption|(simp only [znl,znHK];(first|done|fail))) | (refine And.intro ?_ ?_) | (refine rd_own (by (simp only [↓reduceIte,zlk,Nat.reduceEqDiff,reduceCtorEq]); exact rfl) ?_ ?_ ?_) | rfl | assumption | (simp only [znl,znHK];(first|done|fail)) | (simp; done) | (simp; omega)))); done)
    | trace_state
def volV (d : Dr) : Frames := (List.range (d.bl.length - 33)).map fun i : Nat => gotF d (33 + i)
def volB (d : Dr) : Frames := if badD d = 0 then volV d else []
def volK (d : Dr) (k : Nat) : Frames := (List.range k).map fun i : Nat => gotF d (33 + i)
theorem volK_len (d : Dr) (k : Nat) : (volK d k).length = k := by simp [volK]
theorem volK_succ (d : Dr) (k : Nat) : (volK d k).map VV.str ++ [.str (gotF d (33 + k))] = (volK d (k + 1)).map VV.str := by simp [volK, List.range_succ]
theorem nls_frames (l : Frames) : nls (l.map .str) = true := nls_map _ (fun _ => rfl) l
theorem rhomeV_spec (d : Dr) {N : Nat} (hd : DOk N d) (hN : N < 2 ^ 30) : Spec Tryd.prog 18 [encDr d] (encStrs (volB d)) := by
  have hdf := hd.fit (show N < 2 ^ 36 by omega)
  have hB := rbad_spec d hdf
  unfold volB
  by_cases hb : badD d = 0
  case neg =>
    rw [if_neg hb]
    refine spec_ok Tryd.func18 rfl rfl (by kernel_rfl) (k := 1) rfl (by decide) ?_
    repeat' (first|(with_reducible first|refine yrl (by constructor) ?_|refine jk (fun M hM=>?_)|(refine hM _ ?_;clear hM M)|refine xb3 (by decide) ?_|refine yqa (by assumption) ?_ ?_|refine yqb (by assumption) ?_ ?_)|((with_reducible refine je ?_)<;>(first|rfl|assumption|(simp only [znl,znHK];(first|done|fail))))|(with_reducible refine jf (by (simp only [↓reduceIte,zlk,Nat.reduceEqDiff,reduceCtorEq]);exact rfl) ?_)|((with_reducible first|refine jg (fun hc=>?_) (fun hc=>?_)|refine jh (fun hc=>?_) (fun hc=>?_))<;>(try simp (disch:=omega) only [zhb] at hc)<;>(try (exfalso;omega))<;>(try subst hc))|(with_reducible refine ji (by omega) ?_)|(simp (config := { maxSteps := 400000 }) only [↓jt,↓reduceIte,zvs,reduceCtorEq,Nat.reduceEqDiff,Nat.reduceAdd,Nat.reduceLeDiff,Nat.reduceMul,Int.reduceBNe,Int.reduceBEq,Int.reduceEq,Int.reduceNe,Int.reduceLT,Int.reduceLE,Int.reduceGT,Int.reduceGE,Int.reduceNeg,Int.reduceToNat,Nat.reduceLT,Nat.reduceSub,tab,Tryd.results18,List.toList_toArray])|(simp (disch:=omega) only [ziw]))
    all_goals first
      | (exfalso; omega)
      | (refine rdt_of ?_ rfl; (refine rd_own (by (simp only [↓reduceIte,zlk,Nat.reduceEqDiff,reduceCtorEq]); exact rfl) ?_ ?_ ?_) <;> (first | rfl | assumption | (simp only [znl,znHK];(first|done|fail)) | (simp; done) | (simp; omega) | skip); done)
      | trace_state
  rw [hb] at hB
  rw [if_pos hb]
  obtain ⟨c1, c2, c3⟩ := badD_ok hb
  refine spec_ok Tryd.func18 rfl rfl (by kernel_rfl) (k := 1) rfl (by decide) ?_
  repeat' (first|(with_reducible first|refine yrl (by constructor) ?_|refine jk (fun M hM=>?_)|(refine hM _ ?_;clear hM M)|refine xb3 (by decide) ?_|refine yqa (by assumption) ?_ ?_|refine yqb (by assumption) ?_ ?_)|((with_reducible refine je ?_)<;>(first|rfl|assumption|(simp only [znl,znHK];(first|done|fail))))|(with_reducible refine jf (by (simp only [↓reduceIte,zlk,Nat.reduceEqDiff,reduceCtorEq]);exact rfl) ?_)|((with_reducible first|refine jg (fun hc=>?_) (fun hc=>?_)|refine jh (fun hc=>?_) (fun hc=>?_))<;>(try simp (disch:=omega) only [zhb] at hc)<;>(try (exfalso;omega))<;>(try subst hc))|(with_reducible refine ji (by omega) ?_)|(simp (config := { maxSteps := 400000 }) only [↓jt,↓reduceIte,zvs,reduceCtorEq,Nat.reduceEqDiff,Nat.reduceAdd,Nat.reduceLeDiff,Nat.reduceMul,Int.reduceBNe,Int.reduceBEq,Int.reduceEq,Int.reduceNe,Int.reduceLT,Int.reduceLE,Int.reduceGT,Int.reduceGE,Int.reduceNeg,Int.reduceToNat,Nat.reduceLT,Nat.reduceSub,tab,Tryd.results18,List.toList_toArray])|(simp (disch:=omega) only [ziw]))
  all_goals (try (exfalso; omega))
  refine ok_loop (fun k : Nat => ⟨slots [(1, .ptr 0 []), (3, .sl (some (1, [], 0)) k), (4, .int .i64 (33 + (k : Int)))], rows [(0, .row (.st [.cell, .cell, .cell]) (encDr d)), (1, .row (.arr k .cell) (.agg ((volK d k).map .str)))], 2⟩) (fun k => k ≤ d.bl.length - 33) (fun k => 1000 - k) 0 ?_ (Nat.zero_le _) (fun k hk => ?_)
  · (refine yrn [(0, 0), (1, 1)] false ?_ ?_<;>(repeat' (first|(with_reducible first|exact ya1|exact ya2|exact ya3|refine jx rfl (by first|rfl|assumption|(simp only [znl,znHK];(first|done|fail)))|exact ya5|exact ya7|exact jy|exact jz|refine jA ?_|refine ya9 ?_ ?_ ?_|refine jC rfl (by first|rfl|assumption|(simp only [znl,znHK];(first|done|fail)))|refine MR.agg (MRL.cons ?_ ?_)|refine MR.fn ?_|refine MRL.cons ?_ ?_|exact MRL.nil|refine jE ?_ ?_|exact jF|exact jG|refine yb1 ?_ ?_|refine MB.row ?_|refine jI ?_ ?_|exact ya8|refine jJ rfl (by first|rfl|assumption|(simp only [znl,znHK];(first|done|fail)))|refine yb2 ?_|rfl)|(simp only [znl,znHK];(first|done|fail))|(simp only [↓reduceIte,zlk,Nat.reduceEqDiff,reduceCtorEq])|(with_reducible first|refine jJ ?_ ?_|refine ya5 ?_|refine ju ?_|refine jv ?_|refine jw ?_|refine jx ?_ (by first|rfl|assumption|(simp only [znl,znHK];(first|done|fail)))|refine jC ?_ (by first|rfl|assumption|(simp only [znl,znHK];(first|done|fail)))))))
    all_goals (first | rfl | trace_state)
  have hkl := volK_len d k
  have hnf := nls_frames (volK d k)
  by_cases hlt : k < d.bl.length - 33
  · have hG : Spec Tryd.prog 41 [encDr d, .int .i64 (33 + (k : Int))] (.tup [.str (gotF d (33 + k)), .int .i64 0]) := by
      have := rget_spec d hdf (33 + (k : Int)) (by omega)
      have e := getV_got (d := d) (i := 33 + k) (by omega)
      rw [show ((33 + k : Nat) : Int) = 33 + (k : Int) from by omega] at e
      rwa [e] at this
    have hsn := volK_succ d k
    repeat' (first|(with_reducible first|refine yrl (by constructor) ?_|refine jk (fun M hM=>?_)|(refine hM _ ?_;clear hM M)|refine xb3 (by decide) ?_|refine yqa (by assumption) ?_ ?_|refine yqb (by assumption) ?_ ?_)|((with_reducible refine je ?_)<;>(first|rfl|assumption|(simp only [znl,znHK];(first|done|fail))))|(with_reducible refine jf (by (simp only [↓reduceIte,zlk,Nat.reduceEqDiff,reduceCtorEq]);exact rfl) ?_)|((with_reducible first|refine jg (fun hc=>?_) (fun hc=>?_)|refine jh (fun hc=>?_) (fun hc=>?_))<;>(try simp (disch:=omega) only [zhb] at hc)<;>(try (exfalso;omega))<;>(try subst hc))|(with_reducible refine ji (by omega) ?_)|(simp (config := { maxSteps := 400000 }) only [↓jt,↓reduceIte,zvs,reduceCtorEq,Nat.reduceEqDiff,Nat.reduceAdd,Nat.reduceLeDiff,Nat.reduceMul,Int.reduceBNe,Int.reduceBEq,Int.reduceEq,Int.reduceNe,Int.reduceLT,Int.reduceLE,Int.reduceGT,Int.reduceGE,Int.reduceNeg,Int.reduceToNat,Nat.reduceLT,Nat.reduceSub,tab,hkl,hsn,Tryd.results18,List.toList_toArray])|(simp (disch:=omega) only [ziw]))
    all_goals (try (exfalso; omega))
    refine xl1 (k + 1) ?_ (by show k + 1 ≤ d.bl.length - 33; omega) (by show 1000 - (k + 1) < 1000 - k; omega)
    (refine yrn [(0, 0), (1, 3)] false ?_ ?_<;>(repeat' (first|(with_reducible first|exact ya1|exact ya2|exact ya3|refine jx rfl (by first|rfl|assumption|(simp only [znl,znHK];(first|done|fail)))|exact ya5|exact ya7|exact jy|exact jz|refine jA ?_|refine ya9 ?_ ?_ ?_|refine jC rfl (by first|rfl|assumption|(simp only [znl,znHK];(first|done|fail)))|refine MR.agg (MRL.cons ?_ ?_)|refine MR.fn ?_|refine MRL.cons ?_ ?_|exact MRL.nil|refine jE ?_ ?_|exact jF|exact jG|refine yb1 ?_ ?_|refine MB.row ?_|refine jI ?_ ?_|exact ya8|refine jJ rfl (by first|rfl|assumption|(simp only [znl,znHK];(first|done|fail)))|refine yb2 ?_|rfl)|(simp only [znl,znHK];(first|done|fail))|(simp only [↓reduceIte,zlk,Nat.reduceEqDiff,reduceCtorEq])|(with_reducible first|refine jJ ?_ ?_|refine ya5 ?_|refine ju ?_|refine jv ?_|refine jw ?_|refine jx ?_ (by first|rfl|assumption|(simp only [znl,znHK];(first|done|fail)))|refine jC ?_ (by first|rfl|assumption|(simp only [znl,znHK];(first|done|fail)))))))
    all_goals (first | rfl | omega | trace_state)
  obtain rfl : k = d.bl.length - 33 := by omega
  have hvv : volV d = volK d (d.bl.length - 33) := rfl
  rw [hvv]
  repeat' (first|(with_reducible first|refine yrl (by constructor) ?_|refine jk (fun M hM=>?_)|(refine hM _ ?_;clear hM M)|refine xb3 (by decide) ?_|refine yqa (by assumption) ?_ ?_|refine yqb (by assumption) ?_ ?_)|((with_reducible refine je ?_)<;>(first|rfl|assumption|(simp only [znl,znHK];(first|done|fail))))|(with_reducible refine jf (by (simp only [↓reduceIte,zlk,Nat.reduceEqDiff,reduceCtorEq]);exact rfl) ?_)|((with_reducible first|refine jg (fun hc=>?_) (fun hc=>?_)|refine jh (fun hc=>?_) (fun hc=>?_))<;>(try simp (disch:=omega) only [zhb] at hc)<;>(try (exfalso;omega))<;>(try subst hc))|(with_reducible refine ji (by omega) ?_)|(simp (config := { maxSteps := 400000 }) only [↓jt,↓reduceIte,zvs,reduceCtorEq,Nat.reduceEqDiff,Nat.reduceAdd,Nat.reduceLeDiff,Nat.reduceMul,Int.reduceBNe,Int.reduceBEq,Int.reduceEq,Int.reduceNe,Int.reduceLT,Int.reduceLE,Int.reduceGT,Int.reduceGE,Int.reduceNeg,Int.reduceToNat,Nat.reduceLT,Nat.reduceSub,tab,hkl,Tryd.results18,List.toList_toArray])|(simp (disch:=omega) only [ziw]))
  all_goals first
    | (exfalso; omega)
    | (refine rdt_of ?_ rfl; (refine rd_own (by (simp only [↓reduceIte,zlk,Nat.reduceEqDiff,reduceCtorEq]); exact rfl) ?_ ?_ ?_) <;> (first | rfl | assumption | (simp only [znl,znHK];(first|done|fail)) | (simp; done) | (simp; omega) | skip); all_goals (first | (rw [List.length_map, hkl]; done) | trace_state); done)
    | trace_state
def volW (d : Dr) (k : Nat) : Frames := (flushB (d.pe.take k) d.bl).drop 33
theorem volW_len (d : Dr) (k : Nat) : (volW d k).length = d.bl.length - 33 := by rw [volW, List.length_drop, flushB_len]
theorem volW_zero (d : Dr) : volW d 0 = d.bl.drop 33 := rfl
theorem drop_set_hi {α : Type} (l : List α) {n i : Nat} (x : α) (h : n ≤ i) : (l.set i x).drop n = (l.drop n).set (i - n) x := by
  rw [List.set_drop, Nat.add_sub_cancel' h]
theorem volW_in {d : Dr} {k : Nat} (hk : k < d.pe.length) (h0 : 33 ≤ (d.pe.getD k default).b) (h1 : (d.pe.getD k default).b < d.bl.length) : volW d (k + 1) = (volW d k).set ((d.pe.getD k default).b.toNat - 33) (d.pe.getD k default).d := by
  unfold volW
  rw [← take_snocW d.pe hk, flushB_snoc, wrB, if_pos ⟨by omega, by rw [flushB_len]; omega⟩, drop_set_hi _ _ (by omega)]
theorem volW_out {d : Dr} {k : Nat} (hk : k < d.pe.length) (h0 : (d.pe.getD k default).b < 33) : volW d (k + 1) = volW d k := by
  unfold volW
  rw [← take_snocW d.pe hk, flushB_snoc, wrB]
  split
  · rw [List.drop_set_of_lt (by omega)]
  · rfl
theorem volW_all {d : Dr} : volW d d.pe.length = volV d := by
  unfold volW volV
  rw [List.take_length]
  refine List.ext_getElem (by rw [List.length_drop, flushB_len]; simp) fun i h1 h2 => ?_
  rw [List.length_drop, flushB_len] at h1
  simp only [List.getElem_drop,List.getElem_map,List.getElem_range]
  have e := flushB_get d.pe d.bl (33 + i) (by omega)
  rw [List.getD_eq_getElem?_getD, List.getElem?_eq_getElem (by rw [flushB_len]; omega)] at e
  exact e
theorem phomeV_spec (d : Dr) {N : Nat} (hd : DOk N d) (hN : N < 2 ^ 30) : Spec Tryd.prog 13 [encDr d] (encStrs (volB d)) := by
  have hdf := hd.fit (show N < 2 ^ 36 by omega)
  have hB := pbad_spec d hdf
  unfold volB
  by_cases hb : badD d = 0
  case neg =>
    rw [if_neg hb]
    refine spec_ok Tryd.func13 rfl rfl (by kernel_rfl) (k := 1) rfl (by decide) ?_
    repeat' (first|(with_reducible first|refine yrl (by constructor) ?_|refine jk (fun M hM=>?_)|(refine hM _ ?_;clear hM M)|refine xb3 (by decide) ?_|refine yqa (by assumption) ?_ ?_|refine yqb (by assumption) ?_ ?_)|((with_reducible refine je ?_)<;>(first|rfl|assumption|(simp only [znl,znHK];(first|done|fail))))|(with_reducible refine jf (by (simp only [↓reduceIte,zlk,Nat.reduceEqDiff,reduceCtorEq]);exact rfl) ?_)|((with_reducible first|refine jg (fun hc=>?_) (fun hc=>?_)|refine jh (fun hc=>?_) (fun hc=>?_))<;>(try simp (disch:=omega) only [zhb] at hc)<;>(try (exfalso;omega))<;>(try subst hc))|(with_reducible refine ji (by omega) ?_)|(simp (config := { maxSteps := 400000 }) only [↓jt,↓reduceIte,zvs,reduceCtorEq,Nat.reduceEqDiff,Nat.reduceAdd,Nat.reduceLeDiff,Nat.reduceMul,Int.reduceBNe,Int.reduceBEq,Int.reduceEq,Int.reduceNe,Int.reduceLT,Int.reduceLE,Int.reduceGT,Int.reduceGE,Int.reduceNeg,Int.reduceToNat,Nat.reduceLT,Nat.reduceSub,tab,Tryd.results13,List.toList_toArray])|(simp (disch:=omega) only [ziw]))
    all_goals first
      | (exfalso; omega)
      | (exact rdt_of rd_nil rfl)
      | trace_state
  rw [hb] at hB
  rw [if_pos hb]
  obtain ⟨c1, c2, c3⟩ := badD_ok hb
  obtain ⟨g1, g2⟩ := checkD_ok c1
  have hpe := hd.pe
  have et : List.take (d.bl.length - 33) (List.drop 33 (d.bl.map VV.str)) = (volW d 0).map .str := by
    rw [List.take_of_length_le (by rw [List.length_drop, List.length_map]; exact Nat.le_refl _), volW_zero, List.map_drop]
  refine spec_ok Tryd.func13 rfl rfl (by kernel_rfl) (k := 1) rfl (by decide) ?_
  repeat' (first|(with_reducible first|refine yrl (by constructor) ?_|refine jk (fun M hM=>?_)|(refine hM _ ?_;clear hM M)|refine xb3 (by decide) ?_|refine yqa (by assumption) ?_ ?_|refine yqb (by assumption) ?_ ?_)|((with_reducible refine je ?_)<;>(first|rfl|assumption|(simp only [znl,znHK];(first|done|fail))))|(with_reducible refine jf (by (simp only [↓reduceIte,zlk,Nat.reduceEqDiff,reduceCtorEq]);exact rfl) ?_)|((with_reducible first|refine jg (fun hc=>?_) (fun hc=>?_)|refine jh (fun hc=>?_) (fun hc=>?_))<;>(try simp (disch:=omega) only [zhb] at hc)<;>(try (exfalso;omega))<;>(try subst hc))|(with_reducible refine ji (by omega) ?_)|(simp (config := { maxSteps := 400000 }) only [↓jt,↓reduceIte,zvs,reduceCtorEq,Nat.reduceEqDiff,Nat.reduceAdd,Nat.reduceLeDiff,Nat.reduceMul,Int.reduceBNe,Int.reduceBEq,Int.reduceEq,Int.reduceNe,Int.reduceLT,Int.reduceLE,Int.reduceGT,Int.reduceGE,Int.reduceNeg,Int.reduceToNat,Nat.reduceLT,Nat.reduceSub,tab,encDr,et,Tryd.results13,List.toList_toArray])|(simp (disch:=omega) only [ziw]))
  all_goals (try (exfalso; omega))
  refine ok_loop (fun k : Nat => ⟨slots [(3, .sl (some (1, [], 0)) (d.bl.length - 33)), (14, encWrs d.pe), (15, .int .i64 d.pe.length), (16, .int .i64 k)], rows [(1, .row (.arr (d.bl.length - 33) .cell) (.agg ((volW d k).map .str)))], 2⟩) (fun k => k ≤ d.pe.length) (fun k => d.pe.length - k) 0 ?_ (Nat.zero_le _) (fun k hk => ?_)
  · (refine yrn [(1, 1)] false ?_ ?_<;>(repeat' (first|(with_reducible first|exact ya1|exact ya2|exact ya3|refine jx rfl (by first|rfl|assumption|(simp only [znl,znHK];(first|done|fail)))|exact ya5|exact ya7|exact jy|exact jz|refine jA ?_|refine ya9 ?_ ?_ ?_|refine jC rfl (by first|rfl|assumption|(simp only [znl,znHK];(first|done|fail)))|refine MR.agg (MRL.cons ?_ ?_)|refine MR.fn ?_|refine MRL.cons ?_ ?_|exact MRL.nil|refine jE ?_ ?_|exact jF|exact jG|refine yb1 ?_ ?_|refine MB.row ?_|refine jI ?_ ?_|exact ya8|refine jJ rfl (by first|rfl|assumption|(simp only [znl,znHK];(first|done|fail)))|refine yb2 ?_|rfl)|(simp only [znl,znHK];(first|done|fail))|(simp only [↓reduceIte,zlk,Nat.reduceEqDiff,reduceCtorEq])|(with_reducible first|refine jJ ?_ ?_|refine ya5 ?_|refine ju ?_|refine jv ?_|refine jw ?_|refine jx ?_ (by first|rfl|assumption|(simp only [znl,znHK];(first|done|fail)))|refine jC ?_ (by first|rfl|assumption|(simp only [znl,znHK];(first|done|fail)))))))
    all_goals (first | rfl | exact volW_len _ _ | exact (volW_len _ _).symm | trace_state)
  have hvl := volW_len d k
  have hnf := nls_frames (volW d k)
  by_cases hlt : k < d.pe.length
  · obtain ⟨⟨q1, q2⟩, q3⟩ := g2 _ (getD_mem' hlt)
    by_cases h33 : 33 ≤ (d.pe.getD k default).b
    · have hs : ((volW d k).map VV.str).set ((d.pe.getD k default).b - 33).toNat (.str (d.pe.getD k default).d) = (volW d (k + 1)).map .str := by
        rw [volW_in hlt h33 q2, List.map_set, show ((d.pe.getD k default).b - 33).toNat = (d.pe.getD k default).b.toNat - 33 from by omega]
      repeat' (first|(with_reducible first|refine yrl (by constructor) ?_|refine jk (fun M hM=>?_)|(refine hM _ ?_;clear hM M)|refine xb3 (by decide) ?_|refine yqa (by assumption) ?_ ?_|refine yqb (by assumption) ?_ ?_)|((with_reducible refine je ?_)<;>(first|rfl|assumption|(simp only [znl,znHK];(first|done|fail))))|(with_reducible refine jf (by (simp only [↓reduceIte,zlk,Nat.reduceEqDiff,reduceCtorEq]);exact rfl) ?_)|((with_reducible first|refine jg (fun hc=>?_) (fun hc=>?_)|refine jh (fun hc=>?_) (fun hc=>?_))<;>(try simp (disch:=omega) only [zhb] at hc)<;>(try (exfalso;omega))<;>(try subst hc))|(with_reducible refine ji (by omega) ?_)|(simp (config := { maxSteps := 400000 }) only [↓jt,↓reduceIte,zvs,reduceCtorEq,Nat.reduceEqDiff,Nat.reduceAdd,Nat.reduceLeDiff,Nat.reduceMul,Int.reduceBNe,Int.reduceBEq,Int.reduceEq,Int.reduceNe,Int.reduceLT,Int.reduceLE,Int.reduceGT,Int.reduceGE,Int.reduceNeg,Int.reduceToNat,Nat.reduceLT,Nat.reduceSub,tab,encWr,hs,Tryd.results13,List.toList_toArray])|(simp (disch:=omega) only [ziw]))
      all_goals (try (exfalso; omega))
      refine xl1 (k + 1) ?_ (by show k + 1 ≤ d.pe.length; omega) (by show d.pe.length - (k + 1) < d.pe.length - k; omega)
      (refine yrn [(1, 1)] false ?_ ?_<;>(repeat' (first|(with_reducible first|exact ya1|exact ya2|exact ya3|refine jx rfl (by first|rfl|assumption|(simp only [znl,znHK];(first|done|fail)))|exact ya5|exact ya7|exact jy|exact jz|refine jA ?_|refine ya9 ?_ ?_ ?_|refine jC rfl (by first|rfl|assumption|(simp only [znl,znHK];(first|done|fail)))|refine MR.agg (MRL.cons ?_ ?_)|refine MR.fn ?_|refine MRL.cons ?_ ?_|exact MRL.nil|refine jE ?_ ?_|exact jF|exact jG|refine yb1 ?_ ?_|refine MB.row ?_|refine jI ?_ ?_|exact ya8|refine jJ rfl (by first|rfl|assumption|(simp only [znl,znHK];(first|done|fail)))|refine yb2 ?_|rfl)|(simp only [znl,znHK];(first|done|fail))|(simp only [↓reduceIte,zlk,Nat.reduceEqDiff,reduceCtorEq])|(with_reducible first|refine jJ ?_ ?_|refine ya5 ?_|refine ju ?_|refine jv ?_|refine jw ?_|refine jx ?_ (by first|rfl|assumption|(simp only [znl,znHK];(first|done|fail)))|refine jC ?_ (by first|rfl|assumption|(simp only [znl,znHK];(first|done|fail)))))))
      all_goals (first | rfl | trace_state)
    · have hs := volW_out hlt (by omega)
      repeat' (first|(with_reducible first|refine yrl (by constructor) ?_|refine jk (fun M hM=>?_)|(refine hM _ ?_;clear hM M)|refine xb3 (by decide) ?_|refine yqa (by assumption) ?_ ?_|refine yqb (by assumption) ?_ ?_)|((with_reducible refine je ?_)<;>(first|rfl|assumption|(simp only [znl,znHK];(first|done|fail))))|(with_reducible refine jf (by (simp only [↓reduceIte,zlk,Nat.reduceEqDiff,reduceCtorEq]);exact rfl) ?_)|((with_reducible first|refine jg (fun hc=>?_) (fun hc=>?_)|refine jh (fun hc=>?_) (fun hc=>?_))<;>(try simp (disch:=omega) only [zhb] at hc)<;>(try (exfalso;omega))<;>(try subst hc))|(with_reducible refine ji (by omega) ?_)|(simp (config := { maxSteps := 400000 }) only [↓jt,↓reduceIte,zvs,reduceCtorEq,Nat.reduceEqDiff,Nat.reduceAdd,Nat.reduceLeDiff,Nat.reduceMul,Int.reduceBNe,Int.reduceBEq,Int.reduceEq,Int.reduceNe,Int.reduceLT,Int.reduceLE,Int.reduceGT,Int.reduceGE,Int.reduceNeg,Int.reduceToNat,Nat.reduceLT,Nat.reduceSub,tab,encWr,Tryd.results13,List.toList_toArray])|(simp (disch:=omega) only [ziw]))
      all_goals (try (exfalso; omega))
      refine xl1 (k + 1) ?_ (by show k + 1 ≤ d.pe.length; omega) (by show d.pe.length - (k + 1) < d.pe.length - k; omega)
      (refine yrn [(1, 1)] false ?_ ?_<;>(repeat' (first|(with_reducible first|exact ya1|exact ya2|exact ya3|refine jx rfl (by first|rfl|assumption|(simp only [znl,znHK];(first|done|fail)))|exact ya5|exact ya7|exact jy|exact jz|refine jA ?_|refine ya9 ?_ ?_ ?_|refine jC rfl (by first|rfl|assumption|(simp only [znl,znHK];(first|done|fail)))|refine MR.agg (MRL.cons ?_ ?_)|refine MR.fn ?_|refine MRL.cons ?_ ?_|exact MRL.nil|refine jE ?_ ?_|exact jF|exact jG|refine yb1 ?_ ?_|refine MB.row ?_|refine jI ?_ ?_|exact ya8|refine jJ rfl (by first|rfl|assumption|(simp only [znl,znHK];(first|done|fail)))|refine yb2 ?_|rfl)|(simp only [znl,znHK];(first|done|fail))|(simp only [↓reduceIte,zlk,Nat.reduceEqDiff,reduceCtorEq])|(with_reducible first|refine jJ ?_ ?_|refine ya5 ?_|refine ju ?_|refine jv ?_|refine jw ?_|refine jx ?_ (by first|rfl|assumption|(simp only [znl,znHK];(first|done|fail)))|refine jC ?_ (by first|rfl|assumption|(simp only [znl,znHK];(first|done|fail)))))))
      all_goals (first | rfl | (rw [hs]; done) | trace_state)
  obtain rfl : k = d.pe.length := by omega
  rw [volW_all] at hvl hnf ⊢
  repeat' (first|(with_reducible first|refine yrl (by constructor) ?_|refine jk (fun M hM=>?_)|(refine hM _ ?_;clear hM M)|refine xb3 (by decide) ?_|refine yqa (by assumption) ?_ ?_|refine yqb (by assumption) ?_ ?_)|((with_reducible refine je ?_)<;>(first|rfl|assumption|(simp only [znl,znHK];(first|done|fail))))|(with_reducible refine jf (by (simp only [↓reduceIte,zlk,Nat.reduceEqDiff,reduceCtorEq]);exact rfl) ?_)|((with_reducible first|refine jg (fun hc=>?_) (fun hc=>?_)|refine jh (fun hc=>?_) (fun hc=>?_))<;>(try simp (disch:=omega) only [zhb] at hc)<;>(try (exfalso;omega))<;>(try subst hc))|(with_reducible refine ji (by omega) ?_)|(simp (config := { maxSteps := 400000 }) only [↓jt,↓reduceIte,zvs,reduceCtorEq,Nat.reduceEqDiff,Nat.reduceAdd,Nat.reduceLeDiff,Nat.reduceMul,Int.reduceBNe,Int.reduceBEq,Int.reduceEq,Int.reduceNe,Int.reduceLT,Int.reduceLE,Int.reduceGT,Int.reduceGE,Int.reduceNeg,Int.reduceToNat,Nat.reduceLT,Nat.reduceSub,tab,Tryd.results13,List.toList_toArray])|(simp (disch:=omega) only [ziw]))
  all_goals first
    | (exfalso; omega)
    | (refine rdt_of ?_ rfl; (refine rd_own (by (simp only [↓reduceIte,zlk,Nat.reduceEqDiff,reduceCtorEq]); exact rfl) ?_ ?_ ?_) <;> (first | rfl | assumption | (simp only [znl,znHK];(first|done|fail)) | (simp; done) | (simp; omega) | skip); all_goals (first | (rw [List.length_map, hvl]; done) | trace_state); done)
    | trace_state
end Go.Proofs.YtcilmfhncjfdbaaDoor.V
end
section
/-
  WAL: a drive for a volume.
-/
set_option linter.unusedVariables false
set_option linter.unusedSimpArgs false
namespace Go.Proofs.YtcilmfhncjfdbaaDoor.V
open Go
set_option maxRecDepth 100000
set_option linter.defProp false in
def znHL := And.intro @jO <| And.intro @nls_mapB <| And.intro @nls_frames <| True.intro
set_option maxHeartbeats 4000000
def not128 (s : List UInt8) : Bool := decide (s.length ≠ 128)
def formatD (v : Frames) : Dr × Int := if v.length < 1 ∨ 223 < v.length then (⟨[], [], 0⟩, 2) else if v.any not128 = true then (⟨[], [], 0⟩, 3) else (⟨List.replicate 33 zeros ++ v, [], -1⟩, 0)
theorem any_k {l : Frames} {k : Nat} (h : k < l.length) (e : (l.getD k []).length ≠ 128) : l.any not128 = true := by
  rw [List.any_eq_true]
  exact ⟨_, getD_mem' (α := List UInt8) h, by simp only [not128]; exact decide_eq_true e⟩
theorem any_no {l : Frames} (h : ∀ k, k < l.length → (l.getD k []).length = 128) : l.any not128 = false := by
  rw [List.any_eq_false]
  intro x hx
  obtain ⟨k, hk, rfl⟩ := List.getElem_of_mem hx
  have := h k hk
  rw [List.getD_eq_getElem?_getD, List.getElem?_eq_getElem hk] at this
  simp only [not128,decide_eq_true_eq]
  simpa using this
theorem rformat_spec (v : Frames) (hv : fitsL v) : Spec Tryd.prog 10 [encStrs v] (drV (formatD v)) := by
  obtain ⟨h1, h2⟩ := hv
  obtain ⟨R, hR⟩ : ∃ R, R = formatD v := ⟨_, rfl⟩
  rw [← hR]
  unfold formatD at hR
  have hZ : Spec Tryd.prog 26 [.int .i64 128] (.str zeros) := rzeros16_spec 128 (by omega)
  refine spec_ok Tryd.func10 rfl rfl (by kernel_rfl) (k := 1) rfl (by decide) ?_
  repeat' (first|(with_reducible first|refine yrl (by constructor) ?_|refine jk (fun M hM=>?_)|(refine hM _ ?_;clear hM M)|refine xb3 (by decide) ?_|refine yqa (by assumption) ?_ ?_|refine yqb (by assumption) ?_ ?_)|((with_reducible refine je ?_)<;>(first|rfl|assumption|(simp only [znl,znHL];(first|done|fail))))|(with_reducible refine jf (by (simp only [↓reduceIte,zlk,Nat.reduceEqDiff,reduceCtorEq]);exact rfl) ?_)|((with_reducible first|refine jg (fun hc=>?_) (fun hc=>?_)|refine jh (fun hc=>?_) (fun hc=>?_))<;>(try simp (disch:=omega) only [zhb] at hc)<;>(try (exfalso;omega))<;>(try subst hc))|(with_reducible refine ji (by omega) ?_)|(simp (config := { maxSteps := 400000 }) only [↓jt,↓reduceIte,zvs,reduceCtorEq,Nat.reduceEqDiff,Nat.reduceAdd,Nat.reduceLeDiff,Nat.reduceMul,Int.reduceBNe,Int.reduceBEq,Int.reduceEq,Int.reduceNe,Int.reduceLT,Int.reduceLE,Int.reduceGT,Int.reduceGE,Int.reduceNeg,Int.reduceToNat,Nat.reduceLT,Nat.reduceSub,tab,Tryd.results10,List.toList_toArray])|(simp (disch:=omega) only [ziw]))
  all_goals first
    | (exfalso; omega)
    | (rw [hR, if_pos (by omega)]; ((try simp only [drV,encDr,encWrs,List.map_nil]); simp only [zrds]; (repeat' (first | exact rd_nil | exact Rd.refl _ _ (by first|rfl|assumption|(simp only [znl,znHL];(first|done|fail))) | (refine And.intro ?_ ?_) | (refine rd_own (by (simp only [↓reduceIte,zlk,Nat.reduceEqDiff,reduceCtorEq]); exact rfl) ?_ ?_ ?_) | rfl | assumption | (simp only [znl,znHL];(first|done|fail)) | (simp; done) | (simp; omega)))); done)
    | skip
  rw [if_neg (by omega)] at hR
  refine ok_loop (fun k : Nat => ⟨slots [(0, encStrs v), (2, .ptr 0 []), (3, .int .i64 0), (4, .ptr 1 []), (5, .int .i64 k)], rows [(0, .row (.st [.cell, .cell, .cell]) (.agg [.sl none 0, .sl none 0, .int .i64 0])), (1, .row (.st [.cell, .cell, .cell]) (.agg [.sl (some (2, [], 0)) k, .sl none 0, .int .i64 (-1)])), (2, .row (.arr k .cell) (.agg (List.replicate k (.str zeros))))], 3⟩) (fun k => k ≤ 33) (fun k => 33 - k) 0 ?_ (Nat.zero_le _) (fun k hk => ?_)
  · (refine yrn [(0, 0), (1, 1)] false ?_ ?_<;>(repeat' (first|(with_reducible first|exact ya1|exact ya2|exact ya3|refine jx rfl (by first|rfl|assumption|(simp only [znl,znHL];(first|done|fail)))|exact ya5|exact ya7|exact jy|exact jz|refine jA ?_|refine ya9 ?_ ?_ ?_|refine jC rfl (by first|rfl|assumption|(simp only [znl,znHL];(first|done|fail)))|refine MR.agg (MRL.cons ?_ ?_)|refine MR.fn ?_|refine MRL.cons ?_ ?_|exact MRL.nil|refine jE ?_ ?_|exact jF|exact jG|refine yb1 ?_ ?_|refine MB.row ?_|refine jI ?_ ?_|exact ya8|refine jJ rfl (by first|rfl|assumption|(simp only [znl,znHL];(first|done|fail)))|refine yb2 ?_|rfl)|(simp only [znl,znHL];(first|done|fail))|(simp only [↓reduceIte,zlk,Nat.reduceEqDiff,reduceCtorEq])|(with_reducible first|refine jJ ?_ ?_|refine ya5 ?_|refine ju ?_|refine jv ?_|refine jw ?_|refine jx ?_ (by first|rfl|assumption|(simp only [znl,znHL];(first|done|fail)))|refine jC ?_ (by first|rfl|assumption|(simp only [znl,znHL];(first|done|fail)))))))
    all_goals (first | rfl | trace_state)
  by_cases hlt : k < 33
  · have hrs : List.replicate k (VV.str zeros) ++ [.str zeros] = List.replicate (k + 1) (.str zeros) := by rw [List.replicate_succ']
    repeat' (first|(with_reducible first|refine yrl (by constructor) ?_|refine jk (fun M hM=>?_)|(refine hM _ ?_;clear hM M)|refine xb3 (by decide) ?_|refine yqa (by assumption) ?_ ?_|refine yqb (by assumption) ?_ ?_)|((with_reducible refine je ?_)<;>(first|rfl|assumption|(simp only [znl,znHL];(first|done|fail))))|(with_reducible refine jf (by (simp only [↓reduceIte,zlk,Nat.reduceEqDiff,reduceCtorEq]);exact rfl) ?_)|((with_reducible first|refine jg (fun hc=>?_) (fun hc=>?_)|refine jh (fun hc=>?_) (fun hc=>?_))<;>(try simp (disch:=omega) only [zhb] at hc)<;>(try (exfalso;omega))<;>(try subst hc))|(with_reducible refine ji (by omega) ?_)|(simp (config := { maxSteps := 400000 }) only [↓jt,↓reduceIte,zvs,reduceCtorEq,Nat.reduceEqDiff,Nat.reduceAdd,Nat.reduceLeDiff,Nat.reduceMul,Int.reduceBNe,Int.reduceBEq,Int.reduceEq,Int.reduceNe,Int.reduceLT,Int.reduceLE,Int.reduceGT,Int.reduceGE,Int.reduceNeg,Int.reduceToNat,Nat.reduceLT,Nat.reduceSub,tab,Tryd.results10,List.toList_toArray])|(simp (disch:=omega) only [ziw]))
    all_goals (try (exfalso; omega))
    refine ok_drawC 4 (by kernel_rfl) (by decide +kernel) (by intro m hm; simp only [upd_ap,rows_cons,rows_nil]; (repeat (first | rfl | rw [if_neg (by omega)]))) (fun M hM => ?_); simp only [List.take_succ_cons,List.take_zero,List.drop_succ_cons,List.drop_zero]
    repeat' (first|(with_reducible first|refine yrl (by constructor) ?_|refine jk (fun M hM=>?_)|(refine hM _ ?_;clear hM M)|refine xb3 (by decide) ?_|refine yqa (by assumption) ?_ ?_|refine yqb (by assumption) ?_ ?_)|((with_reducible refine je ?_)<;>(first|rfl|assumption|(simp only [znl,znHL];(first|done|fail))))|(with_reducible refine jf (by (simp only [↓reduceIte,zlk,Nat.reduceEqDiff,reduceCtorEq]);exact rfl) ?_)|((with_reducible first|refine jg (fun hc=>?_) (fun hc=>?_)|refine jh (fun hc=>?_) (fun hc=>?_))<;>(try simp (disch:=omega) only [zhb] at hc)<;>(try (exfalso;omega))<;>(try subst hc))|(with_reducible refine ji (by omega) ?_)|(simp (config := { maxSteps := 400000 }) only [↓jt,↓reduceIte,zvs,reduceCtorEq,Nat.reduceEqDiff,Nat.reduceAdd,Nat.reduceLeDiff,Nat.reduceMul,Int.reduceBNe,Int.reduceBEq,Int.reduceEq,Int.reduceNe,Int.reduceLT,Int.reduceLE,Int.reduceGT,Int.reduceGE,Int.reduceNeg,Int.reduceToNat,Nat.reduceLT,Nat.reduceSub,tab,hrs,List.length_replicate,Tryd.results10,List.toList_toArray])|(simp (disch:=omega) only [ziw]))
    all_goals (try (exfalso; omega))
    refine xl1 (k + 1) ?_ (by show k + 1 ≤ 33; omega) (by show 33 - (k + 1) < 33 - k; omega)
    (refine yrn [(0, 0), (1, 1), (2, 259)] false ?_ ?_<;>(repeat' (first|(with_reducible first|exact ya1|exact ya2|exact ya3|refine jx rfl (by first|rfl|assumption|(simp only [znl,znHL];(first|done|fail)))|exact ya5|exact ya7|exact jy|exact jz|refine jA ?_|refine ya9 ?_ ?_ ?_|refine jC rfl (by first|rfl|assumption|(simp only [znl,znHL];(first|done|fail)))|refine MR.agg (MRL.cons ?_ ?_)|refine MR.fn ?_|refine MRL.cons ?_ ?_|exact MRL.nil|refine jE ?_ ?_|exact jF|exact jG|refine yb1 ?_ ?_|refine MB.row ?_|refine jI ?_ ?_|exact ya8|refine jJ rfl (by first|rfl|assumption|(simp only [znl,znHL];(first|done|fail)))|refine yb2 ?_|rfl)|(simp only [znl,znHL];(first|done|fail))|(simp only [↓reduceIte,zlk,Nat.reduceEqDiff,reduceCtorEq])|(with_reducible first|refine jJ ?_ ?_|refine ya5 ?_|refine ju ?_|refine jv ?_|refine jw ?_|refine jx ?_ (by first|rfl|assumption|(simp only [znl,znHL];(first|done|fail)))|refine jC ?_ (by first|rfl|assumption|(simp only [znl,znHL];(first|done|fail)))))))
    all_goals (first | rfl | trace_state)
  obtain rfl : k = 33 := by omega
  repeat' (first|(with_reducible first|refine yrl (by constructor) ?_|refine jk (fun M hM=>?_)|(refine hM _ ?_;clear hM M)|refine xb3 (by decide) ?_|refine yqa (by assumption) ?_ ?_|refine yqb (by assumption) ?_ ?_)|((with_reducible refine je ?_)<;>(first|rfl|assumption|(simp only [znl,znHL];(first|done|fail))))|(with_reducible refine jf (by (simp only [↓reduceIte,zlk,Nat.reduceEqDiff,reduceCtorEq]);exact rfl) ?_)|((with_reducible first|refine jg (fun hc=>?_) (fun hc=>?_)|refine jh (fun hc=>?_) (fun hc=>?_))<;>(try simp (disch:=omega) only [zhb] at hc)<;>(try (exfalso;omega))<;>(try subst hc))|(with_reducible refine ji (by omega) ?_)|(simp (config := { maxSteps := 400000 }) only [↓jt,↓reduceIte,zvs,reduceCtorEq,Nat.reduceEqDiff,Nat.reduceAdd,Nat.reduceLeDiff,Nat.reduceMul,Int.reduceBNe,Int.reduceBEq,Int.reduceEq,Int.reduceNe,Int.reduceLT,Int.reduceLE,Int.reduceGT,Int.reduceGE,Int.reduceNeg,Int.reduceToNat,Nat.reduceLT,Nat.reduceSub,tab,Tryd.results10,List.toList_toArray])|(simp (disch:=omega) only [ziw]))
  all_goals (try (exfalso; omega))
  refine ok_loop (fun i : Nat => ⟨slots [(0, encStrs v), (2, .ptr 0 []), (3, .int .i64 0), (4, .ptr 1 []), (28, .int .i64 v.length), (29, .int .i64 i)], rows [(0, .row (.st [.cell, .cell, .cell]) (.agg [.sl none 0, .sl none 0, .int .i64 0])), (1, .row (.st [.cell, .cell, .cell]) (.agg [.sl (some (2, [], 0)) (33 + i), .sl none 0, .int .i64 (-1)])), (2, .row (.arr (33 + i) .cell) (.agg (List.replicate 33 (.str zeros) ++ (v.take i).map .str)))], 3⟩)
    (fun i => i ≤ v.length ∧ ∀ j, j < i → (v.getD j []).length = 128) (fun i => v.length - i) 0 ?_ ⟨Nat.zero_le _, fun j hj => by omega⟩ (fun i hi => ?_)
  · (refine yrn [(0, 0), (1, 1), (2, 2)] false ?_ ?_<;>(repeat' (first|(with_reducible first|exact ya1|exact ya2|exact ya3|refine jx rfl (by first|rfl|assumption|(simp only [znl,znHL];(first|done|fail)))|exact ya5|exact ya7|exact jy|exact jz|refine jA ?_|refine ya9 ?_ ?_ ?_|refine jC rfl (by first|rfl|assumption|(simp only [znl,znHL];(first|done|fail)))|refine MR.agg (MRL.cons ?_ ?_)|refine MR.fn ?_|refine MRL.cons ?_ ?_|exact MRL.nil|refine jE ?_ ?_|exact jF|exact jG|refine yb1 ?_ ?_|refine MB.row ?_|refine jI ?_ ?_|exact ya8|refine jJ rfl (by first|rfl|assumption|(simp only [znl,znHL];(first|done|fail)))|refine yb2 ?_|rfl)|(simp only [znl,znHL];(first|done|fail))|(simp only [↓reduceIte,zlk,Nat.reduceEqDiff,reduceCtorEq])|(with_reducible first|refine jJ ?_ ?_|refine ya5 ?_|refine ju ?_|refine jv ?_|refine jw ?_|refine jx ?_ (by first|rfl|assumption|(simp only [znl,znHL];(first|done|fail)))|refine jC ?_ (by first|rfl|assumption|(simp only [znl,znHL];(first|done|fail)))))))
    all_goals (first | rfl | (simp; done) | trace_state)
  obtain ⟨hi, hall⟩ := hi
  by_cases hlt : i < v.length
  · have hs2 := h2 _ (getD_mem' (α := List UInt8) hlt)
    rw [default_str] at hs2
    have hsn : List.replicate 33 (VV.str zeros) ++ (v.take i).map .str ++ [.str (v.getD i [])] = List.replicate 33 (VV.str zeros) ++ (v.take (i + 1)).map .str := by
      rw [List.append_assoc, List.take_succ_eq_append_getElem hlt, List.map_append, List.getD_eq_getElem?_getD, List.getElem?_eq_getElem hlt]; rfl
    have hln : (List.replicate 33 (VV.str zeros) ++ (v.take i).map VV.str).length = 33 + i := by rw [List.length_append, List.length_replicate, List.length_map, List.length_take]; omega
    by_cases h128 : (v.getD i []).length = 128
    · repeat' (first|(with_reducible first|refine yrl (by constructor) ?_|refine jk (fun M hM=>?_)|(refine hM _ ?_;clear hM M)|refine xb3 (by decide) ?_|refine yqa (by assumption) ?_ ?_|refine yqb (by assumption) ?_ ?_)|((with_reducible refine je ?_)<;>(first|rfl|assumption|(simp only [znl,znHL];(first|done|fail))))|(with_reducible refine jf (by (simp only [↓reduceIte,zlk,Nat.reduceEqDiff,reduceCtorEq]);exact rfl) ?_)|((with_reducible first|refine jg (fun hc=>?_) (fun hc=>?_)|refine jh (fun hc=>?_) (fun hc=>?_))<;>(try simp (disch:=omega) only [zhb] at hc)<;>(try (exfalso;omega))<;>(try subst hc))|(with_reducible refine ji (by omega) ?_)|(simp (config := { maxSteps := 400000 }) only [↓jt,↓reduceIte,zvs,reduceCtorEq,Nat.reduceEqDiff,Nat.reduceAdd,Nat.reduceLeDiff,Nat.reduceMul,Int.reduceBNe,Int.reduceBEq,Int.reduceEq,Int.reduceNe,Int.reduceLT,Int.reduceLE,Int.reduceGT,Int.reduceGE,Int.reduceNeg,Int.reduceToNat,Nat.reduceLT,Nat.reduceSub,tab,Tryd.results10,List.toList_toArray])|(simp (disch:=omega) only [ziw]))
      all_goals (try (exfalso; omega))
      refine ok_drawC 7 (by kernel_rfl) (by decide +kernel) (by intro m hm; simp only [upd_ap,rows_cons,rows_nil]; (repeat (first | rfl | rw [if_neg (by omega)]))) (fun M hM => ?_); simp only [List.take_succ_cons,List.take_zero,List.drop_succ_cons,List.drop_zero]
      repeat' (first|(with_reducible first|refine yrl (by constructor) ?_|refine jk (fun M hM=>?_)|(refine hM _ ?_;clear hM M)|refine xb3 (by decide) ?_|refine yqa (by assumption) ?_ ?_|refine yqb (by assumption) ?_ ?_)|((with_reducible refine je ?_)<;>(first|rfl|assumption|(simp only [znl,znHL];(first|done|fail))))|(with_reducible refine jf (by (simp only [↓reduceIte,zlk,Nat.reduceEqDiff,reduceCtorEq]);exact rfl) ?_)|((with_reducible first|refine jg (fun hc=>?_) (fun hc=>?_)|refine jh (fun hc=>?_) (fun hc=>?_))<;>(try simp (disch:=omega) only [zhb] at hc)<;>(try (exfalso;omega))<;>(try subst hc))|(with_reducible refine ji (by omega) ?_)|(simp (config := { maxSteps := 400000 }) only [↓jt,↓reduceIte,zvs,reduceCtorEq,Nat.reduceEqDiff,Nat.reduceAdd,Nat.reduceLeDiff,Nat.reduceMul,Int.reduceBNe,Int.reduceBEq,Int.reduceEq,Int.reduceNe,Int.reduceLT,Int.reduceLE,Int.reduceGT,Int.reduceGE,Int.reduceNeg,Int.reduceToNat,Nat.reduceLT,Nat.reduceSub,tab,hsn,hln,Tryd.results10,List.toList_toArray])|(simp (disch:=omega) only [ziw]))
      all_goals (try (exfalso; omega))
      refine xl1 (i + 1) ?_ ⟨by omega, fun j hj => ?_⟩ (by show v.length - (i + 1) < v.length - i; omega)
      · (refine yrn [(0, 0), (1, 1), (2, 451)] false ?_ ?_<;>(repeat' (first|(with_reducible first|exact ya1|exact ya2|exact ya3|refine jx rfl (by first|rfl|assumption|(simp only [znl,znHL];(first|done|fail)))|exact ya5|exact ya7|exact jy|exact jz|refine jA ?_|refine ya9 ?_ ?_ ?_|refine jC rfl (by first|rfl|assumption|(simp only [znl,znHL];(first|done|fail)))|refine MR.agg (MRL.cons ?_ ?_)|refine MR.fn ?_|refine MRL.cons ?_ ?_|exact MRL.nil|refine jE ?_ ?_|exact jF|exact jG|refine yb1 ?_ ?_|refine MB.row ?_|refine jI ?_ ?_|exact ya8|refine jJ rfl (by first|rfl|assumption|(simp only [znl,znHL];(first|done|fail)))|refine yb2 ?_|rfl)|(simp only [znl,znHL];(first|done|fail))|(simp only [↓reduceIte,zlk,Nat.reduceEqDiff,reduceCtorEq])|(with_reducible first|refine jJ ?_ ?_|refine ya5 ?_|refine ju ?_|refine jv ?_|refine jw ?_|refine jx ?_ (by first|rfl|assumption|(simp only [znl,znHL];(first|done|fail)))|refine jC ?_ (by first|rfl|assumption|(simp only [znl,znHL];(first|done|fail)))))))
        all_goals (first | rfl | omega | trace_state)
      · by_cases e : j = i
        · subst e; exact h128
        · exact hall j (by omega)
    · rw [if_pos (any_k hlt h128)] at hR
      repeat' (first|(with_reducible first|refine yrl (by constructor) ?_|refine jk (fun M hM=>?_)|(refine hM _ ?_;clear hM M)|refine xb3 (by decide) ?_|refine yqa (by assumption) ?_ ?_|refine yqb (by assumption) ?_ ?_)|((with_reducible refine je ?_)<;>(first|rfl|assumption|(simp only [znl,znHL];(first|done|fail))))|(with_reducible refine jf (by (simp only [↓reduceIte,zlk,Nat.reduceEqDiff,reduceCtorEq]);exact rfl) ?_)|((with_reducible first|refine jg (fun hc=>?_) (fun hc=>?_)|refine jh (fun hc=>?_) (fun hc=>?_))<;>(try simp (disch:=omega) only [zhb] at hc)<;>(try (exfalso;omega))<;>(try subst hc))|(with_reducible refine ji (by omega) ?_)|(simp (config := { maxSteps := 400000 }) only [↓jt,↓reduceIte,zvs,reduceCtorEq,Nat.reduceEqDiff,Nat.reduceAdd,Nat.reduceLeDiff,Nat.reduceMul,Int.reduceBNe,Int.reduceBEq,Int.reduceEq,Int.reduceNe,Int.reduceLT,Int.reduceLE,Int.reduceGT,Int.reduceGE,Int.reduceNeg,Int.reduceToNat,Nat.reduceLT,Nat.reduceSub,tab,Tryd.results10,List.toList_toArray])|(simp (disch:=omega) only [ziw]))
      all_goals first
        | (exfalso; omega)
        | (rw [hR]; ((try simp only [drV,encDr,encWrs,List.map_nil]); simp only [zrds]; (repeat' (first | exact rd_nil | exact Rd.refl _ _ (by first|rfl|assumption|(simp only [znl,znHL];(first|done|fail))) | (refine And.intro ?_ ?_) | (refine rd_own (by (simp only [↓reduceIte,zlk,Nat.reduceEqDiff,reduceCtorEq]); exact rfl) ?_ ?_ ?_) | rfl | assumption | (simp only [znl,znHL];(first|done|fail)) | (simp; done) | (simp; omega)))); done)
        | trace_state
  obtain rfl : i = v.length := by omega
  rw [any_no hall, if_neg (by decide)] at hR
  have hln : (List.replicate 33 (VV.str zeros) ++ (v.take v.length).map VV.str).length = 33 + v.length := by rw [List.length_append, List.length_replicate, List.length_map, List.length_take]; omega
  rw [List.take_length] at hln ⊢
  have hnn : nls (List.replicate 33 (VV.str zeros) ++ v.map VV.str) = true := by rw [nls_append, nls_repStr, nls_mapStr]; rfl
  repeat' (first|(with_reducible first|refine yrl (by constructor) ?_|refine jk (fun M hM=>?_)|(refine hM _ ?_;clear hM M)|refine xb3 (by decide) ?_|refine yqa (by assumption) ?_ ?_|refine yqb (by assumption) ?_ ?_)|((with_reducible refine je ?_)<;>(first|rfl|assumption|(simp only [znl,znHL];(first|done|fail))))|(with_reducible refine jf (by (simp only [↓reduceIte,zlk,Nat.reduceEqDiff,reduceCtorEq]);exact rfl) ?_)|((with_reducible first|refine jg (fun hc=>?_) (fun hc=>?_)|refine jh (fun hc=>?_) (fun hc=>?_))<;>(try simp (disch:=omega) only [zhb] at hc)<;>(try (exfalso;omega))<;>(try subst hc))|(with_reducible refine ji (by omega) ?_)|(simp (config := { maxSteps := 400000 }) only [↓jt,↓reduceIte,zvs,reduceCtorEq,Nat.reduceEqDiff,Nat.reduceAdd,Nat.reduceLeDiff,Nat.reduceMul,Int.reduceBNe,Int.reduceBEq,Int.reduceEq,Int.reduceNe,Int.reduceLT,Int.reduceLE,Int.reduceGT,Int.reduceGE,Int.reduceNeg,Int.reduceToNat,Nat.reduceLT,Nat.reduceSub,tab,hln,Tryd.results10,List.toList_toArray])|(simp (disch:=omega) only [ziw]))
  all_goals first
    | (exfalso; omega)
    | (rw [hR]; simp only [drV,encDr,List.map_append,List.map_replicate,List.map_nil]; simp only [zrds]; refine ⟨?_, rd_nil⟩; exact rd_own (by simp only [↓reduceIte,zlk,Nat.reduceEqDiff,reduceCtorEq]; exact rfl) hln.symm rfl hnn)
    | trace_state
theorem pformat_spec (v : Frames) (hv : fitsL v) : Spec Tryd.prog 9 [encStrs v] (drV (formatD v)) := by
  obtain ⟨h1, h2⟩ := hv
  obtain ⟨R, hR⟩ : ∃ R, R = formatD v := ⟨_, rfl⟩
  rw [← hR]
  unfold formatD at hR
  refine spec_ok Tryd.func9 rfl rfl (by kernel_rfl) (k := 1) rfl (by decide) ?_
  repeat' (first|(with_reducible first|refine yrl (by constructor) ?_|refine jk (fun M hM=>?_)|(refine hM _ ?_;clear hM M)|refine xb3 (by decide) ?_|refine yqa (by assumption) ?_ ?_|refine yqb (by assumption) ?_ ?_)|((with_reducible refine je ?_)<;>(first|rfl|assumption|(simp only [znl,znHL];(first|done|fail))))|(with_reducible refine jf (by (simp only [↓reduceIte,zlk,Nat.reduceEqDiff,reduceCtorEq]);exact rfl) ?_)|((with_reducible first|refine jg (fun hc=>?_) (fun hc=>?_)|refine jh (fun hc=>?_) (fun hc=>?_))<;>(try simp (disch:=omega) only [zhb] at hc)<;>(try (exfalso;omega))<;>(try subst hc))|(with_reducible refine ji (by omega) ?_)|(simp (config := { maxSteps := 400000 }) only [↓jt,↓reduceIte,zvs,reduceCtorEq,Nat.reduceEqDiff,Nat.reduceAdd,Nat.reduceLeDiff,Nat.reduceMul,Int.reduceBNe,Int.reduceBEq,Int.reduceEq,Int.reduceNe,Int.reduceLT,Int.reduceLE,Int.reduceGT,Int.reduceGE,Int.reduceNeg,Int.reduceToNat,Nat.reduceLT,Nat.reduceSub,tab,Tryd.results9,List.toList_toArray])|(simp (disch:=omega) only [ziw]))
  all_goals first
    | (exfalso; omega)
    | (rw [hR, if_pos (by omega)]; ((try simp only [drV,encDr,encWrs,List.map_nil]); simp only [zrds]; (repeat' (first | exact rd_nil | exact Rd.refl _ _ (by first|rfl|assumption|(simp only [znl,znHL];(first|done|fail))) | (refine And.intro ?_ ?_) | (refine rd_own (by (simp only [↓reduceIte,zlk,Nat.reduceEqDiff,reduceCtorEq]); exact rfl) ?_ ?_ ?_) | rfl | assumption | (simp only [znl,znHL];(first|done|fail)) | (simp; done) | (simp; omega)))); done)
    | skip
  rw [if_neg (by omega)] at hR
  refine ok_loop (fun i : Nat => ⟨slots [(0, encStrs v), (2, .ptr 0 []), (3, .int .i64 0), (17, encStrs v), (18, .int .i64 v.length), (19, .int .i64 i)], rows [(0, .row (.st [.cell, .cell, .cell]) (.agg [.sl none 0, .sl none 0, .int .i64 0]))], 1⟩)
    (fun i => i ≤ v.length ∧ ∀ j, j < i → (v.getD j []).length = 128) (fun i => v.length - i) 0 ?_ ⟨Nat.zero_le _, fun j hj => by omega⟩ (fun i hi => ?_)
  · (refine yrn [(0, 0)] false ?_ ?_<;>(repeat' (first|(with_reducible first|exact ya1|exact ya2|exact ya3|refine jx rfl (by first|rfl|assumption|(simp only [znl,znHL];(first|done|fail)))|exact ya5|exact ya7|exact jy|exact jz|refine jA ?_|refine ya9 ?_ ?_ ?_|refine jC rfl (by first|rfl|assumption|(simp only [znl,znHL];(first|done|fail)))|refine MR.agg (MRL.cons ?_ ?_)|refine MR.fn ?_|refine MRL.cons ?_ ?_|exact MRL.nil|refine jE ?_ ?_|exact jF|exact jG|refine yb1 ?_ ?_|refine MB.row ?_|refine jI ?_ ?_|exact ya8|refine jJ rfl (by first|rfl|assumption|(simp only [znl,znHL];(first|done|fail)))|refine yb2 ?_|rfl)|(simp only [znl,znHL];(first|done|fail))|(simp only [↓reduceIte,zlk,Nat.reduceEqDiff,reduceCtorEq])|(with_reducible first|refine jJ ?_ ?_|refine ya5 ?_|refine ju ?_|refine jv ?_|refine jw ?_|refine jx ?_ (by first|rfl|assumption|(simp only [znl,znHL];(first|done|fail)))|refine jC ?_ (by first|rfl|assumption|(simp only [znl,znHL];(first|done|fail)))))))
    all_goals (first | rfl | trace_state)
  obtain ⟨hi, hall⟩ := hi
  by_cases hlt : i < v.length
  · have hs2 := h2 _ (getD_mem' (α := List UInt8) hlt)
    rw [default_str] at hs2
    by_cases h128 : (v.getD i []).length = 128
    · repeat' (first|(with_reducible first|refine yrl (by constructor) ?_|refine jk (fun M hM=>?_)|(refine hM _ ?_;clear hM M)|refine xb3 (by decide) ?_|refine yqa (by assumption) ?_ ?_|refine yqb (by assumption) ?_ ?_)|((with_reducible refine je ?_)<;>(first|rfl|assumption|(simp only [znl,znHL];(first|done|fail))))|(with_reducible refine jf (by (simp only [↓reduceIte,zlk,Nat.reduceEqDiff,reduceCtorEq]);exact rfl) ?_)|((with_reducible first|refine jg (fun hc=>?_) (fun hc=>?_)|refine jh (fun hc=>?_) (fun hc=>?_))<;>(try simp (disch:=omega) only [zhb] at hc)<;>(try (exfalso;omega))<;>(try subst hc))|(with_reducible refine ji (by omega) ?_)|(simp (config := { maxSteps := 400000 }) only [↓jt,↓reduceIte,zvs,reduceCtorEq,Nat.reduceEqDiff,Nat.reduceAdd,Nat.reduceLeDiff,Nat.reduceMul,Int.reduceBNe,Int.reduceBEq,Int.reduceEq,Int.reduceNe,Int.reduceLT,Int.reduceLE,Int.reduceGT,Int.reduceGE,Int.reduceNeg,Int.reduceToNat,Nat.reduceLT,Nat.reduceSub,tab,Tryd.results9,List.toList_toArray])|(simp (disch:=omega) only [ziw]))
      all_goals (try (exfalso; omega))
      refine xl1 (i + 1) ?_ ⟨by omega, fun j hj => ?_⟩ (by show v.length - (i + 1) < v.length - i; omega)
      · (refine yrn [(0, 0)] false ?_ ?_<;>(repeat' (first|(with_reducible first|exact ya1|exact ya2|exact ya3|refine jx rfl (by first|rfl|assumption|(simp only [znl,znHL];(first|done|fail)))|exact ya5|exact ya7|exact jy|exact jz|refine jA ?_|refine ya9 ?_ ?_ ?_|refine jC rfl (by first|rfl|assumption|(simp only [znl,znHL];(first|done|fail)))|refine MR.agg (MRL.cons ?_ ?_)|refine MR.fn ?_|refine MRL.cons ?_ ?_|exact MRL.nil|refine jE ?_ ?_|exact jF|exact jG|refine yb1 ?_ ?_|refine MB.row ?_|refine jI ?_ ?_|exact ya8|refine jJ rfl (by first|rfl|assumption|(simp only [znl,znHL];(first|done|fail)))|refine yb2 ?_|rfl)|(simp only [znl,znHL];(first|done|fail))|(simp only [↓reduceIte,zlk,Nat.reduceEqDiff,reduceCtorEq])|(with_reducible first|refine jJ ?_ ?_|refine ya5 ?_|refine ju ?_|refine jv ?_|refine jw ?_|refine jx ?_ (by first|rfl|assumption|(simp only [znl,znHL];(first|done|fail)))|refine jC ?_ (by first|rfl|assumption|(simp only [znl,znHL];(first|done|fail)))))))
        all_goals (first | rfl | trace_state)
      · by_cases e : j = i
        · subst e; exact h128
        · exact hall j (by omega)
    · rw [if_pos (any_k hlt h128)] at hR
      repeat' (first|(with_reducible first|refine yrl (by constructor) ?_|refine jk (fun M hM=>?_)|(refine hM _ ?_;clear hM M)|refine xb3 (by decide) ?_|refine yqa (by assumption) ?_ ?_|refine yqb (by assumption) ?_ ?_)|((with_reducible refine je ?_)<;>(first|rfl|assumption|(simp only [znl,znHL];(first|done|fail))))|(with_reducible refine jf (by (simp only [↓reduceIte,zlk,Nat.reduceEqDiff,reduceCtorEq]);exact rfl) ?_)|((with_reducible first|refine jg (fun hc=>?_) (fun hc=>?_)|refine jh (fun hc=>?_) (fun hc=>?_))<;>(try simp (disch:=omega) only [zhb] at hc)<;>(try (exfalso;omega))<;>(try subst hc))|(with_reducible refine ji (by omega) ?_)|(simp (config := { maxSteps := 400000 }) only [↓jt,↓reduceIte,zvs,reduceCtorEq,Nat.reduceEqDiff,Nat.reduceAdd,Nat.reduceLeDiff,Nat.reduceMul,Int.reduceBNe,Int.reduceBEq,Int.reduceEq,Int.reduceNe,Int.reduceLT,Int.reduceLE,Int.reduceGT,Int.reduceGE,Int.reduceNeg,Int.reduceToNat,Nat.reduceLT,Nat.reduceSub,tab,Tryd.results9,List.toList_toArray])|(simp (disch:=omega) only [ziw]))
      all_goals first
        | (exfalso; omega)
        | (rw [hR]; ((try simp only [drV,encDr,encWrs,List.map_nil]); simp only [zrds]; (repeat' (first | exact rd_nil | exact Rd.refl _ _ (by first|rfl|assumption|(simp only [znl,znHL];(first|done|fail))) | (refine And.intro ?_ ?_) | (refine rd_own (by (simp only [↓reduceIte,zlk,Nat.reduceEqDiff,reduceCtorEq]); exact rfl) ?_ ?_ ?_) | rfl | assumption | (simp only [znl,znHL];(first|done|fail)) | (simp; done) | (simp; omega)))); done)
        | trace_state
  obtain rfl : i = v.length := by omega
  rw [any_no hall, if_neg (by decide)] at hR
  have hz : (List.replicate 128 [(0 : UInt8)]).flatten = zeros := by decide
  have hr : Spec Tryd.prog 48 [.str [0], .int .i64 128] (.str zeros) := by
    have hr := repeat_spec [0] 128 (by decide) (by decide)
    rw [hz] at hr
    exact hr
  repeat' (first|(with_reducible first|refine yrl (by constructor) ?_|refine jk (fun M hM=>?_)|(refine hM _ ?_;clear hM M)|refine xb3 (by decide) ?_|refine yqa (by assumption) ?_ ?_|refine yqb (by assumption) ?_ ?_)|((with_reducible refine je ?_)<;>(first|rfl|assumption|(simp only [znl,znHL];(first|done|fail))))|(with_reducible refine jf (by (simp only [↓reduceIte,zlk,Nat.reduceEqDiff,reduceCtorEq]);exact rfl) ?_)|((with_reducible first|refine jg (fun hc=>?_) (fun hc=>?_)|refine jh (fun hc=>?_) (fun hc=>?_))<;>(try simp (disch:=omega) only [zhb] at hc)<;>(try (exfalso;omega))<;>(try subst hc))|(with_reducible refine ji (by omega) ?_)|(simp (config := { maxSteps := 400000 }) only [↓jt,↓reduceIte,zvs,reduceCtorEq,Nat.reduceEqDiff,Nat.reduceAdd,Nat.reduceLeDiff,Nat.reduceMul,Int.reduceBNe,Int.reduceBEq,Int.reduceEq,Int.reduceNe,Int.reduceLT,Int.reduceLE,Int.reduceGT,Int.reduceGE,Int.reduceNeg,Int.reduceToNat,Nat.reduceLT,Nat.reduceSub,tab,Tryd.results9,List.toList_toArray])|(simp (disch:=omega) only [ziw]))
  all_goals (try (exfalso; omega))
  refine ja (ok_body Tryd.func25 rfl rfl (by kernel_rfl) (k := 1) (by rfl) (by decide) ?_)
  have tN : (33 + (v.length : Int)).toNat = 33 + v.length := by omega
  obtain ⟨n, hn⟩ : ∃ n, n = 33 + v.length := ⟨_, rfl⟩
  repeat' (first|(with_reducible first|refine yrl (by constructor) ?_|refine jk (fun M hM=>?_)|(refine hM _ ?_;clear hM M)|refine xb3 (by decide) ?_|refine yqa (by assumption) ?_ ?_|refine yqb (by assumption) ?_ ?_)|((with_reducible refine je ?_)<;>(first|rfl|assumption|(simp only [znl,znHL];(first|done|fail))))|(with_reducible refine jf (by (simp only [↓reduceIte,zlk,Nat.reduceEqDiff,reduceCtorEq]);exact rfl) ?_)|((with_reducible first|refine jg (fun hc=>?_) (fun hc=>?_)|refine jh (fun hc=>?_) (fun hc=>?_))<;>(try simp (disch:=omega) only [zhb] at hc)<;>(try (exfalso;omega))<;>(try subst hc))|(with_reducible refine ji (by omega) ?_)|(simp (config := { maxSteps := 400000 }) only [↓jt,↓reduceIte,zvs,reduceCtorEq,Nat.reduceEqDiff,Nat.reduceAdd,Nat.reduceLeDiff,Nat.reduceMul,Int.reduceBNe,Int.reduceBEq,Int.reduceEq,Int.reduceNe,Int.reduceLT,Int.reduceLE,Int.reduceGT,Int.reduceGE,Int.reduceNeg,Int.reduceToNat,Nat.reduceLT,Nat.reduceSub,tab,tN,hn.symm,Tryd.results25,Tryd.results9,List.toList_toArray])|(simp (disch:=omega) only [ziw]))
  all_goals (try (exfalso; omega))
  refine ok_loop (fun k : Nat => ⟨slots [(2, .ptr 1 []), (3, .int .i64 0), (4, .ptr 3 []), (18, .int .i64 n), (19, .int .i64 k)], rows [(0, .row (.st [.cell, .cell, .cell]) (.agg [.sl none 0, .sl none 0, .int .i64 0])), (1, .row (.st [.cell, .cell, .cell]) (.agg [.sl none 0, .sl none 0, .int .i64 0])), (2, .row (.arr n .cell) (.agg (List.replicate k (.str zeros) ++ List.replicate (n - k) (.str [])))), (3, .row (.st [.cell, .cell, .cell]) (.agg [.sl (some (2, [], 0)) n, .sl none 0, .int .i64 (-1)]))], 4⟩) (fun k => k ≤ n) (fun k => n - k) 0 ?_ (Nat.zero_le _) (fun k hk => ?_)
  · (refine yrn [(1, 1), (2, 2), (3, 3)] false ?_ ?_<;>(repeat' (first|(with_reducible first|exact ya1|exact ya2|exact ya3|refine jx rfl (by first|rfl|assumption|(simp only [znl,znHL];(first|done|fail)))|exact ya5|exact ya7|exact jy|exact jz|refine jA ?_|refine ya9 ?_ ?_ ?_|refine jC rfl (by first|rfl|assumption|(simp only [znl,znHL];(first|done|fail)))|refine MR.agg (MRL.cons ?_ ?_)|refine MR.fn ?_|refine MRL.cons ?_ ?_|exact MRL.nil|refine jE ?_ ?_|exact jF|exact jG|refine yb1 ?_ ?_|refine MB.row ?_|refine jI ?_ ?_|exact ya8|refine jJ rfl (by first|rfl|assumption|(simp only [znl,znHL];(first|done|fail)))|refine yb2 ?_|rfl)|(simp only [znl,znHL];(first|done|fail))|(simp only [↓reduceIte,zlk,Nat.reduceEqDiff,reduceCtorEq])|(with_reducible first|refine jJ ?_ ?_|refine ya5 ?_|refine ju ?_|refine jv ?_|refine jw ?_|refine jx ?_ (by first|rfl|assumption|(simp only [znl,znHL];(first|done|fail)))|refine jC ?_ (by first|rfl|assumption|(simp only [znl,znHL];(first|done|fail)))))))
    all_goals (first | rfl | (simp; done) | (rw [hn]; simp; done) | trace_state)
  by_cases hlt : k < n
  · have hset := rep_set k n (VV.str zeros) (VV.str []) hlt
    have hg := rep_at k n (VV.str zeros) (VV.str []) hlt
    repeat' (first|(with_reducible first|refine yrl (by constructor) ?_|refine jk (fun M hM=>?_)|(refine hM _ ?_;clear hM M)|refine xb3 (by decide) ?_|refine yqa (by assumption) ?_ ?_|refine yqb (by assumption) ?_ ?_)|((with_reducible refine je ?_)<;>(first|rfl|assumption|(simp only [znl,znHL];(first|done|fail))))|(with_reducible refine jf (by (simp only [↓reduceIte,zlk,Nat.reduceEqDiff,reduceCtorEq]);exact rfl) ?_)|((with_reducible first|refine jg (fun hc=>?_) (fun hc=>?_)|refine jh (fun hc=>?_) (fun hc=>?_))<;>(try simp (disch:=omega) only [zhb] at hc)<;>(try (exfalso;omega))<;>(try subst hc))|(with_reducible refine ji (by omega) ?_)|(simp (config := { maxSteps := 400000 }) only [↓jt,↓reduceIte,zvs,reduceCtorEq,Nat.reduceEqDiff,Nat.reduceAdd,Nat.reduceLeDiff,Nat.reduceMul,Int.reduceBNe,Int.reduceBEq,Int.reduceEq,Int.reduceNe,Int.reduceLT,Int.reduceLE,Int.reduceGT,Int.reduceGE,Int.reduceNeg,Int.reduceToNat,Nat.reduceLT,Nat.reduceSub,tab,Tryd.results25,Tryd.results9,List.toList_toArray])|(simp (disch:=omega) only [ziw]))
    refine ok_drawC 5 (by kernel_rfl) (by decide +kernel) (by intro m hm; simp only [upd_ap,rows_cons,rows_nil]; (repeat (first | rfl | rw [if_neg (by omega)]))) (fun M hM => ?_); simp only [List.take_succ_cons,List.take_zero,List.drop_succ_cons,List.drop_zero]
    repeat' (first|(with_reducible first|refine yrl (by constructor) ?_|refine jk (fun M hM=>?_)|(refine hM _ ?_;clear hM M)|refine xb3 (by decide) ?_|refine yqa (by assumption) ?_ ?_|refine yqb (by assumption) ?_ ?_)|((with_reducible refine je ?_)<;>(first|rfl|assumption|(simp only [znl,znHL];(first|done|fail))))|(with_reducible refine jf (by (simp only [↓reduceIte,zlk,Nat.reduceEqDiff,reduceCtorEq]);exact rfl) ?_)|((with_reducible first|refine jg (fun hc=>?_) (fun hc=>?_)|refine jh (fun hc=>?_) (fun hc=>?_))<;>(try simp (disch:=omega) only [zhb] at hc)<;>(try (exfalso;omega))<;>(try subst hc))|(with_reducible refine ji (by omega) ?_)|(simp (config := { maxSteps := 400000 }) only [↓jt,↓reduceIte,zvs,reduceCtorEq,Nat.reduceEqDiff,Nat.reduceAdd,Nat.reduceLeDiff,Nat.reduceMul,Int.reduceBNe,Int.reduceBEq,Int.reduceEq,Int.reduceNe,Int.reduceLT,Int.reduceLE,Int.reduceGT,Int.reduceGE,Int.reduceNeg,Int.reduceToNat,Nat.reduceLT,Nat.reduceSub,tab,hset,hg,Tryd.results25,Tryd.results9,List.toList_toArray])|(simp (disch:=omega) only [ziw]))
    all_goals (try (exfalso; omega))
    refine xl1 (k + 1) ?_ (by show k + 1 ≤ n; omega) (by show n - (k + 1) < n - k; omega)
    (refine yrn [(1, 1), (2, 2), (3, 3)] false ?_ ?_<;>(repeat' (first|(with_reducible first|exact ya1|exact ya2|exact ya3|refine jx rfl (by first|rfl|assumption|(simp only [znl,znHL];(first|done|fail)))|exact ya5|exact ya7|exact jy|exact jz|refine jA ?_|refine ya9 ?_ ?_ ?_|refine jC rfl (by first|rfl|assumption|(simp only [znl,znHL];(first|done|fail)))|refine MR.agg (MRL.cons ?_ ?_)|refine MR.fn ?_|refine MRL.cons ?_ ?_|exact MRL.nil|refine jE ?_ ?_|exact jF|exact jG|refine yb1 ?_ ?_|refine MB.row ?_|refine jI ?_ ?_|exact ya8|refine jJ rfl (by first|rfl|assumption|(simp only [znl,znHL];(first|done|fail)))|refine yb2 ?_|rfl)|(simp only [znl,znHL];(first|done|fail))|(simp only [↓reduceIte,zlk,Nat.reduceEqDiff,reduceCtorEq])|(with_reducible first|refine jJ ?_ ?_|refine ya5 ?_|refine ju ?_|refine jv ?_|refine jw ?_|refine jx ?_ (by first|rfl|assumption|(simp only [znl,znHL];(first|done|fail)))|refine jC ?_ (by first|rfl|assumption|(simp only [znl,znHL];(first|done|fail)))))))
    all_goals (first | rfl | trace_state)
  obtain rfl : k = n := by omega
  have hall2 : List.replicate k (VV.str zeros) ++ List.replicate (k - k) (VV.str []) = List.replicate k (VV.str zeros) := by simp
  rw [hall2]
  repeat' (first|(with_reducible first|refine yrl (by constructor) ?_|refine jk (fun M hM=>?_)|(refine hM _ ?_;clear hM M)|refine xb3 (by decide) ?_|refine yqa (by assumption) ?_ ?_|refine yqb (by assumption) ?_ ?_)|((with_reducible refine je ?_)<;>(first|rfl|assumption|(simp only [znl,znHL];(first|done|fail))))|(with_reducible refine jf (by (simp only [↓reduceIte,zlk,Nat.reduceEqDiff,reduceCtorEq]);exact rfl) ?_)|((with_reducible first|refine jg (fun hc=>?_) (fun hc=>?_)|refine jh (fun hc=>?_) (fun hc=>?_))<;>(try simp (disch:=omega) only [zhb] at hc)<;>(try (exfalso;omega))<;>(try subst hc))|(with_reducible refine ji (by omega) ?_)|(simp (config := { maxSteps := 400000 }) only [↓jt,↓reduceIte,zvs,reduceCtorEq,Nat.reduceEqDiff,Nat.reduceAdd,Nat.reduceLeDiff,Nat.reduceMul,Int.reduceBNe,Int.reduceBEq,Int.reduceEq,Int.reduceNe,Int.reduceLT,Int.reduceLE,Int.reduceGT,Int.reduceGE,Int.reduceNeg,Int.reduceToNat,Nat.reduceLT,Nat.reduceSub,tab,List.length_replicate,Tryd.results25,Tryd.results9,List.toList_toArray])|(simp (disch:=omega) only [ziw]))
  all_goals (try (exfalso; omega))
  have hfin : List.take 33 (List.replicate k (VV.str zeros)) ++ List.take (k - 33) (v.map VV.str) ++ List.drop (33 + min v.length (k - 33)) (List.replicate k (VV.str zeros)) = List.replicate 33 (VV.str zeros) ++ v.map VV.str := by
    rw [List.take_replicate, show min 33 k = 33 by omega, List.take_of_length_le (by rw [List.length_map]; omega), List.drop_of_length_le (by rw [List.length_replicate]; omega), List.append_nil]
  have hnn : nls (List.replicate 33 (VV.str zeros) ++ v.map VV.str) = true := by rw [nls_append, nls_repStr, nls_mapStr]; rfl
  rw [hR]
  simp only [drV,encDr,List.map_append,List.map_replicate,List.map_nil]
  simp only [zrds]
  refine ⟨?_, rd_nil⟩
  refine rd_own (by simp only [↓reduceIte,zlk,Nat.reduceEqDiff,reduceCtorEq]; exact rfl) ?_ hfin hnn
  rw [hfin, List.length_append, List.length_replicate, List.length_map]
  exact hn
end Go.Proofs.YtcilmfhncjfdbaaDoor.V
end
section
/-
  WAL: the same blocks, the same drives; great ones.
-/
set_option linter.unusedVariables false
set_option linter.unusedSimpArgs false
namespace Go.Proofs.YtcilmfhncjfdbaaDoor.V
open Go
set_option maxRecDepth 100000
set_option maxHeartbeats 4000000
def longW (n : Nat) (w : Wr) : Bool := decide (n < w.d.length)
def bigW (d : Dr) : Bool := decide (80 < d.bl.length) || decide (60 < d.pe.length) || d.bl.any (longB 200) || d.pe.any (longW 200)
def bigL (l : List Wr) : Bool := l.any (longW 200) || decide (40 < l.length)
end Go.Proofs.YtcilmfhncjfdbaaDoor.V
end
section
/-
  WAL: great drives, long rows of writes; a volume, and the document's example.
-/
set_option linter.unusedVariables false
set_option linter.unusedSimpArgs false
namespace Go.Proofs.YtcilmfhncjfdbaaDoor.V
open Go
set_option maxRecDepth 100000
set_option linter.defProp false in
def znHN := And.intro @jO <| And.intro @nls_mapB <| And.intro @nls_frames <| True.intro
set_option maxHeartbeats 4000000
theorem greatW_spec (d : Dr) (hd : d.bl.length ≤ 2 ^ 47 ∧ d.pe.length ≤ 2 ^ 47) (h1 : ∀ s ∈ d.bl, s.length ≤ 2 ^ 47) (h2 : ∀ w ∈ d.pe, w.d.length ≤ 2 ^ 47) : Spec Tryd.prog 14 [encDr d] (.int .i64 (if bigW d = true then 1 else 0)) := by
  obtain ⟨R, hR⟩ : ∃ R, R = (if bigW d = true then (1 : Int) else 0) := ⟨_, rfl⟩
  rw [← hR]
  refine spec_ok Tryd.func14 rfl rfl (by kernel_rfl) (k := 1) rfl (by decide) ?_
  repeat' (first|(with_reducible first|refine yrl (by constructor) ?_|refine jk (fun M hM=>?_)|(refine hM _ ?_;clear hM M)|refine xb3 (by decide) ?_|refine yqa (by assumption) ?_ ?_|refine yqb (by assumption) ?_ ?_)|((with_reducible refine je ?_)<;>(first|rfl|assumption|(simp only [znl,znHN];(first|done|fail))))|(with_reducible refine jf (by (simp only [↓reduceIte,zlk,Nat.reduceEqDiff,reduceCtorEq]);exact rfl) ?_)|((with_reducible first|refine jg (fun hc=>?_) (fun hc=>?_)|refine jh (fun hc=>?_) (fun hc=>?_))<;>(try simp (disch:=omega) only [zhb] at hc)<;>(try (exfalso;omega))<;>(try subst hc))|(with_reducible refine ji (by omega) ?_)|(simp (config := { maxSteps := 400000 }) only [↓jt,↓reduceIte,zvs,reduceCtorEq,Nat.reduceEqDiff,Nat.reduceAdd,Nat.reduceLeDiff,Nat.reduceMul,Int.reduceBNe,Int.reduceBEq,Int.reduceEq,Int.reduceNe,Int.reduceLT,Int.reduceLE,Int.reduceGT,Int.reduceGE,Int.reduceNeg,Int.reduceToNat,Nat.reduceLT,Nat.reduceSub,tab,encDr,Tryd.results14,List.toList_toArray])|(simp (disch:=omega) only [ziw]))
  · simp only [zrds]
    rw [hR, if_pos (by simp only [bigW]; rw [decide_eq_true (by omega : 60 < d.pe.length)]; simp)]
  · refine ok_loop (fun k : Nat => ⟨slots [(1, .ptr 0 []), (2, .int .i64 0), (17, .int .i64 d.bl.length), (18, .int .i64 k)], rows [(0, .row (.st [.cell, .cell, .cell]) (encDr d))], 1⟩) (fun k => k ≤ d.bl.length ∧ ∀ j, j < k → longB 200 (d.bl.getD j default) = false) (fun k => d.bl.length - k) 0 ?_ ⟨Nat.zero_le _, fun j hj => by omega⟩ (fun k hk => ?_)
    · (refine yrn [(0, 0)] false ?_ ?_<;>(repeat' (first|(with_reducible first|exact ya1|exact ya2|exact ya3|refine jx rfl (by first|rfl|assumption|(simp only [znl,znHN];(first|done|fail)))|exact ya5|exact ya7|exact jy|exact jz|refine jA ?_|refine ya9 ?_ ?_ ?_|refine jC rfl (by first|rfl|assumption|(simp only [znl,znHN];(first|done|fail)))|refine MR.agg (MRL.cons ?_ ?_)|refine MR.fn ?_|refine MRL.cons ?_ ?_|exact MRL.nil|refine jE ?_ ?_|exact jF|exact jG|refine yb1 ?_ ?_|refine MB.row ?_|refine jI ?_ ?_|exact ya8|refine jJ rfl (by first|rfl|assumption|(simp only [znl,znHN];(first|done|fail)))|refine yb2 ?_|rfl)|(simp only [znl,znHN];(first|done|fail))|(simp only [↓reduceIte,zlk,Nat.reduceEqDiff,reduceCtorEq])|(with_reducible first|refine jJ ?_ ?_|refine ya5 ?_|refine ju ?_|refine jv ?_|refine jw ?_|refine jx ?_ (by first|rfl|assumption|(simp only [znl,znHN];(first|done|fail)))|refine jC ?_ (by first|rfl|assumption|(simp only [znl,znHN];(first|done|fail)))))))
    obtain ⟨hk, hn⟩ := hk
    by_cases hlt : k < d.bl.length
    · have hs := h1 (d.bl.getD k default) (by rw [List.getD_eq_getElem?_getD, List.getElem?_eq_getElem hlt]; exact List.getElem_mem _)
      rw [default_str] at hs
      repeat' (first|(with_reducible first|refine yrl (by constructor) ?_|refine jk (fun M hM=>?_)|(refine hM _ ?_;clear hM M)|refine xb3 (by decide) ?_|refine yqa (by assumption) ?_ ?_|refine yqb (by assumption) ?_ ?_)|((with_reducible refine je ?_)<;>(first|rfl|assumption|(simp only [znl,znHN];(first|done|fail))))|(with_reducible refine jf (by (simp only [↓reduceIte,zlk,Nat.reduceEqDiff,reduceCtorEq]);exact rfl) ?_)|((with_reducible first|refine jg (fun hc=>?_) (fun hc=>?_)|refine jh (fun hc=>?_) (fun hc=>?_))<;>(try simp (disch:=omega) only [zhb] at hc)<;>(try (exfalso;omega))<;>(try subst hc))|(with_reducible refine ji (by omega) ?_)|(simp (config := { maxSteps := 400000 }) only [↓jt,↓reduceIte,zvs,reduceCtorEq,Nat.reduceEqDiff,Nat.reduceAdd,Nat.reduceLeDiff,Nat.reduceMul,Int.reduceBNe,Int.reduceBEq,Int.reduceEq,Int.reduceNe,Int.reduceLT,Int.reduceLE,Int.reduceGT,Int.reduceGE,Int.reduceNeg,Int.reduceToNat,Nat.reduceLT,Nat.reduceSub,tab,encDr,Tryd.results14,List.toList_toArray])|(simp (disch:=omega) only [ziw]))
      · simp only [zrds]
        rw [hR, if_pos (by simp only [bigW]; rw [any_of d.bl (longB 200) k hlt (by rw [default_str]; simp only [longB]; exact decide_eq_true (by omega))]; simp)]
      · refine xl1 (k + 1) ?_ ⟨by omega, fun j hj => ?_⟩ (by show d.bl.length - (k + 1) < d.bl.length - k; omega)
        · (refine yrn [(0, 0)] false ?_ ?_<;>(repeat' (first|(with_reducible first|exact ya1|exact ya2|exact ya3|refine jx rfl (by first|rfl|assumption|(simp only [znl,znHN];(first|done|fail)))|exact ya5|exact ya7|exact jy|exact jz|refine jA ?_|refine ya9 ?_ ?_ ?_|refine jC rfl (by first|rfl|assumption|(simp only [znl,znHN];(first|done|fail)))|refine MR.agg (MRL.cons ?_ ?_)|refine MR.fn ?_|refine MRL.cons ?_ ?_|exact MRL.nil|refine jE ?_ ?_|exact jF|exact jG|refine yb1 ?_ ?_|refine MB.row ?_|refine jI ?_ ?_|exact ya8|refine jJ rfl (by first|rfl|assumption|(simp only [znl,znHN];(first|done|fail)))|refine yb2 ?_|rfl)|(simp only [znl,znHN];(first|done|fail))|(simp only [↓reduceIte,zlk,Nat.reduceEqDiff,reduceCtorEq])|(with_reducible first|refine jJ ?_ ?_|refine ya5 ?_|refine ju ?_|refine jv ?_|refine jw ?_|refine jx ?_ (by first|rfl|assumption|(simp only [znl,znHN];(first|done|fail)))|refine jC ?_ (by first|rfl|assumption|(simp only [znl,znHN];(first|done|fail)))))))
        · by_cases e : j = k
          · subst e
            (try rw [default_str]); simp only [longB]; exact decide_eq_false (by omega)
          · exact hn j (by omega)
    · obtain rfl : k = d.bl.length := by omega
      have hA := any_none d.bl _ hn
      repeat' (first|(with_reducible first|refine yrl (by constructor) ?_|refine jk (fun M hM=>?_)|(refine hM _ ?_;clear hM M)|refine xb3 (by decide) ?_|refine yqa (by assumption) ?_ ?_|refine yqb (by assumption) ?_ ?_)|((with_reducible refine je ?_)<;>(first|rfl|assumption|(simp only [znl,znHN];(first|done|fail))))|(with_reducible refine jf (by (simp only [↓reduceIte,zlk,Nat.reduceEqDiff,reduceCtorEq]);exact rfl) ?_)|((with_reducible first|refine jg (fun hc=>?_) (fun hc=>?_)|refine jh (fun hc=>?_) (fun hc=>?_))<;>(try simp (disch:=omega) only [zhb] at hc)<;>(try (exfalso;omega))<;>(try subst hc))|(with_reducible refine ji (by omega) ?_)|(simp (config := { maxSteps := 400000 }) only [↓jt,↓reduceIte,zvs,reduceCtorEq,Nat.reduceEqDiff,Nat.reduceAdd,Nat.reduceLeDiff,Nat.reduceMul,Int.reduceBNe,Int.reduceBEq,Int.reduceEq,Int.reduceNe,Int.reduceLT,Int.reduceLE,Int.reduceGT,Int.reduceGE,Int.reduceNeg,Int.reduceToNat,Nat.reduceLT,Nat.reduceSub,tab,encDr,Tryd.results14,List.toList_toArray])|(simp (disch:=omega) only [ziw]))
      refine ok_loop (fun k : Nat => ⟨slots [(1, .ptr 0 []), (2, .int .i64 0), (31, .int .i64 d.pe.length), (32, .int .i64 k)], rows [(0, .row (.st [.cell, .cell, .cell]) (encDr d))], 1⟩) (fun k => k ≤ d.pe.length ∧ ∀ j, j < k → longW 200 (d.pe.getD j default) = false) (fun k => d.pe.length - k) 0 ?_ ⟨Nat.zero_le _, fun j hj => by omega⟩ (fun k hk => ?_)
      · (refine yrn [(0, 0)] false ?_ ?_<;>(repeat' (first|(with_reducible first|exact ya1|exact ya2|exact ya3|refine jx rfl (by first|rfl|assumption|(simp only [znl,znHN];(first|done|fail)))|exact ya5|exact ya7|exact jy|exact jz|refine jA ?_|refine ya9 ?_ ?_ ?_|refine jC rfl (by first|rfl|assumption|(simp only [znl,znHN];(first|done|fail)))|refine MR.agg (MRL.cons ?_ ?_)|refine MR.fn ?_|refine MRL.cons ?_ ?_|exact MRL.nil|refine jE ?_ ?_|exact jF|exact jG|refine yb1 ?_ ?_|refine MB.row ?_|refine jI ?_ ?_|exact ya8|refine jJ rfl (by first|rfl|assumption|(simp only [znl,znHN];(first|done|fail)))|refine yb2 ?_|rfl)|(simp only [znl,znHN];(first|done|fail))|(simp only [↓reduceIte,zlk,Nat.reduceEqDiff,reduceCtorEq])|(with_reducible first|refine jJ ?_ ?_|refine ya5 ?_|refine ju ?_|refine jv ?_|refine jw ?_|refine jx ?_ (by first|rfl|assumption|(simp only [znl,znHN];(first|done|fail)))|refine jC ?_ (by first|rfl|assumption|(simp only [znl,znHN];(first|done|fail)))))))
      obtain ⟨hk, hm⟩ := hk
      by_cases hlt : k < d.pe.length
      · have hs := h2 (d.pe.getD k default) (by rw [List.getD_eq_getElem?_getD, List.getElem?_eq_getElem hlt]; exact List.getElem_mem _)
        repeat' (first|(with_reducible first|refine yrl (by constructor) ?_|refine jk (fun M hM=>?_)|(refine hM _ ?_;clear hM M)|refine xb3 (by decide) ?_|refine yqa (by assumption) ?_ ?_|refine yqb (by assumption) ?_ ?_)|((with_reducible refine je ?_)<;>(first|rfl|assumption|(simp only [znl,znHN];(first|done|fail))))|(with_reducible refine jf (by (simp only [↓reduceIte,zlk,Nat.reduceEqDiff,reduceCtorEq]);exact rfl) ?_)|((with_reducible first|refine jg (fun hc=>?_) (fun hc=>?_)|refine jh (fun hc=>?_) (fun hc=>?_))<;>(try simp (disch:=omega) only [zhb] at hc)<;>(try (exfalso;omega))<;>(try subst hc))|(with_reducible refine ji (by omega) ?_)|(simp (config := { maxSteps := 400000 }) only [↓jt,↓reduceIte,zvs,reduceCtorEq,Nat.reduceEqDiff,Nat.reduceAdd,Nat.reduceLeDiff,Nat.reduceMul,Int.reduceBNe,Int.reduceBEq,Int.reduceEq,Int.reduceNe,Int.reduceLT,Int.reduceLE,Int.reduceGT,Int.reduceGE,Int.reduceNeg,Int.reduceToNat,Nat.reduceLT,Nat.reduceSub,tab,encDr,encWr,Tryd.results14,List.toList_toArray])|(simp (disch:=omega) only [ziw]))
        · simp only [zrds]
          rw [hR, if_pos (by simp only [bigW]; rw [any_of d.pe (longW 200) k hlt (by simp only [longW]; exact decide_eq_true (by omega))]; simp)]
        · refine xl1 (k + 1) ?_ ⟨by omega, fun j hj => ?_⟩ (by show d.pe.length - (k + 1) < d.pe.length - k; omega)
          · (refine yrn [(0, 0)] false ?_ ?_<;>(repeat' (first|(with_reducible first|exact ya1|exact ya2|exact ya3|refine jx rfl (by first|rfl|assumption|(simp only [znl,znHN];(first|done|fail)))|exact ya5|exact ya7|exact jy|exact jz|refine jA ?_|refine ya9 ?_ ?_ ?_|refine jC rfl (by first|rfl|assumption|(simp only [znl,znHN];(first|done|fail)))|refine MR.agg (MRL.cons ?_ ?_)|refine MR.fn ?_|refine MRL.cons ?_ ?_|exact MRL.nil|refine jE ?_ ?_|exact jF|exact jG|refine yb1 ?_ ?_|refine MB.row ?_|refine jI ?_ ?_|exact ya8|refine jJ rfl (by first|rfl|assumption|(simp only [znl,znHN];(first|done|fail)))|refine yb2 ?_|rfl)|(simp only [znl,znHN];(first|done|fail))|(simp only [↓reduceIte,zlk,Nat.reduceEqDiff,reduceCtorEq])|(with_reducible first|refine jJ ?_ ?_|refine ya5 ?_|refine ju ?_|refine jv ?_|refine jw ?_|refine jx ?_ (by first|rfl|assumption|(simp only [znl,znHN];(first|done|fail)))|refine jC ?_ (by first|rfl|assumption|(simp only [znl,znHN];(first|done|fail)))))))
          · by_cases e : j = k
            · subst e
              simp only [longW]; exact decide_eq_false (by omega)
            · exact hm j (by omega)
      · obtain rfl : k = d.pe.length := by omega
        have hB := any_none d.pe (longW 200) hm
        repeat' (first|(with_reducible first|refine yrl (by constructor) ?_|refine jk (fun M hM=>?_)|(refine hM _ ?_;clear hM M)|refine xb3 (by decide) ?_|refine yqa (by assumption) ?_ ?_|refine yqb (by assumption) ?_ ?_)|((with_reducible refine je ?_)<;>(first|rfl|assumption|(simp only [znl,znHN];(first|done|fail))))|(with_reducible refine jf (by (simp only [↓reduceIte,zlk,Nat.reduceEqDiff,reduceCtorEq]);exact rfl) ?_)|((with_reducible first|refine jg (fun hc=>?_) (fun hc=>?_)|refine jh (fun hc=>?_) (fun hc=>?_))<;>(try simp (disch:=omega) only [zhb] at hc)<;>(try (exfalso;omega))<;>(try subst hc))|(with_reducible refine ji (by omega) ?_)|(simp (config := { maxSteps := 400000 }) only [↓jt,↓reduceIte,zvs,reduceCtorEq,Nat.reduceEqDiff,Nat.reduceAdd,Nat.reduceLeDiff,Nat.reduceMul,Int.reduceBNe,Int.reduceBEq,Int.reduceEq,Int.reduceNe,Int.reduceLT,Int.reduceLE,Int.reduceGT,Int.reduceGE,Int.reduceNeg,Int.reduceToNat,Nat.reduceLT,Nat.reduceSub,tab,encDr,Tryd.results14,List.toList_toArray])|(simp (disch:=omega) only [ziw]))
        simp only [zrds]
        rw [hR, if_neg (by simp only [bigW,hA,hB]; simp; omega)]
  · simp only [zrds]
    rw [hR, if_pos (by simp only [bigW]; rw [decide_eq_true (by omega : 80 < List.length d.bl)]; simp)]
theorem longW_spec (l : List Wr) (h1 : l.length ≤ 2 ^ 47) (h3 : ∀ w ∈ l, w.d.length ≤ 2 ^ 47) : Spec Tryd.prog 15 [encWrs l] (.int .i64 (if bigL l = true then 1 else 0)) := by
  obtain ⟨R, hR⟩ : ∃ R, R = (if bigL l = true then (1 : Int) else 0) := ⟨_, rfl⟩
  rw [← hR]
  refine spec_ok Tryd.func15 rfl rfl (by kernel_rfl) (k := 1) rfl (by decide) ?_
  repeat' (first|(with_reducible first|refine yrl (by constructor) ?_|refine jk (fun M hM=>?_)|(refine hM _ ?_;clear hM M)|refine xb3 (by decide) ?_|refine yqa (by assumption) ?_ ?_|refine yqb (by assumption) ?_ ?_)|((with_reducible refine je ?_)<;>(first|rfl|assumption|(simp only [znl,znHN];(first|done|fail))))|(with_reducible refine jf (by (simp only [↓reduceIte,zlk,Nat.reduceEqDiff,reduceCtorEq]);exact rfl) ?_)|((with_reducible first|refine jg (fun hc=>?_) (fun hc=>?_)|refine jh (fun hc=>?_) (fun hc=>?_))<;>(try simp (disch:=omega) only [zhb] at hc)<;>(try (exfalso;omega))<;>(try subst hc))|(with_reducible refine ji (by omega) ?_)|(simp (config := { maxSteps := 400000 }) only [↓jt,↓reduceIte,zvs,reduceCtorEq,Nat.reduceEqDiff,Nat.reduceAdd,Nat.reduceLeDiff,Nat.reduceMul,Int.reduceBNe,Int.reduceBEq,Int.reduceEq,Int.reduceNe,Int.reduceLT,Int.reduceLE,Int.reduceGT,Int.reduceGE,Int.reduceNeg,Int.reduceToNat,Nat.reduceLT,Nat.reduceSub,tab,Tryd.results15,List.toList_toArray])|(simp (disch:=omega) only [ziw]))
  refine ok_loop (fun k : Nat => ⟨slots [(0, encWrs l), (2, .int .i64 0), (5, .int .i64 l.length), (6, .int .i64 k)], rows [], 0⟩) (fun k => k ≤ l.length ∧ ∀ j, j < k → longW 200 (l.getD j default) = false) (fun k => l.length - k) 0 ?_ ⟨Nat.zero_le _, fun j hj => by omega⟩ (fun k hk => ?_)
  · (refine yrn [] false ?_ ?_<;>(repeat' (first|(with_reducible first|exact ya1|exact ya2|exact ya3|refine jx rfl (by first|rfl|assumption|(simp only [znl,znHN];(first|done|fail)))|exact ya5|exact ya7|exact jy|exact jz|refine jA ?_|refine ya9 ?_ ?_ ?_|refine jC rfl (by first|rfl|assumption|(simp only [znl,znHN];(first|done|fail)))|refine MR.agg (MRL.cons ?_ ?_)|refine MR.fn ?_|refine MRL.cons ?_ ?_|exact MRL.nil|refine jE ?_ ?_|exact jF|exact jG|refine yb1 ?_ ?_|refine MB.row ?_|refine jI ?_ ?_|exact ya8|refine jJ rfl (by first|rfl|assumption|(simp only [znl,znHN];(first|done|fail)))|refine yb2 ?_|rfl)|(simp only [znl,znHN];(first|done|fail))|(simp only [↓reduceIte,zlk,Nat.reduceEqDiff,reduceCtorEq])|(with_reducible first|refine jJ ?_ ?_|refine ya5 ?_|refine ju ?_|refine jv ?_|refine jw ?_|refine jx ?_ (by first|rfl|assumption|(simp only [znl,znHN];(first|done|fail)))|refine jC ?_ (by first|rfl|assumption|(simp only [znl,znHN];(first|done|fail)))))))
    all_goals (first | rfl | trace_state)
  obtain ⟨hk, hn⟩ := hk
  by_cases hlt : k < l.length
  · have hs := h3 _ (getD_mem' hlt)
    repeat' (first|(with_reducible first|refine yrl (by constructor) ?_|refine jk (fun M hM=>?_)|(refine hM _ ?_;clear hM M)|refine xb3 (by decide) ?_|refine yqa (by assumption) ?_ ?_|refine yqb (by assumption) ?_ ?_)|((with_reducible refine je ?_)<;>(first|rfl|assumption|(simp only [znl,znHN];(first|done|fail))))|(with_reducible refine jf (by (simp only [↓reduceIte,zlk,Nat.reduceEqDiff,reduceCtorEq]);exact rfl) ?_)|((with_reducible first|refine jg (fun hc=>?_) (fun hc=>?_)|refine jh (fun hc=>?_) (fun hc=>?_))<;>(try simp (disch:=omega) only [zhb] at hc)<;>(try (exfalso;omega))<;>(try subst hc))|(with_reducible refine ji (by omega) ?_)|(simp (config := { maxSteps := 400000 }) only [↓jt,↓reduceIte,zvs,reduceCtorEq,Nat.reduceEqDiff,Nat.reduceAdd,Nat.reduceLeDiff,Nat.reduceMul,Int.reduceBNe,Int.reduceBEq,Int.reduceEq,Int.reduceNe,Int.reduceLT,Int.reduceLE,Int.reduceGT,Int.reduceGE,Int.reduceNeg,Int.reduceToNat,Nat.reduceLT,Nat.reduceSub,tab,encWr,Tryd.results15,List.toList_toArray])|(simp (disch:=omega) only [ziw]))
    all_goals (try (exfalso; omega))
    · simp only [zrds]
      rw [hR, if_pos (by simp only [bigL]; rw [any_of l (longW 200) k hlt (by simp only [longW]; exact decide_eq_true (by omega))]; simp)]
    · refine xl1 (k + 1) ?_ ⟨by omega, fun j hj => ?_⟩ (by show l.length - (k + 1) < l.length - k; omega)
      · (refine yrn [] false ?_ ?_<;>(repeat' (first|(with_reducible first|exact ya1|exact ya2|exact ya3|refine jx rfl (by first|rfl|assumption|(simp only [znl,znHN];(first|done|fail)))|exact ya5|exact ya7|exact jy|exact jz|refine jA ?_|refine ya9 ?_ ?_ ?_|refine jC rfl (by first|rfl|assumption|(simp only [znl,znHN];(first|done|fail)))|refine MR.agg (MRL.cons ?_ ?_)|refine MR.fn ?_|refine MRL.cons ?_ ?_|exact MRL.nil|refine jE ?_ ?_|exact jF|exact jG|refine yb1 ?_ ?_|refine MB.row ?_|refine jI ?_ ?_|exact ya8|refine jJ rfl (by first|rfl|assumption|(simp only [znl,znHN];(first|done|fail)))|refine yb2 ?_|rfl)|(simp only [znl,znHN];(first|done|fail))|(simp only [↓reduceIte,zlk,Nat.reduceEqDiff,reduceCtorEq])|(with_reducible first|refine jJ ?_ ?_|refine ya5 ?_|refine ju ?_|refine jv ?_|refine jw ?_|refine jx ?_ (by first|rfl|assumption|(simp only [znl,znHN];(first|done|fail)))|refine jC ?_ (by first|rfl|assumption|(simp only [znl,znHN];(first|done|fail)))))))
        all_goals (first | rfl | trace_state)
      · by_cases e : j = k
        · subst e
          simp only [longW]; exact decide_eq_false (by omega)
        · exact hn j (by omega)
  obtain rfl : k = l.length := by omega
  have hA := any_none l _ hn
  repeat' (first|(with_reducible first|refine yrl (by constructor) ?_|refine jk (fun M hM=>?_)|(refine hM _ ?_;clear hM M)|refine xb3 (by decide) ?_|refine yqa (by assumption) ?_ ?_|refine yqb (by assumption) ?_ ?_)|((with_reducible refine je ?_)<;>(first|rfl|assumption|(simp only [znl,znHN];(first|done|fail))))|(with_reducible refine jf (by (simp only [↓reduceIte,zlk,Nat.reduceEqDiff,reduceCtorEq]);exact rfl) ?_)|((with_reducible first|refine jg (fun hc=>?_) (fun hc=>?_)|refine jh (fun hc=>?_) (fun hc=>?_))<;>(try simp (disch:=omega) only [zhb] at hc)<;>(try (exfalso;omega))<;>(try subst hc))|(with_reducible refine ji (by omega) ?_)|(simp (config := { maxSteps := 400000 }) only [↓jt,↓reduceIte,zvs,reduceCtorEq,Nat.reduceEqDiff,Nat.reduceAdd,Nat.reduceLeDiff,Nat.reduceMul,Int.reduceBNe,Int.reduceBEq,Int.reduceEq,Int.reduceNe,Int.reduceLT,Int.reduceLE,Int.reduceGT,Int.reduceGE,Int.reduceNeg,Int.reduceToNat,Nat.reduceLT,Nat.reduceSub,tab,Tryd.results15,List.toList_toArray])|(simp (disch:=omega) only [ziw]))
  all_goals first
    | (exfalso; omega)
    | (simp only [zrds]; rw [hR, if_pos (by simp only [bigL,hA]; simp; omega)]; done)
    | (simp only [zrds]; rw [hR, if_neg (by simp only [bigL,hA]; simp; omega)]; done)
    | trace_state
end Go.Proofs.YtcilmfhncjfdbaaDoor.V
end
section
/-
  WAL: a volume of blocks; writes that fit.
-/
set_option linter.unusedVariables false
set_option linter.unusedSimpArgs false
namespace Go.Proofs.YtcilmfhncjfdbaaDoor.V
open Go
set_option maxRecDepth 100000
set_option linter.defProp false in
def znHO := And.intro @jO <| And.intro @nls_mapB <| And.intro @nls_frames <| True.intro
set_option maxHeartbeats 4000000
def repW (b : UInt8) (k : Nat) : List UInt8 := List.replicate k b ++ List.replicate (128 - k) 0
theorem repW_set (b : UInt8) {k : Nat} (h : k < 128) : (repW b k).set k b = repW b (k + 1) := by
  unfold repW
  rw [List.set_append_right _ _ (by rw [List.length_replicate]; exact Nat.le_refl k), List.length_replicate, Nat.sub_self]
  obtain ⟨j, hj⟩ : ∃ j, 128 - k = j + 1 := ⟨127 - k, by omega⟩
  rw [hj, List.replicate_succ, List.set_cons_zero, show 128 - (k + 1) = j by omega, List.replicate_succ', List.append_assoc]; rfl
theorem repW_len (b : UInt8) {k : Nat} (h : k ≤ 128) : (repW b k).length = 128 := by unfold repW; rw [List.length_append, List.length_replicate, List.length_replicate]; omega
theorem repW_all (b : UInt8) : repW b 128 = List.replicate 128 b := by unfold repW; simp
def volN (k : Nat) : Frames := (List.range k).map fun i : Nat => List.replicate 128 (UInt8.ofNat (i + 1))
theorem volN_len (k : Nat) : (volN k).length = k := by simp [volN]
theorem volN_succ (k : Nat) : (volN (k + 1)).map VV.str = (volN k).map VV.str ++ [.str (List.replicate 128 (UInt8.ofNat (k + 1)))] := by
  simp only [volN,List.range_succ,List.map_append,List.map_cons,List.map_nil]
theorem volume_spec (n : Nat) (hn : n ≤ 100) : Spec Tryd.prog 24 [.int .i64 n] (encStrs (volN n)) := by
  refine spec_ok Tryd.func24 rfl rfl (by kernel_rfl) (k := 1) rfl (by decide) ?_
  repeat' (first|(with_reducible first|refine yrl (by constructor) ?_|refine jk (fun M hM=>?_)|(refine hM _ ?_;clear hM M)|refine xb3 (by decide) ?_|refine yqa (by assumption) ?_ ?_|refine yqb (by assumption) ?_ ?_)|((with_reducible refine je ?_)<;>(first|rfl|assumption|(simp only [znl,znHO];(first|done|fail))))|(with_reducible refine jf (by (simp only [↓reduceIte,zlk,Nat.reduceEqDiff,reduceCtorEq]);exact rfl) ?_)|((with_reducible first|refine jg (fun hc=>?_) (fun hc=>?_)|refine jh (fun hc=>?_) (fun hc=>?_))<;>(try simp (disch:=omega) only [zhb] at hc)<;>(try (exfalso;omega))<;>(try subst hc))|(with_reducible refine ji (by omega) ?_)|(simp (config := { maxSteps := 400000 }) only [↓jt,↓reduceIte,zvs,reduceCtorEq,Nat.reduceEqDiff,Nat.reduceAdd,Nat.reduceLeDiff,Nat.reduceMul,Int.reduceBNe,Int.reduceBEq,Int.reduceEq,Int.reduceNe,Int.reduceLT,Int.reduceLE,Int.reduceGT,Int.reduceGE,Int.reduceNeg,Int.reduceToNat,Nat.reduceLT,Nat.reduceSub,tab,Tryd.results24,List.toList_toArray])|(simp (disch:=omega) only [ziw]))
  refine ok_loop (fun k : Nat => ⟨slots [(0, .int .i64 n), (3, .sl (some (0, [], 0)) k), (4, .int .i64 k)], rows [(0, .row (.arr k .cell) (.agg ((volN k).map .str)))], 1⟩) (fun k => k ≤ n) (fun k => n - k) 0 ?_ (Nat.zero_le _) (fun k hk => ?_)
  · (refine yrn [(0, 0)] false ?_ ?_<;>(repeat' (first|(with_reducible first|exact ya1|exact ya2|exact ya3|refine jx rfl (by first|rfl|assumption|(simp only [znl,znHO];(first|done|fail)))|exact ya5|exact ya7|exact jy|exact jz|refine jA ?_|refine ya9 ?_ ?_ ?_|refine jC rfl (by first|rfl|assumption|(simp only [znl,znHO];(first|done|fail)))|refine MR.agg (MRL.cons ?_ ?_)|refine MR.fn ?_|refine MRL.cons ?_ ?_|exact MRL.nil|refine jE ?_ ?_|exact jF|exact jG|refine yb1 ?_ ?_|refine MB.row ?_|refine jI ?_ ?_|exact ya8|refine jJ rfl (by first|rfl|assumption|(simp only [znl,znHO];(first|done|fail)))|refine yb2 ?_|rfl)|(simp only [znl,znHO];(first|done|fail))|(simp only [↓reduceIte,zlk,Nat.reduceEqDiff,reduceCtorEq])|(with_reducible first|refine jJ ?_ ?_|refine ya5 ?_|refine ju ?_|refine jv ?_|refine jw ?_|refine jx ?_ (by first|rfl|assumption|(simp only [znl,znHO];(first|done|fail)))|refine jC ?_ (by first|rfl|assumption|(simp only [znl,znHO];(first|done|fail)))))))
    all_goals (first | rfl | trace_state)
  have hvl := volN_len k
  by_cases hlt : k < n
  · have h0 : (List.replicate 128 (VV.int .u8 0)) = (repW (UInt8.ofNat (k + 1)) 0).map encB := by unfold repW; rw [List.replicate_zero, List.nil_append, List.map_replicate]; rfl
    have hbn : ((UInt8.ofNat (k + 1)).toNat : Int) = (k : Int) + 1 := by
      rw [UInt8.toNat_ofNat']; omega
    obtain ⟨b, hb0⟩ : ∃ b, b = UInt8.ofNat (k + 1) := ⟨_, rfl⟩
    have hs := volN_succ k
    rw [← hb0] at h0 hbn hs
    repeat' (first|(with_reducible first|refine yrl (by constructor) ?_|refine jk (fun M hM=>?_)|(refine hM _ ?_;clear hM M)|refine xb3 (by decide) ?_|refine yqa (by assumption) ?_ ?_|refine yqb (by assumption) ?_ ?_)|((with_reducible refine je ?_)<;>(first|rfl|assumption|(simp only [znl,znHO];(first|done|fail))))|(with_reducible refine jf (by (simp only [↓reduceIte,zlk,Nat.reduceEqDiff,reduceCtorEq]);exact rfl) ?_)|((with_reducible first|refine jg (fun hc=>?_) (fun hc=>?_)|refine jh (fun hc=>?_) (fun hc=>?_))<;>(try simp (disch:=omega) only [zhb] at hc)<;>(try (exfalso;omega))<;>(try subst hc))|(with_reducible refine ji (by omega) ?_)|(simp (config := { maxSteps := 400000 }) only [↓jt,↓reduceIte,zvs,reduceCtorEq,Nat.reduceEqDiff,Nat.reduceAdd,Nat.reduceLeDiff,Nat.reduceMul,Int.reduceBNe,Int.reduceBEq,Int.reduceEq,Int.reduceNe,Int.reduceLT,Int.reduceLE,Int.reduceGT,Int.reduceGE,Int.reduceNeg,Int.reduceToNat,Nat.reduceLT,Nat.reduceSub,tab,h0,hvl,Tryd.results24,List.toList_toArray])|(simp (disch:=omega) only [ziw]))
    all_goals (try (exfalso; omega))
    refine ok_loop (fun j : Nat => ⟨slots [(0, .int .i64 n), (3, .sl (some (0, [], 0)) k), (4, .int .i64 k), (5, .sl (some (1, [], 0)) 128), (6, .int .i64 j)], rows [(0, .row (.arr k .cell) (.agg ((volN k).map .str))), (1, .row (.arr 128 .cell) (.agg ((repW b j).map encB)))], 2⟩) (fun j => j ≤ 128) (fun j => 128 - j) 0 ?_ (Nat.zero_le _) (fun j hj => ?_)
    · (refine yrn [(0, 0), (1, 1)] false ?_ ?_<;>(repeat' (first|(with_reducible first|exact ya1|exact ya2|exact ya3|refine jx rfl (by first|rfl|assumption|(simp only [znl,znHO];(first|done|fail)))|exact ya5|exact ya7|exact jy|exact jz|refine jA ?_|refine ya9 ?_ ?_ ?_|refine jC rfl (by first|rfl|assumption|(simp only [znl,znHO];(first|done|fail)))|refine MR.agg (MRL.cons ?_ ?_)|refine MR.fn ?_|refine MRL.cons ?_ ?_|exact MRL.nil|refine jE ?_ ?_|exact jF|exact jG|refine yb1 ?_ ?_|refine MB.row ?_|refine jI ?_ ?_|exact ya8|refine jJ rfl (by first|rfl|assumption|(simp only [znl,znHO];(first|done|fail)))|refine yb2 ?_|rfl)|(simp only [znl,znHO];(first|done|fail))|(simp only [↓reduceIte,zlk,Nat.reduceEqDiff,reduceCtorEq])|(with_reducible first|refine jJ ?_ ?_|refine ya5 ?_|refine ju ?_|refine jv ?_|refine jw ?_|refine jx ?_ (by first|rfl|assumption|(simp only [znl,znHO];(first|done|fail)))|refine jC ?_ (by first|rfl|assumption|(simp only [znl,znHO];(first|done|fail)))))))
      all_goals (first | rfl | trace_state)
    have hl := repW_len b hj
    by_cases hlj : j < 128
    · have hw : ((repW b j).map encB).set j (.int .u8 ((k : Int) + 1)) = (repW b (j + 1)).map encB := by rw [← repW_set b hlj, List.map_set, ← hbn]; rfl
      generalize repW b j = l at hl hw ⊢
      repeat' (first|(with_reducible first|refine yrl (by constructor) ?_|refine jk (fun M hM=>?_)|(refine hM _ ?_;clear hM M)|refine xb3 (by decide) ?_|refine yqa (by assumption) ?_ ?_|refine yqb (by assumption) ?_ ?_)|((with_reducible refine je ?_)<;>(first|rfl|assumption|(simp only [znl,znHO];(first|done|fail))))|(with_reducible refine jf (by (simp only [↓reduceIte,zlk,Nat.reduceEqDiff,reduceCtorEq]);exact rfl) ?_)|((with_reducible first|refine jg (fun hc=>?_) (fun hc=>?_)|refine jh (fun hc=>?_) (fun hc=>?_))<;>(try simp (disch:=omega) only [zhb] at hc)<;>(try (exfalso;omega))<;>(try subst hc))|(with_reducible refine ji (by omega) ?_)|(simp (config := { maxSteps := 400000 }) only [↓jt,↓reduceIte,zvs,reduceCtorEq,Nat.reduceEqDiff,Nat.reduceAdd,Nat.reduceLeDiff,Nat.reduceMul,Int.reduceBNe,Int.reduceBEq,Int.reduceEq,Int.reduceNe,Int.reduceLT,Int.reduceLE,Int.reduceGT,Int.reduceGE,Int.reduceNeg,Int.reduceToNat,Nat.reduceLT,Nat.reduceSub,tab,hl,hw,Tryd.results24,List.toList_toArray])|(simp (disch:=omega) only [ziw]))
      all_goals first
        | (exfalso; omega)
        | (refine xl1 (j + 1) ?_ (by show j + 1 ≤ 128; omega) (by show 128 - (j + 1) < 128 - j; omega); (refine yrn [(0, 0), (1, 1)] false ?_ ?_<;>(repeat' (first|(with_reducible first|exact ya1|exact ya2|exact ya3|refine jx rfl (by first|rfl|assumption|(simp only [znl,znHO];(first|done|fail)))|exact ya5|exact ya7|exact jy|exact jz|refine jA ?_|refine ya9 ?_ ?_ ?_|refine jC rfl (by first|rfl|assumption|(simp only [znl,znHO];(first|done|fail)))|refine MR.agg (MRL.cons ?_ ?_)|refine MR.fn ?_|refine MRL.cons ?_ ?_|exact MRL.nil|refine jE ?_ ?_|exact jF|exact jG|refine yb1 ?_ ?_|refine MB.row ?_|refine jI ?_ ?_|exact ya8|refine jJ rfl (by first|rfl|assumption|(simp only [znl,znHO];(first|done|fail)))|refine yb2 ?_|rfl)|(simp only [znl,znHO];(first|done|fail))|(simp only [↓reduceIte,zlk,Nat.reduceEqDiff,reduceCtorEq])|(with_reducible first|refine jJ ?_ ?_|refine ya5 ?_|refine ju ?_|refine jv ?_|refine jw ?_|refine jx ?_ (by first|rfl|assumption|(simp only [znl,znHO];(first|done|fail)))|refine jC ?_ (by first|rfl|assumption|(simp only [znl,znHO];(first|done|fail))))))); all_goals (first | rfl | exact hw | trace_state); done)
        | trace_state
    · obtain rfl : j = 128 := by omega
      rw [repW_all]
      have hb : bytesOf (((List.replicate 128 b).map encB).take 128) = some (List.replicate 128 b) := by rw [List.take_of_length_le (by simp), bytesOf_enc]
      repeat' (first|(with_reducible first|refine yrl (by constructor) ?_|refine jk (fun M hM=>?_)|(refine hM _ ?_;clear hM M)|refine xb3 (by decide) ?_|refine yqa (by assumption) ?_ ?_|refine yqb (by assumption) ?_ ?_)|((with_reducible refine je ?_)<;>(first|rfl|assumption|(simp only [znl,znHO];(first|done|fail))))|(with_reducible refine jf (by (simp only [↓reduceIte,zlk,Nat.reduceEqDiff,reduceCtorEq]);exact rfl) ?_)|((with_reducible first|refine jg (fun hc=>?_) (fun hc=>?_)|refine jh (fun hc=>?_) (fun hc=>?_))<;>(try simp (disch:=omega) only [zhb] at hc)<;>(try (exfalso;omega))<;>(try subst hc))|(with_reducible refine ji (by omega) ?_)|(simp (config := { maxSteps := 400000 }) only [↓jt,↓reduceIte,zvs,reduceCtorEq,Nat.reduceEqDiff,Nat.reduceAdd,Nat.reduceLeDiff,Nat.reduceMul,Int.reduceBNe,Int.reduceBEq,Int.reduceEq,Int.reduceNe,Int.reduceLT,Int.reduceLE,Int.reduceGT,Int.reduceGE,Int.reduceNeg,Int.reduceToNat,Nat.reduceLT,Nat.reduceSub,tab,hb,hvl,Tryd.results24,List.toList_toArray])|(simp (disch:=omega) only [ziw]))
      all_goals (try (exfalso; omega))
      refine xl1 (k + 1) ?_ (by show k + 1 ≤ n; omega) (by show n - (k + 1) < n - k; omega)
      (refine yrn [(0, 3)] false ?_ ?_<;>(repeat' (first|(with_reducible first|exact ya1|exact ya2|exact ya3|refine jx rfl (by first|rfl|assumption|(simp only [znl,znHO];(first|done|fail)))|exact ya5|exact ya7|exact jy|exact jz|refine jA ?_|refine ya9 ?_ ?_ ?_|refine jC rfl (by first|rfl|assumption|(simp only [znl,znHO];(first|done|fail)))|refine MR.agg (MRL.cons ?_ ?_)|refine MR.fn ?_|refine MRL.cons ?_ ?_|exact MRL.nil|refine jE ?_ ?_|exact jF|exact jG|refine yb1 ?_ ?_|refine MB.row ?_|refine jI ?_ ?_|exact ya8|refine jJ rfl (by first|rfl|assumption|(simp only [znl,znHO];(first|done|fail)))|refine yb2 ?_|rfl)|(simp only [znl,znHO];(first|done|fail))|(simp only [↓reduceIte,zlk,Nat.reduceEqDiff,reduceCtorEq])|(with_reducible first|refine jJ ?_ ?_|refine ya5 ?_|refine ju ?_|refine jv ?_|refine jw ?_|refine jx ?_ (by first|rfl|assumption|(simp only [znl,znHO];(first|done|fail)))|refine jC ?_ (by first|rfl|assumption|(simp only [znl,znHO];(first|done|fail)))))))
      all_goals (first | rfl | (rw [hs]; done) | trace_state)
  obtain rfl : k = n := by omega
  repeat' (first|(with_reducible first|refine yrl (by constructor) ?_|refine jk (fun M hM=>?_)|(refine hM _ ?_;clear hM M)|refine xb3 (by decide) ?_|refine yqa (by assumption) ?_ ?_|refine yqb (by assumption) ?_ ?_)|((with_reducible refine je ?_)<;>(first|rfl|assumption|(simp only [znl,znHO];(first|done|fail))))|(with_reducible refine jf (by (simp only [↓reduceIte,zlk,Nat.reduceEqDiff,reduceCtorEq]);exact rfl) ?_)|((with_reducible first|refine jg (fun hc=>?_) (fun hc=>?_)|refine jh (fun hc=>?_) (fun hc=>?_))<;>(try simp (disch:=omega) only [zhb] at hc)<;>(try (exfalso;omega))<;>(try subst hc))|(with_reducible refine ji (by omega) ?_)|(simp (config := { maxSteps := 400000 }) only [↓jt,↓reduceIte,zvs,reduceCtorEq,Nat.reduceEqDiff,Nat.reduceAdd,Nat.reduceLeDiff,Nat.reduceMul,Int.reduceBNe,Int.reduceBEq,Int.reduceEq,Int.reduceNe,Int.reduceLT,Int.reduceLE,Int.reduceGT,Int.reduceGE,Int.reduceNeg,Int.reduceToNat,Nat.reduceLT,Nat.reduceSub,tab,hvl,Tryd.results24,List.toList_toArray])|(simp (disch:=omega) only [ziw]))
  all_goals first
    | (exfalso; omega)
    | (refine rdt_of ?_ rfl; (refine rd_own (by (simp only [↓reduceIte,zlk,Nat.reduceEqDiff,reduceCtorEq]); exact rfl) ?_ ?_ ?_) <;> (first | rfl | assumption | (simp only [znl,znHO];(first|done|fail)) | (simp; done) | (simp; omega) | skip); all_goals (first | (rw [List.length_map, hvl]; done) | trace_state); done)
    | trace_state
def fitsD (v : Frames) (l : List Wr) : Bool := decide (1 ≤ v.length) && (decide (v.length ≤ 40) && (!bigL l && (decide (mayD v.length l = 0) && decide ((formatD v).2 = 0))))
theorem fits_spec (v : Frames) (hv1 : v.length ≤ 2 ^ 47) (hv2 : ∀ s ∈ v, s.length ≤ 2 ^ 47) (l : List Wr) (hl1 : l.length ≤ 2 ^ 47) (hl2 : ∀ w ∈ l, -2 ^ 63 ≤ w.b ∧ w.b < 2 ^ 63) (hl3 : ∀ w ∈ l, w.d.length ≤ 2 ^ 47) : Spec Tryd.prog 19 [encStrs v, encWrs l] (.bool (fitsD v l)) := by
  obtain ⟨R, hR⟩ : ∃ R, R = fitsD v l := ⟨_, rfl⟩
  rw [← hR]
  unfold fitsD at hR
  have hL := longW_spec l hl1 hl3
  have hM : bigL l = false → v.length ≤ 40 → Spec Tryd.prog 36 [encWrs l, .int .i64 v.length] (.int .i64 (mayD v.length l)) := fun hb hv => rmay_spec l ⟨by (simp only [bigL,Bool.or_eq_false_iff,decide_eq_false_iff_not] at hb; omega), hl2, hl3⟩ v.length (by omega)
  have hF : v.length ≤ 40 → Spec Tryd.prog 10 [encStrs v] (drV (formatD v)) := fun hv => rformat_spec v ⟨by omega, hv2⟩
  obtain ⟨x, hx⟩ : ∃ x, x = mayD v.length l := ⟨_, rfl⟩
  rw [← hx] at hM hR
  obtain ⟨y, hy⟩ : ∃ y, y = formatD v := ⟨_, rfl⟩
  rw [← hy] at hF hR
  obtain ⟨y1, y2⟩ := y
  simp only [drV] at hF
  dsimp only at hR
  refine spec_ok Tryd.func19 rfl rfl (by kernel_rfl) (k := 2) rfl (by decide) ?_
  cases hbl : bigL l <;> rw [hbl] at hL hR <;> simp only [Bool.false_eq_true,if_false,if_true] at hL
  all_goals by_cases h1 : v.length < 1
  all_goals by_cases h2 : 40 < v.length
  all_goals (try have hF := hF (by omega))
  all_goals (try have hM := hM (by assumption) (by omega))
  all_goals by_cases h3 : x = 0
  all_goals (try (exfalso; omega))
  all_goals repeat' (first|(with_reducible first|refine yrl (by constructor) ?_|refine jk (fun M hM=>?_)|(refine hM _ ?_;clear hM M)|refine xb3 (by decide) ?_|refine yqa (by assumption) ?_ ?_|refine yqb (by assumption) ?_ ?_)|((with_reducible refine je ?_)<;>(first|rfl|assumption|(simp only [znl,znHO];(first|done|fail))))|(with_reducible refine jf (by (simp only [↓reduceIte,zlk,Nat.reduceEqDiff,reduceCtorEq]);exact rfl) ?_)|((with_reducible first|refine jg (fun hc=>?_) (fun hc=>?_)|refine jh (fun hc=>?_) (fun hc=>?_))<;>(try simp (disch:=omega) only [zhb] at hc)<;>(try (exfalso;omega))<;>(try subst hc))|(with_reducible refine ji (by omega) ?_)|(simp (config := { maxSteps := 400000 }) only [↓jt,↓reduceIte,zvs,reduceCtorEq,Nat.reduceEqDiff,Nat.reduceAdd,Nat.reduceLeDiff,Nat.reduceMul,Int.reduceBNe,Int.reduceBEq,Int.reduceEq,Int.reduceNe,Int.reduceLT,Int.reduceLE,Int.reduceGT,Int.reduceGE,Int.reduceNeg,Int.reduceToNat,Nat.reduceLT,Nat.reduceSub,tab,Tryd.results19,List.toList_toArray])|(simp (disch:=omega) only [ziw]))
  all_goals first
    | ((have e : R = false := by (rw [hR]; simp only [Bool.and_eq_false_iff,decide_eq_false_iff_not,Bool.not_true,Bool.not_false,Bool.true_eq_false,Bool.false_eq_true,true_or,or_true,false_or,or_false]; (try omega))); rw [e]; simp only [zrds]; done)
    | ((have e : R = (y2 == 0) := by (rw [hR, decide_eq_true (by omega : 1 ≤ v.length), decide_eq_true (by omega : v.length ≤ 40), decide_eq_true h3]; simp only [Bool.not_false,Bool.true_and]; by_cases hy : y2 = 0 <;> simp [hy])); rw [e]; simp only [zrds]; done)
    | trace_state
end Go.Proofs.YtcilmfhncjfdbaaDoor.V
end
section
/-
  WAL, plainly: what calls of a drive leave, block by block; to recover twice.
-/
set_option linter.unusedVariables false
set_option linter.unusedSimpArgs false
namespace Go.Proofs.YtcilmfhncjfdbaaDoor.V
open Go
set_option maxRecDepth 100000
def putC (w : Wr) : Cl := .put w.b w.d
def WV (n : Nat) (ws : List Wr) : Prop := ∀ w ∈ ws, 0 ≤ w.b ∧ w.b < (n : Int) ∧ w.d.length = 128
theorem lessD_neg {n : Int} (h : n < 0) : lessD n = n := by unfold lessD; rw [if_neg (by omega)]
theorem runC_puts_neg : ∀ (ws : List Wr) (d : Dr), d.left < 0 → WV d.bl.length ws → runC d (ws.map putC) = (⟨d.bl, d.pe ++ ws, d.left⟩, 0)
  | [], d, _, _ => by rw [List.append_nil]; rfl
  | w :: ws, d, hl, hw => by
    obtain ⟨w1, w2, w3⟩ := hw w (by simp)
    rw [List.map_cons, runC]
    have es : stepC d (putC w) = (⟨d.bl, d.pe ++ [w], d.left⟩, 0) := by
      show putD d w.b w.d = _
      unfold putD
      rw [if_neg (by simp only [Decidable.not_not]; exact ⟨w1, w2⟩), if_neg (by simp [w3]), if_neg (by omega), lessD_neg hl]
    have ih := runC_puts_neg ws ⟨d.bl, d.pe ++ [w], d.left⟩ hl (fun x hx => hw x (by simp [hx]))
    rw [es, if_neg (fun h => h rfl)]
    refine ih.trans ?_
    simp only [List.append_assoc,List.cons_append,List.nil_append]
theorem runC_flush_neg {ws : List Wr} {d : Dr} (hl : d.left < 0) (hw : WV d.bl.length ws) : runC d (ws.map putC ++ [.flush]) = (⟨flushB (d.pe ++ ws) d.bl, [], d.left⟩, 0) := by
  rw [runC_append, runC_puts_neg ws d hl hw, if_neg (fun h => h rfl), runC]
  have es : stepC ⟨d.bl, d.pe ++ ws, d.left⟩ .flush = (⟨flushB (d.pe ++ ws) d.bl, [], d.left⟩, 0) := by
    show flushD _ = _
    unfold flushD
    rw [if_neg (by show ¬ d.left = 0; omega)]
    show ((⟨_, _, lessD d.left⟩ : Dr), (0 : Int)) = _
    rw [lessD_neg hl]
  rw [es]; rfl
def upH (w : Wr) : Wr := ⟨33 + w.b, w.d⟩
theorem range_getD {α β : Type} [Inhabited α] (l : List α) (f : α → β) : ((List.range l.length).map fun i => f (l.getD i default)) = l.map f := by
  refine List.ext_getElem (by simp) fun i h1 h2 => ?_
  have hi : i < l.length := by simpa using h2
  simp [hi]
theorem hmP_map (l : List Wr) : hmP l l.length = (l.map upH).map putC := by
  unfold hmP
  rw [range_getD l fun w => Cl.put (33 + w.b) w.d, List.map_map]; rfl
theorem getP_append (a b : List Wr) (i : Int) (s : List UInt8) : getP (a ++ b) i s = getP b i (getP a i s) := by simp [getP, List.foldl_append]
theorem getP_up (i : Nat) : ∀ (l : List Wr) (s : List UInt8), getP (l.map upH) ((33 + i : Nat) : Int) s = getP l i s
  | [], s => rfl
  | w :: l, s => by
    show getP (l.map upH) _ (if 33 + w.b = ((33 + i : Nat) : Int) then w.d else s) = getP l i (if w.b = i then w.d else s)
    rw [getP_up i l]
    congr 1
    by_cases h : w.b = i
    · rw [if_pos h, if_pos (by omega)]
    · rw [if_neg h, if_neg (by omega)]
theorem getP_none (i : Int) : ∀ (l : List Wr) (s : List UInt8), (∀ w ∈ l, w.b ≠ i) → getP l i s = s
  | [], s, _ => rfl
  | w :: l, s, h => by
    show getP l i (if w.b = i then w.d else s) = s
    rw [if_neg (h w (by simp)), getP_none i l s fun x hx => h x (by simp [hx])]
theorem got_flushed (pe : List Wr) (bl : Frames) (q : Int) {i : Nat} (hi : i < bl.length) : gotF ⟨flushB pe bl, [], q⟩ i = getP pe i (bl.getD i []) := flushB_get pe bl i hi
structure DGood (d : Dr) : Prop where
  lo : 33 < d.bl.length
  hi : d.bl.length ≤ 256
  bl : ∀ s ∈ d.bl, s.length = 128
  pe : WV d.bl.length d.pe
theorem checkW_of {n : Nat} : ∀ {l : List Wr}, WV n l → checkW n l = 0
  | [], _ => rfl
  | w :: l, h => by
    obtain ⟨w1, w2, w3⟩ := h w (by simp)
    rw [checkW, if_neg (by simp only [Decidable.not_not]; exact ⟨w1, w2⟩), if_neg (by simp [w3])]
    exact checkW_of fun x hx => h x (by simp [hx])
theorem DGood.bad {d : Dr} (h : DGood d) : badD d = 0 := by
  obtain ⟨h1, h2, h3, h4⟩ := h
  have hc : checkD d = 0 := by
    unfold checkD
    rw [if_neg (by omega), if_neg (by simp only [List.any_eq_true,decide_eq_true_eq,not_exists,not_and,Decidable.not_not]; exact h3)]
    exact checkW_of h4
  unfold badD
  rw [if_neg (by simp [hc]), if_neg (by omega)]
theorem flushB_128 {n : Nat} {pe : List Wr} (hp : WV n pe) : ∀ {g : Frames}, (∀ s ∈ g, s.length = 128) → ∀ s ∈ flushB pe g, s.length = 128 := by
  induction pe with
  | nil => intro g h; exact h
  | cons w pe ih =>
    intro g h
    show ∀ s ∈ flushB pe (wrB g w), _
    refine ih (fun x hx => hp x (by simp [hx])) fun s hs => ?_
    unfold wrB at hs
    split at hs
    · rcases List.mem_or_eq_of_mem_set hs with hs | rfl
      · exact h s hs
      · exact (hp w (by simp)).2.2
    · exact h s hs
theorem DGood.flushed {d : Dr} (h : DGood d) {ws : List Wr} (hw : WV d.bl.length ws) (q : Int) : DGood ⟨flushB (d.pe ++ ws) d.bl, [], q⟩ := by
  obtain ⟨h1, h2, h3, h4⟩ := h
  have hl : (flushB (d.pe ++ ws) d.bl).length = d.bl.length := flushB_len _ _
  refine ⟨by show 33 < (flushB _ _).length; omega, by show (flushB _ _).length ≤ 256; omega, flushB_128 (n := d.bl.length) (fun w hw' => ?_) h3, fun w hw => by cases hw⟩
  rcases List.mem_append.1 hw' with hw' | hw'
  · exact h4 w hw'
  · exact hw w hw'
theorem may_wv {l : List Wr} {n : Nat} (h : mayD (n : Int) l = 0) : WV n l ∧ l.length ≤ 32 := by
  unfold mayD at h
  split at h
  · cases h
  · exact ⟨fun w hw => may_ok h w hw, by omega⟩
theorem up_wv {l : List Wr} {n : Nat} (hn : 33 < n) (h : WV (n - 33) l) : WV n (l.map upH) := by
  intro w hw
  obtain ⟨x, hx, rfl⟩ := List.mem_map.1 hw
  obtain ⟨x1, x2, x3⟩ := h x hx
  exact ⟨by show 0 ≤ 33 + x.b; omega, by show 33 + x.b < (n : Int); omega, x3⟩
end Go.Proofs.YtcilmfhncjfdbaaDoor.V
end
section
/-
  WAL, plainly: a commit of a drive that waits for nothing; two of them; the journal's head behind one.
-/
set_option linter.unusedVariables false
set_option linter.unusedSimpArgs false
namespace Go.Proofs.YtcilmfhncjfdbaaDoor.V
open Go
set_option maxRecDepth 100000
def ptH (l : List Wr) (k : Nat) : List Wr := (List.range k).map fun i : Nat => ⟨1 + (i : Int), (l.getD i default).d⟩
theorem ptP_map (l : List Wr) (k : Nat) : ptP l k = (ptH l k).map putC := by
  unfold ptP ptH
  rw [List.map_map]; rfl
theorem ptH_succ (l : List Wr) (k : Nat) : ptH l (k + 1) = ptH l k ++ [⟨1 + (k : Int), (l.getD k default).d⟩] := by simp [ptH, List.range_succ]
theorem getP_pt (l : List Wr) (i : Nat) (s : List UInt8) : ∀ k, getP (ptH l k) ((i + 1 : Nat) : Int) s = if i < k then (l.getD i default).d else s
  | 0 => rfl
  | k + 1 => by
    rw [ptH_succ, getP_snoc, getP_pt l i s k]
    dsimp only
    by_cases h : i = k
    · subst h
      rw [if_pos (by omega), if_pos (by omega)]
    · rw [if_neg (by omega)]
      by_cases h2 : i < k
      · rw [if_pos h2, if_pos (by omega)]
      · rw [if_neg h2, if_neg (by omega)]
def jourH (l : List Wr) : List Wr := ptH l l.length ++ [⟨0, headF l⟩]
theorem calls_eq (l : List Wr) : callsC l = ((jourH l).map putC ++ [.flush]) ++ ((l.map upH).map putC ++ [.flush]) := by
  have hC : homeC l = (l.map upH).map putC ++ [.flush] := by unfold homeC; rw [hmP_map]
  unfold callsC
  rw [hC, ptP_map, jourH, List.map_append]
  simp only [List.append_assoc,List.map_cons,List.map_nil,List.cons_append,List.nil_append]
  rfl
theorem jour_wv {l : List Wr} {n : Nat} (hn : 33 < n) (hl : l.length ≤ 32) (h : WV (n - 33) l) : WV n (jourH l) := by
  intro w hw
  rcases List.mem_append.1 hw with hw | hw
  · obtain ⟨i, hi, rfl⟩ := List.mem_map.1 hw
    have hi := List.mem_range.1 hi
    exact ⟨by show 0 ≤ 1 + (i : Int); omega, by show 1 + (i : Int) < n; omega, (h _ (getD_mem' hi)).2.2⟩
  · simp only [List.mem_cons,List.not_mem_nil,or_false] at hw
    subst hw
    exact ⟨by show (0 : Int) ≤ 0; omega, by show (0 : Int) < n; omega, headF_len hl⟩
structure Quiet (d : Dr) : Prop where
  good : DGood d
  pe : d.pe = []
  left : d.left = -1
structure Comm (d : Dr) (l : List Wr) (x : Dr) : Prop where
  quiet : Quiet x
  len : x.bl.length = d.bl.length
  vol : ∀ i : Nat, 33 + i < d.bl.length → gotF x (33 + i) = getP l i (gotF d (33 + i))
  head : l ≠ [] → gotF x 0 = headF l
  dat : ∀ i, i < l.length → gotF x (i + 1) = (l.getD i default).d
theorem commit_quiet {d : Dr} (hq : Quiet d) {l : List Wr} (hm : mayD ((d.bl.length - 33 : Nat) : Int) l = 0) : ∃ x, commitD d l = (x, 0) ∧ Comm d l x := by
  obtain ⟨hg, hp, hl⟩ := id hq
  unfold commitD
  rw [if_neg (by simp [hg.bad]), if_neg (by simp [hm])]
  by_cases hn : l = []
  · subst hn
    rw [if_pos rfl]
    exact ⟨d, rfl, hq, rfl, fun i _ => rfl, fun h => absurd rfl h, fun i h => by cases h⟩
  rw [if_neg hn]
  obtain ⟨hw, hwl⟩ := may_wv hm
  have hlo := hg.lo
  have hj := jour_wv hg.lo hwl hw
  have hu := up_wv hg.lo hw
  obtain ⟨y, hy⟩ : ∃ y : Dr, y = ⟨flushB (d.pe ++ jourH l) d.bl, [], d.left⟩ := ⟨_, rfl⟩
  have hyl : y.bl.length = d.bl.length := by rw [hy]; exact flushB_len _ _
  have hyp : y.pe = [] := by rw [hy]
  have hyg : DGood y := by rw [hy]; exact hg.flushed hj _
  have hyf : y.left = -1 := by rw [hy]; exact hl
  obtain ⟨x, hx⟩ : ∃ x : Dr, x = ⟨flushB (y.pe ++ l.map upH) y.bl, [], y.left⟩ := ⟨_, rfl⟩
  have hxl : x.bl.length = y.bl.length := by rw [hx]; exact flushB_len _ _
  have hxg : DGood x := by rw [hx]; exact hyg.flushed (by rw [hyl]; exact hu) _
  have e1 : runC d ((jourH l).map putC ++ [.flush]) = (y, 0) := by rw [hy]; exact runC_flush_neg (by omega) hj
  have e2 : runC y ((l.map upH).map putC ++ [.flush]) = (x, 0) := by rw [hx]; exact runC_flush_neg (by omega) (by rw [hyl]; exact hu)
  have gy : ∀ i, i < d.bl.length → gotF y i = getP (jourH l) i (gotF d i) := fun i hi => by
    rw [hy, got_flushed _ _ _ hi, getP_append]; rfl
  have gx : ∀ i, i < d.bl.length → gotF x i = getP (l.map upH) i (gotF y i) := fun i hi => by
    rw [hx, got_flushed _ _ _ (by omega), getP_append]; rfl
  have lo : ∀ i : Nat, i < 33 → ∀ s, getP (l.map upH) i s = s := fun i hi s => getP_none _ _ _ fun w hw' e => by
    obtain ⟨z, hz, rfl⟩ := List.mem_map.1 hw'
    have := (hw z hz).1
    have e' : 33 + z.b = (i : Int) := e
    omega
  refine ⟨x, ?_, ⟨hxg, by rw [hx], by rw [hx]; exact hyf⟩, by omega, fun i hi => ?_, fun _ => ?_, fun i hi => ?_⟩
  · rw [calls_eq, runC_append, e1, if_neg (fun h => h rfl)]; exact e2
  · rw [gx _ hi, getP_up, gy _ hi, getP_none (33 + i : Nat) (jourH l) _ fun w hw' e => ?_]
    rcases List.mem_append.1 hw' with hw' | hw'
    · obtain ⟨k, hk, rfl⟩ := List.mem_map.1 hw'
      have hk := List.mem_range.1 hk
      have e' : 1 + (k : Int) = ((33 + i : Nat) : Int) := e
      omega
    · simp only [List.mem_cons,List.not_mem_nil,or_false] at hw'
      subst hw'
      have e' : (0 : Int) = ((33 + i : Nat) : Int) := e
      omega
  · rw [gx 0 (by omega), lo 0 (by omega), gy 0 (by omega), jourH, getP_snoc]; exact if_pos rfl
  · rw [gx (i + 1) (by omega), lo (i + 1) (by omega), gy (i + 1) (by omega), jourH, getP_snoc, if_neg (by show ¬ (0 : Int) = _; omega), getP_pt, if_pos hi]
theorem format_ok {v : Frames} (h : (formatD v).2 = 0) : (formatD v).1 = ⟨List.replicate 33 zeros ++ v, [], -1⟩ ∧ Quiet (formatD v).1 ∧ (formatD v).1.bl.length = 33 + v.length := by
  unfold formatD at h ⊢
  split
  · rename_i h1; rw [if_pos h1] at h; cases h
  · rename_i h1
    rw [if_neg h1] at h
    split
    · rename_i h2; rw [if_pos h2] at h; cases h
    · rename_i h2
      have hl : (List.replicate 33 zeros ++ v).length = 33 + v.length := by rw [List.length_append, List.length_replicate]
      simp only [List.any_eq_true,not128,decide_eq_true_eq,not_exists,not_and,Decidable.not_not] at h2
      refine ⟨rfl, ⟨⟨by show 33 < (List.replicate 33 zeros ++ v).length; omega, by show (List.replicate 33 zeros ++ v).length ≤ 256; omega, fun s hs => ?_, fun w hw => by cases hw⟩, rfl, rfl⟩, hl⟩
      rcases List.mem_append.1 hs with hs | hs
      · rw [List.eq_of_mem_replicate hs]; rfl
      · exact h2 s hs
theorem runC_go {d y : Dr} {c : Cl} {cs : List Cl} (h : stepC d c = (y, 0)) : runC d (c :: cs) = runC y cs := by rw [runC, h, if_neg (fun h => h rfl)]
theorem runC_no {d y : Dr} {e : Int} {c : Cl} {cs : List Cl} (h : stepC d c = (y, e)) (he : e ≠ 0) : runC d (c :: cs) = (y, e) := by rw [runC, h, if_pos he]
theorem put_go {bl : Frames} {pe : List Wr} {n i : Int} {s : List UInt8} (hn : 0 < n) (h0 : 0 ≤ i) (h1 : i < bl.length) (hs : s.length = 128) : stepC ⟨bl, pe, n⟩ (.put i s) = (⟨bl, pe ++ [⟨i, s⟩], n - 1⟩, 0) := by
  show putD _ i s = _
  unfold putD lessD
  rw [if_neg (by simp only [Decidable.not_not]; exact ⟨h0, h1⟩), if_neg (by simp [hs]), if_neg (by show ¬ n = 0; omega), if_pos (by show 0 < n; exact hn)]
theorem flush_go {bl : Frames} {pe : List Wr} {n : Int} (hn : 0 < n) : stepC ⟨bl, pe, n⟩ .flush = (⟨flushB pe bl, [], n - 1⟩, 0) := by
  show flushD _ = _
  unfold flushD lessD
  rw [if_neg (by show ¬ n = 0; omega), if_pos (by show 0 < n; exact hn)]
theorem flush_no {bl : Frames} {pe : List Wr} : stepC ⟨bl, pe, 0⟩ .flush = (⟨bl, pe, 0⟩, 17) := by
  show flushD _ = _
  unfold flushD
  rw [if_pos rfl]
theorem may_one {n : Int} {s : List UInt8} (hn : 1 < n) (hs : s.length = 128) : mayD n [⟨1, s⟩] = 0 := by
  unfold mayD
  rw [if_neg (by show ¬ 32 < 1; omega), mayF, if_neg (by simp only [Decidable.not_not]; exact ⟨by decide, hn⟩), if_neg (by simp [hs])]
  rfl
theorem calls_one (s : List UInt8) : callsC [⟨1, s⟩] = [.put 1 s, .put 0 (headF [⟨1, s⟩]), .flush, .put 34 s, .flush] := rfl
theorem commit_one {bl : Frames} {n : Int} {s : List UInt8} (hg : DGood ⟨bl, [], n⟩) (hb : 35 ≤ bl.length) (hs : s.length = 128) : commitD ⟨bl, [], n⟩ [⟨1, s⟩] = runC ⟨bl, [], n⟩ [.put 1 s, .put 0 (headF [⟨1, s⟩]), .flush, .put 34 s, .flush] := by
  unfold commitD
  rw [if_neg (by simp [hg.bad]), if_neg (by rw [may_one (by show (1 : Int) < ((bl.length - 33 : Nat) : Int); omega) hs]; exact fun h => h rfl), if_neg (by simp), calls_one]
theorem awake_four {bl : Frames} {s : List UInt8} (hg : DGood ⟨bl, [], 4⟩) (hb : 35 ≤ bl.length) (hs : s.length = 128) : ∃ x, commitD ⟨bl, [], 4⟩ [⟨1, s⟩] = (x, 17) ∧ x.left = 0 := by
  have hh : (headF [⟨1, s⟩]).length = 128 := headF_len (by show 1 ≤ 32; omega)
  rw [commit_one hg hb hs, runC_go (put_go (by decide) (by decide) (by omega) hs), runC_go (put_go (by decide) (by decide) (by omega) hh), runC_go (flush_go (by decide)), runC_go (put_go (by decide) (by decide) (by rw [flushB_len]; omega) hs)]
  exact ⟨_, runC_no flush_no (by decide), rfl⟩
theorem awake_five {bl : Frames} {s : List UInt8} (hg : DGood ⟨bl, [], 5⟩) (hb : bl.length = 35) (hs : s.length = 128) : ∃ x, commitD ⟨bl, [], 5⟩ [⟨1, s⟩] = (x, 0) ∧ x.left = 0 ∧ (volB x).length = 2 ∧ (volB x).getD 1 [] = s ∧ DOk 0 x := by
  have hh : (headF [⟨1, s⟩]).length = 128 := headF_len (by show 1 ≤ 32; omega)
  rw [commit_one hg (by omega) hs, runC_go (put_go (by decide) (by decide) (by omega) hs), runC_go (put_go (by decide) (by decide) (by omega) hh), runC_go (flush_go (by decide)), runC_go (put_go (by decide) (by decide) (by rw [flushB_len]; omega) hs), runC_go (flush_go (by decide))]
  obtain ⟨g, hgd⟩ : ∃ g, g = flushB ([] ++ [⟨1, s⟩] ++ [⟨0, headF [⟨1, s⟩]⟩]) bl := ⟨_, rfl⟩
  have hgg : DGood ⟨g, [], 0⟩ := by
    rw [hgd]
    refine hg.flushed (ws := [⟨1, s⟩] ++ [⟨0, headF [⟨1, s⟩]⟩]) (fun w hw => ?_) 0
    simp only [List.cons_append,List.nil_append,List.mem_cons,List.not_mem_nil,or_false] at hw
    rcases hw with rfl | rfl
    · exact ⟨by show (0 : Int) ≤ 1; decide, by show (1 : Int) < bl.length; omega, hs⟩
    · exact ⟨by show (0 : Int) ≤ 0; decide, by show (0 : Int) < bl.length; omega, hh⟩
  have hgl : g.length = 35 := by rw [hgd, flushB_len]; exact hb
  rw [← hgd]
  have hgx : DGood ⟨flushB ([] ++ [⟨34, s⟩]) g, [], 0⟩ := hgg.flushed (ws := [⟨34, s⟩]) (fun w hw => by
    simp only [List.mem_cons,List.not_mem_nil,or_false] at hw
    subst hw
    exact ⟨by show (0 : Int) ≤ 34; decide, by show (34 : Int) < g.length; omega, hs⟩) 0
  have hxl : (flushB ([] ++ [⟨34, s⟩]) g).length = 35 := by rw [flushB_len, hgl]
  rw [show (5 - 1 - 1 - 1 - 1 - 1 : Int) = 0 from rfl]
  refine ⟨_, rfl, rfl, ?_, ?_, ⟨by show (flushB _ g).length ≤ _; omega, fun t ht => by rw [hgx.bl t ht]; omega, by show 0 ≤ 0; omega, fun w hw => (by cases hw), by show (-2 ^ 63 : Int) ≤ 0; decide, by show (0 : Int) < 2 ^ 63; decide⟩⟩
  · unfold volB
    rw [if_pos hgx.bad]
    simp only [volV,List.length_map,List.length_range]
    show (flushB _ g).length - 33 = 2
    omega
  · unfold volB
    rw [if_pos hgx.bad]
    have e : volV ⟨flushB ([] ++ [⟨34, s⟩]) g, [], 0⟩ = [gotF ⟨flushB ([] ++ [⟨34, s⟩]) g, [], 0⟩ 33, gotF ⟨flushB ([] ++ [⟨34, s⟩]) g, [], 0⟩ 34] := by
      unfold volV
      rw [show (flushB ([] ++ [⟨34, s⟩]) g).length - 33 = 2 by omega]; rfl
    rw [e]
    show gotF ⟨flushB ([] ++ [⟨34, s⟩]) g, [], 0⟩ 34 = s
    rw [got_flushed _ _ _ (by omega)]
    rfl
end Go.Proofs.YtcilmfhncjfdbaaDoor.V
end
