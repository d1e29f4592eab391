/-
  Parts of the proof of WalRecovers: N8, T7, Bd, T8, Own, HA, HB, D2, HC, Vkeep, Vany.
  Conditions: none.
-/
import Derived.Test.YtcilmfhncjfdbaaDoorWWalRecovers08
import Derived.Test.YtcilmfhncjfdbaaDoorWWalRecovers05
import Derived.WalkKit
import Derived.Lib.BufStepsIn
import Derived.Shelf.Strings.BuilderK
import Derived.Maps.AppendAt
import Derived.OwnWalk
import Derived.Lib.SmallJoins
import Derived.Test.YtcilmfhncjfdbaaDoorWWalRecovers01
import Derived.Lib.Hide
import Derived.Laws.MakeOwn
import Derived.Laws.IdiomStrings
import Derived.Deep.MidRow
import Derived.Test.YtcilmfhncjfdbaaDoorWWalRecovers04
section
/-
  MACHINES, part 8: the document's numbers as bytes, zeros, and a volume's plan.
-/
set_option linter.unusedVariables false
set_option linter.unusedSimpArgs false
namespace Go.Proofs.YtcilmfhncjfdbaaDoor.V
open Go
set_option maxRecDepth 100000
-- nlx: jO
set_option maxHeartbeats 1000000
theorem zeros16_spec (n : Nat) (hn : n ≤ 1000) : Spec Tryd.prog 26 [.int .i64 n] (.str (List.replicate n 0)) := by
  refine spec_ok Tryd.func26 rfl rfl (by kernel_rfl) (k := 1) rfl (by decide) ?_
  repeat' (first|(with_reducible first|refine yrl (by constructor) ?_|refine jk (fun M hM=>?_)|(refine hM _ ?_;clear hM M)|refine xb3 (by decide) ?_|refine yqa (by assumption) ?_ ?_|refine yqb (by assumption) ?_ ?_)|((with_reducible refine je ?_)<;>(first|rfl|assumption|(simp only [znl,jO];(first|done|fail))))|(with_reducible refine jf (by (simp only [↓reduceIte,zlk,Nat.reduceEqDiff,reduceCtorEq]);exact rfl) ?_)|((with_reducible first|refine jg (fun hc=>?_) (fun hc=>?_)|refine jh (fun hc=>?_) (fun hc=>?_))<;>(try simp (disch:=omega) only [zhb] at hc)<;>(try (exfalso;omega))<;>(try subst hc))|(with_reducible refine ji (by omega) ?_)|(simp (config := { maxSteps := 400000 }) only [↓jt,↓reduceIte,zvs,reduceCtorEq,Nat.reduceEqDiff,Nat.reduceAdd,Nat.reduceLeDiff,Nat.reduceMul,Int.reduceBNe,Int.reduceBEq,Int.reduceEq,Int.reduceNe,Int.reduceLT,Int.reduceLE,Int.reduceGT,Int.reduceGE,Int.reduceNeg,Int.reduceToNat,Nat.reduceLT,Nat.reduceSub,tab,Tryd.results26,List.toList_toArray])|(simp (disch:=omega) only [ziw]))
  refine ok_loop (fun k : Nat => ⟨slots [(0, .int .i64 n), (2, .str []), (3, .str (List.replicate k 0)), (4, .int .i64 k)], rows [], 0⟩) (fun k => k ≤ n) (fun k => n - k) 0 ?_ (Nat.zero_le _) (fun k hk => ?_)
  · (refine yrn [] false ?_ ?_<;>(repeat' (first|(with_reducible first|exact ya1|exact ya2|exact ya3|refine jx rfl (by first|rfl|assumption|(simp only [znl,jO];(first|done|fail)))|exact ya5|exact ya7|exact jy|exact jz|refine jA ?_|refine ya9 ?_ ?_ ?_|refine jC rfl (by first|rfl|assumption|(simp only [znl,jO];(first|done|fail)))|refine MR.agg (MRL.cons ?_ ?_)|refine MR.fn ?_|refine MRL.cons ?_ ?_|exact MRL.nil|refine jE ?_ ?_|exact jF|exact jG|refine yb1 ?_ ?_|refine MB.row ?_|refine jI ?_ ?_|exact ya8|refine jJ rfl (by first|rfl|assumption|(simp only [znl,jO];(first|done|fail)))|refine yb2 ?_|rfl)|(simp only [znl,jO];(first|done|fail))|(simp only [↓reduceIte,zlk,Nat.reduceEqDiff,reduceCtorEq])|(with_reducible first|refine jJ ?_ ?_|refine ya5 ?_|refine ju ?_|refine jv ?_|refine jw ?_|refine jx ?_ (by first|rfl|assumption|(simp only [znl,jO];(first|done|fail)))|refine jC ?_ (by first|rfl|assumption|(simp only [znl,jO];(first|done|fail)))))))
    all_goals (first | rfl | (simp; done) | trace_state)
  by_cases hlt : k < n
  · repeat' (first|(with_reducible first|refine yrl (by constructor) ?_|refine jk (fun M hM=>?_)|(refine hM _ ?_;clear hM M)|refine xb3 (by decide) ?_|refine yqa (by assumption) ?_ ?_|refine yqb (by assumption) ?_ ?_)|((with_reducible refine je ?_)<;>(first|rfl|assumption|(simp only [znl,jO];(first|done|fail))))|(with_reducible refine jf (by (simp only [↓reduceIte,zlk,Nat.reduceEqDiff,reduceCtorEq]);exact rfl) ?_)|((with_reducible first|refine jg (fun hc=>?_) (fun hc=>?_)|refine jh (fun hc=>?_) (fun hc=>?_))<;>(try simp (disch:=omega) only [zhb] at hc)<;>(try (exfalso;omega))<;>(try subst hc))|(with_reducible refine ji (by omega) ?_)|(simp (config := { maxSteps := 400000 }) only [↓jt,↓reduceIte,zvs,reduceCtorEq,Nat.reduceEqDiff,Nat.reduceAdd,Nat.reduceLeDiff,Nat.reduceMul,Int.reduceBNe,Int.reduceBEq,Int.reduceEq,Int.reduceNe,Int.reduceLT,Int.reduceLE,Int.reduceGT,Int.reduceGE,Int.reduceNeg,Int.reduceToNat,Nat.reduceLT,Nat.reduceSub,tab,List.length_replicate,Tryd.results26,List.toList_toArray])|(simp (disch:=omega) only [ziw]))
    refine xl1 (k + 1) ?_ (by show k + 1 ≤ n; omega) (by show n - (k + 1) < n - k; omega)
    (refine yrn [] false ?_ ?_<;>(repeat' (first|(with_reducible first|exact ya1|exact ya2|exact ya3|refine jx rfl (by first|rfl|assumption|(simp only [znl,jO];(first|done|fail)))|exact ya5|exact ya7|exact jy|exact jz|refine jA ?_|refine ya9 ?_ ?_ ?_|refine jC rfl (by first|rfl|assumption|(simp only [znl,jO];(first|done|fail)))|refine MR.agg (MRL.cons ?_ ?_)|refine MR.fn ?_|refine MRL.cons ?_ ?_|exact MRL.nil|refine jE ?_ ?_|exact jF|exact jG|refine yb1 ?_ ?_|refine MB.row ?_|refine jI ?_ ?_|exact ya8|refine jJ rfl (by first|rfl|assumption|(simp only [znl,jO];(first|done|fail)))|refine yb2 ?_|rfl)|(simp only [znl,jO];(first|done|fail))|(simp only [↓reduceIte,zlk,Nat.reduceEqDiff,reduceCtorEq])|(with_reducible first|refine jJ ?_ ?_|refine ya5 ?_|refine ju ?_|refine jv ?_|refine jw ?_|refine jx ?_ (by first|rfl|assumption|(simp only [znl,jO];(first|done|fail)))|refine jC ?_ (by first|rfl|assumption|(simp only [znl,jO];(first|done|fail)))))))
    all_goals (first | rfl | (simp [List.replicate_succ']; done) | trace_state)
  · obtain rfl : k = n := by omega
    repeat' (first|(with_reducible first|refine yrl (by constructor) ?_|refine jk (fun M hM=>?_)|(refine hM _ ?_;clear hM M)|refine xb3 (by decide) ?_|refine yqa (by assumption) ?_ ?_|refine yqb (by assumption) ?_ ?_)|((with_reducible refine je ?_)<;>(first|rfl|assumption|(simp only [znl,jO];(first|done|fail))))|(with_reducible refine jf (by (simp only [↓reduceIte,zlk,Nat.reduceEqDiff,reduceCtorEq]);exact rfl) ?_)|((with_reducible first|refine jg (fun hc=>?_) (fun hc=>?_)|refine jh (fun hc=>?_) (fun hc=>?_))<;>(try simp (disch:=omega) only [zhb] at hc)<;>(try (exfalso;omega))<;>(try subst hc))|(with_reducible refine ji (by omega) ?_)|(simp (config := { maxSteps := 400000 }) only [↓jt,↓reduceIte,zvs,reduceCtorEq,Nat.reduceEqDiff,Nat.reduceAdd,Nat.reduceLeDiff,Nat.reduceMul,Int.reduceBNe,Int.reduceBEq,Int.reduceEq,Int.reduceNe,Int.reduceLT,Int.reduceLE,Int.reduceGT,Int.reduceGE,Int.reduceNeg,Int.reduceToNat,Nat.reduceLT,Nat.reduceSub,tab,Tryd.results26,List.toList_toArray])|(simp (disch:=omega) only [ziw]))
    simp only [zrds]
theorem rnum_get_spec (s : List UInt8) (hs : s.length ≤ 4) : Spec Tryd.prog 64 [.str s] (.int .u64 (getLE s)) := by
  obtain ⟨R, hR⟩ : ∃ R, R = getLE s := ⟨_, rfl⟩
  rw [← hR]
  refine spec_ok Tryd.func64 rfl rfl (by kernel_rfl) (k := 1) rfl (by decide) ?_
  repeat' (first|(with_reducible first|refine yrl (by constructor) ?_|refine jk (fun M hM=>?_)|(refine hM _ ?_;clear hM M)|refine xb3 (by decide) ?_|refine yqa (by assumption) ?_ ?_|refine yqb (by assumption) ?_ ?_)|((with_reducible refine je ?_)<;>(first|rfl|assumption|(simp only [znl,jO];(first|done|fail))))|(with_reducible refine jf (by (simp only [↓reduceIte,zlk,Nat.reduceEqDiff,reduceCtorEq]);exact rfl) ?_)|((with_reducible first|refine jg (fun hc=>?_) (fun hc=>?_)|refine jh (fun hc=>?_) (fun hc=>?_))<;>(try simp (disch:=omega) only [zhb] at hc)<;>(try (exfalso;omega))<;>(try subst hc))|(with_reducible refine ji (by omega) ?_)|(simp (config := { maxSteps := 400000 }) only [↓jt,↓reduceIte,zvs,reduceCtorEq,Nat.reduceEqDiff,Nat.reduceAdd,Nat.reduceLeDiff,Nat.reduceMul,Int.reduceBNe,Int.reduceBEq,Int.reduceEq,Int.reduceNe,Int.reduceLT,Int.reduceLE,Int.reduceGT,Int.reduceGE,Int.reduceNeg,Int.reduceToNat,Nat.reduceLT,Nat.reduceSub,tab,Tryd.results64,List.toList_toArray])|(simp (disch:=omega) only [ziw]))
  refine ok_loop (fun k : Nat => ⟨slots [(0, .str s), (2, .int .u64 0), (3, .int .u64 (getLE (s.drop k))), (4, .int .i64 ((k : Int) - 1))], rows [], 0⟩) (fun k => k ≤ s.length) (fun k => k) s.length ?_ (Nat.le_refl _) (fun k hk => ?_)
  · (refine yrn [] false ?_ ?_<;>(repeat' (first|(with_reducible first|exact ya1|exact ya2|exact ya3|refine jx rfl (by first|rfl|assumption|(simp only [znl,jO];(first|done|fail)))|exact ya5|exact ya7|exact jy|exact jz|refine jA ?_|refine ya9 ?_ ?_ ?_|refine jC rfl (by first|rfl|assumption|(simp only [znl,jO];(first|done|fail)))|refine MR.agg (MRL.cons ?_ ?_)|refine MR.fn ?_|refine MRL.cons ?_ ?_|exact MRL.nil|refine jE ?_ ?_|exact jF|exact jG|refine yb1 ?_ ?_|refine MB.row ?_|refine jI ?_ ?_|exact ya8|refine jJ rfl (by first|rfl|assumption|(simp only [znl,jO];(first|done|fail)))|refine yb2 ?_|rfl)|(simp only [znl,jO];(first|done|fail))|(simp only [↓reduceIte,zlk,Nat.reduceEqDiff,reduceCtorEq])|(with_reducible first|refine jJ ?_ ?_|refine ya5 ?_|refine ju ?_|refine jv ?_|refine jw ?_|refine jx ?_ (by first|rfl|assumption|(simp only [znl,jO];(first|done|fail)))|refine jC ?_ (by first|rfl|assumption|(simp only [znl,jO];(first|done|fail)))))))
    all_goals (first | rfl | (rw [List.drop_length]; rfl) | trace_state)
  by_cases hlt : 0 < k
  · obtain ⟨k, rfl⟩ : ∃ j, k = j + 1 := ⟨k - 1, by omega⟩
    have e1 : s.drop k = s.getD k 0 :: s.drop (k + 1) := by
      rw [List.drop_eq_getElem_cons (by omega), List.getD_eq_getElem?_getD, List.getElem?_eq_getElem (by omega)]; rfl
    have e2 : getLE (s.drop k) = (s.getD k 0).toNat + 256 * getLE (s.drop (k + 1)) := by rw [e1, getLE]
    have h1 := getLE_lt (s.drop (k + 1))
    have h2 := (s.getD k 0).toNat_lt
    have h3 : (256 : Nat) ^ (s.drop (k + 1)).length ≤ 256 ^ 3 := Nat.pow_le_pow_right (by omega) (by rw [List.length_drop]; omega)
    have h4 : getLE (s.drop (k + 1)) < 16777216 := by omega
    have e3 : ((k + 1 : Nat) : Int) - 1 = k := by omega
    repeat' (first|(with_reducible first|refine yrl (by constructor) ?_|refine jk (fun M hM=>?_)|(refine hM _ ?_;clear hM M)|refine xb3 (by decide) ?_|refine yqa (by assumption) ?_ ?_|refine yqb (by assumption) ?_ ?_)|((with_reducible refine je ?_)<;>(first|rfl|assumption|(simp only [znl,jO];(first|done|fail))))|(with_reducible refine jf (by (simp only [↓reduceIte,zlk,Nat.reduceEqDiff,reduceCtorEq]);exact rfl) ?_)|((with_reducible first|refine jg (fun hc=>?_) (fun hc=>?_)|refine jh (fun hc=>?_) (fun hc=>?_))<;>(try simp (disch:=omega) only [zhb] at hc)<;>(try (exfalso;omega))<;>(try subst hc))|(with_reducible refine ji (by omega) ?_)|(simp (config := { maxSteps := 400000 }) only [↓jt,↓reduceIte,zvs,reduceCtorEq,Nat.reduceEqDiff,Nat.reduceAdd,Nat.reduceLeDiff,Nat.reduceMul,Int.reduceBNe,Int.reduceBEq,Int.reduceEq,Int.reduceNe,Int.reduceLT,Int.reduceLE,Int.reduceGT,Int.reduceGE,Int.reduceNeg,Int.reduceToNat,Nat.reduceLT,Nat.reduceSub,tab,e3,Tryd.results64,List.toList_toArray])|(simp (disch:=omega) only [ziw]))
    all_goals first
      | (exfalso; omega)
      | (refine xl1 k ?_ (by show k ≤ s.length; omega) (by show k < k + 1; omega); (refine yrn [] false ?_ ?_<;>(repeat' (first|(with_reducible first|exact ya1|exact ya2|exact ya3|refine jx rfl (by first|rfl|assumption|(simp only [znl,jO];(first|done|fail)))|exact ya5|exact ya7|exact jy|exact jz|refine jA ?_|refine ya9 ?_ ?_ ?_|refine jC rfl (by first|rfl|assumption|(simp only [znl,jO];(first|done|fail)))|refine MR.agg (MRL.cons ?_ ?_)|refine MR.fn ?_|refine MRL.cons ?_ ?_|exact MRL.nil|refine jE ?_ ?_|exact jF|exact jG|refine yb1 ?_ ?_|refine MB.row ?_|refine jI ?_ ?_|exact ya8|refine jJ rfl (by first|rfl|assumption|(simp only [znl,jO];(first|done|fail)))|refine yb2 ?_|rfl)|(simp only [znl,jO];(first|done|fail))|(simp only [↓reduceIte,zlk,Nat.reduceEqDiff,reduceCtorEq])|(with_reducible first|refine jJ ?_ ?_|refine ya5 ?_|refine ju ?_|refine jv ?_|refine jw ?_|refine jx ?_ (by first|rfl|assumption|(simp only [znl,jO];(first|done|fail)))|refine jC ?_ (by first|rfl|assumption|(simp only [znl,jO];(first|done|fail))))))); all_goals (first | (rw [e2]; omega) | trace_state))
      | trace_state
  · obtain rfl : k = 0 := by omega
    repeat' (first|(with_reducible first|refine yrl (by constructor) ?_|refine jk (fun M hM=>?_)|(refine hM _ ?_;clear hM M)|refine xb3 (by decide) ?_|refine yqa (by assumption) ?_ ?_|refine yqb (by assumption) ?_ ?_)|((with_reducible refine je ?_)<;>(first|rfl|assumption|(simp only [znl,jO];(first|done|fail))))|(with_reducible refine jf (by (simp only [↓reduceIte,zlk,Nat.reduceEqDiff,reduceCtorEq]);exact rfl) ?_)|((with_reducible first|refine jg (fun hc=>?_) (fun hc=>?_)|refine jh (fun hc=>?_) (fun hc=>?_))<;>(try simp (disch:=omega) only [zhb] at hc)<;>(try (exfalso;omega))<;>(try subst hc))|(with_reducible refine ji (by omega) ?_)|(simp (config := { maxSteps := 400000 }) only [↓jt,↓reduceIte,zvs,reduceCtorEq,Nat.reduceEqDiff,Nat.reduceAdd,Nat.reduceLeDiff,Nat.reduceMul,Int.reduceBNe,Int.reduceBEq,Int.reduceEq,Int.reduceNe,Int.reduceLT,Int.reduceLE,Int.reduceGT,Int.reduceGE,Int.reduceNeg,Int.reduceToNat,Nat.reduceLT,Nat.reduceSub,tab,Tryd.results64,List.toList_toArray])|(simp (disch:=omega) only [ziw]))
    rw [hR]
    simp only [zrds]
    all_goals rfl
theorem byte_of (x : Nat) : (((x % 256 : Nat) : Int)) = ((UInt8.ofNat x).toNat : Int) := by
  rw [UInt8.toNat_ofNat']
theorem rnum_put_spec (n : Nat) (hn : n < 2 ^ 32) (z : Nat) (hz : z ≤ 8) : Spec Tryd.prog 45 [.int .u64 n, .int .i64 z] (.str (putLE n z)) := by
  refine spec_ok Tryd.func45 rfl rfl (by kernel_rfl) (k := 2) rfl (by decide) ?_
  repeat' (first|(with_reducible first|refine yrl (by constructor) ?_|refine jk (fun M hM=>?_)|(refine hM _ ?_;clear hM M)|refine xb3 (by decide) ?_|refine yqa (by assumption) ?_ ?_|refine yqb (by assumption) ?_ ?_)|((with_reducible refine je ?_)<;>(first|rfl|assumption|(simp only [znl,jO];(first|done|fail))))|(with_reducible refine jf (by (simp only [↓reduceIte,zlk,Nat.reduceEqDiff,reduceCtorEq]);exact rfl) ?_)|((with_reducible first|refine jg (fun hc=>?_) (fun hc=>?_)|refine jh (fun hc=>?_) (fun hc=>?_))<;>(try simp (disch:=omega) only [zhb] at hc)<;>(try (exfalso;omega))<;>(try subst hc))|(with_reducible refine ji (by omega) ?_)|(simp (config := { maxSteps := 400000 }) only [↓jt,↓reduceIte,zvs,reduceCtorEq,Nat.reduceEqDiff,Nat.reduceAdd,Nat.reduceLeDiff,Nat.reduceMul,Int.reduceBNe,Int.reduceBEq,Int.reduceEq,Int.reduceNe,Int.reduceLT,Int.reduceLE,Int.reduceGT,Int.reduceGE,Int.reduceNeg,Int.reduceToNat,Nat.reduceLT,Nat.reduceSub,tab,Tryd.results45,List.toList_toArray])|(simp (disch:=omega) only [ziw]))
  refine ok_loop (fun k : Nat => ⟨slots [(0, .int .u64 ((n / 256 ^ k : Nat) : Int)), (1, .int .i64 z), (4, .str []), (5, .str (putLE n k)), (6, .int .i64 k)], rows [], 0⟩) (fun k => k ≤ z) (fun k => z - k) 0 ?_ (Nat.zero_le _) (fun k hk => ?_)
  · (refine yrn [] false ?_ ?_<;>(repeat' (first|(with_reducible first|exact ya1|exact ya2|exact ya3|refine jx rfl (by first|rfl|assumption|(simp only [znl,jO];(first|done|fail)))|exact ya5|exact ya7|exact jy|exact jz|refine jA ?_|refine ya9 ?_ ?_ ?_|refine jC rfl (by first|rfl|assumption|(simp only [znl,jO];(first|done|fail)))|refine MR.agg (MRL.cons ?_ ?_)|refine MR.fn ?_|refine MRL.cons ?_ ?_|exact MRL.nil|refine jE ?_ ?_|exact jF|exact jG|refine yb1 ?_ ?_|refine MB.row ?_|refine jI ?_ ?_|exact ya8|refine jJ rfl (by first|rfl|assumption|(simp only [znl,jO];(first|done|fail)))|refine yb2 ?_|rfl)|(simp only [znl,jO];(first|done|fail))|(simp only [↓reduceIte,zlk,Nat.reduceEqDiff,reduceCtorEq])|(with_reducible first|refine jJ ?_ ?_|refine ya5 ?_|refine ju ?_|refine jv ?_|refine jw ?_|refine jx ?_ (by first|rfl|assumption|(simp only [znl,jO];(first|done|fail)))|refine jC ?_ (by first|rfl|assumption|(simp only [znl,jO];(first|done|fail)))))))
    all_goals (first | rfl | (simp; done) | trace_state)
  have hq : n / 256 ^ k < 2 ^ 32 := Nat.lt_of_le_of_lt (Nat.div_le_self _ _) hn
  have e4 : n / 256 ^ (k + 1) = n / 256 ^ k / 256 := by rw [Nat.pow_succ, Nat.div_div_eq_div_mul]
  have e5 : putLE n (k + 1) = putLE n k ++ [UInt8.ofNat (n / 256 ^ k)] := rfl
  have hl := putLE_len n k
  by_cases hlt : k < z
  · obtain ⟨x, hx⟩ : ∃ x, x = n / 256 ^ k := ⟨_, rfl⟩
    rw [← hx] at hq e4 e5 ⊢
    have hb : bytesOf [VV.int .u8 ((x : Int) % 256)] = some [UInt8.ofNat x] := by
      have := bytesOf_enc [UInt8.ofNat x]
      rw [List.map_cons, List.map_nil] at this
      rw [← this, encB, ← byte_of x]
      norm_cast
    repeat' (first|(with_reducible first|refine yrl (by constructor) ?_|refine jk (fun M hM=>?_)|(refine hM _ ?_;clear hM M)|refine xb3 (by decide) ?_|refine yqa (by assumption) ?_ ?_|refine yqb (by assumption) ?_ ?_)|((with_reducible refine je ?_)<;>(first|rfl|assumption|(simp only [znl,jO];(first|done|fail))))|(with_reducible refine jf (by (simp only [↓reduceIte,zlk,Nat.reduceEqDiff,reduceCtorEq]);exact rfl) ?_)|((with_reducible first|refine jg (fun hc=>?_) (fun hc=>?_)|refine jh (fun hc=>?_) (fun hc=>?_))<;>(try simp (disch:=omega) only [zhb] at hc)<;>(try (exfalso;omega))<;>(try subst hc))|(with_reducible refine ji (by omega) ?_)|(simp (config := { maxSteps := 400000 }) only [↓jt,↓reduceIte,zvs,reduceCtorEq,Nat.reduceEqDiff,Nat.reduceAdd,Nat.reduceLeDiff,Nat.reduceMul,Int.reduceBNe,Int.reduceBEq,Int.reduceEq,Int.reduceNe,Int.reduceLT,Int.reduceLE,Int.reduceGT,Int.reduceGE,Int.reduceNeg,Int.reduceToNat,Nat.reduceLT,Nat.reduceSub,tab,hb,hl,Tryd.results45,List.toList_toArray])|(simp (disch:=omega) only [ziw]))
    all_goals first
      | (exfalso; omega)
      | (refine xl1 (k + 1) ?_ (by show k + 1 ≤ z; omega) (by show z - (k + 1) < z - k; omega); (refine yrn [] false ?_ ?_<;>(repeat' (first|(with_reducible first|exact ya1|exact ya2|exact ya3|refine jx rfl (by first|rfl|assumption|(simp only [znl,jO];(first|done|fail)))|exact ya5|exact ya7|exact jy|exact jz|refine jA ?_|refine ya9 ?_ ?_ ?_|refine jC rfl (by first|rfl|assumption|(simp only [znl,jO];(first|done|fail)))|refine MR.agg (MRL.cons ?_ ?_)|refine MR.fn ?_|refine MRL.cons ?_ ?_|exact MRL.nil|refine jE ?_ ?_|exact jF|exact jG|refine yb1 ?_ ?_|refine MB.row ?_|refine jI ?_ ?_|exact ya8|refine jJ rfl (by first|rfl|assumption|(simp only [znl,jO];(first|done|fail)))|refine yb2 ?_|rfl)|(simp only [znl,jO];(first|done|fail))|(simp only [↓reduceIte,zlk,Nat.reduceEqDiff,reduceCtorEq])|(with_reducible first|refine jJ ?_ ?_|refine ya5 ?_|refine ju ?_|refine jv ?_|refine jw ?_|refine jx ?_ (by first|rfl|assumption|(simp only [znl,jO];(first|done|fail)))|refine jC ?_ (by first|rfl|assumption|(simp only [znl,jO];(first|done|fail))))))); all_goals (first | (rw [e4]; omega) | (rw [e5]; done) | trace_state))
      | trace_state
  · obtain rfl : k = z := by omega
    repeat' (first|(with_reducible first|refine yrl (by constructor) ?_|refine jk (fun M hM=>?_)|(refine hM _ ?_;clear hM M)|refine xb3 (by decide) ?_|refine yqa (by assumption) ?_ ?_|refine yqb (by assumption) ?_ ?_)|((with_reducible refine je ?_)<;>(first|rfl|assumption|(simp only [znl,jO];(first|done|fail))))|(with_reducible refine jf (by (simp only [↓reduceIte,zlk,Nat.reduceEqDiff,reduceCtorEq]);exact rfl) ?_)|((with_reducible first|refine jg (fun hc=>?_) (fun hc=>?_)|refine jh (fun hc=>?_) (fun hc=>?_))<;>(try simp (disch:=omega) only [zhb] at hc)<;>(try (exfalso;omega))<;>(try subst hc))|(with_reducible refine ji (by omega) ?_)|(simp (config := { maxSteps := 400000 }) only [↓jt,↓reduceIte,zvs,reduceCtorEq,Nat.reduceEqDiff,Nat.reduceAdd,Nat.reduceLeDiff,Nat.reduceMul,Int.reduceBNe,Int.reduceBEq,Int.reduceEq,Int.reduceNe,Int.reduceLT,Int.reduceLE,Int.reduceGT,Int.reduceGE,Int.reduceNeg,Int.reduceToNat,Nat.reduceLT,Nat.reduceSub,tab,Tryd.results45,List.toList_toArray])|(simp (disch:=omega) only [ziw]))
    all_goals simp only [zrds]
end Go.Proofs.YtcilmfhncjfdbaaDoor.V
end
section
/-
  PROGRAMS: noughts, by the document.
-/
set_option linter.unusedVariables false
set_option linter.unusedSimpArgs false
namespace Go.Proofs.YtcilmfhncjfdbaaDoor.V
open Go
set_option maxRecDepth 100000
set_option maxHeartbeats 8000000
end Go.Proofs.YtcilmfhncjfdbaaDoor.V
end
section
/-
  THE BUILDER: what its copy check and WriteString do at this program (String's contract is the shelf's).
-/
set_option linter.unusedVariables false
set_option linter.unusedSimpArgs false
namespace Go.Proofs.YtcilmfhncjfdbaaDoor
open Go Go.RowKit Go.Proofs
theorem sizeBuilder : (Tryd.prog.info? 77).map (·.size) = some 2 := by kernel_rfl
theorem liesBuilder : liesAt Tryd.prog Tryd.prog.depth 77 (2 / Tryd.prog.cellsOf 77) 0 77 1 = true := by kernel_rfl
theorem infoByte : (Tryd.prog.info? 5).map (fun i => (i.zero, i.size, i.bytes)) = some (some (.int .u8 0), 1, 1) := by kernel_rfl
set_option maxHeartbeats 1000000 in
set_option maxRecDepth 100000 in
theorem copyCheck_used (b : Nat) (w : World) (h0 : w.cell? ⟨b, 0, none⟩ = some (.pointer (some ⟨b, 0, none⟩))) :
    Calls Tryd.prog 69 #[.pointer (some ⟨b, 0, none⟩)] w fun e w' => e = .returned (.tuple #[]) ∧ w' = w := by
  obtain ⟨j, hj, _⟩ := Option.map_eq_some_iff.1 sizeBuilder
  go_enter Tryd.func69, Tryd.ntmps69
  go_wp2
  rw [Lib.run_neq_ptr_same w _ Tryd.underlying75 hj]
  go_wp2
  go_end0
  exact ⟨rfl, rfl⟩
set_option maxHeartbeats 1000000 in
set_option maxRecDepth 100000 in
theorem copyCheck_fresh (b : Nat) (w : World) (h0 : w.cell? ⟨b, 0, none⟩ = some (.pointer none)) (hsh : w.shape? b = some (77, 2)) (hfz : w.frozen? ⟨b, 0, none⟩ = false) :
    Calls Tryd.prog 69 #[.pointer (some ⟨b, 0, none⟩)] w fun e w' => e = .returned (.tuple #[]) ∧ w' = w.setCell ⟨b, 0, none⟩ (.pointer (some ⟨b, 0, none⟩)) := by
  obtain ⟨j, hj, hjs⟩ := Option.map_eq_some_iff.1 sizeBuilder
  go_enter Tryd.func69, Tryd.ntmps69
  go_wp2
  rw [Lib.run_to_unsafe w ⟨b, 0, none⟩ Tryd.underlying75 Tryd.underlying109 hj (by rw [hjs]; decide) hsh (Nat.zero_lt_succ 1)]
  simp only [Result.andThen]
  rw [Oper.upon_value]
  go_wp2
  rw [run_callFunc_extern Tryd.func80 (by kernel_rfl) (by kernel_rfl) (by kernel_rfl) (e := Extern.AbiNoEscape.same) (by kernel_rfl)]
  rw [Lib.run_noEscape]
  simp only [Result.andThen]
  rw [Oper.upon_value]
  go_wp2
  rw [Lib.run_from_unsafe w ⟨b, 0, none⟩ Tryd.underlying109 Tryd.underlying75 hj hsh liesBuilder]
  simp only [Result.andThen]
  rw [Oper.upon_value]
  go_wp2
  go_end0
  exact ⟨rfl, rfl⟩
theorem copyCheck_k (B b : Nat) (bs : List Value) (w : World) (h : Lib.IsBuilderF 77 5 B b bs w) :
    Calls Tryd.prog 69 #[.pointer (some ⟨b, 0, none⟩)] w fun e w' => e = .returned (.tuple #[]) ∧ (Lib.BuilderAtF 77 5 B b (.pointer (some ⟨b, 0, none⟩)) bs w' ∧ Below B w w' ∧ Lib.OthersKept 5 (some b) w w') := by
  rcases h with h | h
  · refine (copyCheck_fresh b w h.cell0 h.shape h.frozen0).mono ?_
    rintro e w' ⟨rfl, rfl⟩
    exact ⟨rfl, h.used _, (Below.refl B w).setCell (p := ⟨b, 0, none⟩) h.1 _, (Lib.OthersKept.refl _ _ w).setCell ⟨b, 0, none⟩ rfl _⟩
  · refine (copyCheck_used b w h.cell0).mono ?_
    rintro e w' ⟨rfl, rfl⟩
    exact ⟨rfl, h, Below.refl B _, Lib.OthersKept.refl _ _ _⟩
set_option maxHeartbeats 2000000 in
set_option maxRecDepth 100000 in
theorem writeString_k (B b : Nat) (bs : List Value) (s : ByteArray) (w : World) (h : Lib.IsBuilderF 77 5 B b bs w) (hlen : bs.length + s.size ≤ 140737488355328) (hBw : B ≤ w.heap.size) :
    Calls Tryd.prog 52 #[.pointer (some ⟨b, 0, none⟩), .string s] w fun e w' => e = .returned (.tuple #[.int .i64 s.size, .nilIface]) ∧ (Lib.BuilderAtF 77 5 B b (.pointer (some ⟨b, 0, none⟩)) (bs ++ Lib.strCells s) w' ∧ Below B w w' ∧ Lib.OthersKept 5 (some b) w w') := by
  obtain ⟨i0, hi, hz0, hz1, hz2⟩ := info_parts infoByte
  go_enter Tryd.func52, Tryd.ntmps52
  go_wp2_with (go_at_call 69; refine (copyCheck_k B b bs _ h).mono ?_)
  rintro e w1 ⟨rfl, h1, hb1, hk1⟩
  obtain ⟨hB, v, hbk, hown, hne⟩ := h1
  have c0 : w1.cell? ⟨b, 0, none⟩ = some (.pointer (some ⟨b, 0, none⟩)) := by rw [Lib.cell_of_heap hbk]; rfl
  have c1 : w1.cell? ⟨b, 1, none⟩ = some v := by rw [Lib.cell_of_heap hbk]; rfl
  go_wp2_with (at_builtin; refine Lib.wpList_append_own_stringF _ rfl _ _ 44 9 rfl B 5 i0 Tryd.underlying44 Tryd.underlying9 hi hz0 hz1 hz2 _ _ _ rfl hown s rfl ?c3 ?c4 ?c5 ?_)
  case c3 => unfold maxLen; omega
  case c4 => omega
  case c5 => have := hb1.size; omega
  intro v' w2 hown' hgrow _
  have hlt : b < w1.heap.size := by
    rcases Nat.lt_or_ge b w1.heap.size with h' | h'
    · exact h'
    · simp [Array.getElem?_eq_none h'] at hbk
  have hb2 : w2.heap[b]? = some (.cells #[.pointer (some ⟨b, 0, none⟩), v] 77 (0, 0)) := by
    rw [hgrow.block b hlt (fun e => hne e.symm)]
    exact hbk
  have d0 : w2.cell? ⟨b, 0, none⟩ = some (.pointer (some ⟨b, 0, none⟩)) := by rw [Lib.cell_of_heap hb2]; rfl
  have d1 : w2.cell? ⟨b, 1, none⟩ = some v := by rw [Lib.cell_of_heap hb2]; rfl
  have f1 : w2.frozen? ⟨b, 1, none⟩ = false := Lib.frozen_of_heap hb2 1
  obtain ⟨ao, n', cap, rfl⟩ : ∃ ao n' cap, v' = .slice ao n' cap := by
    rcases hown'.2 with ⟨hv, _⟩ | ⟨g, cap, cur, fz, hv, _⟩
    · exact ⟨_, _, _, hv⟩
    · exact ⟨_, _, _, hv⟩
  go_wp2
  go_ret2
  refine ⟨rfl, ?_, ?_, (hk1.grown hgrow (Lib.ownsRowF_kind hown)).setCell ⟨b, 1, none⟩ rfl _⟩
  · exact Lib.BuilderAtF.put (T := 77) (e := 5) hB hb2 (bs' := bs ++ Lib.strCells s) (by simpa [Lib.strCells_length] using hown') (by decide)
  · exact (hb1.grown hgrow (by have := hb1.size; omega) (fun k hk => (hown.lt k hk).1)).setCell (p := ⟨b, 1, none⟩) hB _
end Go.Proofs.YtcilmfhncjfdbaaDoor
end
section
/-
  PROGRAMS: the words as bytes, by the program (a Builder).
-/
set_option linter.unusedVariables false
set_option linter.unusedSimpArgs false
namespace Go.Proofs.YtcilmfhncjfdbaaDoor.V
open Go Go.RowKit Go.Proofs.YtcilmfhncjfdbaaDoor
def RdW (w : World) (A : Option Addr) (l : List Int) : Prop := ∀ k, k < l.length → ∃ b o, A = some ⟨b, o, none⟩ ∧ b < w.heap.size ∧ w.cell? ⟨b, o + k, none⟩ = some (.int .u32 (l.getD k 0))
theorem RdW.below {w w' : World} {A : Option Addr} {l : List Int} (h : RdW w A l) (hb : Below w.heap.size w w') : RdW w' A l := fun k hk => by
  obtain ⟨b, o, h1, h2, h3⟩ := h k hk
  exact ⟨b, o, h1, Nat.lt_of_lt_of_le h2 hb.size, by rw [cell_of_block (hb.block b h2)]; exact h3⟩
theorem isBuilder_below {T e : TypeId} {B b : Nat} {bs : List Value} {w w' : World} (h : Lib.IsBuilderF T e B b bs w) (g : Below w.heap.size w w') : Lib.IsBuilderF T e B b bs w' := by
  have lt : ∀ {b : Nat} {o : Obj}, w.heap[b]? = some o → b < w.heap.size := fun h => (Array.getElem?_eq_some_iff.1 h).1
  have key : ∀ p, Lib.BuilderAtF T e B b p bs w → Lib.BuilderAtF T e B b p bs w' := by
    rintro p ⟨hB, v, hb, ⟨hl, ho⟩, hne⟩
    refine ⟨hB, v, by rw [g.block _ (lt hb)]; exact hb, ⟨hl, ?_⟩, hne⟩
    rcases ho with ho | ⟨q, cap, cur, fz, h1, h2, h3, h4⟩
    · exact .inl ho
    · exact .inr ⟨q, cap, cur, fz, h1, h2, by rw [g.block _ (lt h3)]; exact h3, h4⟩
  exact h.imp (key _) (key _)
theorem isBuilder_first {T e : TypeId} {b : Nat} {w : World} (h : w.heap[b]? = some (.cells #[.pointer none, .slice none 0 0] T (0, 0))) : Lib.IsBuilderF T e b b [] w :=
  .inl ⟨Nat.le_refl _, .slice none 0 0, h, World.ownsRowF_nil _ _ _ _, by simp [Value.ownBlock]⟩
theorem heap_new (w : World) (o : Obj) : (w.alloc o).heap[w.heap.size]? = some o := by
  show (w.heap.push o)[w.heap.size]? = _
  rw [Array.getElem?_push_size]
end Go.Proofs.YtcilmfhncjfdbaaDoor.V
end
section
/-
  ROWS OF THE CALL's OWN: an append of one element; rows that lie apart; bytes.
-/
namespace Go.Proofs.YtcilmfhncjfdbaaDoor
open Go.RowKit

def Apart (u v : Value) : Prop := u.ownBlock = none ∨ u.ownBlock ≠ v.ownBlock
theorem Apart.symm {u v : Value} (h : Apart u v) : Apart v u := by
  rcases h with h | h
  · cases hv : v.ownBlock with
    | none => exact .inl hv
    | some g => exact .inr (by rw [hv, h]; simp)
  · exact .inr fun e => h e.symm

structure Pushed (B : Nat) (T : TypeId) (sz : Nat) (w w' : World) (v v' : Value) (n m : Nat) (xs news : List Value) : Prop where
  own : w'.ownsRow B T sz v' (n + m) (xs ++ news)
  old : w'.ownsRow B T sz v n xs
  grown : w.grownBy w' v.ownBlock
  spot : v'.ownBlock = v.ownBlock ∨ (v'.ownBlock = some w.heap.size ∧ Kept w w')

theorem own_kept {w w' : World} {B T sz n : Nat} {v : Value} {xs : List Value} (h : w.ownsRow B T sz v n xs) (hk : Kept w w') : w'.ownsRow B T sz v n xs :=
  h.kept (row := none) ⟨hk.os, hk.tape, hk.output, hk.size, fun k hk' _ => hk.block k hk'⟩ (by
    cases hb : v.ownBlock with
    | none => exact .inl rfl
    | some g => exact .inr (by simp))
section
variable {B B' C T U sz sy n m k : Nat} {w0 w w' : World} {v v' u : Value} {xs ys news : List Value}
theorem Pushed.below (h : Pushed B T sz w w' v v' n m xs news) (hown : w.ownsRow B T sz v n xs) (hB : B' ≤ B) (hB' : B' ≤ w.heap.size) : Below B' w w' :=
  (Below.refl _ _).grown h.grown hB' fun k hk => by have := hown.lt k hk; omega
end

theorem add_off (g o j : Nat) : (⟨g, o, none⟩ : Addr).add j = ⟨g, o + j, none⟩ := by unfold Addr.add; split <;> simp_all
section
variable {P : Program} {w : World}
theorem run_cat {t ty T : TypeId} {z : Value} {sz bytes : Nat} (ht : P.underlying t = some (.slice T)) (hi : (P.info? T).map (fun i => (i.zero, i.size, i.bytes)) = some (some z, sz, bytes)) (hzs : z.cells.size = sz) (hsz : 0 < sz)
    {B n : Nat} {v : Value} {xs : List Value} (hown : w.ownsRow B T sz v n xs) (hB : B ≤ w.heap.size) (A : Option Addr) (m c : Nat) (news : List Value) (hl : news.length = m * sz) (hr : Rd w A news.length (fun j => news.getD j undef))
    (h1 : ∀ u ∈ news, u.oneCell' = true) (hn : n + m ≤ maxLen) (hb : (n + m) * bytes ≤ 140737488355328) :
    ∃ v' w', (Builtin.append_ #[t, t] ty #[v, .slice A m c]).run P w = .ok v' w' ∧ Pushed B T sz w w' v v' n m xs news := by
  obtain ⟨i, hi1, hz, hsize, hby⟩ := info_parts hi
  subst hsize hby
  have hsmall : n + m ≤ 9223372036854775807 := by simp only [maxLen] at hn; omega
  have hlen : (xs ++ news).length = (n + m) * i.size := by rw [List.length_append, hown.1, hl, Nat.add_mul]
  cases A with
  | none =>
    have hm : m = 0 := by
      rcases Nat.eq_zero_or_pos m with h0 | h0
      · exact h0
      · obtain ⟨b, o, e, _⟩ := hr (by rw [hl]; exact Nat.mul_pos h0 hsz)
        cases e
    subst hm
    have hnil : news = [] := List.eq_nil_of_length_eq_zero (by omega)
    subst hnil
    refine ⟨v, w, ?_, by simpa using hown, hown, ⟨rfl, rfl, rfl, Nat.le_refl _, fun _ _ _ => rfl⟩, .inl rfl⟩
    rcases hown.2 with ⟨rfl, rfl⟩ | ⟨g, cap, cur, rfl, _, _, hnc, _⟩
    · simp [Builtin.append_, run_underlying ht, sizeOf, typeInfo, hi1, Builtin.lenOf, Builtin.firstCells]
    · simp [Builtin.append_, run_underlying ht, sizeOf, typeInfo, hi1, Builtin.lenOf, Builtin.firstCells, hnc, storeCells]
  | some ad =>
    have hnews : ∀ j u, news[j]? = some u → w.cell? (ad.add j) = some u := by
      intro j u hj
      have hj' : j < news.length := by
        rcases Nat.lt_or_ge j news.length with hlt | hge
        · exact hlt
        · rw [List.getElem?_eq_none hge] at hj; cases hj
      obtain ⟨b, o, e, hc⟩ := hr (by omega)
      injection e with e
      subst e
      rw [add_off, hc j hj']
      simp [List.getD_eq_getElem?_getD, hj]
    have fresh : ∀ (old : Nat), old < n + m → Kept w (w.drew.alloc (.cells (xs.toArray ++ news.toArray ++ Builtin.zeroCells z.cells (grownCap w (n + m) old T - (n + m))) T)) ∧
        (w.drew.alloc (.cells (xs.toArray ++ news.toArray ++ Builtin.zeroCells z.cells (grownCap w (n + m) old T - (n + m))) T)).ownsRow B T i.size (.slice (some ⟨w.heap.size, 0, none⟩) (n + m) (grownCap w (n + m) old T)) (n + m) (xs ++ news) := by
      intro old ho
      refine ⟨((Below.refl _ _).drew).alloc (Nat.le_refl _) _, hlen, .inr ⟨w.heap.size, _, _, rfl, hB, heap_alloc_new w.drew _, grownCap_ge w (n + m) old T, grownCap_le_maxLen w (n + m) old T hn, ?_, ?_⟩⟩
      · have := grownCap_ge w (n + m) old T
        simp only [Array.size_append,List.size_toArray,size_zeroCells,hzs,hown.1,hl,← Nat.add_mul]
        congr 1
        omega
      · simp only [Array.toList_append,List.append_assoc]
        rw [← List.append_assoc, ← hlen]
        exact List.take_left
    have ofKept : ∀ {w' : World} (row : Option Nat), Kept w w' → w.grownBy w' row := fun row hk => ⟨hk.os, hk.tape, hk.output, hk.size, fun k hk' _ => hk.block k hk'⟩
    rcases hown.2 with ⟨rfl, rfl⟩ | ⟨g, cap, cur, rfl, hbg, hg, hnc, hcm, hcs, htake⟩
    · have hx : xs = [] := List.eq_nil_of_length_eq_zero (by simpa using hown.1)
      subst hx
      by_cases hm : m = 0
      · subst hm
        have hnil : news = [] := List.eq_nil_of_length_eq_zero (by omega)
        subst hnil
        refine ⟨.slice none 0 0, w, ?_, hown, hown, ⟨rfl, rfl, rfl, Nat.le_refl _, fun _ _ _ => rfl⟩, .inl rfl⟩
        simp [Builtin.append_, run_underlying ht, sizeOf, typeInfo, hi1, Builtin.lenOf, Builtin.firstCells, loadCells, loadCellsFrom]
      · have hrun := run_append_nil (P := P) w t ty T i z ht hi1 hz ad m c news hl hnews (by omega) (by omega) (by have hb := hb; simp only [Nat.zero_add] at hb; omega)
        obtain ⟨hk, ho⟩ := fresh 0 (by omega)
        simp only [Nat.zero_add,List.nil_append,Array.empty_append] at hk ho
        exact ⟨_, _, hrun, by simpa using ho, own_kept hown hk, ofKept _ hk, .inr ⟨rfl, hk⟩⟩
    · by_cases hroom : n + m ≤ cap
      · have hfit : n * i.size + news.length ≤ cur.size := by rw [hl, hcs, ← Nat.add_mul]; exact Nat.mul_le_mul_right _ hroom
        have hrun := run_append_room (P := P) w t ty T i ht hi1 g n cap cur hg ad m c news hl hnews h1 hroom hfit
        have hsz2 : (cur.toList.take (n * i.size) ++ news ++ cur.toList.drop (n * i.size + news.length)).toArray.size = cap * i.size := by
          simp only [List.size_toArray,List.length_append,List.length_take,List.length_drop,Array.length_toList]
          omega
        refine ⟨_, _, hrun, ⟨hlen, .inr ⟨g, cap, _, rfl, hbg, setRow_heap w g cur _ T _ hg, hroom, hcm, hsz2, ?_⟩⟩, ⟨hown.1, .inr ⟨g, cap, _, rfl, hbg, setRow_heap w g cur _ T _ hg, hnc, hcm, hsz2, ?_⟩⟩,
          ⟨rfl, rfl, rfl, by simp, fun k _ hk => setRow_other w g k _ (fun e => hk (by simp [Value.ownBlock, e]))⟩, .inl rfl⟩
        · rw [htake, ← hlen]
          exact List.take_left
        · rw [htake, List.append_assoc, ← hown.1]
          exact List.take_left
      · have holds : ∀ j u, xs[j]? = some u → w.cell? ((⟨g, 0, none⟩ : Addr).add j) = some u := hown.cells (g := g) rfl
        have hrun := run_append_grow (P := P) w t ty T i z ht hi1 hz ⟨g, 0, none⟩ n cap xs hown.1 holds ad m c news hl hnews (by omega) (by omega) (growslice_fits (by omega) hb)
        obtain ⟨hk, ho⟩ := fresh cap (by omega)
        exact ⟨_, _, hrun, ho, own_kept hown hk, ofKept _ hk, .inr ⟨rfl, hk⟩⟩

theorem wpList_cat {ops : Array Oper} {rest : List Oper} {o : Oper} {a : Act} {Q : Exit → Act → World → Prop} (hgd : o.guard = none) (s x : Operand) (t : TypeId)
    (ho : o.op = .call { callee := .builtin .append, args := #[s, x], argTypes := #[t, t] })
    {T : TypeId} {z : Value} {sz bytes : Nat} (ht : P.underlying t = some (.slice T)) (hi : (P.info? T).map (fun i => (i.zero, i.size, i.bytes)) = some (some z, sz, bytes)) (hzs : z.cells.size = sz) (hsz : 0 < sz)
    {B n m c : Nat} {A : Option Addr} {v : Value} {xs news : List Value} (hs : a.eval s = v) (hx : a.eval x = .slice A m c) (hown : w.ownsRow B T sz v n xs) (hB : B ≤ w.heap.size)
    (hl : news.length = m * sz) (hr : Rd w A news.length (fun j => news.getD j undef)) (h1 : ∀ u ∈ news, u.oneCell' = true) (hn : n + m ≤ maxLen) (hb : (n + m) * bytes ≤ 140737488355328)
    (h : ∀ v' w', Pushed B T sz w w' v v' n m xs news → wpList P ops Q rest (a.put o.dst v') w') :
    wpList P ops Q (o :: rest) a w := by
  refine wpList_plain hgd fun K hK => ?_
  obtain ⟨v', w', hrun, hP⟩ := run_cat (P := P) (ty := o.type) ht hi hzs hsz hown hB A m c news hl hr h1 hn hb
  unfold Oper.wp execOp
  simp only [ho,resolve,invoke,builtin,Sem.run_bind,Sem.run_pure,Result.andThen_ok,List.map_toArray,List.map_cons,List.map_nil,hs,hx,hrun]
  exact hK _ _ (h v' w' hP)

theorem Rd.new (w : World) (news : List Value) (T : TypeId) : Rd (w.alloc (.cells news.toArray T)) (some ⟨w.heap.size, 0, none⟩) news.length (fun j => news.getD j undef) := by
  intro _
  refine ⟨_, _, rfl, fun j hj => ?_⟩
  rw [cell_of_row _ _ _ _ _ _ (heap_alloc_new w _)]
  simp [hj, List.getD_eq_getElem?_getD]

theorem wpList_push {ops : Array Oper} {rest : List Oper} {o : Oper} {a : Act} {Q : Exit → Act → World → Prop} (hgd : o.guard = none) (s x : Operand) (t : TypeId)
    (ho : o.op = .call { callee := .builtin .append, args := #[s, x], argTypes := #[t, t] })
    {T : TypeId} {z : Value} {sz bytes : Nat} (ht : P.underlying t = some (.slice T)) (hi : (P.info? T).map (fun i => (i.zero, i.size, i.bytes)) = some (some z, sz, bytes)) (hzs : z.cells.size = sz) (hsz : 0 < sz)
    {B n : Nat} {v : Value} {xs news : List Value} (hs : a.eval s = v) (hx : a.eval x = .slice (some ⟨w.heap.size, 0, none⟩) 1 1) (hown : w.ownsRow B T sz v n xs) (hB : B ≤ w.heap.size)
    (hl : news.length = sz) (h1 : ∀ u ∈ news, u.oneCell' = true) (hn : n < maxLen) (hb : (n + 1) * bytes ≤ 140737488355328)
    (h : ∀ v' w', Pushed B T sz (w.alloc (.cells news.toArray T)) w' v v' n 1 xs news → wpList P ops Q rest (a.put o.dst v') w') :
    wpList P ops Q (o :: rest) a (w.alloc (.cells news.toArray T)) :=
  wpList_cat hgd s x t ho ht hi hzs hsz hs hx (hown.alloc _) (by rw [World.size_alloc]; omega) (by omega) (Rd.new w news T) h1 (by omega) hb h
end

theorem RdB.cells {w : World} {A : Option Addr} {l : List UInt8} (h : RdB w A l) : Rd w A (bvs l).length (fun j => (bvs l).getD j undef) := by
  have hl : (bvs l).length = l.length := by simp [bvs]
  intro h0
  obtain ⟨b, o, e, hc⟩ := h (by omega)
  refine ⟨b, o, e, fun j hj => ?_⟩
  have hj' : j < l.length := by omega
  rw [hc j hj']
  show some (Value.int .u8 (B8 (Gf.nth l j))) = some ((bvs l).getD j undef)
  rw [Gf.nth_lt hj']
  simp [bvs, List.getD_eq_getElem?_getD, hj']
end Go.Proofs.YtcilmfhncjfdbaaDoor
end
section
/-
  WAL: a journal's head; plainly, and by the program (a Builder).
-/
set_option linter.unusedVariables false
set_option linter.unusedSimpArgs false
namespace Go.Proofs.YtcilmfhncjfdbaaDoor.V
open Go Go.RowKit Go.Proofs.YtcilmfhncjfdbaaDoor
structure HdR (l : List Wr) : Prop where
  len : l.length ≤ 32
  wr : ∀ w ∈ l, 0 ≤ w.b ∧ w.b < 256 ∧ w.d.length = 128
def frontF (l : List Wr) : List UInt8 := [104, 105, 98, 106] ++ putLE l.length 2 ++ (l.map fun w => putLE w.b.toNat 2).flatten
def padTo (n : Nat) (s : List UInt8) : List UInt8 := s ++ List.replicate (n - s.length) 0
def firstF (l : List Wr) : List UInt8 := padTo 70 (frontF l)
def headF (l : List Wr) : List UInt8 := firstF l ++ sumF (firstF l ++ (l.map Wr.d).flatten) ++ List.replicate 26 0
theorem frontF_len (l : List Wr) : (frontF l).length = 6 + 2 * l.length := by
  have key : ∀ l : List Wr, ((l.map fun w => putLE w.b.toNat 2).flatten).length = 2 * l.length := by
    intro l
    induction l with
    | nil => rfl
    | cons x l ih => simp only [List.map_cons,List.flatten_cons,List.length_append,ih,putLE_len,List.length_cons]; omega
  simp only [frontF,List.length_append,key,putLE_len,List.length_cons,List.length_nil]
theorem firstF_len {l : List Wr} (h : l.length ≤ 32) : (firstF l).length = 70 := by
  have := frontF_len l
  simp only [firstF,padTo,List.length_append,List.length_replicate]; omega
theorem headF_len {l : List Wr} (h : l.length ≤ 32) : (headF l).length = 128 := by
  simp only [headF,List.length_append,firstF_len h,sumF_len,List.length_replicate]
def RdWr (w : World) (A : Option Addr) (l : List Wr) : Prop := ∀ k, k < l.length → ∃ b o, A = some ⟨b, o, none⟩ ∧ b < w.heap.size ∧ w.cell? ⟨b, o + k * 2, none⟩ = some (.int .i64 (l.getD k default).b) ∧ w.cell? ⟨b, o + k * 2 + 1, none⟩ = some (.string ⟨(l.getD k default).d.toArray⟩)
theorem RdWr.below {w w' : World} {A : Option Addr} {l : List Wr} (h : RdWr w A l) (hb : Below w.heap.size w w') : RdWr w' A l := fun k hk => by
  obtain ⟨b, o, h1, h2, h3, h4⟩ := h k hk
  exact ⟨b, o, h1, Nat.lt_of_lt_of_le h2 hb.size, by rw [cell_of_block (hb.block b h2)]; exact h3, by rw [cell_of_block (hb.block b h2)]; exact h4⟩
theorem calls_strT {P : Program} {f : FuncId} {a b : VV} {x y : Value} {r : List UInt8} (h : Spec P f [a, b] (.str r)) (w : World) (hB : Base w.heap.size (.bare fun _ => True) w) (ha : VR (.bare fun _ => True) w a x) (hb : VR (.bare fun _ => True) w b y) :
    Calls P f #[x, y] w fun e w' => e = .returned (.string ⟨r.toArray⟩) ∧ Below w.heap.size w w' := by
  refine (h (fun _ => True) w [x, y] hB ⟨x, [y], rfl, ha, y, [], rfl, hb, rfl⟩).mono fun e w' ⟨v, he, hB, hv⟩ => ⟨?_, hB⟩
  rw [he, hv.str]
theorem baseT {w w' : World} (h : Base w.heap.size (.bare fun _ => True) w) (hb : Below w.heap.size w w') : Base w'.heap.size (.bare fun _ => True) w' :=
  (h.next hb.size (fun _ h => h) hb.block).up hb.size (Nat.le_refl _) fun _ _ _ _ => trivial
theorem infoStr : (Tryd.prog.info? 9).map (fun i => (i.zero, i.size, i.bytes)) = some (some (.string ⟨#[]⟩), 1, 16) := by kernel_rfl
theorem below_grown {w w' : World} (h : w.grownBy w' none) : Below w.heap.size w w' := ⟨h.os, h.tape, h.output, h.size, fun k hk => h.block k hk (by simp)⟩
theorem isBuilder_grown {T e S : TypeId} {B C b sz n : Nat} {bs xs : List Value} {v : Value} {w w' : World} (h : Lib.IsBuilderF T e B b bs w) (ho : w.ownsRow C S sz v n xs) (hg : w.grownBy w' v.ownBlock) (h1 : T ≠ S) (h2 : e ≠ S) : Lib.IsBuilderF T e B b bs w' := by
  have lt : ∀ {b : Nat} {o : Obj}, w.heap[b]? = some o → b < w.heap.size := fun h => (Array.getElem?_eq_some_iff.1 h).1
  have same : ∀ (k : Nat) (c : Array Value) (U : TypeId) (fz : Nat × Nat), w.heap[k]? = some (.cells c U fz) → U ≠ S → w'.heap[k]? = w.heap[k]? := fun k c U fz hk hU => hg.block k (lt hk) fun e => by
    rcases ho.2 with ⟨hv, _⟩ | ⟨g, cap, cur, hv, _, hgk, _⟩
    · rw [hv] at e; simp [Value.ownBlock] at e
    · rw [hv] at e
      simp only [Value.ownBlock,Option.some.injEq] at e
      rw [← e, hk] at hgk
      simp only [Option.some.injEq,Obj.cells.injEq] at hgk
      exact hU hgk.2.1
  have key : ∀ p, Lib.BuilderAtF T e B b p bs w → Lib.BuilderAtF T e B b p bs w' := by
    rintro p ⟨hB, v, hb, ⟨hl, ho⟩, hne⟩
    refine ⟨hB, v, by rw [same _ _ _ _ hb h1]; exact hb, ⟨hl, ?_⟩, hne⟩
    rcases ho with ho | ⟨q, cap, cur, fz, g1, g2, g3, g4⟩
    · exact .inl ho
    · exact .inr ⟨q, cap, cur, fz, g1, g2, by rw [same _ _ _ _ g3 h2]; exact g3, g4⟩
  exact h.imp (key _) (key _)
theorem own_others {e S : TypeId} {b : Option Nat} {C sz n : Nat} {xs : List Value} {v : Value} {w w' : World} (ho : w.ownsRow C S sz v n xs) (hk : Lib.OthersKept e b w w') (h1 : S ≠ e) (h2 : v.ownBlock = none ∨ v.ownBlock ≠ b) : w'.ownsRow C S sz v n xs := by
  refine ⟨ho.1, ?_⟩
  rcases ho.2 with hv | ⟨g, cap, cur, hv, hb, hg, rest⟩
  · exact .inl hv
  · refine .inr ⟨g, cap, cur, hv, hb, hk g _ hg (fun e => ?_) (fun c fz e => ?_), rest⟩
    · rcases h2 with h2 | h2
      · rw [hv] at h2; simp [Value.ownBlock] at h2
      · rw [hv] at h2; exact h2 e
    · injection e with _ e; exact h1 e
def strV (s : List UInt8) : Value := .string ⟨s.toArray⟩
def allV (l : List Wr) (k : Nat) : List Value := ([] :: (l.take k).map Wr.d).map strV
theorem cr_strs {ρ : Names} {w : World} : ∀ L : List (List UInt8), CR ρ w (L.map .str) (L.map strV)
  | [] => by simp only [List.map_nil,CR]
  | s :: L => by
    simp only [List.map_cons,CR]
    exact ⟨[strV s], L.map strV, rfl, by simp only [C1]; rfl, cr_strs L⟩
theorem cr_bytes {ρ : Names} {w : World} : ∀ (L : List UInt8) (cs : List Value), CR ρ w (L.map encB) cs → cs = L.map fun b => Value.int .u8 (b.toNat : Int)
  | [], cs, h => by simpa only [List.map_nil,CR] using h
  | b :: L, cs, h => by
    simp only [List.map_cons,CR,encB,C1] at h
    obtain ⟨c1, c2, rfl, rfl, h2⟩ := h
    rw [cr_bytes L c2 h2]; rfl
def digV (D : List UInt8) : Array Value := (D.map fun b => Value.int .u8 (b.toNat : Int)).toArray
theorem digV_size (D : List UInt8) : (digV D).size = D.length := by simp [digV]
theorem own_dat {w : World} {C g cap n : Nat} {L : List (List UInt8)} (h : w.ownsRow C 9 1 (.slice (some ⟨g, 0, none⟩) n cap) n (L.map strV)) (hn : L.length = n) : VR (.bare fun _ => True) w (encStrs L) (.slice (some ⟨g, 0, none⟩) n cap) := by
  subst hn
  have hlt := h.lt g rfl
  have hcap : L.length ≤ cap := by
    rcases h.2 with ⟨e, _⟩ | ⟨g', cap', cur, e, _, _, h1, _⟩
    · simp at e
    · simp only [Value.slice.injEq] at e
      omega
  simp only [VR,VR1,C1]
  refine ⟨some ⟨g, 0, none⟩, cap, by rw [List.length_map], by rw [List.length_map]; exact hcap, fun _ => ⟨g, 0, L.map strV, rfl, cr_strs L, fun e he => ?_, fun j v hv => ?_, ⟨trivial, fun m q hq => by cases hq⟩, hlt.2⟩⟩
  · obtain ⟨s, _, rfl⟩ := List.mem_map.1 he
    exact has_str s
  · rw [Nat.zero_add, h.cellAt j (by have := (List.getElem?_eq_some_iff.1 hv).1; rw [List.length_map] at this; omega)]
    exact hv
theorem psum_any (L : List (List UInt8)) (hl : L.length < 2 ^ 36) (hf : L.flatten.length < 2 ^ 39) {w : World} {C g cap n : Nat} (h : w.ownsRow C 9 1 (.slice (some ⟨g, 0, none⟩) n cap) n (L.map strV)) (hn : L.length = n) (hB : Base w.heap.size (.bare fun _ => True) w) :
    Calls Tryd.prog 56 #[.slice (some ⟨g, 0, none⟩) n cap] w fun e w' => e = .returned (.agg (digV (sumF L.flatten))) ∧ Below w.heap.size w w' := by
  refine (psum_spec L hl hf (fun _ => True) w [.slice (some ⟨g, 0, none⟩) n cap] hB ⟨_, [], rfl, own_dat h hn, rfl⟩).mono fun e w' ⟨x, he, hb, hx⟩ => ⟨?_, hb⟩
  obtain ⟨cs, rfl, hc⟩ := hx.agg
  rw [he]
  congr 2
  apply Array.ext'
  rw [cr_bytes _ _ hc]
  simp [digV]
theorem conv_digest {w : World} {g : Nat} {D : List UInt8} (hD : D.length = 32) (h : w.heap[g]? = some (.cells (digV D) 42 (0, 0))) :
    (Go.convert 44 9 (.slice (some ⟨g, 0, none⟩) 32 32)).run Tryd.prog w = .ok (.string ⟨D.toArray⟩) w := by
  have := run_convert_bytes_back w 44 9 5 ⟨g, 0, none⟩ 32 D Tryd.underlying44 Tryd.underlying5 Tryd.underlying9 fun j hj => by
    rw [add_off, cell_of_row w g _ _ _ _ h]
    simp [digV, hj]
  rw [hD] at this
  exact this
theorem digSize : (Tryd.prog.info? 42).map (·.size) = some 32 := by kernel_rfl
theorem digV_one (D : List UInt8) : (digV D).all (·.oneCell') = true := by
  simp only [digV,List.all_toArray,List.all_map,List.all_eq_true]
  intro b _
  rfl
theorem bs_cat (a b : List UInt8) : (⟨a.toArray⟩ ++ ⟨b.toArray⟩ : ByteArray) = ⟨(a ++ b).toArray⟩ := by
  apply ByteArray.ext
  simp [ByteArray.data_append]
structure Stop (p : Prop) : Prop where
  out : p
def frontK (l : List Wr) (n k : Nat) : List UInt8 := [104, 105, 98, 106] ++ putLE n 2 ++ ((l.take k).map fun w => putLE w.b.toNat 2).flatten
theorem frontK_zero (l : List Wr) (n : Nat) : Lib.byteCells (frontK l n 0) = ([] ++ Lib.strCells ⟨#[104, 105, 98, 106]⟩ : List Value) ++ Lib.strCells ⟨(putLE n 2).toArray⟩ := by simp [frontK, Lib.byteCells, Lib.strCells, byteCells]
theorem frontK_snoc (l : List Wr) (n : Nat) {k : Nat} (h : k < l.length) : frontK l n (k + 1) = frontK l n k ++ putLE (l.getD k default).b.toNat 2 := by
  simp only [frontK]
  rw [List.take_succ_eq_append_getElem h, List.map_append, List.flatten_append, List.append_assoc, List.append_assoc, List.append_assoc, List.getD_eq_getElem?_getD, List.getElem?_eq_getElem h]; simp
theorem frontK_len (l : List Wr) (n k : Nat) : (frontK l n k).length ≤ 6 + 2 * k := by
  have key : ∀ l : List Wr, ((l.map fun w => putLE w.b.toNat 2).flatten).length = 2 * l.length := by
    intro l
    induction l with
    | nil => rfl
    | cons x l ih => simp only [List.map_cons,List.flatten_cons,List.length_append,ih,putLE_len,List.length_cons]; omega
  simp only [frontK,List.length_append,key,putLE_len,List.length_cons,List.length_nil,List.length_take]; omega
theorem frontK_all (l : List Wr) : frontK l l.length l.length = frontF l := by simp only [frontK,frontF,List.take_length]
theorem grown_below {w w' : World} {B : Nat} (h : Below B w w') (hB : w.heap.size ≤ B) : w.grownBy w' none := ⟨h.os, h.tape, h.output, h.size, fun k hk _ => h.block k (Nat.lt_of_lt_of_le hk hB)⟩
theorem own_apart {T e S : TypeId} {B C b sz n : Nat} {bs xs : List Value} {v : Value} {w : World} (h : Lib.IsBuilderF T e B b bs w) (ho : w.ownsRow C S sz v n xs) (h1 : T ≠ S) : v.ownBlock = none ∨ v.ownBlock ≠ some b := by
  obtain ⟨p, x, hb⟩ : ∃ p x, w.heap[b]? = some (.cells #[p, x] T (0, 0)) := by
    rcases h with ⟨_, x, hb, _⟩ | ⟨_, x, hb, _⟩
    · exact ⟨_, x, hb⟩
    · exact ⟨_, x, hb⟩
  rcases ho.2 with ⟨hv, _⟩ | ⟨g, cap, cur, hv, _, hg, _⟩
  · exact .inl (by rw [hv]; rfl)
  · refine .inr fun e => ?_
    rw [hv] at e
    simp only [Value.ownBlock,Option.some.injEq] at e
    rw [e, hb] at hg
    simp only [Option.some.injEq,Obj.cells.injEq] at hg
    exact h1 hg.2.1
theorem allV_snoc (l : List Wr) {k : Nat} (h : k < l.length) : allV l (k + 1) = allV l k ++ [strV (l.getD k default).d] := by
  unfold allV
  rw [List.take_succ_eq_append_getElem h, List.map_append, ← List.cons_append, List.map_append, List.getD_eq_getElem?_getD, List.getElem?_eq_getElem h]
  rfl
theorem allV_all (l : List Wr) : allV l l.length = ([] :: l.map Wr.d).map strV := by unfold allV; rw [List.take_length]
theorem pfilled_spec (s : List UInt8) (hs : s.length < 2 ^ 36) (n : Nat) (hn : n ≤ 128) : Spec Tryd.prog 54 [.str s, .int .i64 n] (.str (padTo n s)) := by
  have hR : s.length ≤ n → Spec Tryd.prog 48 [.str [0], .int .i64 ((n : Int) - (s.length : Int))] (.str (List.replicate (n - s.length) 0)) := fun h => by
    have := repeat_spec [0] (n - s.length) (by simp only [List.length_cons,List.length_nil]; omega) (by omega)
    rw [show (List.replicate (n - s.length) [(0 : UInt8)]).flatten = List.replicate (n - s.length) 0 from by simp] at this
    rw [show ((n - s.length : Nat) : Int) = (n : Int) - (s.length : Int) from by omega] at this
    exact this
  unfold padTo
  by_cases h : n ≤ s.length
  · rw [show n - s.length = 0 by omega, List.replicate_zero, List.append_nil]
    refine spec_ok Tryd.func54 rfl rfl (by kernel_rfl) (k := 2) rfl (by decide) ?_
    repeat' (first|(with_reducible first|refine yrl (by constructor) ?_|refine jk (fun M hM=>?_)|(refine hM _ ?_;clear hM M)|refine xb3 (by decide) ?_|refine yqa (by assumption) ?_ ?_|refine yqb (by assumption) ?_ ?_)|((with_reducible refine je ?_)<;>(first|rfl|assumption|(simp only [znl];(first|done|fail))))|(with_reducible refine jf (by (simp only [↓reduceIte,zlk,Nat.reduceEqDiff,reduceCtorEq]);exact rfl) ?_)|((with_reducible first|refine jg (fun hc=>?_) (fun hc=>?_)|refine jh (fun hc=>?_) (fun hc=>?_))<;>(try simp (disch:=omega) only [zhb] at hc)<;>(try (exfalso;omega))<;>(try subst hc))|(with_reducible refine ji (by omega) ?_)|(simp (config := { maxSteps := 400000 }) only [↓jt,↓reduceIte,zvs,reduceCtorEq,Nat.reduceEqDiff,Nat.reduceAdd,Nat.reduceLeDiff,Nat.reduceMul,Int.reduceBNe,Int.reduceBEq,Int.reduceEq,Int.reduceNe,Int.reduceLT,Int.reduceLE,Int.reduceGT,Int.reduceGE,Int.reduceNeg,Int.reduceToNat,Nat.reduceLT,Nat.reduceSub,tab,Tryd.results54,List.toList_toArray])|(simp (disch:=omega) only [ziw]))
    all_goals first
      | (exfalso; omega)
      | (simp only [zrds]; done)
      | trace_state
  · have hR := hR (by omega)
    refine spec_ok Tryd.func54 rfl rfl (by kernel_rfl) (k := 2) rfl (by decide) ?_
    repeat' (first|(with_reducible first|refine yrl (by constructor) ?_|refine jk (fun M hM=>?_)|(refine hM _ ?_;clear hM M)|refine xb3 (by decide) ?_|refine yqa (by assumption) ?_ ?_|refine yqb (by assumption) ?_ ?_)|((with_reducible refine je ?_)<;>(first|rfl|assumption|(simp only [znl];(first|done|fail))))|(with_reducible refine jf (by (simp only [↓reduceIte,zlk,Nat.reduceEqDiff,reduceCtorEq]);exact rfl) ?_)|((with_reducible first|refine jg (fun hc=>?_) (fun hc=>?_)|refine jh (fun hc=>?_) (fun hc=>?_))<;>(try simp (disch:=omega) only [zhb] at hc)<;>(try (exfalso;omega))<;>(try subst hc))|(with_reducible refine ji (by omega) ?_)|(simp (config := { maxSteps := 400000 }) only [↓jt,↓reduceIte,zvs,reduceCtorEq,Nat.reduceEqDiff,Nat.reduceAdd,Nat.reduceLeDiff,Nat.reduceMul,Int.reduceBNe,Int.reduceBEq,Int.reduceEq,Int.reduceNe,Int.reduceLT,Int.reduceLE,Int.reduceGT,Int.reduceGE,Int.reduceNeg,Int.reduceToNat,Nat.reduceLT,Nat.reduceSub,tab,Tryd.results54,List.toList_toArray])|(simp (disch:=omega) only [ziw]))
    all_goals first
      | (exfalso; omega)
      | (simp only [zrds]; done)
      | trace_state
set_option maxHeartbeats 200000 in
set_option maxRecDepth 100000 in
theorem phead_any (A : Option Addr) (c : Nat) (l : List Wr) (n : Nat) (hn : l.length = n) (hl : HdR l) (w : World) (hB0 : Base w.heap.size (.bare fun _ => True) w) (hA : RdWr w A l) :
    Calls Tryd.prog 31 #[.slice A n c] w fun e w' => e = .returned (.string ⟨(headF l).toArray⟩) ∧ Below w.heap.size w w' := by
  have hl1 : n ≤ 32 := by rw [← hn]; exact hl.len
  have hl2 : (0 : Int) ≤ (n : Int) := by omega
  have hl3 : (n : Int) ≤ 32 := by omega
  obtain ⟨R, hR⟩ : ∃ R, R = headF l := ⟨_, rfl⟩
  rw [← hR]
  have HR := Lib.hid hR
  have HN := Lib.hid hn
  clear hR hn
  go_enter Tryd.func31, Tryd.ntmps31
  go_wp2_with (go_at_call 52; refine (writeString_k w.heap.size w.heap.size [] ⟨#[104, 105, 98, 106]⟩ _ (isBuilder_first ?c0) ?c1 ?c2).mono ?_)
  case c0 => exact heap_new w _
  case c1 => show 0 + 4 ≤ 140737488355328; omega
  case c2 => rw [World.size_alloc]; omega
  rintro e w1 ⟨rfl, h1, hb1, hk1⟩
  have W1 : Below w.heap.size w w1 := Below.trans ((Below.refl _ _).alloc (Nat.le_refl _) _) hb1
  have hP := num_put_spec n (by omega) 2
  rw [show min (2 : Int).toNat 8 = 2 from rfl] at hP
  have hpl := putLE_len n 2
  obtain ⟨s2, hs2⟩ : ∃ s2, s2 = putLE n 2 := ⟨_, rfl⟩
  rw [← hs2] at hP hpl
  have HS2 := Lib.hid hs2
  clear hs2
  obtain ⟨bs1, hbs1⟩ : ∃ bs, bs = ([] ++ Lib.strCells ⟨#[104, 105, 98, 106]⟩ : List Value) := ⟨_, rfl⟩
  rw [← hbs1] at h1
  have HB1 := Lib.hid hbs1
  clear hbs1
  go_wp2_with (go_at_call 53; refine (calls_strT hP _ (baseT hB0 W1) VR_int VR_int).mono ?_)
  rintro e w2 ⟨rfl, hb2⟩
  have h1' := isBuilder_below (.inr h1) hb2
  have hz1 := W1.size
  have hz2 := hb2.size
  go_wp2_with (go_at_call 52; refine (writeString_k w.heap.size w.heap.size bs1 ⟨s2.toArray⟩ _ h1' ?d1 ?d2).mono ?_)
  case d1 => rw [HB1.out]; show 4 + s2.toArray.size ≤ _; simp only [List.size_toArray]; omega
  case d2 => omega
  rintro e w3 ⟨rfl, h3, hb3, hk3⟩
  have W2 : Below w.heap.size w w2 := W1.trans (hb2.mono (by omega))
  have W3 : Below w.heap.size w w3 := W2.trans hb3
  obtain ⟨i0, hi, hi0, hi1, hi2⟩ := info_parts infoStr
  obtain ⟨w4, hm, ho4, hg4⟩ := run_make_own (P := Tryd.prog) w3 w.heap.size 22 9 i0 _ 1 Tryd.underlying22 hi hi0 hi1 .i64 .i64 (n + 1) (by rw [hi2]; omega) (by unfold maxLen; omega) W3.size
  rw [show ((n + 1 : Nat) : Int) = (n : Int) + 1 from by omega] at hm
  have W4 : Below w.heap.size w w4 := W3.trans ((below_grown hg4).mono W3.size)
  have h4 := isBuilder_below (.inr h3) (below_grown hg4)
  have hz4 := W4.size
  go_wp2_with (at_builtin; refine wpList_push rfl _ _ _ rfl Tryd.underlying22 infoStr rfl (by decide) rfl rfl ho4 hz4 rfl ?e1 (by unfold maxLen; omega) (by omega) ?_)
  case e1 => intro u hu; simp only [List.mem_cons,List.not_mem_nil,or_false] at hu; rw [hu]; rfl
  intro v5 w5 hP5
  have ho4' := ho4.alloc (.cells [Value.string ⟨#[]⟩].toArray 9)
  have h4' := isBuilder_below h4 ((Below.refl _ _).alloc (Nat.le_refl _) (.cells [Value.string ⟨#[]⟩].toArray 9))
  have h5 := isBuilder_grown h4' ho4' hP5.grown (by decide) (by decide)
  have W5 : Below w.heap.size w w5 := (W4.alloc hz4 _).trans (hP5.below ho4' (Nat.le_refl _) (by rw [World.size_alloc]; omega))
  have hown5 := hP5.own
  rw [Nat.zero_add, List.nil_append] at hown5
  clear hP5 ho4' h4' hpl hP hm hg4 ho4 h3 hk3
  go_wp2_with fail
  go_loopw [4, 24] (fun v i wr => ∃ k : Nat, k ≤ n ∧ i = .int .i64 k ∧ Lib.IsBuilderF 77 5 w.heap.size w.heap.size (Lib.byteCells (frontK l n k)) wr ∧ wr.ownsRow w.heap.size 9 1 v (k + 1) (allV l k) ∧ Below w.heap.size w wr) (fun _ i _ => n - (intOf i).toNat)
  case atStart =>
    refine ⟨0, by omega, rfl, ?_, hown5, W5⟩
    rw [frontK_zero, ← HS2.out, ← HB1.out]
    exact h5
  case round =>
    obtain ⟨k, hk, rfl, hB, hO, hW⟩ := hrel
    by_cases hlt : k < n
    · obtain ⟨b, o, rfl, hb, hc1, hc2⟩ := (hA.below hW) k (by rw [HN.out]; exact hlt)
      obtain ⟨x1, x2, x3⟩ := hl.wr _ (getD_mem' (by rw [HN.out]; exact hlt))
      have hsn := frontK_snoc l n (by rw [HN.out]; exact hlt)
      have hP := num_put_spec (l.getD k default).b.toNat (by omega) 2
      rw [show min (2 : Int).toNat 8 = 2 from rfl, Int.toNat_of_nonneg x1] at hP
      have hpl := putLE_len (l.getD k default).b.toNat 2
      have hfl := frontK_len l n k
      obtain ⟨y, hy⟩ : ∃ y, y = l.getD k default := ⟨_, rfl⟩
      rw [← hy] at hc1 hc2 x1 x2 x3 hsn hP hpl
      have HY := Lib.hid hy
      clear hy
      obtain ⟨yb, yd⟩ := y
      dsimp only at hc1 hc2 x1 x2 x3 hsn hP hpl
      generalize putLE yb.toNat 2 = s at hP hpl hsn
      have hk0 : (0 : Int) ≤ (k : Int) := by omega
      have hk1 : (k : Int) < (n : Int) := by omega
      have Wa : Below w.heap.size w (wr.alloc (.cells #[Value.int .i64 yb, Value.string ⟨yd.toArray⟩] 40)) := hW.alloc hW.size _
      have hBa := isBuilder_below hB ((Below.refl _ _).alloc (Nat.le_refl _) (.cells #[Value.int .i64 yb, Value.string ⟨yd.toArray⟩] 40))
      have hOa := hO.alloc (.cells #[Value.int .i64 yb, Value.string ⟨yd.toArray⟩] 40)
      have hna := heap_new wr (.cells #[Value.int .i64 yb, Value.string ⟨yd.toArray⟩] 40)
      have hsa : (wr.alloc (.cells #[Value.int .i64 yb, Value.string ⟨yd.toArray⟩] 40)).heap.size = wr.heap.size + 1 := World.size_alloc ..
      have hbl : w.heap.size < wr.heap.size := by
        rcases hB with ⟨_, x, hb, _⟩ | ⟨_, x, hb, _⟩
        · exact (Array.getElem?_eq_some_iff.1 hb).1
        · exact (Array.getElem?_eq_some_iff.1 hb).1
      obtain ⟨wa, hwa⟩ : ∃ wa, wa = wr.alloc (.cells #[Value.int .i64 yb, Value.string ⟨yd.toArray⟩] 40) := ⟨_, rfl⟩
      rw [← hwa] at Wa hBa hOa hna hsa
      go_wp2_with (go_at_call 53; rw [← hwa]; refine (calls_strT hP _ (baseT hB0 Wa) VR_int VR_int).mono ?_)
      rintro e w6 ⟨rfl, hb6⟩
      have hB6 := isBuilder_below hBa hb6
      have hO6 := hOa.kept (grown_below hb6 (Nat.le_refl _)) (by cases v0 : Value.ownBlock _ <;> simp)
      have hn6 := (hb6.block _ (by omega)).trans hna
      have W6 := Wa.trans (hb6.mono Wa.size)
      have hz6 := W6.size
      go_wp2_with (go_at_call 52; refine (writeString_k w.heap.size w.heap.size _ ⟨s.toArray⟩ _ hB6 ?f1 ?f2).mono ?_)
      case f1 => simp only [Lib.byteCells,List.length_map]; show _ + s.toArray.size ≤ _; simp only [List.size_toArray]; omega
      case f2 => exact hz6
      rintro e w7 ⟨rfl, h7, hb7, hk7⟩
      have hO7 := own_others hO6 hk7 (by decide) (own_apart hB6 hO6 (by decide))
      have hn7 := hk7 _ _ hn6 (by intro e; injection e with e; omega) (by intro c fz e; injection e with _ e; exact absurd e (by decide))
      have W7 := W6.trans hb7
      have hz7 := W7.size
      have c7 : w7.cell? ⟨wr.heap.size, 1, none⟩ = some (.string ⟨yd.toArray⟩) := by simp [World.cell?, hn7]
      go_wp2_with (at_builtin; refine wpList_push rfl _ _ _ rfl Tryd.underlying22 infoStr rfl (by decide) rfl rfl hO7 hz7 rfl ?f3 (by unfold maxLen; omega) (by omega) ?_)
      case f3 => intro u hu; simp only [List.mem_cons,List.not_mem_nil,or_false] at hu; rw [hu]; rfl
      intro v8 w8 hP8
      have hO7' := hO7.alloc (.cells [Value.string ⟨yd.toArray⟩].toArray 9)
      have h7' := isBuilder_below (.inr h7) ((Below.refl _ _).alloc (Nat.le_refl _) (.cells [Value.string ⟨yd.toArray⟩].toArray 9))
      have h8 := isBuilder_grown h7' hO7' hP8.grown (by decide) (by decide)
      have W8 : Below w.heap.size w w8 := (W7.alloc hz7 _).trans (hP8.below hO7' (Nat.le_refl _) (by rw [World.size_alloc]; omega))
      go_wp2
      go_roundw
      case rel =>
        refine ⟨k + 1, by omega, by go_num, ?_, ?_, W8⟩
        · rw [hsn]
          have e1 : Lib.byteCells (frontK l n k ++ s) = Lib.byteCells (frontK l n k) ++ Lib.strCells ⟨s.toArray⟩ := by simp [Lib.byteCells, Lib.strCells, byteCells]
          rw [e1]
          exact h8
        · have e2 : allV l (k + 1) = allV l k ++ [Value.string ⟨yd.toArray⟩] := by
            rw [allV_snoc l (by rw [HN.out]; exact hlt), ← HY.out]; rfl
          rw [e2]
          exact hP8.own
      case measure => simp [intOf]; omega
    · obtain rfl : k = n := by omega
      have hf : frontK l k k = frontF l := by rw [← HN.out]; exact frontK_all l
      have ha : allV l k = ([] :: l.map Wr.d).map strV := by rw [← HN.out]; exact allV_all l
      obtain ⟨aL, haL⟩ : ∃ aL, aL = allV l k := ⟨_, rfl⟩
      rw [← haL] at hO ha
      clear haL
      rw [hf] at hB
      have hfl : (frontF l).length ≤ 70 := by rw [frontF_len, HN.out]; omega
      have hF := pfilled_spec (frontF l) (by omega) 70 (by omega)
      have hz := hW.size
      go_wp2_with (go_at_call 55; refine (Tryd.Builder_String_any_k w.heap.size w.heap.size _ _ hB ?g1).mono ?_)
      case g1 => exact hz
      rintro e w9 ⟨rfl, _, hb9, hk9⟩
      have W9 := hW.trans hb9
      have hO9 := own_others hO hk9 (by decide) (own_apart hB hO (by decide))
      obtain ⟨ff, hff⟩ : ∃ ff, ff = frontF l := ⟨_, rfl⟩
      rw [← hff] at hF hfl ⊢
      have HF := Lib.hid hff
      clear hff hf hB
      go_wp2_with (go_at_call 54; refine (calls_strT hF _ (baseT hB0 W9) VR_str VR_int).mono ?_)
      rintro e w10 ⟨rfl, hb10⟩
      have W10 := W9.trans (hb10.mono W9.size)
      have hO10 := hO9.kept (grown_below hb10 (Nat.le_refl _)) (by cases v0 : Value.ownBlock _ <;> simp)
      obtain ⟨g, cap, rfl⟩ : ∃ g cap, u4 = .slice (some ⟨g, 0, none⟩) (k + 1) cap := by
        rcases hO10.2 with ⟨_, e⟩ | ⟨g, cap, cur, e, _⟩
        · omega
        · exact ⟨g, cap, e⟩
      have cg : w10.cell? ⟨g, 0, none⟩ = some (strV []) := by
        have := hO10.cellAt 0 (by omega)
        rw [this, ha]; rfl
      have fg := hO10.frozenAt 0
      have hst := hO10.stored 0 (.string ⟨(padTo 70 ff).toArray⟩)
      have hO11 := hst.1
      have hfF : padTo 70 ff = firstF l := by rw [HF.out]; rfl
      have HfF := Lib.hid hfF
      clear hfF
      have hLs : aL.set 0 (.string ⟨(padTo 70 ff).toArray⟩) = (padTo 70 ff :: l.map Wr.d).map strV := by rw [ha]; rfl
      rw [hLs] at hO11
      have W11 : Below w.heap.size w (w10.setCell ⟨g, 0, none⟩ (.string ⟨(padTo 70 ff).toArray⟩)) := W10.setCell (p := ⟨g, 0, none⟩) (hO10.lt g rfl).1 _
      have hflat : (padTo 70 ff :: l.map Wr.d).flatten.length ≤ 70 + 32 * 128 := by
        have k1 : (padTo 70 ff).length ≤ 70 := by simp only [padTo,List.length_append,List.length_replicate]; omega
        have k2 : ∀ l : List Wr, (∀ w ∈ l, w.d.length = 128) → (l.map Wr.d).flatten.length = l.length * 128 := by
          intro l hl
          induction l with
          | nil => rfl
          | cons x l ih =>
            rw [List.map_cons, List.flatten_cons, List.length_append, ih fun w hw => hl w (by simp [hw]), hl x (by simp), List.length_cons]; omega
        rw [List.flatten_cons, List.length_append, k2 l fun w hw => (hl.wr w hw).2.2, HN.out]; omega
      have hlen11 : (padTo 70 ff :: l.map Wr.d).length = k + 1 := by rw [List.length_cons, List.length_map, HN.out]
      have hS := psum_any (padTo 70 ff :: l.map Wr.d) (by rw [hlen11]; omega) (by omega) hO11 hlen11 (baseT hB0 W11)
      obtain ⟨D, hD⟩ : ∃ D, D = sumF (padTo 70 ff :: l.map Wr.d).flatten := ⟨_, rfl⟩
      have hDl : D.length = 32 := by rw [hD]; exact sumF_len _
      rw [← hD] at hS
      have HD := Lib.hid hD
      clear hD hO11 hLs hst hflat ha
      go_wp2_with (go_at_call 56; refine hS.mono ?_)
      rintro e w12 ⟨rfl, hb12⟩
      have W12 := W11.trans (hb12.mono W11.size)
      have hsz42 : (Tryd.prog.info? 42).map (·.size) = some (digV D).size := by rw [digV_size, hDl]; exact digSize
      go_wp2_with (refine wpList_store_row rfl 42 _ _ rfl w12.heap.size (digV D) rfl rfl 42 _ (Bk.new w12 _ _) hsz42 (by rw [digV_size, hDl]; rfl) (digV_one D) ?_)
      have hb13 := (Bk.new w12 42 #[Value.int .u8 0, .int .u8 0, .int .u8 0, .int .u8 0, .int .u8 0, .int .u8 0, .int .u8 0, .int .u8 0, .int .u8 0, .int .u8 0, .int .u8 0, .int .u8 0, .int .u8 0, .int .u8 0, .int .u8 0, .int .u8 0, .int .u8 0, .int .u8 0, .int .u8 0, .int .u8 0, .int .u8 0, .int .u8 0, .int .u8 0, .int .u8 0, .int .u8 0, .int .u8 0, .int .u8 0, .int .u8 0, .int .u8 0, .int .u8 0, .int .u8 0, .int .u8 0]).row (digV D)
      have hK13 : Kept w12 ((w12.alloc (.cells #[Value.int .u8 0, .int .u8 0, .int .u8 0, .int .u8 0, .int .u8 0, .int .u8 0, .int .u8 0, .int .u8 0, .int .u8 0, .int .u8 0, .int .u8 0, .int .u8 0, .int .u8 0, .int .u8 0, .int .u8 0, .int .u8 0, .int .u8 0, .int .u8 0, .int .u8 0, .int .u8 0, .int .u8 0, .int .u8 0, .int .u8 0, .int .u8 0, .int .u8 0, .int .u8 0, .int .u8 0, .int .u8 0, .int .u8 0, .int .u8 0, .int .u8 0, .int .u8 0] 42)).setRow w12.heap.size (digV D)) := ((Kept.refl w12).alloc _).row (Nat.le_refl _) _
      obtain ⟨w13, hw13⟩ : ∃ w13, w13 = ((w12.alloc (.cells #[Value.int .u8 0, .int .u8 0, .int .u8 0, .int .u8 0, .int .u8 0, .int .u8 0, .int .u8 0, .int .u8 0, .int .u8 0, .int .u8 0, .int .u8 0, .int .u8 0, .int .u8 0, .int .u8 0, .int .u8 0, .int .u8 0, .int .u8 0, .int .u8 0, .int .u8 0, .int .u8 0, .int .u8 0, .int .u8 0, .int .u8 0, .int .u8 0, .int .u8 0, .int .u8 0, .int .u8 0, .int .u8 0, .int .u8 0, .int .u8 0, .int .u8 0, .int .u8 0] 42)).setRow w12.heap.size (digV D)) := ⟨_, rfl⟩
      rw [← hw13] at hb13 hK13 ⊢
      clear hw13
      have W13 := W12.trans (hK13.mono W12.size)
      have hconv := conv_digest hDl hb13
      have hq1 : (padTo 70 ff).length ≤ 140 := by simp only [padTo,List.length_append,List.length_replicate]; omega
      have hG := pfilled_spec (padTo 70 ff ++ D) (by simp only [padTo,List.length_append,List.length_replicate]; omega) 128 (by omega)
      go_wp2_with fail
      rw [hconv]
      simp only [Result.andThen]
      rw [Oper.upon_value]
      go_wp2_with (go_at_call 54; rw [bs_cat]; refine (calls_strT hG _ (baseT hB0 W13) VR_str VR_int).mono ?_)
      rintro e w14 ⟨rfl, hb14⟩
      go_wp2
      have hfin : padTo 128 (padTo 70 ff ++ D) = R := by
        have l1 : (padTo 70 ff).length = 70 := by rw [HfF.out]; exact firstF_len hl.len
        have l2 : (padTo 70 ff ++ D).length = 102 := by rw [List.length_append]; omega
        rw [HR.out, padTo, l2, headF, HD.out, HfF.out, List.flatten_cons]
      rw [hfin]
      go_ret
      exact ⟨rfl, W13.trans (hb14.mono W13.size)⟩
end Go.Proofs.YtcilmfhncjfdbaaDoor.V
end
section
/-
  WAL: heads, as contracts; by the document.
-/
set_option linter.unusedVariables false
set_option linter.unusedSimpArgs false
namespace Go.Proofs.YtcilmfhncjfdbaaDoor.V
open Go
set_option maxRecDepth 100000
-- nlx: jO, nls_mapB, nls_datK
set_option maxHeartbeats 4000000
def datK (l : List Wr) (k : Nat) : List VV := ((l.take k).map Wr.d).map VV.str
theorem datK_len (l : List Wr) {k : Nat} (h : k ≤ l.length) : (datK l k).length = k := by simp only [datK,List.length_map,List.length_take]; omega
theorem datK_snoc (l : List Wr) {k : Nat} (h : k < l.length) : datK l k ++ [VV.str (l.getD k default).d] = datK l (k + 1) := by
  unfold datK
  rw [List.take_succ_eq_append_getElem h, List.map_append, List.map_append, List.getD_eq_getElem?_getD, List.getElem?_eq_getElem h]
  rfl
theorem nls_datK (l : List Wr) (k : Nat) : nls (datK l k) = true := nls_map _ (fun _ => rfl) _
theorem cr_wrs {ρ : Names} {w : World} : ∀ (l : List Wr) (cs : List Value), CR ρ w (l.map encWr) cs → ∀ k, k < l.length → cs[k * 2]? = some (.int .i64 (l.getD k default).b) ∧ cs[k * 2 + 1]? = some (.string ⟨(l.getD k default).d.toArray⟩)
  | [], cs, h, k, hk => by simp at hk
  | x :: l, cs, h, k, hk => by
    simp only [List.map_cons,CR,encWr,C1] at h
    obtain ⟨c1, c2, rfl, ⟨a1, r1, rfl, rfl, a2, r2, rfl, rfl, rfl⟩, h2⟩ := h
    cases k with
    | zero => exact ⟨rfl, rfl⟩
    | succ k =>
      have := cr_wrs l c2 h2 k (by simpa using hk)
      have e1 : (k + 1) * 2 = k * 2 + 2 := by omega
      have e2 : (k + 1) * 2 + 1 = k * 2 + 1 + 2 := by omega
      rw [e1]
      exact ⟨by simpa using this.1, by simpa using this.2⟩
theorem phead_spec (l : List Wr) (hl : HdR l) : Spec Tryd.prog 31 [encWrs l] (.str (headF l)) := by
  intro U w xs hB hx
  obtain ⟨x, ys, rfl, h1, h3⟩ := hx
  have h3 : ys = [] := h3
  subst h3
  have h1 : ∃ A c, x = .slice A l.length c ∧ RdWr w A l := by
    obtain ⟨A, c, hp, hc, hne⟩ := h1.dat
    rw [List.length_map] at hp
    refine ⟨A, c, hp, fun k hk => ?_⟩
    obtain ⟨b, o, ecs, rfl, g1, g2, g3, g4, g5⟩ := hne (fun e => by
      have := congrArg List.length e
      rw [List.length_map, List.length_nil] at this
      omega)
    obtain ⟨q1, q2⟩ := cr_wrs l ecs g1 k hk
    exact ⟨b, o, rfl, g5, g3 _ _ q1, by have := g3 _ _ q2; rwa [← Nat.add_assoc] at this⟩
  obtain ⟨A, c, rfl, hA⟩ := h1
  refine (phead_any A c l l.length rfl hl w (hB.im fun _ _ => trivial) hA).mono fun e' w' ⟨he, hb⟩ => ⟨_, he, hb, ?_⟩
  exact VR_str
theorem rep_snoc (k : Nat) : List.replicate k (0 : UInt8) ++ [0] = List.replicate (k + 1) 0 := by rw [List.replicate_succ']
theorem rzeros16_spec (n : Nat) (hn : n < 2 ^ 36) : Spec Tryd.prog 26 [.int .i64 n] (.str (List.replicate n 0)) := by
  refine spec_ok Tryd.func26 rfl rfl (by kernel_rfl) (k := 1) rfl (by decide) ?_
  repeat' (first|(with_reducible first|refine yrl (by constructor) ?_|refine jk (fun M hM=>?_)|(refine hM _ ?_;clear hM M)|refine xb3 (by decide) ?_|refine yqa (by assumption) ?_ ?_|refine yqb (by assumption) ?_ ?_)|((with_reducible refine je ?_)<;>(first|rfl|assumption|(simp only [znl,jO,nls_mapB,nls_datK];(first|done|fail))))|(with_reducible refine jf (by (simp only [↓reduceIte,zlk,Nat.reduceEqDiff,reduceCtorEq]);exact rfl) ?_)|((with_reducible first|refine jg (fun hc=>?_) (fun hc=>?_)|refine jh (fun hc=>?_) (fun hc=>?_))<;>(try simp (disch:=omega) only [zhb] at hc)<;>(try (exfalso;omega))<;>(try subst hc))|(with_reducible refine ji (by omega) ?_)|(simp (config := { maxSteps := 400000 }) only [↓jt,↓reduceIte,zvs,reduceCtorEq,Nat.reduceEqDiff,Nat.reduceAdd,Nat.reduceLeDiff,Nat.reduceMul,Int.reduceBNe,Int.reduceBEq,Int.reduceEq,Int.reduceNe,Int.reduceLT,Int.reduceLE,Int.reduceGT,Int.reduceGE,Int.reduceNeg,Int.reduceToNat,Nat.reduceLT,Nat.reduceSub,tab,Tryd.results26,List.toList_toArray])|(simp (disch:=omega) only [ziw]))
  refine ok_loop (fun k : Nat => ⟨slots [(0, .int .i64 n), (3, .str (List.replicate k 0)), (4, .int .i64 k)], rows [], 0⟩) (fun k => k ≤ n) (fun k => n - k) 0 ?_ (Nat.zero_le _) (fun k hk => ?_)
  · (refine yrn [] false ?_ ?_<;>(repeat' (first|(with_reducible first|exact ya1|exact ya2|exact ya3|refine jx rfl (by first|rfl|assumption|(simp only [znl,jO,nls_mapB,nls_datK];(first|done|fail)))|exact ya5|exact ya7|exact jy|exact jz|refine jA ?_|refine ya9 ?_ ?_ ?_|refine jC rfl (by first|rfl|assumption|(simp only [znl,jO,nls_mapB,nls_datK];(first|done|fail)))|refine MR.agg (MRL.cons ?_ ?_)|refine MR.fn ?_|refine MRL.cons ?_ ?_|exact MRL.nil|refine jE ?_ ?_|exact jF|exact jG|refine yb1 ?_ ?_|refine MB.row ?_|refine jI ?_ ?_|exact ya8|refine jJ rfl (by first|rfl|assumption|(simp only [znl,jO,nls_mapB,nls_datK];(first|done|fail)))|refine yb2 ?_|rfl)|(simp only [znl,jO,nls_mapB,nls_datK];(first|done|fail))|(simp only [↓reduceIte,zlk,Nat.reduceEqDiff,reduceCtorEq])|(with_reducible first|refine jJ ?_ ?_|refine ya5 ?_|refine ju ?_|refine jv ?_|refine jw ?_|refine jx ?_ (by first|rfl|assumption|(simp only [znl,jO,nls_mapB,nls_datK];(first|done|fail)))|refine jC ?_ (by first|rfl|assumption|(simp only [znl,jO,nls_mapB,nls_datK];(first|done|fail)))))))
    all_goals (first | rfl | trace_state)
  by_cases hlt : k < n
  · have h1 := rep_snoc k
    repeat' (first|(with_reducible first|refine yrl (by constructor) ?_|refine jk (fun M hM=>?_)|(refine hM _ ?_;clear hM M)|refine xb3 (by decide) ?_|refine yqa (by assumption) ?_ ?_|refine yqb (by assumption) ?_ ?_)|((with_reducible refine je ?_)<;>(first|rfl|assumption|(simp only [znl,jO,nls_mapB,nls_datK];(first|done|fail))))|(with_reducible refine jf (by (simp only [↓reduceIte,zlk,Nat.reduceEqDiff,reduceCtorEq]);exact rfl) ?_)|((with_reducible first|refine jg (fun hc=>?_) (fun hc=>?_)|refine jh (fun hc=>?_) (fun hc=>?_))<;>(try simp (disch:=omega) only [zhb] at hc)<;>(try (exfalso;omega))<;>(try subst hc))|(with_reducible refine ji (by omega) ?_)|(simp (config := { maxSteps := 400000 }) only [↓jt,↓reduceIte,zvs,reduceCtorEq,Nat.reduceEqDiff,Nat.reduceAdd,Nat.reduceLeDiff,Nat.reduceMul,Int.reduceBNe,Int.reduceBEq,Int.reduceEq,Int.reduceNe,Int.reduceLT,Int.reduceLE,Int.reduceGT,Int.reduceGE,Int.reduceNeg,Int.reduceToNat,Nat.reduceLT,Nat.reduceSub,tab,h1,Tryd.results26,List.toList_toArray])|(simp (disch:=omega) only [ziw]))
    all_goals first
      | (exfalso; omega)
      | (refine xl1 (k + 1) ?_ (by show k + 1 ≤ n; omega) (by show n - (k + 1) < n - k; omega); (refine yrn [] false ?_ ?_<;>(repeat' (first|(with_reducible first|exact ya1|exact ya2|exact ya3|refine jx rfl (by first|rfl|assumption|(simp only [znl,jO,nls_mapB,nls_datK];(first|done|fail)))|exact ya5|exact ya7|exact jy|exact jz|refine jA ?_|refine ya9 ?_ ?_ ?_|refine jC rfl (by first|rfl|assumption|(simp only [znl,jO,nls_mapB,nls_datK];(first|done|fail)))|refine MR.agg (MRL.cons ?_ ?_)|refine MR.fn ?_|refine MRL.cons ?_ ?_|exact MRL.nil|refine jE ?_ ?_|exact jF|exact jG|refine yb1 ?_ ?_|refine MB.row ?_|refine jI ?_ ?_|exact ya8|refine jJ rfl (by first|rfl|assumption|(simp only [znl,jO,nls_mapB,nls_datK];(first|done|fail)))|refine yb2 ?_|rfl)|(simp only [znl,jO,nls_mapB,nls_datK];(first|done|fail))|(simp only [↓reduceIte,zlk,Nat.reduceEqDiff,reduceCtorEq])|(with_reducible first|refine jJ ?_ ?_|refine ya5 ?_|refine ju ?_|refine jv ?_|refine jw ?_|refine jx ?_ (by first|rfl|assumption|(simp only [znl,jO,nls_mapB,nls_datK];(first|done|fail)))|refine jC ?_ (by first|rfl|assumption|(simp only [znl,jO,nls_mapB,nls_datK];(first|done|fail))))))); all_goals (first | rfl | trace_state); done)
      | trace_state
  obtain rfl : k = n := by omega
  repeat' (first|(with_reducible first|refine yrl (by constructor) ?_|refine jk (fun M hM=>?_)|(refine hM _ ?_;clear hM M)|refine xb3 (by decide) ?_|refine yqa (by assumption) ?_ ?_|refine yqb (by assumption) ?_ ?_)|((with_reducible refine je ?_)<;>(first|rfl|assumption|(simp only [znl,jO,nls_mapB,nls_datK];(first|done|fail))))|(with_reducible refine jf (by (simp only [↓reduceIte,zlk,Nat.reduceEqDiff,reduceCtorEq]);exact rfl) ?_)|((with_reducible first|refine jg (fun hc=>?_) (fun hc=>?_)|refine jh (fun hc=>?_) (fun hc=>?_))<;>(try simp (disch:=omega) only [zhb] at hc)<;>(try (exfalso;omega))<;>(try subst hc))|(with_reducible refine ji (by omega) ?_)|(simp (config := { maxSteps := 400000 }) only [↓jt,↓reduceIte,zvs,reduceCtorEq,Nat.reduceEqDiff,Nat.reduceAdd,Nat.reduceLeDiff,Nat.reduceMul,Int.reduceBNe,Int.reduceBEq,Int.reduceEq,Int.reduceNe,Int.reduceLT,Int.reduceLE,Int.reduceGT,Int.reduceGE,Int.reduceNeg,Int.reduceToNat,Nat.reduceLT,Nat.reduceSub,tab,Tryd.results26,List.toList_toArray])|(simp (disch:=omega) only [ziw]))
  all_goals first
    | (exfalso; omega)
    | (simp only [zrds]; done)
    | trace_state
theorem rhead_spec (l : List Wr) (hl : HdR l) : Spec Tryd.prog 21 [encWrs l] (.str (headF l)) := by
  obtain ⟨h1, h2⟩ := id hl
  have hP : Spec Tryd.prog 45 [.int .u64 l.length, .int .i64 2] (.str (putLE l.length 2)) := rnum_put_spec l.length (by omega) 2 (by omega)
  have hZ26 : Spec Tryd.prog 26 [.int .i64 26] (.str (List.replicate 26 0)) := rzeros16_spec 26 (by omega)
  obtain ⟨R, hR⟩ : ∃ R, R = headF l := ⟨_, rfl⟩
  rw [← hR]
  have h4 : [104, 105, 98, 106] ++ putLE l.length 2 = frontK l l.length 0 := by simp [frontK]
  have hp2 := putLE_len l.length 2
  refine spec_ok Tryd.func21 rfl rfl (by kernel_rfl) (k := 1) rfl (by decide) ?_
  repeat' (first|(with_reducible first|refine yrl (by constructor) ?_|refine jk (fun M hM=>?_)|(refine hM _ ?_;clear hM M)|refine xb3 (by decide) ?_|refine yqa (by assumption) ?_ ?_|refine yqb (by assumption) ?_ ?_)|((with_reducible refine je ?_)<;>(first|rfl|assumption|(simp only [znl,jO,nls_mapB,nls_datK];(first|done|fail))))|(with_reducible refine jf (by (simp only [↓reduceIte,zlk,Nat.reduceEqDiff,reduceCtorEq]);exact rfl) ?_)|((with_reducible first|refine jg (fun hc=>?_) (fun hc=>?_)|refine jh (fun hc=>?_) (fun hc=>?_))<;>(try simp (disch:=omega) only [zhb] at hc)<;>(try (exfalso;omega))<;>(try subst hc))|(with_reducible refine ji (by omega) ?_)|(simp (config := { maxSteps := 400000 }) only [↓jt,↓reduceIte,zvs,reduceCtorEq,Nat.reduceEqDiff,Nat.reduceAdd,Nat.reduceLeDiff,Nat.reduceMul,Int.reduceBNe,Int.reduceBEq,Int.reduceEq,Int.reduceNe,Int.reduceLT,Int.reduceLE,Int.reduceGT,Int.reduceGE,Int.reduceNeg,Int.reduceToNat,Nat.reduceLT,Nat.reduceSub,tab,h4,Tryd.results21,List.toList_toArray])|(simp (disch:=omega) only [ziw]))
  refine ok_loop (fun k : Nat => ⟨slots [(0, encWrs l), (3, .str (frontK l l.length k)), (4, .sl (some (0, [], 0)) k), (14, .int .i64 l.length), (15, .int .i64 k)], rows [(0, .row (.arr k .cell) (.agg (datK l k)))], 1⟩) (fun k => k ≤ l.length) (fun k => l.length - k) 0 ?_ (Nat.zero_le _) (fun k hk => ?_)
  · (refine yrn [(0, 0)] false ?_ ?_<;>(repeat' (first|(with_reducible first|exact ya1|exact ya2|exact ya3|refine jx rfl (by first|rfl|assumption|(simp only [znl,jO,nls_mapB,nls_datK];(first|done|fail)))|exact ya5|exact ya7|exact jy|exact jz|refine jA ?_|refine ya9 ?_ ?_ ?_|refine jC rfl (by first|rfl|assumption|(simp only [znl,jO,nls_mapB,nls_datK];(first|done|fail)))|refine MR.agg (MRL.cons ?_ ?_)|refine MR.fn ?_|refine MRL.cons ?_ ?_|exact MRL.nil|refine jE ?_ ?_|exact jF|exact jG|refine yb1 ?_ ?_|refine MB.row ?_|refine jI ?_ ?_|exact ya8|refine jJ rfl (by first|rfl|assumption|(simp only [znl,jO,nls_mapB,nls_datK];(first|done|fail)))|refine yb2 ?_|rfl)|(simp only [znl,jO,nls_mapB,nls_datK];(first|done|fail))|(simp only [↓reduceIte,zlk,Nat.reduceEqDiff,reduceCtorEq])|(with_reducible first|refine jJ ?_ ?_|refine ya5 ?_|refine ju ?_|refine jv ?_|refine jw ?_|refine jx ?_ (by first|rfl|assumption|(simp only [znl,jO,nls_mapB,nls_datK];(first|done|fail)))|refine jC ?_ (by first|rfl|assumption|(simp only [znl,jO,nls_mapB,nls_datK];(first|done|fail)))))))
    all_goals (first | rfl | trace_state)
  have hfl := frontK_len l l.length k
  have hdl := datK_len l hk
  have hdn := nls_datK l k
  by_cases hlt : k < l.length
  · obtain ⟨x1, x2, x3⟩ := h2 _ (getD_mem' hlt)
    have hsn := frontK_snoc l l.length hlt
    have hds := datK_snoc l hlt
    have hQ : Spec Tryd.prog 45 [.int .u64 (l.getD k default).b, .int .i64 2] (.str (putLE (l.getD k default).b.toNat 2)) := by
      have := rnum_put_spec (l.getD k default).b.toNat (by omega) 2 (by omega)
      rw [Int.toNat_of_nonneg x1] at this
      exact this
    have hpl := putLE_len (l.getD k default).b.toNat 2
    repeat' (first|(with_reducible first|refine yrl (by constructor) ?_|refine jk (fun M hM=>?_)|(refine hM _ ?_;clear hM M)|refine xb3 (by decide) ?_|refine yqa (by assumption) ?_ ?_|refine yqb (by assumption) ?_ ?_)|((with_reducible refine je ?_)<;>(first|rfl|assumption|(simp only [znl,jO,nls_mapB,nls_datK];(first|done|fail))))|(with_reducible refine jf (by (simp only [↓reduceIte,zlk,Nat.reduceEqDiff,reduceCtorEq]);exact rfl) ?_)|((with_reducible first|refine jg (fun hc=>?_) (fun hc=>?_)|refine jh (fun hc=>?_) (fun hc=>?_))<;>(try simp (disch:=omega) only [zhb] at hc)<;>(try (exfalso;omega))<;>(try subst hc))|(with_reducible refine ji (by omega) ?_)|(simp (config := { maxSteps := 400000 }) only [↓jt,↓reduceIte,zvs,reduceCtorEq,Nat.reduceEqDiff,Nat.reduceAdd,Nat.reduceLeDiff,Nat.reduceMul,Int.reduceBNe,Int.reduceBEq,Int.reduceEq,Int.reduceNe,Int.reduceLT,Int.reduceLE,Int.reduceGT,Int.reduceGE,Int.reduceNeg,Int.reduceToNat,Nat.reduceLT,Nat.reduceSub,tab,encWr,hsn.symm,hds,hdl,Tryd.results21,List.toList_toArray])|(simp (disch:=omega) only [ziw]))
    all_goals first
      | (exfalso; omega)
      | (refine xl1 (k + 1) ?_ (by show k + 1 ≤ l.length; omega) (by show l.length - (k + 1) < l.length - k; omega); (refine yrn [(0, 2)] false ?_ ?_<;>(repeat' (first|(with_reducible first|exact ya1|exact ya2|exact ya3|refine jx rfl (by first|rfl|assumption|(simp only [znl,jO,nls_mapB,nls_datK];(first|done|fail)))|exact ya5|exact ya7|exact jy|exact jz|refine jA ?_|refine ya9 ?_ ?_ ?_|refine jC rfl (by first|rfl|assumption|(simp only [znl,jO,nls_mapB,nls_datK];(first|done|fail)))|refine MR.agg (MRL.cons ?_ ?_)|refine MR.fn ?_|refine MRL.cons ?_ ?_|exact MRL.nil|refine jE ?_ ?_|exact jF|exact jG|refine yb1 ?_ ?_|refine MB.row ?_|refine jI ?_ ?_|exact ya8|refine jJ rfl (by first|rfl|assumption|(simp only [znl,jO,nls_mapB,nls_datK];(first|done|fail)))|refine yb2 ?_|rfl)|(simp only [znl,jO,nls_mapB,nls_datK];(first|done|fail))|(simp only [↓reduceIte,zlk,Nat.reduceEqDiff,reduceCtorEq])|(with_reducible first|refine jJ ?_ ?_|refine ya5 ?_|refine ju ?_|refine jv ?_|refine jw ?_|refine jx ?_ (by first|rfl|assumption|(simp only [znl,jO,nls_mapB,nls_datK];(first|done|fail)))|refine jC ?_ (by first|rfl|assumption|(simp only [znl,jO,nls_mapB,nls_datK];(first|done|fail))))))); all_goals (first | rfl | trace_state); done)
      | trace_state
  obtain rfl : k = l.length := by omega
  rw [frontK_all] at hfl ⊢
  have hff := frontF_len l
  have hZ : Spec Tryd.prog 26 [.int .i64 (70 - ((frontF l).length : Int))] (.str (List.replicate (70 - (frontF l).length) 0)) := by
    have := rzeros16_spec (70 - (frontF l).length) (by omega)
    rw [show ((70 - (frontF l).length : Nat) : Int) = 70 - ((frontF l).length : Int) from by omega] at this
    exact this
  have hfst : frontF l ++ List.replicate (70 - (frontF l).length) 0 = firstF l := rfl
  have hfl2 := firstF_len h1
  repeat' (first|(with_reducible first|refine yrl (by constructor) ?_|refine jk (fun M hM=>?_)|(refine hM _ ?_;clear hM M)|refine xb3 (by decide) ?_|refine yqa (by assumption) ?_ ?_|refine yqb (by assumption) ?_ ?_)|((with_reducible refine je ?_)<;>(first|rfl|assumption|(simp only [znl,jO,nls_mapB,nls_datK];(first|done|fail))))|(with_reducible refine jf (by (simp only [↓reduceIte,zlk,Nat.reduceEqDiff,reduceCtorEq]);exact rfl) ?_)|((with_reducible first|refine jg (fun hc=>?_) (fun hc=>?_)|refine jh (fun hc=>?_) (fun hc=>?_))<;>(try simp (disch:=omega) only [zhb] at hc)<;>(try (exfalso;omega))<;>(try subst hc))|(with_reducible refine ji (by omega) ?_)|(simp (config := { maxSteps := 400000 }) only [↓jt,↓reduceIte,zvs,reduceCtorEq,Nat.reduceEqDiff,Nat.reduceAdd,Nat.reduceLeDiff,Nat.reduceMul,Int.reduceBNe,Int.reduceBEq,Int.reduceEq,Int.reduceNe,Int.reduceLT,Int.reduceLE,Int.reduceGT,Int.reduceGE,Int.reduceNeg,Int.reduceToNat,Nat.reduceLT,Nat.reduceSub,tab,hfst,hdl,Tryd.results21,List.toList_toArray])|(simp (disch:=omega) only [ziw]))
  have hfd : (firstF l :: l.map Wr.d).flatten.length ≤ 70 + 32 * 128 := by
    have k2 : ∀ l : List Wr, (∀ w ∈ l, w.d.length = 128) → (l.map Wr.d).flatten.length = l.length * 128 := by
      intro l hl
      induction l with
      | nil => rfl
      | cons x l ih =>
        rw [List.map_cons, List.flatten_cons, List.length_append, ih fun w hw => hl w (by simp [hw]), hl x (by simp), List.length_cons]; omega
    rw [List.flatten_cons, List.length_append, k2 l fun w hw => (h2 w hw).2.2, hfl2]; omega
  have hS := rsum_spec (firstF l :: l.map Wr.d) (by simp only [List.length_cons,List.length_map]; omega) (by omega)
  have hLe : (firstF l :: l.map Wr.d).map VV.str = [VV.str (firstF l)] ++ List.take l.length (List.drop 0 (datK l l.length)) := by
    rw [List.drop_zero, List.take_of_length_le (by rw [hdl]; exact Nat.le_refl _)]
    simp only [datK,List.take_length]; rfl
  obtain ⟨D, hD⟩ : ∃ D, D = sumF (firstF l :: l.map Wr.d).flatten := ⟨_, rfl⟩
  have hDl : D.length = 32 := by rw [hD]; exact sumF_len _
  rw [← hD] at hS
  have hS : Spec Tryd.prog 20 [.dat .cell ([VV.str (firstF l)] ++ List.take l.length (List.drop 0 (datK l l.length)))] (.agg (D.map encB)) := by rw [← hLe]; exact hS
  have hHD := has_w hDl
  have hnS : nls ([VV.str (firstF l)] ++ List.take l.length (List.drop 0 (datK l l.length))) = true := by rw [← hLe]; exact nls_map _ (fun _ => rfl) _
  refine ja (call_plain hS (rdl_cons (rd_own (by simp only [↓reduceIte,zlk,Nat.reduceEqDiff,reduceCtorEq]; exact rfl) (by simp only [List.length_append,List.length_take,List.length_drop,hdl,List.length_cons,List.length_nil]; omega) rfl hnS) rdl_nil) rfl (by simp only [pl]; exact pls_mapB _) ?_)
  repeat' (first|(with_reducible first|refine yrl (by constructor) ?_|refine jk (fun M hM=>?_)|(refine hM _ ?_;clear hM M)|refine xb3 (by decide) ?_|refine yqa (by assumption) ?_ ?_|refine yqb (by assumption) ?_ ?_)|((with_reducible refine je ?_)<;>(first|rfl|assumption|(simp only [znl,jO,nls_mapB,nls_datK];(first|done|fail))))|(with_reducible refine jf (by (simp only [↓reduceIte,zlk,Nat.reduceEqDiff,reduceCtorEq]);exact rfl) ?_)|((with_reducible first|refine jg (fun hc=>?_) (fun hc=>?_)|refine jh (fun hc=>?_) (fun hc=>?_))<;>(try simp (disch:=omega) only [zhb] at hc)<;>(try (exfalso;omega))<;>(try subst hc))|(with_reducible refine ji (by omega) ?_)|(simp (config := { maxSteps := 400000 }) only [↓jt,↓reduceIte,zvs,reduceCtorEq,Nat.reduceEqDiff,Nat.reduceAdd,Nat.reduceLeDiff,Nat.reduceMul,Int.reduceBNe,Int.reduceBEq,Int.reduceEq,Int.reduceNe,Int.reduceLT,Int.reduceLE,Int.reduceGT,Int.reduceGE,Int.reduceNeg,Int.reduceToNat,Nat.reduceLT,Nat.reduceSub,tab,hHD,hDl,Tryd.results21,List.toList_toArray])|(simp (disch:=omega) only [ziw]))
  have hbt : bytesOf (List.take 32 (D.map encB)) = some D := by rw [List.take_of_length_le (by rw [List.length_map, hDl]; exact Nat.le_refl _)]; exact bytesOf_enc D
  refine ok_drawC 5 (by kernel_rfl) (by decide +kernel) (by intro m hm; simp only [upd_ap,rows_cons,rows_nil]; (repeat (first | rfl | rw [if_neg (by omega)]))) (fun M hM => ?_); simp only [List.take_succ_cons,List.take_zero,List.drop_succ_cons,List.drop_zero]
  repeat' (first|(with_reducible first|refine yrl (by constructor) ?_|refine jk (fun M hM=>?_)|(refine hM _ ?_;clear hM M)|refine xb3 (by decide) ?_|refine yqa (by assumption) ?_ ?_|refine yqb (by assumption) ?_ ?_)|((with_reducible refine je ?_)<;>(first|rfl|assumption|(simp only [znl,jO,nls_mapB,nls_datK];(first|done|fail))))|(with_reducible refine jf (by (simp only [↓reduceIte,zlk,Nat.reduceEqDiff,reduceCtorEq]);exact rfl) ?_)|((with_reducible first|refine jg (fun hc=>?_) (fun hc=>?_)|refine jh (fun hc=>?_) (fun hc=>?_))<;>(try simp (disch:=omega) only [zhb] at hc)<;>(try (exfalso;omega))<;>(try subst hc))|(with_reducible refine ji (by omega) ?_)|(simp (config := { maxSteps := 400000 }) only [↓jt,↓reduceIte,zvs,reduceCtorEq,Nat.reduceEqDiff,Nat.reduceAdd,Nat.reduceLeDiff,Nat.reduceMul,Int.reduceBNe,Int.reduceBEq,Int.reduceEq,Int.reduceNe,Int.reduceLT,Int.reduceLE,Int.reduceGT,Int.reduceGE,Int.reduceNeg,Int.reduceToNat,Nat.reduceLT,Nat.reduceSub,tab,hbt,hfst,hHD,hDl,Tryd.results21,List.toList_toArray])|(simp (disch:=omega) only [ziw]))
  all_goals first
    | (exfalso; omega)
    | (simp only [zrds]; rw [hR, headF, hD, List.flatten_cons]; done)
    | trace_state
end Go.Proofs.YtcilmfhncjfdbaaDoor.V
end
section
/-
  Drive, part 2: may a drive be (the document's), are two the same.
-/
set_option linter.unusedVariables false
set_option linter.unusedSimpArgs false
namespace Go.Proofs.YtcilmfhncjfdbaaDoor.V
open Go
set_option maxRecDepth 100000
-- nlx: jO
set_option maxHeartbeats 1000000
theorem rcheck_spec (d : Dr) (hd : dfit d) : Spec Tryd.prog 59 [encDr d] (.int .i64 (checkD d)) := by
  obtain ⟨R, hR⟩ : ∃ R, R = checkD d := ⟨_, rfl⟩
  rw [← hR]
  obtain ⟨⟨hf1, hf2⟩, hf3, hf4⟩ := hd
  refine spec_ok Tryd.func59 rfl rfl (by kernel_rfl) (k := 1) rfl (by decide) ?_
  repeat' (first|(with_reducible first|refine yrl (by constructor) ?_|refine jk (fun M hM=>?_)|(refine hM _ ?_;clear hM M)|refine xb3 (by decide) ?_|refine yqa (by assumption) ?_ ?_|refine yqb (by assumption) ?_ ?_)|((with_reducible refine je ?_)<;>(first|rfl|assumption|(simp only [znl,jO];(first|done|fail))))|(with_reducible refine jf (by (simp only [↓reduceIte,zlk,Nat.reduceEqDiff,reduceCtorEq]);exact rfl) ?_)|((with_reducible first|refine jg (fun hc=>?_) (fun hc=>?_)|refine jh (fun hc=>?_) (fun hc=>?_))<;>(try simp (disch:=omega) only [zhb] at hc)<;>(try (exfalso;omega))<;>(try subst hc))|(with_reducible refine ji (by omega) ?_)|(simp (config := { maxSteps := 400000 }) only [↓jt,↓reduceIte,zvs,reduceCtorEq,Nat.reduceEqDiff,Nat.reduceAdd,Nat.reduceLeDiff,Nat.reduceMul,Int.reduceBNe,Int.reduceBEq,Int.reduceEq,Int.reduceNe,Int.reduceLT,Int.reduceLE,Int.reduceGT,Int.reduceGE,Int.reduceNeg,Int.reduceToNat,Nat.reduceLT,Nat.reduceSub,tab,encDr,Tryd.results59,List.toList_toArray])|(simp (disch:=omega) only [ziw]))
  · simp only [zrds]
    rw [hR, checkD, if_pos (by omega)]
  · refine ok_loop (fun k : Nat => ⟨slots [(1, .ptr 0 []), (2, .int .i64 0), (3, .int .i64 k)], rows [(0, .row (.st [.cell, .cell, .cell]) (encDr d))], 1⟩) (fun k => k ≤ d.bl.length ∧ ∀ j, j < k → decide ((d.bl.getD j default).length ≠ 128) = false) (fun k => d.bl.length - k) 0 ?_ ⟨Nat.zero_le _, fun j hj => by omega⟩ (fun k hk => ?_)
    · (refine yrn [(0, 0)] false ?_ ?_<;>(repeat' (first|(with_reducible first|exact ya1|exact ya2|exact ya3|refine jx rfl (by first|rfl|assumption|(simp only [znl,jO];(first|done|fail)))|exact ya5|exact ya7|exact jy|exact jz|refine jA ?_|refine ya9 ?_ ?_ ?_|refine jC rfl (by first|rfl|assumption|(simp only [znl,jO];(first|done|fail)))|refine MR.agg (MRL.cons ?_ ?_)|refine MR.fn ?_|refine MRL.cons ?_ ?_|exact MRL.nil|refine jE ?_ ?_|exact jF|exact jG|refine yb1 ?_ ?_|refine MB.row ?_|refine jI ?_ ?_|exact ya8|refine jJ rfl (by first|rfl|assumption|(simp only [znl,jO];(first|done|fail)))|refine yb2 ?_|rfl)|(simp only [znl,jO];(first|done|fail))|(simp only [↓reduceIte,zlk,Nat.reduceEqDiff,reduceCtorEq])|(with_reducible first|refine jJ ?_ ?_|refine ya5 ?_|refine ju ?_|refine jv ?_|refine jw ?_|refine jx ?_ (by first|rfl|assumption|(simp only [znl,jO];(first|done|fail)))|refine jC ?_ (by first|rfl|assumption|(simp only [znl,jO];(first|done|fail)))))))
    obtain ⟨hk, hn⟩ := hk
    by_cases hlt : k < d.bl.length
    · have hs := hf2 _ (getD_mem' hlt)
      rw [default_str] at hs
      repeat' (first|(with_reducible first|refine yrl (by constructor) ?_|refine jk (fun M hM=>?_)|(refine hM _ ?_;clear hM M)|refine xb3 (by decide) ?_|refine yqa (by assumption) ?_ ?_|refine yqb (by assumption) ?_ ?_)|((with_reducible refine je ?_)<;>(first|rfl|assumption|(simp only [znl,jO];(first|done|fail))))|(with_reducible refine jf (by (simp only [↓reduceIte,zlk,Nat.reduceEqDiff,reduceCtorEq]);exact rfl) ?_)|((with_reducible first|refine jg (fun hc=>?_) (fun hc=>?_)|refine jh (fun hc=>?_) (fun hc=>?_))<;>(try simp (disch:=omega) only [zhb] at hc)<;>(try (exfalso;omega))<;>(try subst hc))|(with_reducible refine ji (by omega) ?_)|(simp (config := { maxSteps := 400000 }) only [↓jt,↓reduceIte,zvs,reduceCtorEq,Nat.reduceEqDiff,Nat.reduceAdd,Nat.reduceLeDiff,Nat.reduceMul,Int.reduceBNe,Int.reduceBEq,Int.reduceEq,Int.reduceNe,Int.reduceLT,Int.reduceLE,Int.reduceGT,Int.reduceGE,Int.reduceNeg,Int.reduceToNat,Nat.reduceLT,Nat.reduceSub,tab,encDr,Tryd.results59,List.toList_toArray])|(simp (disch:=omega) only [ziw]))
      · simp only [zrds]
        rw [hR, checkD, if_neg (by omega), if_pos (any_of d.bl _ k hlt (by rw [default_str]; exact decide_eq_true (by omega)))]
      · refine xl1 (k + 1) ?_ ⟨by omega, fun j hj => ?_⟩ (by show d.bl.length - (k + 1) < d.bl.length - k; omega)
        · (refine yrn [(0, 0)] false ?_ ?_<;>(repeat' (first|(with_reducible first|exact ya1|exact ya2|exact ya3|refine jx rfl (by first|rfl|assumption|(simp only [znl,jO];(first|done|fail)))|exact ya5|exact ya7|exact jy|exact jz|refine jA ?_|refine ya9 ?_ ?_ ?_|refine jC rfl (by first|rfl|assumption|(simp only [znl,jO];(first|done|fail)))|refine MR.agg (MRL.cons ?_ ?_)|refine MR.fn ?_|refine MRL.cons ?_ ?_|exact MRL.nil|refine jE ?_ ?_|exact jF|exact jG|refine yb1 ?_ ?_|refine MB.row ?_|refine jI ?_ ?_|exact ya8|refine jJ rfl (by first|rfl|assumption|(simp only [znl,jO];(first|done|fail)))|refine yb2 ?_|rfl)|(simp only [znl,jO];(first|done|fail))|(simp only [↓reduceIte,zlk,Nat.reduceEqDiff,reduceCtorEq])|(with_reducible first|refine jJ ?_ ?_|refine ya5 ?_|refine ju ?_|refine jv ?_|refine jw ?_|refine jx ?_ (by first|rfl|assumption|(simp only [znl,jO];(first|done|fail)))|refine jC ?_ (by first|rfl|assumption|(simp only [znl,jO];(first|done|fail)))))))
        · by_cases e : j = k
          · subst e
            (try rw [default_str]); exact decide_eq_false (by omega)
          · exact hn j (by omega)
    · obtain rfl : k = d.bl.length := by omega
      have hA := any_none d.bl (fun s => decide (s.length ≠ 128)) hn
      rw [checkD, if_neg (by omega), if_neg (by rw [hA]; simp)] at hR
      repeat' (first|(with_reducible first|refine yrl (by constructor) ?_|refine jk (fun M hM=>?_)|(refine hM _ ?_;clear hM M)|refine xb3 (by decide) ?_|refine yqa (by assumption) ?_ ?_|refine yqb (by assumption) ?_ ?_)|((with_reducible refine je ?_)<;>(first|rfl|assumption|(simp only [znl,jO];(first|done|fail))))|(with_reducible refine jf (by (simp only [↓reduceIte,zlk,Nat.reduceEqDiff,reduceCtorEq]);exact rfl) ?_)|((with_reducible first|refine jg (fun hc=>?_) (fun hc=>?_)|refine jh (fun hc=>?_) (fun hc=>?_))<;>(try simp (disch:=omega) only [zhb] at hc)<;>(try (exfalso;omega))<;>(try subst hc))|(with_reducible refine ji (by omega) ?_)|(simp (config := { maxSteps := 400000 }) only [↓jt,↓reduceIte,zvs,reduceCtorEq,Nat.reduceEqDiff,Nat.reduceAdd,Nat.reduceLeDiff,Nat.reduceMul,Int.reduceBNe,Int.reduceBEq,Int.reduceEq,Int.reduceNe,Int.reduceLT,Int.reduceLE,Int.reduceGT,Int.reduceGE,Int.reduceNeg,Int.reduceToNat,Nat.reduceLT,Nat.reduceSub,tab,encDr,Tryd.results59,List.toList_toArray])|(simp (disch:=omega) only [ziw]))
      refine ok_loop (fun k : Nat => ⟨slots [(1, .ptr 0 []), (2, .int .i64 0), (4, .int .i64 k)], rows [(0, .row (.st [.cell, .cell, .cell]) (encDr d))], 1⟩) (fun k => k ≤ d.pe.length ∧ R = checkW d.bl.length (d.pe.drop k)) (fun k => d.pe.length - k) 0 ?_ ⟨Nat.zero_le _, hR⟩ (fun k hk => ?_)
      · (refine yrn [(0, 0)] false ?_ ?_<;>(repeat' (first|(with_reducible first|exact ya1|exact ya2|exact ya3|refine jx rfl (by first|rfl|assumption|(simp only [znl,jO];(first|done|fail)))|exact ya5|exact ya7|exact jy|exact jz|refine jA ?_|refine ya9 ?_ ?_ ?_|refine jC rfl (by first|rfl|assumption|(simp only [znl,jO];(first|done|fail)))|refine MR.agg (MRL.cons ?_ ?_)|refine MR.fn ?_|refine MRL.cons ?_ ?_|exact MRL.nil|refine jE ?_ ?_|exact jF|exact jG|refine yb1 ?_ ?_|refine MB.row ?_|refine jI ?_ ?_|exact ya8|refine jJ rfl (by first|rfl|assumption|(simp only [znl,jO];(first|done|fail)))|refine yb2 ?_|rfl)|(simp only [znl,jO];(first|done|fail))|(simp only [↓reduceIte,zlk,Nat.reduceEqDiff,reduceCtorEq])|(with_reducible first|refine jJ ?_ ?_|refine ya5 ?_|refine ju ?_|refine jv ?_|refine jw ?_|refine jx ?_ (by first|rfl|assumption|(simp only [znl,jO];(first|done|fail)))|refine jC ?_ (by first|rfl|assumption|(simp only [znl,jO];(first|done|fail)))))))
      obtain ⟨hk, hm⟩ := hk
      by_cases hlt : k < d.pe.length
      · have hs := hf4 _ (getD_mem' hlt)
        rw [drop_getD' d.pe k hlt, checkW] at hm
        repeat' (first|(with_reducible first|refine yrl (by constructor) ?_|refine jk (fun M hM=>?_)|(refine hM _ ?_;clear hM M)|refine xb3 (by decide) ?_|refine yqa (by assumption) ?_ ?_|refine yqb (by assumption) ?_ ?_)|((with_reducible refine je ?_)<;>(first|rfl|assumption|(simp only [znl,jO];(first|done|fail))))|(with_reducible refine jf (by (simp only [↓reduceIte,zlk,Nat.reduceEqDiff,reduceCtorEq]);exact rfl) ?_)|((with_reducible first|refine jg (fun hc=>?_) (fun hc=>?_)|refine jh (fun hc=>?_) (fun hc=>?_))<;>(try simp (disch:=omega) only [zhb] at hc)<;>(try (exfalso;omega))<;>(try subst hc))|(with_reducible refine ji (by omega) ?_)|(simp (config := { maxSteps := 400000 }) only [↓jt,↓reduceIte,zvs,reduceCtorEq,Nat.reduceEqDiff,Nat.reduceAdd,Nat.reduceLeDiff,Nat.reduceMul,Int.reduceBNe,Int.reduceBEq,Int.reduceEq,Int.reduceNe,Int.reduceLT,Int.reduceLE,Int.reduceGT,Int.reduceGE,Int.reduceNeg,Int.reduceToNat,Nat.reduceLT,Nat.reduceSub,tab,encDr,encWr,Tryd.results59,List.toList_toArray])|(simp (disch:=omega) only [ziw]))
        refine ok_draw 19 (by kernel_rfl) (by decide +kernel) (by intro m hm; simp only [upd_ap,rows_cons,rows_nil]; (repeat (first | rfl | rw [if_neg (by omega)]))) (fun M hM => ?_); simp only [List.take_succ_cons,List.take_zero,List.drop_succ_cons,List.drop_zero]
        repeat' (first|(with_reducible first|refine yrl (by constructor) ?_|refine jk (fun M hM=>?_)|(refine hM _ ?_;clear hM M)|refine xb3 (by decide) ?_|refine yqa (by assumption) ?_ ?_|refine yqb (by assumption) ?_ ?_)|((with_reducible refine je ?_)<;>(first|rfl|assumption|(simp only [znl,jO];(first|done|fail))))|(with_reducible refine jf (by (simp only [↓reduceIte,zlk,Nat.reduceEqDiff,reduceCtorEq]);exact rfl) ?_)|((with_reducible first|refine jg (fun hc=>?_) (fun hc=>?_)|refine jh (fun hc=>?_) (fun hc=>?_))<;>(try simp (disch:=omega) only [zhb] at hc)<;>(try (exfalso;omega))<;>(try subst hc))|(with_reducible refine ji (by omega) ?_)|(simp (config := { maxSteps := 400000 }) only [↓jt,↓reduceIte,zvs,reduceCtorEq,Nat.reduceEqDiff,Nat.reduceAdd,Nat.reduceLeDiff,Nat.reduceMul,Int.reduceBNe,Int.reduceBEq,Int.reduceEq,Int.reduceNe,Int.reduceLT,Int.reduceLE,Int.reduceGT,Int.reduceGE,Int.reduceNeg,Int.reduceToNat,Nat.reduceLT,Nat.reduceSub,tab,encDr,encWr,Tryd.results59,List.toList_toArray])|(simp (disch:=omega) only [ziw]))
        · rw [if_pos (by omega)] at hm
          rw [hm]
          simp only [zrds]
        · rw [if_neg (by omega), if_pos (by omega)] at hm
          rw [hm]
          simp only [zrds]
        · rw [if_neg (by omega), if_neg (by omega)] at hm
          refine xl1 (k + 1) ?_ ⟨by omega, hm⟩ (by show d.pe.length - (k + 1) < d.pe.length - k; omega)
          (refine yrn [(0, 0)] false ?_ ?_<;>(repeat' (first|(with_reducible first|exact ya1|exact ya2|exact ya3|refine jx rfl (by first|rfl|assumption|(simp only [znl,jO];(first|done|fail)))|exact ya5|exact ya7|exact jy|exact jz|refine jA ?_|refine ya9 ?_ ?_ ?_|refine jC rfl (by first|rfl|assumption|(simp only [znl,jO];(first|done|fail)))|refine MR.agg (MRL.cons ?_ ?_)|refine MR.fn ?_|refine MRL.cons ?_ ?_|exact MRL.nil|refine jE ?_ ?_|exact jF|exact jG|refine yb1 ?_ ?_|refine MB.row ?_|refine jI ?_ ?_|exact ya8|refine jJ rfl (by first|rfl|assumption|(simp only [znl,jO];(first|done|fail)))|refine yb2 ?_|rfl)|(simp only [znl,jO];(first|done|fail))|(simp only [↓reduceIte,zlk,Nat.reduceEqDiff,reduceCtorEq])|(with_reducible first|refine jJ ?_ ?_|refine ya5 ?_|refine ju ?_|refine jv ?_|refine jw ?_|refine jx ?_ (by first|rfl|assumption|(simp only [znl,jO];(first|done|fail)))|refine jC ?_ (by first|rfl|assumption|(simp only [znl,jO];(first|done|fail)))))))
        · rw [if_pos (by omega)] at hm
          rw [hm]
          simp only [zrds]
      · obtain rfl : k = d.pe.length := by omega
        rw [List.drop_length, checkW] at hm
        repeat' (first|(with_reducible first|refine yrl (by constructor) ?_|refine jk (fun M hM=>?_)|(refine hM _ ?_;clear hM M)|refine xb3 (by decide) ?_|refine yqa (by assumption) ?_ ?_|refine yqb (by assumption) ?_ ?_)|((with_reducible refine je ?_)<;>(first|rfl|assumption|(simp only [znl,jO];(first|done|fail))))|(with_reducible refine jf (by (simp only [↓reduceIte,zlk,Nat.reduceEqDiff,reduceCtorEq]);exact rfl) ?_)|((with_reducible first|refine jg (fun hc=>?_) (fun hc=>?_)|refine jh (fun hc=>?_) (fun hc=>?_))<;>(try simp (disch:=omega) only [zhb] at hc)<;>(try (exfalso;omega))<;>(try subst hc))|(with_reducible refine ji (by omega) ?_)|(simp (config := { maxSteps := 400000 }) only [↓jt,↓reduceIte,zvs,reduceCtorEq,Nat.reduceEqDiff,Nat.reduceAdd,Nat.reduceLeDiff,Nat.reduceMul,Int.reduceBNe,Int.reduceBEq,Int.reduceEq,Int.reduceNe,Int.reduceLT,Int.reduceLE,Int.reduceGT,Int.reduceGE,Int.reduceNeg,Int.reduceToNat,Nat.reduceLT,Nat.reduceSub,tab,encDr,Tryd.results59,List.toList_toArray])|(simp (disch:=omega) only [ziw]))
        simp only [zrds]
        rw [hm]
theorem wr_ext {a b : Wr} (h1 : a.b = b.b) (h2 : a.d = b.d) : a = b := by cases a; cases b; simp_all
theorem fit_wr (x : Int) (s : List UInt8) : Fit (EQ.st [EQ.int .i64, EQ.str]) (.agg [.int .i64 x, .str s]) := by simp [Fit, FitL]
theorem veq_wr (x y : Int) (s t : List UInt8) : veq (.agg [.int .i64 x, .str s]) (.agg [.int .i64 y, .str t]) = decide (x = y ∧ s = t) := by
  simp only [veq,veqs]
  by_cases h1 : x = y <;> by_cases h2 : s = t <;> simp [h1, h2]
end Go.Proofs.YtcilmfhncjfdbaaDoor.V
end
section
/-
  WAL: may a drive have a journal, may writes be; a drive copied.
-/
set_option linter.unusedVariables false
set_option linter.unusedSimpArgs false
namespace Go.Proofs.YtcilmfhncjfdbaaDoor.V
open Go
set_option maxRecDepth 100000
-- nlx: jO, nls_mapB, nls_bools
set_option maxHeartbeats 4000000
theorem nls_bools (l : List Bool) : nls (l.map .bool) = true := nls_map _ (fun _ => rfl) l
def badD (d : Dr) : Int := if checkD d ≠ 0 then checkD d else if d.bl.length ≤ 33 then 2 else 0
theorem pbad_spec (d : Dr) (hd : dfit d) : Spec Tryd.prog 27 [encDr d] (.int .i64 (badD d)) := by
  have hC := check_spec d hd
  obtain ⟨⟨hf1, hf2⟩, hf3, hf4⟩ := hd
  unfold badD
  by_cases h0 : checkD d = 0
  · rw [h0] at hC ⊢
    rw [if_neg (by decide)]
    refine spec_ok Tryd.func27 rfl rfl (by kernel_rfl) (k := 1) rfl (by decide) ?_
    repeat' (first|(with_reducible first|refine yrl (by constructor) ?_|refine jk (fun M hM=>?_)|(refine hM _ ?_;clear hM M)|refine xb3 (by decide) ?_|refine yqa (by assumption) ?_ ?_|refine yqb (by assumption) ?_ ?_)|((with_reducible refine je ?_)<;>(first|rfl|assumption|(simp only [znl,jO,nls_mapB,nls_bools];(first|done|fail))))|(with_reducible refine jf (by (simp only [↓reduceIte,zlk,Nat.reduceEqDiff,reduceCtorEq]);exact rfl) ?_)|((with_reducible first|refine jg (fun hc=>?_) (fun hc=>?_)|refine jh (fun hc=>?_) (fun hc=>?_))<;>(try simp (disch:=omega) only [zhb] at hc)<;>(try (exfalso;omega))<;>(try subst hc))|(with_reducible refine ji (by omega) ?_)|(simp (config := { maxSteps := 400000 }) only [↓jt,↓reduceIte,zvs,reduceCtorEq,Nat.reduceEqDiff,Nat.reduceAdd,Nat.reduceLeDiff,Nat.reduceMul,Int.reduceBNe,Int.reduceBEq,Int.reduceEq,Int.reduceNe,Int.reduceLT,Int.reduceLE,Int.reduceGT,Int.reduceGE,Int.reduceNeg,Int.reduceToNat,Nat.reduceLT,Nat.reduceSub,tab,encDr,Tryd.results27,List.toList_toArray])|(simp (disch:=omega) only [ziw]))
    · rw [if_pos (by omega)]; simp only [zrds]
    · rw [if_neg (by omega)]; simp only [zrds]
  · rw [if_pos h0]
    refine spec_ok Tryd.func27 rfl rfl (by kernel_rfl) (k := 1) rfl (by decide) ?_
    repeat' (first|(with_reducible first|refine yrl (by constructor) ?_|refine jk (fun M hM=>?_)|(refine hM _ ?_;clear hM M)|refine xb3 (by decide) ?_|refine yqa (by assumption) ?_ ?_|refine yqb (by assumption) ?_ ?_)|((with_reducible refine je ?_)<;>(first|rfl|assumption|(simp only [znl,jO,nls_mapB,nls_bools];(first|done|fail))))|(with_reducible refine jf (by (simp only [↓reduceIte,zlk,Nat.reduceEqDiff,reduceCtorEq]);exact rfl) ?_)|((with_reducible first|refine jg (fun hc=>?_) (fun hc=>?_)|refine jh (fun hc=>?_) (fun hc=>?_))<;>(try simp (disch:=omega) only [zhb] at hc)<;>(try (exfalso;omega))<;>(try subst hc))|(with_reducible refine ji (by omega) ?_)|(simp (config := { maxSteps := 400000 }) only [↓jt,↓reduceIte,zvs,reduceCtorEq,Nat.reduceEqDiff,Nat.reduceAdd,Nat.reduceLeDiff,Nat.reduceMul,Int.reduceBNe,Int.reduceBEq,Int.reduceEq,Int.reduceNe,Int.reduceLT,Int.reduceLE,Int.reduceGT,Int.reduceGE,Int.reduceNeg,Int.reduceToNat,Nat.reduceLT,Nat.reduceSub,tab,encDr,Tryd.results27,List.toList_toArray])|(simp (disch:=omega) only [ziw]))
    all_goals first
      | (exfalso; omega)
      | (simp only [zrds]; done)
      | trace_state
theorem rbad_spec (d : Dr) (hd : dfit d) : Spec Tryd.prog 35 [encDr d] (.int .i64 (badD d)) := by
  have hC := rcheck_spec d hd
  obtain ⟨⟨hf1, hf2⟩, hf3, hf4⟩ := hd
  unfold badD
  by_cases h0 : checkD d = 0
  · rw [h0] at hC ⊢
    rw [if_neg (by decide)]
    refine spec_ok Tryd.func35 rfl rfl (by kernel_rfl) (k := 1) rfl (by decide) ?_
    repeat' (first|(with_reducible first|refine yrl (by constructor) ?_|refine jk (fun M hM=>?_)|(refine hM _ ?_;clear hM M)|refine xb3 (by decide) ?_|refine yqa (by assumption) ?_ ?_|refine yqb (by assumption) ?_ ?_)|((with_reducible refine je ?_)<;>(first|rfl|assumption|(simp only [znl,jO,nls_mapB,nls_bools];(first|done|fail))))|(with_reducible refine jf (by (simp only [↓reduceIte,zlk,Nat.reduceEqDiff,reduceCtorEq]);exact rfl) ?_)|((with_reducible first|refine jg (fun hc=>?_) (fun hc=>?_)|refine jh (fun hc=>?_) (fun hc=>?_))<;>(try simp (disch:=omega) only [zhb] at hc)<;>(try (exfalso;omega))<;>(try subst hc))|(with_reducible refine ji (by omega) ?_)|(simp (config := { maxSteps := 400000 }) only [↓jt,↓reduceIte,zvs,reduceCtorEq,Nat.reduceEqDiff,Nat.reduceAdd,Nat.reduceLeDiff,Nat.reduceMul,Int.reduceBNe,Int.reduceBEq,Int.reduceEq,Int.reduceNe,Int.reduceLT,Int.reduceLE,Int.reduceGT,Int.reduceGE,Int.reduceNeg,Int.reduceToNat,Nat.reduceLT,Nat.reduceSub,tab,encDr,Tryd.results35,List.toList_toArray])|(simp (disch:=omega) only [ziw]))
    · rw [if_pos (by omega)]; simp only [zrds]
    · rw [if_neg (by omega)]; simp only [zrds]
  · rw [if_pos h0]
    refine spec_ok Tryd.func35 rfl rfl (by kernel_rfl) (k := 1) rfl (by decide) ?_
    repeat' (first|(with_reducible first|refine yrl (by constructor) ?_|refine jk (fun M hM=>?_)|(refine hM _ ?_;clear hM M)|refine xb3 (by decide) ?_|refine yqa (by assumption) ?_ ?_|refine yqb (by assumption) ?_ ?_)|((with_reducible refine je ?_)<;>(first|rfl|assumption|(simp only [znl,jO,nls_mapB,nls_bools];(first|done|fail))))|(with_reducible refine jf (by (simp only [↓reduceIte,zlk,Nat.reduceEqDiff,reduceCtorEq]);exact rfl) ?_)|((with_reducible first|refine jg (fun hc=>?_) (fun hc=>?_)|refine jh (fun hc=>?_) (fun hc=>?_))<;>(try simp (disch:=omega) only [zhb] at hc)<;>(try (exfalso;omega))<;>(try subst hc))|(with_reducible refine ji (by omega) ?_)|(simp (config := { maxSteps := 400000 }) only [↓jt,↓reduceIte,zvs,reduceCtorEq,Nat.reduceEqDiff,Nat.reduceAdd,Nat.reduceLeDiff,Nat.reduceMul,Int.reduceBNe,Int.reduceBEq,Int.reduceEq,Int.reduceNe,Int.reduceLT,Int.reduceLE,Int.reduceGT,Int.reduceGE,Int.reduceNeg,Int.reduceToNat,Nat.reduceLT,Nat.reduceSub,tab,encDr,Tryd.results35,List.toList_toArray])|(simp (disch:=omega) only [ziw]))
    all_goals first
      | (exfalso; omega)
      | (simp only [zrds]; done)
      | trace_state
theorem pcopied_spec (d : Dr) (hd : dfit d) : Spec Tryd.prog 28 [encDr d] (encDr d) := by
  obtain ⟨⟨hf1, hf2⟩, hf3, hf4⟩ := hd
  refine spec_ok Tryd.func28 rfl rfl (by kernel_rfl) (k := 1) rfl (by decide) ?_
  repeat' (first|(with_reducible first|refine yrl (by constructor) ?_|refine jk (fun M hM=>?_)|(refine hM _ ?_;clear hM M)|refine xb3 (by decide) ?_|refine yqa (by assumption) ?_ ?_|refine yqb (by assumption) ?_ ?_)|((with_reducible refine je ?_)<;>(first|rfl|assumption|(simp only [znl,jO,nls_mapB,nls_bools];(first|done|fail))))|(with_reducible refine jf (by (simp only [↓reduceIte,zlk,Nat.reduceEqDiff,reduceCtorEq]);exact rfl) ?_)|((with_reducible first|refine jg (fun hc=>?_) (fun hc=>?_)|refine jh (fun hc=>?_) (fun hc=>?_))<;>(try simp (disch:=omega) only [zhb] at hc)<;>(try (exfalso;omega))<;>(try subst hc))|(with_reducible refine ji (by omega) ?_)|(simp (config := { maxSteps := 400000 }) only [↓jt,↓reduceIte,zvs,reduceCtorEq,Nat.reduceEqDiff,Nat.reduceAdd,Nat.reduceLeDiff,Nat.reduceMul,Int.reduceBNe,Int.reduceBEq,Int.reduceEq,Int.reduceNe,Int.reduceLT,Int.reduceLE,Int.reduceGT,Int.reduceGE,Int.reduceNeg,Int.reduceToNat,Nat.reduceLT,Nat.reduceSub,tab,encDr,Tryd.results28,List.toList_toArray])|(simp (disch:=omega) only [ziw]))
  refine ok_drawC 9 (by kernel_rfl) (by decide +kernel) (by intro m hm; simp only [upd_ap,rows_cons,rows_nil]; (repeat (first | rfl | rw [if_neg (by omega)]))) (fun M hM => ?_); simp only [List.take_succ_cons,List.take_zero,List.drop_succ_cons,List.drop_zero]
  repeat' (first|(with_reducible first|refine yrl (by constructor) ?_|refine jk (fun M hM=>?_)|(refine hM _ ?_;clear hM M)|refine xb3 (by decide) ?_|refine yqa (by assumption) ?_ ?_|refine yqb (by assumption) ?_ ?_)|((with_reducible refine je ?_)<;>(first|rfl|assumption|(simp only [znl,jO,nls_mapB,nls_bools];(first|done|fail))))|(with_reducible refine jf (by (simp only [↓reduceIte,zlk,Nat.reduceEqDiff,reduceCtorEq]);exact rfl) ?_)|((with_reducible first|refine jg (fun hc=>?_) (fun hc=>?_)|refine jh (fun hc=>?_) (fun hc=>?_))<;>(try simp (disch:=omega) only [zhb] at hc)<;>(try (exfalso;omega))<;>(try subst hc))|(with_reducible refine ji (by omega) ?_)|(simp (config := { maxSteps := 400000 }) only [↓jt,↓reduceIte,zvs,reduceCtorEq,Nat.reduceEqDiff,Nat.reduceAdd,Nat.reduceLeDiff,Nat.reduceMul,Int.reduceBNe,Int.reduceBEq,Int.reduceEq,Int.reduceNe,Int.reduceLT,Int.reduceLE,Int.reduceGT,Int.reduceGE,Int.reduceNeg,Int.reduceToNat,Nat.reduceLT,Nat.reduceSub,tab,encDr,Tryd.results28,List.toList_toArray])|(simp (disch:=omega) only [ziw]))
  all_goals first
    | (((try simp only [encDr,encWrs,List.map_nil]); simp only [zrds]; (repeat' (first | exact rd_nil | exact Rd.refl _ _ (by first|rfl|assumption|(simp only [znl,jO,nls_mapB,nls_bools];(first|done|fail))) | (refine And.intro ?_ ?_) | (refine rd_own (by (simp only [↓reduceIte,zlk,Nat.reduceEqDiff,reduceCtorEq]); exact rfl) ?_ ?_ ?_) | rfl | assumption | (simp only [znl,jO,nls_mapB,nls_bools];(first|done|fail)) | (simp; done) | (simp; omega)))); done)
    | trace_state
def metB (l : List Wr) (b : Int) : Bool := l.any fun x => decide (x.b = b)
theorem metB_snoc (l : List Wr) (w : Wr) (b : Int) : metB (l ++ [w]) b = (metB l b || decide (w.b = b)) := by simp [metB]
def mayF (n : Int) (before : List Wr) : List Wr → Int
  | [] => 0
  | w :: l => if ¬(0 ≤ w.b ∧ w.b < n) then 2 else if w.d.length ≠ 128 then 3 else if metB before w.b = true then 8 else mayF n (before ++ [w]) l
def mayD (n : Int) (l : List Wr) : Int := if 32 < l.length then 6 else mayF n [] l
theorem take_snocW (l : List Wr) {k : Nat} (h : k < l.length) : l.take k ++ [l.getD k default] = l.take (k + 1) := by
  rw [List.take_succ_eq_append_getElem h, List.getD_eq_getElem?_getD, List.getElem?_eq_getElem h]; rfl
theorem mayF_step {n : Int} {l : List Wr} {k : Nat} (h : k < l.length) : mayF n (l.take k) (l.drop k) = if ¬(0 ≤ (l.getD k default).b ∧ (l.getD k default).b < n) then 2 else if (l.getD k default).d.length ≠ 128 then 3 else if metB (l.take k) (l.getD k default).b = true then 8 else mayF n (l.take (k + 1)) (l.drop (k + 1)) := by
  rw [drop_getD' l k h, mayF, take_snocW l h]
structure LFit (l : List Wr) : Prop where
  len : l.length < 2 ^ 36
  b : ∀ w ∈ l, -2 ^ 63 ≤ w.b ∧ w.b < 2 ^ 63
  d : ∀ w ∈ l, w.d.length ≤ 2 ^ 47
theorem metB_true {l : List Wr} {b : Int} {k : Nat} (h : k < l.length) (e : (l.getD k default).b = b) : metB l b = true := by
  rw [metB, List.any_eq_true]
  exact ⟨_, getD_mem' h, by simpa using e⟩
theorem metB_false {l : List Wr} {b : Int} (h : ∀ k, k < l.length → (l.getD k default).b ≠ b) : metB l b = false := by
  rw [metB, List.any_eq_false]
  intro x hx
  obtain ⟨k, hk, rfl⟩ := List.getElem_of_mem hx
  have := h k hk
  rw [List.getD_eq_getElem?_getD, List.getElem?_eq_getElem hk] at this
  simpa using this
theorem take_getD (l : List Wr) {i k : Nat} (h : i < k) : (l.take k).getD i default = l.getD i default := by
  rw [List.getD_eq_getElem?_getD, List.getD_eq_getElem?_getD, List.getElem?_take_of_lt h]
theorem rmay_spec (l : List Wr) (hl : LFit l) (n : Int) (hn : 0 ≤ n ∧ n < 2 ^ 40) : Spec Tryd.prog 36 [encWrs l, .int .i64 n] (.int .i64 (mayD n l)) := by
  obtain ⟨R, hR⟩ : ∃ R, R = mayD n l := ⟨_, rfl⟩
  rw [← hR]
  obtain ⟨h1, h2, h3⟩ := hl
  refine spec_ok Tryd.func36 rfl rfl (by kernel_rfl) (k := 2) rfl (by decide) ?_
  repeat' (first|(with_reducible first|refine yrl (by constructor) ?_|refine jk (fun M hM=>?_)|(refine hM _ ?_;clear hM M)|refine xb3 (by decide) ?_|refine yqa (by assumption) ?_ ?_|refine yqb (by assumption) ?_ ?_)|((with_reducible refine je ?_)<;>(first|rfl|assumption|(simp only [znl,jO,nls_mapB,nls_bools];(first|done|fail))))|(with_reducible refine jf (by (simp only [↓reduceIte,zlk,Nat.reduceEqDiff,reduceCtorEq]);exact rfl) ?_)|((with_reducible first|refine jg (fun hc=>?_) (fun hc=>?_)|refine jh (fun hc=>?_) (fun hc=>?_))<;>(try simp (disch:=omega) only [zhb] at hc)<;>(try (exfalso;omega))<;>(try subst hc))|(with_reducible refine ji (by omega) ?_)|(simp (config := { maxSteps := 400000 }) only [↓jt,↓reduceIte,zvs,reduceCtorEq,Nat.reduceEqDiff,Nat.reduceAdd,Nat.reduceLeDiff,Nat.reduceMul,Int.reduceBNe,Int.reduceBEq,Int.reduceEq,Int.reduceNe,Int.reduceLT,Int.reduceLE,Int.reduceGT,Int.reduceGE,Int.reduceNeg,Int.reduceToNat,Nat.reduceLT,Nat.reduceSub,tab,Tryd.results36,List.toList_toArray])|(simp (disch:=omega) only [ziw]))
  · simp only [zrds]
    rw [hR, mayD, if_pos (by omega)]
  rw [mayD, if_neg (by omega)] at hR
  refine ok_loop (fun k : Nat => ⟨slots [(0, encWrs l), (1, .int .i64 n), (4, .int .i64 0), (11, .int .i64 l.length), (12, .int .i64 k)], rows [], 0⟩) (fun k => k ≤ l.length ∧ R = mayF n (l.take k) (l.drop k)) (fun k => l.length - k) 0 ?_ ⟨Nat.zero_le _, hR⟩ (fun k hk => ?_)
  · (refine yrn [] false ?_ ?_<;>(repeat' (first|(with_reducible first|exact ya1|exact ya2|exact ya3|refine jx rfl (by first|rfl|assumption|(simp only [znl,jO,nls_mapB,nls_bools];(first|done|fail)))|exact ya5|exact ya7|exact jy|exact jz|refine jA ?_|refine ya9 ?_ ?_ ?_|refine jC rfl (by first|rfl|assumption|(simp only [znl,jO,nls_mapB,nls_bools];(first|done|fail)))|refine MR.agg (MRL.cons ?_ ?_)|refine MR.fn ?_|refine MRL.cons ?_ ?_|exact MRL.nil|refine jE ?_ ?_|exact jF|exact jG|refine yb1 ?_ ?_|refine MB.row ?_|refine jI ?_ ?_|exact ya8|refine jJ rfl (by first|rfl|assumption|(simp only [znl,jO,nls_mapB,nls_bools];(first|done|fail)))|refine yb2 ?_|rfl)|(simp only [znl,jO,nls_mapB,nls_bools];(first|done|fail))|(simp only [↓reduceIte,zlk,Nat.reduceEqDiff,reduceCtorEq])|(with_reducible first|refine jJ ?_ ?_|refine ya5 ?_|refine ju ?_|refine jv ?_|refine jw ?_|refine jx ?_ (by first|rfl|assumption|(simp only [znl,jO,nls_mapB,nls_bools];(first|done|fail)))|refine jC ?_ (by first|rfl|assumption|(simp only [znl,jO,nls_mapB,nls_bools];(first|done|fail)))))))
    all_goals (first | rfl | trace_state)
  obtain ⟨hk, hm⟩ := hk
  by_cases hlt : k < l.length
  · obtain ⟨b1, b2⟩ := h2 _ (getD_mem' hlt)
    have hd := h3 _ (getD_mem' hlt)
    rw [mayF_step hlt] at hm
    repeat' (first|(with_reducible first|refine yrl (by constructor) ?_|refine jk (fun M hM=>?_)|(refine hM _ ?_;clear hM M)|refine xb3 (by decide) ?_|refine yqa (by assumption) ?_ ?_|refine yqb (by assumption) ?_ ?_)|((with_reducible refine je ?_)<;>(first|rfl|assumption|(simp only [znl,jO,nls_mapB,nls_bools];(first|done|fail))))|(with_reducible refine jf (by (simp only [↓reduceIte,zlk,Nat.reduceEqDiff,reduceCtorEq]);exact rfl) ?_)|((with_reducible first|refine jg (fun hc=>?_) (fun hc=>?_)|refine jh (fun hc=>?_) (fun hc=>?_))<;>(try simp (disch:=omega) only [zhb] at hc)<;>(try (exfalso;omega))<;>(try subst hc))|(with_reducible refine ji (by omega) ?_)|(simp (config := { maxSteps := 400000 }) only [↓jt,↓reduceIte,zvs,reduceCtorEq,Nat.reduceEqDiff,Nat.reduceAdd,Nat.reduceLeDiff,Nat.reduceMul,Int.reduceBNe,Int.reduceBEq,Int.reduceEq,Int.reduceNe,Int.reduceLT,Int.reduceLE,Int.reduceGT,Int.reduceGE,Int.reduceNeg,Int.reduceToNat,Nat.reduceLT,Nat.reduceSub,tab,encWr,Tryd.results36,List.toList_toArray])|(simp (disch:=omega) only [ziw]))
    all_goals first
      | (exfalso; omega)
      | (simp only [zrds]; rw [if_pos (by omega)] at hm; exact hm.symm)
      | (simp only [zrds]; rw [if_neg (by omega), if_pos (by omega)] at hm; exact hm.symm)
      | skip
    rw [if_neg (by omega), if_neg (by omega)] at hm
    refine ok_loop (fun i : Nat => ⟨slots [(0, encWrs l), (1, .int .i64 n), (4, .int .i64 0), (5, .int .i64 k), (6, .int .i64 i), (11, .int .i64 l.length), (12, .int .i64 k)], rows [], 0⟩) (fun i => i ≤ k ∧ ∀ j, j < i → (l.getD j default).b ≠ (l.getD k default).b) (fun i => k - i) 0 ?_ ⟨Nat.zero_le _, fun j hj => by omega⟩ (fun i hi => ?_)
    · (refine yrn [] false ?_ ?_<;>(repeat' (first|(with_reducible first|exact ya1|exact ya2|exact ya3|refine jx rfl (by first|rfl|assumption|(simp only [znl,jO,nls_mapB,nls_bools];(first|done|fail)))|exact ya5|exact ya7|exact jy|exact jz|refine jA ?_|refine ya9 ?_ ?_ ?_|refine jC rfl (by first|rfl|assumption|(simp only [znl,jO,nls_mapB,nls_bools];(first|done|fail)))|refine MR.agg (MRL.cons ?_ ?_)|refine MR.fn ?_|refine MRL.cons ?_ ?_|exact MRL.nil|refine jE ?_ ?_|exact jF|exact jG|refine yb1 ?_ ?_|refine MB.row ?_|refine jI ?_ ?_|exact ya8|refine jJ rfl (by first|rfl|assumption|(simp only [znl,jO,nls_mapB,nls_bools];(first|done|fail)))|refine yb2 ?_|rfl)|(simp only [znl,jO,nls_mapB,nls_bools];(first|done|fail))|(simp only [↓reduceIte,zlk,Nat.reduceEqDiff,reduceCtorEq])|(with_reducible first|refine jJ ?_ ?_|refine ya5 ?_|refine ju ?_|refine jv ?_|refine jw ?_|refine jx ?_ (by first|rfl|assumption|(simp only [znl,jO,nls_mapB,nls_bools];(first|done|fail)))|refine jC ?_ (by first|rfl|assumption|(simp only [znl,jO,nls_mapB,nls_bools];(first|done|fail)))))))
      all_goals (first | rfl | trace_state)
    obtain ⟨hi, hne⟩ := hi
    by_cases hik : i < k
    · repeat' (first|(with_reducible first|refine yrl (by constructor) ?_|refine jk (fun M hM=>?_)|(refine hM _ ?_;clear hM M)|refine xb3 (by decide) ?_|refine yqa (by assumption) ?_ ?_|refine yqb (by assumption) ?_ ?_)|((with_reducible refine je ?_)<;>(first|rfl|assumption|(simp only [znl,jO,nls_mapB,nls_bools];(first|done|fail))))|(with_reducible refine jf (by (simp only [↓reduceIte,zlk,Nat.reduceEqDiff,reduceCtorEq]);exact rfl) ?_)|((with_reducible first|refine jg (fun hc=>?_) (fun hc=>?_)|refine jh (fun hc=>?_) (fun hc=>?_))<;>(try simp (disch:=omega) only [zhb] at hc)<;>(try (exfalso;omega))<;>(try subst hc))|(with_reducible refine ji (by omega) ?_)|(simp (config := { maxSteps := 400000 }) only [↓jt,↓reduceIte,zvs,reduceCtorEq,Nat.reduceEqDiff,Nat.reduceAdd,Nat.reduceLeDiff,Nat.reduceMul,Int.reduceBNe,Int.reduceBEq,Int.reduceEq,Int.reduceNe,Int.reduceLT,Int.reduceLE,Int.reduceGT,Int.reduceGE,Int.reduceNeg,Int.reduceToNat,Nat.reduceLT,Nat.reduceSub,tab,encWr,Tryd.results36,List.toList_toArray])|(simp (disch:=omega) only [ziw]))
      refine ok_drawC 10 (by kernel_rfl) (by decide +kernel) (by intro m hm; simp only [upd_ap,rows_cons,rows_nil]; (repeat (first | rfl | rw [if_neg (by omega)]))) (fun M hM => ?_); simp only [List.take_succ_cons,List.take_zero,List.drop_succ_cons,List.drop_zero]
      repeat' (first|(with_reducible first|refine yrl (by constructor) ?_|refine jk (fun M hM=>?_)|(refine hM _ ?_;clear hM M)|refine xb3 (by decide) ?_|refine yqa (by assumption) ?_ ?_|refine yqb (by assumption) ?_ ?_)|((with_reducible refine je ?_)<;>(first|rfl|assumption|(simp only [znl,jO,nls_mapB,nls_bools];(first|done|fail))))|(with_reducible refine jf (by (simp only [↓reduceIte,zlk,Nat.reduceEqDiff,reduceCtorEq]);exact rfl) ?_)|((with_reducible first|refine jg (fun hc=>?_) (fun hc=>?_)|refine jh (fun hc=>?_) (fun hc=>?_))<;>(try simp (disch:=omega) only [zhb] at hc)<;>(try (exfalso;omega))<;>(try subst hc))|(with_reducible refine ji (by omega) ?_)|(simp (config := { maxSteps := 400000 }) only [↓jt,↓reduceIte,zvs,reduceCtorEq,Nat.reduceEqDiff,Nat.reduceAdd,Nat.reduceLeDiff,Nat.reduceMul,Int.reduceBNe,Int.reduceBEq,Int.reduceEq,Int.reduceNe,Int.reduceLT,Int.reduceLE,Int.reduceGT,Int.reduceGE,Int.reduceNeg,Int.reduceToNat,Nat.reduceLT,Nat.reduceSub,tab,encWr,Tryd.results36,List.toList_toArray])|(simp (disch:=omega) only [ziw]))
      · have hmt : metB (l.take k) (l.getD k default).b = true := metB_true (k := i) (by rw [List.length_take]; omega) (by rw [take_getD l hik]; exact hc)
        rw [if_pos hmt] at hm
        simp only [zrds]
        exact hm.symm
      · rename_i hcc
        refine xl1 (i + 1) ?_ ⟨by omega, fun j hj => ?_⟩ (by show k - (i + 1) < k - i; omega)
        · (refine yrn [] false ?_ ?_<;>(repeat' (first|(with_reducible first|exact ya1|exact ya2|exact ya3|refine jx rfl (by first|rfl|assumption|(simp only [znl,jO,nls_mapB,nls_bools];(first|done|fail)))|exact ya5|exact ya7|exact jy|exact jz|refine jA ?_|refine ya9 ?_ ?_ ?_|refine jC rfl (by first|rfl|assumption|(simp only [znl,jO,nls_mapB,nls_bools];(first|done|fail)))|refine MR.agg (MRL.cons ?_ ?_)|refine MR.fn ?_|refine MRL.cons ?_ ?_|exact MRL.nil|refine jE ?_ ?_|exact jF|exact jG|refine yb1 ?_ ?_|refine MB.row ?_|refine jI ?_ ?_|exact ya8|refine jJ rfl (by first|rfl|assumption|(simp only [znl,jO,nls_mapB,nls_bools];(first|done|fail)))|refine yb2 ?_|rfl)|(simp only [znl,jO,nls_mapB,nls_bools];(first|done|fail))|(simp only [↓reduceIte,zlk,Nat.reduceEqDiff,reduceCtorEq])|(with_reducible first|refine jJ ?_ ?_|refine ya5 ?_|refine ju ?_|refine jv ?_|refine jw ?_|refine jx ?_ (by first|rfl|assumption|(simp only [znl,jO,nls_mapB,nls_bools];(first|done|fail)))|refine jC ?_ (by first|rfl|assumption|(simp only [znl,jO,nls_mapB,nls_bools];(first|done|fail)))))))
          all_goals (first | rfl | trace_state)
        · by_cases e : j = i
          · subst e; exact hc
          · exact hne j (by omega)
    obtain rfl : i = k := by omega
    have hmf : metB (l.take i) (l.getD i default).b = false := metB_false fun j hj => by
      rw [List.length_take] at hj
      rw [take_getD l (by omega)]
      exact hne j (by omega)
    rw [hmf, if_neg (by decide)] at hm
    repeat' (first|(with_reducible first|refine yrl (by constructor) ?_|refine jk (fun M hM=>?_)|(refine hM _ ?_;clear hM M)|refine xb3 (by decide) ?_|refine yqa (by assumption) ?_ ?_|refine yqb (by assumption) ?_ ?_)|((with_reducible refine je ?_)<;>(first|rfl|assumption|(simp only [znl,jO,nls_mapB,nls_bools];(first|done|fail))))|(with_reducible refine jf (by (simp only [↓reduceIte,zlk,Nat.reduceEqDiff,reduceCtorEq]);exact rfl) ?_)|((with_reducible first|refine jg (fun hc=>?_) (fun hc=>?_)|refine jh (fun hc=>?_) (fun hc=>?_))<;>(try simp (disch:=omega) only [zhb] at hc)<;>(try (exfalso;omega))<;>(try subst hc))|(with_reducible refine ji (by omega) ?_)|(simp (config := { maxSteps := 400000 }) only [↓jt,↓reduceIte,zvs,reduceCtorEq,Nat.reduceEqDiff,Nat.reduceAdd,Nat.reduceLeDiff,Nat.reduceMul,Int.reduceBNe,Int.reduceBEq,Int.reduceEq,Int.reduceNe,Int.reduceLT,Int.reduceLE,Int.reduceGT,Int.reduceGE,Int.reduceNeg,Int.reduceToNat,Nat.reduceLT,Nat.reduceSub,tab,Tryd.results36,List.toList_toArray])|(simp (disch:=omega) only [ziw]))
    all_goals first
      | (exfalso; omega)
      | (refine xl1 (i + 1) ?_ ⟨by omega, hm⟩ (by show l.length - (i + 1) < l.length - i; omega); (refine yrn [] false ?_ ?_<;>(repeat' (first|(with_reducible first|exact ya1|exact ya2|exact ya3|refine jx rfl (by first|rfl|assumption|(simp only [znl,jO,nls_mapB,nls_bools];(first|done|fail)))|exact ya5|exact ya7|exact jy|exact jz|refine jA ?_|refine ya9 ?_ ?_ ?_|refine jC rfl (by first|rfl|assumption|(simp only [znl,jO,nls_mapB,nls_bools];(first|done|fail)))|refine MR.agg (MRL.cons ?_ ?_)|refine MR.fn ?_|refine MRL.cons ?_ ?_|exact MRL.nil|refine jE ?_ ?_|exact jF|exact jG|refine yb1 ?_ ?_|refine MB.row ?_|refine jI ?_ ?_|exact ya8|refine jJ rfl (by first|rfl|assumption|(simp only [znl,jO,nls_mapB,nls_bools];(first|done|fail)))|refine yb2 ?_|rfl)|(simp only [znl,jO,nls_mapB,nls_bools];(first|done|fail))|(simp only [↓reduceIte,zlk,Nat.reduceEqDiff,reduceCtorEq])|(with_reducible first|refine jJ ?_ ?_|refine ya5 ?_|refine ju ?_|refine jv ?_|refine jw ?_|refine jx ?_ (by first|rfl|assumption|(simp only [znl,jO,nls_mapB,nls_bools];(first|done|fail)))|refine jC ?_ (by first|rfl|assumption|(simp only [znl,jO,nls_mapB,nls_bools];(first|done|fail))))))); all_goals (first | rfl | trace_state); done)
      | trace_state
  obtain rfl : k = l.length := by omega
  rw [List.drop_length, mayF] at hm
  repeat' (first|(with_reducible first|refine yrl (by constructor) ?_|refine jk (fun M hM=>?_)|(refine hM _ ?_;clear hM M)|refine xb3 (by decide) ?_|refine yqa (by assumption) ?_ ?_|refine yqb (by assumption) ?_ ?_)|((with_reducible refine je ?_)<;>(first|rfl|assumption|(simp only [znl,jO,nls_mapB,nls_bools];(first|done|fail))))|(with_reducible refine jf (by (simp only [↓reduceIte,zlk,Nat.reduceEqDiff,reduceCtorEq]);exact rfl) ?_)|((with_reducible first|refine jg (fun hc=>?_) (fun hc=>?_)|refine jh (fun hc=>?_) (fun hc=>?_))<;>(try simp (disch:=omega) only [zhb] at hc)<;>(try (exfalso;omega))<;>(try subst hc))|(with_reducible refine ji (by omega) ?_)|(simp (config := { maxSteps := 400000 }) only [↓jt,↓reduceIte,zvs,reduceCtorEq,Nat.reduceEqDiff,Nat.reduceAdd,Nat.reduceLeDiff,Nat.reduceMul,Int.reduceBNe,Int.reduceBEq,Int.reduceEq,Int.reduceNe,Int.reduceLT,Int.reduceLE,Int.reduceGT,Int.reduceGE,Int.reduceNeg,Int.reduceToNat,Nat.reduceLT,Nat.reduceSub,tab,Tryd.results36,List.toList_toArray])|(simp (disch:=omega) only [ziw]))
  all_goals first
    | (exfalso; omega)
    | (simp only [zrds]; exact hm.symm)
    | trace_state
def metL (n : Nat) (before : List Wr) : List Bool := (List.range n).map fun i : Nat => metB before i
theorem metL_len (n : Nat) (before : List Wr) : (metL n before).length = n := by simp [metL]
theorem metL_zero (n : Nat) : List.replicate n (VV.bool false) = (metL n []).map .bool := by
  refine (List.eq_replicate_iff.2 ⟨by simp [metL], fun b hb => ?_⟩).symm
  simp only [metL,List.map_map,List.mem_map] at hb
  obtain ⟨i, _, rfl⟩ := hb
  rfl
theorem metL_get {n : Nat} {before : List Wr} {b : Int} (h0 : 0 ≤ b) (h : b < n) : ((metL n before).map VV.bool)[b.toNat]? = some (.bool (metB before b)) := by
  have e : ((b.toNat : Nat) : Int) = b := Int.toNat_of_nonneg h0
  simp only [metL,List.map_map,List.getElem?_map,List.getElem?_range (show b.toNat < n by omega),Option.map_some,Function.comp,e]
theorem metL_set {n : Nat} {before : List Wr} {w : Wr} (h0 : 0 ≤ w.b) : ((metL n before).map VV.bool).set w.b.toNat (.bool true) = (metL n (before ++ [w])).map .bool := by
  rw [← List.map_set]
  congr 1
  refine List.ext_getElem (by simp [metL]) fun i h1 h2 => ?_
  rw [List.getElem_set]
  simp only [metL,List.getElem_map,List.getElem_range,metB_snoc]
  split
  · rename_i e
    rw [decide_eq_true (by omega), Bool.or_true]
  · rename_i e
    rw [decide_eq_false (by omega), Bool.or_false]
theorem pallowed_spec (l : List Wr) (hl : LFit l) (n : Nat) (hn : n < 2 ^ 36) : Spec Tryd.prog 29 [.int .i64 n, encWrs l] (.int .i64 (mayD n l)) := by
  obtain ⟨R, hR⟩ : ∃ R, R = mayD n l := ⟨_, rfl⟩
  rw [← hR]
  obtain ⟨h1, h2, h3⟩ := hl
  refine spec_ok Tryd.func29 rfl rfl (by kernel_rfl) (k := 2) rfl (by decide) ?_
  repeat' (first|(with_reducible first|refine yrl (by constructor) ?_|refine jk (fun M hM=>?_)|(refine hM _ ?_;clear hM M)|refine xb3 (by decide) ?_|refine yqa (by assumption) ?_ ?_|refine yqb (by assumption) ?_ ?_)|((with_reducible refine je ?_)<;>(first|rfl|assumption|(simp only [znl,jO,nls_mapB,nls_bools];(first|done|fail))))|(with_reducible refine jf (by (simp only [↓reduceIte,zlk,Nat.reduceEqDiff,reduceCtorEq]);exact rfl) ?_)|((with_reducible first|refine jg (fun hc=>?_) (fun hc=>?_)|refine jh (fun hc=>?_) (fun hc=>?_))<;>(try simp (disch:=omega) only [zhb] at hc)<;>(try (exfalso;omega))<;>(try subst hc))|(with_reducible refine ji (by omega) ?_)|(simp (config := { maxSteps := 400000 }) only [↓jt,↓reduceIte,zvs,reduceCtorEq,Nat.reduceEqDiff,Nat.reduceAdd,Nat.reduceLeDiff,Nat.reduceMul,Int.reduceBNe,Int.reduceBEq,Int.reduceEq,Int.reduceNe,Int.reduceLT,Int.reduceLE,Int.reduceGT,Int.reduceGE,Int.reduceNeg,Int.reduceToNat,Nat.reduceLT,Nat.reduceSub,tab,Tryd.results29,List.toList_toArray])|(simp (disch:=omega) only [ziw]))
  · simp only [zrds]
    rw [hR, mayD, if_pos (by omega)]
  rw [mayD, if_neg (by omega)] at hR
  refine ok_loop (fun k : Nat => ⟨slots [(0, .int .i64 n), (4, .int .i64 0), (5, .sl (some (0, [], 0)) n), (13, encWrs l), (14, .int .i64 l.length), (15, .int .i64 k)], rows [(0, .row (.arr n .cell) (.agg ((metL n (l.take k)).map .bool)))], 1⟩) (fun k => k ≤ l.length ∧ R = mayF n (l.take k) (l.drop k)) (fun k => l.length - k) 0 ?_ ⟨Nat.zero_le _, hR⟩ (fun k hk => ?_)
  · (refine yrn [(0, 0)] false ?_ ?_<;>(repeat' (first|(with_reducible first|exact ya1|exact ya2|exact ya3|refine jx rfl (by first|rfl|assumption|(simp only [znl,jO,nls_mapB,nls_bools];(first|done|fail)))|exact ya5|exact ya7|exact jy|exact jz|refine jA ?_|refine ya9 ?_ ?_ ?_|refine jC rfl (by first|rfl|assumption|(simp only [znl,jO,nls_mapB,nls_bools];(first|done|fail)))|refine MR.agg (MRL.cons ?_ ?_)|refine MR.fn ?_|refine MRL.cons ?_ ?_|exact MRL.nil|refine jE ?_ ?_|exact jF|exact jG|refine yb1 ?_ ?_|refine MB.row ?_|refine jI ?_ ?_|exact ya8|refine jJ rfl (by first|rfl|assumption|(simp only [znl,jO,nls_mapB,nls_bools];(first|done|fail)))|refine yb2 ?_|rfl)|(simp only [znl,jO,nls_mapB,nls_bools];(first|done|fail))|(simp only [↓reduceIte,zlk,Nat.reduceEqDiff,reduceCtorEq])|(with_reducible first|refine jJ ?_ ?_|refine ya5 ?_|refine ju ?_|refine jv ?_|refine jw ?_|refine jx ?_ (by first|rfl|assumption|(simp only [znl,jO,nls_mapB,nls_bools];(first|done|fail)))|refine jC ?_ (by first|rfl|assumption|(simp only [znl,jO,nls_mapB,nls_bools];(first|done|fail)))))))
    all_goals (first | rfl | exact metL_zero _ | trace_state)
  obtain ⟨hk, hm⟩ := hk
  have hml := metL_len n (l.take k)
  by_cases hlt : k < l.length
  · obtain ⟨b1, b2⟩ := h2 _ (getD_mem' hlt)
    have hd := h3 _ (getD_mem' hlt)
    rw [mayF_step hlt] at hm
    by_cases hin : 0 ≤ (l.getD k default).b ∧ (l.getD k default).b < (n : Int)
    · have hg := metL_get (before := l.take k) hin.1 hin.2
      have hs := metL_set (n := n) (before := l.take k) (w := l.getD k default) hin.1
      rw [take_snocW l hlt] at hs
      obtain ⟨c1, c2⟩ := hin
      repeat' (first|(with_reducible first|refine yrl (by constructor) ?_|refine jk (fun M hM=>?_)|(refine hM _ ?_;clear hM M)|refine xb3 (by decide) ?_|refine yqa (by assumption) ?_ ?_|refine yqb (by assumption) ?_ ?_)|((with_reducible refine je ?_)<;>(first|rfl|assumption|(simp only [znl,jO,nls_mapB,nls_bools];(first|done|fail))))|(with_reducible refine jf (by (simp only [↓reduceIte,zlk,Nat.reduceEqDiff,reduceCtorEq]);exact rfl) ?_)|((with_reducible first|refine jg (fun hc=>?_) (fun hc=>?_)|refine jh (fun hc=>?_) (fun hc=>?_))<;>(try simp (disch:=omega) only [zhb] at hc)<;>(try (exfalso;omega))<;>(try subst hc))|(with_reducible refine ji (by omega) ?_)|(simp (config := { maxSteps := 400000 }) only [↓jt,↓reduceIte,zvs,reduceCtorEq,Nat.reduceEqDiff,Nat.reduceAdd,Nat.reduceLeDiff,Nat.reduceMul,Int.reduceBNe,Int.reduceBEq,Int.reduceEq,Int.reduceNe,Int.reduceLT,Int.reduceLE,Int.reduceGT,Int.reduceGE,Int.reduceNeg,Int.reduceToNat,Nat.reduceLT,Nat.reduceSub,tab,encWr,hg,hs,Tryd.results29,List.toList_toArray])|(simp (disch:=omega) only [ziw]))
      all_goals first
        | (exfalso; omega)
        | (simp only [zrds]; rw [if_neg (by omega), if_pos (by omega)] at hm; exact hm.symm)
        | (simp only [zrds]; rw [if_neg (by omega), if_neg (by omega), if_pos (by assumption)] at hm; exact hm.symm)
        | (rw [if_neg (by omega), if_neg (by omega), if_neg (by simp_all)] at hm; refine xl1 (k + 1) ?_ ⟨by omega, hm⟩ (by show l.length - (k + 1) < l.length - k; omega); (refine yrn [(0, 0)] false ?_ ?_<;>(repeat' (first|(with_reducible first|exact ya1|exact ya2|exact ya3|refine jx rfl (by first|rfl|assumption|(simp only [znl,jO,nls_mapB,nls_bools];(first|done|fail)))|exact ya5|exact ya7|exact jy|exact jz|refine jA ?_|refine ya9 ?_ ?_ ?_|refine jC rfl (by first|rfl|assumption|(simp only [znl,jO,nls_mapB,nls_bools];(first|done|fail)))|refine MR.agg (MRL.cons ?_ ?_)|refine MR.fn ?_|refine MRL.cons ?_ ?_|exact MRL.nil|refine jE ?_ ?_|exact jF|exact jG|refine yb1 ?_ ?_|refine MB.row ?_|refine jI ?_ ?_|exact ya8|refine jJ rfl (by first|rfl|assumption|(simp only [znl,jO,nls_mapB,nls_bools];(first|done|fail)))|refine yb2 ?_|rfl)|(simp only [znl,jO,nls_mapB,nls_bools];(first|done|fail))|(simp only [↓reduceIte,zlk,Nat.reduceEqDiff,reduceCtorEq])|(with_reducible first|refine jJ ?_ ?_|refine ya5 ?_|refine ju ?_|refine jv ?_|refine jw ?_|refine jx ?_ (by first|rfl|assumption|(simp only [znl,jO,nls_mapB,nls_bools];(first|done|fail)))|refine jC ?_ (by first|rfl|assumption|(simp only [znl,jO,nls_mapB,nls_bools];(first|done|fail))))))); all_goals (first | rfl | trace_state); done)
        | trace_state
    · rw [if_pos (fun h => hin h)] at hm
      repeat' (first|(with_reducible first|refine yrl (by constructor) ?_|refine jk (fun M hM=>?_)|(refine hM _ ?_;clear hM M)|refine xb3 (by decide) ?_|refine yqa (by assumption) ?_ ?_|refine yqb (by assumption) ?_ ?_)|((with_reducible refine je ?_)<;>(first|rfl|assumption|(simp only [znl,jO,nls_mapB,nls_bools];(first|done|fail))))|(with_reducible refine jf (by (simp only [↓reduceIte,zlk,Nat.reduceEqDiff,reduceCtorEq]);exact rfl) ?_)|((with_reducible first|refine jg (fun hc=>?_) (fun hc=>?_)|refine jh (fun hc=>?_) (fun hc=>?_))<;>(try simp (disch:=omega) only [zhb] at hc)<;>(try (exfalso;omega))<;>(try subst hc))|(with_reducible refine ji (by omega) ?_)|(simp (config := { maxSteps := 400000 }) only [↓jt,↓reduceIte,zvs,reduceCtorEq,Nat.reduceEqDiff,Nat.reduceAdd,Nat.reduceLeDiff,Nat.reduceMul,Int.reduceBNe,Int.reduceBEq,Int.reduceEq,Int.reduceNe,Int.reduceLT,Int.reduceLE,Int.reduceGT,Int.reduceGE,Int.reduceNeg,Int.reduceToNat,Nat.reduceLT,Nat.reduceSub,tab,encWr,Tryd.results29,List.toList_toArray])|(simp (disch:=omega) only [ziw]))
      all_goals first
        | (exfalso; omega)
        | (simp only [zrds]; exact hm.symm)
        | trace_state
  obtain rfl : k = l.length := by omega
  rw [List.drop_length, mayF] at hm
  repeat' (first|(with_reducible first|refine yrl (by constructor) ?_|refine jk (fun M hM=>?_)|(refine hM _ ?_;clear hM M)|refine xb3 (by decide) ?_|refine yqa (by assumption) ?_ ?_|refine yqb (by assumption) ?_ ?_)|((with_reducible refine je ?_)<;>(first|rfl|assumption|(simp only [znl,jO,nls_mapB,nls_bools];(first|done|fail))))|(with_reducible refine jf (by (simp only [↓reduceIte,zlk,Nat.reduceEqDiff,reduceCtorEq]);exact rfl) ?_)|((with_reducible first|refine jg (fun hc=>?_) (fun hc=>?_)|refine jh (fun hc=>?_) (fun hc=>?_))<;>(try simp (disch:=omega) only [zhb] at hc)<;>(try (exfalso;omega))<;>(try subst hc))|(with_reducible refine ji (by omega) ?_)|(simp (config := { maxSteps := 400000 }) only [↓jt,↓reduceIte,zvs,reduceCtorEq,Nat.reduceEqDiff,Nat.reduceAdd,Nat.reduceLeDiff,Nat.reduceMul,Int.reduceBNe,Int.reduceBEq,Int.reduceEq,Int.reduceNe,Int.reduceLT,Int.reduceLE,Int.reduceGT,Int.reduceGE,Int.reduceNeg,Int.reduceToNat,Nat.reduceLT,Nat.reduceSub,tab,Tryd.results29,List.toList_toArray])|(simp (disch:=omega) only [ziw]))
  all_goals first
    | (exfalso; omega)
    | (simp only [zrds]; exact hm.symm)
    | trace_state
end Go.Proofs.YtcilmfhncjfdbaaDoor.V
end
section
/-
  A MACHINE OF VALUES: append onto an own slice that is read later, too: in place, or into a new row.
-/
set_option linter.unusedVariables false
set_option linter.unusedSectionVars false
set_option linter.unusedSimpArgs false
namespace Go.Proofs.YtcilmfhncjfdbaaDoor.V
open Go Go.RowKit

section
variable {P : Program} {N : NN} {B : Nat} {ρ0 ρ : Names} {w0 w : World} {a : Act} {S : VS}
end
section
variable {P : Program} {n0 : Nat} {S : VS} {K : VX → VS → Prop}
end
end Go.Proofs.YtcilmfhncjfdbaaDoor.V
end
section
/-
  A MACHINE OF VALUES: a region that draws its order, order by order; frames written anew ahead of each operation.
-/
set_option linter.unusedVariables false
set_option linter.unusedSectionVars false
set_option linter.unusedSimpArgs false
namespace Go.Proofs.YtcilmfhncjfdbaaDoor.V
open Go Go.RowKit
def vany (P : Program) (n0 : Nat) (l : List Oper) : Nat → Array Bool → VS → (VS → Prop) → Prop
  | 0, b, S, M => Region.ready .any l.toArray b = [] ∧ M S
  | f + 1, b, S, M => (Region.ready .any l.toArray b = [] → M S) ∧ ∀ i ∈ Region.ready .any l.toArray b, ∃ o, l[i]? = some o ∧ ∃ T, Ren n0 S T ∧ vl P l [o] T fun S' => vany P n0 l f (b.setIfInBounds i true) S' M
def vanyL (P : Program) (n0 : Nat) (l : List Oper) (f : Nat) (b : Array Bool) (S : VS) (M : VS → Prop) : List Nat → Prop
  | [] => True
  | i :: is => (∃ o, l[i]? = some o ∧ ∃ T, Ren n0 S T ∧ vl P l [o] T fun S' => vany P n0 l f (b.setIfInBounds i true) S' M) ∧ vanyL P n0 l f b S M is
section
variable {P : Program} {n0 : Nat} {l : List Oper} {f : Nat} {b : Array Bool} {S : VS} {M : VS → Prop}
theorem vanyL_mem : ∀ {is : List Nat}, vanyL P n0 l f b S M is → ∀ i ∈ is, ∃ o, l[i]? = some o ∧ ∃ T, Ren n0 S T ∧ vl P l [o] T fun S' => vany P n0 l f (b.setIfInBounds i true) S' M
  | j :: is, h, i, hi => by
    rcases List.mem_cons.1 hi with rfl | hi
    · exact h.1
    · exact vanyL_mem h.2 i hi
theorem any_step (ls : List Nat) (hr : Region.ready .any l.toArray b = ls) (hne : ls ≠ []) (h : vanyL P n0 l f b S M ls) : vany P n0 l (f + 1) b S M :=
  ⟨fun e => absurd (hr.symm.trans e) hne, fun i hi => by rw [hr] at hi; exact vanyL_mem h i hi⟩
theorem any_nil : vanyL P n0 l f b S M [] := trivial
theorem any_one {i : Nat} {is : List Nat} {o : Oper} (ho : l[i]? = some o) (T : VS) (hT : Ren n0 S T) (h : vl P l [o] T fun S' => vany P n0 l f (b.setIfInBounds i true) S' M) (hs : vanyL P n0 l f b S M is) : vanyL P n0 l f b S M (i :: is) := ⟨⟨o, ho, T, hT, h⟩, hs⟩
theorem any_same {i : Nat} {is : List Nat} {o : Oper} (ho : l[i]? = some o) (h : vl P l [o] S fun S' => vany P n0 l f (b.setIfInBounds i true) S' M) (hs : vanyL P n0 l f b S M is) : vanyL P n0 l f b S M (i :: is) := any_one ho S (Ren.refl _ _) h hs
theorem any_end (hr : Region.ready .any l.toArray b = []) (h : M S) : vany P n0 l f b S M := by
  cases f with
  | zero => exact ⟨hr, h⟩
  | succ f => exact ⟨fun _ => h, fun i hi => by rw [hr] at hi; cases hi⟩
theorem vany_sound {N : NN} {B : Nat} {ρ0 : Names} {w0 : World} {Q : Exit → Act → World → Prop} (h0 : ∀ m, n0 ≤ m → ρ0 m = none) (hd : ∀ o ∈ l, ∀ t, o.dst = some t → t < N) (next : ∀ S' a' w' ρ', M S' → SR N B ρ0 w0 S' a' w' ρ' → Q .normal a' w') :
    ∀ (f : Nat) (b : Array Bool) (S : VS) (a : Act) (w : World) (ρ : Names), vany P n0 l f b S M → SR N B ρ0 w0 S a w ρ → wpAny P .any l.toArray Q f b a w
  | 0, b, S, a, w, ρ, h, hS => ⟨h.1, next S a w ρ h.2 hS⟩
  | f + 1, b, S, a, w, ρ, h, hS => by
    refine ⟨fun e => next S a w ρ (h.1 e) hS, fun i hi => ?_⟩
    obtain ⟨o, ho, T, hT, hv⟩ := h.2 i hi
    obtain ⟨ρ1, hS1⟩ := hT N B ρ0 w0 a w ρ h0 hS
    have hoA : l.toArray[i]? = some o := by simpa using ho
    have hmem : o ∈ l := List.mem_of_getElem? ho
    rw [vl_def] at hv
    have hstep := vstep_sound (ops := l.toArray) (Nx := wpAny P .any l.toArray Q f (b.setIfInBounds i true)) (Q := Q) (hd o hmem) (show vstep P l.toArray.toList o T (fun S' => vany P n0 l f (b.setIfInBounds i true) S' M) from hv) hS1 fun S' a' w' ρ' hk hs => vany_sound h0 hd next f _ S' a' w' ρ' hk hs
    unfold wpOp
    rw [hoA]
    dsimp only
    split at hstep
    · rename_i hw; rw [if_pos hw]; exact .inl hstep
    · rename_i hw; rw [if_neg hw]; exact hstep
end
theorem SR.drew {N : NN} {B : Nat} {ρ0 : Names} {w0 : World} {S : VS} {a : Act} {w : World} {ρ : Names} (h : SR N B ρ0 w0 S a w ρ) : SR N B ρ0 w0 S a w.drew ρ :=
  ⟨h.tm.ext (ext_drew ρ w), h.defers, h.size, h.heap.drew, h.below.drew, h.ext.trans (ext_drew ρ w)⟩
theorem ok_any {P : Program} {n0 id : Nat} {l : List Oper} {S : VS} {K : VX → VS → Prop} (hm : P.follows .mixedOrders = true)
    (h : ∀ M : VS → Prop, (∀ S, K .normal S → M S) → vany P n0 l l.length (Array.replicate l.length false) S M) : Ok P n0 (.region id l.toArray true) S K := fun N B ρ0 w0 Q a w ρ h0 hok hS next => by
  simp only [codeOk,List.all_eq_true] at hok
  refine wp_region_any hm ?_
  rw [List.size_toArray]
  exact vany_sound (M := K .normal) h0 (fun o ho t ht => by have := hok o ho; rw [ht] at this; simpa using this) (fun S' a' w' ρ' hk hS' => next .normal S' a' w' ρ' hk hS') _ _ S a _ ρ (h _ fun _ h => h) hS.drew
end Go.Proofs.YtcilmfhncjfdbaaDoor.V
end
