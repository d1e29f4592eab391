/-
  Parts of the proof of ProcRight: N4, VregX, VregY, VregS, T6, N8, T7, Vren2, T9, Bd, T8, TA.
  Conditions: none.
-/
import Derived.Test.YtpdhdkpebbfnnaaWProcRight04
import Derived.Test.YtpdhdkpebbfnnaaWProcRight03
import Derived.WalkKit
import Derived.Lib.BufStepsIn
import Derived.Shelf.Strings.BuilderK
set_option linter.unusedVariables false
set_option linter.unusedSimpArgs false
set_option linter.unusedSectionVars false
set_option linter.defProp false
section
namespace Go.Proofs.Ytpdhdkpebbfnnaa.V
open Go
theorem ynN4 {l : List VV} (h : nls l = true := by first|rfl|assumption|(simp only [znl,znN4];(first|done|fail))) : nls l = true := h
set_option maxRecDepth 100000
def znN4 := And.intro @jO <| And.intro @jP <| And.intro @jQ <| And.intro @jR <| And.intro @jS <| And.intro @jT <| And.intro @jU <| True.intro
set_option maxHeartbeats 1000000
abbrev machSh : Sh := .st [.cell, .cell, .cell, .cell, .cell, .cell, .cell, .cell, .cell, .cell, .cell, .cell, .cell, .st [.cell, .cell, .cell], .cell]
theorem pr3 {p : Pr} (h : PrR p) : Has (.arr 16 .cell) (.agg (p.rs.map (.int .u32))) ∧ Has (.arr 16 (.st [.cell, .cell, .cell])) (.agg (p.sp.map encPte)) ∧ Has (.arr 8 (.st [.cell, .cell, .cell])) (.agg (p.fds.map encFd)) := ⟨hasRs _ h.rs, hasSpace _ h.sp, hasFds _ h.fds⟩
def livesQ (pid : Int) (p : Pr) : Bool := decide (p.pid = pid) && livesP p
theorem livesQ_t {pid : Int} {p : Pr} (h : livesQ pid p = true) : p.pid = pid ∧ (p.st = 1 ∨ p.st = 2) := by
 simpa [livesQ, livesP] using h
theorem livesQ_f {pid : Int} {p : Pr} (h : livesQ pid p = false) : ¬(p.pid = pid ∧ (p.st = 1 ∨ p.st = 2)) := by
 intro h2
 rw [show livesQ pid p = true by simpa [livesQ, livesP] using h2] at h
 cases h
theorem lives_spec (m : Mach) (hm : MFit 20000 m) (pid : Int) (hp : i64R pid) : Spec Try.prog 125 [encM m, .int .i64 pid] (.bool (livesB m.pr pid)) := by
 obtain ⟨R, hR⟩ : ∃ R, R = livesB m.pr pid := ⟨_, rfl⟩
 rw [← hR]
 have hl := hm.pr
 have hpR := hm.prR
 obtain ⟨hp1, hp2⟩ := hp
 refine spec_ok Try.func125 rfl rfl (by kernel_rfl) (k := 2) rfl (by decide) ?_
 repeat' (first|(with_reducible first|refine yrl (by constructor) ?_|refine jk (fun M hM=>?_)|(refine hM _ ?_;clear hM M)|refine yx3 ?_|refine yxa ?_ ?_|refine yxb ?_ ?_)|((with_reducible refine je ?_)<;>exact ynN4)|(with_reducible refine yxc ?_)|((with_reducible refine yxi (fun hc=>?_) (fun hc=>?_))<;>(try simp (disch:=omega) only [zhb] at hc)<;>(try (exfalso;omega))<;>(try subst hc))|(with_reducible refine yxw ?_)|(simp (config := { maxSteps := 400000 }) only [↓jt,↓reduceIte,zvs,reduceCtorEq,seval,tab,Try.results125,jTA])|(simp (disch:=omega) only [ziw]))
 refine ok_loop (fun k : Nat => ⟨slots [(1, .int .i64 pid), (2, .ptr 0 []), (4, .bool false), (8, encPrs m.pr), (9, .int .i64 m.pr.length), (10, .int .i64 k)], rows [(0, .row machSh (encM m))], 1⟩) (fun k => k ≤ m.pr.length ∧ ∀ j, j < k → livesQ pid (m.pr.getD j default) = false) (fun k => m.pr.length - k) 0 ?_ ⟨Nat.zero_le _, fun j hj => by omega⟩ (fun k hk => ?_)
 ·(refine yrn [(0, 0)] false ?_ ?_<;>(repeat' (first|(with_reducible first|exact ya1|exact ya2|exact ya3|refine jx rfl (by first|rfl|assumption|(simp only [znl,znN4];(first|done|fail)))|exact ya5|exact ya7|exact jy|exact jz|refine jA ?_|refine ya9 ?_ ?_ ?_|refine jC rfl (by first|rfl|assumption|(simp only [znl,znN4];(first|done|fail)))|refine MR.agg (MRL.cons ?_ ?_)|refine MR.fn ?_|refine MRL.cons ?_ ?_|exact MRL.nil|refine jE ?_ ?_|exact jF|exact jG|refine yb1 ?_ ?_|refine MB.row ?_|refine jI ?_ ?_|exact ya8|refine jJ rfl (by first|rfl|assumption|(simp only [znl,znN4];(first|done|fail)))|refine yb2 ?_|rfl)|(simp only [znl,znN4];(first|done|fail))|(simp only [↓reduceIte,zlk,Nat.reduceEqDiff,reduceCtorEq])|(with_reducible first|refine jJ ?_ ?_|refine ya5 ?_|refine ju ?_|refine jv ?_|refine jw ?_|refine jx ?_ (by first|rfl|assumption|(simp only [znl,znN4];(first|done|fail)))|refine jC ?_ (by first|rfl|assumption|(simp only [znl,znN4];(first|done|fail)))))))
 obtain ⟨hk, hn⟩ := hk
 by_cases hlt : k < m.pr.length
 ·have hb := hpR _ (getD_mem' hlt)
  obtain ⟨hS1, hS2, hS3⟩ := pr3 hb
  have ha := any_of m.pr (livesQ pid) k hlt
  have hstep : livesQ pid (m.pr.getD k default) = false → ∀ j, j < k + 1 → livesQ pid (m.pr.getD j default) = false := fun h j hj => by
   by_cases e : j = k
   ·rw [e]; exact h
   ·exact hn j (by omega)
  cases hq : livesQ pid (m.pr.getD k default) with
  | true =>
   obtain ⟨q1, q2⟩ := livesQ_t hq
   repeat' (first|(with_reducible first|refine yrl (by constructor) ?_|refine jk (fun M hM=>?_)|(refine hM _ ?_;clear hM M)|refine yx3 ?_|refine yxa ?_ ?_|refine yxb ?_ ?_)|((with_reducible refine je ?_)<;>exact ynN4)|(with_reducible refine yxc ?_)|((with_reducible refine yxi (fun hc=>?_) (fun hc=>?_))<;>(try simp (disch:=omega) only [zhb] at hc)<;>(try (exfalso;omega))<;>(try subst hc))|(with_reducible refine yxw ?_)|(simp (config := { maxSteps := 400000 }) only [↓jt,↓reduceIte,zvs,reduceCtorEq,seval,tab,hS1,hS2,hS3,encPr,Try.results125,jTA])|(simp (disch:=omega) only [ziw]))
   all_goals first
    | (exfalso; omega)
    | (simp only [zrds]; first | exact hR.trans (ha hq) | exact (hR.trans (ha hq)).symm)
  | false =>
   have q1 := livesQ_f hq
   repeat' (first|(with_reducible first|refine yrl (by constructor) ?_|refine jk (fun M hM=>?_)|(refine hM _ ?_;clear hM M)|refine yx3 ?_|refine yxa ?_ ?_|refine yxb ?_ ?_)|((with_reducible refine je ?_)<;>exact ynN4)|(with_reducible refine yxc ?_)|((with_reducible refine yxi (fun hc=>?_) (fun hc=>?_))<;>(try simp (disch:=omega) only [zhb] at hc)<;>(try (exfalso;omega))<;>(try subst hc))|(with_reducible refine yxw ?_)|(simp (config := { maxSteps := 400000 }) only [↓jt,↓reduceIte,zvs,reduceCtorEq,seval,tab,hS1,hS2,hS3,encPr,Try.results125,jTA])|(simp (disch:=omega) only [ziw]))
   all_goals first
    | (exfalso; omega)
    | (refine xl1 (k + 1) ?_ ⟨by omega, hstep hq⟩ (by show m.pr.length - (k + 1) < m.pr.length - k; omega); (refine yrn [(0, 0)] false ?_ ?_<;>(repeat' (first|(with_reducible first|exact ya1|exact ya2|exact ya3|refine jx rfl (by first|rfl|assumption|(simp only [znl,znN4];(first|done|fail)))|exact ya5|exact ya7|exact jy|exact jz|refine jA ?_|refine ya9 ?_ ?_ ?_|refine jC rfl (by first|rfl|assumption|(simp only [znl,znN4];(first|done|fail)))|refine MR.agg (MRL.cons ?_ ?_)|refine MR.fn ?_|refine MRL.cons ?_ ?_|exact MRL.nil|refine jE ?_ ?_|exact jF|exact jG|refine yb1 ?_ ?_|refine MB.row ?_|refine jI ?_ ?_|exact ya8|refine jJ rfl (by first|rfl|assumption|(simp only [znl,znN4];(first|done|fail)))|refine yb2 ?_|rfl)|(simp only [znl,znN4];(first|done|fail))|(simp only [↓reduceIte,zlk,Nat.reduceEqDiff,reduceCtorEq])|(with_reducible first|refine jJ ?_ ?_|refine ya5 ?_|refine ju ?_|refine jv ?_|refine jw ?_|refine jx ?_ (by first|rfl|assumption|(simp only [znl,znN4];(first|done|fail)))|refine jC ?_ (by first|rfl|assumption|(simp only [znl,znN4];(first|done|fail))))))); done)
 ·obtain rfl : k = m.pr.length := by omega
  repeat' (first|(with_reducible first|refine yrl (by constructor) ?_|refine jk (fun M hM=>?_)|(refine hM _ ?_;clear hM M)|refine yx3 ?_|refine yxa ?_ ?_|refine yxb ?_ ?_)|((with_reducible refine je ?_)<;>exact ynN4)|(with_reducible refine yxc ?_)|((with_reducible refine yxi (fun hc=>?_) (fun hc=>?_))<;>(try simp (disch:=omega) only [zhb] at hc)<;>(try (exfalso;omega))<;>(try subst hc))|(with_reducible refine yxw ?_)|(simp (config := { maxSteps := 400000 }) only [↓jt,↓reduceIte,zvs,reduceCtorEq,seval,tab,encPr,Try.results125,jTA])|(simp (disch:=omega) only [ziw]))
  simp only [zrds]
  rw [hR]
  exact (any_none m.pr (livesQ pid) hn).symm
end Go.Proofs.Ytpdhdkpebbfnnaa.V
end
section
namespace Go.Proofs.Ytpdhdkpebbfnnaa.V
open Go Go.RowKit

def Does2 (P : Program) (env tmF : Nat → VV) (G : Heap) (n : Nat) (o : Oper) : Prop :=
 ∃ v n', (∀ t, o.dst = some t → tmF t = v) ∧ n ≤ n' ∧ n' ≤ n + 64 ∧ ∀ e' K', (∀ x ∈ o.op.operands.toList, e' x = ev env x) → K' v G n' → vopH P e' G n K' o
def Fact2 (P : Program) (ops : List Oper) (env tmF : Nat → VV) (G : Heap) (n : Nat) (o : Oper) : Prop :=
 (o.guard = none ∧ Does2 P env tmF G n o) ∨ ∃ g want d, o.guard = some (g, want) ∧ dstAt ops g = some d ∧
  ((env d = .bool want ∧ Does2 P env tmF G n o) ∨ ((env d = .bool (!want) ∨ env d = .raw undef) ∧ ∀ t, o.dst = some t → tmF t = .raw undef))
def rd2 (l : List Oper) (q : Nat) (tm tmF : Nat → VV) (t : Nat) : VV := if ((l.drop q).any fun o => o.dst == some t) = true then tm t else tmF t
def oneL : List Oper → Bool
 | [] => true
 | o :: l => (match o.dst with | some d => l.all fun o' => o'.dst != some d | none => true) && oneL l
theorem held2 {P : Program} {ops : Array Oper} {K : (Nat → VV) → Heap → Nat → Prop} : ∀ (l : List Oper) (tm : Nat → VV) (H : Heap) (n : Nat), oneL l = true → (∀ m, n ≤ m → H m = none) → vheld P ops.toList l tm H n K →
  ∃ tmF G, K tmF G (n + 64 * l.length) ∧ (∀ t, (∀ o ∈ l, o.dst ≠ some t) → tmF t = tm t) ∧ ((∀ m b, H m = some b → G m = some b) ∧ (∀ m, m < n → G m = H m)) ∧
   ∀ q o, l[q]? = some o → ∃ Hq : Heap, (∀ m, m < n → Hq m = H m) ∧ (∀ m, n + 64 * (q + 1) ≤ m → Hq m = none) ∧ (∀ m b, Hq m = some b → G m = some b) ∧
    ∀ G' : Heap, (∀ m b, Hq m = some b → G' m = some b) → Fact2 P ops.toList (rd2 l q tm tmF) tmF G' (n + 64 * q) o
 | [], tm, H, n, _, _, h => ⟨tm, H, h, fun _ _ => rfl, ⟨fun _ _ h => h, fun _ _ => rfl⟩, fun q o h => by simp at h⟩
 | o :: l, tm, H, n, hw, hn, h => by
  simp only [oneL,Bool.and_eq_true] at hw
  obtain ⟨hw1, hw3⟩ := hw
  have hd : ∀ d, o.dst = some d → ∀ o' ∈ l, o'.dst ≠ some d := fun d hd o' ho' => by
   rw [hd] at hw1
   simpa using (List.all_eq_true.1 hw1) o' ho'
  have hput : ∀ (tm' : Nat → VV) (v : VV) (t : Nat), o.dst ≠ some t → put o.dst v tm' t = tm' t := by
   intro tm' v t ht
   cases hod : o.dst with
   | none => rfl
   | some d => simp only [put,upd_ap]; rw [if_neg (by intro e; rw [e] at ht; exact ht hod)]
  have hrd0 : ∀ (tmF : Nat → VV), (∀ t, (∀ o' ∈ o :: l, o'.dst ≠ some t) → tmF t = tm t) → ∀ t, rd2 (o :: l) 0 tm tmF t = tm t := fun tmF h t => by
   unfold rd2
   split
   ·rfl
   ·rename_i hh
    refine h t fun o' ho' e => hh ?_
    rw [List.drop_zero, List.any_eq_true]
    exact ⟨o', ho', by simp [e]⟩
  have hrdS : ∀ (tmF : Nat → VV) (v : VV) (q : Nat) (t : Nat), rd2 l q (put o.dst v tm) tmF t = rd2 (o :: l) (q + 1) tm tmF t := fun tmF v q t => by
   unfold rd2
   rw [List.drop_succ_cons]
   split
   ·rename_i hh
    rw [List.any_eq_true] at hh
    obtain ⟨o', ho', e⟩ := hh
    refine hput tm v t fun e2 => hd t e2 o' (List.mem_of_mem_drop ho') (by simpa using e)
   ·rfl
  have done : vopH P (ev tm) H n (fun v H' n' => cnd (n' ≤ n + 64) (vheld P ops.toList l (put o.dst v tm) H' (n + 64) K)) o →
    ∃ tmF G, K tmF G (n + 64 * (l.length + 1)) ∧ (∀ t, (∀ o' ∈ o :: l, o'.dst ≠ some t) → tmF t = tm t) ∧ ((∀ m b, H m = some b → G m = some b) ∧ (∀ m, m < n → G m = H m)) ∧
     (∃ Hq : Heap, (∀ m, m < n → Hq m = H m) ∧ (∀ m, n + 64 ≤ m → Hq m = none) ∧ (∀ m b, Hq m = some b → G m = some b) ∧ ∀ G' : Heap, (∀ m b, Hq m = some b → G' m = some b) → Does2 P tm tmF G' n o) ∧
     ∀ q o', l[q]? = some o' → ∃ Hq : Heap, (∀ m, m < n → Hq m = H m) ∧ (∀ m, n + 64 + 64 * (q + 1) ≤ m → Hq m = none) ∧ (∀ m b, Hq m = some b → G m = some b) ∧
      ∀ G' : Heap, (∀ m b, Hq m = some b → G' m = some b) → Fact2 P ops.toList (rd2 (o :: l) (q + 1) tm tmF) tmF G' (n + 64 + 64 * q) o' := by
   intro h
   obtain ⟨v, H', n', ⟨hn', hk⟩, s1, s2, s3, s4⟩ := vopH_stable (hn n (Nat.le_refl _)) h
   have hn2 : ∀ m, n + 64 ≤ m → H' m = none := fun m hm => by rw [s3 m (.inr (by omega))]; exact hn m (by omega)
   obtain ⟨tmF, G, k1, k2, k3, k4⟩ := held2 l (put o.dst v tm) H' (n + 64) hw3 hn2 hk
   refine ⟨tmF, G, by rw [show n + 64 * (l.length + 1) = n + 64 + 64 * l.length by omega]; exact k1, fun t ht => ?_, ⟨fun m b hm => k3.1 m b (s2 m b hm), fun m hm => by rw [k3.2 m (by omega), s3 m (.inl hm)]⟩, ?_, fun q o' ho' => ?_⟩
   ·rw [k2 t (fun o' ho' => ht o' (by simp [ho'])), hput tm v t (ht o (by simp))]
   ·refine ⟨H', fun m hm => s3 m (.inl hm), hn2, k3.1, fun G' hG' => ⟨v, n', fun t ht => ?_, s1, hn', fun e' K' he hK => s4 e' G' K' (fun x hx => he x hx) hG' hK⟩⟩
    rw [k2 t (hd t ht), ht]
    simp [put, upd_ap]
   ·obtain ⟨Hq, q1, q2, q3, q4⟩ := k4 q o' ho'
    refine ⟨Hq, fun m hm => by rw [q1 m (by omega), s3 m (.inl hm)], q2, q3, fun G' hG' => ?_⟩
    have := q4 G' hG'
    rw [show rd2 l q (put o.dst v tm) tmF = rd2 (o :: l) (q + 1) tm tmF from funext (hrdS tmF v q)] at this
    exact this
  have skip : vheld P ops.toList l (put o.dst (.raw undef) tm) H (n + 64) K →
    ∃ tmF G, K tmF G (n + 64 * (l.length + 1)) ∧ (∀ t, (∀ o' ∈ o :: l, o'.dst ≠ some t) → tmF t = tm t) ∧ ((∀ m b, H m = some b → G m = some b) ∧ (∀ m, m < n → G m = H m)) ∧ (∀ t, o.dst = some t → tmF t = .raw undef) ∧
     ∀ q o', l[q]? = some o' → ∃ Hq : Heap, (∀ m, m < n → Hq m = H m) ∧ (∀ m, n + 64 + 64 * (q + 1) ≤ m → Hq m = none) ∧ (∀ m b, Hq m = some b → G m = some b) ∧
      ∀ G' : Heap, (∀ m b, Hq m = some b → G' m = some b) → Fact2 P ops.toList (rd2 (o :: l) (q + 1) tm tmF) tmF G' (n + 64 + 64 * q) o' := by
   intro h
   obtain ⟨tmF, G, k1, k2, k3, k4⟩ := held2 l _ H (n + 64) hw3 (fun m hm => hn m (by omega)) h
   refine ⟨tmF, G, by rw [show n + 64 * (l.length + 1) = n + 64 + 64 * l.length by omega]; exact k1, fun t ht => ?_, ⟨k3.1, fun m hm => k3.2 m (by omega)⟩, fun t ht => ?_, fun q o' ho' => ?_⟩
   ·rw [k2 t (fun o' ho' => ht o' (by simp [ho'])), hput tm _ t (ht o (by simp))]
   ·rw [k2 t (hd t ht), ht]
    simp [put, upd_ap]
   ·obtain ⟨Hq, q1, q2, q3, q4⟩ := k4 q o' ho'
    refine ⟨Hq, fun m hm => q1 m (by omega), q2, q3, fun G' hG' => ?_⟩
    have := q4 G' hG'
    rw [show rd2 l q (put o.dst (.raw undef) tm) tmF = rd2 (o :: l) (q + 1) tm tmF from funext (hrdS tmF _ q)] at this
    exact this
  -- the parts together
  have tie : ∀ (tmF : Nat → VV) (G : Heap), K tmF G (n + 64 * (l.length + 1)) → (∀ t, (∀ o' ∈ o :: l, o'.dst ≠ some t) → tmF t = tm t) → ((∀ m b, H m = some b → G m = some b) ∧ (∀ m, m < n → G m = H m)) →
    (∃ Hq : Heap, (∀ m, m < n → Hq m = H m) ∧ (∀ m, n + 64 ≤ m → Hq m = none) ∧ (∀ m b, Hq m = some b → G m = some b) ∧ ∀ G' : Heap, (∀ m b, Hq m = some b → G' m = some b) → Fact2 P ops.toList tm tmF G' n o) →
    (∀ q o', l[q]? = some o' → ∃ Hq : Heap, (∀ m, m < n → Hq m = H m) ∧ (∀ m, n + 64 + 64 * (q + 1) ≤ m → Hq m = none) ∧ (∀ m b, Hq m = some b → G m = some b) ∧
      ∀ G' : Heap, (∀ m b, Hq m = some b → G' m = some b) → Fact2 P ops.toList (rd2 (o :: l) (q + 1) tm tmF) tmF G' (n + 64 + 64 * q) o') →
    ∃ tmF G, K tmF G (n + 64 * (o :: l).length) ∧ (∀ t, (∀ o' ∈ o :: l, o'.dst ≠ some t) → tmF t = tm t) ∧ ((∀ m b, H m = some b → G m = some b) ∧ (∀ m, m < n → G m = H m)) ∧
     ∀ q o', (o :: l)[q]? = some o' → ∃ Hq : Heap, (∀ m, m < n → Hq m = H m) ∧ (∀ m, n + 64 * (q + 1) ≤ m → Hq m = none) ∧ (∀ m b, Hq m = some b → G m = some b) ∧
      ∀ G' : Heap, (∀ m b, Hq m = some b → G' m = some b) → Fact2 P ops.toList (rd2 (o :: l) q tm tmF) tmF G' (n + 64 * q) o' := by
   intro tmF G k1 k2 k3 k4 k5
   refine ⟨tmF, G, k1, k2, k3, fun q o' ho' => ?_⟩
   cases q with
   | zero =>
    simp only [List.getElem?_cons_zero,Option.some.injEq] at ho'
    subst ho'
    obtain ⟨Hq, q1, q2, q3, q4⟩ := k4
    refine ⟨Hq, q1, fun m hm => q2 m (by omega), q3, fun G' hG' => ?_⟩
    have := q4 G' hG'
    rw [show tm = rd2 (o :: l) 0 tm tmF from (funext (hrd0 tmF k2)).symm] at this
    exact this
   | succ q =>
    simp only [List.getElem?_cons_succ] at ho'
    obtain ⟨Hq, q1, q2, q3, q4⟩ := k5 q o' ho'
    exact ⟨Hq, q1, fun m hm => q2 m (by omega), q3, fun G' hG' => by
     have := q4 G' hG'
     rwa [show n + 64 + 64 * q = n + 64 * (q + 1) by omega] at this⟩
  simp only [vheld] at h
  split at h
  ·rename_i hg
   obtain ⟨tmF, G, k1, k2, k3, ⟨Hq, q1, q2, q3, q4⟩, k5⟩ := done h
   exact tie tmF G k1 k2 k3 ⟨Hq, q1, q2, q3, fun G' hG' => .inl ⟨hg, q4 G' hG'⟩⟩ k5
  ·rename_i g want hg
   obtain ⟨d, hdg, h⟩ := bnd_iff.1 h
   unfold onV at h
   dsimp only at h
   split at h
   ·rename_i b hb
    obtain ⟨h1, h2⟩ := h
    by_cases hbw : (b == want) = true
    ·have hbe : b = want := by simpa using hbw
     subst hbe
     have hu := upd_same hb
     have h1 := h1 hbw
     rw [hu] at h1
     obtain ⟨tmF, G, k1, k2, k3, ⟨Hq, q1, q2, q3, q4⟩, k5⟩ := done h1
     exact tie tmF G k1 k2 k3 ⟨Hq, q1, q2, q3, fun G' hG' => .inr ⟨g, b, d, hg, hdg, .inl ⟨hb, q4 G' hG'⟩⟩⟩ k5
    ·have hbf : (b == want) = false := by simpa using hbw
     have hbe : b = !want := by cases b <;> cases want <;> simp_all
     subst hbe
     have hu := upd_same hb
     have h2 := h2 hbf
     rw [hu] at h2
     obtain ⟨tmF, G, k1, k2, k3, k4, k5⟩ := skip h2
     exact tie tmF G k1 k2 k3 ⟨H, fun _ _ => rfl, fun m hm => hn m (by omega), k3.1, fun G' hG' => .inr ⟨g, want, d, hg, hdg, .inr ⟨.inl hb, k4⟩⟩⟩ k5
   ·rename_i u hb
    obtain ⟨rfl, h⟩ := h
    obtain ⟨tmF, G, k1, k2, k3, k4, k5⟩ := skip h
    exact tie tmF G k1 k2 k3 ⟨H, fun _ _ => rfl, fun m hm => hn m (by omega), k3.1, fun G' hG' => .inr ⟨g, want, d, hg, hdg, .inr ⟨.inr hb, k4⟩⟩⟩ k5
   ·exact h.elim
def dstB (ops : Array Oper) (j t : Nat) : Bool := match ops[j]? with
 | some o => o.dst == some t
 | none => false
theorem dstB_iff {ops : Array Oper} {j t : Nat} : dstB ops j t = true ↔ ∃ o, ops[j]? = some o ∧ o.dst = some t := by
 unfold dstB
 split
 ·rename_i o ho
  simp [ho]
 ·rename_i ho; simp [ho]
def Fr2 (nx : Nat) (perm : List Nat) (listed : Array Bool) (m : Nat) : Prop := nx ≤ m ∧ ∀ (q : Nat) i, perm[q]? = some i → nx + 64 * q ≤ m → m < nx + 64 * q + 64 → listed.getD i false = false
def tmQ (ops : Array Oper) (listed : Array Bool) (k : Nat) (tm0 tmF : Nat → VV) (t : Nat) : VV := if pendB ops listed k t = true then tm0 t else tmF t
section
variable {P : Program} {N : NN} {B : Nat} {ρ0 : Names} {w0 : World} {ops : Array Oper} {k nx js : Nat} {perm : List Nat} {tm0 tmF : Nat → VV} {GA GB : Heap} {env : Nat → Nat → VV} {K : VS → Prop} {Q : Exit → Act → World → Prop}
theorem head2 (hk9 : k ≤ ops.size ∧ ops.size ≤ 1000000) (hd : ∀ o ∈ ops.toList, ∀ t, o.dst = some t → t < N)
  (hreach : ∀ j o, k ≤ j → ops[j]? = some o → (∀ i, i < j → reachB ops ops.size o i = true) ∧ ∀ e ∈ o.after, Region.binds .any e = true → e.on < j)
  (hb : ∀ j o, j < k → ops[j]? = some o → ∀ e ∈ o.after, Region.binds .any e = true → e.on < j)
  (hperm : ∀ i, i < k → i ≠ js → ∃ q : Nat, perm[q]? = some i)
  (hpk : ∀ (q : Nat) i, perm[q]? = some i → i < k ∧ i ≠ js)
  (hpl : perm.length ≤ k)
  (huniq : ∀ (q r : Nat) i, perm[q]? = some i → perm[r]? = some i → q = r)
  (hone : ∀ i j t, i < k → j < k → i ≠ j → dstB ops i t = true → dstB ops j t = false)
  (henv : ∀ (q : Nat) i o t, perm[q]? = some i → ops[i]? = some o → t ∈ o.looksAt ops → ∀ listed, listed.getD i false = false → Closed ops listed → (∀ e ∈ o.after, Region.binds .any e = true → listed.getD e.on false = true) → tmQ ops listed k tm0 tmF t = env q t)
  (hA : ∀ (q : Nat) i o, perm[q]? = some i → ops[i]? = some o → Fact2 P ops.toList (env q) tmF GA (nx + 64 * q) o)
  (hB : ∀ (q : Nat) i o, perm[q]? = some i → ops[i]? = some o → (∃ oj, ops[js]? = some oj ∧ reachB ops ops.size oj i = true) ∨ Fact2 P ops.toList (env q) tmF GB (nx + 64 * q) o)
  (hS : js < k → ∀ o, ops[js]? = some o → o.dst = none ∧ o.guard = none ∧ ∃ t y x, o.op = .store t y x ∧ (∀ listed, Closed ops listed → (∀ e ∈ o.after, Region.binds .any e = true → listed.getD e.on false = true) → ∀ z ∈ o.op.operands.toList, ev (tmQ ops listed k tm0 tmF) z = ev tmF z) ∧ (∀ z, z = y ∨ z = x → z ∈ o.op.operands.toList) ∧ vStore P (ev tmF) GA 0 (fun v G n => v = .any ∧ G = GB ∧ n = 0) t y x)
  (hGG : k ≤ js → GA = GB)
  (htail : vlist P ops.toList (ops.toList.drop k) ⟨tmF, GB, nx + 64 * k⟩ K)
  (next : ∀ S' a' w' ρ', K S' → SR N B ρ0 w0 S' a' w' ρ' → Q .normal a' w') :
  ∀ (fuel : Nat) (listed : Array Bool) (a : Act) (w : World) (ρ : Names), ops.size ≤ cnt listed k + fuel → listed.size = ops.size → (∀ i, k ≤ i → listed.getD i false = false) → Closed ops listed →
   TM ρ w (tmQ ops listed k tm0 tmF) a → a.defers = N.ds → a.tmps.size = N → HR (ZF (Fr2 nx perm listed)) B ρ (if listed.getD js false = true then GB else GA) 0 w → Below B w0 w → Ext ρ0 w0 ρ w → wpAny P .any ops Q fuel listed a w := by
 have fin : ∀ (fuel : Nat) (listed : Array Bool) (a : Act) (w : World) (ρ : Names), ops.size ≤ k + fuel → (∀ i, i < k → listed.getD i false = true) → listed.size = ops.size → (∀ i, k ≤ i → listed.getD i false = false) → Closed ops listed →
   TM ρ w (tmQ ops listed k tm0 tmF) a → a.defers = N.ds → a.tmps.size = N → HR (ZF (Fr2 nx perm listed)) B ρ (if listed.getD js false = true then GB else GA) 0 w → Below B w0 w → Ext ρ0 w0 ρ w → wpAny P .any ops Q fuel listed a w := by
  intro fuel listed a w ρ hf hall hsz hl hc hT hdf hts hh hbl he
  have hTF : TM ρ w tmF a := fun t => by
   have := hT t
   unfold tmQ at this
   rw [if_neg (by intro e; obtain ⟨j, h1, h2, _⟩ := pendB_true.1 e; rw [hall j h1] at h2; cases h2)] at this
   exact this
  have hG : (if listed.getD js false = true then GB else GA) = GB := by
   by_cases hjk : js < k
   ·rw [if_pos (hall js hjk)]
   ·rw [if_neg (by rw [hl js (by omega)]; simp)]
    exact hGG (by omega)
  rw [hG] at hh
  exact tail_any hd hreach next fuel k listed ⟨tmF, GB, nx + 64 * k⟩ a w ρ (Nat.le_refl _) (by omega) hsz (fun i => by
    by_cases hi : i < k
    ·simp [hi, hall i hi]
    ·simp [hi, hl i (by omega)]) hc htail
   ⟨hTF, hdf, hts, hh.zone (fun m (hm : nx + 64 * k ≤ m) => ⟨by omega, fun q i hq h1 h2 => by
    have : q < perm.length := (List.getElem?_eq_some_iff.1 hq).1
    omega⟩), hbl, he⟩
 obtain ⟨hk, hsm⟩ := hk9
 intro fuel
 induction fuel with
 | zero =>
  intro listed a w ρ hf hsz hl hc hT hdf hts hh hbl he
  have hkz : k = ops.size := by have := cnt_le listed k; omega
  exact fin 0 listed a w ρ (by omega) (fun i hi => by
   cases hx : listed.getD i false with
   | true => rfl
   | false => have := cnt_lt k i hi hx; omega) hsz hl hc hT hdf hts hh hbl he
 | succ fuel ih =>
  intro listed a w ρ hf hsz hl hc hT hdf hts hh hbl he
  by_cases hall : ∀ i, i < k → listed.getD i false = true
  ·exact fin (fuel + 1) listed a w ρ (by have := cnt_le listed k; omega) hall hsz hl hc hT hdf hts hh hbl he
  ·simp only [Classical.not_forall] at hall
   obtain ⟨j0, hj0, hj0l⟩ := hall
   have hj0f : listed.getD j0 false = false := by simpa using hj0l
   refine ⟨fun hr => absurd hr (exists_ready hsz hk hb j0 j0 (Nat.le_refl _) hj0 hj0f), fun i hi => ?_⟩
   obtain ⟨h0, o, ho, hafter⟩ := mem_ready.1 hi
   obtain ⟨hil, hif⟩ := getD_true_false.1 h0
   have hik : i < k := by
    rcases Nat.lt_or_ge i k with h | h
    ·exact h
    ·exfalso
     have := reach_listed hc ops.size o j0 ((hreach i o h ho).1 j0 (by omega)) hafter
     rw [hj0f] at this
     cases this
   have hdN : ∀ t, o.dst = some t → t < a.tmps.size := fun t ht => by
    rw [hts]
    exact hd o (by obtain ⟨hlt, e⟩ := Array.getElem?_eq_some_iff.1 ho; rw [← e]; simp) t ht
   have hcl : Closed ops (listed.setIfInBounds i true) := fun x o' hx hlx e' he' hb' => by
    rw [getD_set hil] at hlx ⊢
    split
    ·rfl
    ·by_cases hxi : x = i
     ·subst hxi
      rw [ho] at hx
      injection hx with hx
      subst hx
      exact hafter e' he' hb'
     ·rw [if_neg hxi] at hlx
      exact hc x o' hx hlx e' he' hb'
   -- the slots behind the operation
   have htm : ∀ (ρ' : Names) (x : Value) (w' : World) (v : VV), (∀ t, o.dst = some t → tmF t = v) → VR ρ' w' v x → Ext ρ w ρ' w' → TM ρ' w' (tmQ ops (listed.setIfInBounds i true) k tm0 tmF) (a.put o.dst x) := by
    intro ρ' x w' v hv hvx he' t
    have hput := (hT.ext he').put hdN hvx t
    have e : V.put o.dst v (tmQ ops listed k tm0 tmF) t = tmQ ops (listed.setIfInBounds i true) k tm0 tmF t := by
     by_cases htd : o.dst = some t
     ·have h1 : V.put o.dst v (tmQ ops listed k tm0 tmF) t = v := by rw [htd]; simp [V.put, upd_ap]
      rw [h1]
      unfold tmQ
      rw [if_neg]
      ·exact (hv t htd).symm
      ·intro e
       obtain ⟨j, h1, h2, o', ho', h3⟩ := pendB_true.1 e
       rw [getD_set hil] at h2
       split at h2
       ·cases h2
       ·rename_i hji
        have := hone i j t hik h1 (Ne.symm hji) (dstB_iff.2 ⟨o, ho, htd⟩)
        rw [dstB_iff.2 ⟨o', ho', h3⟩] at this
        cases this
     ·have h1 : V.put o.dst v (tmQ ops listed k tm0 tmF) t = tmQ ops listed k tm0 tmF t := by
       cases hod : o.dst with
       | none => rfl
       | some d => simp only [V.put,upd_ap]; rw [if_neg (by intro e; rw [e] at htd; exact htd hod)]
      rw [h1]
      unfold tmQ
      have : pendB ops (listed.setIfInBounds i true) k t = pendB ops listed k t := by
       rw [Bool.eq_iff_iff, pendB_true, pendB_true]
       constructor
       ·rintro ⟨j, h1, h2, o', ho', h3⟩
        rw [getD_set hil] at h2
        split at h2
        ·cases h2
        ·exact ⟨j, h1, h2, o', ho', h3⟩
       ·rintro ⟨j, h1, h2, o', ho', h3⟩
        refine ⟨j, h1, ?_, o', ho', h3⟩
        rw [getD_set hil, if_neg]
        ·exact h2
        ·intro e; subst e; rw [ho] at ho'; injection ho' with ho'; subst ho'; exact htd h3
      rw [this]
    rw [e] at hput
    exact hput
   by_cases hjs : i = js
   ·-- the store
    subst hjs
    obtain ⟨hdst, hg, t, y, x, hop, hev, hyx, hst⟩ := hS hik o ho
    have hev := hev listed hc hafter
    rw [if_neg (by rw [hif]; simp)] at hh
    have hst2 : vStore P (ev (tmQ ops listed k tm0 tmF)) GA 0 (fun v G n => v = .any ∧ G = GB ∧ n = 0) t y x := by
     unfold vStore at hst ⊢
     unfold onV at hst ⊢
     rw [hev y (hyx y (.inl rfl)), hev x (hyx x (.inr rfl))]
     exact hst
    have hr := store_sound hT hh t y x hop hst2
    have after : ∀ (ρ' : Names) (x : Value) (w' : World), HR (ZF (Fr2 nx perm listed)) B ρ' GB 0 w' → Ext ρ w ρ' w' → Below B w w' → wpAny P .any ops Q fuel (listed.setIfInBounds i true) (a.put o.dst x) w' := by
     intro ρ' x w' hh' he' hb'
     have hz := put_size a o.dst x
     refine ih _ _ _ ρ' ?_ (by simpa using hsz) (fun j hj => by rw [getD_set hil, if_neg (by omega)]; exact hl j hj) hcl ?_ (by rw [hz.2]; exact hdf) (by rw [hz.1]; exact hts) ?_ (hbl.trans hb') (he.trans he')
     ·rw [cnt_set hil hif, if_pos hik]; omega
     ·exact htm ρ' x w' .any (fun t ht => by rw [hdst] at ht; cases ht) (by simp [VR, VR1]) he'
     ·rw [if_pos (by rw [getD_set hil, if_pos rfl])]
      refine hh'.zone fun m hm => ⟨hm.1, fun q j hq h1 h2 => ?_⟩
      have := hm.2 q j hq h1 h2
      rw [getD_set hil, if_neg (hpk q j hq).2] at this
      exact this
    have hw : (if Region.wanted o (yielded ops a.tmps) = true then o.wp P a w (wpAny P .any ops Q fuel (listed.setIfInBounds i true)) Q else wpAny P .any ops Q fuel (listed.setIfInBounds i true) (a.put o.dst undef) w) := by
     rw [if_pos (by simp [Region.wanted, hg])]
     unfold Oper.wp
     rcases hr with ⟨x, w', hr, hg⟩ | ⟨w', hr, hg⟩ | ⟨f, xs, hr, hcl'⟩
     ·rw [hr]
      obtain ⟨v', H', n'', ρ', ⟨rfl, rfl, rfl⟩, h1, h2, h3, h4⟩ := hg
      exact after ρ' x w' h2 h3 h4
     ·rw [hr]
      obtain ⟨v', H', n'', ρ', ⟨rfl, rfl, rfl⟩, h1, h2, h3, h4⟩ := hg
      exact after ρ' undef w' h2 h3 h4
     ·rw [hr]
      refine Calls.mono hcl' fun e w' hee => ?_
      obtain ⟨x, rfl, v', H', n'', ρ', ⟨rfl, rfl, rfl⟩, h1, h2, h3, h4⟩ := hee
      exact after ρ' x w' h2 h3 h4
    unfold wpOp
    rw [ho]
    dsimp only
    split
    ·rename_i hx; rw [if_pos hx] at hw; exact .inl hw
    ·rename_i hx; rw [if_neg hx] at hw; exact hw
   -- another one
   obtain ⟨q, hq⟩ := hperm i hik hjs
   have hseen : ∀ t ∈ o.looksAt ops, tmQ ops listed k tm0 tmF t = env q t := fun t ht => henv q i o t hq ho ht listed hif hc hafter
   obtain ⟨G, hGe, hFi⟩ : ∃ G, (if listed.getD js false = true then GB else GA) = G ∧ Fact2 P ops.toList (env q) tmF G (nx + 64 * q) o := by
    by_cases hj : listed.getD js false = true
    ·rw [if_pos hj]
     rcases hB q i o hq ho with ⟨oj, hoj, hr⟩ | h
     ·exfalso
      have := reach_listed hc ops.size oj i hr (fun e he hb' => hc js oj hoj hj e he hb')
      rw [hif] at this
      cases this
     ·exact ⟨GB, rfl, h⟩
    ·rw [if_neg hj]
     exact ⟨GA, rfl, hA q i o hq ho⟩
   have hGe' : (if (listed.setIfInBounds i true).getD js false = true then GB else GA) = G := by
    rw [getD_set hil, if_neg (Ne.symm hjs)]
    exact hGe
   rw [hGe] at hh
   -- on behind the operation
   have go : ∀ (ρ' : Names) (x : Value) (w' : World) (v : VV) (n' : Nat), (∀ t, o.dst = some t → tmF t = v) → VR ρ' w' v x → HR (ZI (Fr2 nx perm listed) (nx + 64 * q)) B ρ' G n' w' → n' ≤ nx + 64 * q + 64 → Ext ρ w ρ' w' → Below B w w' →
     wpAny P .any ops Q fuel (listed.setIfInBounds i true) (a.put o.dst x) w' := by
    intro ρ' x w' v n' hv hvx hh' hn' he' hb'
    have hz := put_size a o.dst x
    refine ih _ _ _ ρ' ?_ (by simpa using hsz) (fun j hj => by rw [getD_set hil, if_neg (by omega)]; exact hl j hj) hcl (htm ρ' x w' v hv hvx he') (by rw [hz.2]; exact hdf) (by rw [hz.1]; exact hts) ?_ (hbl.trans hb') (he.trans he')
    ·rw [cnt_set hil hif, if_pos hik]; omega
    ·rw [hGe']
     refine hh'.zone fun m hm => .inr ⟨⟨hm.1, fun r j hr h1 h2 => ?_⟩, fun hc' => ?_⟩
     ·have := hm.2 r j hr h1 h2
      rw [getD_set hil] at this
      split at this
      ·cases this
      ·exact this
     ·have := hm.2 q i hq hc'.1 hc'.2
      rw [getD_set hil, if_pos rfl] at this
      cases this
   have hhI : HR (ZI (Fr2 nx perm listed) (nx + 64 * q)) B ρ G (nx + 64 * q) w := hh.zone fun m hm => by
    rcases hm with hm | hm
    ·refine ⟨by omega, fun r j hr h1 h2 => ?_⟩
     have : r = q := by omega
     subst this
     rw [hq] at hr
     injection hr with hr
     subst hr
     exact hif
    ·exact hm.1
   have run : Does2 P (env q) tmF G (nx + 64 * q) o → o.wp P a w (wpAny P .any ops Q fuel (listed.setIfInBounds i true)) Q := by
    rintro ⟨v, n', hv, hn1, hn2, hdo⟩
    have hop := hdo (ev (tmQ ops listed k tm0 tmF)) (fun v' H' n'' => v' = v ∧ H' = G ∧ n'' = n') (fun x hx => by
     cases x with
     | tmp t => exact hseen t (looks_operand hx)
     | _ => rfl) ⟨rfl, rfl, rfl⟩
    have hr := vopH_sound (Z := ZI (Fr2 nx perm listed) (nx + 64 * q)) hT hhI (fun v' H' n'' h1 h2 => (⟨Nat.le_refl _, by omega⟩ : nx + 64 * q ≤ nx + 64 * q ∧ nx + 64 * q < nx + 64 * q + 64)) (fun m hm => hh.fresh m ⟨by omega, fun r j hr h1 h2 => by have := (List.getElem?_eq_some_iff.1 hr).1; omega⟩) hop
    unfold Oper.wp
    rcases hr with ⟨x, w', hr, hg⟩ | ⟨w', hr, hg⟩ | ⟨f, xs, hr, hcl'⟩
    ·rw [hr]
     obtain ⟨v', H', n'', ρ', ⟨rfl, rfl, rfl⟩, h1, h2, h3, h4⟩ := hg
     exact go ρ' x w' v' n'' hv h1 h2 hn2 h3 h4
    ·rw [hr]
     obtain ⟨v', H', n'', ρ', ⟨rfl, rfl, rfl⟩, h1, h2, h3, h4⟩ := hg
     exact go ρ' undef w' v' n'' hv h1 h2 hn2 h3 h4
    ·rw [hr]
     refine Calls.mono hcl' fun e w' hee => ?_
     obtain ⟨x, rfl, v', H', n'', ρ', ⟨rfl, rfl, rfl⟩, h1, h2, h3, h4⟩ := hee
     exact go ρ' x w' v' n'' hv h1 h2 hn2 h3 h4
   have skip : (∀ t, o.dst = some t → tmF t = .raw undef) → wpAny P .any ops Q fuel (listed.setIfInBounds i true) (a.put o.dst undef) w := fun hv =>
    go ρ undef w (.raw undef) (nx + 64 * q) hv (by simp [VR, VR1, C1]) hhI (by omega) (Ext.refl _ _) (Below.refl _ _)
   have hst : if Region.wanted o (yielded ops a.tmps) = true then o.wp P a w (wpAny P .any ops Q fuel (listed.setIfInBounds i true)) Q else wpAny P .any ops Q fuel (listed.setIfInBounds i true) (a.put o.dst undef) w := by
    rcases hFi with ⟨hg, hdo⟩ | ⟨g, want, d, hg, hdg, hrest⟩
    ·rw [if_pos (by simp [Region.wanted, hg])]
     exact run hdo
    ·have hTd := hT d
     rw [hseen d (looks_guard hg hdg)] at hTd
     have hyd : yielded ops a.tmps g = match a.tmps[d]? with | some (.bool b) => some b | _ => none := by
      unfold yielded
      rw [dstAt_eq, Array.getElem?_toList] at hdg
      rw [hdg]
      simp only [Option.bind_some]
      rfl
     have hbool : ∀ b, env q d = .bool b → Region.wanted o (yielded ops a.tmps) = (b == want) := fun b hb2 => by
      rw [hb2] at hTd
      have hx := hTd.bool
      have hbd : a.tmps[d]? = some (.bool b) := by
       rw [Array.getD_eq_getD_getElem?] at hx
       cases hy : a.tmps[d]? with
       | none => rw [hy] at hx; simp [undef] at hx
       | some y => rw [hy] at hx; simp at hx; rw [hx]
      simp only [Region.wanted,hg,hyd,hbd]
      cases b <;> cases want <;> rfl
     rcases hrest with ⟨hdv, hdo⟩ | ⟨hdv, hu⟩
     ·rw [hbool want hdv, if_pos (by simp)]
      exact run hdo
     ·have hw : Region.wanted o (yielded ops a.tmps) = false := by
       rcases hdv with hdv | hdv
       ·rw [hbool _ hdv]; cases want <;> rfl
       ·rw [hdv] at hTd
        have hx : a.tmps.getD d undef = undef := by simpa [VR, VR1, C1] using hTd
        simp only [Region.wanted,hg,hyd]
        rw [Array.getD_eq_getD_getElem?] at hx
        cases hy : a.tmps[d]? with
        | none => cases want <;> rfl
        | some y =>
         rw [hy] at hx
         simp only [Option.getD_some] at hx
         subst hx
         cases want <;> rfl
      rw [hw, if_neg (by simp)]
      exact skip hu
   unfold wpOp
   rw [ho]
   dsimp only
   split
   ·rename_i hw; rw [if_pos hw] at hst; exact .inl hst
   ·rename_i hw; rw [if_neg hw] at hst; exact hst
end
end Go.Proofs.Ytpdhdkpebbfnnaa.V
end
section
namespace Go.Proofs.Ytpdhdkpebbfnnaa.V
open Go Go.RowKit

def picks (l : List Oper) : List Nat → List Oper
 | [] => []
 | i :: p => match l[i]? with
  | some o => o :: picks l p
  | none => picks l p
theorem picks_get (l : List Oper) : ∀ (perm : List Nat), (∀ i ∈ perm, i < l.length) → ∀ q : Nat, (picks l perm)[q]? = (perm[q]?).bind fun i : Nat => l[i]?
 | [], _, q => by simp [picks]
 | i :: p, h, q => by
  have hi : i < l.length := h i (by simp)
  have e : picks l (i :: p) = l[i] :: picks l p := by simp only [picks,List.getElem?_eq_getElem hi]
  rw [e]
  cases q with
  | zero => simp [hi]
  | succ q =>
   simp only [List.getElem?_cons_succ]
   exact picks_get l p (fun j hj => h j (by simp [hj])) q
def isSt : Op → Bool
 | .store _ _ _ => true
 | _ => false
def opD (ops : Array Oper) (i : Nat) (f : Oper → Bool) : Bool := match ops[i]? with
 | some o => f o
 | none => false
theorem opD_some {ops : Array Oper} {i : Nat} {f : Oper → Bool} (h : opD ops i f = true) : ∃ o, ops[i]? = some o ∧ f o = true := by
 unfold opD at h
 split at h
 ·rename_i o ho; exact ⟨o, ho, h⟩
 ·cases h
def drawOk2 (ops : Array Oper) (k : Nat) (perm : List Nat) (js qa : Nat) : Bool :=
 decide (k ≤ ops.size ∧ ops.size ≤ 1000000) && decide (perm.length ≤ k) && oneL (picks ops.toList perm) && (perm.all fun i => decide (i < k) && i != js) &&
 ((List.range perm.length).all fun q => (List.range perm.length).all fun r => decide (q = r) || (perm.getD q 0 != perm.getD r 0)) &&
 ((List.range k).all fun i => i == js || perm.contains i) &&
 ((List.range k).all fun j => opD ops j fun o => o.after.all fun e => !Region.binds .any e || decide (e.on < j)) &&
 ((List.range perm.length).all fun q => opD ops (perm.getD q 0) fun o => (o.looksAt ops).all fun t => (List.range perm.length).all fun r =>
  !dstB ops (perm.getD r 0) t || decide (r = q) || (if r < q then reachB ops ops.size o (perm.getD r 0) else opD ops (perm.getD r 0) fun o' => reachB ops ops.size o' (perm.getD q 0))) &&
 (decide (k ≤ js) || opD ops js fun o => o.dst == none && o.guard == none && isSt o.op && ((o.looksAt ops).all fun t => (List.range k).all fun j => !dstB ops j t || reachB ops ops.size o j) &&
  (List.range perm.length).all fun q => decide (q < qa) || reachB ops ops.size o (perm.getD q 0)) &&
 ((List.range ops.size).all fun j => decide (j < k) || (match ops[j]? with
  | some o => (List.range j).all (fun i => reachB ops ops.size o i) && o.after.all (fun e => !Region.binds .any e || decide (e.on < j))
  | none => true))
def isP (m : Nat) : VV → Prop
 | .ptr m' _ => m' = m
 | _ => False
def storeAt (P : Program) (m : Nat) (e : Operand → VV) (H : Heap) (K : Heap → Prop) (o : Option Oper) : Prop := match o with
 | some o => match o.op with
  | .store t y x => cnd (isP m (e y)) (vStore P e H 0 (fun _ G _ => K G) t y x)
  | _ => False
 | none => False
theorem storeAt_some {P : Program} {m : Nat} {e : Operand → VV} {H : Heap} {K : Heap → Prop} {o : Oper} {t : TypeId} {y x : Operand} (ho : o.op = .store t y x) (h : storeAt P m e H K (some o)) :
  ∃ b, K (upd H m (some b)) ∧ vStore P e H 0 (fun v G n => v = .any ∧ G = upd H m (some b) ∧ n = 0) t y x := by
 unfold storeAt at h
 simp only [ho] at h
 obtain ⟨hp, h⟩ := h
 unfold vStore onV at h ⊢
 dsimp only at h ⊢
 cases hy : e y <;> rw [hy] at hp h <;> simp only [isP] at hp <;> try exact hp.elim
 subst hp
 dsimp only at h ⊢
 obtain ⟨b, hb, h⟩ := bnd_iff.1 h
 cases b with
 | map es => exact h.elim
 | row s c =>
  obtain ⟨st, hst, hc, h⟩ := bnd_iff.1 h
  obtain ⟨u, hu, h⟩ := bnd_iff.1 h
  exact ⟨_, h, bnd_intro hb (bnd_intro hst ⟨hc, bnd_intro hu ⟨rfl, rfl, rfl⟩⟩)⟩
theorem oneL_one : ∀ (l : List Oper) (i j : Nat) (o o' : Oper) (t : Nat), oneL l = true → i < j → l[i]? = some o → l[j]? = some o' → o.dst = some t → o'.dst ≠ some t
 | [], _, _, _, _, _, _, _, h, _, _ => by simp at h
 | x :: l, i, 0, _, _, _, _, hij, _, _, _ => by omega
 | x :: l, 0, j + 1, o, o', t, hw, _, h, h', hd => by
  simp only [oneL,Bool.and_eq_true] at hw
  rw [List.getElem?_cons_zero] at h
  injection h with h
  subst h
  rw [hd] at hw
  rw [List.getElem?_cons_succ] at h'
  simpa using (List.all_eq_true.1 hw.1) o' (List.mem_of_getElem? h')
 | x :: l, i + 1, j + 1, o, o', t, hw, hij, h, h', hd => by
  simp only [oneL,Bool.and_eq_true] at hw
  rw [List.getElem?_cons_succ] at h h'
  exact oneL_one l i j o o' t hw.2 (by omega) h h' hd
section
variable {P : Program} {ops : Array Oper} {k js qa : Nat} {perm : List Nat} {K : VS → Prop}
theorem region2p {S : VS} (hm : P.follows .mixedOrders = true) (hfr : ∀ m, S.nx ≤ m → S.hp m = none) (hok : drawOk2 ops k perm js qa = true) {tmF : Nat → VV} {GA GB : Heap}
  (hsame : ∀ t, (∀ o ∈ picks ops.toList perm, o.dst ≠ some t) → tmF t = S.tm t)
  (hnm : ∀ m, m < S.nx → GA m = S.hp m)
  (hA : ∀ (q : Nat) o, (picks ops.toList perm)[q]? = some o → Fact2 P ops.toList (rd2 (picks ops.toList perm) q S.tm tmF) tmF GA (S.nx + 64 * q) o)
  (hB : ∀ (q : Nat) o, (picks ops.toList perm)[q]? = some o → q < qa → (js < k → opD ops js (fun s => reachB ops ops.size s (perm.getD q 0)) = false) → Fact2 P ops.toList (rd2 (picks ops.toList perm) q S.tm tmF) tmF GB (S.nx + 64 * q) o)
  (hqa : k ≤ js → GA = GB)
  (hS : js < k → ∀ o t y x, ops[js]? = some o → o.op = .store t y x → vStore P (ev tmF) GA 0 (fun v G n => v = .any ∧ G = GB ∧ n = 0) t y x)
  (htail : vlist P ops.toList (ops.toList.drop k) ⟨tmF, GB, S.nx + 64 * k⟩ K) : vdraw P ops S K := by
 intro id N B ρ0 w0 Q a w ρ hd hT hdf hts hh hbl he next
 unfold drawOk2 at hok
 simp only [Bool.and_eq_true,decide_eq_true_eq] at hok
 obtain ⟨⟨⟨⟨⟨⟨⟨⟨⟨hk9, hpl⟩, hone⟩, hpk⟩, hun⟩, hall⟩, hbk⟩, hrd⟩, hst⟩, htl⟩ := hok
 have hk := hk9.1
 have rep : ∀ i, (Array.replicate ops.size false).getD i false = false := fun i => by
  rw [Array.getD_eq_getD_getElem?, Array.getElem?_replicate]
  split <;> rfl
 have hpk' : ∀ (q : Nat) i, perm[q]? = some i → i < k ∧ i ≠ js := fun q i hq => by
  have := (List.all_eq_true.1 hpk) i (List.mem_of_getElem? hq)
  simpa using this
 have hlt : ∀ i ∈ perm, i < ops.toList.length := fun i hi => by
  obtain ⟨q, hq, e⟩ := List.mem_iff_getElem.1 hi
  have := (hpk' q i (by rw [List.getElem?_eq_getElem hq, e])).1
  rw [Array.length_toList]; omega
 have hget : ∀ (q i : Nat) o, perm[q]? = some i → ops[i]? = some o → (picks ops.toList perm)[q]? = some o := fun q i o hq ho => by
  rw [picks_get _ _ hlt, hq]
  simpa using ho
 have hgetD : ∀ (q i : Nat), perm[q]? = some i → perm.getD q 0 = i := fun q i hq => by
  rw [List.getD_eq_getElem?_getD, hq]; rfl
 have hql : ∀ (q i : Nat), perm[q]? = some i → q < perm.length := fun q i hq => (List.getElem?_eq_some_iff.1 hq).1
 have hsome : ∀ i, i < k → ∃ o, ops[i]? = some o := fun i hi => ⟨ops[i], by simp [show i < ops.size by omega]⟩
 have hperm : ∀ i, i < k → i ≠ js → ∃ q : Nat, perm[q]? = some i := fun i hi hne => by
  have := (List.all_eq_true.1 hall) i (List.mem_range.2 hi)
  simp only [Bool.or_eq_true,beq_iff_eq] at this
  rcases this with h | h
  ·exact absurd h hne
  ·obtain ⟨q, hq, e⟩ := List.mem_iff_getElem.1 (List.contains_iff_mem.1 h)
   exact ⟨q, by rw [List.getElem?_eq_getElem hq, e]⟩
 have hstore : js < k → ∃ o, ops[js]? = some o ∧ o.dst = none ∧ o.guard = none ∧ isSt o.op = true ∧ (∀ t ∈ o.looksAt ops, ∀ j, j < k → dstB ops j t = true → reachB ops ops.size o j = true) ∧ ∀ (q i : Nat), perm[q]? = some i → qa ≤ q → reachB ops ops.size o i = true := fun hjk => by
  simp only [Bool.or_eq_true,decide_eq_true_eq] at hst
  rcases hst with h | h
  ·omega
  ·obtain ⟨o, ho, h⟩ := opD_some h
   simp only [Bool.and_eq_true,beq_iff_eq] at h
   obtain ⟨⟨⟨⟨h1, h2⟩, h3⟩, h4⟩, h5⟩ := h
   refine ⟨o, ho, h1, h2, h3, fun t ht j hj hdj => ?_, fun q i hq hqq => ?_⟩
   ·have := (List.all_eq_true.1 ((List.all_eq_true.1 h4) t ht)) j (List.mem_range.2 hj)
    simpa [hdj] using this
   ·have := (List.all_eq_true.1 h5) q (List.mem_range.2 (hql q i hq))
    rw [hgetD q i hq] at this
    simp only [Bool.or_eq_true,decide_eq_true_eq] at this
    rcases this with h | h
    ·omega
    ·exact h
 have hdj : ∀ j t, j < k → dstB ops j t = true → j ≠ js := fun j t hj hdt e => by
  subst e
  obtain ⟨o, ho, h1, _⟩ := hstore hj
  obtain ⟨o', ho', h2⟩ := dstB_iff.1 hdt
  rw [ho] at ho'; injection ho' with ho'; subst ho'
  rw [h1] at h2; cases h2
 have hone' : ∀ i j t, i < k → j < k → i ≠ j → dstB ops i t = true → dstB ops j t = false := fun i j t hi hj hij h => by
  cases hx : dstB ops j t with
  | false => rfl
  | true =>
   exfalso
   obtain ⟨q, hq⟩ := hperm i hi (hdj i t hi h)
   obtain ⟨r, hr⟩ := hperm j hj (hdj j t hj hx)
   obtain ⟨o, ho, h1⟩ := dstB_iff.1 h
   obtain ⟨o', ho', h2⟩ := dstB_iff.1 hx
   rcases Nat.lt_trichotomy q r with h' | h' | h'
   ·exact oneL_one _ q r o o' t hone h' (hget q i o hq ho) (hget r j o' hr ho') h1 h2
   ·subst h'
    rw [hq] at hr; injection hr with hr; exact hij hr
   ·exact oneL_one _ r q o' o t hone h' (hget r j o' hr ho') (hget q i o hq ho) h2 h1
 refine wp_region_any hm ?_
 have hnamed : ∀ m l, ρ m = some l → m < S.nx := fun m l hm' => by
  rcases Nat.lt_or_ge m S.nx with h' | h'
  ·exact h'
  ·have := hh.fresh m h'
   rw [this] at hm'
   cases hm'
 have hh0 : HR (ZF (Fr2 S.nx perm (Array.replicate ops.size false))) B ρ GA 0 { w with drawn := w.drawn + 1 } := by
  have hd0 := hh.drew
  refine ⟨hd0.base, fun m hm' => hh.fresh m hm'.1, hd0.lt, fun m m' l l' h1 h2 g1 g2 => ?_, fun m s v l hs hl' => ?_, fun m es l hs hl' => ?_⟩
  ·rw [hnm m (hnamed m l h1)] at g1
   rw [hnm m' (hnamed m' l' h2)] at g2
   exact hd0.apart m m' l l' h1 h2 g1 g2
  ·rw [hnm m (hnamed m l hl')] at hs
   exact hd0.row m s v l hs hl'
  ·rw [hnm m (hnamed m l hl')] at hs
   exact hd0.map m es l hs hl'
 have hext : Ext ρ w ρ { w with drawn := w.drawn + 1 } := ⟨fun _ _ h => h, Nat.le_refl _, fun _ _ _ => rfl, fun _ _ h => .inl h, fun _ h => h, fun _ h => .inl h⟩
 have henv : ∀ (q : Nat) i o t, perm[q]? = some i → ops[i]? = some o → t ∈ o.looksAt ops → ∀ listed, listed.getD i false = false → Closed ops listed → (∀ e ∈ o.after, Region.binds .any e = true → listed.getD e.on false = true) → tmQ ops listed k S.tm tmF t = rd2 (picks ops.toList perm) q S.tm tmF t := by
  intro q i o t hq ho ht listed hif hc hafter
  have hrd2 := (List.all_eq_true.1 hrd) q (List.mem_range.2 (hql q i hq))
  rw [hgetD q i hq] at hrd2
  obtain ⟨o2, ho2, hrd2⟩ := opD_some hrd2
  rw [ho] at ho2; injection ho2 with ho2; subst ho2
  have hrd3 := fun (r j : Nat) (hr : perm[r]? = some j) => by
   have := (List.all_eq_true.1 ((List.all_eq_true.1 hrd2) t ht)) r (List.mem_range.2 (hql r j hr))
   rw [hgetD r j hr] at this
   exact this
  unfold rd2 tmQ
  by_cases hany : (((picks ops.toList perm).drop q).any fun o => o.dst == some t) = true
  ·rw [if_pos hany, if_pos]
   rw [List.any_eq_true] at hany
   obtain ⟨o', ho', hdt⟩ := hany
   obtain ⟨r0, hr0, e⟩ := List.mem_iff_getElem.1 ho'
   have hr : (picks ops.toList perm)[q + r0]? = some o' := by
    rw [← List.getElem?_drop, List.getElem?_eq_getElem hr0, e]
   rw [picks_get _ _ hlt] at hr
   obtain ⟨j, hj, hjo⟩ := Option.bind_eq_some_iff.1 hr
   have hjo : ops[j]? = some o' := by simpa using hjo
   have hjk := (hpk' _ j hj).1
   have hdt : o'.dst = some t := by simpa using hdt
   refine pendB_true.2 ⟨j, hjk, ?_, o', hjo, hdt⟩
   by_cases h0 : r0 = 0
   ·subst h0
    rw [Nat.add_zero, hq] at hj; injection hj with hj
    rw [← hj]; exact hif
   ·have := hrd3 (q + r0) j hj
    rw [dstB_iff.2 ⟨o', hjo, hdt⟩] at this
    simp only [Bool.not_true,Bool.false_or,Bool.or_eq_true,decide_eq_true_eq] at this
    rcases this with h | h
    ·omega
    ·rw [if_neg (by omega)] at h
     obtain ⟨o3, ho3, h⟩ := opD_some h
     rw [hjo] at ho3; injection ho3 with ho3; subst ho3
     cases hx : listed.getD j false with
     | false => rfl
     | true =>
      have := reach_listed hc ops.size o' i h (fun e he hb' => hc j o' hjo hx e he hb')
      rw [hif] at this
      cases this
  ·rw [if_neg hany, if_neg]
   intro e
   obtain ⟨j, h1, h2, o', ho', h3⟩ := pendB_true.1 e
   obtain ⟨r, hr⟩ := hperm j h1 (hdj j t h1 (dstB_iff.2 ⟨o', ho', h3⟩))
   by_cases hrq : q ≤ r
   ·refine hany ?_
    rw [List.any_eq_true]
    refine ⟨o', ?_, by simp [h3]⟩
    have hpr := hget r j o' hr ho'
    have : ((picks ops.toList perm).drop q)[r - q]? = some o' := by rw [List.getElem?_drop, show q + (r - q) = r by omega]; exact hpr
    exact List.mem_of_getElem? this
   ·have := hrd3 r j hr
    rw [dstB_iff.2 ⟨o', ho', h3⟩] at this
    simp only [Bool.not_true,Bool.false_or,Bool.or_eq_true,decide_eq_true_eq] at this
    rcases this with h | h
    ·omega
    ·rw [if_pos (by omega)] at h
     have := reach_listed hc ops.size o j h hafter
     rw [h2] at this
     cases this
 refine head2 (K := K) (GA := GA) (GB := GB) (tm0 := S.tm) (tmF := tmF) (nx := S.nx) (N := N) (B := B) (ρ0 := ρ0) (w0 := w0) (k := k) (js := js) (perm := perm) (env := fun q => rd2 (picks ops.toList perm) q S.tm tmF) hk9 hd ?_ ?_ hperm hpk' hpl ?_ hone' henv ?_ ?_ ?_ hqa htail ?_ ops.size _ a _ ρ (by omega) (by simp) ?_ ?_ ?_ hdf hts ?_ ?_ (he.trans hext)
 ·intro j o hj ho
  have hlt : j < ops.size := (Array.getElem?_eq_some_iff.1 ho).1
  have := (List.all_eq_true.1 htl) j (List.mem_range.2 hlt)
  rw [ho] at this
  simp only [Bool.or_eq_true,decide_eq_true_eq,Bool.and_eq_true] at this
  rcases this with this | ⟨t1, t2⟩
  ·omega
  ·exact ⟨fun i hi => (List.all_eq_true.1 t1) i (List.mem_range.2 hi), fun e he' hb => by
    have := (Array.all_eq_true_iff_forall_mem.1 t2) e he'
    simpa [hb] using this⟩
 ·intro j o hj ho e he' hb
  have := (List.all_eq_true.1 hbk) j (List.mem_range.2 hj)
  obtain ⟨o2, ho2, this⟩ := opD_some this
  rw [ho] at ho2; injection ho2 with ho2; subst ho2
  have := (Array.all_eq_true_iff_forall_mem.1 this) e he'
  simpa [hb] using this
 ·intro q r i hq hr
  have := (List.all_eq_true.1 ((List.all_eq_true.1 hun) q (List.mem_range.2 (hql q i hq)))) r (List.mem_range.2 (hql r i hr))
  rw [hgetD q i hq, hgetD r i hr] at this
  simpa using this
 ·intro q i o hq ho
  exact hA q o (hget q i o hq ho)
 ·intro q i o hq ho
  by_cases h : q < qa
  ·by_cases hp : js < k ∧ opD ops js (fun s => reachB ops ops.size s (perm.getD q 0)) = true
   ·obtain ⟨oj, hoj, h5⟩ := opD_some hp.2
    rw [hgetD q i hq] at h5
    exact .inl ⟨oj, hoj, h5⟩
   ·exact .inr (hB q o (hget q i o hq ho) h fun hj => by
     cases hc : opD ops js (fun s => reachB ops ops.size s (perm.getD q 0)) with
     | false => rfl
     | true => exact absurd ⟨hj, hc⟩ hp)
  ·by_cases hjk : js < k
   ·obtain ⟨oj, hoj, _, _, _, _, h5⟩ := hstore hjk
    exact .inl ⟨oj, hoj, h5 q i hq (by omega)⟩
   ·right
    rw [← hqa (by omega)]
    exact hA q o (hget q i o hq ho)
 ·intro hjk o ho
  obtain ⟨o2, ho2, h1, h2, h3, h4, h5⟩ := hstore hjk
  rw [ho] at ho2; injection ho2 with ho2; subst ho2
  cases hop : o.op <;> rw [hop] at h3 <;> simp only [isSt,Bool.false_eq_true] at h3
  rename_i t y x
  refine ⟨h1, h2, t, y, x, rfl, fun listed hc hafter z hz => ?_, fun z hz => ?_, hS hjk o t y x ho hop⟩
  ·cases z with
   | tmp u =>
    show tmQ ops listed k S.tm tmF u = tmF u
    unfold tmQ
    rw [if_neg]
    intro e
    obtain ⟨j, g1, g2, o', ho', g3⟩ := pendB_true.1 e
    have := h4 u (looks_operand (by rw [hop]; exact hz)) j g1 (dstB_iff.2 ⟨o', ho', g3⟩)
    have := reach_listed hc ops.size o j this hafter
    rw [g2] at this
    cases this
   | _ => rfl
  ·rcases hz with rfl | rfl <;> simp [Op.operands]
 ·intro S' a' w' ρ' hk' hS'
  exact next S' a' w' ρ' hk' hS'.tm hS'.defers hS'.size hS'.heap hS'.below hS'.ext
 ·intro i _
  exact rep i
 ·intro i o _ hli
  rw [rep i] at hli
  cases hli
 ·intro t
  unfold tmQ
  split
  ·exact (hT.ext hext) t
  ·rename_i hp
   rw [hsame t]
   ·exact (hT.ext hext) t
   ·intro o ho e
    obtain ⟨q, hq, e2⟩ := List.mem_iff_getElem.1 ho
    have hq2 : (picks ops.toList perm)[q]? = some o := by rw [List.getElem?_eq_getElem hq, e2]
    rw [picks_get _ _ hlt] at hq2
    obtain ⟨j, hj, hjo⟩ := Option.bind_eq_some_iff.1 hq2
    exact hp (pendB_true.2 ⟨j, (hpk' q j hj).1, rep j, o, by simpa using hjo, e⟩)
 ·rw [if_neg (by rw [rep]; simp)]
  exact hh0
 ·exact hbl.drew
theorem region2 {S : VS} (hm : P.follows .mixedOrders = true) (hfr : ∀ m, S.nx ≤ m → S.hp m = none) (hok : drawOk2 ops k perm js qa = true) {tmF : Nat → VV} {GA GB : Heap}
  (hsame : ∀ t, (∀ o ∈ picks ops.toList perm, o.dst ≠ some t) → tmF t = S.tm t)
  (hnm : ∀ m, m < S.nx → GA m = S.hp m)
  (hA : ∀ (q : Nat) o, (picks ops.toList perm)[q]? = some o → Fact2 P ops.toList (rd2 (picks ops.toList perm) q S.tm tmF) tmF GA (S.nx + 64 * q) o)
  (hB : ∀ (q : Nat) o, (picks ops.toList perm)[q]? = some o → q < qa → Fact2 P ops.toList (rd2 (picks ops.toList perm) q S.tm tmF) tmF GB (S.nx + 64 * q) o)
  (hqa : k ≤ js → GA = GB)
  (hS : js < k → ∀ o t y x, ops[js]? = some o → o.op = .store t y x → vStore P (ev tmF) GA 0 (fun v G n => v = .any ∧ G = GB ∧ n = 0) t y x)
  (htail : vlist P ops.toList (ops.toList.drop k) ⟨tmF, GB, S.nx + 64 * k⟩ K) : vdraw P ops S K :=
 region2p hm hfr hok hsame hnm hA (fun q o ho hq _ => hB q o ho hq) hqa hS htail
theorem regionN {S : VS} (hm : P.follows .mixedOrders = true) (hfr : ∀ m, S.nx ≤ m → S.hp m = none) (hok : drawOk2 ops k perm ops.size perm.length = true)
  (h : vheld P ops.toList (picks ops.toList perm) S.tm S.hp S.nx fun tm H n => vlist P ops.toList (ops.toList.drop k) ⟨tm, H, S.nx + 64 * k⟩ K) : vdraw P ops S K := by
 have hok' := hok
 unfold drawOk2 at hok'
 simp only [Bool.and_eq_true,decide_eq_true_eq] at hok'
 obtain ⟨⟨⟨⟨⟨⟨⟨⟨⟨hk9, hpl⟩, hone⟩, hpk⟩, hun⟩, hall⟩, hbk⟩, hrd⟩, hst⟩, htl⟩ := hok'
 have hk := hk9.1
 obtain ⟨tmF, G, k1, k2, k3, k4⟩ := held2 (ops := ops) _ S.tm S.hp S.nx hone hfr h
 have hA : ∀ (q : Nat) o, (picks ops.toList perm)[q]? = some o → Fact2 P ops.toList (rd2 (picks ops.toList perm) q S.tm tmF) tmF G (S.nx + 64 * q) o := fun q o ho => by
  obtain ⟨Hq, q1, q2, q3, q4⟩ := k4 q o ho
  exact q4 G q3
 exact region2 hm hfr hok (GA := G) (GB := G) k2 (fun m hm' => k3.2 m hm') hA (fun q o ho _ => hA q o ho) (fun _ => rfl) (fun h => by omega) k1
theorem regionF {S : VS} (hm : P.follows .mixedOrders = true) (hfr : ∀ m, S.nx ≤ m → S.hp m = none) (hok : drawOk2 ops k perm js qa = true) (hjk : js < k) (m : Nat) (hmq : S.nx + 64 * qa ≤ m)
  (h : vheld P ops.toList (picks ops.toList perm) S.tm S.hp S.nx fun tm H n => storeAt P m (ev tm) H (fun G => vlist P ops.toList (ops.toList.drop k) ⟨tm, G, S.nx + 64 * k⟩ K) ops[js]?) : vdraw P ops S K := by
 have hok' := hok
 unfold drawOk2 at hok'
 simp only [Bool.and_eq_true,decide_eq_true_eq] at hok'
 obtain ⟨⟨⟨⟨⟨⟨⟨⟨⟨hk9, hpl⟩, hone⟩, hpk⟩, hun⟩, hall⟩, hbk⟩, hrd⟩, hst⟩, htl⟩ := hok'
 have hk := hk9.1
 obtain ⟨tmF, G, k1, k2, k3, k4⟩ := held2 (ops := ops) _ S.tm S.hp S.nx hone hfr h
 have hst' : opD ops js (fun o => isSt o.op) = true := by
  simp only [Bool.or_eq_true,decide_eq_true_eq] at hst
  rcases hst with h | h
  ·omega
  ·obtain ⟨o, ho, h⟩ := opD_some h
   simp only [Bool.and_eq_true] at h
   unfold opD
   rw [ho]
   exact h.1.1.2
 obtain ⟨o, ho, hs⟩ := opD_some hst'
 rw [ho] at k1
 cases hop : o.op <;> rw [hop] at hs <;> simp only [isSt,Bool.false_eq_true] at hs
 rename_i t y x
 obtain ⟨b, g1, g2⟩ := storeAt_some hop k1
 refine region2 hm hfr hok (GA := G) (GB := upd G m (some b)) k2 (fun m' hm' => k3.2 m' hm') (fun q o ho => ?_) (fun q o ho hq => ?_) (fun h => by omega) (fun _ o' t' y' x' ho' hop' => ?_) g1
 ·obtain ⟨Hq, q1, q2, q3, q4⟩ := k4 q o ho
  exact q4 G q3
 ·obtain ⟨Hq, q1, q2, q3, q4⟩ := k4 q o ho
  refine q4 _ fun m' b' hb' => ?_
  rw [upd_ap, if_neg]
  ·exact q3 m' b' hb'
  ·intro e
   subst e
   rw [q2 m' (by omega)] at hb'
   cases hb'
 ·rw [ho] at ho'; injection ho' with ho'; subst ho'
  rw [hop] at hop'; injection hop' with e1 e2 e3
  subst e1 e2 e3
  exact g2
theorem regionE {S : VS} (hm : P.follows .mixedOrders = true) (hfr : ∀ m, S.nx ≤ m → S.hp m = none) (hok : drawOk2 ops k perm js perm.length = true) (hjk : js < k) (m : Nat) (hmn : m < S.nx) (old : Blk) (hold : S.hp m = some old)
  (h : vheld P ops.toList (picks ops.toList perm) S.tm (upd S.hp m none) S.nx fun tm H n => storeAt P m (ev tm) (upd H m (some old)) (fun G => vlist P ops.toList (ops.toList.drop k) ⟨tm, G, S.nx + 64 * k⟩ K) ops[js]?) : vdraw P ops S K := by
 have hok' := hok
 unfold drawOk2 at hok'
 simp only [Bool.and_eq_true,decide_eq_true_eq] at hok'
 obtain ⟨⟨⟨⟨⟨⟨⟨⟨⟨hk9, hpl⟩, hone⟩, hpk⟩, hun⟩, hall⟩, hbk⟩, hrd⟩, hst⟩, htl⟩ := hok'
 have hk := hk9.1
 obtain ⟨tmF, G, k1, k2, k3, k4⟩ := held2 (ops := ops) _ S.tm (upd S.hp m none) S.nx hone (fun m' hm' => by rw [upd_ap]; split; rfl; exact hfr m' hm') h
 have hst' : opD ops js (fun o => isSt o.op) = true := by
  simp only [Bool.or_eq_true,decide_eq_true_eq] at hst
  rcases hst with h | h
  ·omega
  ·obtain ⟨o, ho, h⟩ := opD_some h
   simp only [Bool.and_eq_true] at h
   unfold opD
   rw [ho]
   exact h.1.1.2
 obtain ⟨o, ho, hs⟩ := opD_some hst'
 rw [ho] at k1
 cases hop : o.op <;> rw [hop] at hs <;> simp only [isSt,Bool.false_eq_true] at hs
 rename_i t y x
 obtain ⟨b, g1, g2⟩ := storeAt_some hop k1
 have key : ∀ (b : Blk) (q : Nat) o, (picks ops.toList perm)[q]? = some o → Fact2 P ops.toList (rd2 (picks ops.toList perm) q S.tm tmF) tmF (upd G m (some b)) (S.nx + 64 * q) o := fun b q o ho => by
  obtain ⟨Hq, q1, q2, q3, q4⟩ := k4 q o ho
  refine q4 _ fun m' b' hb' => ?_
  rw [upd_ap, if_neg]
  ·exact q3 m' b' hb'
  ·intro e
   subst e
   rw [q1 m' hmn, upd_ap, if_pos rfl] at hb'
   cases hb'
 have hupd : upd (upd G m (some old)) m (some b) = upd G m (some b) := by
  funext m'
  simp only [upd_ap]
  split <;> rfl
 rw [hupd] at g1 g2
 refine region2 hm hfr hok (GA := upd G m (some old)) (GB := upd G m (some b)) k2 (fun m' hm' => ?_) (key old) (fun q o ho _ => key b q o ho) (fun h => by omega) (fun _ o' t' y' x' ho' hop' => ?_) g1
 ·rw [upd_ap]
  split
  ·rename_i e; rw [e, hold]
  ·rename_i e; rw [k3.2 m' hm', upd_ap, if_neg e]
 ·rw [ho] at ho'; injection ho' with ho'; subst ho'
  rw [hop] at hop'; injection hop' with e1 e2 e3
  subst e1 e2 e3
  exact g2
end
section
variable {P : Program} {n0 : Nat} {K : VX → VS → Prop}
theorem ok_drawN {id : Nat} {l : List Oper} {tm : Nat → VV} {H : Heap} {n : Nat} (k : Nat) (perm : List Nat) (hm : P.follows .mixedOrders = true) (hd : drawOk2 l.toArray k perm l.toArray.size perm.length = true) (hfr : ∀ m, n ≤ m → H m = none)
  (h : ∀ M : VS → Prop, (∀ S, K .normal S → M S) → vh P l (picks l perm) tm H n fun tm H _ => vl P l (l.drop k) ⟨tm, H, n + 64 * k⟩ M) : Ok P n0 (.region id l.toArray true) ⟨tm, H, n⟩ K := fun N B ρ0 w0 Q a w ρ h0 hok hS next => by
 simp only [codeOk,List.all_eq_true] at hok
 exact regionN (S := ⟨tm, H, n⟩) hm hfr hd (by simpa only [vh_def,vl_def] using h _ fun _ h => h) id N B ρ0 w0 Q a w ρ (fun o ho t ht => by have := hok o ho; rw [ht] at this; simpa using this) hS.tm hS.defers hS.size hS.heap hS.below hS.ext
  fun S' a' w' ρ' hk h1 h2 h3 h4 h5 h6 => next .normal S' a' w' ρ' hk ⟨h1, h2, h3, h4, h5, h6⟩
theorem ok_drawF {id : Nat} {l : List Oper} {tm : Nat → VV} {H : Heap} {n : Nat} (k : Nat) (perm : List Nat) (js qa m : Nat) (hm : P.follows .mixedOrders = true) (hd : drawOk2 l.toArray k perm js qa = true) (hjk : js < k) (hmq : n + 64 * qa ≤ m) (hfr : ∀ m, n ≤ m → H m = none)
  (h : ∀ M : VS → Prop, (∀ S, K .normal S → M S) → vh P l (picks l perm) tm H n fun tm H _ => storeAt P m (ev tm) H (fun G => vl P l (l.drop k) ⟨tm, G, n + 64 * k⟩ M) l[js]?) : Ok P n0 (.region id l.toArray true) ⟨tm, H, n⟩ K := fun N B ρ0 w0 Q a w ρ h0 hok hS next => by
 simp only [codeOk,List.all_eq_true] at hok
 exact regionF (S := ⟨tm, H, n⟩) hm hfr hd hjk m hmq (by simpa only [vh_def,vl_def,List.getElem?_toArray] using h _ fun _ h => h) id N B ρ0 w0 Q a w ρ (fun o ho t ht => by have := hok o ho; rw [ht] at this; simpa using this) hS.tm hS.defers hS.size hS.heap hS.below hS.ext
  fun S' a' w' ρ' hk h1 h2 h3 h4 h5 h6 => next .normal S' a' w' ρ' hk ⟨h1, h2, h3, h4, h5, h6⟩
theorem ok_drawE {id : Nat} {l : List Oper} {tm : Nat → VV} {H : Heap} {n : Nat} (k : Nat) (perm : List Nat) (js m : Nat) (hm : P.follows .mixedOrders = true) (hd : drawOk2 l.toArray k perm js perm.length = true) (hjk : js < k) (hmn : m < n) {old : Blk} (hold : H m = some old) (hfr : ∀ m, n ≤ m → H m = none)
  (h : ∀ M : VS → Prop, (∀ S, K .normal S → M S) → vh P l (picks l perm) tm (upd H m none) n fun tm H _ => storeAt P m (ev tm) (upd H m (some old)) (fun G => vl P l (l.drop k) ⟨tm, G, n + 64 * k⟩ M) l[js]?) : Ok P n0 (.region id l.toArray true) ⟨tm, H, n⟩ K := fun N B ρ0 w0 Q a w ρ h0 hok hS next => by
 simp only [codeOk,List.all_eq_true] at hok
 exact regionE (S := ⟨tm, H, n⟩) hm hfr hd hjk m hmn old hold (by simpa only [vh_def,vl_def,List.getElem?_toArray] using h _ fun _ h => h) id N B ρ0 w0 Q a w ρ (fun o ho t ht => by have := hok o ho; rw [ht] at this; simpa using this) hS.tm hS.defers hS.size hS.heap hS.below hS.ext
  fun S' a' w' ρ' hk h1 h2 h3 h4 h5 h6 => next .normal S' a' w' ρ' hk ⟨h1, h2, h3, h4, h5, h6⟩
end
theorem storeAt_go (P : Program) (m : Nat) (e : Operand → VV) (H : Heap) (K : Heap → Prop) (d : Option Tmp) (t : TypeId) (y x : Operand) (ty : TypeId) (ps : String) (af : Array Edge) (g : Option (Nat × Bool)) :
  storeAt P m e H K (some ⟨d, .store t y x, ty, ps, af, g⟩) = cnd (isP m (e y)) (vStore P e H 0 (fun _ G _ => K G) t y x) := id (Eq.refl _)
theorem isP_ptr (m m' : Nat) (p : List Nat) : isP m (.ptr m' p) = (m' = m) := id (Eq.refl _)
end Go.Proofs.Ytpdhdkpebbfnnaa.V
end
section
namespace Go.Proofs.Ytpdhdkpebbfnnaa.V
open Go Go.RowKit

def reachC (ops : Array Oper) : Nat → Oper → Nat → Bool
 | 0, _, _ => false
 | f + 1, o, j => o.after.any fun e => Region.binds .any e && (e.on == j || (decide (j < e.on) && (match ops[e.on]? with | some o' => reachC ops f o' j | none => false)))
theorem reachC_B {ops : Array Oper} : ∀ (f : Nat) (o : Oper) (j : Nat), reachC ops f o j = true → reachB ops f o j = true
 | 0, _, _, h => by simp [reachC] at h
 | f + 1, o, j, h => by
  simp only [reachC,reachB,Array.any_eq_true'] at h ⊢
  obtain ⟨e, he, h⟩ := h
  refine ⟨e, he, ?_⟩
  simp only [Bool.and_eq_true,Bool.or_eq_true,beq_iff_eq,decide_eq_true_eq] at h ⊢
  obtain ⟨hb, h⟩ := h
  refine ⟨hb, ?_⟩
  rcases h with h | ⟨_, h⟩
  ·exact .inl h
  ·right
   split at h
   ·rename_i o' ho'
    rw [ho']
    exact reachC_B f o' j h
   ·cases h
def drawOkC (ops : Array Oper) (k : Nat) : Bool :=
 decide (k ≤ ops.size ∧ ops.size ≤ 1000000) && wfL ops (ops.toList.take k) && (List.range k).all (fun j => match ops[j]? with | some o => o.after.all (fun e => !Region.binds .any e || decide (e.on < j)) | none => true) &&
 ((List.range k).all fun i => match ops[i]? with
  | some o => (o.looksAt ops).all fun t => (List.range k).all fun j => (match ops[j]? with | some o' => o'.dst != some t | none => true) || reachC ops ops.size o j
  | none => true) &&
 ((List.range ops.size).all fun j => decide (j < k) || (match ops[j]? with
  | some o => (List.range j).all (fun i => reachC ops ops.size o i) && o.after.all (fun e => !Region.binds .any e || decide (e.on < j))
  | none => true))
theorem all_mono {α : Type} {p q : α → Bool} {l : List α} (hpq : ∀ x ∈ l, p x = true → q x = true) (h : l.all p = true) : l.all q = true :=
 List.all_eq_true.2 fun x hx => hpq x hx (List.all_eq_true.1 h x hx)
theorem or_mono {a b c : Bool} (hbc : b = true → c = true) (h : (a || b) = true) : (a || c) = true := by
 cases a
 ·exact hbc h
 ·rfl
theorem drawOkC_ok {ops : Array Oper} {k : Nat} (h : drawOkC ops k = true) : drawOk ops k = true := by
 unfold drawOkC at h
 unfold drawOk
 simp only [Bool.and_eq_true] at h ⊢
 obtain ⟨⟨⟨⟨h1, h2⟩, h3⟩, h4⟩, h5⟩ := h
 refine ⟨⟨⟨⟨h1, h2⟩, h3⟩, all_mono (fun i _ hi => ?_) h4⟩, all_mono (fun j _ hj => or_mono (fun hj => ?_) hj) h5⟩
 ·split at hi
  ·rename_i o ho
   rw [ho]
   exact all_mono (fun t _ ht => all_mono (fun j _ hj => or_mono (reachC_B _ _ _) hj) ht) hi
  ·rename_i ho; rw [ho]
 ·split at hj
  ·rename_i o ho
   rw [ho]
   simp only [Bool.and_eq_true] at hj ⊢
   exact ⟨all_mono (fun i _ hi => reachC_B _ _ _ hi) hj.1, hj.2⟩
  ·rename_i ho; rw [ho]
section
variable {P : Program} {n0 : Nat} {K : VX → VS → Prop}
theorem ok_drawC {id : Nat} {l : List Oper} {tm : Nat → VV} {H : Heap} {n : Nat} (k : Nat) (hm : P.follows .mixedOrders = true) (hd : drawOkC l.toArray k = true) (hfr : ∀ m, n ≤ m → H m = none)
  (h : ∀ M : VS → Prop, (∀ S, K .normal S → M S) → vh P l (l.take k) tm H n fun tm H n => vl P l (l.drop k) ⟨tm, H, n⟩ M) : Ok P n0 (.region id l.toArray true) ⟨tm, H, n⟩ K := ok_draw k hm (drawOkC_ok hd) hfr h
end
section
variable {P : Program} {N : NN} {B : Nat} {ρ0 : Names} {w0 : World} {ops : Array Oper} {k nx : Nat} {sts : List (Nat × Nat × Blk)} {perm : List Nat} {tm0 tmF : Nat → VV} {GA : Heap} {env : Nat → Nat → VV} {K : VS → Prop} {Q : Exit → Act → World → Prop}
end
section
variable {P : Program} {ops : Array Oper} {k : Nat} {perm : List Nat} {ss : List (Nat × Nat)} {sts : List (Nat × Nat × Blk)} {K : VS → Prop}
end
section
variable {P : Program} {n0 : Nat} {K : VX → VS → Prop}
end
end Go.Proofs.Ytpdhdkpebbfnnaa.V
end
section
namespace Go.Proofs.Ytpdhdkpebbfnnaa.V
open Go
theorem ynT6 {l : List VV} (h : nls l = true := by first|rfl|assumption|(simp only [znl,znT6];(first|done|fail))) : nls l = true := h
set_option maxRecDepth 100000
def znT6 := And.intro @jO <| And.intro @jP <| And.intro @jQ <| And.intro @jR <| And.intro @jS <| And.intro @jT <| And.intro @jU <| True.intro
set_option maxHeartbeats 8000000
structure Exe where
 ws : List Int
 data : List UInt8
 z : Int
 en : Int
abbrev encWords (l : List Int) : VV := .dat .cell (l.map (.int .u32))
abbrev encExe (e : Exe) : VV := .agg [encWords e.ws, .str e.data, .int .i64 e.z, .int .u32 e.en]
structure ExeR (e : Exe) : Prop where
 ws : e.ws.length ≤ 20000
 wsR : ∀ x ∈ e.ws, u32R x
 data : e.data.length ≤ 20000
 z : i64R e.z
 en : u32R e.en
def pagesI (x : Int) : Int := (x + 127) / 128
def okE (e : Exe) : Prop := 1 ≤ e.ws.length ∧ e.ws.length ≤ 448 ∧ 0 ≤ e.z ∧ e.en % 4 = 0 ∧ e.en < 4 * e.ws.length ∧ e.data.length ≤ 1792 ∧ e.z ≤ 1792 ∧ pagesI (4 * e.ws.length) + pagesI (e.data.length + e.z) ≤ 14
instance (e : Exe) : Decidable (okE e) := by unfold okE; infer_instance
theorem spages_spec (x : Int) (h0 : 0 ≤ x) (h1 : x ≤ 1000000000) : Spec Try.prog 63 [.int .i64 x] (.int .i64 (pagesI x)) := by
 unfold pagesI
 refine spec_ok Try.func63 rfl rfl (by kernel_rfl) (k := 1) rfl (by decide) ?_
 repeat' (first|(with_reducible first|refine yrl (by constructor) ?_|refine jk (fun M hM=>?_)|(refine hM _ ?_;clear hM M)|refine yx3 ?_|refine yxa ?_ ?_|refine yxb ?_ ?_)|((with_reducible refine je ?_)<;>exact ynT6)|(with_reducible refine yxc ?_)|((with_reducible refine yxi (fun hc=>?_) (fun hc=>?_))<;>(try simp (disch:=omega) only [zhb] at hc)<;>(try (exfalso;omega))<;>(try subst hc))|(with_reducible refine yxw ?_)|(simp (config := { maxSteps := 400000 }) only [↓jt,↓reduceIte,zvs,reduceCtorEq,seval,tab,Try.results63,jTA])|(simp (disch:=omega) only [ziw]))
 all_goals first
  | (exfalso; omega)
  | (simp only [zrds]; done)
  | (simp only [zrds]; omega)
theorem rpages_spec (x : Int) (h0 : 0 ≤ x) (h1 : x ≤ 1000000000) : Spec Try.prog 132 [.int .i64 x] (.int .i64 (pagesI x)) := by
 unfold pagesI
 refine spec_ok Try.func132 rfl rfl (by kernel_rfl) (k := 1) rfl (by decide) ?_
 repeat' (first|(with_reducible first|refine yrl (by constructor) ?_|refine jk (fun M hM=>?_)|(refine hM _ ?_;clear hM M)|refine yx3 ?_|refine yxa ?_ ?_|refine yxb ?_ ?_)|((with_reducible refine je ?_)<;>exact ynT6)|(with_reducible refine yxc ?_)|((with_reducible refine yxi (fun hc=>?_) (fun hc=>?_))<;>(try simp (disch:=omega) only [zhb] at hc)<;>(try (exfalso;omega))<;>(try subst hc))|(with_reducible refine yxw ?_)|(simp (config := { maxSteps := 400000 }) only [↓jt,↓reduceIte,zvs,reduceCtorEq,seval,tab,Try.results132,jTA])|(simp (disch:=omega) only [ziw]))
 all_goals first
  | (exfalso; omega)
  | (simp only [zrds]; done)
  | (simp only [zrds]; omega)
theorem rcheckE_spec (e : Exe) (he : ExeR e) : Spec Try.prog 95 [encExe e] (.int .i64 (if okE e then 0 else 1)) := by
 obtain ⟨R, hR⟩ : ∃ R : Int, R = if okE e then 0 else 1 := ⟨_, rfl⟩
 rw [← hR]
 obtain ⟨e1, e2⟩ := he.en
 obtain ⟨z1, z2⟩ := he.z
 have hw := he.ws
 have hd := he.data
 have hyes : okE e → R = 0 := fun h => by rw [hR, if_pos h]
 have hno : ¬okE e → R = 1 := fun h => by rw [hR, if_neg h]
 clear hR
 unfold okE at hyes hno
 by_cases hsz : 1 ≤ e.ws.length ∧ e.ws.length ≤ 448 ∧ 0 ≤ e.z ∧ e.z ≤ 2048 ∧ e.data.length ≤ 2048
 ·have P1 := rpages_spec (4 * e.ws.length) (by omega) (by omega)
  have P2 := rpages_spec (e.data.length + e.z) (by omega) (by omega)
  have hpa : pagesI (4 * e.ws.length) * 128 < 4 * e.ws.length + 128 ∧ 4 * e.ws.length ≤ pagesI (4 * e.ws.length) * 128 := by unfold pagesI; omega
  have hpb : pagesI (e.data.length + e.z) * 128 < e.data.length + e.z + 128 ∧ e.data.length + e.z ≤ pagesI (e.data.length + e.z) * 128 := by unfold pagesI; omega
  generalize pagesI (4 * e.ws.length) = a at P1 hyes hno hpa
  generalize pagesI (e.data.length + e.z) = b at P2 hyes hno hpb
  refine spec_ok Try.func95 rfl rfl (by kernel_rfl) (k := 1) rfl (by decide) ?_
  repeat' (first|(with_reducible first|refine yrl (by constructor) ?_|refine jk (fun M hM=>?_)|(refine hM _ ?_;clear hM M)|refine yx3 ?_|refine yxa ?_ ?_|refine yxb ?_ ?_)|((with_reducible refine je ?_)<;>exact ynT6)|(with_reducible refine yxc ?_)|((with_reducible refine yxi (fun hc=>?_) (fun hc=>?_))<;>(try simp (disch:=omega) only [zhb] at hc)<;>(try (exfalso;omega))<;>(try subst hc))|(with_reducible refine yxw ?_)|(simp (config := { maxSteps := 400000 }) only [↓jt,↓reduceIte,zvs,reduceCtorEq,seval,tab,Try.results95,jTA])|(simp (disch:=omega) only [ziw]))
  all_goals first
   | (exfalso; omega)
   | (rw [hno (by omega)]; simp only [zrds]; done)
   | skip
  refine ok_drawC 11 (by kernel_rfl) (by decide +kernel) (by intro m hm; simp only [upd_ap,rows_cons,rows_nil]; (repeat (first | rfl | rw [if_neg (by omega)]))) (fun M hM => ?_); simp only [List.take_succ_cons,List.take_zero,List.drop_succ_cons,List.drop_zero]
  repeat' (first|(with_reducible first|refine yrl (by constructor) ?_|refine jk (fun M hM=>?_)|(refine hM _ ?_;clear hM M)|refine yx3 ?_|refine yxa ?_ ?_|refine yxb ?_ ?_)|((with_reducible refine je ?_)<;>exact ynT6)|(with_reducible refine yxc ?_)|((with_reducible refine yxi (fun hc=>?_) (fun hc=>?_))<;>(try simp (disch:=omega) only [zhb] at hc)<;>(try (exfalso;omega))<;>(try subst hc))|(with_reducible refine yxw ?_)|(simp (config := { maxSteps := 400000 }) only [↓jt,↓reduceIte,zvs,reduceCtorEq,seval,tab,Try.results95,jTA])|(simp (disch:=omega) only [ziw]))
  all_goals first
   | (exfalso; omega)
   | (rw [hno (by omega)]; simp only [zrds]; done)
   | (rw [hyes (by omega)]; simp only [zrds]; done)
 ·have hn := hno (fun h => hsz ⟨h.1, h.2.1, h.2.2.1, by omega, by omega⟩)
  rw [hn]
  refine spec_ok Try.func95 rfl rfl (by kernel_rfl) (k := 1) rfl (by decide) ?_
  repeat' (first|(with_reducible first|refine yrl (by constructor) ?_|refine jk (fun M hM=>?_)|(refine hM _ ?_;clear hM M)|refine yx3 ?_|refine yxa ?_ ?_|refine yxb ?_ ?_)|((with_reducible refine je ?_)<;>exact ynT6)|(with_reducible refine yxc ?_)|((with_reducible refine yxi (fun hc=>?_) (fun hc=>?_))<;>(try simp (disch:=omega) only [zhb] at hc)<;>(try (exfalso;omega))<;>(try subst hc))|(with_reducible refine yxw ?_)|(simp (config := { maxSteps := 400000 }) only [↓jt,↓reduceIte,zvs,reduceCtorEq,seval,tab,Try.results95,jTA])|(simp (disch:=omega) only [ziw]))
  all_goals first
   | (exfalso; omega)
   | (simp only [zrds]; done)
theorem scheckE_spec (e : Exe) (he : ExeR e) : Spec Try.prog 59 [encExe e] (.int .i64 (if okE e then 0 else 1)) := by
 obtain ⟨R, hR⟩ : ∃ R : Int, R = if okE e then 0 else 1 := ⟨_, rfl⟩
 rw [← hR]
 obtain ⟨e1, e2⟩ := he.en
 obtain ⟨z1, z2⟩ := he.z
 have hw := he.ws
 have hd := he.data
 have hyes : okE e → R = 0 := fun h => by rw [hR, if_pos h]
 have hno : ¬okE e → R = 1 := fun h => by rw [hR, if_neg h]
 clear hR
 unfold okE at hyes hno
 by_cases hsz : 1 ≤ e.ws.length ∧ e.ws.length ≤ 448 ∧ 0 ≤ e.z ∧ e.z ≤ 1792 ∧ e.data.length ≤ 1792
 ·have P1 := spages_spec (4 * e.ws.length) (by omega) (by omega)
  have P2 := spages_spec (e.data.length + e.z) (by omega) (by omega)
  have hpa : pagesI (4 * e.ws.length) * 128 < 4 * e.ws.length + 128 ∧ 4 * e.ws.length ≤ pagesI (4 * e.ws.length) * 128 := by unfold pagesI; omega
  have hpb : pagesI (e.data.length + e.z) * 128 < e.data.length + e.z + 128 ∧ e.data.length + e.z ≤ pagesI (e.data.length + e.z) * 128 := by unfold pagesI; omega
  generalize pagesI (4 * e.ws.length) = a at P1 hyes hno hpa
  generalize pagesI (e.data.length + e.z) = b at P2 hyes hno hpb
  refine spec_ok Try.func59 rfl rfl (by kernel_rfl) (k := 1) rfl (by decide) ?_
  repeat' (first|(with_reducible first|refine yrl (by constructor) ?_|refine jk (fun M hM=>?_)|(refine hM _ ?_;clear hM M)|refine yx3 ?_|refine yxa ?_ ?_|refine yxb ?_ ?_)|((with_reducible refine je ?_)<;>exact ynT6)|(with_reducible refine yxc ?_)|((with_reducible refine yxi (fun hc=>?_) (fun hc=>?_))<;>(try simp (disch:=omega) only [zhb] at hc)<;>(try (exfalso;omega))<;>(try subst hc))|(with_reducible refine yxw ?_)|(simp (config := { maxSteps := 400000 }) only [↓jt,↓reduceIte,zvs,reduceCtorEq,seval,tab,Try.results59,jTA])|(simp (disch:=omega) only [ziw]))
  all_goals first
   | (exfalso; omega)
   | (rw [hno (by omega)]; simp only [zrds]; done)
   | skip
  refine ok_drawC 19 (by kernel_rfl) (by decide +kernel) (by intro m hm; simp only [upd_ap,rows_cons,rows_nil]; (repeat (first | rfl | rw [if_neg (by omega)]))) (fun M hM => ?_); simp only [List.take_succ_cons,List.take_zero,List.drop_succ_cons,List.drop_zero]
  repeat' (first|(with_reducible first|refine yrl (by constructor) ?_|refine jk (fun M hM=>?_)|(refine hM _ ?_;clear hM M)|refine yx3 ?_|refine yxa ?_ ?_|refine yxb ?_ ?_)|((with_reducible refine je ?_)<;>exact ynT6)|(with_reducible refine yxc ?_)|((with_reducible refine yxi (fun hc=>?_) (fun hc=>?_))<;>(try simp (disch:=omega) only [zhb] at hc)<;>(try (exfalso;omega))<;>(try subst hc))|(with_reducible refine yxw ?_)|(simp (config := { maxSteps := 400000 }) only [↓jt,↓reduceIte,zvs,reduceCtorEq,seval,tab,Try.results59,jTA])|(simp (disch:=omega) only [ziw]))
  all_goals first
   | (exfalso; omega)
   | (rw [hno (by omega)]; simp only [zrds]; done)
   | (rw [hyes (by omega)]; simp only [zrds]; done)
 ·have hn := hno (fun h => hsz ⟨h.1, h.2.1, h.2.2.1, by omega, by omega⟩)
  rw [hn]
  refine spec_ok Try.func59 rfl rfl (by kernel_rfl) (k := 1) rfl (by decide) ?_
  repeat' (first|(with_reducible first|refine yrl (by constructor) ?_|refine jk (fun M hM=>?_)|(refine hM _ ?_;clear hM M)|refine yx3 ?_|refine yxa ?_ ?_|refine yxb ?_ ?_)|((with_reducible refine je ?_)<;>exact ynT6)|(with_reducible refine yxc ?_)|((with_reducible refine yxi (fun hc=>?_) (fun hc=>?_))<;>(try simp (disch:=omega) only [zhb] at hc)<;>(try (exfalso;omega))<;>(try subst hc))|(with_reducible refine yxw ?_)|(simp (config := { maxSteps := 400000 }) only [↓jt,↓reduceIte,zvs,reduceCtorEq,seval,tab,Try.results59,jTA])|(simp (disch:=omega) only [ziw]))
  all_goals first
   | (exfalso; omega)
   | (simp only [zrds]; done)
   | skip
  refine ok_drawC 19 (by kernel_rfl) (by decide +kernel) (by intro m hm; simp only [upd_ap,rows_cons,rows_nil]; (repeat (first | rfl | rw [if_neg (by omega)]))) (fun M hM => ?_); simp only [List.take_succ_cons,List.take_zero,List.drop_succ_cons,List.drop_zero]
  repeat' (first|(with_reducible first|refine yrl (by constructor) ?_|refine jk (fun M hM=>?_)|(refine hM _ ?_;clear hM M)|refine yx3 ?_|refine yxa ?_ ?_|refine yxb ?_ ?_)|((with_reducible refine je ?_)<;>exact ynT6)|(with_reducible refine yxc ?_)|((with_reducible refine yxi (fun hc=>?_) (fun hc=>?_))<;>(try simp (disch:=omega) only [zhb] at hc)<;>(try (exfalso;omega))<;>(try subst hc))|(with_reducible refine yxw ?_)|(simp (config := { maxSteps := 400000 }) only [↓jt,↓reduceIte,zvs,reduceCtorEq,seval,tab,Try.results59,jTA])|(simp (disch:=omega) only [ziw]))
  all_goals first
   | (exfalso; omega)
   | (simp only [zrds]; done)
end Go.Proofs.Ytpdhdkpebbfnnaa.V
end
section
namespace Go.Proofs.Ytpdhdkpebbfnnaa.V
open Go
theorem ynN8 {l : List VV} (h : nls l = true := by first|rfl|assumption|(simp only [znl,jO];(first|done|fail))) : nls l = true := h
set_option maxRecDepth 100000
set_option maxHeartbeats 1000000
theorem zeros17_spec (n : Nat) (hn : n ≤ 1000) : Spec Try.prog 122 [.int .i64 n] (.str (List.replicate n 0)) := by
 refine spec_ok Try.func122 rfl rfl (by kernel_rfl) (k := 1) rfl (by decide) ?_
 repeat' (first|(with_reducible first|refine yrl (by constructor) ?_|refine jk (fun M hM=>?_)|(refine hM _ ?_;clear hM M)|refine yx3 ?_|refine yxa ?_ ?_|refine yxb ?_ ?_)|((with_reducible refine je ?_)<;>exact ynN8)|(with_reducible refine yxc ?_)|((with_reducible refine yxi (fun hc=>?_) (fun hc=>?_))<;>(try simp (disch:=omega) only [zhb] at hc)<;>(try (exfalso;omega))<;>(try subst hc))|(with_reducible refine yxw ?_)|(simp (config := { maxSteps := 400000 }) only [↓jt,↓reduceIte,zvs,reduceCtorEq,seval,tab,Try.results122,jTA])|(simp (disch:=omega) only [ziw]))
 refine ok_loop (fun k : Nat => ⟨slots [(0, .int .i64 n), (2, .str []), (3, .str (List.replicate k 0)), (4, .int .i64 k)], rows [], 0⟩) (fun k => k ≤ n) (fun k => n - k) 0 ?_ (Nat.zero_le _) (fun k hk => ?_)
 ·(refine yrn [] false ?_ ?_<;>(repeat' (first|(with_reducible first|exact ya1|exact ya2|exact ya3|refine jx rfl (by first|rfl|assumption|(simp only [znl,jO];(first|done|fail)))|exact ya5|exact ya7|exact jy|exact jz|refine jA ?_|refine ya9 ?_ ?_ ?_|refine jC rfl (by first|rfl|assumption|(simp only [znl,jO];(first|done|fail)))|refine MR.agg (MRL.cons ?_ ?_)|refine MR.fn ?_|refine MRL.cons ?_ ?_|exact MRL.nil|refine jE ?_ ?_|exact jF|exact jG|refine yb1 ?_ ?_|refine MB.row ?_|refine jI ?_ ?_|exact ya8|refine jJ rfl (by first|rfl|assumption|(simp only [znl,jO];(first|done|fail)))|refine yb2 ?_|rfl)|(simp only [znl,jO];(first|done|fail))|(simp only [↓reduceIte,zlk,Nat.reduceEqDiff,reduceCtorEq])|(with_reducible first|refine jJ ?_ ?_|refine ya5 ?_|refine ju ?_|refine jv ?_|refine jw ?_|refine jx ?_ (by first|rfl|assumption|(simp only [znl,jO];(first|done|fail)))|refine jC ?_ (by first|rfl|assumption|(simp only [znl,jO];(first|done|fail)))))))
  all_goals (first | rfl | (simp; done))
 by_cases hlt : k < n
 ·repeat' (first|(with_reducible first|refine yrl (by constructor) ?_|refine jk (fun M hM=>?_)|(refine hM _ ?_;clear hM M)|refine yx3 ?_|refine yxa ?_ ?_|refine yxb ?_ ?_)|((with_reducible refine je ?_)<;>exact ynN8)|(with_reducible refine yxc ?_)|((with_reducible refine yxi (fun hc=>?_) (fun hc=>?_))<;>(try simp (disch:=omega) only [zhb] at hc)<;>(try (exfalso;omega))<;>(try subst hc))|(with_reducible refine yxw ?_)|(simp (config := { maxSteps := 400000 }) only [↓jt,↓reduceIte,zvs,reduceCtorEq,seval,tab,List.length_replicate,Try.results122,jTA])|(simp (disch:=omega) only [ziw]))
  refine xl1 (k + 1) ?_ (by show k + 1 ≤ n; omega) (by show n - (k + 1) < n - k; omega)
  (refine yrn [] false ?_ ?_<;>(repeat' (first|(with_reducible first|exact ya1|exact ya2|exact ya3|refine jx rfl (by first|rfl|assumption|(simp only [znl,jO];(first|done|fail)))|exact ya5|exact ya7|exact jy|exact jz|refine jA ?_|refine ya9 ?_ ?_ ?_|refine jC rfl (by first|rfl|assumption|(simp only [znl,jO];(first|done|fail)))|refine MR.agg (MRL.cons ?_ ?_)|refine MR.fn ?_|refine MRL.cons ?_ ?_|exact MRL.nil|refine jE ?_ ?_|exact jF|exact jG|refine yb1 ?_ ?_|refine MB.row ?_|refine jI ?_ ?_|exact ya8|refine jJ rfl (by first|rfl|assumption|(simp only [znl,jO];(first|done|fail)))|refine yb2 ?_|rfl)|(simp only [znl,jO];(first|done|fail))|(simp only [↓reduceIte,zlk,Nat.reduceEqDiff,reduceCtorEq])|(with_reducible first|refine jJ ?_ ?_|refine ya5 ?_|refine ju ?_|refine jv ?_|refine jw ?_|refine jx ?_ (by first|rfl|assumption|(simp only [znl,jO];(first|done|fail)))|refine jC ?_ (by first|rfl|assumption|(simp only [znl,jO];(first|done|fail)))))))
  all_goals (first | rfl | (simp [List.replicate_succ']; done))
 ·obtain rfl : k = n := by omega
  repeat' (first|(with_reducible first|refine yrl (by constructor) ?_|refine jk (fun M hM=>?_)|(refine hM _ ?_;clear hM M)|refine yx3 ?_|refine yxa ?_ ?_|refine yxb ?_ ?_)|((with_reducible refine je ?_)<;>exact ynN8)|(with_reducible refine yxc ?_)|((with_reducible refine yxi (fun hc=>?_) (fun hc=>?_))<;>(try simp (disch:=omega) only [zhb] at hc)<;>(try (exfalso;omega))<;>(try subst hc))|(with_reducible refine yxw ?_)|(simp (config := { maxSteps := 400000 }) only [↓jt,↓reduceIte,zvs,reduceCtorEq,seval,tab,Try.results122,jTA])|(simp (disch:=omega) only [ziw]))
  simp only [zrds]
theorem zeros16_spec (n : Nat) (hn : n ≤ 1000) : Spec Try.prog 124 [.int .i64 n] (.str (List.replicate n 0)) := by
 refine spec_ok Try.func124 rfl rfl (by kernel_rfl) (k := 1) rfl (by decide) ?_
 repeat' (first|(with_reducible first|refine yrl (by constructor) ?_|refine jk (fun M hM=>?_)|(refine hM _ ?_;clear hM M)|refine yx3 ?_|refine yxa ?_ ?_|refine yxb ?_ ?_)|((with_reducible refine je ?_)<;>exact ynN8)|(with_reducible refine yxc ?_)|((with_reducible refine yxi (fun hc=>?_) (fun hc=>?_))<;>(try simp (disch:=omega) only [zhb] at hc)<;>(try (exfalso;omega))<;>(try subst hc))|(with_reducible refine yxw ?_)|(simp (config := { maxSteps := 400000 }) only [↓jt,↓reduceIte,zvs,reduceCtorEq,seval,tab,Try.results124,jTA])|(simp (disch:=omega) only [ziw]))
 refine ok_loop (fun k : Nat => ⟨slots [(0, .int .i64 n), (2, .str []), (3, .str (List.replicate k 0)), (4, .int .i64 k)], rows [], 0⟩) (fun k => k ≤ n) (fun k => n - k) 0 ?_ (Nat.zero_le _) (fun k hk => ?_)
 ·(refine yrn [] false ?_ ?_<;>(repeat' (first|(with_reducible first|exact ya1|exact ya2|exact ya3|refine jx rfl (by first|rfl|assumption|(simp only [znl,jO];(first|done|fail)))|exact ya5|exact ya7|exact jy|exact jz|refine jA ?_|refine ya9 ?_ ?_ ?_|refine jC rfl (by first|rfl|assumption|(simp only [znl,jO];(first|done|fail)))|refine MR.agg (MRL.cons ?_ ?_)|refine MR.fn ?_|refine MRL.cons ?_ ?_|exact MRL.nil|refine jE ?_ ?_|exact jF|exact jG|refine yb1 ?_ ?_|refine MB.row ?_|refine jI ?_ ?_|exact ya8|refine jJ rfl (by first|rfl|assumption|(simp only [znl,jO];(first|done|fail)))|refine yb2 ?_|rfl)|(simp only [znl,jO];(first|done|fail))|(simp only [↓reduceIte,zlk,Nat.reduceEqDiff,reduceCtorEq])|(with_reducible first|refine jJ ?_ ?_|refine ya5 ?_|refine ju ?_|refine jv ?_|refine jw ?_|refine jx ?_ (by first|rfl|assumption|(simp only [znl,jO];(first|done|fail)))|refine jC ?_ (by first|rfl|assumption|(simp only [znl,jO];(first|done|fail)))))))
  all_goals (first | rfl | (simp; done))
 by_cases hlt : k < n
 ·repeat' (first|(with_reducible first|refine yrl (by constructor) ?_|refine jk (fun M hM=>?_)|(refine hM _ ?_;clear hM M)|refine yx3 ?_|refine yxa ?_ ?_|refine yxb ?_ ?_)|((with_reducible refine je ?_)<;>exact ynN8)|(with_reducible refine yxc ?_)|((with_reducible refine yxi (fun hc=>?_) (fun hc=>?_))<;>(try simp (disch:=omega) only [zhb] at hc)<;>(try (exfalso;omega))<;>(try subst hc))|(with_reducible refine yxw ?_)|(simp (config := { maxSteps := 400000 }) only [↓jt,↓reduceIte,zvs,reduceCtorEq,seval,tab,List.length_replicate,Try.results124,jTA])|(simp (disch:=omega) only [ziw]))
  refine xl1 (k + 1) ?_ (by show k + 1 ≤ n; omega) (by show n - (k + 1) < n - k; omega)
  (refine yrn [] false ?_ ?_<;>(repeat' (first|(with_reducible first|exact ya1|exact ya2|exact ya3|refine jx rfl (by first|rfl|assumption|(simp only [znl,jO];(first|done|fail)))|exact ya5|exact ya7|exact jy|exact jz|refine jA ?_|refine ya9 ?_ ?_ ?_|refine jC rfl (by first|rfl|assumption|(simp only [znl,jO];(first|done|fail)))|refine MR.agg (MRL.cons ?_ ?_)|refine MR.fn ?_|refine MRL.cons ?_ ?_|exact MRL.nil|refine jE ?_ ?_|exact jF|exact jG|refine yb1 ?_ ?_|refine MB.row ?_|refine jI ?_ ?_|exact ya8|refine jJ rfl (by first|rfl|assumption|(simp only [znl,jO];(first|done|fail)))|refine yb2 ?_|rfl)|(simp only [znl,jO];(first|done|fail))|(simp only [↓reduceIte,zlk,Nat.reduceEqDiff,reduceCtorEq])|(with_reducible first|refine jJ ?_ ?_|refine ya5 ?_|refine ju ?_|refine jv ?_|refine jw ?_|refine jx ?_ (by first|rfl|assumption|(simp only [znl,jO];(first|done|fail)))|refine jC ?_ (by first|rfl|assumption|(simp only [znl,jO];(first|done|fail)))))))
  all_goals (first | rfl | (simp [List.replicate_succ']; done))
 ·obtain rfl : k = n := by omega
  repeat' (first|(with_reducible first|refine yrl (by constructor) ?_|refine jk (fun M hM=>?_)|(refine hM _ ?_;clear hM M)|refine yx3 ?_|refine yxa ?_ ?_|refine yxb ?_ ?_)|((with_reducible refine je ?_)<;>exact ynN8)|(with_reducible refine yxc ?_)|((with_reducible refine yxi (fun hc=>?_) (fun hc=>?_))<;>(try simp (disch:=omega) only [zhb] at hc)<;>(try (exfalso;omega))<;>(try subst hc))|(with_reducible refine yxw ?_)|(simp (config := { maxSteps := 400000 }) only [↓jt,↓reduceIte,zvs,reduceCtorEq,seval,tab,Try.results124,jTA])|(simp (disch:=omega) only [ziw]))
  simp only [zrds]
theorem rnum_get_spec (s : List UInt8) (hs : s.length ≤ 4) : Spec Try.prog 149 [.str s] (.int .u64 (getLE s)) := by
 obtain ⟨R, hR⟩ : ∃ R, R = getLE s := ⟨_, rfl⟩
 rw [← hR]
 refine spec_ok Try.func149 rfl rfl (by kernel_rfl) (k := 1) rfl (by decide) ?_
 repeat' (first|(with_reducible first|refine yrl (by constructor) ?_|refine jk (fun M hM=>?_)|(refine hM _ ?_;clear hM M)|refine yx3 ?_|refine yxa ?_ ?_|refine yxb ?_ ?_)|((with_reducible refine je ?_)<;>exact ynN8)|(with_reducible refine yxc ?_)|((with_reducible refine yxi (fun hc=>?_) (fun hc=>?_))<;>(try simp (disch:=omega) only [zhb] at hc)<;>(try (exfalso;omega))<;>(try subst hc))|(with_reducible refine yxw ?_)|(simp (config := { maxSteps := 400000 }) only [↓jt,↓reduceIte,zvs,reduceCtorEq,seval,tab,Try.results149,jTA])|(simp (disch:=omega) only [ziw]))
 refine ok_loop (fun k : Nat => ⟨slots [(0, .str s), (2, .int .u64 0), (3, .int .u64 (getLE (s.drop k))), (4, .int .i64 ((k : Int) - 1))], rows [], 0⟩) (fun k => k ≤ s.length) (fun k => k) s.length ?_ (Nat.le_refl _) (fun k hk => ?_)
 ·(refine yrn [] false ?_ ?_<;>(repeat' (first|(with_reducible first|exact ya1|exact ya2|exact ya3|refine jx rfl (by first|rfl|assumption|(simp only [znl,jO];(first|done|fail)))|exact ya5|exact ya7|exact jy|exact jz|refine jA ?_|refine ya9 ?_ ?_ ?_|refine jC rfl (by first|rfl|assumption|(simp only [znl,jO];(first|done|fail)))|refine MR.agg (MRL.cons ?_ ?_)|refine MR.fn ?_|refine MRL.cons ?_ ?_|exact MRL.nil|refine jE ?_ ?_|exact jF|exact jG|refine yb1 ?_ ?_|refine MB.row ?_|refine jI ?_ ?_|exact ya8|refine jJ rfl (by first|rfl|assumption|(simp only [znl,jO];(first|done|fail)))|refine yb2 ?_|rfl)|(simp only [znl,jO];(first|done|fail))|(simp only [↓reduceIte,zlk,Nat.reduceEqDiff,reduceCtorEq])|(with_reducible first|refine jJ ?_ ?_|refine ya5 ?_|refine ju ?_|refine jv ?_|refine jw ?_|refine jx ?_ (by first|rfl|assumption|(simp only [znl,jO];(first|done|fail)))|refine jC ?_ (by first|rfl|assumption|(simp only [znl,jO];(first|done|fail)))))))
  all_goals (first | rfl | (rw [List.drop_length]; rfl))
 by_cases hlt : 0 < k
 ·obtain ⟨k, rfl⟩ : ∃ j, k = j + 1 := ⟨k - 1, by omega⟩
  have e1 : s.drop k = s.getD k 0 :: s.drop (k + 1) := by
   rw [List.drop_eq_getElem_cons (by omega), List.getD_eq_getElem?_getD, List.getElem?_eq_getElem (by omega)]; rfl
  have e2 : getLE (s.drop k) = (s.getD k 0).toNat + 256 * getLE (s.drop (k + 1)) := by rw [e1, getLE]
  have h1 := getLE_lt (s.drop (k + 1))
  have h2 := (s.getD k 0).toNat_lt
  have h3 : (256 : Nat) ^ (s.drop (k + 1)).length ≤ 256 ^ 3 := Nat.pow_le_pow_right (by omega) (by rw [List.length_drop]; omega)
  have h4 : getLE (s.drop (k + 1)) < 16777216 := by omega
  have e3 : ((k + 1 : Nat) : Int) - 1 = k := by omega
  repeat' (first|(with_reducible first|refine yrl (by constructor) ?_|refine jk (fun M hM=>?_)|(refine hM _ ?_;clear hM M)|refine yx3 ?_|refine yxa ?_ ?_|refine yxb ?_ ?_)|((with_reducible refine je ?_)<;>exact ynN8)|(with_reducible refine yxc ?_)|((with_reducible refine yxi (fun hc=>?_) (fun hc=>?_))<;>(try simp (disch:=omega) only [zhb] at hc)<;>(try (exfalso;omega))<;>(try subst hc))|(with_reducible refine yxw ?_)|(simp (config := { maxSteps := 400000 }) only [↓jt,↓reduceIte,zvs,reduceCtorEq,seval,tab,e3,Try.results149,jTA])|(simp (disch:=omega) only [ziw]))
  all_goals first
   | (exfalso; omega)
   | (refine xl1 k ?_ (by show k ≤ s.length; omega) (by show k < k + 1; omega); (refine yrn [] false ?_ ?_<;>(repeat' (first|(with_reducible first|exact ya1|exact ya2|exact ya3|refine jx rfl (by first|rfl|assumption|(simp only [znl,jO];(first|done|fail)))|exact ya5|exact ya7|exact jy|exact jz|refine jA ?_|refine ya9 ?_ ?_ ?_|refine jC rfl (by first|rfl|assumption|(simp only [znl,jO];(first|done|fail)))|refine MR.agg (MRL.cons ?_ ?_)|refine MR.fn ?_|refine MRL.cons ?_ ?_|exact MRL.nil|refine jE ?_ ?_|exact jF|exact jG|refine yb1 ?_ ?_|refine MB.row ?_|refine jI ?_ ?_|exact ya8|refine jJ rfl (by first|rfl|assumption|(simp only [znl,jO];(first|done|fail)))|refine yb2 ?_|rfl)|(simp only [znl,jO];(first|done|fail))|(simp only [↓reduceIte,zlk,Nat.reduceEqDiff,reduceCtorEq])|(with_reducible first|refine jJ ?_ ?_|refine ya5 ?_|refine ju ?_|refine jv ?_|refine jw ?_|refine jx ?_ (by first|rfl|assumption|(simp only [znl,jO];(first|done|fail)))|refine jC ?_ (by first|rfl|assumption|(simp only [znl,jO];(first|done|fail))))))); all_goals (first | (rw [e2]; omega)))
 ·obtain rfl : k = 0 := by omega
  repeat' (first|(with_reducible first|refine yrl (by constructor) ?_|refine jk (fun M hM=>?_)|(refine hM _ ?_;clear hM M)|refine yx3 ?_|refine yxa ?_ ?_|refine yxb ?_ ?_)|((with_reducible refine je ?_)<;>exact ynN8)|(with_reducible refine yxc ?_)|((with_reducible refine yxi (fun hc=>?_) (fun hc=>?_))<;>(try simp (disch:=omega) only [zhb] at hc)<;>(try (exfalso;omega))<;>(try subst hc))|(with_reducible refine yxw ?_)|(simp (config := { maxSteps := 400000 }) only [↓jt,↓reduceIte,zvs,reduceCtorEq,seval,tab,Try.results149,jTA])|(simp (disch:=omega) only [ziw]))
  rw [hR]
  simp only [zrds]
  all_goals rfl
theorem byte_of (x : Nat) : (((x % 256 : Nat) : Int)) = ((UInt8.ofNat x).toNat : Int) := by
 rw [UInt8.toNat_ofNat']
theorem rnum_put_spec (n : Nat) (hn : n < 2 ^ 32) (z : Nat) (hz : z ≤ 8) : Spec Try.prog 133 [.int .u64 n, .int .i64 z] (.str (putLE n z)) := by
 refine spec_ok Try.func133 rfl rfl (by kernel_rfl) (k := 2) rfl (by decide) ?_
 repeat' (first|(with_reducible first|refine yrl (by constructor) ?_|refine jk (fun M hM=>?_)|(refine hM _ ?_;clear hM M)|refine yx3 ?_|refine yxa ?_ ?_|refine yxb ?_ ?_)|((with_reducible refine je ?_)<;>exact ynN8)|(with_reducible refine yxc ?_)|((with_reducible refine yxi (fun hc=>?_) (fun hc=>?_))<;>(try simp (disch:=omega) only [zhb] at hc)<;>(try (exfalso;omega))<;>(try subst hc))|(with_reducible refine yxw ?_)|(simp (config := { maxSteps := 400000 }) only [↓jt,↓reduceIte,zvs,reduceCtorEq,seval,tab,Try.results133,jTA])|(simp (disch:=omega) only [ziw]))
 refine ok_loop (fun k : Nat => ⟨slots [(0, .int .u64 ((n / 256 ^ k : Nat) : Int)), (1, .int .i64 z), (4, .str []), (5, .str (putLE n k)), (6, .int .i64 k)], rows [], 0⟩) (fun k => k ≤ z) (fun k => z - k) 0 ?_ (Nat.zero_le _) (fun k hk => ?_)
 ·(refine yrn [] false ?_ ?_<;>(repeat' (first|(with_reducible first|exact ya1|exact ya2|exact ya3|refine jx rfl (by first|rfl|assumption|(simp only [znl,jO];(first|done|fail)))|exact ya5|exact ya7|exact jy|exact jz|refine jA ?_|refine ya9 ?_ ?_ ?_|refine jC rfl (by first|rfl|assumption|(simp only [znl,jO];(first|done|fail)))|refine MR.agg (MRL.cons ?_ ?_)|refine MR.fn ?_|refine MRL.cons ?_ ?_|exact MRL.nil|refine jE ?_ ?_|exact jF|exact jG|refine yb1 ?_ ?_|refine MB.row ?_|refine jI ?_ ?_|exact ya8|refine jJ rfl (by first|rfl|assumption|(simp only [znl,jO];(first|done|fail)))|refine yb2 ?_|rfl)|(simp only [znl,jO];(first|done|fail))|(simp only [↓reduceIte,zlk,Nat.reduceEqDiff,reduceCtorEq])|(with_reducible first|refine jJ ?_ ?_|refine ya5 ?_|refine ju ?_|refine jv ?_|refine jw ?_|refine jx ?_ (by first|rfl|assumption|(simp only [znl,jO];(first|done|fail)))|refine jC ?_ (by first|rfl|assumption|(simp only [znl,jO];(first|done|fail)))))))
  all_goals (first | rfl | (simp; done))
 have hq : n / 256 ^ k < 2 ^ 32 := Nat.lt_of_le_of_lt (Nat.div_le_self _ _) hn
 have e4 : n / 256 ^ (k + 1) = n / 256 ^ k / 256 := by rw [Nat.pow_succ, Nat.div_div_eq_div_mul]
 have e5 : putLE n (k + 1) = putLE n k ++ [UInt8.ofNat (n / 256 ^ k)] := rfl
 have hl := putLE_len n k
 by_cases hlt : k < z
 ·obtain ⟨x, hx⟩ : ∃ x, x = n / 256 ^ k := ⟨_, rfl⟩
  rw [← hx] at hq e4 e5 ⊢
  have hb : bytesOf [VV.int .u8 ((x : Int) % 256)] = some [UInt8.ofNat x] := by
   have := bytesOf_enc [UInt8.ofNat x]
   rw [List.map_cons, List.map_nil] at this
   rw [← this, encB, ← byte_of x]
   norm_cast
  repeat' (first|(with_reducible first|refine yrl (by constructor) ?_|refine jk (fun M hM=>?_)|(refine hM _ ?_;clear hM M)|refine yx3 ?_|refine yxa ?_ ?_|refine yxb ?_ ?_)|((with_reducible refine je ?_)<;>exact ynN8)|(with_reducible refine yxc ?_)|((with_reducible refine yxi (fun hc=>?_) (fun hc=>?_))<;>(try simp (disch:=omega) only [zhb] at hc)<;>(try (exfalso;omega))<;>(try subst hc))|(with_reducible refine yxw ?_)|(simp (config := { maxSteps := 400000 }) only [↓jt,↓reduceIte,zvs,reduceCtorEq,seval,tab,hb,hl,Try.results133,jTA])|(simp (disch:=omega) only [ziw]))
  all_goals first
   | (exfalso; omega)
   | (refine xl1 (k + 1) ?_ (by show k + 1 ≤ z; omega) (by show z - (k + 1) < z - k; omega); (refine yrn [] false ?_ ?_<;>(repeat' (first|(with_reducible first|exact ya1|exact ya2|exact ya3|refine jx rfl (by first|rfl|assumption|(simp only [znl,jO];(first|done|fail)))|exact ya5|exact ya7|exact jy|exact jz|refine jA ?_|refine ya9 ?_ ?_ ?_|refine jC rfl (by first|rfl|assumption|(simp only [znl,jO];(first|done|fail)))|refine MR.agg (MRL.cons ?_ ?_)|refine MR.fn ?_|refine MRL.cons ?_ ?_|exact MRL.nil|refine jE ?_ ?_|exact jF|exact jG|refine yb1 ?_ ?_|refine MB.row ?_|refine jI ?_ ?_|exact ya8|refine jJ rfl (by first|rfl|assumption|(simp only [znl,jO];(first|done|fail)))|refine yb2 ?_|rfl)|(simp only [znl,jO];(first|done|fail))|(simp only [↓reduceIte,zlk,Nat.reduceEqDiff,reduceCtorEq])|(with_reducible first|refine jJ ?_ ?_|refine ya5 ?_|refine ju ?_|refine jv ?_|refine jw ?_|refine jx ?_ (by first|rfl|assumption|(simp only [znl,jO];(first|done|fail)))|refine jC ?_ (by first|rfl|assumption|(simp only [znl,jO];(first|done|fail))))))); all_goals (first | (rw [e4]; omega) | (rw [e5]; done)))
 ·obtain rfl : k = z := by omega
  repeat' (first|(with_reducible first|refine yrl (by constructor) ?_|refine jk (fun M hM=>?_)|(refine hM _ ?_;clear hM M)|refine yx3 ?_|refine yxa ?_ ?_|refine yxb ?_ ?_)|((with_reducible refine je ?_)<;>exact ynN8)|(with_reducible refine yxc ?_)|((with_reducible refine yxi (fun hc=>?_) (fun hc=>?_))<;>(try simp (disch:=omega) only [zhb] at hc)<;>(try (exfalso;omega))<;>(try subst hc))|(with_reducible refine yxw ?_)|(simp (config := { maxSteps := 400000 }) only [↓jt,↓reduceIte,zvs,reduceCtorEq,seval,tab,Try.results133,jTA])|(simp (disch:=omega) only [ziw]))
  all_goals simp only [zrds]
def geoV (g : Geo) : VV := .agg [.int .i64 g.bl, .int .i64 g.ino, .int .i64 g.quo, .int .i64 g.map, .int .i64 g.tab, .int .i64 g.dat]
def planV (x : Geo × Int) : VV := .tup [geoV x.1, .int .i64 x.2]
theorem plan_spec (b i : Int) (hb : 0 ≤ b ∧ b ≤ 1000000) (hi : 0 ≤ i ∧ i ≤ 1000000) : Spec Try.prog 120 [.int .i64 b, .int .i64 i] (planV (planG b i)) := by
 unfold planG
 have h6 : ∀ a : VV, List.replicate 6 a = [a, a, a, a, a, a] := fun _ => rfl
 by_cases h1 : b < 16 ∨ 223 < b ∨ i < 4 ∨ 64 < i
 ·rw [if_pos h1]
  refine spec_ok Try.func120 rfl rfl (by kernel_rfl) (k := 2) rfl (by decide) ?_
  repeat' (first|(with_reducible first|refine yrl (by constructor) ?_|refine jk (fun M hM=>?_)|(refine hM _ ?_;clear hM M)|refine yx3 ?_|refine yxa ?_ ?_|refine yxb ?_ ?_)|((with_reducible refine je ?_)<;>exact ynN8)|(with_reducible refine yxc ?_)|((with_reducible refine yxi (fun hc=>?_) (fun hc=>?_))<;>(try simp (disch:=omega) only [zhb] at hc)<;>(try (exfalso;omega))<;>(try subst hc))|(with_reducible refine yxw ?_)|(simp (config := { maxSteps := 400000 }) only [↓jt,↓reduceIte,zvs,reduceCtorEq,seval,tab,h6,Try.results120,jTA])|(simp (disch:=omega) only [ziw]))
  all_goals first
   | (exfalso; omega)
   | (simp only [planV,geoV]; simp only [zrds]; done)
 ·rw [if_neg h1]
  by_cases h2 : b ≤ 3 + (i + 1) / 2
  ·rw [if_pos h2]
   refine spec_ok Try.func120 rfl rfl (by kernel_rfl) (k := 2) rfl (by decide) ?_
   repeat' (first|(with_reducible first|refine yrl (by constructor) ?_|refine jk (fun M hM=>?_)|(refine hM _ ?_;clear hM M)|refine yx3 ?_|refine yxa ?_ ?_|refine yxb ?_ ?_)|((with_reducible refine je ?_)<;>exact ynN8)|(with_reducible refine yxc ?_)|((with_reducible refine yxi (fun hc=>?_) (fun hc=>?_))<;>(try simp (disch:=omega) only [zhb] at hc)<;>(try (exfalso;omega))<;>(try subst hc))|(with_reducible refine yxw ?_)|(simp (config := { maxSteps := 400000 }) only [↓jt,↓reduceIte,zvs,reduceCtorEq,seval,tab,h6,Try.results120,jTA])|(simp (disch:=omega) only [ziw]))
   all_goals first
    | (exfalso; omega)
    | (simp only [planV,geoV]; simp only [zrds]; done)
  ·rw [if_neg h2]
   refine spec_ok Try.func120 rfl rfl (by kernel_rfl) (k := 2) rfl (by decide) ?_
   repeat' (first|(with_reducible first|refine yrl (by constructor) ?_|refine jk (fun M hM=>?_)|(refine hM _ ?_;clear hM M)|refine yx3 ?_|refine yxa ?_ ?_|refine yxb ?_ ?_)|((with_reducible refine je ?_)<;>exact ynN8)|(with_reducible refine yxc ?_)|((with_reducible refine yxi (fun hc=>?_) (fun hc=>?_))<;>(try simp (disch:=omega) only [zhb] at hc)<;>(try (exfalso;omega))<;>(try subst hc))|(with_reducible refine yxw ?_)|(simp (config := { maxSteps := 400000 }) only [↓jt,↓reduceIte,zvs,reduceCtorEq,seval,tab,h6,Try.results120,jTA])|(simp (disch:=omega) only [ziw]))
   all_goals first
    | (exfalso; omega)
    | (simp only [planV,geoV]; simp only [zrds]; done)
end Go.Proofs.Ytpdhdkpebbfnnaa.V
end
section
namespace Go.Proofs.Ytpdhdkpebbfnnaa.V
open Go
set_option maxRecDepth 100000
set_option maxHeartbeats 8000000
def wordsB (l : List Int) : List UInt8 := (l.map fun x => putLE x.toNat 4).flatten
theorem wordsB_snoc (l : List Int) (x : Int) : wordsB (l ++ [x]) = wordsB l ++ putLE x.toNat 4 := by simp [wordsB]
theorem wordsB_len : ∀ l : List Int, (wordsB l).length = 4 * l.length
 | [] => rfl
 | x :: l => by
  have e : wordsB (x :: l) = putLE x.toNat 4 ++ wordsB l := by simp [wordsB]
  rw [e, List.length_append, putLE_len, wordsB_len l, List.length_cons]; omega
theorem take_snocI (l : List Int) (k : Nat) (h : k < l.length) : l.take (k + 1) = l.take k ++ [l.getD k default] := by
 rw [List.take_add_one, List.getD_eq_getElem?_getD, List.getElem?_eq_getElem h]; rfl
end Go.Proofs.Ytpdhdkpebbfnnaa.V
end
section
namespace Go.Proofs.Ytpdhdkpebbfnnaa.V
open Go Go.RowKit
def turnOk2 (n0 n : Nat) (ks : List Nat) (σ : List (Nat × Nat)) : Bool :=
 (σ.all fun x => decide (n0 ≤ x.1) && decide (x.1 < n) && (decide (n0 ≤ x.2) || !ks.contains x.2) && ks.contains x.1) && decide ((σ.map (·.2)).Nodup)
theorem rows_in : ∀ (h : List (Nat × Blk)) (k : Nat), rows h k ≠ none → k ∈ h.map (·.1)
 | [], k, hk => absurd rfl hk
 | (j, b) :: l, k, hk => by
  rw [rows_cons] at hk
  by_cases e : k = j
  ·rw [e]; simp
  ·rw [if_neg e] at hk
   simp only [List.map_cons,List.mem_cons]
   exact .inr (rows_in l k hk)
theorem turn_inj2 {n0 n : Nat} {h : List (Nat × Blk)} {σ : List (Nat × Nat)} (hσ : turnOk2 n0 n (h.map (·.1)) σ = true) (m m' : Nat) (h1 : known n0 σ m) (h2 : known n0 σ m') (l1 : rows h m ≠ none) (l2 : rows h m' ≠ none) (he : turn σ m = turn σ m') : m = m' := by
 simp only [turnOk2,Bool.and_eq_true,decide_eq_true_eq,List.all_eq_true,Bool.or_eq_true,Bool.not_eq_true'] at hσ
 obtain ⟨ha, hd⟩ := hσ
 have low : ∀ m, m < n0 → turn σ m = m := fun m hm => turn_low σ m fun hmem => by
  obtain ⟨x, hx, rfl⟩ := List.mem_map.1 hmem
  have := (ha x hx).1.1.1
  omega
 have inj : ∀ (l : List (Nat × Nat)), (l.map (·.2)).Nodup → ∀ x y, x ∈ l → y ∈ l → x.2 = y.2 → x = y := by
  intro l
  induction l with
  | nil => intro _ x y hx; simp at hx
  | cons z l ih =>
   intro hd x y hx hy e
   simp only [List.map_cons,List.nodup_cons] at hd
   rcases List.mem_cons.1 hx with g1 | g1
   ·rcases List.mem_cons.1 hy with g2 | g2
    ·rw [g1, g2]
    ·exact (hd.1 (List.mem_map.2 ⟨y, g2, by rw [← e, g1]⟩)).elim
   ·rcases List.mem_cons.1 hy with g2 | g2
    ·exact (hd.1 (List.mem_map.2 ⟨x, g1, by rw [e, g2]⟩)).elim
    ·exact ih hd.2 x y g1 g2 e
 have mem : ∀ m, m ∈ σ.map (·.1) → (m, turn σ m) ∈ σ := turn_mem σ
 have cross : ∀ m m', m < n0 → m' ∈ σ.map (·.1) → rows h m ≠ none → turn σ m = turn σ m' → False := fun m m' h1 h2 l1 he => by
  have h3 := (ha _ (mem m' h2)).1.2
  rw [← he, low m h1] at h3
  rcases h3 with h3 | h3
  ·dsimp only at h3; omega
  ·have := rows_in h m l1
   rw [List.contains_eq_mem] at h3
   exact absurd this (by simpa using h3)
 rcases h1 with h1 | h1
 ·rcases h2 with h2 | h2
  ·rw [low m h1, low m' h2] at he; exact he
  ·exact (cross m m' h1 h2 l1 he).elim
 ·rcases h2 with h2 | h2
  ·exact (cross m' m h2 h1 l2 he.symm).elim
  ·have := inj σ hd _ _ (mem m h1) (mem m' h2) he
   exact congrArg Prod.fst this
theorem Ren.mk2 {n0 n n' : Nat} {tm : Nat → VV} {H : Heap} {l : List (Nat × VV)} {h : List (Nat × Blk)} (σ : List (Nat × Nat)) (hσ : turnOk2 n0 n' (h.map (·.1)) σ = true) (hn : n0 ≤ n')
  (h1 : AllS n0 σ H false tm l) (h3 : AllB n0 σ H false h) :
  Ren n0 ⟨tm, H, n⟩ ⟨slots l, rows h, n'⟩ := by
 intro N B ρ0 w0 a w ρ h0 hS
 classical
 have hfz : false = true → n0 = 0 := fun h => by cases h
 have hinj := turn_inj2 (h := h) hσ
 have hσ' := hσ
 simp only [turnOk2,Bool.and_eq_true,decide_eq_true_eq,List.all_eq_true] at hσ'
 obtain ⟨ha, _⟩ := hσ'
 have hh := hS.heap
 have he := hS.ext
 dsimp only at hh
 let ρ' : Names := ⟨fun m => if known n0 σ m then ρ (turn σ m) else none, fun b => ρ.im b ∨ (false = true ∧ w0.heap.size ≤ b)⟩
 have hρ : ∀ m, known n0 σ m → ρ' m = ρ (turn σ m) := fun m hm => if_pos hm
 have hρ2 : ∀ m l, ρ' m = some l → known n0 σ m ∧ ρ (turn σ m) = some l := fun m l hm => by
  by_cases hk : known n0 σ m
  ·exact ⟨hk, by rw [← hρ m hk]; exact hm⟩
  ·have : ρ' m = none := if_neg hk
   rw [this] at hm
   cases hm
 have hU : ∀ b, Unnamed ρ b → Unnamed ρ' b := fun b hb => ⟨.inl hb.1, fun m l hm => hb.2 _ l (hρ2 m l hm).2⟩
 have low : ∀ m, m < n0 → turn σ m = m := fun m hm => turn_low σ m fun hmem => by
  obtain ⟨x, hx, rfl⟩ := List.mem_map.1 hmem
  have := (ha x hx).1.1.1
  omega
 have live : ∀ m, m ∈ σ.map (·.1) → H (turn σ m) ≠ none := fun m hm => by
  have h5 := (ha _ (turn_mem σ m hm)).2
  dsimp only at h5
  obtain ⟨b, hb⟩ := rows_mem h m (by simpa using h5)
  obtain ⟨b0, h6, _⟩ := AllB.at h h3 m b hb (.inr hm)
  rw [h6]; simp
 have hT : Turned n0 σ H false ρ ρ' w := by
  refine ⟨hρ, hU, fun hf m s v l' hm hk hl => ?_⟩
  have hz := hfz hf
  have hlt := hh.lt m l' hl
  refine ⟨⟨.inr ⟨hf, ?_⟩, fun m2 l2 hm2 e => ?_⟩, hlt.2, hh.row m s v l' hm hl⟩
  ·rcases he.fresh m l' hl with g | g | ⟨m0, l0, g, _⟩
   ·rw [h0 m (by omega)] at g; cases g
   ·exact g
   ·rw [h0 m0 (by omega)] at g; cases g
  ·obtain ⟨k1, k2⟩ := hρ2 m2 l2 hm2
   rcases k1 with k1 | k1
   ·omega
   ·have := hh.apart _ m l2 l' k2 hl (live m2 k1) (by rw [hm]; simp) e
    exact hk (by rw [← this]; exact List.mem_map.2 ⟨_, turn_mem σ m2 k1, rfl⟩)
 refine ⟨ρ', ⟨fun t => ?_, hS.defers, hS.size, ?_, hS.below, ?_⟩⟩
 ·dsimp only
  rcases AllS.at l h1 t with e | e
  ·rw [e]; simp [VR, VR1]
  ·have := hS.tm t
   dsimp only at this
   exact MR.value hT e this
 ·dsimp only
  refine ⟨hh.base, fun m hm => ?_, fun m l hm => hh.lt _ l (hρ2 m l hm).2, fun m m' l1 l2 g1 g2 e1 e2 hb => ?_, fun m s v l' hm hl => ?_, fun m es l' hm hl => ?_⟩
  ·have hm : n' ≤ m := hm
   refine if_neg fun hk => ?_
   rcases hk with hk | hk
   ·omega
   ·have := (ha _ (turn_mem σ m hk)).1.1.2
    dsimp only at this
    omega
  ·obtain ⟨k1, k2⟩ := hρ2 m l1 g1
   obtain ⟨k3, k4⟩ := hρ2 m' l2 g2
   have lv : ∀ m, known n0 σ m → rows h m ≠ none → H (turn σ m) ≠ none := fun m hk hm => by
    cases hr : rows h m with
    | none => exact absurd hr hm
    | some b => obtain ⟨b0, h6, _⟩ := AllB.at h h3 m b hr hk; rw [h6]; simp
   exact hinj m m' k1 k3 e1 e2 (hh.apart _ _ l1 l2 k2 k4 (lv m k1 e1) (lv m' k3 e2) hb)
  ·obtain ⟨k1, k2⟩ := hρ2 m l' hl
   obtain ⟨b0, hb, hm⟩ := AllB.at h h3 m _ hm k1
   cases hm with
   | row hm =>
    rename_i u
    have hrow := hh.row _ s u l' hb k2
    obtain ⟨cs, c1, c2, c3⟩ := hrow.cells
    exact ⟨hrow.sh, hm.has s hrow.has, ⟨cs, MR.cells hT hm cs c1, c2, c3⟩, hrow.room⟩
  ·obtain ⟨k1, k2⟩ := hρ2 m l' hl
   obtain ⟨b0, hb, hm⟩ := AllB.at h h3 m _ hm k1
   cases hm with
   | map hv =>
    have hmap := hh.map _ _ l' hb k2
    obtain ⟨xs, clock, c1, c2⟩ := hmap.obj
    refine ⟨⟨xs, clock, c1, ?_⟩, hmap.born⟩
    have key : ∀ (es : List (VV × VV)) (xs : List MapEntry), (∀ x ∈ es, nl x.1 = true ∧ nl x.2 = true) → ME ρ w es xs → ME ρ' w es xs := by
     intro es
     induction es with
     | nil => intro xs _ h; exact h
     | cons x es ih =>
      intro xs hq h
      obtain ⟨y, ys, g1, g2, g3, g4, g5⟩ := h
      obtain ⟨q1, q2⟩ := hq x (by simp)
      exact ⟨y, ys, g1, g2, MR.value1 hT (.data _ q1) g3, MR.value1 hT (.data _ q2) g4, ih ys (fun z hz => hq z (by simp [hz])) g5⟩
    exact key es _ hv c2
 ·refine ⟨fun m l hm => ?_, he.size, fun b hb hu => he.block b hb hu, fun m l hm => ?_, fun b hb => .inl (he.im b hb), fun b hb => ?_⟩
  ·have hlt : m < n0 := by
    rcases Nat.lt_or_ge m n0 with h | h
    ·exact h
    ·rw [h0 m h] at hm; cases hm
   rw [hρ m (.inl hlt), low m hlt]
   exact he.names m l hm
  ·obtain ⟨k1, k2⟩ := hρ2 m l hm
   rcases he.fresh _ l k2 with g | g | g
   ·exact .inr (.inr ⟨_, l, g, rfl⟩)
   ·exact .inr (.inl g)
   ·exact .inr (.inr g)
  ·rcases hb with hb | hb
   ·exact he.imb b hb
   ·exact .inr hb.2

theorem yrn2 {n0 n n' : Nat} {tm : Nat → VV} {H : Heap} {l : List (Nat × VV)} {h : List (Nat × Blk)} (σ : List (Nat × Nat)) (h1 : AllS n0 σ H false tm l) (h3 : AllB n0 σ H false h) (hσ : turnOk2 n0 n' (h.map (·.1)) σ = true := by first | decide | rfl | (simp [turnOk2]; done)) (hn : n0 ≤ n' := by decide) :
  Ren n0 ⟨tm, H, n⟩ ⟨slots l, rows h, n'⟩ := Ren.mk2 σ hσ hn h1 h3
end Go.Proofs.Ytpdhdkpebbfnnaa.V
end
section
namespace Go.Proofs.Ytpdhdkpebbfnnaa.V
open Go
set_option maxRecDepth 100000
set_option maxHeartbeats 8000000
structure Lay where
 at_ : Int
 d : List UInt8
 w : Bool
deriving DecidableEq
abbrev laySh : Sh := .st [.cell, .cell, .cell]
def encLay (p : Lay) : VV := .agg [.int .i64 p.at_, .str p.d, .bool p.w]
abbrev encLays (l : List Lay) : VV := .dat laySh (l.map encLay)
theorem nl_lay (p : Lay) : nl (encLay p) = true := rfl
theorem nls_lay (l : List Lay) : nls (l.map encLay) = true := nls_map _ nl_lay l
theorem hasLay (p : Lay) : Has laySh (encLay p) := by simp [encLay, Has, HasL, VV.leaf]
instance : Inhabited Lay := ⟨⟨0, [], false⟩⟩
def pgB (b : List UInt8) (i : Nat) : List UInt8 := (List.range 128).map fun j => b.getD (128 * i + j) 0
theorem pgB_len (b : List UInt8) (i : Nat) : (pgB b i).length = 128 := by simp [pgB]
theorem pgB_at (b : List UInt8) (i j : Nat) (h : j < (pgB b i).length) : (pgB b i)[j] = b.getD (128 * i + j) 0 := by simp [pgB]
theorem pg_cut (b : List UInt8) (i : Nat) : (b.drop (128 * i)).take 128 ++ List.replicate (128 - ((b.drop (128 * i)).take 128).length) 0 = pgB b i := by
 apply List.ext_getElem
 ·rw [pgB_len]; simp; omega
 ·intro j h1 h2
  rw [pgB_at, List.getElem_append, List.getD_eq_getElem?_getD]
  simp only [List.length_take,List.length_drop]
  split
  ·rename_i h
   rw [List.getElem_take, List.getElem_drop, List.getElem?_eq_getElem (by omega)]
   rfl
  ·rename_i h
   rw [pgB_len] at h2
   rw [List.getElem_replicate, List.getElem?_eq_none (by omega)]
   rfl
def layN (at_ n : Nat) (b : List UInt8) (w : Bool) : List Lay := (List.range n).map fun i : Nat => ⟨at_ + i, pgB b i, w⟩
theorem layN_len (at_ n : Nat) (b : List UInt8) (w : Bool) : (layN at_ n b w).length = n := by simp [layN]
theorem layN_snoc (at_ n : Nat) (b : List UInt8) (w : Bool) : layN at_ (n + 1) b w = layN at_ n b w ++ [⟨at_ + n, pgB b n, w⟩] := by simp [layN, List.range_succ]
def pagesN (n : Nat) : Nat := (n + 127) / 128
theorem pagesI_nat (n : Nat) : pagesI n = pagesN n := by unfold pagesI pagesN; omega
def lastL : Lay := ⟨15, List.replicate 128 0, true⟩
def layTo (e : Exe) : List Lay := layN 0 (pagesN (4 * e.ws.length)) (wordsB e.ws) false ++ layN (pagesN (4 * e.ws.length)) (pagesN (e.data.length + e.z.toNat)) e.data true
def layE (e : Exe) : List Lay := layTo e ++ [lastL]
theorem layTo_len (e : Exe) (h : okE e) : (layTo e).length ≤ 14 := by
 obtain ⟨h1, h2, h3, h4, h5, h6, h7, h8⟩ := h
 rw [layTo, List.length_append, layN_len, layN_len]
 unfold pagesI at h8
 unfold pagesN
 omega
theorem layTo_at (e : Exe) (k : Nat) (h : k < (layTo e).length) : ((layTo e)[k]).at_ = k := by
 simp only [layTo,List.getElem_append]
 split
 ·simp [layN]
 ·rename_i h1
  rw [layN_len] at h1
  simp [layN]
  omega
def layVV (e : Exe) : VV := if okE e then .tup [encLays (layE e), .int .i64 0] else .tup [encLays [], .int .i64 1]
end Go.Proofs.Ytpdhdkpebbfnnaa.V
end
section
namespace Go.Proofs.Ytpdhdkpebbfnnaa
open Go Go.RowKit Go.Proofs
theorem sizeBuilder : (Try.prog.info? 136).map (·.size) = some 2 := by kernel_rfl
theorem liesBuilder : liesAt Try.prog Try.prog.depth 136 (2 / Try.prog.cellsOf 136) 0 136 1 = true := by kernel_rfl
theorem infoByte : (Try.prog.info? 5).map (fun i => (i.zero, i.size, i.bytes)) = some (some (.int .u8 0), 1, 1) := by kernel_rfl
set_option maxHeartbeats 1000000 in
set_option maxRecDepth 100000 in
theorem copyCheck_used (b : Nat) (w : World) (h0 : w.cell? ⟨b, 0, none⟩ = some (.pointer (some ⟨b, 0, none⟩))) :
  Calls Try.prog 118 #[.pointer (some ⟨b, 0, none⟩)] w fun e w' => e = .returned (.tuple #[]) ∧ w' = w := by
 obtain ⟨j, hj, _⟩ := Option.map_eq_some_iff.1 sizeBuilder
 go_enter Try.func118, Try.ntmps118
 go_wp2
 rw [Lib.run_neq_ptr_same w _ Try.underlying134 hj]
 go_wp2
 go_end0
 exact ⟨rfl, rfl⟩
set_option maxHeartbeats 1000000 in
set_option maxRecDepth 100000 in
theorem copyCheck_fresh (b : Nat) (w : World) (h0 : w.cell? ⟨b, 0, none⟩ = some (.pointer none)) (hsh : w.shape? b = some (136, 2)) (hfz : w.frozen? ⟨b, 0, none⟩ = false) :
  Calls Try.prog 118 #[.pointer (some ⟨b, 0, none⟩)] w fun e w' => e = .returned (.tuple #[]) ∧ w' = w.setCell ⟨b, 0, none⟩ (.pointer (some ⟨b, 0, none⟩)) := by
 obtain ⟨j, hj, hjs⟩ := Option.map_eq_some_iff.1 sizeBuilder
 go_enter Try.func118, Try.ntmps118
 go_wp2
 rw [Lib.run_to_unsafe w ⟨b, 0, none⟩ Try.underlying134 Try.underlying184 hj (by rw [hjs]; decide) hsh (Nat.zero_lt_succ 1)]
 simp only [Result.andThen]
 rw [Oper.upon_value]
 go_wp2
 rw [run_callFunc_extern Try.func144 (by kernel_rfl) (by kernel_rfl) (by kernel_rfl) (e := Extern.AbiNoEscape.same) (by kernel_rfl)]
 rw [Lib.run_noEscape]
 simp only [Result.andThen]
 rw [Oper.upon_value]
 go_wp2
 rw [Lib.run_from_unsafe w ⟨b, 0, none⟩ Try.underlying184 Try.underlying134 hj hsh liesBuilder]
 simp only [Result.andThen]
 rw [Oper.upon_value]
 go_wp2
 go_end0
 exact ⟨rfl, rfl⟩
theorem copyCheck_k (B b : Nat) (bs : List Value) (w : World) (h : Lib.IsBuilderF 136 5 B b bs w) :
  Calls Try.prog 118 #[.pointer (some ⟨b, 0, none⟩)] w fun e w' => e = .returned (.tuple #[]) ∧ (Lib.BuilderAtF 136 5 B b (.pointer (some ⟨b, 0, none⟩)) bs w' ∧ Below B w w' ∧ Lib.OthersKept 5 (some b) w w') := by
 rcases h with h | h
 ·refine (copyCheck_fresh b w h.cell0 h.shape h.frozen0).mono ?_
  rintro e w' ⟨rfl, rfl⟩
  exact ⟨rfl, h.used _, (Below.refl B w).setCell (p := ⟨b, 0, none⟩) h.1 _, (Lib.OthersKept.refl _ _ w).setCell ⟨b, 0, none⟩ rfl _⟩
 ·refine (copyCheck_used b w h.cell0).mono ?_
  rintro e w' ⟨rfl, rfl⟩
  exact ⟨rfl, h, Below.refl B _, Lib.OthersKept.refl _ _ _⟩
set_option maxHeartbeats 2000000 in
set_option maxRecDepth 100000 in
theorem writeString_k (B b : Nat) (bs : List Value) (s : ByteArray) (w : World) (h : Lib.IsBuilderF 136 5 B b bs w) (hlen : bs.length + s.size ≤ 140737488355328) (hBw : B ≤ w.heap.size) :
  Calls Try.prog 82 #[.pointer (some ⟨b, 0, none⟩), .string s] w fun e w' => e = .returned (.tuple #[.int .i64 s.size, .nilIface]) ∧ (Lib.BuilderAtF 136 5 B b (.pointer (some ⟨b, 0, none⟩)) (bs ++ Lib.strCells s) w' ∧ Below B w w' ∧ Lib.OthersKept 5 (some b) w w') := by
 obtain ⟨i0, hi, hz0, hz1, hz2⟩ := info_parts infoByte
 go_enter Try.func82, Try.ntmps82
 go_wp2_with (go_at_call 118; refine (copyCheck_k B b bs _ h).mono ?_)
 rintro e w1 ⟨rfl, h1, hb1, hk1⟩
 obtain ⟨hB, v, hbk, hown, hne⟩ := h1
 have c0 : w1.cell? ⟨b, 0, none⟩ = some (.pointer (some ⟨b, 0, none⟩)) := by rw [Lib.cell_of_heap hbk]; rfl
 have c1 : w1.cell? ⟨b, 1, none⟩ = some v := by rw [Lib.cell_of_heap hbk]; rfl
 go_wp2_with (at_builtin; refine Lib.wpList_append_own_stringF _ rfl _ _ 116 9 rfl B 5 i0 Try.underlying116 Try.underlying9 hi hz0 hz1 hz2 _ _ _ rfl hown s rfl ?c3 ?c4 ?c5 ?_)
 case c3 => unfold maxLen; omega
 case c4 => omega
 case c5 => have := hb1.size; omega
 intro v' w2 hown' hgrow _
 have hlt : b < w1.heap.size := by
  rcases Nat.lt_or_ge b w1.heap.size with h' | h'
  ·exact h'
  ·simp [Array.getElem?_eq_none h'] at hbk
 have hb2 : w2.heap[b]? = some (.cells #[.pointer (some ⟨b, 0, none⟩), v] 136 (0, 0)) := by
  rw [hgrow.block b hlt (fun e => hne e.symm)]
  exact hbk
 have d0 : w2.cell? ⟨b, 0, none⟩ = some (.pointer (some ⟨b, 0, none⟩)) := by rw [Lib.cell_of_heap hb2]; rfl
 have d1 : w2.cell? ⟨b, 1, none⟩ = some v := by rw [Lib.cell_of_heap hb2]; rfl
 have f1 : w2.frozen? ⟨b, 1, none⟩ = false := Lib.frozen_of_heap hb2 1
 obtain ⟨ao, n', cap, rfl⟩ : ∃ ao n' cap, v' = .slice ao n' cap := by
  rcases hown'.2 with ⟨hv, _⟩ | ⟨g, cap, cur, fz, hv, _⟩
  ·exact ⟨_, _, _, hv⟩
  ·exact ⟨_, _, _, hv⟩
 go_wp2
 go_ret2
 refine ⟨rfl, ?_, ?_, (hk1.grown hgrow (Lib.ownsRowF_kind hown)).setCell ⟨b, 1, none⟩ rfl _⟩
 ·exact Lib.BuilderAtF.put (T := 136) (e := 5) hB hb2 (bs' := bs ++ Lib.strCells s) (by simpa [Lib.strCells_length] using hown') (by decide)
 ·exact (hb1.grown hgrow (by have := hb1.size; omega) (fun k hk => (hown.lt k hk).1)).setCell (p := ⟨b, 1, none⟩) hB _
end Go.Proofs.Ytpdhdkpebbfnnaa
end
section
namespace Go.Proofs.Ytpdhdkpebbfnnaa.V
open Go Go.RowKit Go.Proofs.Ytpdhdkpebbfnnaa
theorem calls_str {P : Program} {f : FuncId} {a b : VV} {x y : Value} {r : List UInt8} (h : Spec P f [a, b] (.str r)) (w : World) (ha : VR (.bare fun _ => False) w a x) (hb : VR (.bare fun _ => False) w b y) :
  Calls P f #[x, y] w fun e w' => e = .returned (.string ⟨r.toArray⟩) ∧ Below w.heap.size w w' := by
 refine (h (fun _ => False) w [x, y] ⟨x, [y], rfl, ha, y, [], rfl, hb, rfl⟩).mono fun e w' ⟨v, he, hB, hv⟩ => ⟨?_, hB⟩
 rw [he, hv.str]
def RdW (w : World) (A : Option Addr) (l : List Int) : Prop := ∀ k, k < l.length → ∃ b o, A = some ⟨b, o, none⟩ ∧ b < w.heap.size ∧ w.cell? ⟨b, o + k, none⟩ = some (.int .u32 (l.getD k 0))
theorem cr_ints {ρ : Names} {w : World} : ∀ (l : List Int) (cs : List Value), CR ρ w (l.map (.int .u32)) cs → cs = l.map (Value.int .u32)
 | [], cs, h => by simpa only [List.map_nil,CR] using h
 | x :: l, cs, h => by
  simp only [List.map_cons,CR,C1] at h
  obtain ⟨c1, c2, rfl, rfl, h2⟩ := h
  rw [cr_ints l c2 h2]; rfl
theorem rdW_of {ρ : Names} {w : World} {l : List Int} {x : Value} (h : VR ρ w (encWords l) x) : ∃ A c, x = .slice A l.length c ∧ RdW w A l := by
 obtain ⟨A, c, hp, hc, hne⟩ := h.dat
 rw [List.length_map] at hp
 refine ⟨A, c, hp, fun k hk => ?_⟩
 obtain ⟨b, o, ecs, rfl, g1, g2, g3, g4, g5⟩ := hne (fun e => by
  have := congrArg List.length e
  rw [List.length_map, List.length_nil] at this
  omega)
 refine ⟨b, o, rfl, g5, ?_⟩
 have e := cr_ints l ecs g1
 refine g3 k _ ?_
 rw [e, List.getElem?_map, List.getD_eq_getElem?_getD, List.getElem?_eq_getElem hk]
 rfl
theorem RdW.below {w w' : World} {A : Option Addr} {l : List Int} (h : RdW w A l) (hb : Below w.heap.size w w') : RdW w' A l := fun k hk => by
 obtain ⟨b, o, h1, h2, h3⟩ := h k hk
 exact ⟨b, o, h1, Nat.lt_of_lt_of_le h2 hb.size, by rw [cell_of_block (hb.block b h2)]; exact h3⟩
theorem isBuilder_below {T e : TypeId} {B b : Nat} {bs : List Value} {w w' : World} (h : Lib.IsBuilderF T e B b bs w) (g : Below w.heap.size w w') : Lib.IsBuilderF T e B b bs w' := by
 have lt : ∀ {b : Nat} {o : Obj}, w.heap[b]? = some o → b < w.heap.size := fun h => (Array.getElem?_eq_some_iff.1 h).1
 have key : ∀ p, Lib.BuilderAtF T e B b p bs w → Lib.BuilderAtF T e B b p bs w' := by
  rintro p ⟨hB, v, hb, ⟨hl, ho⟩, hne⟩
  refine ⟨hB, v, by rw [g.block _ (lt hb)]; exact hb, ⟨hl, ?_⟩, hne⟩
  rcases ho with ho | ⟨q, cap, cur, fz, h1, h2, h3, h4⟩
  ·exact .inl ho
  ·exact .inr ⟨q, cap, cur, fz, h1, h2, by rw [g.block _ (lt h3)]; exact h3, h4⟩
 exact h.imp (key _) (key _)
theorem isBuilder_first {T e : TypeId} {b : Nat} {w : World} (h : w.heap[b]? = some (.cells #[.pointer none, .slice none 0 0] T (0, 0))) : Lib.IsBuilderF T e b b [] w :=
 .inl ⟨Nat.le_refl _, .slice none 0 0, h, World.ownsRowF_nil _ _ _ _, by simp [Value.ownBlock]⟩
theorem heap_new (w : World) (o : Obj) : (w.alloc o).heap[w.heap.size]? = some o := by
 show (w.heap.push o)[w.heap.size]? = _
 rw [Array.getElem?_push_size]
set_option maxHeartbeats 2000000 in
set_option maxRecDepth 100000 in
theorem words_any (A : Option Addr) (c : Nat) (l : List Int) (hl : l.length ≤ 20000) (hR : ∀ x ∈ l, u32R x) (w : World) (hA : RdW w A l) :
  Calls Try.prog 62 #[.slice A l.length c] w fun e w' => e = .returned (.string ⟨(wordsB l).toArray⟩) ∧ Below w.heap.size w w' := by
 go_enter Try.func62, Try.ntmps62
 go_wp2_with fail
 go_loopw [8] (fun i wr => ∃ k : Nat, k ≤ l.length ∧ i = .int .i64 k ∧ Lib.IsBuilderF 136 5 w.heap.size w.heap.size (Lib.byteCells (wordsB (l.take k))) wr ∧ Below w.heap.size w wr) (fun i _ => l.length - (intOf i).toNat)
 case atStart =>
  refine ⟨0, by omega, rfl, isBuilder_first ?_, ?_⟩
  ·exact heap_new w _
  ·exact ⟨rfl, rfl, rfl, by simp, fun k hk => Below.heap_alloc w _ k hk⟩
 case round =>
  obtain ⟨k, hk, rfl, hB, hW⟩ := hrel
  by_cases hlt : k < l.length
  ·obtain ⟨b, o, rfl, hb, hc⟩ := (hA.below hW) k hlt
   obtain ⟨x1, x2⟩ := hR _ (getD_mem' hlt)
   have hP := num_put_spec (l.getD k 0).toNat (by have : l.getD k default = l.getD k 0 := rfl; omega) 4
   rw [show min (4 : Int).toNat 8 = 4 from rfl, Int.toNat_of_nonneg (show 0 ≤ l.getD k 0 from x1)] at hP
   have hpl := putLE_len (l.getD k 0).toNat 4
   have hsn : wordsB (l.take (k + 1)) = wordsB (l.take k) ++ putLE (l.getD k 0).toNat 4 := by rw [take_snocI _ _ hlt, wordsB_snoc]; rfl
   have hwl := wordsB_len (l.take k)
   rw [List.length_take] at hwl
   have x1' : 0 ≤ l.getD k 0 := x1
   have x2' : l.getD k 0 ≤ 4294967295 := x2
   generalize l.getD k 0 = x at hc hP hpl hsn x1' x2'
   generalize putLE x.toNat 4 = s at hP hpl hsn
   have hk0 : (0 : Int) ≤ (k : Int) := by omega
   have hk1 : (k : Int) < (l.length : Int) := by omega
   go_wp2_with (go_at_call 105; refine (calls_str hP _ VR_int VR_int).mono ?_)
   rintro e w1 ⟨rfl, hb1⟩
   have hB1 := isBuilder_below hB hb1
   have hs1 := hb1.size
   have hs0 := hW.size
   go_wp2_with (go_at_call 82; refine (writeString_k w.heap.size w.heap.size _ ⟨s.toArray⟩ _ hB1 ?c1 ?c2).mono ?_)
   case c1 => simp only [Lib.byteCells,List.length_map]; show _ + s.toArray.size ≤ _; simp only [List.size_toArray]; omega
   case c2 => omega
   rintro e w2 ⟨rfl, h2, hb2, hk2⟩
   go_wp2
   go_roundw
   case rel =>
    refine ⟨k + 1, by omega, by go_num, ?_, ?_⟩
    ·rw [hsn]
     have e1 : Lib.byteCells (wordsB (l.take k) ++ s) = Lib.byteCells (wordsB (l.take k)) ++ Lib.strCells ⟨s.toArray⟩ := by simp [Lib.byteCells, Lib.strCells, byteCells]
     rw [e1]
     exact .inr h2
    ·exact (hW.trans (hb1.mono (by omega))).trans hb2
   case measure => simp [intOf]; omega
  ·obtain rfl : k = l.length := by omega
   rw [List.take_length] at hB
   have hs0 := hW.size
   go_wp2_with (go_at_call 84; refine (Try.Builder_String_any_k w.heap.size w.heap.size _ _ hB ?c3).mono ?_)
   case c3 => omega
   rintro e w1 ⟨rfl, _, k1, _⟩
   go_wp2
   go_ret
   exact ⟨rfl, hW.trans k1⟩
theorem swords_spec (l : List Int) (hl : l.length ≤ 20000) (hR : ∀ x ∈ l, u32R x) : Spec Try.prog 62 [encWords l] (.str (wordsB l)) := by
 intro U w xs hx
 obtain ⟨x, ys, rfl, h1, h3⟩ := hx
 have h3 : ys = [] := h3
 subst h3
 obtain ⟨A, c, rfl, hA⟩ := rdW_of h1
 refine (words_any A c l hl hR w hA).mono fun e' w' ⟨he, hb⟩ => ⟨_, he, hb, ?_⟩
 exact VR_str
end Go.Proofs.Ytpdhdkpebbfnnaa.V
end
section
namespace Go.Proofs.Ytpdhdkpebbfnnaa.V
open Go
theorem ynTA {l : List VV} (h : nls l = true := by first|rfl|assumption|(simp only [znl,znTA];(first|done|fail))) : nls l = true := h
set_option maxRecDepth 100000
def znTA := And.intro @jO <| And.intro @jP <| And.intro @jQ <| And.intro @jR <| And.intro @jS <| And.intro @jT <| And.intro @jU <| And.intro @nls_lay <| And.intro @nl_lay <| True.intro
set_option maxHeartbeats 8000000
theorem drop_next (b : List UInt8) (i : Nat) : (b.drop (128 * i)).drop (min (b.length - 128 * i) 128) = b.drop (128 * (i + 1)) := by
 rw [List.drop_drop]
 rcases Nat.le_total (128 * i + 128) b.length with h | h
 ·congr 1; omega
 ·rw [List.drop_eq_nil_of_le (by omega), List.drop_eq_nil_of_le (by omega)]
theorem take_min (b : List UInt8) (i : Nat) : (b.drop (128 * i)).take (min (b.length - 128 * i) 128) = (b.drop (128 * i)).take 128 := by
 rcases Nat.le_total 128 (b.length - 128 * i) with h | h
 ·rw [Nat.min_eq_right h]
 ·rw [Nat.min_eq_left h, List.take_of_length_le (by simp), List.take_of_length_le (by simp; omega)]
theorem rep_flat (n : Nat) : (List.replicate n [(0 : UInt8)]).flatten = List.replicate n 0 := by
 induction n with
 | zero => rfl
 | succ n ih => simp [List.replicate_succ, ih]
theorem zeros_spec (n : Nat) (hn : n ≤ 128) : Spec Try.prog 38 [.str [0], .int .i64 n] (.str (List.replicate n 0)) := by
 have := repeat_spec [0] n (by simp; omega) (by omega)
 rwa [rep_flat] at this
theorem slay_spec (e : Exe) (he : ExeR e) : Spec Try.prog 31 [encExe e] (layVV e) := by
 have hK := scheckE_spec e he
 unfold layVV
 by_cases hok : okE e
 ·rw [if_pos hok] at hK ⊢
  have hlT := layTo_len e hok
  have hlE : layE e = layTo e ++ [lastL] := rfl
  have hlD : layTo e = layN 0 (pagesN (4 * e.ws.length)) (wordsB e.ws) false ++ layN (pagesN (4 * e.ws.length)) (pagesN (e.data.length + e.z.toNat)) e.data true := rfl
  have hW := swords_spec e.ws he.ws he.wsR
  obtain ⟨h1, h2, h3, h4, h5, h6, h7, h8⟩ := hok
  have hwl := wordsB_len e.ws
  obtain ⟨n1, hn1⟩ : ∃ n, n = pagesN (4 * e.ws.length) := ⟨_, rfl⟩
  obtain ⟨n2, hn2⟩ : ∃ n, n = pagesN (e.data.length + e.z.toNat) := ⟨_, rfl⟩
  have hn1' : n1 = (4 * e.ws.length + 127) / 128 := hn1
  have hn2' : n2 = (e.data.length + e.z.toNat + 127) / 128 := hn2
  have hP1 : Spec Try.prog 63 [.int .i64 ((4 * e.ws.length : Nat) : Int)] (.int .i64 n1) := by
   have := spages_spec (4 * e.ws.length) (by omega) (by omega)
   rw [hn1]
   have e1 := pagesI_nat (4 * e.ws.length)
   push_cast at e1 ⊢
   rw [e1] at this
   exact this
  have hP2 : Spec Try.prog 63 [.int .i64 ((e.data.length : Int) + e.z)] (.int .i64 n2) := by
   have := spages_spec (e.data.length + e.z) (by omega) (by omega)
   have e1 := pagesI_nat (e.data.length + e.z.toNat)
   rw [hn2, ← e1]
   rw [show ((e.data.length + e.z.toNat : Nat) : Int) = e.data.length + e.z by omega]
   exact this
  refine spec_ok Try.func31 rfl rfl (by kernel_rfl) (k := 1) rfl (by decide) ?_
  repeat' (first|(with_reducible first|refine yrl (by constructor) ?_|refine jk (fun M hM=>?_)|(refine hM _ ?_;clear hM M)|refine yx3 ?_|refine yxa ?_ ?_|refine yxb ?_ ?_)|((with_reducible refine je ?_)<;>exact ynTA)|(with_reducible refine yxc ?_)|((with_reducible refine yxi (fun hc=>?_) (fun hc=>?_))<;>(try simp (disch:=omega) only [zhb] at hc)<;>(try (exfalso;omega))<;>(try subst hc))|(with_reducible refine yxw ?_)|(simp (config := { maxSteps := 400000 }) only [↓jt,↓reduceIte,zvs,reduceCtorEq,Nat.reduceEqDiff,Nat.reduceAdd,Nat.reduceLeDiff,Nat.reduceMul,Int.reduceBNe,Int.reduceBEq,Int.reduceEq,Int.reduceNe,Int.reduceLT,Int.reduceLE,Int.reduceGT,Int.reduceGE,Int.reduceNeg,Int.reduceToNat,Nat.reduceLT,Nat.reduceSub,tab,hwl,Try.results31,Try.results60,Try.results61,jTA])|(simp (disch:=omega) only [ziw]))
  all_goals (try (exfalso; omega))
  refine ja (ok_body Try.func61 rfl rfl (by kernel_rfl) (k := 5) (by rfl) (by decide) ?_)
  repeat' (first|(with_reducible first|refine yrl (by constructor) ?_|refine jk (fun M hM=>?_)|(refine hM _ ?_;clear hM M)|refine yx3 ?_|refine yxa ?_ ?_|refine yxb ?_ ?_)|((with_reducible refine je ?_)<;>exact ynTA)|(with_reducible refine yxc ?_)|((with_reducible refine yxi (fun hc=>?_) (fun hc=>?_))<;>(try simp (disch:=omega) only [zhb] at hc)<;>(try (exfalso;omega))<;>(try subst hc))|(with_reducible refine yxw ?_)|(simp (config := { maxSteps := 400000 }) only [↓jt,↓reduceIte,zvs,reduceCtorEq,Nat.reduceEqDiff,Nat.reduceAdd,Nat.reduceLeDiff,Nat.reduceMul,Int.reduceBNe,Int.reduceBEq,Int.reduceEq,Int.reduceNe,Int.reduceLT,Int.reduceLE,Int.reduceGT,Int.reduceGE,Int.reduceNeg,Int.reduceToNat,Nat.reduceLT,Nat.reduceSub,tab,hwl,Try.results31,Try.results60,Try.results61,jTA])|(simp (disch:=omega) only [ziw]))
  refine ok_loop (fun i : Nat => ⟨slots [(0, .str ((wordsB e.ws).drop (128 * i))), (2, .bool false), (3, .ptr 2 []), (4, .ptr 1 []), (9, .int .i64 n1), (10, .int .i64 i)], rows [(0, .row (.st [.cell, .cell, .cell, .cell]) (encExe e)), (1, .row .cell (.sl (some (3, [], 0)) i)), (2, .row .cell (.fn 60 [.ptr 1 []])), (3, .row (.arr i laySh) (.agg ((layN 0 i (wordsB e.ws) false).map encLay)))], 4⟩) (fun i => i ≤ n1) (fun i => n1 - i) 0 ?_ (Nat.zero_le _) (fun i hi => ?_)
  ·(refine yrn2 [] ?_ ?_<;>(repeat' (first|(with_reducible first|exact ya1|exact ya2|exact ya3|refine jx rfl (by first|rfl|assumption|(simp only [znl,znTA];(first|done|fail)))|exact ya5|exact ya7|exact jy|exact jz|refine jA ?_|refine ya9 ?_ ?_ ?_|refine jC rfl (by first|rfl|assumption|(simp only [znl,znTA];(first|done|fail)))|refine MR.agg (MRL.cons ?_ ?_)|refine MR.fn ?_|refine MRL.cons ?_ ?_|exact MRL.nil|refine jE ?_ ?_|exact jF|exact jG|refine yb1 ?_ ?_|refine MB.row ?_|refine jI ?_ ?_|exact ya8|refine jJ rfl (by first|rfl|assumption|(simp only [znl,znTA];(first|done|fail)))|refine yb2 ?_|rfl)|(simp only [znl,znTA];(first|done|fail))|(simp only [↓reduceIte,zlk,Nat.reduceEqDiff,reduceCtorEq])|(with_reducible first|refine jJ ?_ ?_|refine ya5 ?_|refine ju ?_|refine jv ?_|refine jw ?_|refine jx ?_ (by first|rfl|assumption|(simp only [znl,znTA];(first|done|fail)))|refine jC ?_ (by first|rfl|assumption|(simp only [znl,znTA];(first|done|fail)))))))
   all_goals (first | rfl)
  have hln := layN_len 0 i (wordsB e.ws) false
  by_cases hlt : i < n1
  ·obtain ⟨z, hz⟩ : ∃ z, z = ((wordsB e.ws).drop (128 * i)).take 128 := ⟨_, rfl⟩
   have hzl : z.length ≤ 128 := by rw [hz, List.length_take]; omega
   have hcut := pg_cut (wordsB e.ws) i
   have htm := take_min (wordsB e.ws) i
   have hdn := drop_next (wordsB e.ws) i
   rw [hwl] at htm hdn
   rw [← hz] at hcut htm
   have hZ : Spec Try.prog 38 [.str [0], .int .i64 (128 - (z.length : Int))] (.str (List.replicate (128 - z.length) 0)) := by
    have := zeros_spec (128 - z.length) (by omega)
    rw [show (128 - (z.length : Int)) = ((128 - z.length : Nat) : Int) by omega]
    exact this
   have hdl : ((wordsB e.ws).drop (128 * i)).length = 4 * e.ws.length - 128 * i := by rw [List.length_drop, hwl]
   have hsn := layN_snoc 0 i (wordsB e.ws) false
   have hw : (layN 0 i (wordsB e.ws) false).map encLay ++ [VV.agg [.int .i64 (i : Int), .str (pgB (wordsB e.ws) i), .bool false]] = (layN 0 (i + 1) (wordsB e.ws) false).map encLay := by
    rw [hsn, List.map_append]
    congr 1
    simp [encLay]
   obtain ⟨mm, hmm⟩ : ∃ mm, mm = min (4 * e.ws.length - 128 * i) 128 := ⟨_, rfl⟩
   have hmin : min ((4 * e.ws.length - 128 * i : Nat) : Int) 128 = (mm : Int) := by omega
   rw [← hmm] at htm hdn
   repeat' (first|(with_reducible first|refine yrl (by constructor) ?_|refine jk (fun M hM=>?_)|(refine hM _ ?_;clear hM M)|refine yx3 ?_|refine yxa ?_ ?_|refine yxb ?_ ?_)|((with_reducible refine je ?_)<;>exact ynTA)|(with_reducible refine yxc ?_)|((with_reducible refine yxi (fun hc=>?_) (fun hc=>?_))<;>(try simp (disch:=omega) only [zhb] at hc)<;>(try (exfalso;omega))<;>(try subst hc))|(with_reducible refine yxw ?_)|(simp (config := { maxSteps := 400000 }) only [↓jt,↓reduceIte,zvs,reduceCtorEq,Nat.reduceEqDiff,Nat.reduceAdd,Nat.reduceLeDiff,Nat.reduceMul,Int.reduceBNe,Int.reduceBEq,Int.reduceEq,Int.reduceNe,Int.reduceLT,Int.reduceLE,Int.reduceGT,Int.reduceGE,Int.reduceNeg,Int.reduceToNat,Nat.reduceLT,Nat.reduceSub,tab,hdl,hln,hmin,Try.results31,Try.results60,Try.results61,jTA])|(simp (disch:=omega) only [ziw]))
   all_goals (try (exfalso; omega))
   refine ok_drawC 7 (by kernel_rfl) (by decide +kernel) (by intro m hm; simp only [upd_ap,rows_cons,rows_nil]; (repeat (first | rfl | rw [if_neg (by omega)]))) (fun M hM => ?_); simp only [List.take_succ_cons,List.take_zero,List.drop_succ_cons,List.drop_zero]
   repeat' (first|(with_reducible first|refine yrl (by constructor) ?_|refine jk (fun M hM=>?_)|(refine hM _ ?_;clear hM M)|refine yx3 ?_|refine yxa ?_ ?_|refine yxb ?_ ?_)|((with_reducible refine je ?_)<;>exact ynTA)|(with_reducible refine yxc ?_)|((with_reducible refine yxi (fun hc=>?_) (fun hc=>?_))<;>(try simp (disch:=omega) only [zhb] at hc)<;>(try (exfalso;omega))<;>(try subst hc))|(with_reducible refine yxw ?_)|(simp (config := { maxSteps := 400000 }) only [↓jt,↓reduceIte,zvs,reduceCtorEq,Nat.reduceEqDiff,Nat.reduceAdd,Nat.reduceLeDiff,Nat.reduceMul,Int.reduceBNe,Int.reduceBEq,Int.reduceEq,Int.reduceNe,Int.reduceLT,Int.reduceLE,Int.reduceGT,Int.reduceGE,Int.reduceNeg,Int.reduceToNat,Nat.reduceLT,Nat.reduceSub,tab,hdl,hln,hmin,htm,Int.toNat_natCast,Try.results31,Try.results60,Try.results61,jTA])|(simp (disch:=omega) only [ziw]))
   all_goals (try (exfalso; omega))
   refine ja (ok_body Try.func60 rfl rfl (by kernel_rfl) (k := 4) (by rfl) (by decide) ?_)
   have htk : ((wordsB e.ws).drop (128 * (i + 1))).take (4 * e.ws.length - 128 * i - mm) = (wordsB e.ws).drop (128 * (i + 1)) := List.take_of_length_le (by rw [List.length_drop, hwl]; omega)
   repeat' (first|(with_reducible first|refine yrl (by constructor) ?_|refine jk (fun M hM=>?_)|(refine hM _ ?_;clear hM M)|refine yx3 ?_|refine yxa ?_ ?_|refine yxb ?_ ?_)|((with_reducible refine je ?_)<;>exact ynTA)|(with_reducible refine yxc ?_)|((with_reducible refine yxi (fun hc=>?_) (fun hc=>?_))<;>(try simp (disch:=omega) only [zhb] at hc)<;>(try (exfalso;omega))<;>(try subst hc))|(with_reducible refine yxw ?_)|(simp (config := { maxSteps := 400000 }) only [↓jt,↓reduceIte,zvs,reduceCtorEq,Nat.reduceEqDiff,Nat.reduceAdd,Nat.reduceLeDiff,Nat.reduceMul,Int.reduceBNe,Int.reduceBEq,Int.reduceEq,Int.reduceNe,Int.reduceLT,Int.reduceLE,Int.reduceGT,Int.reduceGE,Int.reduceNeg,Int.reduceToNat,Nat.reduceLT,Nat.reduceSub,tab,hdl,hln,hmin,htm,hcut,hw,hdn,htk,Int.toNat_natCast,Try.results31,Try.results60,Try.results61,jTA])|(simp (disch:=omega) only [ziw]))
   all_goals (try (exfalso; omega))
   all_goals (refine xl1 (i + 1) ?_ (by show i + 1 ≤ n1; omega) (by show n1 - (i + 1) < n1 - i; omega); (refine yrn2 [(3, 453)] ?_ ?_<;>(repeat' (first|(with_reducible first|exact ya1|exact ya2|exact ya3|refine jx rfl (by first|rfl|assumption|(simp only [znl,znTA];(first|done|fail)))|exact ya5|exact ya7|exact jy|exact jz|refine jA ?_|refine ya9 ?_ ?_ ?_|refine jC rfl (by first|rfl|assumption|(simp only [znl,znTA];(first|done|fail)))|refine MR.agg (MRL.cons ?_ ?_)|refine MR.fn ?_|refine MRL.cons ?_ ?_|exact MRL.nil|refine jE ?_ ?_|exact jF|exact jG|refine yb1 ?_ ?_|refine MB.row ?_|refine jI ?_ ?_|exact ya8|refine jJ rfl (by first|rfl|assumption|(simp only [znl,znTA];(first|done|fail)))|refine yb2 ?_|rfl)|(simp only [znl,znTA];(first|done|fail))|(simp only [↓reduceIte,zlk,Nat.reduceEqDiff,reduceCtorEq])|(with_reducible first|refine jJ ?_ ?_|refine ya5 ?_|refine ju ?_|refine jv ?_|refine jw ?_|refine jx ?_ (by first|rfl|assumption|(simp only [znl,znTA];(first|done|fail)))|refine jC ?_ (by first|rfl|assumption|(simp only [znl,znTA];(first|done|fail))))))); all_goals (first | rfl | exact htk))
  ·obtain rfl : i = n1 := by omega
   clear hP1 hW
   have hZ0 : Spec Try.prog 38 [.str [0], .int .i64 (128 - ((0 : Nat) : Int))] (.str (List.replicate 128 0)) := zeros_spec 128 (by decide)
   repeat' (first|(with_reducible first|refine yrl (by constructor) ?_|refine jk (fun M hM=>?_)|(refine hM _ ?_;clear hM M)|refine yx3 ?_|refine yxa ?_ ?_|refine yxb ?_ ?_)|((with_reducible refine je ?_)<;>exact ynTA)|(with_reducible refine yxc ?_)|((with_reducible refine yxi (fun hc=>?_) (fun hc=>?_))<;>(try simp (disch:=omega) only [zhb] at hc)<;>(try (exfalso;omega))<;>(try subst hc))|(with_reducible refine yxw ?_)|(simp (config := { maxSteps := 400000 }) only [↓jt,↓reduceIte,zvs,reduceCtorEq,Nat.reduceEqDiff,Nat.reduceAdd,Nat.reduceLeDiff,Nat.reduceMul,Int.reduceBNe,Int.reduceBEq,Int.reduceEq,Int.reduceNe,Int.reduceLT,Int.reduceLE,Int.reduceGT,Int.reduceGE,Int.reduceNeg,Int.reduceToNat,Nat.reduceLT,Nat.reduceSub,tab,hln,Try.results31,Try.results60,Try.results61,jTA])|(simp (disch:=omega) only [ziw]))
   all_goals (try (exfalso; omega))
   refine ok_drawC 10 (by kernel_rfl) (by decide +kernel) (by intro m hm; simp only [upd_ap,rows_cons,rows_nil]; (repeat (first | rfl | rw [if_neg (by omega)]))) (fun M hM => ?_); simp only [List.take_succ_cons,List.take_zero,List.drop_succ_cons,List.drop_zero]
   repeat' (first|(with_reducible first|refine yrl (by constructor) ?_|refine jk (fun M hM=>?_)|(refine hM _ ?_;clear hM M)|refine yx3 ?_|refine yxa ?_ ?_|refine yxb ?_ ?_)|((with_reducible refine je ?_)<;>exact ynTA)|(with_reducible refine yxc ?_)|((with_reducible refine yxi (fun hc=>?_) (fun hc=>?_))<;>(try simp (disch:=omega) only [zhb] at hc)<;>(try (exfalso;omega))<;>(try subst hc))|(with_reducible refine yxw ?_)|(simp (config := { maxSteps := 400000 }) only [↓jt,↓reduceIte,zvs,reduceCtorEq,Nat.reduceEqDiff,Nat.reduceAdd,Nat.reduceLeDiff,Nat.reduceMul,Int.reduceBNe,Int.reduceBEq,Int.reduceEq,Int.reduceNe,Int.reduceLT,Int.reduceLE,Int.reduceGT,Int.reduceGE,Int.reduceNeg,Int.reduceToNat,Nat.reduceLT,Nat.reduceSub,tab,hln,Try.results31,Try.results60,Try.results61,jTA])|(simp (disch:=omega) only [ziw]))
   all_goals (try (exfalso; omega))
   refine ja (ok_body Try.func61 rfl rfl (by kernel_rfl) (k := 5) (by rfl) (by decide) ?_)
   repeat' (first|(with_reducible first|refine yrl (by constructor) ?_|refine jk (fun M hM=>?_)|(refine hM _ ?_;clear hM M)|refine yx3 ?_|refine yxa ?_ ?_|refine yxb ?_ ?_)|((with_reducible refine je ?_)<;>exact ynTA)|(with_reducible refine yxc ?_)|((with_reducible refine yxi (fun hc=>?_) (fun hc=>?_))<;>(try simp (disch:=omega) only [zhb] at hc)<;>(try (exfalso;omega))<;>(try subst hc))|(with_reducible refine yxw ?_)|(simp (config := { maxSteps := 400000 }) only [↓jt,↓reduceIte,zvs,reduceCtorEq,Nat.reduceEqDiff,Nat.reduceAdd,Nat.reduceLeDiff,Nat.reduceMul,Int.reduceBNe,Int.reduceBEq,Int.reduceEq,Int.reduceNe,Int.reduceLT,Int.reduceLE,Int.reduceGT,Int.reduceGE,Int.reduceNeg,Int.reduceToNat,Nat.reduceLT,Nat.reduceSub,tab,hln,Try.results31,Try.results60,Try.results61,jTA])|(simp (disch:=omega) only [ziw]))
   all_goals (try (exfalso; omega))
   refine ok_loop (fun j : Nat => ⟨slots [(0, .str (e.data.drop (128 * j))), (2, .bool true), (3, .ptr 2 []), (4, .ptr 1 []), (9, .int .i64 n2), (10, .int .i64 j)], rows [(0, .row (.st [.cell, .cell, .cell, .cell]) (encExe e)), (1, .row .cell (.sl (some (644, [], 0)) (i + j))), (2, .row .cell (.fn 60 [.ptr 1 []])), (644, .row (.arr (i + j) laySh) (.agg ((layN 0 i (wordsB e.ws) false ++ layN i j e.data true).map encLay)))], 645⟩) (fun j => j ≤ n2) (fun j => n2 - j) 0 ?_ (Nat.zero_le _) (fun j hj => ?_)
   ·(refine yrn2 [(644, 3)] ?_ ?_<;>(repeat' (first|(with_reducible first|exact ya1|exact ya2|exact ya3|refine jx rfl (by first|rfl|assumption|(simp only [znl,znTA];(first|done|fail)))|exact ya5|exact ya7|exact jy|exact jz|refine jA ?_|refine ya9 ?_ ?_ ?_|refine jC rfl (by first|rfl|assumption|(simp only [znl,znTA];(first|done|fail)))|refine MR.agg (MRL.cons ?_ ?_)|refine MR.fn ?_|refine MRL.cons ?_ ?_|exact MRL.nil|refine jE ?_ ?_|exact jF|exact jG|refine yb1 ?_ ?_|refine MB.row ?_|refine jI ?_ ?_|exact ya8|refine jJ rfl (by first|rfl|assumption|(simp only [znl,znTA];(first|done|fail)))|refine yb2 ?_|rfl)|(simp only [znl,znTA];(first|done|fail))|(simp only [↓reduceIte,zlk,Nat.reduceEqDiff,reduceCtorEq])|(with_reducible first|refine jJ ?_ ?_|refine ya5 ?_|refine ju ?_|refine jv ?_|refine jw ?_|refine jx ?_ (by first|rfl|assumption|(simp only [znl,znTA];(first|done|fail)))|refine jC ?_ (by first|rfl|assumption|(simp only [znl,znTA];(first|done|fail)))))))
    all_goals (first | rfl | (simp [layN]; done))
   have hlm : (layN 0 i (wordsB e.ws) false ++ layN i j e.data true).length = i + j := by rw [List.length_append, layN_len, layN_len]
   by_cases hlt : j < n2
   ·obtain ⟨z, hz⟩ : ∃ z, z = (e.data.drop (128 * j)).take 128 := ⟨_, rfl⟩
    have hzl : z.length ≤ 128 := by rw [hz, List.length_take]; omega
    have hcut := pg_cut e.data j
    have htm := take_min e.data j
    have hdn := drop_next e.data j
    rw [← hz] at hcut htm
    have hZ : Spec Try.prog 38 [.str [0], .int .i64 (128 - (z.length : Int))] (.str (List.replicate (128 - z.length) 0)) := by
     have := zeros_spec (128 - z.length) (by omega)
     rw [show (128 - (z.length : Int)) = ((128 - z.length : Nat) : Int) by omega]
     exact this
    have hdl : (e.data.drop (128 * j)).length = e.data.length - 128 * j := by rw [List.length_drop]
    have hsn := layN_snoc i j e.data true
    have hw : (layN 0 i (wordsB e.ws) false ++ layN i j e.data true).map encLay ++ [VV.agg [.int .i64 ((i : Int) + (j : Int)), .str (pgB e.data j), .bool true]] = (layN 0 i (wordsB e.ws) false ++ layN i (j + 1) e.data true).map encLay := by
     rw [hsn, ← List.append_assoc, List.map_append (l₂ := [_])]; rfl
    have hcast : ((i + j : Nat) : Int) = (i : Int) + (j : Int) := by omega
    obtain ⟨mm, hmm⟩ : ∃ mm, mm = min (e.data.length - 128 * j) 128 := ⟨_, rfl⟩
    have hmin : min ((e.data.length - 128 * j : Nat) : Int) 128 = (mm : Int) := by omega
    rw [← hmm] at htm hdn
    have htk : (e.data.drop (128 * (j + 1))).take (e.data.length - 128 * j - mm) = e.data.drop (128 * (j + 1)) := List.take_of_length_le (by rw [List.length_drop]; omega)
    generalize layN 0 i (wordsB e.ws) false ++ layN i j e.data true = L at hlm hw ⊢
    repeat' (first|(with_reducible first|refine yrl (by constructor) ?_|refine jk (fun M hM=>?_)|(refine hM _ ?_;clear hM M)|refine yx3 ?_|refine yxa ?_ ?_|refine yxb ?_ ?_)|((with_reducible refine je ?_)<;>exact ynTA)|(with_reducible refine yxc ?_)|((with_reducible refine yxi (fun hc=>?_) (fun hc=>?_))<;>(try simp (disch:=omega) only [zhb] at hc)<;>(try (exfalso;omega))<;>(try subst hc))|(with_reducible refine yxw ?_)|(simp (config := { maxSteps := 400000 }) only [↓jt,↓reduceIte,zvs,reduceCtorEq,Nat.reduceEqDiff,Nat.reduceAdd,Nat.reduceLeDiff,Nat.reduceMul,Int.reduceBNe,Int.reduceBEq,Int.reduceEq,Int.reduceNe,Int.reduceLT,Int.reduceLE,Int.reduceGT,Int.reduceGE,Int.reduceNeg,Int.reduceToNat,Nat.reduceLT,Nat.reduceSub,tab,hdl,hlm,hmin,Try.results31,Try.results60,Try.results61,jTA])|(simp (disch:=omega) only [ziw]))
    all_goals (try (exfalso; omega))
    refine ok_drawC 7 (by kernel_rfl) (by decide +kernel) (by intro m hm; simp only [upd_ap,rows_cons,rows_nil]; (repeat (first | rfl | rw [if_neg (by omega)]))) (fun M hM => ?_); simp only [List.take_succ_cons,List.take_zero,List.drop_succ_cons,List.drop_zero]
    repeat' (first|(with_reducible first|refine yrl (by constructor) ?_|refine jk (fun M hM=>?_)|(refine hM _ ?_;clear hM M)|refine yx3 ?_|refine yxa ?_ ?_|refine yxb ?_ ?_)|((with_reducible refine je ?_)<;>exact ynTA)|(with_reducible refine yxc ?_)|((with_reducible refine yxi (fun hc=>?_) (fun hc=>?_))<;>(try simp (disch:=omega) only [zhb] at hc)<;>(try (exfalso;omega))<;>(try subst hc))|(with_reducible refine yxw ?_)|(simp (config := { maxSteps := 400000 }) only [↓jt,↓reduceIte,zvs,reduceCtorEq,Nat.reduceEqDiff,Nat.reduceAdd,Nat.reduceLeDiff,Nat.reduceMul,Int.reduceBNe,Int.reduceBEq,Int.reduceEq,Int.reduceNe,Int.reduceLT,Int.reduceLE,Int.reduceGT,Int.reduceGE,Int.reduceNeg,Int.reduceToNat,Nat.reduceLT,Nat.reduceSub,tab,hdl,hlm,hmin,htm,Int.toNat_natCast,Try.results31,Try.results60,Try.results61,jTA])|(simp (disch:=omega) only [ziw]))
    all_goals (try (exfalso; omega))
    refine ja (ok_body Try.func60 rfl rfl (by kernel_rfl) (k := 4) (by rfl) (by decide) ?_)
    repeat' (first|(with_reducible first|refine yrl (by constructor) ?_|refine jk (fun M hM=>?_)|(refine hM _ ?_;clear hM M)|refine yx3 ?_|refine yxa ?_ ?_|refine yxb ?_ ?_)|((with_reducible refine je ?_)<;>exact ynTA)|(with_reducible refine yxc ?_)|((with_reducible refine yxi (fun hc=>?_) (fun hc=>?_))<;>(try simp (disch:=omega) only [zhb] at hc)<;>(try (exfalso;omega))<;>(try subst hc))|(with_reducible refine yxw ?_)|(simp (config := { maxSteps := 400000 }) only [↓jt,↓reduceIte,zvs,reduceCtorEq,Nat.reduceEqDiff,Nat.reduceAdd,Nat.reduceLeDiff,Nat.reduceMul,Int.reduceBNe,Int.reduceBEq,Int.reduceEq,Int.reduceNe,Int.reduceLT,Int.reduceLE,Int.reduceGT,Int.reduceGE,Int.reduceNeg,Int.reduceToNat,Nat.reduceLT,Nat.reduceSub,tab,hdl,hlm,hmin,htm,hcut,hcast,hw,hdn,htk,Int.toNat_natCast,Try.results31,Try.results60,Try.results61,jTA])|(simp (disch:=omega) only [ziw]))
    all_goals (try (exfalso; omega))
    all_goals (refine xl1 (j + 1) ?_ (by show j + 1 ≤ n2; omega) (by show n2 - (j + 1) < n2 - j; omega); (refine yrn2 [(644, 1094)] ?_ ?_<;>(repeat' (first|(with_reducible first|exact ya1|exact ya2|exact ya3|refine jx rfl (by first|rfl|assumption|(simp only [znl,znTA];(first|done|fail)))|exact ya5|exact ya7|exact jy|exact jz|refine jA ?_|refine ya9 ?_ ?_ ?_|refine jC rfl (by first|rfl|assumption|(simp only [znl,znTA];(first|done|fail)))|refine MR.agg (MRL.cons ?_ ?_)|refine MR.fn ?_|refine MRL.cons ?_ ?_|exact MRL.nil|refine jE ?_ ?_|exact jF|exact jG|refine yb1 ?_ ?_|refine MB.row ?_|refine jI ?_ ?_|exact ya8|refine jJ rfl (by first|rfl|assumption|(simp only [znl,znTA];(first|done|fail)))|refine yb2 ?_|rfl)|(simp only [znl,znTA];(first|done|fail))|(simp only [↓reduceIte,zlk,Nat.reduceEqDiff,reduceCtorEq])|(with_reducible first|refine jJ ?_ ?_|refine ya5 ?_|refine ju ?_|refine jv ?_|refine jw ?_|refine jx ?_ (by first|rfl|assumption|(simp only [znl,znTA];(first|done|fail)))|refine jC ?_ (by first|rfl|assumption|(simp only [znl,znTA];(first|done|fail))))))); all_goals (first | rfl | exact htk | (simp only [Nat.add_assoc]; done)))
   ·obtain rfl : j = n2 := by omega
    have hlay : layN 0 i (wordsB e.ws) false ++ layN i j e.data true = layTo e := by rw [hlD, ← hn1, ← hn2]
    rw [hlay] at hlm ⊢
    have hw : (layTo e).map encLay ++ [VV.agg [.int .i64 15, .str (List.replicate 128 0), .bool true]] = (layE e).map encLay := by rw [hlE, List.map_append]; rfl
    have hlE2 : (layE e).length = i + j + 1 := by rw [hlE, List.length_append, List.length_singleton, hlm]
    have hnl := nls_lay (layE e)
    clear hlE hlD hlay
    repeat' (first|(with_reducible first|refine yrl (by constructor) ?_|refine jk (fun M hM=>?_)|(refine hM _ ?_;clear hM M)|refine yx3 ?_|refine yxa ?_ ?_|refine yxb ?_ ?_)|((with_reducible refine je ?_)<;>exact ynTA)|(with_reducible refine yxc ?_)|((with_reducible refine yxi (fun hc=>?_) (fun hc=>?_))<;>(try simp (disch:=omega) only [zhb] at hc)<;>(try (exfalso;omega))<;>(try subst hc))|(with_reducible refine yxw ?_)|(simp (config := { maxSteps := 400000 }) only [↓jt,↓reduceIte,zvs,reduceCtorEq,Nat.reduceEqDiff,Nat.reduceAdd,Nat.reduceLeDiff,Nat.reduceMul,Int.reduceBNe,Int.reduceBEq,Int.reduceEq,Int.reduceNe,Int.reduceLT,Int.reduceLE,Int.reduceGT,Int.reduceGE,Int.reduceNeg,Int.reduceToNat,Nat.reduceLT,Nat.reduceSub,tab,hlm,hw,Try.results31,Try.results60,Try.results61,jTA])|(simp (disch:=omega) only [ziw]))
    all_goals (try (exfalso; omega))
    refine ja (ok_body Try.func60 rfl rfl (by kernel_rfl) (k := 4) (by rfl) (by decide) ?_)
    repeat' (first|(with_reducible first|refine yrl (by constructor) ?_|refine jk (fun M hM=>?_)|(refine hM _ ?_;clear hM M)|refine yx3 ?_|refine yxa ?_ ?_|refine yxb ?_ ?_)|((with_reducible refine je ?_)<;>exact ynTA)|(with_reducible refine yxc ?_)|((with_reducible refine yxi (fun hc=>?_) (fun hc=>?_))<;>(try simp (disch:=omega) only [zhb] at hc)<;>(try (exfalso;omega))<;>(try subst hc))|(with_reducible refine yxw ?_)|(simp (config := { maxSteps := 400000 }) only [↓jt,↓reduceIte,zvs,reduceCtorEq,Nat.reduceEqDiff,Nat.reduceAdd,Nat.reduceLeDiff,Nat.reduceMul,Int.reduceBNe,Int.reduceBEq,Int.reduceEq,Int.reduceNe,Int.reduceLT,Int.reduceLE,Int.reduceGT,Int.reduceGE,Int.reduceNeg,Int.reduceToNat,Nat.reduceLT,Nat.reduceSub,tab,hlm,hw,Try.results31,Try.results60,Try.results61,jTA])|(simp (disch:=omega) only [ziw]))
    all_goals (try (exfalso; omega))
    all_goals first
     | (((try simp only [List.map_nil]); simp only [zrds]; (repeat' (first | exact rd_nil | exact Rd.refl _ _ (by first|rfl|assumption|(simp only [znl,znTA];(first|done|fail))) | (refine And.intro ?_ ?_) | (refine rd_own (by (simp only [↓reduceIte,zlk,Nat.reduceEqDiff,reduceCtorEq]); exact rfl) ?_ ?_ ?_) | rfl | assumption | (simp only [znl,znTA];(first|done|fail)) | (simp; done) | (simp; omega)))); done)
 ·rw [if_neg hok] at hK ⊢
  refine spec_ok Try.func31 rfl rfl (by kernel_rfl) (k := 1) rfl (by decide) ?_
  repeat' (first|(with_reducible first|refine yrl (by constructor) ?_|refine jk (fun M hM=>?_)|(refine hM _ ?_;clear hM M)|refine yx3 ?_|refine yxa ?_ ?_|refine yxb ?_ ?_)|((with_reducible refine je ?_)<;>exact ynTA)|(with_reducible refine yxc ?_)|((with_reducible refine yxi (fun hc=>?_) (fun hc=>?_))<;>(try simp (disch:=omega) only [zhb] at hc)<;>(try (exfalso;omega))<;>(try subst hc))|(with_reducible refine yxw ?_)|(simp (config := { maxSteps := 400000 }) only [↓jt,↓reduceIte,zvs,reduceCtorEq,Nat.reduceEqDiff,Nat.reduceAdd,Nat.reduceLeDiff,Nat.reduceMul,Int.reduceBNe,Int.reduceBEq,Int.reduceEq,Int.reduceNe,Int.reduceLT,Int.reduceLE,Int.reduceGT,Int.reduceGE,Int.reduceNeg,Int.reduceToNat,Nat.reduceLT,Nat.reduceSub,tab,Try.results31,jTA])|(simp (disch:=omega) only [ziw]))
  all_goals first
   | (exfalso; omega)
   | (((try simp only [List.map_nil]); simp only [zrds]; (repeat' (first | exact rd_nil | exact Rd.refl _ _ (by first|rfl|assumption|(simp only [znl,znTA];(first|done|fail))) | (refine And.intro ?_ ?_) | (refine rd_own (by (simp only [↓reduceIte,zlk,Nat.reduceEqDiff,reduceCtorEq]); exact rfl) ?_ ?_ ?_) | rfl | assumption | (simp only [znl,znTA];(first|done|fail)) | (simp; done) | (simp; omega)))); done)
end Go.Proofs.Ytpdhdkpebbfnnaa.V
end
