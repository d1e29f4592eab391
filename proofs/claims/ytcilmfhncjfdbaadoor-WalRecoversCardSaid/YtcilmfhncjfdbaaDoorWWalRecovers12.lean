/-
  Parts of the proof of WalRecovers: HT, HW.
  Conditions: none.
-/
import Derived.Test.YtcilmfhncjfdbaaDoorWWalRecovers11
import Derived.Test.YtcilmfhncjfdbaaDoorWWalRecovers03
import Derived.Test.YtcilmfhncjfdbaaDoorWWalRecovers04
import Derived.Test.YtcilmfhncjfdbaaDoorRows
import Derived.LaidMore
import Derived.OpenShut
import Derived.FnData
import Derived.MakeChecks
section
/-
  WAL: the laws WalRecovers, WalCommits.
-/
set_option linter.unusedVariables false
set_option linter.unusedSimpArgs false
namespace Go.Proofs.YtcilmfhncjfdbaaDoor.V
open Go
set_option maxRecDepth 100000
set_option linter.defProp false in
def znHT := And.intro @jO <| And.intro @nls_mapB <| And.intro @nls_frames <| True.intro
set_option maxHeartbeats 4000000
theorem recD_ok {N : Nat} {d : Dr} (h : DOk N d) : DOk (N + 33) (recD d).1 := by
  unfold recD
  split
  · exact h.mono (by omega)
  · rename_i hb
    split
    · exact h.mono (by omega)
    · rename_i ht
      have hm := told_may ht
      obtain ⟨hw, hl⟩ := may_wv hm
      have hk : WOk (toldD d) := ⟨by omega, fun w hw' => by have := hw w hw'; have := h.bl; omega, fun w hw' => by have := hw w hw'; omega⟩
      have hc : ∀ c ∈ homeC (toldD d), ClR c := fun c hc => by
        rcases List.mem_append.1 hc with hc | hc
        · exact hmP_R hk (Nat.le_refl _) c hc
        · simp only [List.mem_cons,List.not_mem_nil,or_false] at hc; subst hc; trivial
      refine (runC_ok _ h hc).mono ?_
      have : (homeC (toldD d)).length = (toldD d).length + 1 := by unfold homeC; rw [List.length_append, hmP_len]; rfl
      omega
theorem recovers_law (x0 : List (List UInt8) × List (Int × List UInt8 × Unit) × Int × Unit) (g0 : good drT x0) (l0 : Ty.lite drT x0) :
    Spec Tryd.prog 7 [toV drT x0] (.bool true) := by
  have hA := d_arg x0 g0 l0
  rw [toV_dr]
  generalize mkDr x0 = d at hA
  clear g0 l0 x0
  have hG := hA.great
  have hW := awake_spec
  cases hb : bigW d with
  | true =>
    rw [hb, if_pos rfl] at hG
    refine spec_ok Tryd.func7 rfl rfl (by kernel_rfl) (k := 1) rfl (by decide) ?_
    repeat' (first|(with_reducible first|refine yrl (by constructor) ?_|refine jk (fun M hM=>?_)|(refine hM _ ?_;clear hM M)|refine xb3 (by decide) ?_|refine yqa (by assumption) ?_ ?_|refine yqb (by assumption) ?_ ?_)|((with_reducible refine je ?_)<;>(first|rfl|assumption|(simp only [znl,znHT];(first|done|fail))))|(with_reducible refine jf (by (simp only [↓reduceIte,zlk,Nat.reduceEqDiff,reduceCtorEq]);exact rfl) ?_)|((with_reducible first|refine jg (fun hc=>?_) (fun hc=>?_)|refine jh (fun hc=>?_) (fun hc=>?_))<;>(try simp (disch:=omega) only [zhb] at hc)<;>(try (exfalso;omega))<;>(try subst hc))|(with_reducible refine ji (by omega) ?_)|(simp (config := { maxSteps := 400000 }) only [↓jt,↓reduceIte,zvs,reduceCtorEq,Nat.reduceEqDiff,Nat.reduceAdd,Nat.reduceLeDiff,Nat.reduceMul,Int.reduceBNe,Int.reduceBEq,Int.reduceEq,Int.reduceNe,Int.reduceLT,Int.reduceLE,Int.reduceGT,Int.reduceGE,Int.reduceNeg,Int.reduceToNat,Nat.reduceLT,Nat.reduceSub,tab,Tryd.results7,List.toList_toArray])|(simp (disch:=omega) only [ziw]))
    all_goals first
      | (simp only [zrds]; done)
      | trace_state
  | false =>
    rw [hb, if_neg (by simp)] at hG
    have hd := hA.dok hb
    have h1 := precover_spec d hd (by omega)
    have h2 := rrecover_spec d hd (by omega)
    have hx := recD_ok hd
    obtain ⟨x, hxe⟩ : ∃ x, x = recD d := ⟨_, rfl⟩
    rw [← hxe] at h1 h2 hx
    obtain ⟨a, e⟩ := x
    dsimp only at hx
    have hfa := hx.fit (by omega)
    have h3 := sameDrive_spec a a hfa hfa
    rw [decide_eq_true rfl] at h3
    by_cases he : e = 0
    · subst he
      obtain ⟨t1, t2⟩ := rec_twice hxe.symm
      have hx1 : DOk 93 ⟨a.bl, a.pe, -1⟩ := ⟨hx.bl, hx.blS, hx.pe, hx.peS, by show (-2 ^ 63 : Int) ≤ -1; decide, by show (-1 : Int) < 2 ^ 63; decide⟩
      have h4 := precover_spec _ hx1 (by omega)
      have hy := recD_ok hx1
      obtain ⟨y, hye⟩ : ∃ y, y = recD ⟨a.bl, a.pe, -1⟩ := ⟨_, rfl⟩
      rw [← hye] at h4 hy t1 t2
      obtain ⟨b, f⟩ := y
      dsimp only at hy t1 t2
      subst t1
      have h5 := phomeV_spec _ hx1 (by omega)
      have h6 := phomeV_spec _ hy (by omega)
      have hvl : (volB b).length < 2 ^ 36 := by
        have := hy.bl
        unfold volB
        split
        · simp only [volV,List.length_map,List.length_range]; omega
        · show 0 < _; decide
      have h7 := sameBlocks_spec (volB b) (volB b) hvl hvl
      rw [decide_eq_true rfl] at h7
      rw [← t2] at h5
      obtain ⟨V, hV⟩ : ∃ V, V = volB b := ⟨_, rfl⟩
      rw [← hV] at h5 h6 h7
      clear hye hxe t2 hV
      simp only [drV] at h1 h2 h4
      refine spec_ok Tryd.func7 rfl rfl (by kernel_rfl) (k := 1) rfl (by decide) ?_
      repeat' (first|(with_reducible first|refine yrl (by constructor) ?_|refine jk (fun M hM=>?_)|(refine hM _ ?_;clear hM M)|refine xb3 (by decide) ?_|refine yqa (by assumption) ?_ ?_|refine yqb (by assumption) ?_ ?_)|((with_reducible refine je ?_)<;>(first|rfl|assumption|(simp only [znl,znHT];(first|done|fail))))|(with_reducible refine jf (by (simp only [↓reduceIte,zlk,Nat.reduceEqDiff,reduceCtorEq]);exact rfl) ?_)|((with_reducible first|refine jg (fun hc=>?_) (fun hc=>?_)|refine jh (fun hc=>?_) (fun hc=>?_))<;>(try simp (disch:=omega) only [zhb] at hc)<;>(try (exfalso;omega))<;>(try subst hc))|(with_reducible refine ji (by omega) ?_)|(simp (config := { maxSteps := 400000 }) only [↓jt,↓reduceIte,zvs,reduceCtorEq,Nat.reduceEqDiff,Nat.reduceAdd,Nat.reduceLeDiff,Nat.reduceMul,Int.reduceBNe,Int.reduceBEq,Int.reduceEq,Int.reduceNe,Int.reduceLT,Int.reduceLE,Int.reduceGT,Int.reduceGE,Int.reduceNeg,Int.reduceToNat,Nat.reduceLT,Nat.reduceSub,tab,encDr,Tryd.results7,List.toList_toArray])|(simp (disch:=omega) only [ziw]))
      refine ok_drawC 12 (by kernel_rfl) (by decide +kernel) (by intro m hm; simp only [upd_ap,rows_cons,rows_nil]; (repeat (first | rfl | rw [if_neg (by omega)]))) (fun M hM => ?_); simp only [List.take_succ_cons,List.take_zero,List.drop_succ_cons,List.drop_zero]
      repeat' (first|(with_reducible first|refine yrl (by constructor) ?_|refine jk (fun M hM=>?_)|(refine hM _ ?_;clear hM M)|refine xb3 (by decide) ?_|refine yqa (by assumption) ?_ ?_|refine yqb (by assumption) ?_ ?_)|((with_reducible refine je ?_)<;>(first|rfl|assumption|(simp only [znl,znHT];(first|done|fail))))|(with_reducible refine jf (by (simp only [↓reduceIte,zlk,Nat.reduceEqDiff,reduceCtorEq]);exact rfl) ?_)|((with_reducible first|refine jg (fun hc=>?_) (fun hc=>?_)|refine jh (fun hc=>?_) (fun hc=>?_))<;>(try simp (disch:=omega) only [zhb] at hc)<;>(try (exfalso;omega))<;>(try subst hc))|(with_reducible refine ji (by omega) ?_)|(simp (config := { maxSteps := 400000 }) only [↓jt,↓reduceIte,zvs,reduceCtorEq,Nat.reduceEqDiff,Nat.reduceAdd,Nat.reduceLeDiff,Nat.reduceMul,Int.reduceBNe,Int.reduceBEq,Int.reduceEq,Int.reduceNe,Int.reduceLT,Int.reduceLE,Int.reduceGT,Int.reduceGE,Int.reduceNeg,Int.reduceToNat,Nat.reduceLT,Nat.reduceSub,tab,encDr,Tryd.results7,List.toList_toArray])|(simp (disch:=omega) only [ziw]))
      all_goals first
        | (simp only [zrds]; done)
        | trace_state
    · clear hxe
      simp only [drV] at h1 h2
      refine spec_ok Tryd.func7 rfl rfl (by kernel_rfl) (k := 1) rfl (by decide) ?_
      repeat' (first|(with_reducible first|refine yrl (by constructor) ?_|refine jk (fun M hM=>?_)|(refine hM _ ?_;clear hM M)|refine xb3 (by decide) ?_|refine yqa (by assumption) ?_ ?_|refine yqb (by assumption) ?_ ?_)|((with_reducible refine je ?_)<;>(first|rfl|assumption|(simp only [znl,znHT];(first|done|fail))))|(with_reducible refine jf (by (simp only [↓reduceIte,zlk,Nat.reduceEqDiff,reduceCtorEq]);exact rfl) ?_)|((with_reducible first|refine jg (fun hc=>?_) (fun hc=>?_)|refine jh (fun hc=>?_) (fun hc=>?_))<;>(try simp (disch:=omega) only [zhb] at hc)<;>(try (exfalso;omega))<;>(try subst hc))|(with_reducible refine ji (by omega) ?_)|(simp (config := { maxSteps := 400000 }) only [↓jt,↓reduceIte,zvs,reduceCtorEq,Nat.reduceEqDiff,Nat.reduceAdd,Nat.reduceLeDiff,Nat.reduceMul,Int.reduceBNe,Int.reduceBEq,Int.reduceEq,Int.reduceNe,Int.reduceLT,Int.reduceLE,Int.reduceGT,Int.reduceGE,Int.reduceNeg,Int.reduceToNat,Nat.reduceLT,Nat.reduceSub,tab,Tryd.results7,List.toList_toArray])|(simp (disch:=omega) only [ziw]))
      all_goals first
        | (exfalso; omega)
        | (simp only [zrds]; done)
        | trace_state
end Go.Proofs.YtcilmfhncjfdbaaDoor.V
end
section
/-
  THE TABLES of hash, as start-up code laid them.
-/
set_option linter.unusedVariables false
namespace Go.Proofs.YtcilmfhncjfdbaaDoor.V
open Go
set_option maxRecDepth 100000
section
variable {H : Type} {enc : TypeId × Value → H} {P : Program} {w : World} {base : Nat} {spare : Nat → Bool} {held : Bool}
theorem take1 {cs : List Value} {i : Nat} {v : Value} (h : (cs.drop (i * 1)).take 1 = [v]) : cs[i]? = some v := by
  rw [Nat.mul_one] at h
  have h2 : ((cs.drop i).take 1)[0]? = some v := by rw [h]; rfl
  rw [List.getElem?_take] at h2
  simpa [List.getElem?_drop] using h2
theorem trod_nums {k : IntKind} {n fuel : Nat} {t e : TypeId} {cs : List Value} {x : DataW H × List MemPlace} (ht : P.underlying t = some (.array n e)) (he : P.underlying e = some (.int k)) (hc : P.cellsOf e = 1) {L : List Int} (hL : L.length = n)
    (h : DataW.trod enc P w base spare held fuel t cs = some x) (hx : x.1 = .agg (L.map fun s => .lit (.int k s))) : ∀ i, i < n → cs[i]? = some (.int k (L.getD i 0)) := fun i hi => by
  obtain ⟨xs, m, _, hxs, _, hlen, hel⟩ := DataW.trod_array ht h
  rw [hxs] at hx
  simp only [DataW.agg.injEq] at hx
  have h1 := hel i hi
  rw [hc, List.getElem?_eq_getElem (by omega)] at h1
  obtain ⟨s, e1, e2, _⟩ := DataW.trod_int he h1
  have h3 := take1 e1
  have h4 : (xs.map (·.1))[i]? = (L.map fun s => (DataW.lit (.int k s) : DataW H))[i]? := by rw [hx]
  rw [List.getElem?_map, List.getElem?_map, List.getElem?_eq_getElem (by omega), List.getElem?_eq_getElem (by omega)] at h4
  simp only [Option.map_some,Option.some.injEq] at h4
  rw [e2] at h4
  simp only [DataW.lit.injEq,Lit.int.injEq,true_and] at h4
  rw [h3, List.getD_eq_getElem?_getD, List.getElem?_eq_getElem (by omega)]
  simp only [Option.getD_some,← h4]
theorem trod_rows {k : IntKind} {n q fuel : Nat} {t e f : TypeId} {cs : List Value} {x : DataW H × List MemPlace} (ht : P.underlying t = some (.array n e)) (he : P.underlying e = some (.array q f)) (hf : P.underlying f = some (.int k)) (hc : P.cellsOf f = 1) (hq : P.cellsOf e = q) {L : List (List Int)} (hL : L.length = n) (hL2 : ∀ l ∈ L, l.length = q)
    (h : DataW.trod enc P w base spare held fuel t cs = some x) (hx : x.1 = .agg (L.map fun l => .agg (l.map fun s => .lit (.int k s)))) : ∀ i, i < n → ∀ j, j < q → cs[i * q + j]? = some (.int k ((L.getD i []).getD j 0)) := fun i hi j hj => by
  obtain ⟨xs, m, _, hxs, _, hlen, hel⟩ := DataW.trod_array ht h
  rw [hxs] at hx
  simp only [DataW.agg.injEq] at hx
  have h1 := hel i hi
  rw [hq, List.getElem?_eq_getElem (by omega)] at h1
  have h4 : (xs.map (·.1))[i]? = (L.map fun l => (DataW.agg (l.map fun s => .lit (.int k s)) : DataW H))[i]? := by rw [hx]
  rw [List.getElem?_map, List.getElem?_map, List.getElem?_eq_getElem (by omega), List.getElem?_eq_getElem (by omega)] at h4
  simp only [Option.map_some,Option.some.injEq] at h4
  have hg : L.getD i [] = L[i] := by rw [List.getD_eq_getElem?_getD, List.getElem?_eq_getElem (by omega)]; rfl
  have h5 := trod_nums he hf hc (hL2 _ (List.getElem_mem (by omega : i < L.length))) h1 h4 j hj
  rw [List.getElem?_take, if_pos hj, List.getElem?_drop] at h5
  rw [hg]; exact h5
theorem c1_nums (ρ : Names) (w : World) (k : IntKind) : ∀ L : List Int, CR ρ w (L.map (.int k)) (L.map fun s => Value.int k s)
  | [] => by simp only [List.map_nil,CR]
  | s :: L => by
    simp only [List.map_cons,CR,C1]
    exact ⟨_, _, rfl, rfl, c1_nums ρ w k L⟩
theorem c1_rows (ρ : Names) (w : World) (k : IntKind) : ∀ L : List (List Int), CR ρ w (L.map fun l => .agg (l.map (.int k))) (L.flatten.map fun s => Value.int k s)
  | [] => by simp only [List.map_nil,List.flatten_nil,CR]
  | l :: L => by
    simp only [List.map_cons,CR,C1,List.flatten_cons,List.map_append]
    exact ⟨_, _, rfl, c1_nums ρ w k l, c1_rows ρ w k L⟩
theorem there_size {w : World} {g : Nat} {v : Value} (h : w.cell? ⟨g, 0, none⟩ = some v) : g < w.heap.size := by
  rcases Nat.lt_or_ge g w.heap.size with h1 | h1
  · exact h1
  · unfold World.cell? at h
    rw [Array.getElem?_eq_none h1] at h
    cases h
theorem tab_nums {w : World} {g : Nat} {k : IntKind} {L : List Int} (h0 : 0 < L.length) (h : ∀ i, i < L.length → w.cell? ⟨g, i, none⟩ = some (.int k (L.getD i 0))) :
    g < w.heap.size ∧ ∃ cs, (∀ ρ w, C1 ρ w (.agg (L.map (.int k))) cs) ∧ Has (.arr L.length .cell) (.agg (L.map (.int k))) ∧ w.rangeAt g 0 cs := by
  refine ⟨there_size (h 0 h0), L.map fun s => Value.int k s, fun ρ w => by simp only [C1]; exact c1_nums ρ w k L, has_arrMap rfl (fun x => by simp [Has, VV.leaf]), fun j v hv => ?_⟩
  rw [List.getElem?_map] at hv
  obtain ⟨s, hs, rfl⟩ := Option.map_eq_some_iff.1 hv
  have hj := (List.getElem?_eq_some_iff.1 hs).1
  rw [Nat.zero_add, h j hj, List.getD_eq_getElem?_getD, hs]; rfl
theorem tab_rows {w : World} {g : Nat} {k : IntKind} {q : Nat} {L : List (List Int)} (h0 : 0 < L.flatten.length) (hq : ∀ l ∈ L, l.length = q) (h : ∀ i, i < L.flatten.length → w.cell? ⟨g, i, none⟩ = some (.int k (L.flatten.getD i 0))) :
    g < w.heap.size ∧ ∃ cs, (∀ ρ w, C1 ρ w (.agg (L.map fun l => .agg (l.map (.int k)))) cs) ∧ Has (.arr L.length (.arr q .cell)) (.agg (L.map fun l => .agg (l.map (.int k)))) ∧ w.rangeAt g 0 cs := by
  refine ⟨there_size (h 0 h0), L.flatten.map fun s => Value.int k s, fun ρ w => by simp only [C1]; exact c1_rows ρ w k L, ?_, fun j v hv => ?_⟩
  · simp only [Has]
    refine ⟨by rw [List.length_map], fun v hv => ?_⟩
    obtain ⟨l, hl, rfl⟩ := List.mem_map.1 hv
    exact has_arrMap (hq l hl) (fun x => by simp [Has, VV.leaf])
  · rw [List.getElem?_map] at hv
    obtain ⟨s, hs, rfl⟩ := Option.map_eq_some_iff.1 hv
    have hj := (List.getElem?_eq_some_iff.1 hs).1
    rw [Nat.zero_add, h j hj, List.getD_eq_getElem?_getD, hs]; rfl
end
theorem gEight : Tryd.prog.globalNamed "hibernacle/hash.eight" = some 0 := by kernel_rfl
theorem gRows : Tryd.prog.globalNamed "hibernacle/hash.rows" = some 1 := by kernel_rfl
theorem tEight : (Tryd.prog.globals[0]?).map (·.type) = some 66 := by kernel_rfl
theorem tRows : (Tryd.prog.globals[1]?).map (·.type) = some 117 := by kernel_rfl
theorem rows_flat : ∀ i, i < 160 → rowsL.flatten.getD i 0 = (rowsL.getD (i / 16) []).getD (i % 16) 0 := by decide
theorem rows_16 : ∀ l ∈ rowsL, l.length = 16 := by decide
theorem rows_160 : rowsL.flatten.length = 160 := by decide
theorem base_wal {W : World} (h : laidMetH Tryd.prog [("hibernacle/hash.eight", Rows.laid_hibernacle_hash_eight), ("hibernacle/hash.rows", Rows.laid_hibernacle_hash_rows)] W) : Base W.heap.size (.bare fun _ => True) W := by
  rw [MakeChecks.laidMetH_plain _ _ _ (by kernel_rfl)] at h
  obtain ⟨ps, ⟨g0, t0, cs0, f0, p0, q0, hg0, ht0, hv0, hd0, ⟨g1, t1, cs1, f1, p1, q1, hg1, ht1, hv1, hd1, _, _⟩, _⟩, _, _⟩ := h
  obtain rfl := Option.some.inj (gEight.symm.trans hg0)
  obtain rfl := Option.some.inj (gRows.symm.trans hg1)
  obtain rfl := Option.some.inj (tEight.symm.trans ht0)
  obtain rfl := Option.some.inj (tRows.symm.trans ht1)
  have h1 := trod_nums (L := eightL) (show Tryd.prog.underlying 66 = some (.array 8 65) from Tryd.underlying66) (show Tryd.prog.underlying 65 = some (.int .u32) from Tryd.underlying65) (by kernel_rfl) rfl hd0 rfl
  have h2 := trod_rows (L := rowsL) (show Tryd.prog.underlying 117 = some (.array 10 116) from Tryd.underlying117) (show Tryd.prog.underlying 116 = some (.array 16 5) from Tryd.underlying116) (show Tryd.prog.underlying 5 = some (.int .u8) from Tryd.underlying5) (by kernel_rfl) (by kernel_rfl) rfl rows_16 hd1 rfl
  have k1 := tab_nums (w := W) (g := 0) (k := .u32) (L := eightL) (by decide) fun i hi => by
    rw [World.var?_cell hg0 hv0 i, ← Array.getElem?_toList]
    exact h1 i hi
  have k2 := tab_rows (w := W) (g := 1) (k := .u8) (L := rowsL) (by decide) rows_16 fun i hi => by
    rw [World.var?_cell hg1 hv1 i, ← Array.getElem?_toList]
    rw [rows_160] at hi
    have := h2 (i / 16) (by omega) (i % 16) (by omega)
    rw [show i / 16 * 16 + i % 16 = i by omega] at this
    rw [rows_flat i hi]; exact this
  refine ⟨Nat.le_refl _, fun g s v hg => ?_⟩
  unfold tabs at hg
  simp only [List.mem_cons,Prod.mk.injEq,List.not_mem_nil,or_false] at hg
  rcases hg with ⟨rfl, rfl, rfl⟩ | ⟨rfl, rfl, rfl⟩
  · exact ⟨k1.1, trivial, k1.2⟩
  · exact ⟨k2.1, trivial, k2.2⟩
end Go.Proofs.YtcilmfhncjfdbaaDoor.V
end
