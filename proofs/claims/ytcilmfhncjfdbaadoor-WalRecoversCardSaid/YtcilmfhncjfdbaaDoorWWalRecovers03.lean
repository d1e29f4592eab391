/-
  Parts of the proof of WalRecovers: Vrun, Vspec, Vty, Vsimp, Vdraw.
  Conditions: none.
-/
import Derived.Test.YtcilmfhncjfdbaaDoorWWalRecovers02
import Derived.Test.YtcilmfhncjfdbaaDoorWWalRecovers01
section
/-
  A MACHINE OF VALUES, TWELFTH PART: lists of operations, code, loops.
-/
set_option linter.unusedVariables false
set_option linter.unusedSectionVars false
set_option linter.unusedSimpArgs false
namespace Go.Proofs.YtcilmfhncjfdbaaDoor.V
open Go Go.RowKit

section
variable (P : Program) (e : Operand → VV) (H : Heap) (n : Nat) (K : VV → Heap → Nat → Prop)
def vMin (x y : Operand) : Prop := onV (e x) fun v => onV (e y) fun u => match v, u with
  | .int k a, .int k' b => cnd (k = k') (K (.int k (if b < a then b else a)) H n)
  | _, _ => False
def vConv (s d : TypeId) (x : Operand) : Prop := onV (e x) fun v => match v with
  | .int _ _ => vConvert P e H n K s d x
  | .str _ => vToBytes P e H n K s d x
  | .sl _ _ => vToStr P e H n K s d x
  | .dat _ _ => vToStr P e H n K s d x
  | _ => False
def vBuiltin (b : Builtin) (args : List Operand) (ts : Array TypeId) : Prop := match b, args with
  | .len, [x] => vLenM P e H n K x ts
  | .append, [s, x] => cnd (ts.size = 2) (vAppend P e H n K ts s x)
  | .min, [x, y] => vMin e H n K x y
  | .max, [x, y] => vMax e H n K x y
  | .clear, [x] => vClear P e H n K ts x
  | .copy, [d, s] => vCopy P e H n K ts d s
  | _, _ => False
def vop (o : Oper) : Prop := match o.op with
  | .move x => K (e x) H n
  | .assign x => K (e x) H n
  | .pick c a b => vPick e H n K c a b
  | .alloc t => vAlloc P H n K t
  | .box t x => vBox P e H n K t x
  | .build t parts => vBuild P e H n K t parts.toList
  | .buildSlice t len parts => vBuildSlice P e H n K t len parts.toList
  | .load t a => vLoad P e H n K t a
  | .store t a x => vStore P e H n K t a x
  | .nilCheck x => vNilCheck e H n K x
  | .binOp op t x y _ => vBinX P e H n K op t x y
  | .unOp op _ x => vUn e H n K op x
  | .convert s d x => vConv P e H n K s d x
  | .makeFunc (.func f) first caps => vMakeFunc e H n K f first caps.toList
  | .makeSlice t l c => vMakeSlice P e H n K t l c
  | .slice t x lo hi none => vSlice P e H n K t x lo hi
  | .fieldAddr t x f => vFieldAddr P e H n K t x f
  | .field t x f => vField P e H n K t x f
  | .indexAddr t x i => vIndexAddr P e H n K t x i
  | .index t x i => vIndex P e H n K t x i
  | .extract x i => vExtract e H n K x i
  | .sliceToArrayPointer t x => vArrPtr P e H n K t x
  | .makeMap _ none => vMakeMap H n K
  | .lookup t x i c => vLookup P e H n K t x i c
  | .mapUpdate t m k x => vMapUpdate P e H n K t m k x
  | .insert t m k x => vMapUpdate P e H n K t m k x
  | .call c => match c.callee with
    | .value f => vCall P e H n K f c.args.toList
    | .builtin b => vBuiltin P e H n K b c.args.toList c.argTypes
    | _ => False
  | _ => False
end
section
variable {P : Program} {Z : Nat → Nat → Prop} [Zone Z] {B : Nat} {ρ ρ' : Names} {w w' : World} {H : Heap} {n : Nat} {tm : Nat → VV} {a : Act} {K : VV → Heap → Nat → Prop} {o : Oper}
theorem min_sound (hT : TM ρ w tm a) (hh : HR Z B ρ H n w) (x y : Operand) (ts : Array TypeId) (ho : o.op = .call { callee := .builtin .min, args := #[x, y], argTypes := ts }) (h : vMin (ev tm) H n K x y) : Runs P Z B K ρ w (execOp a.eval o) := by
  unfold vMin onV at h
  dsimp only at h
  have hx := ev_sound hT x
  have hy := ev_sound hT y
  split at h
  · rename_i k i k' j e1 e2
    rw [e1] at hx
    rw [e2] at hy
    obtain ⟨rfl, h⟩ := h
    refine runs_value (x := .int k (if j < i then j else i)) ?_ h VR_int hh
    simp [execOp, ho, resolve, invoke, builtin, hx.int, hy.int, Builtin.min_, Builtin.min2]
  · exact h.elim
theorem args_list {α : Type} (xs : Array α) (l : List α) (h : xs.toList = l) : xs = l.toArray := by rw [← h]
theorem vop_soundZ (hc : ∀ f xs ts, o.op ≠ .call { callee := .value f, args := xs, argTypes := ts }) (hT : TM ρ w tm a) (hh : HR Z B ρ H n w) (hG : Gives Z n K) (h : vop P (ev tm) H n K o) : Runs P Z B K ρ w (execOp a.eval o) := by
  unfold vop at h
  split at h <;> rename_i ho
  · exact move_sound hT hh _ (.inl ho) h
  · exact move_sound hT hh _ (.inr ho) h
  · exact pick_sound hT hh _ _ _ ho h
  · exact alloc_sound hh hG _ ho h
  · exact box_sound hT hh hG _ _ ho h
  · exact build_sound hT hh _ _ ho h
  · exact buildSlice_sound hT hh hG _ _ _ ho h
  · exact load_sound hT hh _ _ ho h
  · exact store_sound hT hh _ _ _ ho h
  · exact nilCheck_sound hT hh _ ho h
  · exact binX_sound hT hh _ _ _ _ _ ho h
  · exact un_sound hT hh _ _ _ ho h
  · unfold vConv onV at h
    dsimp only at h
    split at h
    · exact convert_sound hT hh _ _ _ ho h
    · exact toBytes_sound hT hh hG _ _ _ ho h
    · exact toStr_sound hT hh _ _ _ ho h
    · exact toStr_sound hT hh _ _ _ ho h
    · exact h.elim
  · exact makeFunc_sound hT hh _ _ _ ho h
  · exact makeSlice_sound hT hh hG _ _ _ ho h
  · exact slice_sound hT hh _ _ _ _ ho h
  · exact fieldAddr_sound hT hh _ _ _ ho h
  · exact field_sound hT hh _ _ _ ho h
  · exact indexAddr_sound hT hh _ _ _ ho h
  · exact index_sound hT hh _ _ _ ho h
  · exact extract_sound hT hh _ _ ho h
  · exact arrPtr_sound hT hh _ _ ho h
  · exact makeMap_sound hh hG _ ho h
  · exact lookup_sound hT hh _ _ _ _ ho h
  · exact mapUpdate_sound hT hh _ _ _ _ (.inl ho) h
  · exact mapUpdate_sound hT hh _ _ _ _ (.inr ho) h
  · rename_i c
    split at h
    · rename_i f hf
      obtain ⟨cal, xs, ts⟩ := c
      dsimp only at hf
      subst hf
      exact absurd ho (hc f xs ts)
    · rename_i b hb
      obtain ⟨cal, xs, ts⟩ := c
      dsimp only at hb h
      subst hb
      unfold vBuiltin at h
      split at h
      · rename_i x hx
        have := args_list xs _ hx
        subst this
        exact lenM_sound hT hh _ ts ho h
      · rename_i s x hx
        have := args_list xs _ hx
        subst this
        obtain ⟨hts, h⟩ := h
        exact append_sound hT hh hG _ _ ts hts ho h
      · rename_i x y hx
        have := args_list xs _ hx
        subst this
        exact min_sound hT hh _ _ ts ho h
      · rename_i x y hx
        have := args_list xs _ hx
        subst this
        exact max_sound hT hh _ _ ts ho h
      · rename_i x hx
        have := args_list xs _ hx
        subst this
        exact clear_sound hT hh _ ts ho h
      · rename_i d s hx
        have := args_list xs _ hx
        subst this
        exact copy_sound hT hh _ _ ts ho h
      · exact h.elim
    · exact h.elim
  · exact h.elim
theorem vop_sound (hT : TM ρ w tm a) (hh : HR ZT B ρ H n w) (h : vop P (ev tm) H n K o) : Runs P ZT B K ρ w (execOp a.eval o) := by
  by_cases hc : ∃ f xs ts, o.op = .call { callee := .value f, args := xs, argTypes := ts }
  · obtain ⟨f, xs, ts, ho⟩ := hc
    unfold vop at h
    rw [ho] at h
    exact call_sound hT hh f xs ts ho h
  · exact vop_soundZ (fun f xs ts e => hc ⟨f, xs, ts, e⟩) hT hh (fun _ _ _ _ _ => trivial) h
end

/-! ### lists -/
def dstAt : List Oper → Nat → Option Nat
  | [], _ => none
  | o :: _, 0 => o.dst
  | _ :: l, n + 1 => dstAt l n
theorem dstAt_eq : ∀ (l : List Oper) (j : Nat), dstAt l j = (l[j]?).bind (·.dst)
  | [], j => by simp [dstAt]
  | o :: l, 0 => by simp [dstAt]
  | o :: l, j + 1 => by simp [dstAt, dstAt_eq l j]
def vstep (P : Program) (ops : List Oper) (o : Oper) (S : VS) (K : VS → Prop) : Prop :=
  match o.guard with
  | none => vop P (ev S.tm) S.hp S.nx (fun v H n' => K ⟨put o.dst v S.tm, H, n'⟩) o
  | some (j, want) => bnd (dstAt ops j) fun d => onV (S.tm d) fun v => match v with
    | .bool b => vif (b == want) (vop P (ev (upd S.tm d (.bool want))) S.hp S.nx (fun v H n' => K ⟨put o.dst v (upd S.tm d (.bool want)), H, n'⟩) o)
        (K ⟨put o.dst (.raw undef) (upd S.tm d (.bool (!want))), S.hp, S.nx⟩)
    | .raw u => cnd (u = undef) (K ⟨put o.dst (.raw undef) S.tm, S.hp, S.nx⟩)
    | _ => False
def vlist (P : Program) (ops : List Oper) : List Oper → VS → (VS → Prop) → Prop
  | [], S, K => K S
  | o :: l, S, K => vstep P ops o S fun S' => vlist P ops l S' K
structure NN where
  n : Nat
  ds : List Deferred
instance : Coe NN Nat := ⟨NN.n⟩
def vdraw (P : Program) (ops : Array Oper) (S : VS) (K : VS → Prop) : Prop :=
  ∀ (id : Nat) (N : NN) (B : Nat) (ρ0 : Names) (w0 : World) (Q : Exit → Act → World → Prop) (a : Act) (w : World) (ρ : Names), (∀ o ∈ ops.toList, ∀ d, o.dst = some d → d < N) → TM ρ w S.tm a → a.defers = N.ds → a.tmps.size = N → HR ZT B ρ S.hp S.nx w → Below B w0 w → Ext ρ0 w0 ρ w →
    (∀ S' a' w' ρ', K S' → TM ρ' w' S'.tm a' → a'.defers = N.ds → a'.tmps.size = N → HR ZT B ρ' S'.hp S'.nx w' → Below B w0 w' → Ext ρ0 w0 ρ' w' → Q .normal a' w') → (Code.region id ops true).wp P Q a w

inductive VX where
  | normal
  | exit (id : Nat)
  | ret
def VX.seq (N : VS → Prop) (K : VX → VS → Prop) : VX → VS → Prop
  | .normal, S => N S
  | .exit i, S => K (.exit i) S
  | .ret, S => K .ret S
def VX.block (id : Nat) (K : VX → VS → Prop) : VX → VS → Prop
  | .exit j, S => if j = id then K .normal S else K (.exit j) S
  | .normal, S => K .normal S
  | .ret, S => K .ret S
def Sub (S T : VS) : Prop := ∀ B ρ a w, TM ρ w S.tm a → HR ZT B ρ S.hp S.nx w → ∃ ρ', TM ρ' w T.tm a ∧ HR ZT B ρ' T.hp T.nx w ∧ Ext ρ w ρ' w
def vloop (L : VS → (VX → VS → Prop) → Prop) (S : VS) (K : VX → VS → Prop) : Prop :=
  ∃ (I : VS → Prop) (μ : VS → Nat), (∃ T, Sub S T ∧ I T) ∧ ∀ S, I S → L S (fun e S' => match e with
    | .normal => ∃ T, Sub S' T ∧ I T ∧ μ T < μ S
    | .exit i => K (.exit i) S'
    | .ret => K .ret S')
structure SR (N : NN) (B : Nat) (ρ0 : Names) (w0 : World) (S : VS) (a : Act) (w : World) (ρ : Names) : Prop where
  tm : TM ρ w S.tm a
  defers : a.defers = N.ds
  size : a.tmps.size = N
  heap : HR ZT B ρ S.hp S.nx w
  below : Below B w0 w
  ext : Ext ρ0 w0 ρ w

section
variable {P : Program} {N : NN} {B : Nat} {ρ0 ρ ρ' : Names} {w0 w w' : World} {a : Act}
theorem TM.ext {tm : Nat → VV} (h : TM ρ w tm a) (he : Ext ρ w ρ' w') : TM ρ' w' tm a := fun t => VR.ext he _ _ (h t)
theorem TM.put {tm : Nat → VV} (h : TM ρ w tm a) {d : Option Nat} {v : VV} {x : Value} (hd : ∀ t, d = some t → t < a.tmps.size) (hv : VR ρ w v x) : TM ρ w (V.put d v tm) (a.put d x) := by
  cases d with
  | none => exact h
  | some d =>
    intro t
    have := hd d rfl
    simp only [V.put,Act.put,upd_ap]
    by_cases e : t = d
    · subst e
      rw [if_pos rfl]
      simpa [Array.getD_eq_getD_getElem?, this] using hv
    · rw [if_neg e]
      have := h t
      simpa [Array.getD_eq_getD_getElem?, Array.getElem?_setIfInBounds_ne (Ne.symm e)] using this
theorem TM.upd {tm : Nat → VV} (h : TM ρ w tm a) {d : Nat} {v : VV} (hv : VR ρ w v (a.tmps.getD d undef)) : TM ρ w (V.upd tm d v) a := by
  intro t
  rw [upd_ap]
  split
  · rename_i e; rw [e]; exact hv
  · exact h t
theorem put_size (a : Act) (d : Option Nat) (x : Value) : (a.put d x).tmps.size = a.tmps.size ∧ (a.put d x).defers = a.defers := by
  cases d <;> simp [Act.put]
theorem wp_of_runs {B : Nat} {K : VV → Heap → Nat → Prop} {o : Oper} {Nx : Act → World → Prop} {Q : Exit → Act → World → Prop} (h : Runs P ZT B K ρ w (execOp a.eval o)) (next : ∀ x w', Good ZT B K ρ w x w' → Nx (a.put o.dst x) w') : o.wp P a w Nx Q := by
  unfold Oper.wp
  rcases h with ⟨x, w', hr, hg⟩ | ⟨w', hr, hg⟩ | ⟨f, xs, hr, hc⟩
  · rw [hr]; exact next x w' hg
  · rw [hr]; exact next _ w' hg
  · rw [hr]
    refine Calls.mono hc fun e w' he => ?_
    obtain ⟨x, rfl, hg⟩ := he
    exact next x w' hg
theorem vstep_sound {ops : Array Oper} {o : Oper} {S : VS} {K : VS → Prop} {Nx : Act → World → Prop} {Q : Exit → Act → World → Prop} (hd : ∀ t, o.dst = some t → t < N) (h : vstep P ops.toList o S K) (hS : SR N B ρ0 w0 S a w ρ)
    (next : ∀ S' a' w' ρ', K S' → SR N B ρ0 w0 S' a' w' ρ' → Nx a' w') :
    if Region.wanted o (yielded ops a.tmps) = true then o.wp P a w Nx Q else Nx (a.put o.dst undef) w := by
  have hd' : ∀ t, o.dst = some t → t < a.tmps.size := fun t ht => by rw [hS.size]; exact hd t ht
  have go : ∀ (tm : Nat → VV), TM ρ w tm a → vop P (ev tm) S.hp S.nx (fun v H n' => K ⟨V.put o.dst v tm, H, n'⟩) o → o.wp P a w Nx Q := by
    intro tm hT hv
    refine wp_of_runs (vop_sound hT hS.heap hv) fun x w' hg => ?_
    obtain ⟨v, H', n', ρ', hk, hvr, hh, he, hb⟩ := hg
    have hz := put_size a o.dst x
    exact next _ _ _ ρ' hk ⟨(hT.ext he).put hd' hvr, by rw [hz.2]; exact hS.defers, by rw [hz.1]; exact hS.size, hh, hS.below.trans hb, hS.ext.trans he⟩
  have skip : ∀ (tm : Nat → VV), TM ρ w tm a → K ⟨V.put o.dst (.raw undef) tm, S.hp, S.nx⟩ → Nx (a.put o.dst undef) w := by
    intro tm hT hk
    have hz := put_size a o.dst undef
    exact next _ _ _ ρ hk ⟨hT.put hd' (by simp [VR, VR1, C1]), by rw [hz.2]; exact hS.defers, by rw [hz.1]; exact hS.size, hS.heap, hS.below, hS.ext⟩
  unfold vstep at h
  split at h
  · rename_i hg
    rw [if_pos (by simp [Region.wanted, hg])]
    exact go _ hS.tm h
  · rename_i j want hg
    replace h := bnd_iff.1 h
    obtain ⟨d, hdj, h⟩ := h
    rw [dstAt_eq, Array.getElem?_toList] at hdj
    have hyd : yielded ops a.tmps j = match a.tmps[d]? with | some (.bool b) => some b | _ => none := by
      unfold yielded
      rw [hdj]
      simp only [Option.bind_some]
      rfl
    have hT := hS.tm d
    unfold onV at h
    dsimp only at h
    split at h
    · rename_i b e
      rw [e] at hT
      have hb := hT.bool
      have hbd : a.tmps[d]? = some (.bool b) := by
        rw [Array.getD_eq_getD_getElem?] at hb
        cases hx : a.tmps[d]? with
        | none => rw [hx] at hb; simp [undef] at hb
        | some y => rw [hx] at hb; simp at hb; rw [hb]
      have hw : Region.wanted o (yielded ops a.tmps) = (b == want) := by
        simp only [Region.wanted,hg,hyd,hbd]
        cases b <;> cases want <;> rfl
      rw [hw]
      obtain ⟨h1, h2⟩ := h
      by_cases hbw : (b == want) = true
      · rw [if_pos hbw]
        have hbe : b = want := by simpa using hbw
        subst hbe
        exact go _ (hS.tm.upd (by rw [hb]; exact VR_bool)) (h1 hbw)
      · have hbf : (b == want) = false := by simpa using hbw
        rw [if_neg (by simp [hbf])]
        have hbe : b = !want := by cases b <;> cases want <;> simp_all
        subst hbe
        exact skip _ (hS.tm.upd (by rw [hb]; exact VR_bool)) (h2 hbf)
    · rename_i u e
      rw [e] at hT
      obtain ⟨rfl, h⟩ := h
      have hx : a.tmps.getD d undef = undef := by simpa [VR, VR1, C1] using hT
      have hw : Region.wanted o (yielded ops a.tmps) = false := by
        simp only [Region.wanted,hg,hyd]
        rw [Array.getD_eq_getD_getElem?] at hx
        cases hy : a.tmps[d]? with
        | none => cases want <;> rfl
        | some y =>
          rw [hy] at hx
          simp only [Option.getD_some] at hx
          subst hx
          cases want <;> rfl
      rw [hw, if_neg (by simp)]
      exact skip _ hS.tm h
    · exact h.elim
theorem vlist_sound {ops : Array Oper} {Q : Exit → Act → World → Prop} {K : VS → Prop} : ∀ (l : List Oper) (S : VS) (a : Act) (w : World) (ρ : Names), (∀ o ∈ l, ∀ t, o.dst = some t → t < N) → vlist P ops.toList l S K → SR N B ρ0 w0 S a w ρ →
    (∀ S' a' w' ρ', K S' → SR N B ρ0 w0 S' a' w' ρ' → Q .normal a' w') → wpList P ops Q l a w
  | [], S, a, w, ρ, _, h, hS, next => next S a w ρ h hS
  | o :: l, S, a, w, ρ, hd, h, hS, next => by
    refine wpList_step fun Kx hKx => ?_
    exact vstep_sound (hd o (by simp)) h hS fun S' a' w' ρ' hk hS' => hKx _ _ (vlist_sound l S' a' w' ρ' (fun o ho => hd o (by simp [ho])) hk hS' next)

/-! ### code -/
def VX.x : VX → Exit
  | .normal => .normal
  | .exit i => .exit i
  | .ret => .ret
def codeOk (N : Nat) : Code → Bool
  | .region _ ops _ => ops.toList.all fun o => match o.dst with | some d => decide (d < N) | none => true
  | .seq a b => codeOk N a && codeOk N b
  | .cond _ a b => codeOk N a && codeOk N b
  | .block _ c => codeOk N c
  | .loop c => codeOk N c
  | .scope c => codeOk N c
  | _ => true
theorem least {p : Nat → Prop} (h : ∃ n, p n) : ∃ n, p n ∧ ∀ m, p m → n ≤ m := by
  obtain ⟨n, hn⟩ := h
  induction n using Nat.strongRecOn with
  | _ n ih =>
    by_cases hm : ∃ m, m < n ∧ p m
    · obtain ⟨m, h1, h2⟩ := hm
      exact ih m h1 h2
    · exact ⟨n, hn, fun m hp => by
        rcases Nat.lt_or_ge m n with h | h
        · exact absurd ⟨m, h, hp⟩ hm
        · exact h⟩
theorem wp_loop_rel {α : Type} {c : Code} {Q : Exit → Act → World → Prop} (I : α → Act → World → Prop) (μ : α → Nat) {s : α} (h0 : I s a w)
    (round : ∀ s a w, I s a w → c.wp P (Exit.then (fun a' w' => ∃ s', I s' a' w' ∧ μ s' < μ s) Q) a w) : (Code.loop c).wp P Q a w := by
  classical
  have hex : ∀ a w, (∃ s, I s a w) → ∃ n, (∃ s, I s a w ∧ μ s = n) ∧ ∀ m, (∃ s, I s a w ∧ μ s = m) → n ≤ m := fun a w ⟨s, hs⟩ => least ⟨μ s, s, hs, rfl⟩
  let m : Act → World → Nat := fun a w => if h : ∃ s, I s a w then Classical.choose (hex a w h) else 0
  refine wp_loop (fun a w => ∃ s, I s a w) m ⟨s, h0⟩ fun a w hI => ?_
  have hm : m a w = Classical.choose (hex a w hI) := by simp only [m]; rw [dif_pos hI]
  obtain ⟨⟨s, hs, hμ⟩, _⟩ := Classical.choose_spec (hex a w hI)
  refine Code.wp_mono (fun e a' w' hq => ?_) (round s a w hs)
  cases e with
  | normal =>
    obtain ⟨s', h1, h2⟩ := hq
    have hI' : ∃ s, I s a' w' := ⟨s', h1⟩
    refine ⟨hI', ?_⟩
    have hm' : m a' w' = Classical.choose (hex a' w' hI') := by simp only [m]; rw [dif_pos hI']
    rw [hm, hm', ← hμ]
    exact Nat.lt_of_le_of_lt ((Classical.choose_spec (hex a' w' hI')).2 _ ⟨s', h1, rfl⟩) h2
  | _ => exact hq
end
end Go.Proofs.YtcilmfhncjfdbaaDoor.V
end
section
/-
  A MACHINE OF VALUES, THIRTEENTH PART: functions: what they answer, said of data; calls.
-/
set_option linter.unusedVariables false
set_option linter.unusedSectionVars false
set_option linter.unusedSimpArgs false
namespace Go.Proofs.YtcilmfhncjfdbaaDoor.V
open Go Go.RowKit

mutual
def nl : VV → Bool
  | .int _ _ => true
  | .bool _ => true
  | .str _ => true
  | .agg vs => nls vs
  | .tup vs => nls vs
  | .sl none _ => true
  | .sl (some _) _ => false
  | .ptr _ _ => false
  | .fn _ caps => nls caps
  | .map _ => false
  | .dat _ els => nls els
  | .pd _ v => nl v
  | .vec _ _ => false
  | .any => false
  | .raw _ => true
def nls : List VV → Bool
  | [] => true
  | v :: l => nl v && nls l
end
theorem nls_iff : ∀ (l : List VV), nls l = true ↔ ∀ v ∈ l, nl v = true
  | [] => by simp [nls]
  | v :: l => by simp [nls, nls_iff l]
theorem nls_map {α : Type} (f : α → VV) (h : ∀ x, nl (f x) = true) (l : List α) : nls (l.map f) = true := by
  rw [nls_iff]
  intro v hv
  obtain ⟨x, _, rfl⟩ := List.mem_map.1 hv
  exact h x

def Names.bare (U : Nat → Prop) : Names := ⟨fun _ => none, U⟩
section
variable {ρ : Names} {w : World} {U : Nat → Prop}
mutual
theorem C1.bare (hU : ∀ b, Unnamed ρ b → U b) : ∀ (v : VV) (cs : List Value), nl v = true → C1 ρ w v cs → C1 (.bare U) w v cs
  | .int _ _, _, _, h => by simpa only [C1] using h
  | .bool _, _, _, h => by simpa only [C1] using h
  | .str _, _, _, h => by simpa only [C1] using h
  | .agg vs, cs, hn, h => by simp only [C1] at h ⊢; exact CR.bare hU vs cs (by simpa only [nl] using hn) h
  | .tup _, _, _, h => by simp only [C1] at h
  | .sl none _, _, _, h => by simpa only [C1] using h
  | .sl (some _) _, _, hn, _ => by simp [nl] at hn
  | .ptr _ _, _, hn, _ => by simp [nl] at hn
  | .fn f caps, cs, hn, h => by
    simp only [C1] at h ⊢
    obtain ⟨xs, h1, h2⟩ := h
    exact ⟨xs, h1, CV.bare hU caps _ (by simpa only [nl] using hn) h2⟩
  | .map _, _, hn, _ => by simp [nl] at hn
  | .dat s els, cs, hn, h => by
    simp only [C1] at h ⊢
    obtain ⟨A, c, h1, h2, h3⟩ := h
    refine ⟨A, c, h1, h2, fun hne => ?_⟩
    obtain ⟨b, o, ecs, g1, g2, g3, g4, g5, g6⟩ := h3 hne
    exact ⟨b, o, ecs, g1, CR.bare hU els ecs (by simpa only [nl] using hn) g2, g3, g4, ⟨hU b g5, fun n l hl => by cases hl⟩, g6⟩
  | .pd s v, cs, hn, h => by
    simp only [C1] at h ⊢
    obtain ⟨b, o, ecs, g1, g2, g3, g4, g5, g6⟩ := h
    exact ⟨b, o, ecs, g1, C1.bare hU v ecs (by simpa only [nl] using hn) g2, g3, g4, ⟨hU b g5, fun n l hl => by cases hl⟩, g6⟩
  | .vec _ _, _, _, h => by simp only [C1] at h
  | .any, _, hn, _ => by simp [nl] at hn
  | .raw _, _, _, h => by simpa only [C1] using h
theorem CR.bare (hU : ∀ b, Unnamed ρ b → U b) : ∀ (vs : List VV) (cs : List Value), nls vs = true → CR ρ w vs cs → CR (.bare U) w vs cs
  | [], _, _, h => by simpa only [CR] using h
  | v :: vs, cs, hn, h => by
    simp only [nls,Bool.and_eq_true] at hn
    simp only [CR] at h ⊢
    obtain ⟨c1, c2, h1, h2, h3⟩ := h
    exact ⟨c1, c2, h1, C1.bare hU v c1 hn.1 h2, CR.bare hU vs c2 hn.2 h3⟩
theorem CV.bare (hU : ∀ b, Unnamed ρ b → U b) : ∀ (vs : List VV) (cs : List Value), nls vs = true → CV ρ w vs cs → CV (.bare U) w vs cs
  | [], _, _, h => by simpa only [CV] using h
  | v :: vs, cs, hn, h => by
    simp only [nls,Bool.and_eq_true] at hn
    simp only [CV] at h ⊢
    obtain ⟨c1, c2, h1, h2, h3, h4⟩ := h
    exact ⟨c1, c2, h1, h2, C1.bare hU v [c1] hn.1 h3, CV.bare hU vs c2 hn.2 h4⟩
end
theorem VR1.bare (hU : ∀ b, Unnamed ρ b → U b) {v : VV} {x : Value} (hn : nl v = true) (h : VR1 ρ w v x) : VR1 (.bare U) w v x := by
  cases v with
  | agg vs => obtain ⟨cs, h1, h2⟩ := h; exact ⟨cs, h1, CR.bare hU vs _ (by simpa only [nl] using hn) h2⟩
  | any => simp [nl] at hn
  | _ => exact C1.bare hU _ _ hn h
end
mutual
def Rd (H : Heap) : VV → VV → Prop
  | .agg vs, d => ∃ ds, d = .agg ds ∧ RdL H vs ds
  | .sl (some (m, p, i)) n, d => ∃ s c k e els, H m = some (.row s c) ∧ s.at p = some (.arr k e) ∧ c.get p = some (.agg els) ∧ i + n ≤ els.length ∧ nls ((els.drop i).take n) = true ∧ d = .dat e ((els.drop i).take n)
  | .sl none n, d => d = .sl none n ∨ (n = 0 ∧ ∃ e, d = .dat e [])
  | v, d => nl v = true ∧ d = v
def RdL (H : Heap) : List VV → List VV → Prop
  | [], ds => ds = []
  | v :: vs, ds => ∃ d ds', ds = d :: ds' ∧ Rd H v d ∧ RdL H vs ds'
end
section
variable {Z : Nat → Nat → Prop} [Zone Z] {B n : Nat} {ρ : Names} {w : World} {U : Nat → Prop} {H : Heap}
mutual
theorem Rd.cells (hh : HR Z B ρ H n w) (hU : ∀ b, ρ.im b → U b) (hU2 : ∀ m l, ρ m = some l → U l.block) : ∀ (v d : VV) (cs : List Value), Rd H v d → C1 ρ w v cs → C1 (.bare U) w d cs
  | .agg vs, d, cs, h, hc => by
    simp only [Rd] at h
    obtain ⟨ds, rfl, h⟩ := h
    simp only [C1] at hc ⊢
    exact RdL.cells hh hU hU2 vs ds cs h hc
  | .sl none k, d, cs, h, hc => by
    simp only [Rd] at h
    rcases h with rfl | ⟨rfl, e, rfl⟩
    · simpa only [C1] using hc
    · simp only [C1] at hc ⊢
      exact ⟨none, 0, hc.2, Nat.le_refl _, fun h => absurd rfl h⟩
  | .sl (some (m, p, i)) k, d, cs, h, hc => by
    simp only [Rd] at h
    obtain ⟨s, c, j, e, els, h1, h2, h3, h4, h5, rfl⟩ := h
    simp only [C1] at hc ⊢
    have hlen : ((els.drop i).take k).length = k := by rw [List.length_take, List.length_drop]; omega
    rw [hlen]
    rcases hc with ⟨rfl, A, hc⟩ | ⟨l, cap, e', j', hl, hc, hcap, hat, _⟩
    · exact ⟨A, 0, hc, Nat.le_refl _, fun h => absurd (by simp) h⟩
    · refine ⟨_, cap, hc, hcap, fun _ => ?_⟩
      have hrow := hh.row m s c l h1 hl
      obtain ⟨ds, q1, q2, q3⟩ := hrow.cells
      obtain ⟨su, pre, mid, post, k1, k2, rfl, k4, k5, _, _⟩ := focus p s c (.agg els) ds hrow.has h3 q1
      rw [h2] at k1
      injection k1 with k1
      subst k1
      simp only [Has] at k2
      simp only [C1] at k5
      obtain ⟨pr, md, ps, rfl, r1, r2, r3⟩ := CR.part k5 k2.2 i (i + k) (by omega) h4
      rw [show i + k - i = k by omega] at r3
      refine ⟨l.block, _, md, rfl, CR.bare (fun b hb => hU b hb.1) _ _ h5 r3, fun v hv => k2.2 v (List.mem_of_mem_drop (List.mem_of_mem_take hv)), ?_, ⟨hU2 m l hl, fun n l hl => by cases hl⟩, (hh.lt m l hl).2⟩
      rw [hrow.sh, (at_append p s _ [i] h2).2, ← k4]
      simp only [Sh.off,Nat.add_zero]
      rw [← r1, ← Nat.add_assoc]
      exact range_part (range_part q3)
  | .int _ _, d, cs, h, hc => by simp only [Rd] at h; rw [h.2]; exact C1.bare (fun b hb => hU b hb.1) _ _ h.1 hc
  | .bool _, d, cs, h, hc => by simp only [Rd] at h; rw [h.2]; exact C1.bare (fun b hb => hU b hb.1) _ _ h.1 hc
  | .str _, d, cs, h, hc => by simp only [Rd] at h; rw [h.2]; exact C1.bare (fun b hb => hU b hb.1) _ _ h.1 hc
  | .tup _, d, cs, h, hc => by simp only [Rd] at h; rw [h.2]; exact C1.bare (fun b hb => hU b hb.1) _ _ h.1 hc
  | .ptr _ _, d, cs, h, hc => by simp only [Rd] at h; rw [h.2]; exact C1.bare (fun b hb => hU b hb.1) _ _ h.1 hc
  | .fn _ _, d, cs, h, hc => by simp only [Rd] at h; rw [h.2]; exact C1.bare (fun b hb => hU b hb.1) _ _ h.1 hc
  | .map _, d, cs, h, hc => by simp only [Rd] at h; rw [h.2]; exact C1.bare (fun b hb => hU b hb.1) _ _ h.1 hc
  | .dat _ _, d, cs, h, hc => by simp only [Rd] at h; rw [h.2]; exact C1.bare (fun b hb => hU b hb.1) _ _ h.1 hc
  | .pd _ _, d, cs, h, hc => by simp only [Rd] at h; rw [h.2]; exact C1.bare (fun b hb => hU b hb.1) _ _ h.1 hc
  | .vec _ _, d, cs, h, hc => by simp only [Rd] at h; rw [h.2]; exact C1.bare (fun b hb => hU b hb.1) _ _ h.1 hc
  | .any, d, cs, h, hc => by simp only [Rd] at h; rw [h.2]; exact C1.bare (fun b hb => hU b hb.1) _ _ h.1 hc
  | .raw _, d, cs, h, hc => by simp only [Rd] at h; rw [h.2]; exact C1.bare (fun b hb => hU b hb.1) _ _ h.1 hc
theorem RdL.cells (hh : HR Z B ρ H n w) (hU : ∀ b, ρ.im b → U b) (hU2 : ∀ m l, ρ m = some l → U l.block) : ∀ (vs ds : List VV) (cs : List Value), RdL H vs ds → CR ρ w vs cs → CR (.bare U) w ds cs
  | [], ds, cs, h, hc => by
    simp only [RdL] at h
    subst h
    simpa only [CR] using hc
  | v :: vs, ds, cs, h, hc => by
    simp only [RdL] at h
    obtain ⟨d, ds', rfl, h1, h2⟩ := h
    simp only [CR] at hc ⊢
    obtain ⟨c1, c2, g1, g2, g3⟩ := hc
    exact ⟨c1, c2, g1, Rd.cells hh hU hU2 v d c1 h1 g2, RdL.cells hh hU hU2 vs ds' c2 h2 g3⟩
end
theorem Rd.value1 (hh : HR Z B ρ H n w) (hU : ∀ b, ρ.im b → U b) (hU2 : ∀ m l, ρ m = some l → U l.block) {v d : VV} {x : Value} (h : Rd H v d) (hx : VR1 ρ w v x) : VR1 (.bare U) w d x := by
  cases v with
  | agg vs =>
    simp only [Rd] at h
    obtain ⟨ds, rfl, h⟩ := h
    obtain ⟨cs, h1, h2⟩ := hx
    exact ⟨cs, h1, RdL.cells hh hU hU2 vs ds _ h h2⟩
  | any => simp [Rd, nl] at h
  | tup vs => simp [VR1, C1] at hx
  | vec _ _ => simp [VR1, C1] at hx
  | sl p k =>
    have := Rd.cells hh hU hU2 _ _ _ h (show C1 ρ w (.sl p k) [x] from hx)
    cases p with
    | none =>
      simp only [Rd] at h
      rcases h with rfl | ⟨_, e, rfl⟩ <;> exact this
    | some q =>
      obtain ⟨m, p, i⟩ := q
      simp only [Rd] at h
      obtain ⟨s, c, j, e, els, _, _, _, _, _, rfl⟩ := h
      exact this
  | _ =>
    have := Rd.cells hh hU hU2 _ _ _ h hx
    simp only [Rd] at h
    rw [h.2] at this ⊢
    exact this
def RdT (H : Heap) : VV → VV → Prop
  | .tup vs, d => ∃ ds, d = .tup ds ∧ RdL H vs ds
  | v, d => Rd H v d
theorem RdL.values (hh : HR Z B ρ H n w) (hU : ∀ b, ρ.im b → U b) (hU2 : ∀ m l, ρ m = some l → U l.block) : ∀ (vs ds : List VV) (xs : List Value), RdL H vs ds → VRs ρ w vs xs → VRs (.bare U) w ds xs
  | [], ds, xs, h, hx => by
    simp only [RdL] at h
    subst h
    exact hx
  | v :: vs, ds, xs, h, hx => by
    simp only [RdL] at h
    obtain ⟨d, ds', rfl, h1, h2⟩ := h
    obtain ⟨x, ys, g1, g2, g3⟩ := hx
    exact ⟨x, ys, g1, Rd.value1 hh hU hU2 h1 g2, RdL.values hh hU hU2 vs ds' ys h2 g3⟩
theorem RdT.value (hh : HR Z B ρ H n w) (hU : ∀ b, ρ.im b → U b) (hU2 : ∀ m l, ρ m = some l → U l.block) {v d : VV} {x : Value} (h : RdT H v d) (hx : VR ρ w v x) : VR (.bare U) w d x := by
  cases v with
  | tup vs =>
    obtain ⟨ds, rfl, h⟩ := h
    obtain ⟨xs, h1, h2⟩ := hx
    exact ⟨xs, h1, RdL.values hh hU hU2 vs ds _ h h2⟩
  | _ =>
    simp only [RdT] at h
    simp only [VR] at hx
    exact VR.of1 (Rd.value1 hh hU hU2 h hx)
end

def Spec (P : Program) (f : FuncId) (ds : List VV) (r : VV) : Prop :=
  ∀ (U : Nat → Prop) (w : World) (xs : List Value), Base w.heap.size (.bare U) w → VRA (.bare U) w ds xs → Calls P f xs.toArray w (fun e w' => ∃ x, e = .returned x ∧ Below w.heap.size w w' ∧ VR (.bare fun b => U b ∨ w.heap.size ≤ b) w' r x)

def argsF : Nat → List VV → (Nat → VV) → Nat → VV
  | _, [], f => f
  | i, v :: l, f => argsF (i + 1) l (upd f i v)
theorem argsF_at : ∀ (l : List VV) (i : Nat) (f : Nat → VV) (t : Nat), argsF i l f t = if i ≤ t ∧ t < i + l.length then l.getD (t - i) .any else f t
  | [], i, f, t => by simp [argsF]; omega
  | v :: l, i, f, t => by
    simp only [argsF]
    rw [argsF_at l (i + 1) (upd f i v) t]
    by_cases h1 : i + 1 ≤ t ∧ t < i + 1 + l.length
    · rw [if_pos h1, if_pos (by simp; omega), show t - i = (t - (i + 1)) + 1 by omega]
      simp
    · rw [if_neg h1, upd_ap]
      by_cases h2 : t = i
      · rw [if_pos h2, if_pos (by simp; omega), show t - i = 0 by omega]
        simp
      · rw [if_neg h2, if_neg (by simp; omega)]
def vres1 (P : Program) (S : VS) (r : ResultVar) (k : VV → Prop) : Prop := match r with
  | .tmp t => k (S.tm t)
  | .cell a t => onV (S.tm a) fun v => match v with
    | .ptr m p => bnd (S.hp m) fun b => match b with
      | .row s c => cnd (s.at p = SH P t) (bnd (c.get p) k)
      | _ => False
    | _ => False
def vresL (P : Program) (S : VS) : List ResultVar → (List VV → Prop) → Prop
  | [], k => k []
  | r :: rs, k => vres1 P S r fun v => vresL P S rs fun vs => k (v :: vs)
def notTup : VV → Bool
  | .tup _ => false
  | _ => true
def vres (P : Program) (S : VS) (rs : List ResultVar) (k : VV → Prop) : Prop := vresL P S rs fun vs => match vs with
  | [v] => k v
  | vs => cnd (vs.all notTup = true) (k (.tup vs))
theorem VR.to1 {ρ : Names} {w : World} {v : VV} {x : Value} (h : VR ρ w v x) (hn : notTup v = true) : VR1 ρ w v x := by
  cases v <;> first | exact h | simp [notTup] at hn
theorem VRs_of_VRA {ρ : Names} {w : World} : ∀ (vs : List VV) (xs : List Value), VRA ρ w vs xs → vs.all notTup = true → VRs ρ w vs xs
  | [], _, h, _ => h
  | v :: vs, xs, h, hn => by
    obtain ⟨x, ys, h1, h2, h3⟩ := h
    simp only [List.all_cons,Bool.and_eq_true] at hn
    exact ⟨x, ys, h1, h2.to1 hn.1, VRs_of_VRA vs ys h3 hn.2⟩
section
variable {P : Program} {N : NN} {B : Nat} {ρ0 ρ : Names} {w0 w : World} {a : Act} {S : VS}
def resRun (a : Act) : ResultVar → Sem Value
  | .tmp t => pure (a.tmps.getD t undef)
  | .cell b t => do loadVar t (← asAddr (a.tmps.getD b undef))
theorem vres1_sound (hS : SR N B ρ0 w0 S a w ρ) (r : ResultVar) (k : VV → Prop) (h : vres1 P S r k) :
    ∃ v x, k v ∧ VR ρ w v x ∧ (resRun a r).run P w = .ok x w := by
  cases r with
  | tmp t => exact ⟨_, _, h, hS.tm t, rfl⟩
  | cell b t =>
    simp only [vres1,onV] at h
    have hb := hS.tm b
    split at h
    · rename_i m p e
      rw [e] at hb
      obtain ⟨l, hl, hp⟩ := hb.ptr
      replace h := bnd_iff.1 h
      obtain ⟨blk, hbk, h⟩ := h
      cases blk with
      | map es => exact h.elim
      | row s c =>
        obtain ⟨h1, h2⟩ := h
        replace h2 := bnd_iff.1 h2
        obtain ⟨u, hu, h2⟩ := h2
        have hrow := hS.heap.row m s c l hbk hl
        obtain ⟨cs, g1, g2, g3⟩ := hrow.cells
        obtain ⟨su, pre, mid, post, k1, k2, rfl, k4, k5, _, _⟩ := focus p s c u cs hrow.has hu g1
        rw [k1] at h1
        obtain ⟨y, hy1, hy2⟩ := load_run (P := P) h1.symm k2 k5 (range_part g3)
        refine ⟨u, y, h2, hy2, ?_⟩
        simp only [resRun,Sem.run_bind,hp,asAddr,Sem.run_pure,Result.andThen_ok]
        rw [hrow.sh, ← k4]
        exact hy1
    · exact h.elim
theorem vresL_sound (hS : SR N B ρ0 w0 S a w ρ) : ∀ (rs : List ResultVar) (k : List VV → Prop), vresL P S rs k →
    ∃ vs xs, k vs ∧ VRA ρ w vs xs ∧ (rs.mapM (resRun a)).run P w = .ok xs w
  | [], k, h => ⟨[], [], h, rfl, rfl⟩
  | r :: rs, k, h => by
    obtain ⟨v, x, h1, h2, h3⟩ := vres1_sound hS r _ h
    obtain ⟨vs, xs, g1, g2, g3⟩ := vresL_sound hS rs _ h1
    refine ⟨v :: vs, x :: xs, g1, ⟨x, xs, rfl, h2, g2⟩, ?_⟩
    simp only [List.mapM_cons,Sem.run_bind,h3,g3,Result.andThen_ok]
    rfl
theorem VRA.len {ρ : Names} {w : World} : ∀ (vs : List VV) (xs : List Value), VRA ρ w vs xs → vs.length = xs.length
  | [], xs, h => by have h : xs = [] := h; simp [h]
  | v :: vs, xs, h => by obtain ⟨x, ys, rfl, h2, h3⟩ := h; simp [VRA.len vs ys h3]
theorem vres_sound (hS : SR N B ρ0 w0 S a w ρ) (fn : Func) (k : VV → Prop) (h : vres P S fn.results.toList k) : ∃ v x, k v ∧ VR ρ w v x ∧ (results fn a.tmps).run P w = .ok x w := by
  obtain ⟨vs, xs, h1, h2, h3⟩ := vresL_sound hS _ _ h
  have hr : ∀ y, (if h : xs.toArray.size = 1 then xs.toArray[0] else .tuple xs.toArray) = y → (results fn a.tmps).run P w = .ok y w := by
    intro y hy
    have e : results fn a.tmps = (do
        let vs ← fn.results.mapM (resRun a)
        pure (if h : vs.size = 1 then vs[0] else .tuple vs)) := rfl
    rw [e, Array.mapM_eq_mapM_toList]
    simp only [Sem.run_bind,bind_map_left]
    rw [h3]
    simp only [Result.andThen_ok,Sem.run_pure]
    rw [hy]
  have hlen := h2.len
  split at h1
  · rename_i v
    obtain ⟨x, ys, rfl, h4, h5⟩ := h2
    have : ys = [] := h5
    subst this
    exact ⟨v, x, h1, h4, hr x (by simp)⟩
  · rename_i hne
    obtain ⟨hn, h1⟩ := h1
    refine ⟨_, .tuple xs.toArray, h1, ⟨xs.toArray, rfl, by simpa using VRs_of_VRA vs xs h2 hn⟩, hr _ ?_⟩
    rw [dif_neg]
    intro h
    match vs, hlen with
    | [], hl => simp at h hl; omega
    | [v], _ => exact hne v rfl
    | _ :: _ :: _, hl => simp at h hl; omega
section
variable {w : World} {ρ ρ' : Names}
mutual
theorem C1.mono (hN : ∀ m l, ρ m = some l → ρ' m = some l) (hU : ∀ b, b < w.heap.size → Unnamed ρ b → Unnamed ρ' b) : ∀ (v : VV) (cs : List Value), C1 ρ w v cs → C1 ρ' w v cs
  | .int _ _, _, h => by simpa only [C1] using h
  | .bool _, _, h => by simpa only [C1] using h
  | .str _, _, h => by simpa only [C1] using h
  | .agg vs, cs, h => by simp only [C1] at h ⊢; exact CR.mono hN hU vs cs h
  | .tup _, _, h => by simp only [C1] at h
  | .sl none _, _, h => by simpa only [C1] using h
  | .sl (some (m, p, i)) n, _, h => by
    simp only [C1] at h ⊢
    rcases h with h | ⟨l, c, e, k, h1, h2⟩
    · exact .inl h
    · exact .inr ⟨l, c, e, k, hN _ _ h1, h2⟩
  | .ptr m p, _, h => by
    simp only [C1] at h ⊢
    obtain ⟨l, h1, h2⟩ := h
    exact ⟨l, hN _ _ h1, h2⟩
  | .fn f caps, cs, h => by
    simp only [C1] at h ⊢
    obtain ⟨xs, h1, h2⟩ := h
    exact ⟨xs, h1, CV.mono hN hU caps _ h2⟩
  | .map m, _, h => by
    simp only [C1] at h ⊢
    obtain ⟨l, h1, h2⟩ := h
    exact ⟨l, hN _ _ h1, h2⟩
  | .dat s els, cs, h => by
    simp only [C1] at h ⊢
    obtain ⟨A, c, h1, h2, h3⟩ := h
    refine ⟨A, c, h1, h2, fun hne => ?_⟩
    obtain ⟨b, o, ecs, g1, g2, g3, g4, g5, g6⟩ := h3 hne
    exact ⟨b, o, ecs, g1, CR.mono hN hU els ecs g2, g3, g4, hU b g6 g5, g6⟩
  | .pd s v, cs, h => by
    simp only [C1] at h ⊢
    obtain ⟨b, o, ecs, g1, g2, g3, g4, g5, g6⟩ := h
    exact ⟨b, o, ecs, g1, C1.mono hN hU v ecs g2, g3, g4, hU b g6 g5, g6⟩
  | .vec _ _, _, h => by simp only [C1] at h
  | .any, _, h => by simpa only [C1] using h
  | .raw _, _, h => by simpa only [C1] using h
theorem CR.mono (hN : ∀ m l, ρ m = some l → ρ' m = some l) (hU : ∀ b, b < w.heap.size → Unnamed ρ b → Unnamed ρ' b) : ∀ (vs : List VV) (cs : List Value), CR ρ w vs cs → CR ρ' w vs cs
  | [], _, h => by simpa only [CR] using h
  | v :: vs, cs, h => by
    simp only [CR] at h ⊢
    obtain ⟨c1, c2, h1, h2, h3⟩ := h
    exact ⟨c1, c2, h1, C1.mono hN hU v c1 h2, CR.mono hN hU vs c2 h3⟩
theorem CV.mono (hN : ∀ m l, ρ m = some l → ρ' m = some l) (hU : ∀ b, b < w.heap.size → Unnamed ρ b → Unnamed ρ' b) : ∀ (vs : List VV) (cs : List Value), CV ρ w vs cs → CV ρ' w vs cs
  | [], _, h => by simpa only [CV] using h
  | v :: vs, cs, h => by
    simp only [CV] at h ⊢
    obtain ⟨c1, c2, h1, h2, h3, h4⟩ := h
    exact ⟨c1, c2, h1, h2, C1.mono hN hU v [c1] h3, CV.mono hN hU vs c2 h4⟩
end
theorem VR1.mono (hN : ∀ m l, ρ m = some l → ρ' m = some l) (hU : ∀ b, b < w.heap.size → Unnamed ρ b → Unnamed ρ' b) {v : VV} {x : Value} (h : VR1 ρ w v x) : VR1 ρ' w v x := by
  cases v with
  | agg vs => obtain ⟨cs, h1, h2⟩ := h; exact ⟨cs, h1, CR.mono hN hU vs _ h2⟩
  | any => trivial
  | _ => exact C1.mono hN hU _ _ h
theorem VRs.mono (hN : ∀ m l, ρ m = some l → ρ' m = some l) (hU : ∀ b, b < w.heap.size → Unnamed ρ b → Unnamed ρ' b) : ∀ (vs : List VV) (xs : List Value), VRs ρ w vs xs → VRs ρ' w vs xs
  | [], _, h => h
  | v :: vs, xs, h => by
    obtain ⟨x, ys, h1, h2, h3⟩ := h
    exact ⟨x, ys, h1, VR1.mono hN hU h2, VRs.mono hN hU vs ys h3⟩
theorem VR.mono (hN : ∀ m l, ρ m = some l → ρ' m = some l) (hU : ∀ b, b < w.heap.size → Unnamed ρ b → Unnamed ρ' b) {v : VV} {x : Value} (h : VR ρ w v x) : VR ρ' w v x := by
  cases v with
  | tup vs => obtain ⟨cs, h1, h2⟩ := h; exact ⟨cs, h1, VRs.mono hN hU vs _ h2⟩
  | _ => simp only [VR] at h ⊢; exact VR1.mono hN hU h
end
mutual
def pl : VV → Bool
  | .int _ _ => true
  | .bool _ => true
  | .str _ => true
  | .agg vs => pls vs
  | .tup vs => pls vs
  | .sl none _ => true
  | .sl (some _) _ => false
  | .raw _ => true
  | _ => false
def pls : List VV → Bool
  | [] => true
  | v :: l => pl v && pls l
end
section
variable {w : World} {ρ ρ' : Names}
mutual
theorem C1.plain : ∀ (v : VV) (cs : List Value), pl v = true → C1 ρ w v cs → C1 ρ' w v cs
  | .int _ _, _, _, h => by simpa only [C1] using h
  | .bool _, _, _, h => by simpa only [C1] using h
  | .str _, _, _, h => by simpa only [C1] using h
  | .agg vs, cs, hn, h => by simp only [C1] at h ⊢; exact CR.plain vs cs (by simpa only [pl] using hn) h
  | .tup _, _, _, h => by simp only [C1] at h
  | .sl none _, _, _, h => by simpa only [C1] using h
  | .sl (some _) _, _, hn, _ => by simp [pl] at hn
  | .ptr _ _, _, hn, _ => by simp [pl] at hn
  | .fn _ _, _, hn, _ => by simp [pl] at hn
  | .map _, _, hn, _ => by simp [pl] at hn
  | .dat _ _, _, hn, _ => by simp [pl] at hn
  | .pd _ _, _, hn, _ => by simp [pl] at hn
  | .vec _ _, _, hn, _ => by simp [pl] at hn
  | .any, _, hn, _ => by simp [pl] at hn
  | .raw _, _, _, h => by simpa only [C1] using h
theorem CR.plain : ∀ (vs : List VV) (cs : List Value), pls vs = true → CR ρ w vs cs → CR ρ' w vs cs
  | [], _, _, h => by simpa only [CR] using h
  | v :: vs, cs, hn, h => by
    simp only [pls,Bool.and_eq_true] at hn
    simp only [CR] at h ⊢
    obtain ⟨c1, c2, h1, h2, h3⟩ := h
    exact ⟨c1, c2, h1, C1.plain v c1 hn.1 h2, CR.plain vs c2 hn.2 h3⟩
end
theorem VR1.plain {v : VV} {x : Value} (hn : pl v = true) (h : VR1 ρ w v x) : VR1 ρ' w v x := by
  cases v with
  | agg vs => obtain ⟨cs, h1, h2⟩ := h; exact ⟨cs, h1, CR.plain vs _ (by simpa only [pl] using hn) h2⟩
  | any => trivial
  | _ => exact C1.plain (ρ := ρ) _ _ hn h
theorem VRs.plain : ∀ (vs : List VV) (xs : List Value), pls vs = true → VRs ρ w vs xs → VRs ρ' w vs xs
  | [], _, _, h => h
  | v :: vs, xs, hn, h => by
    simp only [pls,Bool.and_eq_true] at hn
    obtain ⟨x, ys, h1, h2, h3⟩ := h
    exact ⟨x, ys, h1, VR1.plain hn.1 h2, VRs.plain vs ys hn.2 h3⟩
theorem VR.plain {v : VV} {x : Value} (hn : pl v = true) (h : VR ρ w v x) : VR ρ' w v x := by
  cases v with
  | tup vs => obtain ⟨cs, h1, h2⟩ := h; exact ⟨cs, h1, VRs.plain vs _ (by simpa only [pl] using hn) h2⟩
  | _ => simp only [VR] at h ⊢; exact VR1.plain hn h
end
theorem HR.tabsT {Z : Nat → Nat → Prop} {B n : Nat} {ρ : Names} {w : World} {H : Heap} (hh : HR Z B ρ H n w) : Base w.heap.size (.bare fun _ => True) w := hh.bas.up hh.base (Nat.le_refl _) fun _ _ _ _ => trivial
theorem HR.tabsU {Z : Nat → Nat → Prop} {B n : Nat} {ρ : Names} {w : World} {H : Heap} (hh : HR Z B ρ H n w) : Base w.heap.size (.bare (Unnamed ρ)) w := hh.bas.up hh.base (Nat.le_refl _) fun g s v hg => by
  obtain ⟨h1, h2, _⟩ := hh.bas.tab g s v hg
  exact ⟨h2, fun m l hm e => by have := (hh.lt m l hm).1; omega⟩
theorem VRA.bare {ρ : Names} {w : World} : ∀ (vs : List VV) (xs : List Value), nls vs = true → vs.all notTup = true → VRA ρ w vs xs → VRA (.bare (Unnamed ρ)) w vs xs
  | [], _, _, _, h => h
  | v :: vs, xs, hn, ht, h => by
    simp only [nls,Bool.and_eq_true] at hn
    simp only [List.all_cons,Bool.and_eq_true] at ht
    obtain ⟨x, ys, h1, h2, h3⟩ := h
    refine ⟨x, ys, h1, ?_, VRA.bare vs ys hn.2 ht.2 h3⟩
    have h4 := h2.to1 ht.1
    exact VR.of1 (VR1.bare (fun _ h => h) hn.1 h4)
theorem VRA.data {Z : Nat → Nat → Prop} [Zone Z] {B n : Nat} {ρ : Names} {w : World} {H : Heap} (hh : HR Z B ρ H n w) : ∀ (vs ds : List VV) (xs : List Value), RdL H vs ds → vs.all notTup = true → VRA ρ w vs xs → VRA (.bare fun _ => True) w ds xs
  | [], ds, xs, h, _, hx => by
    simp only [RdL] at h
    subst h
    exact hx
  | v :: vs, ds, xs, h, ht, hx => by
    simp only [RdL] at h
    obtain ⟨d, ds', rfl, h1, h2⟩ := h
    simp only [List.all_cons,Bool.and_eq_true] at ht
    obtain ⟨x, ys, g1, g2, g3⟩ := hx
    exact ⟨x, ys, g1, VR.of1 (Rd.value1 hh (fun _ _ => trivial) (fun _ _ _ => trivial) h1 (g2.to1 ht.1)), VRA.data hh vs ds' ys h2 ht.2 g3⟩
theorem HR.wide {Z : Nat → Nat → Prop} [Zone Z] {B n : Nat} {ρ : Names} {w w' : World} {H : Heap} (h : HR Z B ρ H n w) (hsz : w.heap.size ≤ w'.heap.size) (hb : ∀ b, b < w.heap.size → w'.heap[b]? = w.heap[b]?) :
    HR Z B ⟨ρ.nm, fun b => ρ.im b ∨ w.heap.size ≤ b⟩ H n w' ∧ Ext ρ w ⟨ρ.nm, fun b => ρ.im b ∨ w.heap.size ≤ b⟩ w' := by
  have he : Ext ρ w ⟨ρ.nm, fun b => ρ.im b ∨ w.heap.size ≤ b⟩ w' := ⟨fun _ _ h => h, hsz, fun b hb' _ => hb b hb', fun _ _ h => .inl h, fun _ h => .inl h, fun _ h => h⟩
  refine ⟨⟨h.bas.next hsz (fun _ h => .inl h) (fun b hb1 => hb b (Nat.lt_of_lt_of_le hb1 h.base)), h.fresh, fun m l hm => ?_, h.apart, fun m s v l hm h1 => ?_, fun m es l hm h1 => ?_⟩, he⟩
  · obtain ⟨h2, h3⟩ := h.lt m l hm
    exact ⟨h2, Nat.lt_of_lt_of_le h3 hsz⟩
  · exact (h.row m s v l hm h1).same he (hb _ (h.lt m l h1).2)
  · exact (h.map m es l hm h1).same he (hb _ (h.lt m l h1).2)
theorem jc {f : FuncId} {ds : List VV} {r : VV} (h : Spec P f ds r) {H : Heap} {n : Nat} {K : VV → Heap → Nat → Prop} (hn : nls ds = true) (ht : ds.all notTup = true) (hk : K r H n) : vcall P f ds H n K := by
  intro B ρ w xs hh ha
  refine (h _ w xs hh.tabsU (VRA.bare ds xs hn ht ha)).mono fun e w' ⟨x, he, hb, hv⟩ => ⟨x, he, ?_⟩
  obtain ⟨h1, h2⟩ := hh.wide hb.size hb.block
  refine ⟨r, H, n, _, hk, VR.mono (fun m l hm => by cases hm) (fun b hlt hu => ?_) hv, h1, h2, hb.mono hh.base⟩
  obtain ⟨h3, _⟩ := hu
  rcases h3 with h3 | h3
  · exact ⟨.inl h3.1, h3.2⟩
  · exact ⟨.inr h3, fun m l hm e => by have := (hh.lt m l hm).2; omega⟩
theorem call_plain {f : FuncId} {args ds : List VV} {r : VV} (h : Spec P f ds r) {H : Heap} {n : Nat} {K : VV → Heap → Nat → Prop} (hd : RdL H args ds) (ht : args.all notTup = true) (hr : pl r = true) (hk : K r H n) : vcall P f args H n K := by
  intro B ρ w xs hh ha
  refine (h _ w xs hh.tabsT (VRA.data hh args ds xs hd ht ha)).mono fun e w' ⟨x, he, hb, hv⟩ => ⟨x, he, ?_⟩
  obtain ⟨h1, h2⟩ := hh.wide hb.size hb.block
  exact ⟨r, H, n, _, hk, VR.plain hr hv, h1, h2, hb.mono hh.base⟩
def fin (P : Program) (rs : List ResultVar) (k : VV → Heap → Nat → Prop) (e : VX) (S : VS) : Prop := match e with
  | .exit _ => False
  | .normal => vres P S rs fun v => k v S.hp S.nx
  | .ret => vres P S rs fun v => k v S.hp S.nx
end
end Go.Proofs.YtcilmfhncjfdbaaDoor.V
end
section
/-
  A MACHINE OF VALUES, EIGHTEENTH PART: arguments of a law, by their types, as trees.
-/
set_option linter.unusedVariables false
set_option linter.unusedSectionVars false
set_option linter.unusedSimpArgs false
namespace Go.Proofs.YtcilmfhncjfdbaaDoor.V
open Go Go.RowKit

mutual
def tsh : Ty → Sh
  | .arr n t => .arr n (tsh t)
  | .fcons a b => .st (tsh a :: tshs b)
  | .fnil => .st []
  | _ => .cell
def tshs : Ty → List Sh
  | .fcons a b => tsh a :: tshs b
  | _ => []
end
def twf : Ty → Bool
  | .arr _ t => twf t
  | .sl t => twf t && decide (0 < t.size)
  | .fcons a b => twf a && twf b && (match b with | .fnil => true | .fcons _ _ => true | _ => false)
  | _ => true
mutual
def toV : (t : Ty) → t.D → VV
  | .int k, x => let n : Int := x; .int k n
  | .u8, x => let b : UInt8 := x; .int .u8 b.toNat
  | .bool, x => let b : Bool := x; .bool b
  | .str, x => let s : List UInt8 := x; .str s
  | .arr _ t, x => let l : List t.D := x; .agg (l.map (toV t))
  | .sl t, x => let l : List t.D := x; .dat (tsh t) (l.map (toV t))
  | .fnil, _ => .agg []
  | .fcons a b, x => let p : a.D × b.D := x; .agg (toV a p.1 :: toVs b p.2)
def toVs : (t : Ty) → t.D → List VV
  | .fcons a b, x => let p : a.D × b.D := x; toV a p.1 :: toVs b p.2
  | _, _ => []
end
theorem chunks_cr {ρ : Names} {w : World} {t : Ty} (f : t.D → VV) : ∀ (l : List t.D) (cs : List Value), cs.length = l.length * t.size → (∀ i (h : i < l.length), Ty.Is w t ((cs.drop (i * t.size)).take t.size) l[i]) → (∀ x c, x ∈ l → Ty.Is w t c x → C1 ρ w (f x) c) → CR ρ w (l.map f) cs
  | [], cs, hl, _, _ => by
    have : cs = [] := List.eq_nil_of_length_eq_zero (by simpa using hl)
    simp only [List.map_nil,CR,this]
  | x :: l, cs, hl, h, hc => by
    simp only [List.map_cons,CR]
    have hsz : cs.length = l.length * t.size + t.size := by rw [hl, List.length_cons, Nat.succ_mul]
    refine ⟨cs.take t.size, cs.drop t.size, (List.take_append_drop _ _).symm, hc x _ (by simp) (by have h0 := h 0 (by simp); rw [Nat.zero_mul, List.drop_zero] at h0; exact h0), chunks_cr f l _ (by rw [List.length_drop]; omega) (fun i hi => ?_) fun x c hx => hc x c (by simp [hx])⟩
    have := h (i + 1) (by simpa using hi)
    rw [List.drop_drop, show t.size + i * t.size = (i + 1) * t.size by rw [Nat.succ_mul, Nat.add_comm]]
    exact this
theorem is_sound {w : World} : ∀ (t : Ty), twf t = true → (∀ (cs : List Value) (x : t.D), Ty.Is w t cs x → C1 (.bare fun _ => True) w (toV t x) cs ∧ Has (tsh t) (toV t x)) ∧
    ((match t with | .fnil => True | .fcons _ _ => True | _ => False) → ∀ (cs : List Value) (x : t.D), Ty.Is w t cs x → CR (.bare fun _ => True) w (toVs t x) cs ∧ HasL (tshs t) (toVs t x)) := by
  intro t
  induction t with
  | int k => intro _; exact ⟨fun cs x h => ⟨by simpa only [toV,C1] using h.1, by simp [tsh, toV, Has, VV.leaf]⟩, fun h => h.elim⟩
  | u8 => intro _; exact ⟨fun cs x h => ⟨by simp only [toV,C1]; exact h, by simp [tsh, toV, Has, VV.leaf]⟩, fun h => h.elim⟩
  | bool => intro _; exact ⟨fun cs x h => ⟨by simp only [toV,C1]; exact h, by simp [tsh, toV, Has, VV.leaf]⟩, fun h => h.elim⟩
  | str => intro _; exact ⟨fun cs x h => ⟨by simpa only [toV,C1] using h.1, by simp [tsh, toV, Has, VV.leaf]⟩, fun h => h.elim⟩
  | arr n t ih =>
    intro hw
    have ih := (ih (by simpa only [twf] using hw)).1
    refine ⟨fun cs (x : List t.D) h => ?_, fun h => h.elim⟩
    obtain ⟨h1, h2, h3⟩ := h
    have e : toV (.arr n t) x = .agg (x.map (toV t)) := by simp only [toV]
    rw [e]
    refine ⟨?_, ?_⟩
    · simp only [C1]
      exact chunks_cr _ _ cs (by rw [h1]; exact h2) h3 fun y c _ hy => (ih c y hy).1
    · simp only [tsh,Has]
      refine ⟨by rw [List.length_map]; exact h1, fun v hv => ?_⟩
      obtain ⟨y, hy, rfl⟩ := List.mem_map.1 hv
      obtain ⟨i, hi, e⟩ := List.mem_iff_getElem.1 hy
      have := (ih _ _ (h3 i hi)).2
      rw [← e]
      exact this
  | sl t ih =>
    intro hw
    simp only [twf,Bool.and_eq_true,decide_eq_true_eq] at hw
    have ih := (ih hw.1).1
    refine ⟨fun cs (x : List t.D) h => ?_, fun h => h.elim⟩
    obtain ⟨A, c, h1, h2, h3, ccs, h4, h5, h6⟩ := h
    have e : toV (.sl t) x = .dat (tsh t) (x.map (toV t)) := by simp only [toV]
    rw [e]
    refine ⟨?_, by simp [tsh, Has, VV.leaf]⟩
    simp only [C1]
    refine ⟨A, c, by rw [List.length_map]; exact h1, by rw [List.length_map]; exact h3, fun hne => ?_⟩
    have hpos : 0 < List.length (α := t.D) x := by
      apply Nat.pos_of_ne_zero
      intro e
      exact hne (by rw [List.eq_nil_of_length_eq_zero e]; rfl)
    have hcc : 0 < ccs.length := by rw [h4]; exact Nat.mul_pos hpos hw.2
    obtain ⟨b, o, hA, hcell⟩ := h5 hcc
    refine ⟨b, o, ccs, hA, chunks_cr _ _ ccs h4 h6 fun y c _ hy => (ih c y hy).1, fun e he => ?_, fun j v hv => ?_, ⟨trivial, fun n l hn => by cases hn⟩, cell_lt (hcell 0 hcc)⟩
    · obtain ⟨y, hy, rfl⟩ := List.mem_map.1 he
      obtain ⟨i, hi, e⟩ := List.mem_iff_getElem.1 hy
      have := (ih _ _ (h6 i hi)).2
      rw [← e]
      exact this
    · obtain ⟨hj, e⟩ := List.getElem?_eq_some_iff.1 hv
      rw [hcell j hj]
      simp [List.getD_eq_getElem?_getD, hv]
  | fnil => intro _; exact ⟨fun cs x h => ⟨by simp only [toV,C1,CR]; exact h, by simp [tsh, toV, Has, HasL]⟩, fun _ cs x h => ⟨by simp only [toVs,CR]; exact h, by simp [tshs, toVs, HasL]⟩⟩
  | fcons a b iha ihb =>
    intro hw
    simp only [twf,Bool.and_eq_true] at hw
    have iha := (iha hw.1.1).1
    have ihb := (ihb hw.1.2).2 (by revert hw; cases b <;> simp)
    have key : ∀ (cs : List Value) (x : (Ty.fcons a b).D), Ty.Is w (.fcons a b) cs x → CR (.bare fun _ => True) w (toVs (.fcons a b) x) cs ∧ HasL (tshs (.fcons a b)) (toVs (.fcons a b) x) := by
      intro cs x h
      obtain ⟨h1, h2, h3⟩ := h
      obtain ⟨a1, a2⟩ := iha _ _ h2
      obtain ⟨b1, b2⟩ := ihb _ _ h3
      simp only [toVs,tshs,CR,HasL]
      exact ⟨⟨_, _, (List.take_append_drop a.size cs).symm, a1, b1⟩, a2, b2⟩
    refine ⟨fun cs x h => ?_, fun _ => key⟩
    obtain ⟨k1, k2⟩ := key cs x h
    exact ⟨by simp only [toV,C1]; simpa only [toVs] using k1, by simp only [toV,tsh,Has]; simpa only [toVs,tshs] using k2⟩
theorem val_sound {w : World} {t : Ty} (hw : twf t = true) {v : Value} {x : t.D} (h : Ty.Val w t v x) : VR (.bare fun _ => True) w (toV t x) v := by
  have hs := (is_sound (w := w) t hw).1
  cases t with
  | arr n t =>
    obtain ⟨cs, rfl, h⟩ := h
    have := (hs _ _ h).1
    simp only [toV,C1] at this ⊢
    exact ⟨_, rfl, this⟩
  | fnil =>
    obtain ⟨cs, rfl, h⟩ := h
    have := (hs _ _ h).1
    simp only [toV,C1] at this ⊢
    exact ⟨_, rfl, this⟩
  | fcons a b =>
    obtain ⟨cs, rfl, h⟩ := h
    have := (hs _ _ h).1
    simp only [toV,C1] at this ⊢
    exact ⟨_, rfl, this⟩
  | int k => have := (hs _ _ h).1; simpa only [toV,VR,VR1] using this
  | u8 => have := (hs _ _ h).1; simpa only [toV,VR,VR1] using this
  | bool => have := (hs _ _ h).1; simpa only [toV,VR,VR1] using this
  | str => have := (hs _ _ h).1; simpa only [toV,VR,VR1] using this
  | sl t => have := (hs _ _ h).1; simpa only [toV,VR,VR1] using this
def good : (t : Ty) → t.D → Prop
  | .int k, (x : Int) => (Lit.int k x).wf = true
  | .arr n t, (l : List t.D) => l.length = n ∧ ∀ x ∈ l, good t x
  | .sl t, (l : List t.D) => ∀ x ∈ l, good t x
  | .fcons a b, (x : a.D × b.D) => good a x.1 ∧ good b x.2
  | _, _ => True
theorem good_of {w : World} : ∀ (t : Ty) (cs : List Value) (x : t.D), Ty.Is w t cs x → good t x := by
  intro t
  induction t with
  | int k => intro cs x h; exact h.2
  | u8 => intro _ _ _; trivial
  | bool => intro _ _ _; trivial
  | str => intro _ _ _; trivial
  | arr n t ih =>
    intro cs (x : List t.D) h
    refine ⟨h.1, fun y hy => ?_⟩
    obtain ⟨i, hi, rfl⟩ := List.mem_iff_getElem.1 hy
    exact ih _ _ (h.2.2 i hi)
  | sl t ih =>
    intro cs (x : List t.D) h
    obtain ⟨A, c, h1, h2, h3, ccs, h4, h5, h6⟩ := h
    intro y hy
    obtain ⟨i, hi, rfl⟩ := List.mem_iff_getElem.1 hy
    exact ih _ _ (h6 i hi)
  | fnil => intro _ _ _; trivial
  | fcons a b iha ihb =>
    intro cs x h
    exact ⟨iha _ _ h.2.1, ihb _ _ h.2.2⟩
theorem good_val {w : World} {t : Ty} {v : Value} {x : t.D} (h : Ty.Val w t v x) : good t x := by
  unfold Ty.Val at h
  split at h
  · obtain ⟨cs, _, h⟩ := h; exact good_of t _ x h
  · exact good_of t _ x h
theorem law_true {P : Program} {f : FuncId} {ds : List VV} {xs : List Value} {W : World} (h : Spec P f ds (.bool true)) (hB : Base W.heap.size (.bare fun _ => True) W) (hx : VRA (.bare fun _ => True) W ds xs) : Calls P f xs.toArray W (fun e W' => e = .returned (.bool true) ∧ Kept W W') := by
  refine (h _ W xs hB hx).mono fun e W' ⟨x, he, hb, hv⟩ => ?_
  subst he
  have : x = .bool true := by simpa only [VR,VR1,C1,List.cons.injEq,and_true] using hv
  exact ⟨by rw [this], hb⟩
end Go.Proofs.YtcilmfhncjfdbaaDoor.V
end
section
/-
  A MACHINE OF VALUES, FOURTEENTH PART: how simp reckons it: what stands behind a question is no part that simp can reach before the question is answered.
-/
set_option linter.unusedVariables false
set_option linter.unusedSectionVars false
set_option linter.unusedSimpArgs false
namespace Go.Proofs.YtcilmfhncjfdbaaDoor.V
open Go

@[reducible] def Tag {α : Sort _} (k : α) : Type := Unit
def onW (k : VV → Prop) (h : Tag k) (v : VV) : Prop := k v
def bndW {α : Type} (k : α → Prop) (h : Tag k) (o : Option α) : Prop := bnd o k
def cndW (q : Prop) (h : Tag q) (p : Prop) : Prop := p ∧ q
def vifW (A B : Prop) (h : Tag A) (h' : Tag B) (b : Bool) : Prop := vif b A B
def vcallW (P : Program) (H : Heap) (K : VV → Heap → Nat → Prop) (h : Tag H) (h' : Tag K) (f : FuncId) (args : List VV) (n : Nat) : Prop := vcall P f args H n K
theorem onV_w (v : VV) (k : VV → Prop) : onV v k = onW k () v := rfl
theorem bnd_w {α : Type} (o : Option α) (k : α → Prop) : bnd o k = bndW k () o := rfl
theorem cnd_w (p q : Prop) : cnd p q = cndW q () p := rfl
theorem vif_w (b : Bool) (A B : Prop) : vif b A B = vifW A B () () b := rfl
theorem vcall_w (P : Program) (f : FuncId) (args : List VV) (H : Heap) (n : Nat) (K : VV → Heap → Nat → Prop) : vcall P f args H n K = vcallW P H K () () f args n := rfl
theorem bndW_some {α : Type} (k : α → Prop) (a : α) : bndW k () (some a) = k a := bnd_some a k
theorem cndW_true (q : Prop) : cndW q () True = q := by simp [cndW]
theorem vifW_true (A B : Prop) : vifW A B () () true = A := by simp [vifW, vif]
theorem vifW_false (A B : Prop) : vifW A B () () false = B := by simp [vifW, vif]
theorem ji {p q : Prop} {h : Tag q} (h1 : p) (h2 : q) : cndW q h p := ⟨h1, h2⟩
theorem jh {b : Bool} {A B : Prop} {h : Tag A} {h' : Tag B} (h1 : b = true → A) (h2 : b = false → B) : vifW A B h h' b := ⟨h1, h2⟩
theorem ja {P : Program} {f : FuncId} {args : List VV} {H : Heap} {n : Nat} {K : VV → Heap → Nat → Prop} {t : Tag H} {t' : Tag K} (h : vcall P f args H n K) : vcallW P H K t t' f args n := h
section
variable (k : VV → Prop)
theorem onW_int (a : IntKind) (b : Int) : onW k () (.int a b) = k (.int a b) := rfl
theorem onW_bool (a : Bool) : onW k () (.bool a) = k (.bool a) := rfl
theorem onW_str (a : List UInt8) : onW k () (.str a) = k (.str a) := rfl
theorem onW_agg (a : List VV) : onW k () (.agg a) = k (.agg a) := rfl
theorem onW_tup (a : List VV) : onW k () (.tup a) = k (.tup a) := rfl
theorem onW_sl (a : Option (Nat × List Nat × Nat)) (b : Nat) : onW k () (.sl a b) = k (.sl a b) := rfl
theorem onW_ptr (a : Nat) (b : List Nat) : onW k () (.ptr a b) = k (.ptr a b) := rfl
theorem onW_fn (a : FuncId) (b : List VV) : onW k () (.fn a b) = k (.fn a b) := rfl
theorem onW_map (a : Nat) : onW k () (.map a) = k (.map a) := rfl
theorem onW_dat (a : Sh) (b : List VV) : onW k () (.dat a b) = k (.dat a b) := rfl
theorem onW_pd (a : Sh) (b : VV) : onW k () (.pd a b) = k (.pd a b) := rfl
theorem onW_raw (a : Value) : onW k () (.raw a) = k (.raw a) := rfl
end
mutual
theorem Rd.refl (H : Heap) : ∀ (v : VV), nl v = true → Rd H v v
  | .agg vs, h => by simp only [Rd]; exact ⟨vs, rfl, RdL.refl H vs (by simpa only [nl] using h)⟩
  | .sl none n, h => by simp only [Rd]; exact .inl trivial
  | .sl (some _) _, h => by simp [nl] at h
  | .int _ _, h | .bool _, h | .str _, h | .tup _, h | .ptr _ _, h | .fn _ _, h | .map _, h | .dat _ _, h | .pd _ _, h | .vec _ _, h | .any, h | .raw _, h => by simp only [Rd]; exact ⟨h, trivial⟩
theorem RdL.refl (H : Heap) : ∀ (vs : List VV), nls vs = true → RdL H vs vs
  | [], _ => by simp only [RdL]
  | v :: vs, h => by
    simp only [nls,Bool.and_eq_true] at h
    simp only [RdL]
    exact ⟨v, vs, rfl, Rd.refl H v h.1, RdL.refl H vs h.2⟩
end
theorem rdl_nil {H : Heap} : RdL H [] [] := by simp only [RdL]
theorem rdl_cons {H : Heap} {v d : VV} {vs ds : List VV} (h : Rd H v d) (h' : RdL H vs ds) : RdL H (v :: vs) (d :: ds) := by simp only [RdL]; exact ⟨d, ds, rfl, h, h'⟩
theorem rd_row {H : Heap} {m k : Nat} {e : Sh} {els : List VV} {n : Nat} (h : H m = some (.row (.arr k e) (.agg els))) (hn : n = els.length) (hl : nls els = true) : Rd H (.sl (some (m, [], 0)) n) (.dat e els) := by
  simp only [Rd]
  exact ⟨_, _, k, e, els, h, rfl, rfl, by omega, by simpa [hn] using hl, by simp [hn]⟩

/-! ### steps, of frames that are written out -/
noncomputable def vl : (P : Program) → (ops l : List Oper) → (S : VS) → (K : VS → Prop) → Prop := Classical.choose (⟨vlist, rfl⟩ : ∃ f : (P : Program) → (ops l : List Oper) → (S : VS) → (K : VS → Prop) → Prop, f = vlist)
theorem vl_eq : vl = vlist := Classical.choose_spec (⟨vlist, rfl⟩ : ∃ f : (P : Program) → (ops l : List Oper) → (S : VS) → (K : VS → Prop) → Prop, f = vlist)
theorem vl_def (P : Program) (ops l : List Oper) (S : VS) (K : VS → Prop) : vl P ops l S K = vlist P ops l S K := by rw [vl_eq]
section
variable (P : Program) (tm : Nat → VV) (H : Heap) (n : Nat)
theorem s_nil (ops : List Oper) (K : VS → Prop) : vl P ops [] ⟨tm, H, n⟩ K = K ⟨tm, H, n⟩ := by simp only [vl_def]; exact id (Eq.refl _)
theorem s_cons (ops l : List Oper) (d : Option Tmp) (op : Op) (ty : TypeId) (ps : String) (af : Array Edge) (K : VS → Prop) : vl P ops (⟨d, op, ty, ps, af, none⟩ :: l) ⟨tm, H, n⟩ K =
    vop P (ev tm) H n (fun v H' n' => vl P ops l ⟨put d v tm, H', n'⟩ K) ⟨d, op, ty, ps, af, none⟩ := by simp only [vl_def]; exact id (Eq.refl _)
theorem s_guard (ops l : List Oper) (d : Option Tmp) (op : Op) (ty : TypeId) (ps : String) (af : Array Edge) (j : Nat) (want : Bool) (K : VS → Prop) : vl P ops (⟨d, op, ty, ps, af, some (j, want)⟩ :: l) ⟨tm, H, n⟩ K =
    bnd (dstAt ops j) fun t => onV (tm t) fun v => match v with
      | .bool b => vif (b == want) (vop P (ev (upd tm t (.bool want))) H n (fun v H' n' => vl P ops l ⟨put d v (upd tm t (.bool want)), H', n'⟩ K) ⟨d, op, ty, ps, af, some (j, want)⟩)
          (vl P ops l ⟨put d (.raw undef) (upd tm t (.bool (!want))), H, n⟩ K)
      | .raw u => cnd (u = undef) (vl P ops l ⟨put d (.raw undef) tm, H, n⟩ K)
      | _ => False := by simp only [vl_def]; exact id (Eq.refl _)
theorem x_block2 (i j : Nat) (K : VX → VS → Prop) (S : VS) : VX.block i K (.exit j) S = if j = i then K .normal S else K (.exit j) S := (id (Eq.refl _))
theorem r_tmp (t : Tmp) (k : VV → Prop) : vres1 P ⟨tm, H, n⟩ (.tmp t) k = k (tm t) := (id (Eq.refl _))
theorem r_cell (a : Tmp) (t : TypeId) (k : VV → Prop) : vres1 P ⟨tm, H, n⟩ (.cell a t) k = onV (tm a) fun v => match v with
    | .ptr m p => bnd (H m) fun b => match b with
      | .row s c => cnd (s.at p = SH P t) (bnd (c.get p) k)
      | _ => False
    | _ => False := (id (Eq.refl _))
end
end Go.Proofs.YtcilmfhncjfdbaaDoor.V
end
section
/-
  A MACHINE OF VALUES, FIFTEENTH PART: operations of a region whose order is drawn: what they do hangs on nothing that others of the region do.
-/
set_option linter.unusedVariables false
set_option linter.unusedSectionVars false
set_option linter.unusedSimpArgs false
namespace Go.Proofs.YtcilmfhncjfdbaaDoor.V
open Go Go.RowKit

def HCall (P : Program) (H : Heap) (g : FuncId) (args : List VV) (r : VV) : Prop :=
  ∃ ds, Spec P g ds r ∧ args.all notTup = true ∧ ((RdL H args ds ∧ pl r = true) ∨ (ds = args ∧ nls args = true))
def fnE (es : List (VV × VV)) : Bool := es.all fun q => match q with
  | (.int _ _, .fn _ []) => true
  | _ => false
theorem ME_fn {ρ ρ' : Names} {w w' : World} : ∀ (es : List (VV × VV)) (xs : List MapEntry), fnE es = true → ME ρ w es xs → ME ρ' w' es xs
  | [], _, _, h => h
  | (k, v) :: es, xs, hf, h => by
    simp only [fnE,List.all_cons,Bool.and_eq_true] at hf
    obtain ⟨x, ys, rfl, h1, h2, h3, h4⟩ := h
    refine ⟨x, ys, rfl, h1, ?_, ?_, ME_fn es ys hf.2 h4⟩
    · cases k with
      | int a b => exact h2
      | _ => simp at hf
    · cases k with
      | int a b =>
        cases v with
        | fn f caps =>
          cases caps with
          | nil => simpa [VR1, C1, CV] using h3
          | cons _ _ => simp at hf
        | _ => simp at hf
      | _ => simp at hf
def SpecM (P : Program) (f : FuncId) (ds : List VV) (es : List (VV × VV)) : Prop :=
  ∀ (U : Nat → Prop) (w : World) (xs : List Value), Base w.heap.size (.bare U) w → VRA (.bare U) w ds xs → Calls P f xs.toArray w (fun e w' => ∃ b, e = .returned (.map (some b)) ∧ Below w.heap.size w w' ∧ w.heap.size ≤ b ∧ b < w'.heap.size ∧ MapAt (.bare fun _ => True) w' ⟨b, 0, 0, .cell⟩ es)
def HMap (P : Program) (g : FuncId) (args : List VV) (es : List (VV × VV)) : Prop := SpecM P g args es ∧ fnE es = true ∧ args.all notTup = true ∧ nls args = true
def vcallH (P : Program) (g : FuncId) (args : List VV) (H : Heap) (n : Nat) (K : VV → Heap → Nat → Prop) : Prop :=
  (∃ r, HCall P H g args r ∧ K r H n) ∨ ∃ es, HMap P g args es ∧ K (.map n) (upd H n (some (.map es))) (n + 1)
section
variable (P : Program) (e : Operand → VV) (H : Heap) (n : Nat) (K : VV → Heap → Nat → Prop)
def vCallH (f : Operand) (args : List Operand) : Prop := onV (e f) fun v => match v with
  | .fn g caps => cnd (callable P g = true) (vcallH P g (args.map e ++ caps) H n K)
  | _ => False
def vBuildSliceH (t : TypeId) (len : Nat) (parts : List (Nat × Operand)) : Prop := if len = 0 then bnd (EL P t) fun et => bnd (SH P et) fun s => bnd (ZE P et) fun z => cnd (parts = [] ∧ s.size ≠ 0) (K (.sl (some (n + 1099511627776, [], 0)) 0) H n)
  else bldH (vBuildSlice P e H n K t len parts) (vBuildSliceD P e H n K t len parts)
def vAppendF (ts : Array TypeId) (x : Operand) : Prop := bnd (ts[0]?) fun t => bnd (ts[1]?) fun tx => bnd (EL P t) fun et => bnd (SH P et) fun se => bnd (ZE P et) fun z => bnd (P.underlying tx) fun u =>
  srcOf H se u (e x) fun news m2 => cnd (news.length * BY P et ≤ 140737488355328 ∧ news.length ≤ 1000000000000) (K (.sl (some (n, [], 0)) news.length) (upd H n (some (.row (.arr news.length se) (.agg news)))) (n + 1))
def vAppendH (ts : Array TypeId) (s x : Operand) : Prop := onV (e s) fun v => match v with
  | .sl none 0 => vAppend P e H n K ts s x
  | .sl (some (m, [], 0)) 0 => cnd (n + 549755813888 ≤ m) (vAppendF P e H n K ts x)
  | _ => False
def vBinH (op : BinOp) (t : TypeId) (x y : Operand) : Prop := onV (e x) fun v => match v with
  | .agg vs => onV (e y) fun u => match u with
    | .agg us => vEq P op t (.agg vs) (.agg us) fun b => K (.bool b) H n
    | _ => False
  | .bool a => onV (e y) fun u => match u with
    | .bool b => vEq P op t (.bool a) (.bool b) fun b => K (.bool b) H n
    | _ => False
  | .sl _ _ => False
  | .dat _ _ => False
  | _ => vBin e H n K op x y
def vopH (o : Oper) : Prop := match o.op with
  | .move x => K (e x) H n
  | .assign x => K (e x) H n
  | .pick c a b => vPick e H n K c a b
  | .alloc t => vAlloc P H n K t
  | .box t x => vBox P e H n K t x
  | .build t parts => vBuild P e H n K t parts.toList
  | .buildSlice t len parts => vBuildSliceH P e H n K t len parts.toList
  | .load t a => vLoad P e H n K t a
  | .nilCheck x => vNilCheck e H n K x
  | .binOp op t x y _ => vBinH P e H n K op t x y
  | .unOp op _ x => vUn e H n K op x
  | .convert s d x => vConv P e H n K s d x
  | .makeSlice t l c => vMakeSlice P e H n K t l c
  | .slice t x lo hi none => vSlice P e H n K t x lo hi
  | .fieldAddr t x f => vFieldAddr P e H n K t x f
  | .field t x f => vField P e H n K t x f
  | .indexAddr t x i => vIndexAddr P e H n K t x i
  | .index t x i => vIndex P e H n K t x i
  | .extract x i => vExtract e H n K x i
  | .sliceToArrayPointer t x => vArrPtr P e H n K t x
  | .lookup t x i c => vLookup P e H n K t x i c
  | .call c => match c.callee with
    | .value f => vCallH P e H n K f c.args.toList
    | .builtin b => match b, c.args.toList with
      | .len, [x] => vLen P e H n K c.argTypes x
      | .append, [s, x] => cnd (c.argTypes.size = 2) (vAppendH P e H n K c.argTypes s x)
      | .min, [x, y] => vMin e H n K x y
      | .max, [x, y] => vMax e H n K x y
      | _, _ => False
    | _ => False
  | _ => False
end
def Stb (F : (Operand → VV) → Heap → (VV → Heap → Nat → Prop) → Prop) (xs : List Operand) (e : Operand → VV) (H : Heap) (n : Nat) (v : VV) (H' : Heap) (n' : Nat) : Prop :=
  n ≤ n' ∧ (∀ m b, H m = some b → H' m = some b) ∧ (∀ m, m < n ∨ n' ≤ m → H' m = H m) ∧ ∀ e' G K', (∀ x ∈ xs, e' x = e x) → (∀ m b, H' m = some b → G m = some b) → K' v G n' → F e' G K'
theorem Stb.same {F : (Operand → VV) → Heap → (VV → Heap → Nat → Prop) → Prop} {xs : List Operand} {e : Operand → VV} {H : Heap} {n : Nat} {v : VV}
    (h : ∀ e' G K', (∀ x ∈ xs, e' x = e x) → (∀ m b, H m = some b → G m = some b) → K' v G n → F e' G K') : Stb F xs e H n v H n := ⟨Nat.le_refl _, fun _ _ h => h, fun _ _ => rfl, h⟩
theorem upd_self {G : Heap} {n : Nat} {b : Blk} (h : G n = some b) : upd G n (some b) = G := by
  funext m
  rw [upd_ap]
  split
  · rename_i e; rw [e, h]
  · rfl
theorem Stb.new {F : (Operand → VV) → Heap → (VV → Heap → Nat → Prop) → Prop} {xs : List Operand} {e : Operand → VV} {H : Heap} {n : Nat} {v : VV} {b : Blk} (hn : H n = none)
    (h : ∀ e' G K', (∀ x ∈ xs, e' x = e x) → (∀ m b, H m = some b → G m = some b) → K' v (upd G n (some b)) (n + 1) → F e' G K') : Stb F xs e H n v (upd H n (some b)) (n + 1) := by
  have hle : ∀ m b', H m = some b' → (upd H n (some b)) m = some b' := fun m b' hm => by
    rw [upd_ap, if_neg (by intro e; rw [e, hn] at hm; cases hm)]; exact hm
  refine ⟨Nat.le_succ _, hle, fun m hm => by rw [upd_ap, if_neg (by omega)], fun e' G K' he hG hk => h e' G K' he (fun m b' hm => hG m b' (hle m b' hm)) ?_⟩
  rw [upd_self (hG n b (by rw [upd_ap, if_pos rfl]))]
  exact hk
section
variable {P : Program} {e : Operand → VV} {H : Heap} {n : Nat} {K : VV → Heap → Nat → Prop}
def Out (F : (Operand → VV) → Heap → (VV → Heap → Nat → Prop) → Prop) (xs : List Operand) (e : Operand → VV) (H : Heap) (n : Nat) (K : VV → Heap → Nat → Prop) : Prop := ∃ v H' n', K v H' n' ∧ Stb F xs e H n v H' n'
theorem st_move (x : Operand) (h : K (e x) H n) : Out (fun e H K => K (e x) H n) [x] e H n K :=
  ⟨_, _, _, h, Stb.same fun e' G K' he hG hk => by show K' (e' x) G n; rw [he x (by simp)]; exact hk⟩
theorem st_pick (c a b : Operand) (h : vPick e H n K c a b) : Out (fun e H K => vPick e H n K c a b) [c, a, b] e H n K := by
  unfold vPick onV at h
  dsimp only at h
  split at h
  · rename_i t et
    cases t with
    | true => exact ⟨_, _, _, h.1 rfl, Stb.same fun e' G K' he hG hk => by show vPick e' G n K' c a b; unfold vPick onV; rw [he c (by simp), he a (by simp), et]; exact ⟨fun _ => hk, fun h => by cases h⟩⟩
    | false => exact ⟨_, _, _, h.2 rfl, Stb.same fun e' G K' he hG hk => by show vPick e' G n K' c a b; unfold vPick onV; rw [he c (by simp), he b (by simp), et]; exact ⟨fun h => (by cases h), fun _ => hk⟩⟩
  · exact h.elim
theorem st_load (t : TypeId) (a : Operand) (h : vLoad P e H n K t a) : Out (fun e H K => vLoad P e H n K t a) [a] e H n K := by
  unfold vLoad onV at h
  dsimp only at h
  split at h
  · rename_i m p ea
    obtain ⟨blk, hb, h⟩ := bnd_iff.1 h
    cases blk with
    | map es => exact h.elim
    | row s c =>
      obtain ⟨h1, h⟩ := h
      obtain ⟨u, hu, h⟩ := bnd_iff.1 h
      exact ⟨_, _, _, h, Stb.same fun e' G K' he hG hk => by
        show vLoad P e' G n K' t a
        unfold vLoad onV
        rw [he a (by simp), ea]
        exact bnd_intro (hG m _ hb) ⟨h1, bnd_intro hu hk⟩⟩
  · rename_i s u ea
    obtain ⟨h1, h⟩ := h
    exact ⟨_, _, _, h, Stb.same fun e' G K' he hG hk => by
      show vLoad P e' G n K' t a
      unfold vLoad onV
      rw [he a (by simp), ea]
      exact ⟨h1, hk⟩⟩
  · rename_i y ea
    obtain ⟨su, hsu, h1, h⟩ := bnd_iff.1 h
    exact ⟨_, _, _, h, Stb.same fun e' G K' he hG hk => by
      show vLoad P e' G n K' t a
      unfold vLoad onV
      rw [he a (by simp), ea]
      exact bnd_intro hsu ⟨h1, hk⟩⟩
  · exact h.elim
theorem st_box (hn : H n = none) (t : TypeId) (x : Operand) (h : vBox P e H n K t x) : Out (fun e H K => vBox P e H n K t x) [x] e H n K := by
  unfold vBox at h
  obtain ⟨s, hs, h1, h⟩ := bnd_iff.1 h
  exact ⟨_, _, _, h, Stb.new hn fun e' G K' he hG hk => by
    show vBox P e' G n K' t x
    unfold vBox
    rw [he x (by simp)]
    exact bnd_intro hs ⟨h1, hk⟩⟩
theorem st_alloc (hn : H n = none) (t : TypeId) (h : vAlloc P H n K t) : Out (fun e H K => vAlloc P H n K t) [] e H n K := by
  unfold vAlloc at h
  obtain ⟨s, hs, h⟩ := bnd_iff.1 h
  obtain ⟨z, hz, h⟩ := bnd_iff.1 h
  exact ⟨_, _, _, h, Stb.new hn fun e' G K' he hG hk => bnd_intro hs (bnd_intro hz hk)⟩
theorem setParts_congr {e e' : Operand → VV} : ∀ (ps : List (Nat × Operand)) (zs : List VV), (∀ x ∈ ps.map (·.2), e' x = e x) → setParts e' ps zs = setParts e ps zs
  | [], zs, _ => rfl
  | (i, x) :: ps, zs, h => by
    simp only [setParts]
    rw [h x (by simp), setParts_congr ps _ fun y hy => h y (by simp at hy ⊢; exact .inr hy)]
theorem HasParts_congr {e e' : Operand → VV} (f : Nat → Option Sh) : ∀ (ps : List (Nat × Operand)), (∀ x ∈ ps.map (·.2), e' x = e x) → HasParts e f ps → HasParts e' f ps
  | [], _, _ => trivial
  | (i, x) :: ps, h, hp => by
    simp only [HasParts] at hp ⊢
    rw [h x (by simp)]
    exact ⟨hp.1, HasParts_congr f ps (fun y hy => h y (by simp at hy ⊢; exact .inr hy)) hp.2⟩
theorem st_build (t : TypeId) (ps : List (Nat × Operand)) (h : vBuild P e H n K t ps) : Out (fun e H K => vBuild P e H n K t ps) (ps.map (·.2)) e H n K := by
  unfold vBuild at h
  obtain ⟨s, hs, h⟩ := bnd_iff.1 h
  obtain ⟨z, hz, h⟩ := bnd_iff.1 h
  split at h
  · obtain ⟨h1, h⟩ := h
    exact ⟨_, _, _, h, Stb.same fun e' G K' he hG hk => bnd_intro hs (bnd_intro hz ⟨HasParts_congr _ _ he h1, by rw [setParts_congr _ _ he]; exact hk⟩)⟩
  · obtain ⟨h1, h⟩ := h
    exact ⟨_, _, _, h, Stb.same fun e' G K' he hG hk => bnd_intro hs (bnd_intro hz ⟨HasParts_congr _ _ he h1, by rw [setParts_congr _ _ he]; exact hk⟩)⟩
  · exact h.elim
theorem st_buildSlice (hn : H n = none) (t : TypeId) (len : Nat) (ps : List (Nat × Operand)) (h : vBuildSlice P e H n K t len ps) : Out (fun e H K => vBuildSlice P e H n K t len ps) (ps.map (·.2)) e H n K := by
  unfold vBuildSlice at h
  obtain ⟨et, het, h⟩ := bnd_iff.1 h
  obtain ⟨s, hs, h⟩ := bnd_iff.1 h
  obtain ⟨z, hz, h1, h⟩ := bnd_iff.1 h
  exact ⟨_, _, _, h, Stb.new hn fun e' G K' he hG hk => bnd_intro het (bnd_intro hs (bnd_intro hz ⟨⟨HasParts_congr _ _ he h1.1, h1.2⟩, by rw [setParts_congr _ _ he]; exact hk⟩))⟩
theorem st_buildSliceH (hn : H n = none) (t : TypeId) (len : Nat) (ps : List (Nat × Operand)) (h : vBuildSliceH P e H n K t len ps) : Out (fun e H K => vBuildSliceH P e H n K t len ps) (ps.map (·.2)) e H n K := by
  unfold vBuildSliceH at h
  split at h
  · rename_i h0
    obtain ⟨et, het, h⟩ := bnd_iff.1 h
    obtain ⟨s, hs, h⟩ := bnd_iff.1 h
    obtain ⟨z, hz, h1, h⟩ := bnd_iff.1 h
    exact ⟨_, _, _, h, Stb.same fun e' G K' he hG hk => by
      show vBuildSliceH P e' G n K' t len ps
      unfold vBuildSliceH
      rw [if_pos h0]
      exact bnd_intro het (bnd_intro hs (bnd_intro hz ⟨h1, hk⟩))⟩
  · rename_i h0
    rcases h with h | h
    · obtain ⟨v, H', n', hk, h1, h2, h3, h4⟩ := st_buildSlice hn t len ps h
      exact ⟨v, H', n', hk, h1, h2, h3, fun e' G K' he hG hk => by
        show vBuildSliceH P e' G n K' t len ps
        unfold vBuildSliceH
        rw [if_neg h0]
        exact .inl (h4 e' G K' he hG hk)⟩
    · obtain ⟨et, het, h⟩ := bnd_iff.1 h
      obtain ⟨s, hs, h⟩ := bnd_iff.1 h
      obtain ⟨z, hz, h1, h⟩ := bnd_iff.1 h
      exact ⟨_, _, _, h, Stb.same fun e' G K' he hG hk => by
        show vBuildSliceH P e' G n K' t len ps
        unfold vBuildSliceH
        rw [if_neg h0]
        exact .inr (bnd_intro het (bnd_intro hs (bnd_intro hz ⟨⟨HasParts_congr _ _ he h1.1, h1.2⟩, by rw [setParts_congr _ _ he]; exact hk⟩)))⟩
theorem st_makeSlice (hn : H n = none) (t : TypeId) (l c : Operand) (h : vMakeSlice P e H n K t l c) : Out (fun e H K => vMakeSlice P e H n K t l c) [l, c] e H n K := by
  unfold vMakeSlice onV at h
  dsimp only at h
  split at h
  · rename_i k1 i k2 j e1 e2
    obtain ⟨et, het, h⟩ := bnd_iff.1 h
    obtain ⟨s, hs, h⟩ := bnd_iff.1 h
    obtain ⟨z, hz, h1, h⟩ := bnd_iff.1 h
    exact ⟨_, _, _, h, Stb.new hn fun e' G K' he hG hk => by
      show vMakeSlice P e' G n K' t l c
      unfold vMakeSlice onV
      rw [he l (by simp), he c (by simp), e1, e2]
      exact bnd_intro het (bnd_intro hs (bnd_intro hz ⟨h1, hk⟩))⟩
  · exact h.elim
theorem st_un (op : UnOp) (x : Operand) (h : vUn e H n K op x) : Out (fun e H K => vUn e H n K op x) [x] e H n K := by
  unfold vUn onV at h
  dsimp only at h
  split at h <;> first
    | exact h.elim
    | (rename_i ex; exact ⟨_, _, _, h, Stb.same fun e' G K' he hG hk => by show vUn e' G n K' _ x; unfold vUn onV; rw [he x (by simp), ex]; exact hk⟩)
theorem vbin_any (op : BinOp) (x y : VV) (K : VV → Prop) (h : vbin op x y K) : ∃ v, K v ∧ ∀ K' : VV → Prop, K' v → vbin op x y K' := by
  unfold vbin at h ⊢
  split at h
  · cases op <;> dsimp only at h ⊢ <;> exact ⟨_, h.2, fun K' hk => ⟨h.1, hk⟩⟩
  · split at h <;> first
      | exact h.elim
      | exact ⟨_, h.2, fun K' hk => ⟨h.1, hk⟩⟩
      | exact ⟨_, h, fun K' hk => hk⟩
  · exact h.elim
theorem st_bin (op : BinOp) (x y : Operand) (h : vBin e H n K op x y) : Out (fun e H K => vBin e H n K op x y) [x, y] e H n K := by
  unfold vBin onV at h
  obtain ⟨v, h1, h2⟩ := vbin_any _ _ _ _ h
  exact ⟨v, _, _, h1, Stb.same fun e' G K' he hG hk => by show vBin e' G n K' op x y; unfold vBin onV; rw [he x (by simp), he y (by simp)]; exact h2 _ hk⟩
theorem vEq_any (op : BinOp) (t : TypeId) (v u : VV) (k : Bool → Prop) (h : vEq P op t v u k) : ∃ b, k b ∧ ∀ k' : Bool → Prop, k' b → vEq P op t v u k' := by
  unfold vEq at h ⊢
  obtain ⟨q, hq, h1, h⟩ := bnd_iff.1 h
  cases op <;> dsimp only at h ⊢ <;> first
    | exact h.elim
    | exact ⟨_, h, fun k' hk => bnd_intro hq ⟨h1, hk⟩⟩
theorem st_binH (op : BinOp) (t : TypeId) (x y : Operand) (h : vBinH P e H n K op t x y) : Out (fun e H K => vBinH P e H n K op t x y) [x, y] e H n K := by
  unfold vBinH onV at h
  dsimp only at h
  generalize ex : e x = v at h
  split at h
  · split at h
    · rename_i us ey
      obtain ⟨b, h1, h2⟩ := vEq_any _ _ _ _ _ h
      exact ⟨_, _, _, h1, Stb.same fun e' G K' he hG hk => by show vBinH P e' G n K' op t x y; unfold vBinH onV; rw [he x (by simp), he y (by simp), ex, ey]; exact h2 _ hk⟩
    · exact h.elim
  · split at h
    · rename_i us ey
      obtain ⟨b, h1, h2⟩ := vEq_any _ _ _ _ _ h
      exact ⟨_, _, _, h1, Stb.same fun e' G K' he hG hk => by show vBinH P e' G n K' op t x y; unfold vBinH onV; rw [he x (by simp), he y (by simp), ex, ey]; exact h2 _ hk⟩
    · exact h.elim
  · exact h.elim
  · exact h.elim
  · rename_i n1 n4 n2 n3
    obtain ⟨v, H', n', h1, h2, h3, h4, h5⟩ := st_bin op x y h
    refine ⟨v, H', n', h1, h2, h3, h4, fun e' G K' he hG hk => ?_⟩
    have := h5 e' G K' he hG hk
    show vBinH P e' G n K' op t x y
    unfold vBinH onV
    dsimp only
    rw [he x (by simp), ex]
    split
    · exact absurd rfl (n1 _)
    · exact absurd rfl (n4 _)
    · exact absurd rfl (n2 _ _)
    · exact absurd rfl (n3 _ _)
    · exact this
theorem vBinH_X {op : BinOp} {t : TypeId} {x y : Operand} (h : vBinH P e H n K op t x y) : vBinX P e H n K op t x y := by
  unfold vBinH onV at h
  unfold vBinX onV
  dsimp only at h ⊢
  generalize ex : e x = v at h ⊢
  cases v <;> first
    | exact h.elim
    | exact h
theorem st_max (x y : Operand) (h : vMax e H n K x y) : Out (fun e H K => vMax e H n K x y) [x, y] e H n K := by
  unfold vMax onV at h
  dsimp only at h
  split at h
  · rename_i k i k' j ex ey
    obtain ⟨h1, h⟩ := h
    exact ⟨_, _, _, h, Stb.same fun e' G K' he hG hk => by show vMax e' G n K' x y; unfold vMax onV; rw [he x (by simp), he y (by simp), ex, ey]; exact ⟨h1, hk⟩⟩
  · exact h.elim
theorem st_arrPtr (t : TypeId) (x : Operand) (h : vArrPtr P e H n K t x) : Out (fun e H K => vArrPtr P e H n K t x) [x] e H n K := by
  unfold vArrPtr onV at h
  dsimp only at h
  split at h
  · rename_i s els ex
    obtain ⟨sa, hsa, h⟩ := bnd_iff.1 h
    split at h
    · obtain ⟨h1, h⟩ := h
      exact ⟨_, _, _, h, Stb.same fun e' G K' he hG hk => by show vArrPtr P e' G n K' t x; unfold vArrPtr onV; rw [he x (by simp), ex]; exact bnd_intro hsa ⟨h1, hk⟩⟩
    · exact h.elim
  · rename_i m len ex
    obtain ⟨sa, hsa, h⟩ := bnd_iff.1 h
    obtain ⟨b, hb, h⟩ := bnd_iff.1 h
    split at h
    · obtain ⟨h1, h⟩ := h
      exact ⟨_, _, _, h, Stb.same fun e' G K' he hG hk => by show vArrPtr P e' G n K' t x; unfold vArrPtr onV; rw [he x (by simp), ex]; exact bnd_intro hsa (bnd_intro (hG _ _ hb) ⟨h1, hk⟩)⟩
    · exact h.elim
  · exact h.elim
theorem st_field (t : TypeId) (x : Operand) (f : Nat) (h : vField P e H n K t x f) : Out (fun e H K => vField P e H n K t x f) [x] e H n K := by
  unfold vField onV at h
  dsimp only at h
  split at h
  · rename_i vs ex
    obtain ⟨s, hs, h1, h⟩ := bnd_iff.1 h
    cases s with
    | st ls =>
      obtain ⟨u, hu, h⟩ := bnd_iff.1 h
      exact ⟨_, _, _, h, Stb.same fun e' G K' he hG hk => by show vField P e' G n K' t x f; unfold vField onV; rw [he x (by simp), ex]; exact bnd_intro hs ⟨h1, bnd_intro hu hk⟩⟩
    | cell => exact h.elim
    | arr _ _ => exact h.elim
  · exact h.elim
theorem st_extract (x : Operand) (i : Nat) (h : vExtract e H n K x i) : Out (fun e H K => vExtract e H n K x i) [x] e H n K := by
  unfold vExtract onV at h
  dsimp only at h
  split at h
  · rename_i vs ex
    obtain ⟨u, hu, h⟩ := bnd_iff.1 h
    exact ⟨_, _, _, h, Stb.same fun e' G K' he hG hk => by show vExtract e' G n K' x i; unfold vExtract onV; rw [he x (by simp), ex]; exact bnd_intro hu hk⟩
  · exact h.elim
theorem st_fieldAddr (t : TypeId) (x : Operand) (f : Nat) (h : vFieldAddr P e H n K t x f) : Out (fun e H K => vFieldAddr P e H n K t x f) [x] e H n K := by
  unfold vFieldAddr onV at h
  dsimp only at h
  split at h
  · rename_i m p ex
    obtain ⟨blk, hb, h⟩ := bnd_iff.1 h
    cases blk with
    | map es => exact h.elim
    | row s c =>
      obtain ⟨st, hst, h1, h⟩ := bnd_iff.1 h
      cases st with
      | st ls =>
        obtain ⟨sf, hsf, h2, h⟩ := bnd_iff.1 h
        exact ⟨_, _, _, h, Stb.same fun e' G K' he hG hk => by show vFieldAddr P e' G n K' t x f; unfold vFieldAddr onV; rw [he x (by simp), ex]; exact bnd_intro (hG m _ hb) (bnd_intro hst ⟨h1, bnd_intro hsf ⟨h2, hk⟩⟩)⟩
      | cell => exact h.elim
      | arr _ _ => exact h.elim
  · rename_i s vs ex
    obtain ⟨st, hst, h1, h⟩ := bnd_iff.1 h
    cases st with
    | st ls =>
      obtain ⟨sf, hsf, h2, h⟩ := bnd_iff.1 h
      obtain ⟨u, hu, h⟩ := bnd_iff.1 h
      exact ⟨_, _, _, h, Stb.same fun e' G K' he hG hk => by show vFieldAddr P e' G n K' t x f; unfold vFieldAddr onV; rw [he x (by simp), ex]; exact bnd_intro hst ⟨h1, bnd_intro hsf ⟨h2, bnd_intro hu hk⟩⟩⟩
    | cell => exact h.elim
    | arr _ _ => exact h.elim
  · exact h.elim
theorem st_indexAddr (t : TypeId) (x i : Operand) (h : vIndexAddr P e H n K t x i) : Out (fun e H K => vIndexAddr P e H n K t x i) [x, i] e H n K := by
  unfold vIndexAddr onV at h
  dsimp only at h
  split at h
  · rename_i m p i0 len kk k ex ei
    obtain ⟨blk, hb, h⟩ := bnd_iff.1 h
    cases blk with
    | map es => exact h.elim
    | row s c =>
      obtain ⟨et, het, h⟩ := bnd_iff.1 h
      obtain ⟨se, hse, h⟩ := bnd_iff.1 h
      obtain ⟨sa, hsa, h⟩ := bnd_iff.1 h
      cases sa with
      | arr j s' =>
        obtain ⟨h1, h2, h⟩ := h
        exact ⟨_, _, _, h, Stb.same fun e' G K' he hG hk => by show vIndexAddr P e' G n K' t x i; unfold vIndexAddr onV; rw [he x (by simp), he i (by simp), ex, ei]; exact bnd_intro (hG m _ hb) (bnd_intro het (bnd_intro hse (bnd_intro hsa ⟨h1, h2, hk⟩)))⟩
      | cell => exact h.elim
      | st _ => exact h.elim
  · rename_i s els kk k ex ei
    obtain ⟨et, het, h⟩ := bnd_iff.1 h
    obtain ⟨se, hse, h1, h2, h⟩ := bnd_iff.1 h
    obtain ⟨u, hu, h⟩ := bnd_iff.1 h
    exact ⟨_, _, _, h, Stb.same fun e' G K' he hG hk => by show vIndexAddr P e' G n K' t x i; unfold vIndexAddr onV; rw [he x (by simp), he i (by simp), ex, ei]; exact bnd_intro het (bnd_intro hse ⟨h1, h2, bnd_intro hu hk⟩)⟩
  · rename_i m p kk k ex ei
    obtain ⟨blk, hb, h⟩ := bnd_iff.1 h
    cases blk with
    | map es => exact h.elim
    | row s c =>
      obtain ⟨st, hst, h1, h⟩ := bnd_iff.1 h
      cases st with
      | arr len s' =>
        obtain ⟨h2, h⟩ := h
        exact ⟨_, _, _, h, Stb.same fun e' G K' he hG hk => by show vIndexAddr P e' G n K' t x i; unfold vIndexAddr onV; rw [he x (by simp), he i (by simp), ex, ei]; exact bnd_intro (hG m _ hb) (bnd_intro hst ⟨h1, h2, hk⟩)⟩
      | cell => exact h.elim
      | st _ => exact h.elim
  · rename_i s vs kk k ex ei
    obtain ⟨st, hst, h1, h⟩ := bnd_iff.1 h
    cases st with
    | arr len s' =>
      obtain ⟨h2, h⟩ := h
      obtain ⟨u, hu, h⟩ := bnd_iff.1 h
      exact ⟨_, _, _, h, Stb.same fun e' G K' he hG hk => by show vIndexAddr P e' G n K' t x i; unfold vIndexAddr onV; rw [he x (by simp), he i (by simp), ex, ei]; exact bnd_intro hst ⟨h1, h2, bnd_intro hu hk⟩⟩
    | cell => exact h.elim
    | st _ => exact h.elim
  · rename_i y kk k ex ei
    obtain ⟨su, hsu, h⟩ := bnd_iff.1 h
    obtain ⟨s, v⟩ := su
    dsimp only at h
    cases v <;> try exact h.elim
    rename_i vs
    dsimp only at h
    obtain ⟨st, hst, h1, h⟩ := bnd_iff.1 h
    cases st with
    | arr len s' =>
      obtain ⟨h2, h⟩ := h
      obtain ⟨u, hu, h⟩ := bnd_iff.1 h
      exact ⟨_, _, _, h, Stb.same fun e' G K' he hG hk => by show vIndexAddr P e' G n K' t x i; unfold vIndexAddr onV; rw [he x (by simp), he i (by simp), ex, ei]; exact bnd_intro hsu (bnd_intro hst ⟨h1, h2, bnd_intro hu hk⟩)⟩
    | cell => exact h.elim
    | st _ => exact h.elim
  · exact h.elim
theorem st_index (t : TypeId) (x i : Operand) (h : vIndex P e H n K t x i) : Out (fun e H K => vIndex P e H n K t x i) [x, i] e H n K := by
  unfold vIndex onV at h
  dsimp only at h
  split at h
  · rename_i s kk k ex ei
    obtain ⟨u, hu, h⟩ := bnd_iff.1 h
    cases u <;> first | exact h.elim | skip
    obtain ⟨h1, h⟩ := h
    exact ⟨_, _, _, h, Stb.same fun e' G K' he hG hk => by show vIndex P e' G n K' t x i; unfold vIndex onV; rw [he x (by simp), he i (by simp), ex, ei]; exact bnd_intro hu ⟨h1, hk⟩⟩
  · rename_i vs kk k ex ei
    obtain ⟨st, hst, h1, h⟩ := bnd_iff.1 h
    cases st with
    | arr len s' =>
      obtain ⟨h2, h⟩ := h
      obtain ⟨u, hu, h⟩ := bnd_iff.1 h
      exact ⟨_, _, _, h, Stb.same fun e' G K' he hG hk => by show vIndex P e' G n K' t x i; unfold vIndex onV; rw [he x (by simp), he i (by simp), ex, ei]; exact bnd_intro hst ⟨h1, h2, bnd_intro hu hk⟩⟩
    | cell => exact h.elim
    | st _ => exact h.elim
  · exact h.elim
theorem st_nilCheck (x : Operand) (h : vNilCheck e H n K x) : Out (fun e H K => vNilCheck e H n K x) [x] e H n K := by
  unfold vNilCheck onV at h
  dsimp only at h
  split at h <;> first
    | exact h.elim
    | (rename_i ex; exact ⟨_, _, _, h, Stb.same fun e' G K' he hG hk => by show vNilCheck e' G n K' x; unfold vNilCheck onV; rw [he x (by simp), ex]; exact hk⟩)
theorem st_len (ts : Array TypeId) (x : Operand) (h : vLen P e H n K ts x) : Out (fun e H K => vLen P e H n K ts x) [x] e H n K := by
  unfold vLen onV at h
  dsimp only at h
  obtain ⟨t, ht, h⟩ := bnd_iff.1 h
  obtain ⟨u, hu, h⟩ := bnd_iff.1 h
  generalize ex : e x = v at h
  split at h <;> first
    | exact h.elim
    | exact ⟨_, _, _, h, Stb.same fun e' G K' he hG hk => by show vLen P e' G n K' ts x; unfold vLen onV; rw [he x (by simp), ex]; exact bnd_intro ht (bnd_intro hu hk)⟩
theorem st_min (x y : Operand) (h : vMin e H n K x y) : Out (fun e H K => vMin e H n K x y) [x, y] e H n K := by
  unfold vMin onV at h
  dsimp only at h
  split at h
  · rename_i k i k' j ex ey
    obtain ⟨h1, h⟩ := h
    exact ⟨_, _, _, h, Stb.same fun e' G K' he hG hk => by show vMin e' G n K' x y; unfold vMin onV; rw [he x (by simp), he y (by simp), ex, ey]; exact ⟨h1, hk⟩⟩
  · exact h.elim
theorem lohi_any (lo hi : Option VV) (len : Nat) (k : Nat → Nat → Prop) (h : lohi lo hi len k) : ∃ i j, k i j ∧ ∀ k' : Nat → Nat → Prop, k' i j → lohi lo hi len k' := by
  unfold lohi onV at h ⊢
  split at h
  · exact ⟨_, _, h, fun k' hk => hk⟩
  · dsimp only at h ⊢
    split at h
    · exact ⟨_, _, h.2, fun k' hk => ⟨h.1, hk⟩⟩
    · exact h.elim
  · dsimp only at h ⊢
    split at h
    · exact ⟨_, _, h.2, fun k' hk => ⟨h.1, hk⟩⟩
    · exact h.elim
  · dsimp only at h ⊢
    split at h
    · exact ⟨_, _, h.2, fun k' hk => ⟨h.1, hk⟩⟩
    · exact h.elim
theorem map_congr (e e' : Operand → VV) (o : Option Operand) (h : ∀ x ∈ o.toList, e' x = e x) : o.map e' = o.map e := by
  cases o with
  | none => rfl
  | some x => simp only [Option.map_some]; rw [h x (by simp)]
theorem st_slice (t : TypeId) (x : Operand) (lo hi : Option Operand) (h : vSlice P e H n K t x lo hi) : Out (fun e H K => vSlice P e H n K t x lo hi) (x :: (lo.toList ++ hi.toList)) e H n K := by
  unfold vSlice onV at h
  dsimp only at h
  have hlo : ∀ e' : Operand → VV, (∀ y ∈ x :: (lo.toList ++ hi.toList), e' y = e y) → lo.map e' = lo.map e := fun e' he => map_congr e e' lo fun y hy => he y (by simp at hy ⊢; exact .inr (.inl hy))
  have hhi : ∀ e' : Operand → VV, (∀ y ∈ x :: (lo.toList ++ hi.toList), e' y = e y) → hi.map e' = hi.map e := fun e' he => map_congr e e' hi fun y hy => he y (by simp at hy ⊢; exact .inr (.inr hy))
  split at h
  · rename_i s ex
    obtain ⟨u, hu, h⟩ := bnd_iff.1 h
    cases u <;> first | exact h.elim | skip
    obtain ⟨i, j, h1, h2⟩ := lohi_any _ _ _ _ h
    exact ⟨_, _, _, h1, Stb.same fun e' G K' he hG hk => by show vSlice P e' G n K' t x lo hi; unfold vSlice onV; rw [he x (by simp), ex]; exact bnd_intro hu (by dsimp only; rw [hlo e' he, hhi e' he]; exact h2 _ hk)⟩
  · rename_i m p i0 len ex
    obtain ⟨blk, hb, h⟩ := bnd_iff.1 h
    cases blk with
    | map es => exact h.elim
    | row s c =>
      obtain ⟨et, het, h⟩ := bnd_iff.1 h
      obtain ⟨se, hse, h⟩ := bnd_iff.1 h
      obtain ⟨sa, hsa, h⟩ := bnd_iff.1 h
      cases sa with
      | arr j s' =>
        obtain ⟨h0, h⟩ := h
        obtain ⟨i, j, h1, h2⟩ := lohi_any _ _ _ _ h
        exact ⟨_, _, _, h1, Stb.same fun e' G K' he hG hk => by show vSlice P e' G n K' t x lo hi; unfold vSlice onV; rw [he x (by simp), ex]; exact bnd_intro (hG m _ hb) (bnd_intro het (bnd_intro hse (bnd_intro hsa ⟨h0, by rw [hlo e' he, hhi e' he]; exact h2 _ hk⟩)))⟩
      | cell => exact h.elim
      | st _ => exact h.elim
  · rename_i s els ex
    obtain ⟨et, het, h⟩ := bnd_iff.1 h
    obtain ⟨se, hse, h0, h⟩ := bnd_iff.1 h
    obtain ⟨i, j, h1, h2⟩ := lohi_any _ _ _ _ h
    exact ⟨_, _, _, h1, Stb.same fun e' G K' he hG hk => by show vSlice P e' G n K' t x lo hi; unfold vSlice onV; rw [he x (by simp), ex]; exact bnd_intro het (bnd_intro hse ⟨h0, by rw [hlo e' he, hhi e' he]; exact h2 _ hk⟩)⟩
  · rename_i m p ex
    obtain ⟨blk, hb, h⟩ := bnd_iff.1 h
    cases blk with
    | map es => exact h.elim
    | row s c =>
      obtain ⟨st, hst, h0, h⟩ := bnd_iff.1 h
      cases st with
      | arr len s' =>
        obtain ⟨u, hu, h⟩ := bnd_iff.1 h
        obtain ⟨i, j, h1, h2⟩ := lohi_any _ _ _ _ h
        exact ⟨_, _, _, h1, Stb.same fun e' G K' he hG hk => by show vSlice P e' G n K' t x lo hi; unfold vSlice onV; rw [he x (by simp), ex]; exact bnd_intro (hG m _ hb) (bnd_intro hst ⟨h0, bnd_intro hu (by rw [hlo e' he, hhi e' he]; exact h2 _ hk)⟩)⟩
      | cell => exact h.elim
      | st _ => exact h.elim
  · rename_i s vs ex
    obtain ⟨st, hst, h0, h⟩ := bnd_iff.1 h
    cases st with
    | arr len s' =>
      obtain ⟨i, j, h1, h2⟩ := lohi_any _ _ _ _ h
      exact ⟨_, _, _, h1, Stb.same fun e' G K' he hG hk => by show vSlice P e' G n K' t x lo hi; unfold vSlice onV; rw [he x (by simp), ex]; exact bnd_intro hst ⟨h0, by dsimp only; rw [hlo e' he, hhi e' he]; exact h2 _ hk⟩⟩
    | cell => exact h.elim
    | st _ => exact h.elim
  · exact h.elim
theorem srcOf_any (se : Sh) (u : TypeDesc) (v : VV) (k : List VV → Option Nat → Prop) (h : srcOf H se u v k) : ∃ news m, k news m ∧ ∀ (G : Heap) (k' : List VV → Option Nat → Prop), (∀ m b, H m = some b → G m = some b) → k' news m → srcOf G se u v k' := by
  unfold srcOf onV at h ⊢
  dsimp only at h ⊢
  split at h
  · exact ⟨_, _, h, fun G k' hG hk => hk⟩
  · rename_i el m p i len
    obtain ⟨blk, hb, h⟩ := bnd_iff.1 h
    cases blk with
    | map es => exact h.elim
    | row s c =>
      obtain ⟨h0, h⟩ := h
      obtain ⟨c', hc, h⟩ := bnd_iff.1 h
      cases c' <;> first | exact h.elim | skip
      exact ⟨_, _, h.2, fun G k' hG hk => bnd_intro (hG _ _ hb) ⟨h0, bnd_intro hc ⟨h.1, hk⟩⟩⟩
  · exact ⟨_, _, h.2, fun G k' hG hk => ⟨h.1, hk⟩⟩
  · exact ⟨_, _, h.2, fun G k' hG hk => ⟨h.1, hk⟩⟩
  · exact h.elim
theorem st_conv (hn : H n = none) (s d : TypeId) (x : Operand) (h : vConv P e H n K s d x) : Out (fun e H K => vConv P e H n K s d x) [x] e H n K := by
  unfold vConv onV at h
  dsimp only at h
  have str : ∀ v, e x = v → (∀ (e' : Operand → VV) G K', e' x = v → vToStr P e' G n K' s d x → vConv P e' G n K' s d x) → vToStr P e H n K s d x → Out (fun e H K => vConv P e H n K s d x) [x] e H n K := by
    intro v ex hv h
    unfold vToStr at h
    obtain ⟨es, hes, h⟩ := bnd_iff.1 h
    obtain ⟨eu, heu, h⟩ := bnd_iff.1 h
    obtain ⟨ud, hud, h⟩ := bnd_iff.1 h
    split at h
    · obtain ⟨news, m, h1, h2⟩ := srcOf_any _ _ _ _ h
      obtain ⟨l, hl, h1⟩ := bnd_iff.1 h1
      refine ⟨_, _, _, h1, Stb.same fun e' G K' he hG hk => hv e' G K' (by rw [he x (by simp), ex]) ?_⟩
      unfold vToStr
      rw [he x (by simp)]
      exact bnd_intro hes (bnd_intro heu (bnd_intro hud (h2 G _ hG (bnd_intro hl hk))))
    · exact h.elim
  split at h
  · rename_i kk i ex
    unfold vConvert onV at h
    rw [ex] at h
    dsimp only at h
    obtain ⟨us, hus, h⟩ := bnd_iff.1 h
    obtain ⟨ud, hud, h⟩ := bnd_iff.1 h
    cases ud <;> first | exact h.elim | skip
    exact ⟨_, _, _, h, Stb.same fun e' G K' he hG hk => by show vConv P e' G n K' s d x; unfold vConv vConvert onV; rw [he x (by simp), ex]; exact bnd_intro hus (bnd_intro hud hk)⟩
  · rename_i l ex
    unfold vToBytes onV at h
    rw [ex] at h
    dsimp only at h
    obtain ⟨us, hus, h⟩ := bnd_iff.1 h
    obtain ⟨es, hes, h⟩ := bnd_iff.1 h
    obtain ⟨eu, heu, h⟩ := bnd_iff.1 h
    split at h
    · exact ⟨_, _, _, h, Stb.new hn fun e' G K' he hG hk => by show vConv P e' G n K' s d x; unfold vConv vToBytes onV; rw [he x (by simp), ex]; exact bnd_intro hus (bnd_intro hes (bnd_intro heu hk))⟩
    · exact h.elim
  · rename_i p k ex
    exact str _ ex (fun e' G K' he h => by unfold vConv onV; rw [he]; exact h) h
  · rename_i p k ex
    exact str _ ex (fun e' G K' he h => by unfold vConv onV; rw [he]; exact h) h
  · exact h.elim
theorem st_append (hn : H n = none) (ts : Array TypeId) (s x : Operand) (h : vAppendH P e H n K ts s x) : Out (fun e H K => vAppendH P e H n K ts s x) [s, x] e H n K := by
  unfold vAppendH onV at h
  dsimp only at h
  split at h
  · rename_i ex
    unfold vAppend at h
    obtain ⟨t, ht, h⟩ := bnd_iff.1 h
    obtain ⟨tx, htx, h⟩ := bnd_iff.1 h
    obtain ⟨et, het, h⟩ := bnd_iff.1 h
    obtain ⟨se, hse, h⟩ := bnd_iff.1 h
    obtain ⟨z, hz, h⟩ := bnd_iff.1 h
    obtain ⟨u, hu, h⟩ := bnd_iff.1 h
    obtain ⟨news, m, h1, h2⟩ := srcOf_any _ _ _ _ h
    unfold onV at h1
    rw [ex] at h1
    obtain ⟨h3, h1⟩ := h1
    exact ⟨_, _, _, h1, Stb.new hn fun e' G K' he hG hk => by
      show vAppendH P e' G n K' ts s x
      unfold vAppendH onV
      rw [he s (by simp), ex]
      show vAppend P e' G n K' ts s x
      unfold vAppend
      rw [he s (by simp), he x (by simp), ex]
      exact bnd_intro ht (bnd_intro htx (bnd_intro het (bnd_intro hse (bnd_intro hz (bnd_intro hu (h2 G _ hG ⟨h3, hk⟩))))))⟩
  · rename_i m ex
    obtain ⟨hm, h⟩ := h
    unfold vAppendF at h
    obtain ⟨t, ht, h⟩ := bnd_iff.1 h
    obtain ⟨tx, htx, h⟩ := bnd_iff.1 h
    obtain ⟨et, het, h⟩ := bnd_iff.1 h
    obtain ⟨se, hse, h⟩ := bnd_iff.1 h
    obtain ⟨z, hz, h⟩ := bnd_iff.1 h
    obtain ⟨u, hu, h⟩ := bnd_iff.1 h
    obtain ⟨news, m3, ⟨h3, h1⟩, h2⟩ := srcOf_any _ _ _ _ h
    exact ⟨_, _, _, h1, Stb.new hn fun e' G K' he hG hk => by
      show vAppendH P e' G n K' ts s x
      unfold vAppendH onV
      rw [he s (by simp), ex]
      show cnd _ (vAppendF P e' G n K' ts x)
      refine ⟨hm, ?_⟩
      unfold vAppendF
      rw [he x (by simp)]
      exact bnd_intro ht (bnd_intro htx (bnd_intro het (bnd_intro hse (bnd_intro hz (bnd_intro hu (h2 G _ hG ⟨h3, hk⟩))))))⟩
  · exact h.elim
mutual
theorem Rd.up {H G : Heap} (hG : ∀ m b, H m = some b → G m = some b) : ∀ (v d : VV), Rd H v d → Rd G v d
  | .agg vs, d, h => by
    simp only [Rd] at h ⊢
    obtain ⟨ds, h1, h2⟩ := h
    exact ⟨ds, h1, RdL.up hG vs ds h2⟩
  | .sl none n, d, h => by simpa only [Rd] using h
  | .sl (some (m, p, i)) n, d, h => by
    simp only [Rd] at h ⊢
    obtain ⟨s, c, k, e, els, h1, h2⟩ := h
    exact ⟨s, c, k, e, els, hG _ _ h1, h2⟩
  | .int _ _, _, h => by simpa only [Rd] using h
  | .bool _, _, h => by simpa only [Rd] using h
  | .str _, _, h => by simpa only [Rd] using h
  | .tup _, _, h => by simpa only [Rd] using h
  | .ptr _ _, _, h => by simpa only [Rd] using h
  | .fn _ _, _, h => by simpa only [Rd] using h
  | .map _, _, h => by simpa only [Rd] using h
  | .dat _ _, _, h => by simpa only [Rd] using h
  | .pd _ _, _, h => by simpa only [Rd] using h
  | .vec _ _, _, h => by simpa only [Rd] using h
  | .any, _, h => by simpa only [Rd] using h
  | .raw _, _, h => by simpa only [Rd] using h
theorem RdL.up {H G : Heap} (hG : ∀ m b, H m = some b → G m = some b) : ∀ (vs ds : List VV), RdL H vs ds → RdL G vs ds
  | [], _, h => by simpa only [RdL] using h
  | v :: vs, ds, h => by
    simp only [RdL] at h ⊢
    obtain ⟨d, ds', h1, h2, h3⟩ := h
    exact ⟨d, ds', h1, Rd.up hG v d h2, RdL.up hG vs ds' h3⟩
end
theorem st_call (hn : H n = none) (f : Operand) (args : List Operand) (h : vCallH P e H n K f args) : Out (fun e H K => vCallH P e H n K f args) (f :: args) e H n K := by
  unfold vCallH onV at h
  dsimp only at h
  split at h
  · rename_i g caps ex
    obtain ⟨hc, h⟩ := h
    rcases h with ⟨r, ⟨ds, h1, h2, h3⟩, h⟩ | ⟨es, hM, h⟩
    · refine ⟨_, _, _, h, Stb.same fun e' G K' he hG hk => ?_⟩
      show vCallH P e' G n K' f args
      unfold vCallH onV
      rw [he f (by simp), ex]
      have hm : args.map e' = args.map e := List.map_congr_left fun y hy => he y (by simp [hy])
      dsimp only
      rw [hm]
      exact ⟨hc, .inl ⟨r, ⟨ds, h1, h2, h3.imp (fun h => ⟨RdL.up hG _ _ h.1, h.2⟩) id⟩, hk⟩⟩
    · refine ⟨_, _, _, h, Stb.new hn fun e' G K' he hG hk => ?_⟩
      show vCallH P e' G n K' f args
      unfold vCallH onV
      rw [he f (by simp), ex]
      have hm : args.map e' = args.map e := List.map_congr_left fun y hy => he y (by simp [hy])
      dsimp only
      rw [hm]
      exact ⟨hc, .inr ⟨es, hM, hk⟩⟩
  · exact h.elim
theorem st_lookup (t : TypeId) (x i : Operand) (c : Bool) (h : vLookup P e H n K t x i c) : Out (fun e H K => vLookup P e H n K t x i c) [x, i] e H n K := by
  unfold vLookup onV at h
  dsimp only at h
  split at h
  · rename_i m ex
    obtain ⟨b, hb, h⟩ := bnd_iff.1 h
    cases b with
    | row s c => exact h.elim
    | map es =>
      obtain ⟨d, hd, h1, h⟩ := bnd_iff.1 h
      obtain ⟨z, hz, h⟩ := bnd_iff.1 h
      exact ⟨_, _, _, h, Stb.same fun e' G K' he hG hk => by
        show vLookup P e' G n K' t x i c
        unfold vLookup onV
        rw [he x (by simp), he i (by simp), ex]
        exact bnd_intro (hG _ _ hb) (bnd_intro hd ⟨h1, bnd_intro hz hk⟩)⟩
  · exact h.elim
theorem vopH_stable {o : Oper} (hn : H n = none) (h : vopH P e H n K o) : Out (fun e H K => vopH P e H n K o) o.op.operands.toList e H n K := by
  have lift : ∀ {F : (Operand → VV) → Heap → (VV → Heap → Nat → Prop) → Prop} {xs : List Operand}, (∀ x ∈ xs, x ∈ o.op.operands.toList) → (∀ e G K, F e G K → vopH P e G n K o) → Out F xs e H n K → Out (fun e H K => vopH P e H n K o) o.op.operands.toList e H n K := by
    intro F xs hx hF ⟨v, H', n', hk, h1, h2, h3, h4⟩
    exact ⟨v, H', n', hk, h1, h2, h3, fun e' G K' he hG hk => hF _ _ _ (h4 e' G K' (fun x hx' => he x (hx x hx')) hG hk)⟩
  unfold vopH at h
  split at h <;> rename_i ho
  · exact lift (by rw [ho]; simp [Op.operands]) (fun e G K h => by unfold vopH; rw [ho]; exact h) (st_move _ h)
  · exact lift (by rw [ho]; simp [Op.operands]) (fun e G K h => by unfold vopH; rw [ho]; exact h) (st_move _ h)
  · exact lift (by rw [ho]; simp [Op.operands]) (fun e G K h => by unfold vopH; rw [ho]; exact h) (st_pick _ _ _ h)
  · exact lift (by rw [ho]; simp [Op.operands]) (fun e G K h => by unfold vopH; rw [ho]; exact h) (st_alloc hn _ h)
  · exact lift (by rw [ho]; simp [Op.operands]) (fun e G K h => by unfold vopH; rw [ho]; exact h) (st_box hn _ _ h)
  · exact lift (by rw [ho]; simp [Op.operands]) (fun e G K h => by unfold vopH; rw [ho]; exact h) (st_build _ _ h)
  · exact lift (by rw [ho]; simp [Op.operands]) (fun e G K h => by unfold vopH; rw [ho]; exact h) (st_buildSliceH hn _ _ _ h)
  · exact lift (by rw [ho]; simp [Op.operands]) (fun e G K h => by unfold vopH; rw [ho]; exact h) (st_load _ _ h)
  · exact lift (by rw [ho]; simp [Op.operands]) (fun e G K h => by unfold vopH; rw [ho]; exact h) (st_nilCheck _ h)
  · exact lift (by rw [ho]; simp [Op.operands]) (fun e G K h => by unfold vopH; rw [ho]; exact h) (st_binH _ _ _ _ h)
  · exact lift (by rw [ho]; simp [Op.operands]) (fun e G K h => by unfold vopH; rw [ho]; exact h) (st_un _ _ h)
  · exact lift (by rw [ho]; simp [Op.operands]) (fun e G K h => by unfold vopH; rw [ho]; exact h) (st_conv hn _ _ _ h)
  · exact lift (by rw [ho]; simp [Op.operands]) (fun e G K h => by unfold vopH; rw [ho]; exact h) (st_makeSlice hn _ _ _ h)
  · exact lift (by rw [ho]; simp [Op.operands]) (fun e G K h => by unfold vopH; rw [ho]; exact h) (st_slice _ _ _ _ h)
  · exact lift (by rw [ho]; simp [Op.operands]) (fun e G K h => by unfold vopH; rw [ho]; exact h) (st_fieldAddr _ _ _ h)
  · exact lift (by rw [ho]; simp [Op.operands]) (fun e G K h => by unfold vopH; rw [ho]; exact h) (st_field _ _ _ h)
  · exact lift (by rw [ho]; simp [Op.operands]) (fun e G K h => by unfold vopH; rw [ho]; exact h) (st_indexAddr _ _ _ h)
  · exact lift (by rw [ho]; simp [Op.operands]) (fun e G K h => by unfold vopH; rw [ho]; exact h) (st_index _ _ _ h)
  · exact lift (by rw [ho]; simp [Op.operands]) (fun e G K h => by unfold vopH; rw [ho]; exact h) (st_extract _ _ h)
  · exact lift (by rw [ho]; simp [Op.operands]) (fun e G K h => by unfold vopH; rw [ho]; exact h) (st_arrPtr _ _ h)
  · exact lift (by rw [ho]; simp [Op.operands]) (fun e G K h => by unfold vopH; rw [ho]; exact h) (st_lookup _ _ _ _ h)
  · rename_i c
    obtain ⟨cal, xs, ts⟩ := c
    dsimp only at h
    cases cal with
    | value f => exact lift (by rw [ho]; simp [Op.operands, Call.operands]) (fun e G K h => by unfold vopH; rw [ho]; exact h) (st_call hn _ _ h)
    | invoke r m => exact h.elim
    | builtin b =>
      dsimp only at h
      split at h
      · rename_i x hx
        exact lift (by rw [ho]; simp [Op.operands, Call.operands, args_list xs _ hx]) (fun e G K h => by unfold vopH; rw [ho]; dsimp only; rw [hx]; exact h) (st_len _ _ h)
      · rename_i s x hx
        obtain ⟨h0, h⟩ := h
        obtain ⟨v, H', n', hk, h1, h2, h3, h4⟩ := st_append hn _ _ _ h
        exact ⟨v, H', n', hk, h1, h2, h3, fun e' G K' he hG hk => by
          show vopH P e' G n K' o
          unfold vopH
          rw [ho]
          dsimp only
          rw [hx]
          exact ⟨h0, h4 e' G K' (fun y hy => he y (by rw [ho]; simp [Op.operands, Call.operands, args_list xs _ hx]; simpa using hy)) hG hk⟩⟩
      · rename_i x y hx
        exact lift (by rw [ho]; simp [Op.operands, Call.operands, args_list xs _ hx]) (fun e G K h => by unfold vopH; rw [ho]; dsimp only; rw [hx]; exact h) (st_min _ _ h)
      · rename_i x y hx
        exact lift (by rw [ho]; simp [Op.operands, Call.operands, args_list xs _ hx]) (fun e G K h => by unfold vopH; rw [ho]; dsimp only; rw [hx]; exact h) (st_max _ _ h)
      · exact h.elim
  · exact h.elim
end
end Go.Proofs.YtcilmfhncjfdbaaDoor.V
end
