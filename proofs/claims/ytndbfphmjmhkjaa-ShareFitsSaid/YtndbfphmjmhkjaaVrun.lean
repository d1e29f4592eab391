/-
  A MACHINE OF VALUES, TWELFTH PART: lists of operations, code, loops.
-/
import Derived.Test.YtndbfphmjmhkjaaVopK
set_option linter.unusedVariables false
set_option linter.unusedSectionVars false
set_option linter.unusedSimpArgs false
namespace Go.Proofs.Ytndbfphmjmhkjaa.V
open Go Go.RowKit

section
variable (P : Program) (e : Operand → VV) (H : Heap) (n : Nat) (K : VV → Heap → Nat → Prop)
def vMin (x y : Operand) : Prop := onV (e x) fun v => onV (e y) fun u => match v, u with
  | .int k a, .int k' b => cnd (k = k') (K (.int k (if b < a then b else a)) H n)
  | _, _ => False
def vConv (s d : TypeId) (x : Operand) : Prop := onV (e x) fun v => match v with
  | .int _ _ => vConvert P e H n K s d x
  | .str _ => vToBytes P e H n K s d x
  | .sl _ _ => vToStr P e H n K s d x
  | .dat _ _ => vToStr P e H n K s d x
  | _ => False
def vBuiltin (b : Builtin) (args : List Operand) (ts : Array TypeId) : Prop := match b, args with
  | .len, [x] => vLen P e H n K ts x
  | .append, [s, x] => cnd (ts.size = 2) (vAppend P e H n K ts s x)
  | .min, [x, y] => vMin e H n K x y
  | .max, [x, y] => vMax e H n K x y
  | _, _ => False
/-- what an operation does -/
def vop (o : Oper) : Prop := match o.op with
  | .move x => K (e x) H n
  | .assign x => K (e x) H n
  | .pick c a b => vPick e H n K c a b
  | .alloc t => vAlloc P H n K t
  | .box t x => vBox P e H n K t x
  | .build t parts => vBuild P e H n K t parts.toList
  | .buildSlice t len parts => vBuildSlice P e H n K t len parts.toList
  | .load t a => vLoad P e H n K t a
  | .store t a x => vStore P e H n K t a x
  | .nilCheck x => vNilCheck e H n K x
  | .binOp op t x y _ => vBinX P e H n K op t x y
  | .unOp op _ x => vUn e H n K op x
  | .convert s d x => vConv P e H n K s d x
  | .makeFunc (.func f) first caps => vMakeFunc e H n K f first caps.toList
  | .makeSlice t l c => vMakeSlice P e H n K t l c
  | .slice t x lo hi none => vSlice P e H n K t x lo hi
  | .fieldAddr t x f => vFieldAddr P e H n K t x f
  | .field t x f => vField P e H n K t x f
  | .indexAddr t x i => vIndexAddr P e H n K t x i
  | .index t x i => vIndex P e H n K t x i
  | .extract x i => vExtract e H n K x i
  | .sliceToArrayPointer t x => vArrPtr P e H n K t x
  | .makeMap _ none => vMakeMap H n K
  | .lookup t x i c => vLookup P e H n K t x i c
  | .mapUpdate t m k x => vMapUpdate P e H n K t m k x
  | .insert t m k x => vMapUpdate P e H n K t m k x
  | .call c => match c.callee with
    | .value f => vCall P e H n K f c.args.toList
    | .builtin b => vBuiltin P e H n K b c.args.toList c.argTypes
    | _ => False
  | _ => False
end
section
variable {P : Program} {Z : Nat → Nat → Prop} [Zone Z] {B : Nat} {ρ ρ' : Names} {w w' : World} {H : Heap} {n : Nat} {tm : Nat → VV} {a : Act} {K : VV → Heap → Nat → Prop} {o : Oper}
theorem min_sound (hT : TM ρ w tm a) (hh : HR Z B ρ H n w) (x y : Operand) (ts : Array TypeId) (ho : o.op = .call { callee := .builtin .min, args := #[x, y], argTypes := ts }) (h : vMin (ev tm) H n K x y) : Runs P Z B K ρ w (execOp a.eval o) := by
  unfold vMin onV at h
  dsimp only at h
  have hx := ev_sound hT x
  have hy := ev_sound hT y
  split at h
  · rename_i k i k' j e1 e2
    rw [e1] at hx
    rw [e2] at hy
    obtain ⟨rfl, h⟩ := h
    refine runs_value (x := .int k (if j < i then j else i)) ?_ h VR_int hh
    simp [execOp, ho, resolve, invoke, builtin, hx.int, hy.int, Builtin.min_, Builtin.min2]
  · exact h.elim
theorem args_list {α : Type} (xs : Array α) (l : List α) (h : xs.toList = l) : xs = l.toArray := by rw [← h]
/-- every operation but a call by name -/
theorem vop_soundZ (hc : ∀ f xs ts, o.op ≠ .call { callee := .value f, args := xs, argTypes := ts }) (hT : TM ρ w tm a) (hh : HR Z B ρ H n w) (hG : Gives Z n K) (h : vop P (ev tm) H n K o) : Runs P Z B K ρ w (execOp a.eval o) := by
  unfold vop at h
  split at h <;> rename_i ho
  · exact move_sound hT hh _ (.inl ho) h
  · exact move_sound hT hh _ (.inr ho) h
  · exact pick_sound hT hh _ _ _ ho h
  · exact alloc_sound hh hG _ ho h
  · exact box_sound hT hh hG _ _ ho h
  · exact build_sound hT hh _ _ ho h
  · exact buildSlice_sound hT hh hG _ _ _ ho h
  · exact load_sound hT hh _ _ ho h
  · exact store_sound hT hh _ _ _ ho h
  · exact nilCheck_sound hT hh _ ho h
  · exact binX_sound hT hh _ _ _ _ _ ho h
  · exact un_sound hT hh _ _ _ ho h
  · unfold vConv onV at h
    dsimp only at h
    split at h
    · exact convert_sound hT hh _ _ _ ho h
    · exact toBytes_sound hT hh hG _ _ _ ho h
    · exact toStr_sound hT hh _ _ _ ho h
    · exact toStr_sound hT hh _ _ _ ho h
    · exact h.elim
  · exact makeFunc_sound hT hh _ _ _ ho h
  · exact makeSlice_sound hT hh hG _ _ _ ho h
  · exact slice_sound hT hh _ _ _ _ ho h
  · exact fieldAddr_sound hT hh _ _ _ ho h
  · exact field_sound hT hh _ _ _ ho h
  · exact indexAddr_sound hT hh _ _ _ ho h
  · exact index_sound hT hh _ _ _ ho h
  · exact extract_sound hT hh _ _ ho h
  · exact arrPtr_sound hT hh _ _ ho h
  · exact makeMap_sound hh hG _ ho h
  · exact lookup_sound hT hh _ _ _ _ ho h
  · exact mapUpdate_sound hT hh _ _ _ _ (.inl ho) h
  · exact mapUpdate_sound hT hh _ _ _ _ (.inr ho) h
  · rename_i c
    split at h
    · rename_i f hf
      obtain ⟨cal, xs, ts⟩ := c
      dsimp only at hf
      subst hf
      exact absurd ho (hc f xs ts)
    · rename_i b hb
      obtain ⟨cal, xs, ts⟩ := c
      dsimp only at hb h
      subst hb
      unfold vBuiltin at h
      split at h
      · rename_i x hx
        have := args_list xs _ hx
        subst this
        exact len_sound hT hh _ ts ho h
      · rename_i s x hx
        have := args_list xs _ hx
        subst this
        obtain ⟨hts, h⟩ := h
        exact append_sound hT hh hG _ _ ts hts ho h
      · rename_i x y hx
        have := args_list xs _ hx
        subst this
        exact min_sound hT hh _ _ ts ho h
      · rename_i x y hx
        have := args_list xs _ hx
        subst this
        exact max_sound hT hh _ _ ts ho h
      · exact h.elim
    · exact h.elim
  · exact h.elim
theorem vop_sound (hT : TM ρ w tm a) (hh : HR ZT B ρ H n w) (h : vop P (ev tm) H n K o) : Runs P ZT B K ρ w (execOp a.eval o) := by
  by_cases hc : ∃ f xs ts, o.op = .call { callee := .value f, args := xs, argTypes := ts }
  · obtain ⟨f, xs, ts, ho⟩ := hc
    unfold vop at h
    rw [ho] at h
    exact call_sound hT hh f xs ts ho h
  · exact vop_soundZ (fun f xs ts e => hc ⟨f, xs, ts, e⟩) hT hh (fun _ _ _ _ _ => trivial) h
end

/-! ### lists -/
def dstAt : List Oper → Nat → Option Nat
  | [], _ => none
  | o :: _, 0 => o.dst
  | _ :: l, n + 1 => dstAt l n
theorem dstAt_eq : ∀ (l : List Oper) (j : Nat), dstAt l j = (l[j]?).bind (·.dst)
  | [], j => by simp [dstAt]
  | o :: l, 0 => by simp [dstAt]
  | o :: l, j + 1 => by simp [dstAt, dstAt_eq l j]
def vstep (P : Program) (ops : List Oper) (o : Oper) (S : VS) (K : VS → Prop) : Prop :=
  match o.guard with
  | none => vop P (ev S.tm) S.hp S.nx (fun v H n' => K ⟨put o.dst v S.tm, H, n'⟩) o
  | some (j, want) => bnd (dstAt ops j) fun d => onV (S.tm d) fun v => match v with
    | .bool b => vif (b == want) (vop P (ev (upd S.tm d (.bool want))) S.hp S.nx (fun v H n' => K ⟨put o.dst v (upd S.tm d (.bool want)), H, n'⟩) o)
        (K ⟨put o.dst (.raw undef) (upd S.tm d (.bool (!want))), S.hp, S.nx⟩)
    | .raw u => cnd (u = undef) (K ⟨put o.dst (.raw undef) S.tm, S.hp, S.nx⟩)
    | _ => False
def vlist (P : Program) (ops : List Oper) : List Oper → VS → (VS → Prop) → Prop
  | [], S, K => K S
  | o :: l, S, K => vstep P ops o S fun S' => vlist P ops l S' K
/-- a region whose order is drawn -/
def vdraw (P : Program) (ops : Array Oper) (S : VS) (K : VS → Prop) : Prop :=
  ∀ (id N B : Nat) (ρ0 : Names) (w0 : World) (Q : Exit → Act → World → Prop) (a : Act) (w : World) (ρ : Names), (∀ o ∈ ops.toList, ∀ d, o.dst = some d → d < N) → TM ρ w S.tm a → a.defers = [] → a.tmps.size = N → HR ZT B ρ S.hp S.nx w → Below B w0 w → Ext ρ0 w0 ρ w →
    (∀ S' a' w' ρ', K S' → TM ρ' w' S'.tm a' → a'.defers = [] → a'.tmps.size = N → HR ZT B ρ' S'.hp S'.nx w' → Below B w0 w' → Ext ρ0 w0 ρ' w' → Q .normal a' w') → (Code.region id ops true).wp P Q a w

inductive VX where
  | normal
  | exit (id : Nat)
  | ret
def VX.seq (N : VS → Prop) (K : VX → VS → Prop) : VX → VS → Prop
  | .normal, S => N S
  | .exit i, S => K (.exit i) S
  | .ret, S => K .ret S
def VX.block (id : Nat) (K : VX → VS → Prop) : VX → VS → Prop
  | .exit j, S => if j = id then K .normal S else K (.exit j) S
  | .normal, S => K .normal S
  | .ret, S => K .ret S
/-- S holds what T says: T may know less -/
def Sub (S T : VS) : Prop := ∀ B ρ a w, TM ρ w S.tm a → HR ZT B ρ S.hp S.nx w → ∃ ρ', TM ρ' w T.tm a ∧ HR ZT B ρ' T.hp T.nx w ∧ Ext ρ w ρ' w
def vloop (L : VS → (VX → VS → Prop) → Prop) (S : VS) (K : VX → VS → Prop) : Prop :=
  ∃ (I : VS → Prop) (μ : VS → Nat), (∃ T, Sub S T ∧ I T) ∧ ∀ S, I S → L S (fun e S' => match e with
    | .normal => ∃ T, Sub S' T ∧ I T ∧ μ T < μ S
    | .exit i => K (.exit i) S'
    | .ret => K .ret S')
def vcode (P : Program) : Code → VS → (VX → VS → Prop) → Prop
  | .skip, S, K => K .normal S
  | .label _, S, K => K .normal S
  | .region _ ops false, S, K => vlist P ops.toList ops.toList S (K .normal)
  | .region _ ops true, S, K => vdraw P ops S (K .normal)
  | .seq a b, S, K => vcode P a S (VX.seq (fun S' => vcode P b S' K) K)
  | .cond c a b, S, K => onV (ev S.tm c) fun v => match v with
    | .bool t => vif t (vcode P a S K) (vcode P b S K)
    | _ => False
  | .block id c, S, K => vcode P c S (VX.block id K)
  | .loop c, S, K => vloop (vcode P c) S K
  | .exit id, S, K => K (.exit id) S
  | .ret, S, K => K .ret S
  | .scope c, S, K => vcode P c S K
  | _, _, _ => False

structure SR (N B : Nat) (ρ0 : Names) (w0 : World) (S : VS) (a : Act) (w : World) (ρ : Names) : Prop where
  tm : TM ρ w S.tm a
  defers : a.defers = []
  size : a.tmps.size = N
  heap : HR ZT B ρ S.hp S.nx w
  below : Below B w0 w
  ext : Ext ρ0 w0 ρ w

section
variable {P : Program} {N B : Nat} {ρ0 ρ ρ' : Names} {w0 w w' : World} {a : Act}
theorem TM.ext {tm : Nat → VV} (h : TM ρ w tm a) (he : Ext ρ w ρ' w') : TM ρ' w' tm a := fun t => VR.ext he _ _ (h t)
theorem TM.put {tm : Nat → VV} (h : TM ρ w tm a) {d : Option Nat} {v : VV} {x : Value} (hd : ∀ t, d = some t → t < a.tmps.size) (hv : VR ρ w v x) : TM ρ w (V.put d v tm) (a.put d x) := by
  cases d with
  | none => exact h
  | some d =>
    intro t
    have := hd d rfl
    simp only [V.put,Act.put,upd_ap]
    by_cases e : t = d
    · subst e
      rw [if_pos rfl]
      simpa [Array.getD_eq_getD_getElem?, this] using hv
    · rw [if_neg e]
      have := h t
      simpa [Array.getD_eq_getD_getElem?, Array.getElem?_setIfInBounds_ne (Ne.symm e)] using this
theorem TM.upd {tm : Nat → VV} (h : TM ρ w tm a) {d : Nat} {v : VV} (hv : VR ρ w v (a.tmps.getD d undef)) : TM ρ w (V.upd tm d v) a := by
  intro t
  rw [upd_ap]
  split
  · rename_i e; rw [e]; exact hv
  · exact h t
theorem put_size (a : Act) (d : Option Nat) (x : Value) : (a.put d x).tmps.size = a.tmps.size ∧ (a.put d x).defers = a.defers := by
  cases d <;> simp [Act.put]
theorem wp_of_runs {B : Nat} {K : VV → Heap → Nat → Prop} {o : Oper} {Nx : Act → World → Prop} {Q : Exit → Act → World → Prop} (h : Runs P ZT B K ρ w (execOp a.eval o)) (next : ∀ x w', Good ZT B K ρ w x w' → Nx (a.put o.dst x) w') : o.wp P a w Nx Q := by
  unfold Oper.wp
  rcases h with ⟨x, w', hr, hg⟩ | ⟨w', hr, hg⟩ | ⟨f, xs, hr, hc⟩
  · rw [hr]; exact next x w' hg
  · rw [hr]; exact next _ w' hg
  · rw [hr]
    refine Calls.mono hc fun e w' he => ?_
    obtain ⟨x, rfl, hg⟩ := he
    exact next x w' hg
/-- one operation -/
theorem vstep_sound {ops : Array Oper} {o : Oper} {S : VS} {K : VS → Prop} {Nx : Act → World → Prop} {Q : Exit → Act → World → Prop} (hd : ∀ t, o.dst = some t → t < N) (h : vstep P ops.toList o S K) (hS : SR N B ρ0 w0 S a w ρ)
    (next : ∀ S' a' w' ρ', K S' → SR N B ρ0 w0 S' a' w' ρ' → Nx a' w') :
    if Region.wanted o (yielded ops a.tmps) = true then o.wp P a w Nx Q else Nx (a.put o.dst undef) w := by
  have hd' : ∀ t, o.dst = some t → t < a.tmps.size := fun t ht => by rw [hS.size]; exact hd t ht
  have go : ∀ (tm : Nat → VV), TM ρ w tm a → vop P (ev tm) S.hp S.nx (fun v H n' => K ⟨V.put o.dst v tm, H, n'⟩) o → o.wp P a w Nx Q := by
    intro tm hT hv
    refine wp_of_runs (vop_sound hT hS.heap hv) fun x w' hg => ?_
    obtain ⟨v, H', n', ρ', hk, hvr, hh, he, hb⟩ := hg
    have hz := put_size a o.dst x
    exact next _ _ _ ρ' hk ⟨(hT.ext he).put hd' hvr, by rw [hz.2]; exact hS.defers, by rw [hz.1]; exact hS.size, hh, hS.below.trans hb, hS.ext.trans he⟩
  have skip : ∀ (tm : Nat → VV), TM ρ w tm a → K ⟨V.put o.dst (.raw undef) tm, S.hp, S.nx⟩ → Nx (a.put o.dst undef) w := by
    intro tm hT hk
    have hz := put_size a o.dst undef
    exact next _ _ _ ρ hk ⟨hT.put hd' (by simp [VR, VR1, C1]), by rw [hz.2]; exact hS.defers, by rw [hz.1]; exact hS.size, hS.heap, hS.below, hS.ext⟩
  unfold vstep at h
  split at h
  · rename_i hg
    rw [if_pos (by simp [Region.wanted, hg])]
    exact go _ hS.tm h
  · rename_i j want hg
    replace h := bnd_iff.1 h
    obtain ⟨d, hdj, h⟩ := h
    rw [dstAt_eq, Array.getElem?_toList] at hdj
    have hyd : yielded ops a.tmps j = match a.tmps[d]? with | some (.bool b) => some b | _ => none := by
      unfold yielded
      rw [hdj]
      simp only [Option.bind_some]
      rfl
    have hT := hS.tm d
    unfold onV at h
    dsimp only at h
    split at h
    · rename_i b e
      rw [e] at hT
      have hb := hT.bool
      have hbd : a.tmps[d]? = some (.bool b) := by
        rw [Array.getD_eq_getD_getElem?] at hb
        cases hx : a.tmps[d]? with
        | none => rw [hx] at hb; simp [undef] at hb
        | some y => rw [hx] at hb; simp at hb; rw [hb]
      have hw : Region.wanted o (yielded ops a.tmps) = (b == want) := by
        simp only [Region.wanted,hg,hyd,hbd]
        cases b <;> cases want <;> rfl
      rw [hw]
      obtain ⟨h1, h2⟩ := h
      by_cases hbw : (b == want) = true
      · rw [if_pos hbw]
        have hbe : b = want := by simpa using hbw
        subst hbe
        exact go _ (hS.tm.upd (by rw [hb]; exact VR_bool)) (h1 hbw)
      · have hbf : (b == want) = false := by simpa using hbw
        rw [if_neg (by simp [hbf])]
        have hbe : b = !want := by cases b <;> cases want <;> simp_all
        subst hbe
        exact skip _ (hS.tm.upd (by rw [hb]; exact VR_bool)) (h2 hbf)
    · rename_i u e
      rw [e] at hT
      obtain ⟨rfl, h⟩ := h
      have hx : a.tmps.getD d undef = undef := by simpa [VR, VR1, C1] using hT
      have hw : Region.wanted o (yielded ops a.tmps) = false := by
        simp only [Region.wanted,hg,hyd]
        rw [Array.getD_eq_getD_getElem?] at hx
        cases hy : a.tmps[d]? with
        | none => cases want <;> rfl
        | some y =>
          rw [hy] at hx
          simp only [Option.getD_some] at hx
          subst hx
          cases want <;> rfl
      rw [hw, if_neg (by simp)]
      exact skip _ hS.tm h
    · exact h.elim
theorem vlist_sound {ops : Array Oper} {Q : Exit → Act → World → Prop} {K : VS → Prop} : ∀ (l : List Oper) (S : VS) (a : Act) (w : World) (ρ : Names), (∀ o ∈ l, ∀ t, o.dst = some t → t < N) → vlist P ops.toList l S K → SR N B ρ0 w0 S a w ρ →
    (∀ S' a' w' ρ', K S' → SR N B ρ0 w0 S' a' w' ρ' → Q .normal a' w') → wpList P ops Q l a w
  | [], S, a, w, ρ, _, h, hS, next => next S a w ρ h hS
  | o :: l, S, a, w, ρ, hd, h, hS, next => by
    refine wpList_step fun Kx hKx => ?_
    exact vstep_sound (hd o (by simp)) h hS fun S' a' w' ρ' hk hS' => hKx _ _ (vlist_sound l S' a' w' ρ' (fun o ho => hd o (by simp [ho])) hk hS' next)

/-! ### code -/
def VX.x : VX → Exit
  | .normal => .normal
  | .exit i => .exit i
  | .ret => .ret
/-- all slots that are written are the frame's -/
def codeOk (N : Nat) : Code → Bool
  | .region _ ops _ => ops.toList.all fun o => match o.dst with | some d => decide (d < N) | none => true
  | .seq a b => codeOk N a && codeOk N b
  | .cond _ a b => codeOk N a && codeOk N b
  | .block _ c => codeOk N c
  | .loop c => codeOk N c
  | .scope c => codeOk N c
  | _ => true
theorem least {p : Nat → Prop} (h : ∃ n, p n) : ∃ n, p n ∧ ∀ m, p m → n ≤ m := by
  obtain ⟨n, hn⟩ := h
  induction n using Nat.strongRecOn with
  | _ n ih =>
    by_cases hm : ∃ m, m < n ∧ p m
    · obtain ⟨m, h1, h2⟩ := hm
      exact ih m h1 h2
    · exact ⟨n, hn, fun m hp => by
        rcases Nat.lt_or_ge m n with h | h
        · exact absurd ⟨m, h, hp⟩ hm
        · exact h⟩
theorem wp_loop_rel {α : Type} {c : Code} {Q : Exit → Act → World → Prop} (I : α → Act → World → Prop) (μ : α → Nat) {s : α} (h0 : I s a w)
    (round : ∀ s a w, I s a w → c.wp P (Exit.then (fun a' w' => ∃ s', I s' a' w' ∧ μ s' < μ s) Q) a w) : (Code.loop c).wp P Q a w := by
  classical
  have hex : ∀ a w, (∃ s, I s a w) → ∃ n, (∃ s, I s a w ∧ μ s = n) ∧ ∀ m, (∃ s, I s a w ∧ μ s = m) → n ≤ m := fun a w ⟨s, hs⟩ => least ⟨μ s, s, hs, rfl⟩
  let m : Act → World → Nat := fun a w => if h : ∃ s, I s a w then Classical.choose (hex a w h) else 0
  refine wp_loop (fun a w => ∃ s, I s a w) m ⟨s, h0⟩ fun a w hI => ?_
  have hm : m a w = Classical.choose (hex a w hI) := by simp only [m]; rw [dif_pos hI]
  obtain ⟨⟨s, hs, hμ⟩, _⟩ := Classical.choose_spec (hex a w hI)
  refine Code.wp_mono (fun e a' w' hq => ?_) (round s a w hs)
  cases e with
  | normal =>
    obtain ⟨s', h1, h2⟩ := hq
    have hI' : ∃ s, I s a' w' := ⟨s', h1⟩
    refine ⟨hI', ?_⟩
    have hm' : m a' w' = Classical.choose (hex a' w' hI') := by simp only [m]; rw [dif_pos hI']
    rw [hm, hm', ← hμ]
    exact Nat.lt_of_le_of_lt ((Classical.choose_spec (hex a' w' hI')).2 _ ⟨s', h1, rfl⟩) h2
  | _ => exact hq
theorem vcode_sound : ∀ (c : Code) (S : VS) (a : Act) (w : World) (ρ : Names) (K : VX → VS → Prop) (Q : Exit → Act → World → Prop), codeOk N c = true → vcode P c S K → SR N B ρ0 w0 S a w ρ →
    (∀ e S' a' w' ρ', K e S' → SR N B ρ0 w0 S' a' w' ρ' → Q e.x a' w') → c.wp P Q a w
  | .skip, S, a, w, ρ, K, Q, _, h, hS, next => wp_skip (next .normal S a w ρ h hS)
  | .label _, S, a, w, ρ, K, Q, _, h, hS, next => wp_label (next .normal S a w ρ h hS)
  | .exit i, S, a, w, ρ, K, Q, _, h, hS, next => wp_exit (next (.exit i) S a w ρ h hS)
  | .ret, S, a, w, ρ, K, Q, _, h, hS, next => wp_ret (next .ret S a w ρ h hS)
  | .region id ops false, S, a, w, ρ, K, Q, hok, h, hS, next => by
    simp only [codeOk,List.all_eq_true] at hok
    exact wp_region_list (vlist_sound ops.toList S a w ρ (fun o ho t ht => by have := hok o ho; rw [ht] at this; simpa using this) h hS fun S' a' w' ρ' hk hS' => next .normal S' a' w' ρ' hk hS')
  | .region id ops true, S, a, w, ρ, K, Q, hok, h, hS, next => by
    simp only [codeOk,List.all_eq_true] at hok
    exact h id N B ρ0 w0 Q a w ρ (fun o ho t ht => by have := hok o ho; rw [ht] at this; simpa using this) hS.tm hS.defers hS.size hS.heap hS.below hS.ext fun S' a' w' ρ' hk h1 h2 h3 h4 h5 h6 => next .normal S' a' w' ρ' hk ⟨h1, h2, h3, h4, h5, h6⟩
  | .seq x y, S, a, w, ρ, K, Q, hok, h, hS, next => by
    simp only [codeOk,Bool.and_eq_true] at hok
    refine wp_seq (vcode_sound x S a w ρ _ _ hok.1 h hS fun e S' a' w' ρ' hk hS' => ?_)
    cases e with
    | normal => exact vcode_sound y S' a' w' ρ' K Q hok.2 hk hS' next
    | exit i => exact next (.exit i) S' a' w' ρ' hk hS'
    | ret => exact next .ret S' a' w' ρ' hk hS'
  | .cond c x y, S, a, w, ρ, K, Q, hok, h, hS, next => by
    simp only [codeOk,Bool.and_eq_true] at hok
    simp only [vcode,onV] at h
    have hc := ev_sound hS.tm c
    split at h
    · rename_i t e
      rw [e] at hc
      exact wp_cond_split hc.bool (fun ht => vcode_sound x S a w ρ K Q hok.1 (h.1 ht) hS next) (fun ht => vcode_sound y S a w ρ K Q hok.2 (h.2 ht) hS next)
    · exact h.elim
  | .block id c, S, a, w, ρ, K, Q, hok, h, hS, next => by
    refine wp_block (vcode_sound c S a w ρ _ _ hok h hS fun e S' a' w' ρ' hk hS' => ?_)
    cases e with
    | normal => exact next .normal S' a' w' ρ' hk hS'
    | ret => exact next .ret S' a' w' ρ' hk hS'
    | exit j =>
      simp only [VX.block] at hk
      show Exit.inBlock id Q (.exit j) a' w'
      unfold Exit.inBlock
      dsimp only
      split at hk
      · rename_i e; rw [if_pos e]; exact next .normal S' a' w' ρ' hk hS'
      · rename_i e; rw [if_neg e]; exact next (.exit j) S' a' w' ρ' hk hS'
  | .scope c, S, a, w, ρ, K, Q, hok, h, hS, next => by
    refine wp_scope_straight (vcode_sound c S a w ρ K _ hok h hS fun e S' a' w' ρ' hk hS' => ?_)
    have := next e S' a' w' ρ' hk hS'
    cases e <;> exact this
  | .loop c, S, a, w, ρ, K, Q, hok, h, hS, next => by
    obtain ⟨I, μ, ⟨T, hT, hI⟩, hround⟩ := h
    have sub : ∀ (S T : VS) (a : Act) (w : World) (ρ : Names), Sub S T → SR N B ρ0 w0 S a w ρ → ∃ ρ', SR N B ρ0 w0 T a w ρ' := by
      intro S T a w ρ hs hS
      obtain ⟨ρ', h1, h2, h3⟩ := hs B ρ a w hS.tm hS.heap
      exact ⟨ρ', h1, hS.defers, hS.size, h2, hS.below, hS.ext.trans h3⟩
    obtain ⟨ρ1, hS1⟩ := sub S T a w ρ hT hS
    refine wp_loop_rel (fun (s : VS) a w => I s ∧ ∃ ρ, SR N B ρ0 w0 s a w ρ) μ (s := T) ⟨hI, ρ1, hS1⟩ fun s a w hs => ?_
    obtain ⟨hIs, ρs, hSs⟩ := hs
    refine vcode_sound c s a w ρs _ _ hok (hround s hIs) hSs fun e S' a' w' ρ' hk hS' => ?_
    cases e with
    | normal =>
      obtain ⟨T', g1, g2, g3⟩ := hk
      obtain ⟨ρ2, hS2⟩ := sub S' T' a' w' ρ' g1 hS'
      exact ⟨T', ⟨g2, ρ2, hS2⟩, g3⟩
    | exit i => exact next (.exit i) S' a' w' ρ' hk hS'
    | ret => exact next .ret S' a' w' ρ' hk hS'
  | .rangeFunc _ _ _ _, _, _, _, _, _, _, _, h, _, _ => by simp [vcode] at h
  | .goto _, _, _, _, _, _, _, _, h, _, _ => by simp [vcode] at h
  | .refuse _, _, _, _, _, _, _, _, h, _, _ => by simp [vcode] at h
end
end Go.Proofs.Ytndbfphmjmhkjaa.V
