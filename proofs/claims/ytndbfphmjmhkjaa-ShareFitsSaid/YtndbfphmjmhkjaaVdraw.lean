/-
  A MACHINE OF VALUES, FIFTEENTH PART: operations of a region whose order is drawn: what they do hangs on nothing that others of the region do.
-/
import Derived.Test.YtndbfphmjmhkjaaVspec
set_option linter.unusedVariables false
set_option linter.unusedSectionVars false
set_option linter.unusedSimpArgs false
namespace Go.Proofs.Ytndbfphmjmhkjaa.V
open Go Go.RowKit

/-- a call of data, by what is known of the function -/
def HCall (P : Program) (H : Heap) (g : FuncId) (args : List VV) (r : VV) : Prop :=
  ∃ ds, Spec P g ds r ∧ args.all notTup = true ∧ ((RdL H args ds ∧ pl r = true) ∨ (ds = args ∧ nls args = true))
def vcallH (P : Program) (g : FuncId) (args : List VV) (H : Heap) (n : Nat) (K : VV → Heap → Nat → Prop) : Prop := ∃ r, HCall P H g args r ∧ K r H n
section
variable (P : Program) (e : Operand → VV) (H : Heap) (n : Nat) (K : VV → Heap → Nat → Prop)
def vCallH (f : Operand) (args : List Operand) : Prop := onV (e f) fun v => match v with
  | .fn g caps => cnd (callable P g = true) (vcallH P g (args.map e ++ caps) H n K)
  | _ => False
/-- append onto nothing -/
def vAppendH (ts : Array TypeId) (s x : Operand) : Prop := onV (e s) fun v => match v with
  | .sl none 0 => vAppend P e H n K ts s x
  | _ => False
/-- .. but for slices held against nil -/
def vBinH (op : BinOp) (t : TypeId) (x y : Operand) : Prop := onV (e x) fun v => match v with
  | .agg vs => onV (e y) fun u => match u with
    | .agg us => vEq P op t (.agg vs) (.agg us) fun b => K (.bool b) H n
    | _ => False
  | .bool a => onV (e y) fun u => match u with
    | .bool b => vEq P op t (.bool a) (.bool b) fun b => K (.bool b) H n
    | _ => False
  | .sl _ _ => False
  | .dat _ _ => False
  | _ => vBin e H n K op x y
/-- what an operation does, that may come up at any time -/
def vopH (o : Oper) : Prop := match o.op with
  | .move x => K (e x) H n
  | .assign x => K (e x) H n
  | .pick c a b => vPick e H n K c a b
  | .alloc t => vAlloc P H n K t
  | .box t x => vBox P e H n K t x
  | .build t parts => vBuild P e H n K t parts.toList
  | .buildSlice t len parts => vBuildSlice P e H n K t len parts.toList
  | .load t a => vLoad P e H n K t a
  | .nilCheck x => vNilCheck e H n K x
  | .binOp op t x y _ => vBinH P e H n K op t x y
  | .unOp op _ x => vUn e H n K op x
  | .convert s d x => vConv P e H n K s d x
  | .makeSlice t l c => vMakeSlice P e H n K t l c
  | .slice t x lo hi none => vSlice P e H n K t x lo hi
  | .fieldAddr t x f => vFieldAddr P e H n K t x f
  | .field t x f => vField P e H n K t x f
  | .indexAddr t x i => vIndexAddr P e H n K t x i
  | .index t x i => vIndex P e H n K t x i
  | .extract x i => vExtract e H n K x i
  | .sliceToArrayPointer t x => vArrPtr P e H n K t x
  | .call c => match c.callee with
    | .value f => vCallH P e H n K f c.args.toList
    | .builtin b => match b, c.args.toList with
      | .len, [x] => vLen P e H n K c.argTypes x
      | .append, [s, x] => cnd (c.argTypes.size = 2) (vAppendH P e H n K c.argTypes s x)
      | .min, [x, y] => vMin e H n K x y
      | .max, [x, y] => vMax e H n K x y
      | _, _ => False
    | _ => False
  | _ => False
end
/-- the same outcome in every greater heap -/
def Stb (F : (Operand → VV) → Heap → (VV → Heap → Nat → Prop) → Prop) (xs : List Operand) (e : Operand → VV) (H : Heap) (n : Nat) (v : VV) (H' : Heap) (n' : Nat) : Prop :=
  n ≤ n' ∧ (∀ m b, H m = some b → H' m = some b) ∧ (∀ m, m < n ∨ n' ≤ m → H' m = H m) ∧ ∀ e' G K', (∀ x ∈ xs, e' x = e x) → (∀ m b, H' m = some b → G m = some b) → K' v G n' → F e' G K'
theorem Stb.same {F : (Operand → VV) → Heap → (VV → Heap → Nat → Prop) → Prop} {xs : List Operand} {e : Operand → VV} {H : Heap} {n : Nat} {v : VV}
    (h : ∀ e' G K', (∀ x ∈ xs, e' x = e x) → (∀ m b, H m = some b → G m = some b) → K' v G n → F e' G K') : Stb F xs e H n v H n := ⟨Nat.le_refl _, fun _ _ h => h, fun _ _ => rfl, h⟩
theorem upd_self {G : Heap} {n : Nat} {b : Blk} (h : G n = some b) : upd G n (some b) = G := by
  funext m
  rw [upd_ap]
  split
  · rename_i e; rw [e, h]
  · rfl
theorem Stb.new {F : (Operand → VV) → Heap → (VV → Heap → Nat → Prop) → Prop} {xs : List Operand} {e : Operand → VV} {H : Heap} {n : Nat} {v : VV} {b : Blk} (hn : H n = none)
    (h : ∀ e' G K', (∀ x ∈ xs, e' x = e x) → (∀ m b, H m = some b → G m = some b) → K' v (upd G n (some b)) (n + 1) → F e' G K') : Stb F xs e H n v (upd H n (some b)) (n + 1) := by
  have hle : ∀ m b', H m = some b' → (upd H n (some b)) m = some b' := fun m b' hm => by
    rw [upd_ap, if_neg (by intro e; rw [e, hn] at hm; cases hm)]; exact hm
  refine ⟨Nat.le_succ _, hle, fun m hm => by rw [upd_ap, if_neg (by omega)], fun e' G K' he hG hk => h e' G K' he (fun m b' hm => hG m b' (hle m b' hm)) ?_⟩
  rw [upd_self (hG n b (by rw [upd_ap, if_pos rfl]))]
  exact hk
section
variable {P : Program} {e : Operand → VV} {H : Heap} {n : Nat} {K : VV → Heap → Nat → Prop}
/-- what stability asks of an operation -/
def Out (F : (Operand → VV) → Heap → (VV → Heap → Nat → Prop) → Prop) (xs : List Operand) (e : Operand → VV) (H : Heap) (n : Nat) (K : VV → Heap → Nat → Prop) : Prop := ∃ v H' n', K v H' n' ∧ Stb F xs e H n v H' n'
theorem st_move (x : Operand) (h : K (e x) H n) : Out (fun e H K => K (e x) H n) [x] e H n K :=
  ⟨_, _, _, h, Stb.same fun e' G K' he hG hk => by show K' (e' x) G n; rw [he x (by simp)]; exact hk⟩
theorem st_pick (c a b : Operand) (h : vPick e H n K c a b) : Out (fun e H K => vPick e H n K c a b) [c, a, b] e H n K := by
  unfold vPick onV at h
  dsimp only at h
  split at h
  · rename_i t et
    cases t with
    | true => exact ⟨_, _, _, h.1 rfl, Stb.same fun e' G K' he hG hk => by show vPick e' G n K' c a b; unfold vPick onV; rw [he c (by simp), he a (by simp), et]; exact ⟨fun _ => hk, fun h => by cases h⟩⟩
    | false => exact ⟨_, _, _, h.2 rfl, Stb.same fun e' G K' he hG hk => by show vPick e' G n K' c a b; unfold vPick onV; rw [he c (by simp), he b (by simp), et]; exact ⟨fun h => (by cases h), fun _ => hk⟩⟩
  · exact h.elim
theorem st_load (t : TypeId) (a : Operand) (h : vLoad P e H n K t a) : Out (fun e H K => vLoad P e H n K t a) [a] e H n K := by
  unfold vLoad onV at h
  dsimp only at h
  split at h
  · rename_i m p ea
    obtain ⟨blk, hb, h⟩ := bnd_iff.1 h
    cases blk with
    | map es => exact h.elim
    | row s c =>
      obtain ⟨h1, h⟩ := h
      obtain ⟨u, hu, h⟩ := bnd_iff.1 h
      exact ⟨_, _, _, h, Stb.same fun e' G K' he hG hk => by
        show vLoad P e' G n K' t a
        unfold vLoad onV
        rw [he a (by simp), ea]
        exact bnd_intro (hG m _ hb) ⟨h1, bnd_intro hu hk⟩⟩
  · rename_i s u ea
    obtain ⟨h1, h⟩ := h
    exact ⟨_, _, _, h, Stb.same fun e' G K' he hG hk => by
      show vLoad P e' G n K' t a
      unfold vLoad onV
      rw [he a (by simp), ea]
      exact ⟨h1, hk⟩⟩
  · exact h.elim
theorem st_box (hn : H n = none) (t : TypeId) (x : Operand) (h : vBox P e H n K t x) : Out (fun e H K => vBox P e H n K t x) [x] e H n K := by
  unfold vBox at h
  obtain ⟨s, hs, h1, h⟩ := bnd_iff.1 h
  exact ⟨_, _, _, h, Stb.new hn fun e' G K' he hG hk => by
    show vBox P e' G n K' t x
    unfold vBox
    rw [he x (by simp)]
    exact bnd_intro hs ⟨h1, hk⟩⟩
theorem st_alloc (hn : H n = none) (t : TypeId) (h : vAlloc P H n K t) : Out (fun e H K => vAlloc P H n K t) [] e H n K := by
  unfold vAlloc at h
  obtain ⟨s, hs, h⟩ := bnd_iff.1 h
  obtain ⟨z, hz, h⟩ := bnd_iff.1 h
  exact ⟨_, _, _, h, Stb.new hn fun e' G K' he hG hk => bnd_intro hs (bnd_intro hz hk)⟩
theorem setParts_congr {e e' : Operand → VV} : ∀ (ps : List (Nat × Operand)) (zs : List VV), (∀ x ∈ ps.map (·.2), e' x = e x) → setParts e' ps zs = setParts e ps zs
  | [], zs, _ => rfl
  | (i, x) :: ps, zs, h => by
    simp only [setParts]
    rw [h x (by simp), setParts_congr ps _ fun y hy => h y (by simp at hy ⊢; exact .inr hy)]
theorem HasParts_congr {e e' : Operand → VV} (f : Nat → Option Sh) : ∀ (ps : List (Nat × Operand)), (∀ x ∈ ps.map (·.2), e' x = e x) → HasParts e f ps → HasParts e' f ps
  | [], _, _ => trivial
  | (i, x) :: ps, h, hp => by
    simp only [HasParts] at hp ⊢
    rw [h x (by simp)]
    exact ⟨hp.1, HasParts_congr f ps (fun y hy => h y (by simp at hy ⊢; exact .inr hy)) hp.2⟩
theorem st_build (t : TypeId) (ps : List (Nat × Operand)) (h : vBuild P e H n K t ps) : Out (fun e H K => vBuild P e H n K t ps) (ps.map (·.2)) e H n K := by
  unfold vBuild at h
  obtain ⟨s, hs, h⟩ := bnd_iff.1 h
  obtain ⟨z, hz, h⟩ := bnd_iff.1 h
  split at h
  · obtain ⟨h1, h⟩ := h
    exact ⟨_, _, _, h, Stb.same fun e' G K' he hG hk => bnd_intro hs (bnd_intro hz ⟨HasParts_congr _ _ he h1, by rw [setParts_congr _ _ he]; exact hk⟩)⟩
  · obtain ⟨h1, h⟩ := h
    exact ⟨_, _, _, h, Stb.same fun e' G K' he hG hk => bnd_intro hs (bnd_intro hz ⟨HasParts_congr _ _ he h1, by rw [setParts_congr _ _ he]; exact hk⟩)⟩
  · exact h.elim
theorem st_buildSlice (hn : H n = none) (t : TypeId) (len : Nat) (ps : List (Nat × Operand)) (h : vBuildSlice P e H n K t len ps) : Out (fun e H K => vBuildSlice P e H n K t len ps) (ps.map (·.2)) e H n K := by
  unfold vBuildSlice at h
  obtain ⟨et, het, h⟩ := bnd_iff.1 h
  obtain ⟨s, hs, h⟩ := bnd_iff.1 h
  obtain ⟨z, hz, h1, h⟩ := bnd_iff.1 h
  exact ⟨_, _, _, h, Stb.new hn fun e' G K' he hG hk => bnd_intro het (bnd_intro hs (bnd_intro hz ⟨⟨HasParts_congr _ _ he h1.1, h1.2⟩, by rw [setParts_congr _ _ he]; exact hk⟩))⟩
theorem st_makeSlice (hn : H n = none) (t : TypeId) (l c : Operand) (h : vMakeSlice P e H n K t l c) : Out (fun e H K => vMakeSlice P e H n K t l c) [l, c] e H n K := by
  unfold vMakeSlice onV at h
  dsimp only at h
  split at h
  · rename_i k1 i k2 j e1 e2
    obtain ⟨et, het, h⟩ := bnd_iff.1 h
    obtain ⟨s, hs, h⟩ := bnd_iff.1 h
    obtain ⟨z, hz, h1, h⟩ := bnd_iff.1 h
    exact ⟨_, _, _, h, Stb.new hn fun e' G K' he hG hk => by
      show vMakeSlice P e' G n K' t l c
      unfold vMakeSlice onV
      rw [he l (by simp), he c (by simp), e1, e2]
      exact bnd_intro het (bnd_intro hs (bnd_intro hz ⟨h1, hk⟩))⟩
  · exact h.elim
theorem st_un (op : UnOp) (x : Operand) (h : vUn e H n K op x) : Out (fun e H K => vUn e H n K op x) [x] e H n K := by
  unfold vUn onV at h
  dsimp only at h
  split at h <;> first
    | exact h.elim
    | (rename_i ex; exact ⟨_, _, _, h, Stb.same fun e' G K' he hG hk => by show vUn e' G n K' _ x; unfold vUn onV; rw [he x (by simp), ex]; exact hk⟩)
theorem vbin_any (op : BinOp) (x y : VV) (K : VV → Prop) (h : vbin op x y K) : ∃ v, K v ∧ ∀ K' : VV → Prop, K' v → vbin op x y K' := by
  unfold vbin at h ⊢
  split at h
  · cases op <;> dsimp only at h ⊢ <;> exact ⟨_, h.2, fun K' hk => ⟨h.1, hk⟩⟩
  · split at h <;> first
      | exact h.elim
      | exact ⟨_, h.2, fun K' hk => ⟨h.1, hk⟩⟩
      | exact ⟨_, h, fun K' hk => hk⟩
  · exact h.elim
theorem st_bin (op : BinOp) (x y : Operand) (h : vBin e H n K op x y) : Out (fun e H K => vBin e H n K op x y) [x, y] e H n K := by
  unfold vBin onV at h
  obtain ⟨v, h1, h2⟩ := vbin_any _ _ _ _ h
  exact ⟨v, _, _, h1, Stb.same fun e' G K' he hG hk => by show vBin e' G n K' op x y; unfold vBin onV; rw [he x (by simp), he y (by simp)]; exact h2 _ hk⟩
theorem vEq_any (op : BinOp) (t : TypeId) (v u : VV) (k : Bool → Prop) (h : vEq P op t v u k) : ∃ b, k b ∧ ∀ k' : Bool → Prop, k' b → vEq P op t v u k' := by
  unfold vEq at h ⊢
  obtain ⟨q, hq, h1, h⟩ := bnd_iff.1 h
  cases op <;> dsimp only at h ⊢ <;> first
    | exact h.elim
    | exact ⟨_, h, fun k' hk => bnd_intro hq ⟨h1, hk⟩⟩
theorem st_binH (op : BinOp) (t : TypeId) (x y : Operand) (h : vBinH P e H n K op t x y) : Out (fun e H K => vBinH P e H n K op t x y) [x, y] e H n K := by
  unfold vBinH onV at h
  dsimp only at h
  generalize ex : e x = v at h
  split at h
  · split at h
    · rename_i us ey
      obtain ⟨b, h1, h2⟩ := vEq_any _ _ _ _ _ h
      exact ⟨_, _, _, h1, Stb.same fun e' G K' he hG hk => by show vBinH P e' G n K' op t x y; unfold vBinH onV; rw [he x (by simp), he y (by simp), ex, ey]; exact h2 _ hk⟩
    · exact h.elim
  · split at h
    · rename_i us ey
      obtain ⟨b, h1, h2⟩ := vEq_any _ _ _ _ _ h
      exact ⟨_, _, _, h1, Stb.same fun e' G K' he hG hk => by show vBinH P e' G n K' op t x y; unfold vBinH onV; rw [he x (by simp), he y (by simp), ex, ey]; exact h2 _ hk⟩
    · exact h.elim
  · exact h.elim
  · exact h.elim
  · rename_i n1 n4 n2 n3
    obtain ⟨v, H', n', h1, h2, h3, h4, h5⟩ := st_bin op x y h
    refine ⟨v, H', n', h1, h2, h3, h4, fun e' G K' he hG hk => ?_⟩
    have := h5 e' G K' he hG hk
    show vBinH P e' G n K' op t x y
    unfold vBinH onV
    dsimp only
    rw [he x (by simp), ex]
    split
    · exact absurd rfl (n1 _)
    · exact absurd rfl (n4 _)
    · exact absurd rfl (n2 _ _)
    · exact absurd rfl (n3 _ _)
    · exact this
theorem vBinH_X {op : BinOp} {t : TypeId} {x y : Operand} (h : vBinH P e H n K op t x y) : vBinX P e H n K op t x y := by
  unfold vBinH onV at h
  unfold vBinX onV
  dsimp only at h ⊢
  generalize ex : e x = v at h ⊢
  cases v <;> first
    | exact h.elim
    | exact h
theorem st_max (x y : Operand) (h : vMax e H n K x y) : Out (fun e H K => vMax e H n K x y) [x, y] e H n K := by
  unfold vMax onV at h
  dsimp only at h
  split at h
  · rename_i k i k' j ex ey
    obtain ⟨h1, h⟩ := h
    exact ⟨_, _, _, h, Stb.same fun e' G K' he hG hk => by show vMax e' G n K' x y; unfold vMax onV; rw [he x (by simp), he y (by simp), ex, ey]; exact ⟨h1, hk⟩⟩
  · exact h.elim
theorem st_arrPtr (t : TypeId) (x : Operand) (h : vArrPtr P e H n K t x) : Out (fun e H K => vArrPtr P e H n K t x) [x] e H n K := by
  unfold vArrPtr onV at h
  dsimp only at h
  split at h
  · rename_i s els ex
    obtain ⟨sa, hsa, h⟩ := bnd_iff.1 h
    split at h
    · obtain ⟨h1, h⟩ := h
      exact ⟨_, _, _, h, Stb.same fun e' G K' he hG hk => by show vArrPtr P e' G n K' t x; unfold vArrPtr onV; rw [he x (by simp), ex]; exact bnd_intro hsa ⟨h1, hk⟩⟩
    · exact h.elim
  · rename_i m len ex
    obtain ⟨sa, hsa, h⟩ := bnd_iff.1 h
    obtain ⟨b, hb, h⟩ := bnd_iff.1 h
    split at h
    · obtain ⟨h1, h⟩ := h
      exact ⟨_, _, _, h, Stb.same fun e' G K' he hG hk => by show vArrPtr P e' G n K' t x; unfold vArrPtr onV; rw [he x (by simp), ex]; exact bnd_intro hsa (bnd_intro (hG _ _ hb) ⟨h1, hk⟩)⟩
    · exact h.elim
  · exact h.elim
theorem st_field (t : TypeId) (x : Operand) (f : Nat) (h : vField P e H n K t x f) : Out (fun e H K => vField P e H n K t x f) [x] e H n K := by
  unfold vField onV at h
  dsimp only at h
  split at h
  · rename_i vs ex
    obtain ⟨s, hs, h1, h⟩ := bnd_iff.1 h
    cases s with
    | st ls =>
      obtain ⟨u, hu, h⟩ := bnd_iff.1 h
      exact ⟨_, _, _, h, Stb.same fun e' G K' he hG hk => by show vField P e' G n K' t x f; unfold vField onV; rw [he x (by simp), ex]; exact bnd_intro hs ⟨h1, bnd_intro hu hk⟩⟩
    | cell => exact h.elim
    | arr _ _ => exact h.elim
  · exact h.elim
theorem st_extract (x : Operand) (i : Nat) (h : vExtract e H n K x i) : Out (fun e H K => vExtract e H n K x i) [x] e H n K := by
  unfold vExtract onV at h
  dsimp only at h
  split at h
  · rename_i vs ex
    obtain ⟨u, hu, h⟩ := bnd_iff.1 h
    exact ⟨_, _, _, h, Stb.same fun e' G K' he hG hk => by show vExtract e' G n K' x i; unfold vExtract onV; rw [he x (by simp), ex]; exact bnd_intro hu hk⟩
  · exact h.elim
theorem st_fieldAddr (t : TypeId) (x : Operand) (f : Nat) (h : vFieldAddr P e H n K t x f) : Out (fun e H K => vFieldAddr P e H n K t x f) [x] e H n K := by
  unfold vFieldAddr onV at h
  dsimp only at h
  split at h
  · rename_i m p ex
    obtain ⟨blk, hb, h⟩ := bnd_iff.1 h
    cases blk with
    | map es => exact h.elim
    | row s c =>
      obtain ⟨st, hst, h1, h⟩ := bnd_iff.1 h
      cases st with
      | st ls =>
        obtain ⟨sf, hsf, h2, h⟩ := bnd_iff.1 h
        exact ⟨_, _, _, h, Stb.same fun e' G K' he hG hk => by show vFieldAddr P e' G n K' t x f; unfold vFieldAddr onV; rw [he x (by simp), ex]; exact bnd_intro (hG m _ hb) (bnd_intro hst ⟨h1, bnd_intro hsf ⟨h2, hk⟩⟩)⟩
      | cell => exact h.elim
      | arr _ _ => exact h.elim
  · rename_i s vs ex
    obtain ⟨st, hst, h1, h⟩ := bnd_iff.1 h
    cases st with
    | st ls =>
      obtain ⟨sf, hsf, h2, h⟩ := bnd_iff.1 h
      obtain ⟨u, hu, h⟩ := bnd_iff.1 h
      exact ⟨_, _, _, h, Stb.same fun e' G K' he hG hk => by show vFieldAddr P e' G n K' t x f; unfold vFieldAddr onV; rw [he x (by simp), ex]; exact bnd_intro hst ⟨h1, bnd_intro hsf ⟨h2, bnd_intro hu hk⟩⟩⟩
    | cell => exact h.elim
    | arr _ _ => exact h.elim
  · exact h.elim
theorem st_indexAddr (t : TypeId) (x i : Operand) (h : vIndexAddr P e H n K t x i) : Out (fun e H K => vIndexAddr P e H n K t x i) [x, i] e H n K := by
  unfold vIndexAddr onV at h
  dsimp only at h
  split at h
  · rename_i m p i0 len kk k ex ei
    obtain ⟨blk, hb, h⟩ := bnd_iff.1 h
    cases blk with
    | map es => exact h.elim
    | row s c =>
      obtain ⟨et, het, h⟩ := bnd_iff.1 h
      obtain ⟨se, hse, h⟩ := bnd_iff.1 h
      obtain ⟨sa, hsa, h⟩ := bnd_iff.1 h
      cases sa with
      | arr j s' =>
        obtain ⟨h1, h2, h⟩ := h
        exact ⟨_, _, _, h, Stb.same fun e' G K' he hG hk => by show vIndexAddr P e' G n K' t x i; unfold vIndexAddr onV; rw [he x (by simp), he i (by simp), ex, ei]; exact bnd_intro (hG m _ hb) (bnd_intro het (bnd_intro hse (bnd_intro hsa ⟨h1, h2, hk⟩)))⟩
      | cell => exact h.elim
      | st _ => exact h.elim
  · rename_i s els kk k ex ei
    obtain ⟨et, het, h⟩ := bnd_iff.1 h
    obtain ⟨se, hse, h1, h2, h⟩ := bnd_iff.1 h
    obtain ⟨u, hu, h⟩ := bnd_iff.1 h
    exact ⟨_, _, _, h, Stb.same fun e' G K' he hG hk => by show vIndexAddr P e' G n K' t x i; unfold vIndexAddr onV; rw [he x (by simp), he i (by simp), ex, ei]; exact bnd_intro het (bnd_intro hse ⟨h1, h2, bnd_intro hu hk⟩)⟩
  · rename_i m p kk k ex ei
    obtain ⟨blk, hb, h⟩ := bnd_iff.1 h
    cases blk with
    | map es => exact h.elim
    | row s c =>
      obtain ⟨st, hst, h1, h⟩ := bnd_iff.1 h
      cases st with
      | arr len s' =>
        obtain ⟨h2, h⟩ := h
        exact ⟨_, _, _, h, Stb.same fun e' G K' he hG hk => by show vIndexAddr P e' G n K' t x i; unfold vIndexAddr onV; rw [he x (by simp), he i (by simp), ex, ei]; exact bnd_intro (hG m _ hb) (bnd_intro hst ⟨h1, h2, hk⟩)⟩
      | cell => exact h.elim
      | st _ => exact h.elim
  · rename_i s vs kk k ex ei
    obtain ⟨st, hst, h1, h⟩ := bnd_iff.1 h
    cases st with
    | arr len s' =>
      obtain ⟨h2, h⟩ := h
      obtain ⟨u, hu, h⟩ := bnd_iff.1 h
      exact ⟨_, _, _, h, Stb.same fun e' G K' he hG hk => by show vIndexAddr P e' G n K' t x i; unfold vIndexAddr onV; rw [he x (by simp), he i (by simp), ex, ei]; exact bnd_intro hst ⟨h1, h2, bnd_intro hu hk⟩⟩
    | cell => exact h.elim
    | st _ => exact h.elim
  · exact h.elim
theorem st_index (t : TypeId) (x i : Operand) (h : vIndex P e H n K t x i) : Out (fun e H K => vIndex P e H n K t x i) [x, i] e H n K := by
  unfold vIndex onV at h
  dsimp only at h
  split at h
  · rename_i s kk k ex ei
    obtain ⟨u, hu, h⟩ := bnd_iff.1 h
    cases u <;> first | exact h.elim | skip
    obtain ⟨h1, h⟩ := h
    exact ⟨_, _, _, h, Stb.same fun e' G K' he hG hk => by show vIndex P e' G n K' t x i; unfold vIndex onV; rw [he x (by simp), he i (by simp), ex, ei]; exact bnd_intro hu ⟨h1, hk⟩⟩
  · rename_i vs kk k ex ei
    obtain ⟨st, hst, h1, h⟩ := bnd_iff.1 h
    cases st with
    | arr len s' =>
      obtain ⟨h2, h⟩ := h
      obtain ⟨u, hu, h⟩ := bnd_iff.1 h
      exact ⟨_, _, _, h, Stb.same fun e' G K' he hG hk => by show vIndex P e' G n K' t x i; unfold vIndex onV; rw [he x (by simp), he i (by simp), ex, ei]; exact bnd_intro hst ⟨h1, h2, bnd_intro hu hk⟩⟩
    | cell => exact h.elim
    | st _ => exact h.elim
  · exact h.elim
theorem st_nilCheck (x : Operand) (h : vNilCheck e H n K x) : Out (fun e H K => vNilCheck e H n K x) [x] e H n K := by
  unfold vNilCheck onV at h
  dsimp only at h
  split at h <;> first
    | exact h.elim
    | (rename_i ex; exact ⟨_, _, _, h, Stb.same fun e' G K' he hG hk => by show vNilCheck e' G n K' x; unfold vNilCheck onV; rw [he x (by simp), ex]; exact hk⟩)
theorem st_len (ts : Array TypeId) (x : Operand) (h : vLen P e H n K ts x) : Out (fun e H K => vLen P e H n K ts x) [x] e H n K := by
  unfold vLen onV at h
  dsimp only at h
  obtain ⟨t, ht, h⟩ := bnd_iff.1 h
  obtain ⟨u, hu, h⟩ := bnd_iff.1 h
  generalize ex : e x = v at h
  split at h <;> first
    | exact h.elim
    | exact ⟨_, _, _, h, Stb.same fun e' G K' he hG hk => by show vLen P e' G n K' ts x; unfold vLen onV; rw [he x (by simp), ex]; exact bnd_intro ht (bnd_intro hu hk)⟩
theorem st_min (x y : Operand) (h : vMin e H n K x y) : Out (fun e H K => vMin e H n K x y) [x, y] e H n K := by
  unfold vMin onV at h
  dsimp only at h
  split at h
  · rename_i k i k' j ex ey
    obtain ⟨h1, h⟩ := h
    exact ⟨_, _, _, h, Stb.same fun e' G K' he hG hk => by show vMin e' G n K' x y; unfold vMin onV; rw [he x (by simp), he y (by simp), ex, ey]; exact ⟨h1, hk⟩⟩
  · exact h.elim
theorem lohi_any (lo hi : Option VV) (len : Nat) (k : Nat → Nat → Prop) (h : lohi lo hi len k) : ∃ i j, k i j ∧ ∀ k' : Nat → Nat → Prop, k' i j → lohi lo hi len k' := by
  unfold lohi onV at h ⊢
  split at h
  · exact ⟨_, _, h, fun k' hk => hk⟩
  · dsimp only at h ⊢
    split at h
    · exact ⟨_, _, h.2, fun k' hk => ⟨h.1, hk⟩⟩
    · exact h.elim
  · dsimp only at h ⊢
    split at h
    · exact ⟨_, _, h.2, fun k' hk => ⟨h.1, hk⟩⟩
    · exact h.elim
  · dsimp only at h ⊢
    split at h
    · exact ⟨_, _, h.2, fun k' hk => ⟨h.1, hk⟩⟩
    · exact h.elim
theorem map_congr (e e' : Operand → VV) (o : Option Operand) (h : ∀ x ∈ o.toList, e' x = e x) : o.map e' = o.map e := by
  cases o with
  | none => rfl
  | some x => simp only [Option.map_some]; rw [h x (by simp)]
theorem st_slice (t : TypeId) (x : Operand) (lo hi : Option Operand) (h : vSlice P e H n K t x lo hi) : Out (fun e H K => vSlice P e H n K t x lo hi) (x :: (lo.toList ++ hi.toList)) e H n K := by
  unfold vSlice onV at h
  dsimp only at h
  have hlo : ∀ e' : Operand → VV, (∀ y ∈ x :: (lo.toList ++ hi.toList), e' y = e y) → lo.map e' = lo.map e := fun e' he => map_congr e e' lo fun y hy => he y (by simp at hy ⊢; exact .inr (.inl hy))
  have hhi : ∀ e' : Operand → VV, (∀ y ∈ x :: (lo.toList ++ hi.toList), e' y = e y) → hi.map e' = hi.map e := fun e' he => map_congr e e' hi fun y hy => he y (by simp at hy ⊢; exact .inr (.inr hy))
  split at h
  · rename_i s ex
    obtain ⟨u, hu, h⟩ := bnd_iff.1 h
    cases u <;> first | exact h.elim | skip
    obtain ⟨i, j, h1, h2⟩ := lohi_any _ _ _ _ h
    exact ⟨_, _, _, h1, Stb.same fun e' G K' he hG hk => by show vSlice P e' G n K' t x lo hi; unfold vSlice onV; rw [he x (by simp), ex]; exact bnd_intro hu (by dsimp only; rw [hlo e' he, hhi e' he]; exact h2 _ hk)⟩
  · rename_i m p i0 len ex
    obtain ⟨blk, hb, h⟩ := bnd_iff.1 h
    cases blk with
    | map es => exact h.elim
    | row s c =>
      obtain ⟨et, het, h⟩ := bnd_iff.1 h
      obtain ⟨se, hse, h⟩ := bnd_iff.1 h
      obtain ⟨sa, hsa, h⟩ := bnd_iff.1 h
      cases sa with
      | arr j s' =>
        obtain ⟨h0, h⟩ := h
        obtain ⟨i, j, h1, h2⟩ := lohi_any _ _ _ _ h
        exact ⟨_, _, _, h1, Stb.same fun e' G K' he hG hk => by show vSlice P e' G n K' t x lo hi; unfold vSlice onV; rw [he x (by simp), ex]; exact bnd_intro (hG m _ hb) (bnd_intro het (bnd_intro hse (bnd_intro hsa ⟨h0, by rw [hlo e' he, hhi e' he]; exact h2 _ hk⟩)))⟩
      | cell => exact h.elim
      | st _ => exact h.elim
  · rename_i s els ex
    obtain ⟨et, het, h⟩ := bnd_iff.1 h
    obtain ⟨se, hse, h0, h⟩ := bnd_iff.1 h
    obtain ⟨i, j, h1, h2⟩ := lohi_any _ _ _ _ h
    exact ⟨_, _, _, h1, Stb.same fun e' G K' he hG hk => by show vSlice P e' G n K' t x lo hi; unfold vSlice onV; rw [he x (by simp), ex]; exact bnd_intro het (bnd_intro hse ⟨h0, by rw [hlo e' he, hhi e' he]; exact h2 _ hk⟩)⟩
  · rename_i m p ex
    obtain ⟨blk, hb, h⟩ := bnd_iff.1 h
    cases blk with
    | map es => exact h.elim
    | row s c =>
      obtain ⟨st, hst, h0, h⟩ := bnd_iff.1 h
      cases st with
      | arr len s' =>
        obtain ⟨u, hu, h⟩ := bnd_iff.1 h
        obtain ⟨i, j, h1, h2⟩ := lohi_any _ _ _ _ h
        exact ⟨_, _, _, h1, Stb.same fun e' G K' he hG hk => by show vSlice P e' G n K' t x lo hi; unfold vSlice onV; rw [he x (by simp), ex]; exact bnd_intro (hG m _ hb) (bnd_intro hst ⟨h0, bnd_intro hu (by rw [hlo e' he, hhi e' he]; exact h2 _ hk)⟩)⟩
      | cell => exact h.elim
      | st _ => exact h.elim
  · rename_i s vs ex
    obtain ⟨st, hst, h0, h⟩ := bnd_iff.1 h
    cases st with
    | arr len s' =>
      obtain ⟨i, j, h1, h2⟩ := lohi_any _ _ _ _ h
      exact ⟨_, _, _, h1, Stb.same fun e' G K' he hG hk => by show vSlice P e' G n K' t x lo hi; unfold vSlice onV; rw [he x (by simp), ex]; exact bnd_intro hst ⟨h0, by dsimp only; rw [hlo e' he, hhi e' he]; exact h2 _ hk⟩⟩
    | cell => exact h.elim
    | st _ => exact h.elim
  · exact h.elim
theorem srcOf_any (se : Sh) (u : TypeDesc) (v : VV) (k : List VV → Option Nat → Prop) (h : srcOf H se u v k) : ∃ news m, k news m ∧ ∀ (G : Heap) (k' : List VV → Option Nat → Prop), (∀ m b, H m = some b → G m = some b) → k' news m → srcOf G se u v k' := by
  unfold srcOf onV at h ⊢
  dsimp only at h ⊢
  split at h
  · exact ⟨_, _, h, fun G k' hG hk => hk⟩
  · rename_i el m p i len
    obtain ⟨blk, hb, h⟩ := bnd_iff.1 h
    cases blk with
    | map es => exact h.elim
    | row s c =>
      obtain ⟨h0, h⟩ := h
      obtain ⟨c', hc, h⟩ := bnd_iff.1 h
      cases c' <;> first | exact h.elim | skip
      exact ⟨_, _, h.2, fun G k' hG hk => bnd_intro (hG _ _ hb) ⟨h0, bnd_intro hc ⟨h.1, hk⟩⟩⟩
  · exact ⟨_, _, h.2, fun G k' hG hk => ⟨h.1, hk⟩⟩
  · exact ⟨_, _, h.2, fun G k' hG hk => ⟨h.1, hk⟩⟩
  · exact h.elim
theorem st_conv (hn : H n = none) (s d : TypeId) (x : Operand) (h : vConv P e H n K s d x) : Out (fun e H K => vConv P e H n K s d x) [x] e H n K := by
  unfold vConv onV at h
  dsimp only at h
  have str : ∀ v, e x = v → (∀ (e' : Operand → VV) G K', e' x = v → vToStr P e' G n K' s d x → vConv P e' G n K' s d x) → vToStr P e H n K s d x → Out (fun e H K => vConv P e H n K s d x) [x] e H n K := by
    intro v ex hv h
    unfold vToStr at h
    obtain ⟨es, hes, h⟩ := bnd_iff.1 h
    obtain ⟨eu, heu, h⟩ := bnd_iff.1 h
    obtain ⟨ud, hud, h⟩ := bnd_iff.1 h
    split at h
    · obtain ⟨news, m, h1, h2⟩ := srcOf_any _ _ _ _ h
      obtain ⟨l, hl, h1⟩ := bnd_iff.1 h1
      refine ⟨_, _, _, h1, Stb.same fun e' G K' he hG hk => hv e' G K' (by rw [he x (by simp), ex]) ?_⟩
      unfold vToStr
      rw [he x (by simp)]
      exact bnd_intro hes (bnd_intro heu (bnd_intro hud (h2 G _ hG (bnd_intro hl hk))))
    · exact h.elim
  split at h
  · rename_i kk i ex
    unfold vConvert onV at h
    rw [ex] at h
    dsimp only at h
    obtain ⟨us, hus, h⟩ := bnd_iff.1 h
    obtain ⟨ud, hud, h⟩ := bnd_iff.1 h
    cases ud <;> first | exact h.elim | skip
    exact ⟨_, _, _, h, Stb.same fun e' G K' he hG hk => by show vConv P e' G n K' s d x; unfold vConv vConvert onV; rw [he x (by simp), ex]; exact bnd_intro hus (bnd_intro hud hk)⟩
  · rename_i l ex
    unfold vToBytes onV at h
    rw [ex] at h
    dsimp only at h
    obtain ⟨us, hus, h⟩ := bnd_iff.1 h
    obtain ⟨es, hes, h⟩ := bnd_iff.1 h
    obtain ⟨eu, heu, h⟩ := bnd_iff.1 h
    split at h
    · exact ⟨_, _, _, h, Stb.new hn fun e' G K' he hG hk => by show vConv P e' G n K' s d x; unfold vConv vToBytes onV; rw [he x (by simp), ex]; exact bnd_intro hus (bnd_intro hes (bnd_intro heu hk))⟩
    · exact h.elim
  · rename_i p k ex
    exact str _ ex (fun e' G K' he h => by unfold vConv onV; rw [he]; exact h) h
  · rename_i p k ex
    exact str _ ex (fun e' G K' he h => by unfold vConv onV; rw [he]; exact h) h
  · exact h.elim
theorem st_append (hn : H n = none) (ts : Array TypeId) (s x : Operand) (h : vAppendH P e H n K ts s x) : Out (fun e H K => vAppendH P e H n K ts s x) [s, x] e H n K := by
  unfold vAppendH onV at h
  dsimp only at h
  split at h
  · rename_i ex
    unfold vAppend at h
    obtain ⟨t, ht, h⟩ := bnd_iff.1 h
    obtain ⟨tx, htx, h⟩ := bnd_iff.1 h
    obtain ⟨et, het, h⟩ := bnd_iff.1 h
    obtain ⟨se, hse, h⟩ := bnd_iff.1 h
    obtain ⟨z, hz, h⟩ := bnd_iff.1 h
    obtain ⟨u, hu, h⟩ := bnd_iff.1 h
    obtain ⟨news, m, h1, h2⟩ := srcOf_any _ _ _ _ h
    unfold onV at h1
    rw [ex] at h1
    obtain ⟨h3, h1⟩ := h1
    exact ⟨_, _, _, h1, Stb.new hn fun e' G K' he hG hk => by
      show vAppendH P e' G n K' ts s x
      unfold vAppendH onV
      rw [he s (by simp), ex]
      show vAppend P e' G n K' ts s x
      unfold vAppend
      rw [he s (by simp), he x (by simp), ex]
      exact bnd_intro ht (bnd_intro htx (bnd_intro het (bnd_intro hse (bnd_intro hz (bnd_intro hu (h2 G _ hG ⟨h3, hk⟩))))))⟩
  · exact h.elim
mutual
theorem Rd.up {H G : Heap} (hG : ∀ m b, H m = some b → G m = some b) : ∀ (v d : VV), Rd H v d → Rd G v d
  | .agg vs, d, h => by
    simp only [Rd] at h ⊢
    obtain ⟨ds, h1, h2⟩ := h
    exact ⟨ds, h1, RdL.up hG vs ds h2⟩
  | .sl none n, d, h => by simpa only [Rd] using h
  | .sl (some (m, p, i)) n, d, h => by
    simp only [Rd] at h ⊢
    obtain ⟨s, c, k, e, els, h1, h2⟩ := h
    exact ⟨s, c, k, e, els, hG _ _ h1, h2⟩
  | .int _ _, _, h => by simpa only [Rd] using h
  | .bool _, _, h => by simpa only [Rd] using h
  | .str _, _, h => by simpa only [Rd] using h
  | .tup _, _, h => by simpa only [Rd] using h
  | .ptr _ _, _, h => by simpa only [Rd] using h
  | .fn _ _, _, h => by simpa only [Rd] using h
  | .map _, _, h => by simpa only [Rd] using h
  | .dat _ _, _, h => by simpa only [Rd] using h
  | .pd _ _, _, h => by simpa only [Rd] using h
  | .vec _ _, _, h => by simpa only [Rd] using h
  | .any, _, h => by simpa only [Rd] using h
  | .raw _, _, h => by simpa only [Rd] using h
theorem RdL.up {H G : Heap} (hG : ∀ m b, H m = some b → G m = some b) : ∀ (vs ds : List VV), RdL H vs ds → RdL G vs ds
  | [], _, h => by simpa only [RdL] using h
  | v :: vs, ds, h => by
    simp only [RdL] at h ⊢
    obtain ⟨d, ds', h1, h2, h3⟩ := h
    exact ⟨d, ds', h1, Rd.up hG v d h2, RdL.up hG vs ds' h3⟩
end
theorem st_call (f : Operand) (args : List Operand) (h : vCallH P e H n K f args) : Out (fun e H K => vCallH P e H n K f args) (f :: args) e H n K := by
  unfold vCallH onV at h
  dsimp only at h
  split at h
  · rename_i g caps ex
    obtain ⟨hc, r, ⟨ds, h1, h2, h3⟩, h⟩ := h
    refine ⟨_, _, _, h, Stb.same fun e' G K' he hG hk => ?_⟩
    show vCallH P e' G n K' f args
    unfold vCallH onV
    rw [he f (by simp), ex]
    have hm : args.map e' = args.map e := List.map_congr_left fun y hy => he y (by simp [hy])
    dsimp only
    rw [hm]
    exact ⟨hc, r, ⟨ds, h1, h2, h3.imp (fun h => ⟨RdL.up hG _ _ h.1, h.2⟩) id⟩, hk⟩
  · exact h.elim
/-- every operation that may come up at any time has one outcome -/
theorem vopH_stable {o : Oper} (hn : H n = none) (h : vopH P e H n K o) : Out (fun e H K => vopH P e H n K o) o.op.operands.toList e H n K := by
  have lift : ∀ {F : (Operand → VV) → Heap → (VV → Heap → Nat → Prop) → Prop} {xs : List Operand}, (∀ x ∈ xs, x ∈ o.op.operands.toList) → (∀ e G K, F e G K → vopH P e G n K o) → Out F xs e H n K → Out (fun e H K => vopH P e H n K o) o.op.operands.toList e H n K := by
    intro F xs hx hF ⟨v, H', n', hk, h1, h2, h3, h4⟩
    exact ⟨v, H', n', hk, h1, h2, h3, fun e' G K' he hG hk => hF _ _ _ (h4 e' G K' (fun x hx' => he x (hx x hx')) hG hk)⟩
  unfold vopH at h
  split at h <;> rename_i ho
  · exact lift (by rw [ho]; simp [Op.operands]) (fun e G K h => by unfold vopH; rw [ho]; exact h) (st_move _ h)
  · exact lift (by rw [ho]; simp [Op.operands]) (fun e G K h => by unfold vopH; rw [ho]; exact h) (st_move _ h)
  · exact lift (by rw [ho]; simp [Op.operands]) (fun e G K h => by unfold vopH; rw [ho]; exact h) (st_pick _ _ _ h)
  · exact lift (by rw [ho]; simp [Op.operands]) (fun e G K h => by unfold vopH; rw [ho]; exact h) (st_alloc hn _ h)
  · exact lift (by rw [ho]; simp [Op.operands]) (fun e G K h => by unfold vopH; rw [ho]; exact h) (st_box hn _ _ h)
  · exact lift (by rw [ho]; simp [Op.operands]) (fun e G K h => by unfold vopH; rw [ho]; exact h) (st_build _ _ h)
  · exact lift (by rw [ho]; simp [Op.operands]) (fun e G K h => by unfold vopH; rw [ho]; exact h) (st_buildSlice hn _ _ _ h)
  · exact lift (by rw [ho]; simp [Op.operands]) (fun e G K h => by unfold vopH; rw [ho]; exact h) (st_load _ _ h)
  · exact lift (by rw [ho]; simp [Op.operands]) (fun e G K h => by unfold vopH; rw [ho]; exact h) (st_nilCheck _ h)
  · exact lift (by rw [ho]; simp [Op.operands]) (fun e G K h => by unfold vopH; rw [ho]; exact h) (st_binH _ _ _ _ h)
  · exact lift (by rw [ho]; simp [Op.operands]) (fun e G K h => by unfold vopH; rw [ho]; exact h) (st_un _ _ h)
  · exact lift (by rw [ho]; simp [Op.operands]) (fun e G K h => by unfold vopH; rw [ho]; exact h) (st_conv hn _ _ _ h)
  · exact lift (by rw [ho]; simp [Op.operands]) (fun e G K h => by unfold vopH; rw [ho]; exact h) (st_makeSlice hn _ _ _ h)
  · exact lift (by rw [ho]; simp [Op.operands]) (fun e G K h => by unfold vopH; rw [ho]; exact h) (st_slice _ _ _ _ h)
  · exact lift (by rw [ho]; simp [Op.operands]) (fun e G K h => by unfold vopH; rw [ho]; exact h) (st_fieldAddr _ _ _ h)
  · exact lift (by rw [ho]; simp [Op.operands]) (fun e G K h => by unfold vopH; rw [ho]; exact h) (st_field _ _ _ h)
  · exact lift (by rw [ho]; simp [Op.operands]) (fun e G K h => by unfold vopH; rw [ho]; exact h) (st_indexAddr _ _ _ h)
  · exact lift (by rw [ho]; simp [Op.operands]) (fun e G K h => by unfold vopH; rw [ho]; exact h) (st_index _ _ _ h)
  · exact lift (by rw [ho]; simp [Op.operands]) (fun e G K h => by unfold vopH; rw [ho]; exact h) (st_extract _ _ h)
  · exact lift (by rw [ho]; simp [Op.operands]) (fun e G K h => by unfold vopH; rw [ho]; exact h) (st_arrPtr _ _ h)
  · rename_i c
    obtain ⟨cal, xs, ts⟩ := c
    dsimp only at h
    cases cal with
    | value f => exact lift (by rw [ho]; simp [Op.operands, Call.operands]) (fun e G K h => by unfold vopH; rw [ho]; exact h) (st_call _ _ h)
    | invoke r m => exact h.elim
    | builtin b =>
      dsimp only at h
      split at h
      · rename_i x hx
        exact lift (by rw [ho]; simp [Op.operands, Call.operands, args_list xs _ hx]) (fun e G K h => by unfold vopH; rw [ho]; dsimp only; rw [hx]; exact h) (st_len _ _ h)
      · rename_i s x hx
        obtain ⟨h0, h⟩ := h
        obtain ⟨v, H', n', hk, h1, h2, h3, h4⟩ := st_append hn _ _ _ h
        exact ⟨v, H', n', hk, h1, h2, h3, fun e' G K' he hG hk => by
          show vopH P e' G n K' o
          unfold vopH
          rw [ho]
          dsimp only
          rw [hx]
          exact ⟨h0, h4 e' G K' (fun y hy => he y (by rw [ho]; simp [Op.operands, Call.operands, args_list xs _ hx]; simpa using hy)) hG hk⟩⟩
      · rename_i x y hx
        exact lift (by rw [ho]; simp [Op.operands, Call.operands, args_list xs _ hx]) (fun e G K h => by unfold vopH; rw [ho]; dsimp only; rw [hx]; exact h) (st_min _ _ h)
      · rename_i x y hx
        exact lift (by rw [ho]; simp [Op.operands, Call.operands, args_list xs _ hx]) (fun e G K h => by unfold vopH; rw [ho]; dsimp only; rw [hx]; exact h) (st_max _ _ h)
      · exact h.elim
  · exact h.elim
end
end Go.Proofs.Ytndbfphmjmhkjaa.V
