/- A calculus of abstract states over the model's code: values and memory of one call, and what they stand for. -/
import Derived.Below
import Derived.Laws.OwnMore
import Derived.Deep.LoopGhost
import Derived.Maps.AppendAt
import Derived.Orders
import Derived.Laws.MakeOwn
namespace Go.Eng
open Go.RowKit

/-- Abstract values. v: just this value; s: the whole row id; w: a window of row id; p: a cell of block id; i: a slice that nobody writes, by its contents; q: a pointer into such; a, t: aggregates, tuples; f: a function value; g: x if b; top: whatever. -/
inductive AV where
  | v (x : Value)
  | s (id : Nat)
  | w (id off len : Nat)
  | p (id off : Nat)
  | i (fr : Bool) (c : Nat → Nat → AV) (sz off len : Nat)
  | q (fr : Bool) (c : Nat → Nat → AV) (sz e f : Nat)
  | a (cs : List AV)
  | t (cs : List AV)
  | f (fn : Fn) (caps : List AV)
  | g (b : Bool) (x : AV)
  | top

def rootBlk : Value → Option Nat
  | .slice (some a) _ _ => some a.block
  | .pointer (some a) => some a.block
  | _ => none

def oneC : Value → Bool
  | .agg _ => false
  | .tuple _ => false
  | _ => true

def noId : Nat → Option Value := fun _ => none

inductive Conc (B : Nat) (I : Nat → Prop) (w : World) : (Nat → Option Value) → AV → Value → Prop
  | v {ρ : Nat → Option Value} (x : Value) : Conc B I w ρ (.v x) x
  | s {ρ : Nat → Option Value} (id : Nat) (x : Value) (h : ρ id = some x) (h1 : oneC x = true) : Conc B I w ρ (.s id) x
  | w {ρ : Nat → Option Value} (id off len cap : Nat) (A : Option Addr) (x : Value) (h : ρ id = some x) (hcap : len ≤ cap) (hA : 0 < len → ∃ b, rootBlk x = some b ∧ A = some ⟨b, off, none⟩) : Conc B I w ρ (.w id off len) (.slice A len cap)
  | p {ρ : Nat → Option Value} (id off b : Nat) (x : Value) (h : ρ id = some x) (hb : rootBlk x = some b) : Conc B I w ρ (.p id off) (.pointer (some ⟨b, off, none⟩))
  | i {ρ : Nat → Option Value} (fr : Bool) (c : Nat → Nat → AV) (sz off len cap : Nat) (A : Option Addr) (u : Nat → Nat → Value) (hcap : len ≤ cap)
      (hA : 0 < len → ∃ ad, A = some ad ∧ I ad.block ∧ (fr = true → B ≤ ad.block) ∧ ∀ e f, e < len → f < sz → w.cell? (ad.add (e * sz + f)) = some (u e f))
      (hc : ∀ e f, e < len → f < sz → Conc B I w noId (c (off + e) f) (u e f)) : Conc B I w ρ (.i fr c sz off len) (.slice A len cap)
  | q {ρ : Nat → Option Value} (fr : Bool) (c : Nat → Nat → AV) (sz e f : Nat) (ad : Addr) (u : Nat → Value) (hI : I ad.block) (hB : fr = true → B ≤ ad.block)
      (hcell : ∀ j, f + j < sz → w.cell? (ad.add j) = some (u j)) (hc : ∀ j, f + j < sz → Conc B I w noId (c e (f + j)) (u j)) : Conc B I w ρ (.q fr c sz e f) (.pointer (some ad))
  | a {ρ : Nat → Option Value} (cs : List AV) (us : Array Value) (hl : us.size = cs.length) (h : ∀ j, j < cs.length → Conc B I w ρ (cs.getD j .top) (us.getD j undef)) : Conc B I w ρ (.a cs) (.agg us)
  | t {ρ : Nat → Option Value} (cs : List AV) (us : Array Value) (hl : us.size = cs.length) (h : ∀ j, j < cs.length → Conc B I w ρ (cs.getD j .top) (us.getD j undef)) : Conc B I w ρ (.t cs) (.tuple us)
  | f {ρ : Nat → Option Value} (fn : Fn) (cs : List AV) (us : Array Value) (hl : us.size = cs.length) (h : ∀ j, j < cs.length → Conc B I w ρ (cs.getD j .top) (us.getD j undef)) : Conc B I w ρ (.f fn cs) (.func fn #[] us)
  | g {ρ : Nat → Option Value} (b : Bool) (x : AV) (u : Value) (h : b = true → Conc B I w ρ x u) (h0 : b = false → u = undef) : Conc B I w ρ (.g b x) u
  | top {ρ : Nat → Option Value} (u : Value) : Conc B I w ρ .top u

theorem Conc.mono {B B' : Nat} {I I' : Nat → Prop} {w w' : World} {ρ : Nat → Option Value} {x : AV} {u : Value} (h : Conc B I w ρ x u) (hB : B' ≤ B) (hI : ∀ b, I b → I' b ∧ w'.heap[b]? = w.heap[b]?) :
    ∀ ρ', (∀ id y, ρ id = some y → ρ' id = some y) → Conc B' I' w' ρ' x u := by
  induction h with
  | v x => intro ρ' _; exact .v x
  | s id x h h1 => intro ρ' hr; exact .s id x (hr _ _ h) h1
  | w id off len cap A x h hcap hA => intro ρ' hr; exact .w id off len cap A x (hr _ _ h) hcap hA
  | p id off b x h hb => intro ρ' hr; exact .p id off b x (hr _ _ h) hb
  | i fr c sz off len cap A u hcap hA hc ih =>
    intro ρ' hr
    refine .i fr c sz off len cap A u hcap (fun hl => ?_) (fun e f he hf => ih e f he hf _ (fun _ _ h => h))
    obtain ⟨ad, h1, h2, h3, h4⟩ := hA hl
    exact ⟨ad, h1, (hI _ h2).1, fun hfr => Nat.le_trans hB (h3 hfr), fun e f he hf => by
      rw [World.cell?_of_block (w := w) (a := ad.add (e * sz + f))]
      · exact h4 e f he hf
      · have : (ad.add (e * sz + f)).block = ad.block := by unfold Addr.add; split <;> rfl
        rw [this]; exact (hI _ h2).2⟩
  | q fr c sz e f ad u h2 h3 hcell hc ih =>
    intro ρ' hr
    refine .q fr c sz e f ad u (hI _ h2).1 (fun hfr => Nat.le_trans hB (h3 hfr)) (fun j hj => ?_) (fun j hj => ih j hj _ (fun _ _ h => h))
    rw [World.cell?_of_block (w := w) (a := ad.add j)]
    · exact hcell j hj
    · have : (ad.add j).block = ad.block := by unfold Addr.add; split <;> rfl
      rw [this]; exact (hI _ h2).2
  | a cs us hl h ih => intro ρ' hr; exact .a cs us hl fun j hj => ih j hj _ hr
  | t cs us hl h ih => intro ρ' hr; exact .t cs us hl fun j hj => ih j hj _ hr
  | f fn cs us hl h ih => intro ρ' hr; exact .f fn cs us hl fun j hj => ih j hj _ hr
  | g b x u h h0 ih => intro ρ' hr; exact .g b x u (fun hb => ih hb _ hr) h0
  | top u => intro ρ' _; exact .top u

theorem Conc.same {B : Nat} {I : Nat → Prop} {w w' : World} {ρ : Nat → Option Value} {x : AV} {u : Value} (h : Conc B I w ρ x u) (hI : ∀ b, I b → w'.heap[b]? = w.heap[b]?) : Conc B I w' ρ x u :=
  h.mono (Nat.le_refl _) (fun b hb => ⟨hb, hI b hb⟩) ρ (fun _ _ h => h)

mutual
def AV.kill (d : Nat) : AV → AV
  | .v x => .v x
  | .s id => if id = d then .top else .s id
  | .w id off len => if id = d then .top else .w id off len
  | .p id off => if id = d then .top else .p id off
  | .i fr c sz off len => .i fr c sz off len
  | .q fr c sz e j => .q fr c sz e j
  | .a cs => .a (AV.killL d cs)
  | .t cs => .t (AV.killL d cs)
  | .f fn cs => .f fn (AV.killL d cs)
  | .g b x => .g b (AV.kill d x)
  | .top => .top
def AV.killL (d : Nat) : List AV → List AV
  | [] => []
  | x :: r => AV.kill d x :: AV.killL d r
end

theorem killL_length (d : Nat) (cs : List AV) : (AV.killL d cs).length = cs.length := by
  induction cs with
  | nil => rfl
  | cons x r ih => simp [AV.killL, ih]
theorem killL_getD (d : Nat) (cs : List AV) (j : Nat) : (AV.killL d cs).getD j .top = AV.kill d (cs.getD j .top) := by
  induction cs generalizing j with
  | nil => simp [AV.killL, AV.kill]
  | cons x r ih => cases j with
    | zero => simp [AV.killL]
    | succ j => simpa [AV.killL] using ih j

theorem Conc.kill {B : Nat} {I : Nat → Prop} {w : World} {ρ : Nat → Option Value} {x : AV} {u : Value} (h : Conc B I w ρ x u) (d : Nat) :
    ∀ ρ', (∀ id, id ≠ d → ρ' id = ρ id) → Conc B I w ρ' (x.kill d) u := by
  induction h with
  | v x => intro ρ' _; rw [AV.kill]; exact .v x
  | s id x h h1 =>
    intro ρ' hr; rw [AV.kill]; split
    · exact .top _
    · exact .s id x (by rw [hr _ ‹_›]; exact h) h1
  | w id off len cap A x h hcap hA =>
    intro ρ' hr; rw [AV.kill]; split
    · exact .top _
    · exact .w id off len cap A x (by rw [hr _ ‹_›]; exact h) hcap hA
  | p id off b x h hb =>
    intro ρ' hr; rw [AV.kill]; split
    · exact .top _
    · exact .p id off b x (by rw [hr _ ‹_›]; exact h) hb
  | i fr c sz off len cap A u hcap hA hc ih => intro ρ' _; rw [AV.kill]; exact .i fr c sz off len cap A u hcap hA hc
  | q fr c sz e f ad u h2 h3 hcell hc ih => intro ρ' _; rw [AV.kill]; exact .q fr c sz e f ad u h2 h3 hcell hc
  | a cs us hl h ih => intro ρ' hr; rw [AV.kill]; exact .a _ us (by rw [killL_length]; exact hl) fun j hj => by rw [killL_getD]; exact ih j (by rwa [killL_length] at hj) _ hr
  | t cs us hl h ih => intro ρ' hr; rw [AV.kill]; exact .t _ us (by rw [killL_length]; exact hl) fun j hj => by rw [killL_getD]; exact ih j (by rwa [killL_length] at hj) _ hr
  | f fn cs us hl h ih => intro ρ' hr; rw [AV.kill]; exact .f fn _ us (by rw [killL_length]; exact hl) fun j hj => by rw [killL_getD]; exact ih j (by rwa [killL_length] at hj) _ hr
  | g b x u h h0 ih => intro ρ' hr; rw [AV.kill]; exact .g b _ u (fun hb => ih hb _ hr) h0
  | top u => intro ρ' _; rw [AV.kill]; exact .top u

/-- Contents of a block. -/
inductive Cont where
  | ints (k : IntKind) (l : List Int)
  | vals (l : List Value)
  | avs (l : List AV)
def Cont.len : Cont → Nat
  | .ints _ l => l.length
  | .vals l => l.length
  | .avs l => l.length
def Cont.at : Cont → Nat → AV
  | .ints k l, j => .v (.int k (l.getD j 0))
  | .vals l, j => .v (l.getD j undef)
  | .avs l, j => l.getD j .top
def Cont.upd : Cont → Nat → AV → Option Cont
  | .ints k l, j, .v (.int k' n) => if k' = k then some (.ints k (l.set j n)) else none
  | .vals l, j, .v x => some (.vals (l.set j x))
  | .avs l, j, x => some (.avs (l.set j x))
  | _, _, _ => none
def Cont.kill (d : Nat) : Cont → Cont
  | .ints k l => .ints k l
  | .vals l => .vals l
  | .avs l => .avs (AV.killL d l)

theorem getD_set_self {α : Type} (l : List α) (j : Nat) (x d : α) (h : j < l.length) : (l.set j x).getD j d = x := by simp [List.getD_eq_getElem?_getD, h]
theorem getD_set_ne {α : Type} (l : List α) (j k : Nat) (x d : α) (h : j ≠ k) : (l.set j x).getD k d = l.getD k d := by simp [List.getD_eq_getElem?_getD, List.getElem?_set_ne h]

theorem Cont.upd_spec {c c' : Cont} {j : Nat} {x : AV} (h : c.upd j x = some c') (hj : j < c.len) : c'.len = c.len ∧ c'.at j = x ∧ ∀ k, k ≠ j → c'.at k = c.at k := by
  unfold Cont.upd at h
  split at h
  · split at h
    · injection h with h; subst h; subst ‹_ = _›
      exact ⟨by simp [Cont.len], by simp only [Cont.at]; rw [getD_set_self _ _ _ _ (by simpa [Cont.len] using hj)], fun k hk => by simp only [Cont.at]; rw [getD_set_ne _ _ _ _ _ (Ne.symm hk)]⟩
    · cases h
  · injection h with h; subst h
    exact ⟨by simp [Cont.len], by simp only [Cont.at]; rw [getD_set_self _ _ _ _ (by simpa [Cont.len] using hj)], fun k hk => by simp only [Cont.at]; rw [getD_set_ne _ _ _ _ _ (Ne.symm hk)]⟩
  · injection h with h; subst h
    exact ⟨by simp [Cont.len], by simp only [Cont.at]; rw [getD_set_self _ _ _ _ (by simpa [Cont.len] using hj)], fun k hk => by simp only [Cont.at]; rw [getD_set_ne _ _ _ _ _ (Ne.symm hk)]⟩
  · cases h
theorem Cont.kill_len (d : Nat) (c : Cont) : (c.kill d).len = c.len := by cases c <;> simp [Cont.kill, Cont.len, killL_length]
theorem Cont.kill_at (d : Nat) (c : Cont) (j : Nat) : (c.kill d).at j = (c.at j).kill d := by cases c <;> simp only [Cont.kill, Cont.at, AV.kill, killL_getD]

inductive Blk where
  | box (t : TypeId) (c : Cont)
  | row (e : TypeId) (sz : Nat) (c : Cont)
  | nst (e : TypeId) (c : Cont)
def Blk.kill (d : Nat) : Blk → Blk
  | .box t c => .box t (c.kill d)
  | .row e sz c => .row e sz c
  | .nst e c => .nst e (c.kill d)

def BlkOK (B : Nat) (I : Nat → Prop) (w : World) (ρ : Nat → Option Value) (x : Value) : Blk → Prop
  | .box t c => ∃ b us, x = .pointer (some ⟨b, 0, none⟩) ∧ B ≤ b ∧ w.heap[b]? = some (.cells us t (0, 0)) ∧ us.size = c.len ∧ ∀ j u, us[j]? = some u → Conc B I w ρ (c.at j) u
  | .row e sz c => ∃ n xs, w.ownsRow B e sz x n xs ∧ c.len = n * sz ∧ ∀ j u, xs[j]? = some u → Conc B I w noId (c.at j) u
  | .nst e c => ∃ n xs, w.ownsRow B e 1 x n xs ∧ c.len = n * 1 ∧ ∀ j u, xs[j]? = some u → Conc B I w ρ (c.at j) u

def lk : List (Nat × AV) → Nat → AV
  | [], _ => .top
  | (k, x) :: r, s => if k = s then x else lk r s
def lkH : List (Nat × Blk) → Nat → Option Blk
  | [], _ => none
  | (k, x) :: r, s => if k = s then some x else lkH r s

structure HW (B : Nat) (I : Nat → Prop) (w : World) (ρ : Nat → Option Value) (H : List (Nat × Blk)) : Prop where
  ok : ∀ id blk, lkH H id = some blk → ∃ x, ρ id = some x ∧ BlkOK B I w ρ x blk
  apart : ∀ id id' blk blk' x x' b, id ≠ id' → lkH H id = some blk → lkH H id' = some blk' → ρ id = some x → ρ id' = some x' → rootBlk x = some b → rootBlk x' ≠ some b
  imm : ∀ id blk x b, lkH H id = some blk → ρ id = some x → rootBlk x = some b → ¬ I b
  lt : ∀ b, I b → b < w.heap.size

structure St where
  env : List (Nat × AV)
  heap : List (Nat × Blk)
def ofVal : Value → AV
  | .agg cs => .a (cs.toList.map .v)
  | x => .v x
theorem conc_ofVal {B : Nat} {I : Nat → Prop} {w : World} {ρ : Nat → Option Value} (x : Value) : Conc B I w ρ (ofVal x) x := by
  cases x <;> simp only [ofVal] <;> first | exact .v _ | skip
  rename_i cs
  refine .a _ _ (by simp) fun j hj => ?_
  simp at hj
  have : (cs.toList.map AV.v).getD j .top = .v (cs.getD j undef) := by simp [List.getD_eq_getElem?_getD, Array.getD_eq_getD_getElem?, hj]
  rw [this]; exact .v _
def St.ev (st : St) : Operand → AV
  | .tmp t => lk st.env t
  | .const v => ofVal v
  | .func f => .v (.func (.func f) #[] #[])
  | .global _ => .top

structure Orig where
  w : World
  I : Nat → Prop
  gh : Nat → Option (Option Value)

/-- What stays as it was: what was laid down is not written; the ids that are pinned stay. -/
structure Old (n B : Nat) (w0 : Orig) (w : World) (ρ : Nat → Option Value) (I : Nat → Prop) : Prop where
  up : ∀ b, I b → w0.I b ∨ B ≤ b
  gh : ∀ id x, w0.gh id = some x → ρ id = x
  ghn : ∀ d, d < n → w0.gh d = none
  keep : ∀ b, w0.I b → I b ∧ w.heap[b]? = w0.w.heap[b]?

structure Gam (n B : Nat) (w0 : Orig) (st : St) (a : Act) (w : World) (ρ : Nat → Option Value) (I : Nat → Prop) : Prop where
  defers : a.defers = []
  size : a.tmps.size = n
  env : ∀ s, Conc B I w ρ (lk st.env s) (a.tmps.getD s undef)
  hw : HW B I w ρ st.heap
  below : Below B w0.w w
  base : B ≤ w.heap.size
  old : Old n B w0 w ρ I
def G (n B : Nat) (w0 : Orig) (st : St) (a : Act) (w : World) : Prop := ∃ ρ I, Gam n B w0 st a w ρ I

theorem rootBlk_own {w : World} {base : Nat} {e : TypeId} {size : Nat} {v : Value} {n : Nat} {xs : List Value} (h : w.ownsRow base e size v n xs) : rootBlk v = v.ownBlock := by
  rcases h.2 with ⟨rfl, _⟩ | ⟨g, cap, cur, rfl, _⟩ <;> rfl

theorem BlkOK.lt {B : Nat} {I : Nat → Prop} {w : World} {ρ : Nat → Option Value} {x : Value} {blk : Blk} (h : BlkOK B I w ρ x blk) {b : Nat} (hb : rootBlk x = some b) : B ≤ b ∧ b < w.heap.size := by
  cases blk with
  | box t c =>
    obtain ⟨b', us, rfl, hB, hh, _⟩ := h
    simp [rootBlk] at hb; subst hb
    exact ⟨hB, (Array.getElem?_eq_some_iff.1 hh).1⟩
  | row e sz c =>
    obtain ⟨n, xs, ho, _⟩ := h
    rw [rootBlk_own ho] at hb
    exact ho.lt b hb
  | nst e c =>
    obtain ⟨n, xs, ho, _⟩ := h
    rw [rootBlk_own ho] at hb
    exact ho.lt b hb

/-- Memory has grown, no block of old has turned; what is new may be among what nobody writes. -/
structure Quiet (I : Nat → Prop) (w : World) (I' : Nat → Prop) (w' : World) : Prop where
  below : Below w.heap.size w w'
  le : ∀ b, I b → I' b
  new : ∀ b, I' b → ¬ I b → w.heap.size ≤ b
  lt : ∀ b, I' b → b < w'.heap.size

theorem Quiet.refl {I : Nat → Prop} {w : World} (h : ∀ b, I b → b < w.heap.size) : Quiet I w I w := ⟨Below.refl _ _, fun _ h => h, fun _ h h' => absurd h h', h⟩
theorem Quiet.trans {I I' I'' : Nat → Prop} {w w' w'' : World} (h : Quiet I w I' w') (k : Quiet I' w' I'' w'') : Quiet I w I'' w'' :=
  ⟨h.below.trans (k.below.mono h.below.size), fun b hb => k.le b (h.le b hb), fun b hb hn => by
    by_cases h' : I' b
    · exact h.new b h' hn
    · exact Nat.le_trans h.below.size (k.new b hb h'), k.lt⟩

theorem Conc.quiet {B : Nat} {I I' : Nat → Prop} {w w' : World} {ρ : Nat → Option Value} {x : AV} {u : Value} (h : Conc B I w ρ x u) (hq : Quiet I w I' w') (hlt : ∀ b, I b → b < w.heap.size) : Conc B I' w' ρ x u :=
  h.mono (Nat.le_refl _) (fun b hb => ⟨hq.le b hb, hq.below.block b (hlt b hb)⟩) ρ (fun _ _ h => h)

theorem ownsRow_block {w w' : World} {base : Nat} {e : TypeId} {size : Nat} {v : Value} {n : Nat} {xs : List Value} (h : w.ownsRow base e size v n xs) (hb : ∀ b, rootBlk v = some b → w'.heap[b]? = w.heap[b]?) : w'.ownsRow base e size v n xs := by
  refine ⟨h.1, ?_⟩
  rcases h.2 with hn | ⟨g, cap, cur, rfl, h1, h2, r⟩
  · exact .inl hn
  · exact .inr ⟨g, cap, cur, rfl, h1, by rw [hb g rfl]; exact h2, r⟩

theorem BlkOK.move {B : Nat} {I I' : Nat → Prop} {w w' : World} {ρ ρ' : Nat → Option Value} {x : Value} {blk : Blk} (h : BlkOK B I w ρ x blk) (hb : ∀ b, rootBlk x = some b → w'.heap[b]? = w.heap[b]?)
    (hI : ∀ b, I b → I' b ∧ w'.heap[b]? = w.heap[b]?) (hρ : ∀ id y, ρ id = some y → ρ' id = some y) : BlkOK B I' w' ρ' x blk := by
  cases blk with
  | box t c =>
    obtain ⟨b, us, rfl, hB, hh, hl, hc⟩ := h
    exact ⟨b, us, rfl, hB, by rw [hb b rfl]; exact hh, hl, fun j u hu => (hc j u hu).mono (Nat.le_refl _) hI _ hρ⟩
  | row e sz c =>
    obtain ⟨n, xs, ho, hl, hc⟩ := h
    exact ⟨n, xs, ownsRow_block ho hb, hl, fun j u hu => (hc j u hu).mono (Nat.le_refl _) hI _ (fun _ _ h => h)⟩
  | nst e c =>
    obtain ⟨n, xs, ho, hl, hc⟩ := h
    exact ⟨n, xs, ownsRow_block ho hb, hl, fun j u hu => (hc j u hu).mono (Nat.le_refl _) hI _ hρ⟩

theorem HW.quiet {B : Nat} {I I' : Nat → Prop} {w w' : World} {ρ : Nat → Option Value} {H : List (Nat × Blk)} (h : HW B I w ρ H) (hq : Quiet I w I' w') : HW B I' w' ρ H := by
  refine ⟨fun id blk hk => ?_, h.apart, fun id blk x b hk hx hb hI => ?_, hq.lt⟩
  · obtain ⟨x, hx, hok⟩ := h.ok id blk hk
    exact ⟨x, hx, hok.move (fun b hb => hq.below.block b (hok.lt hb).2) (fun b hb => ⟨hq.le b hb, hq.below.block b (h.lt b hb)⟩) (fun _ _ h => h)⟩
  · obtain ⟨x', hx', hok⟩ := h.ok id blk hk
    rw [hx] at hx'; injection hx' with hx'; subst hx'
    have := (hok.lt hb).2
    have := hq.new b hI (h.imm id blk x b hk hx hb)
    omega

theorem Gam.quiet {n B : Nat} {w0 : Orig} {st : St} {a : Act} {w w' : World} {ρ : Nat → Option Value} {I I' : Nat → Prop} (h : Gam n B w0 st a w ρ I) (hq : Quiet I w I' w') : Gam n B w0 st a w' ρ I' :=
  ⟨h.defers, h.size, fun s => (h.env s).quiet hq h.hw.lt, h.hw.quiet hq, h.below.trans (hq.below.mono h.base), Nat.le_trans h.base hq.below.size, ⟨fun b hb => by
    by_cases hi : I b
    · exact h.old.up b hi
    · exact .inr (Nat.le_trans h.base (hq.new b hb hi)), h.old.gh, h.old.ghn, fun b hb => ⟨hq.le b (h.old.keep b hb).1, by rw [hq.below.block b (h.hw.lt b (h.old.keep b hb).1)]; exact (h.old.keep b hb).2⟩⟩⟩

def St.put (st : St) (d : Option Nat) (x : AV) : St :=
  match d with
  | some d => { st with env := (d, x) :: st.env }
  | none => st

theorem Gam.put {n B : Nat} {w0 : Orig} {st : St} {a : Act} {w : World} {ρ : Nat → Option Value} {I : Nat → Prop} (h : Gam n B w0 st a w ρ I) {d : Option Nat} (hd : ∀ k, d = some k → k < n) {x : AV} {u : Value} (hx : Conc B I w ρ x u) :
    Gam n B w0 (st.put d x) (a.put d u) w ρ I := by
  cases d with
  | none => exact h
  | some d =>
    refine ⟨h.defers, by simp [Act.put, h.size], fun s => ?_, h.hw, h.below, h.base, h.old⟩
    simp only [St.put, lk, Act.put]
    by_cases e : d = s
    · subst e
      rw [if_pos rfl]
      have : (a.tmps.setIfInBounds d u).getD d undef = u := by
        have := hd d rfl
        rw [← h.size] at this
        simp [Array.getD_eq_getD_getElem?, this]
      rw [this]; exact hx
    · rw [if_neg e]
      have : (a.tmps.setIfInBounds d u).getD s undef = a.tmps.getD s undef := by
        simp [Array.getD_eq_getD_getElem?, Array.getElem?_setIfInBounds_ne e]
      rw [this]; exact h.env s

theorem Gam.ev {n B : Nat} {w0 : Orig} {st : St} {a : Act} {w : World} {ρ : Nat → Option Value} {I : Nat → Prop} (h : Gam n B w0 st a w ρ I) (x : Operand) : Conc B I w ρ (st.ev x) (a.eval x) := by
  cases x with
  | tmp t => exact h.env t
  | const v => exact conc_ofVal v
  | func f => exact .v _
  | global g => exact .top _

end Go.Eng
