/- Part of a proof about the given program: contracts of its functions (see the comment of the last text). -/
import Derived.Below
import Derived.Laws.OwnMore
import Derived.Deep.LoopGhost
import Derived.Maps.AppendAt
import Derived.Orders
import Derived.Laws.MakeOwn
import Derived.Maps.Own
import Derived.RangeFuncLeaves
import Derived.Laws.StructEq
import Derived.Laws.Cover3
set_option linter.unusedSimpArgs false
set_option linter.unusedVariables false
namespace Go.Eng
open Go.RowKit

inductive AV where
  | v (x : Value)
  | s (id : Nat)
  | w (id off len : Nat)
  | p (id off : Nat)
  | i (fr : Bool) (c : Nat → Nat → AV) (sz off len : Nat)
  | q (fr : Bool) (c : Nat → Nat → AV) (sz e f : Nat)
  | a (cs : List AV)
  | t (cs : List AV)
  | f (fn : Fn) (caps : List AV)
  | g (b : Bool) (x : AV)
  | top

def rootBlk : Value → Option Nat
  | .slice (some a) _ _ => some a.block
  | .pointer (some a) => some a.block
  | .map (some b) => some b
  | _ => none

def oneC : Value → Bool
  | .agg _ => false
  | .tuple _ => false
  | _ => true

def noId : Nat → Option Value := fun _ => none

inductive Conc (B : Nat) (I : Nat → Prop) (w : World) : (Nat → Option Value) → AV → Value → Prop
  | v {ρ : Nat → Option Value} (x : Value) : Conc B I w ρ (.v x) x
  | s {ρ : Nat → Option Value} (id : Nat) (x : Value) (h : ρ id = some x) (h1 : oneC x = true) : Conc B I w ρ (.s id) x
  | w {ρ : Nat → Option Value} (id off len cap : Nat) (A : Option Addr) (x : Value) (h : ρ id = some x) (hcap : len ≤ cap) (hA : 0 < len → ∃ b, rootBlk x = some b ∧ A = some ⟨b, off, none⟩) : Conc B I w ρ (.w id off len) (.slice A len cap)
  | p {ρ : Nat → Option Value} (id off b : Nat) (x : Value) (h : ρ id = some x) (hb : rootBlk x = some b) : Conc B I w ρ (.p id off) (.pointer (some ⟨b, off, none⟩))
  | i {ρ : Nat → Option Value} (fr : Bool) (c : Nat → Nat → AV) (sz off len cap : Nat) (A : Option Addr) (u : Nat → Nat → Value) (hcap : len ≤ cap)
      (hA : 0 < len → ∃ ad, A = some ad ∧ I ad.block ∧ (fr = true → B ≤ ad.block) ∧ ∀ e f, e < len → f < sz → w.cell? (ad.add (e * sz + f)) = some (u e f))
      (hc : ∀ e f, e < len → f < sz → Conc B I w noId (c (off + e) f) (u e f)) : Conc B I w ρ (.i fr c sz off len) (.slice A len cap)
  | q {ρ : Nat → Option Value} (fr : Bool) (c : Nat → Nat → AV) (sz e f : Nat) (ad : Addr) (u : Nat → Value) (hI : I ad.block) (hB : fr = true → B ≤ ad.block)
      (hcell : ∀ j, f + j < sz → w.cell? (ad.add j) = some (u j)) (hc : ∀ j, f + j < sz → Conc B I w noId (c e (f + j)) (u j)) : Conc B I w ρ (.q fr c sz e f) (.pointer (some ad))
  | a {ρ : Nat → Option Value} (cs : List AV) (us : Array Value) (hl : us.size = cs.length) (h : ∀ j, j < cs.length → Conc B I w ρ (cs.getD j .top) (us.getD j undef)) : Conc B I w ρ (.a cs) (.agg us)
  | t {ρ : Nat → Option Value} (cs : List AV) (us : Array Value) (hl : us.size = cs.length) (h : ∀ j, j < cs.length → Conc B I w ρ (cs.getD j .top) (us.getD j undef)) : Conc B I w ρ (.t cs) (.tuple us)
  | f {ρ : Nat → Option Value} (fn : Fn) (cs : List AV) (us : Array Value) (hl : us.size = cs.length) (h : ∀ j, j < cs.length → Conc B I w ρ (cs.getD j .top) (us.getD j undef)) : Conc B I w ρ (.f fn cs) (.func fn #[] us)
  | g {ρ : Nat → Option Value} (b : Bool) (x : AV) (u : Value) (h : b = true → Conc B I w ρ x u) (h0 : b = false → u = undef) : Conc B I w ρ (.g b x) u
  | top {ρ : Nat → Option Value} (u : Value) : Conc B I w ρ .top u

theorem Conc.mono {B B' : Nat} {I I' : Nat → Prop} {w w' : World} {ρ : Nat → Option Value} {x : AV} {u : Value} (h : Conc B I w ρ x u) (hB : B' ≤ B) (hI : ∀ b, I b → I' b ∧ w'.heap[b]? = w.heap[b]?) :
    ∀ ρ', (∀ id y, ρ id = some y → ρ' id = some y) → Conc B' I' w' ρ' x u := by
  induction h with
  | v x => intro ρ' _; exact .v x
  | s id x h h1 => intro ρ' hr; exact .s id x (hr _ _ h) h1
  | w id off len cap A x h hcap hA => intro ρ' hr; exact .w id off len cap A x (hr _ _ h) hcap hA
  | p id off b x h hb => intro ρ' hr; exact .p id off b x (hr _ _ h) hb
  | i fr c sz off len cap A u hcap hA hc ih =>
    intro ρ' hr
    refine .i fr c sz off len cap A u hcap (fun hl => ?_) (fun e f he hf => ih e f he hf _ (fun _ _ h => h))
    obtain ⟨ad, h1, h2, h3, h4⟩ := hA hl
    exact ⟨ad, h1, (hI _ h2).1, fun hfr => Nat.le_trans hB (h3 hfr), fun e f he hf => by
      rw [World.cell?_of_block (w := w) (a := ad.add (e * sz + f))]
      · exact h4 e f he hf
      · have : (ad.add (e * sz + f)).block = ad.block := by unfold Addr.add; split <;> rfl
        rw [this]; exact (hI _ h2).2⟩
  | q fr c sz e f ad u h2 h3 hcell hc ih =>
    intro ρ' hr
    refine .q fr c sz e f ad u (hI _ h2).1 (fun hfr => Nat.le_trans hB (h3 hfr)) (fun j hj => ?_) (fun j hj => ih j hj _ (fun _ _ h => h))
    rw [World.cell?_of_block (w := w) (a := ad.add j)]
    · exact hcell j hj
    · have : (ad.add j).block = ad.block := by unfold Addr.add; split <;> rfl
      rw [this]; exact (hI _ h2).2
  | a cs us hl h ih => intro ρ' hr; exact .a cs us hl fun j hj => ih j hj _ hr
  | t cs us hl h ih => intro ρ' hr; exact .t cs us hl fun j hj => ih j hj _ hr
  | f fn cs us hl h ih => intro ρ' hr; exact .f fn cs us hl fun j hj => ih j hj _ hr
  | g b x u h h0 ih => intro ρ' hr; exact .g b x u (fun hb => ih hb _ hr) h0
  | top u => intro ρ' _; exact .top u

theorem Conc.monoC {B B' : Nat} {I I' : Nat → Prop} {w w' : World} {ρ : Nat → Option Value} {x : AV} {u : Value} (h : Conc B I w ρ x u) (hB : B' ≤ B) (hI : ∀ b, I b → I' b) (hw : ∀ ad v, I ad.block → w.cell? ad = some v → w'.cell? ad = some v) :
    ∀ ρ', (∀ id y, ρ id = some y → ρ' id = some y) → Conc B' I' w' ρ' x u := by
  induction h with
  | v x => intro ρ' _; exact .v x
  | s id x h h1 => intro ρ' hr; exact .s id x (hr _ _ h) h1
  | w id off len cap A x h hcap hA => intro ρ' hr; exact .w id off len cap A x (hr _ _ h) hcap hA
  | p id off b x h hb => intro ρ' hr; exact .p id off b x (hr _ _ h) hb
  | i fr c sz off len cap A u hcap hA hc ih =>
    intro ρ' hr
    refine .i fr c sz off len cap A u hcap (fun hl => ?_) (fun e f he hf => ih e f he hf _ (fun _ _ h => h))
    obtain ⟨ad, h1, h2, h3, h4⟩ := hA hl
    exact ⟨ad, h1, hI _ h2, fun hfr => Nat.le_trans hB (h3 hfr), fun e f he hf => hw _ _ (by
      have : (ad.add (e * sz + f)).block = ad.block := by unfold Addr.add; split <;> rfl
      rw [this]; exact h2) (h4 e f he hf)⟩
  | q fr c sz e f ad u h2 h3 hcell hc ih =>
    intro ρ' hr
    exact .q fr c sz e f ad u (hI _ h2) (fun hfr => Nat.le_trans hB (h3 hfr)) (fun j hj => hw _ _ (by
      have : (ad.add j).block = ad.block := by unfold Addr.add; split <;> rfl
      rw [this]; exact h2) (hcell j hj)) (fun j hj => ih j hj _ (fun _ _ h => h))
  | a cs us hl h ih => intro ρ' hr; exact .a cs us hl fun j hj => ih j hj _ hr
  | t cs us hl h ih => intro ρ' hr; exact .t cs us hl fun j hj => ih j hj _ hr
  | f fn cs us hl h ih => intro ρ' hr; exact .f fn cs us hl fun j hj => ih j hj _ hr
  | g b x u h h0 ih => intro ρ' hr; exact .g b x u (fun hb => ih hb _ hr) h0
  | top u => intro ρ' _; exact .top u

theorem Conc.same {B : Nat} {I : Nat → Prop} {w w' : World} {ρ : Nat → Option Value} {x : AV} {u : Value} (h : Conc B I w ρ x u) (hI : ∀ b, I b → w'.heap[b]? = w.heap[b]?) : Conc B I w' ρ x u :=
  h.mono (Nat.le_refl _) (fun b hb => ⟨hb, hI b hb⟩) ρ (fun _ _ h => h)

mutual
def AV.kill (d : Nat) : AV → AV
  | .v x => .v x
  | .s id => if id = d then .top else .s id
  | .w id off len => if id = d then .top else .w id off len
  | .p id off => if id = d then .top else .p id off
  | .i fr c sz off len => .i fr c sz off len
  | .q fr c sz e j => .q fr c sz e j
  | .a cs => .a (AV.killL d cs)
  | .t cs => .t (AV.killL d cs)
  | .f fn cs => .f fn (AV.killL d cs)
  | .g b x => .g b (AV.kill d x)
  | .top => .top
def AV.killL (d : Nat) : List AV → List AV
  | [] => []
  | x :: r => AV.kill d x :: AV.killL d r
end

theorem ZAa (d : Nat) (cs : List AV) : (AV.killL d cs).length = cs.length := by
  induction cs with
  | nil => rfl
  | cons x r ih => simp [AV.killL, ih]
theorem ZBL (d : Nat) (cs : List AV) (j : Nat) : (AV.killL d cs).getD j .top = AV.kill d (cs.getD j .top) := by
  induction cs generalizing j with
  | nil => simp [AV.killL, AV.kill]
  | cons x r ih => cases j with
    | zero => simp [AV.killL]
    | succ j => simpa [AV.killL] using ih j

theorem Conc.kill {B : Nat} {I : Nat → Prop} {w : World} {ρ : Nat → Option Value} {x : AV} {u : Value} (h : Conc B I w ρ x u) (d : Nat) :
    ∀ ρ', (∀ id, id ≠ d → ρ' id = ρ id) → Conc B I w ρ' (x.kill d) u := by
  induction h with
  | v x => intro ρ' _; rw [AV.kill]; exact .v x
  | s id x h h1 =>
    intro ρ' hr; rw [AV.kill]; split
    · exact .top _
    · exact .s id x (by rw [hr _ ‹_›]; exact h) h1
  | w id off len cap A x h hcap hA =>
    intro ρ' hr; rw [AV.kill]; split
    · exact .top _
    · exact .w id off len cap A x (by rw [hr _ ‹_›]; exact h) hcap hA
  | p id off b x h hb =>
    intro ρ' hr; rw [AV.kill]; split
    · exact .top _
    · exact .p id off b x (by rw [hr _ ‹_›]; exact h) hb
  | i fr c sz off len cap A u hcap hA hc ih => intro ρ' _; rw [AV.kill]; exact .i fr c sz off len cap A u hcap hA hc
  | q fr c sz e f ad u h2 h3 hcell hc ih => intro ρ' _; rw [AV.kill]; exact .q fr c sz e f ad u h2 h3 hcell hc
  | a cs us hl h ih => intro ρ' hr; rw [AV.kill]; exact .a _ us (by rw [ZAa]; exact hl) fun j hj => by rw [ZBL]; exact ih j (by rwa [ZAa] at hj) _ hr
  | t cs us hl h ih => intro ρ' hr; rw [AV.kill]; exact .t _ us (by rw [ZAa]; exact hl) fun j hj => by rw [ZBL]; exact ih j (by rwa [ZAa] at hj) _ hr
  | f fn cs us hl h ih => intro ρ' hr; rw [AV.kill]; exact .f fn _ us (by rw [ZAa]; exact hl) fun j hj => by rw [ZBL]; exact ih j (by rwa [ZAa] at hj) _ hr
  | g b x u h h0 ih => intro ρ' hr; rw [AV.kill]; exact .g b _ u (fun hb => ih hb _ hr) h0
  | top u => intro ρ' _; rw [AV.kill]; exact .top u

inductive Cont where
  | ints (k : IntKind) (l : List Int)
  | vals (l : List Value)
  | avs (l : List AV)
def Cont.len : Cont → Nat
  | .ints _ l => l.length
  | .vals l => l.length
  | .avs l => l.length
def Cont.at : Cont → Nat → AV
  | .ints k l, j => .v (.int k (l.getD j 0))
  | .vals l, j => .v (l.getD j undef)
  | .avs l, j => l.getD j .top
def Cont.upd : Cont → Nat → AV → Option Cont
  | .ints k l, j, .v (.int k' n) => if k' = k then some (.ints k (l.set j n)) else none
  | .vals l, j, .v x => some (.vals (l.set j x))
  | .avs l, j, x => some (.avs (l.set j x))
  | _, _, _ => none
def Cont.kill (d : Nat) : Cont → Cont
  | .ints k l => .ints k l
  | .vals l => .vals l
  | .avs l => .avs (AV.killL d l)

theorem getD_set_self {α : Type} (l : List α) (j : Nat) (x d : α) (h : j < l.length) : (l.set j x).getD j d = x := by simp [List.getD_eq_getElem?_getD, h]
theorem getD_set_ne {α : Type} (l : List α) (j k : Nat) (x d : α) (h : j ≠ k) : (l.set j x).getD k d = l.getD k d := by simp [List.getD_eq_getElem?_getD, List.getElem?_set_ne h]

theorem Cont.upd_spec {c c' : Cont} {j : Nat} {x : AV} (h : c.upd j x = some c') (hj : j < c.len) : c'.len = c.len ∧ c'.at j = x ∧ ∀ k, k ≠ j → c'.at k = c.at k := by
  unfold Cont.upd at h
  split at h
  · split at h
    · injection h with h; subst h; subst ‹_ = _›
      exact ⟨by simp [Cont.len], by simp only [Cont.at]; rw [getD_set_self _ _ _ _ (by simpa [Cont.len] using hj)], fun k hk => by simp only [Cont.at]; rw [getD_set_ne _ _ _ _ _ (Ne.symm hk)]⟩
    · cases h
  · injection h with h; subst h
    exact ⟨by simp [Cont.len], by simp only [Cont.at]; rw [getD_set_self _ _ _ _ (by simpa [Cont.len] using hj)], fun k hk => by simp only [Cont.at]; rw [getD_set_ne _ _ _ _ _ (Ne.symm hk)]⟩
  · injection h with h; subst h
    exact ⟨by simp [Cont.len], by simp only [Cont.at]; rw [getD_set_self _ _ _ _ (by simpa [Cont.len] using hj)], fun k hk => by simp only [Cont.at]; rw [getD_set_ne _ _ _ _ _ (Ne.symm hk)]⟩
  · cases h
theorem Cont.kill_len (d : Nat) (c : Cont) : (c.kill d).len = c.len := by cases c <;> simp [Cont.kill, Cont.len, ZAa]
theorem Cont.kill_at (d : Nat) (c : Cont) (j : Nat) : (c.kill d).at j = (c.at j).kill d := by cases c <;> simp only [Cont.kill, Cont.at, AV.kill, ZBL]

inductive Key where
  | i (n : Int)
  | s (b : ByteArray)
  deriving DecidableEq
def Key.val : Key → Value
  | .i n => .int .i64 n
  | .s b => .string b
def Key.wf : Key → Prop
  | .i n => -9223372036854775808 ≤ n ∧ n ≤ 9223372036854775807
  | .s b => b.size ≤ 9223372036854775807
def Key.isI : Key → Bool
  | .i _ => true
  | .s _ => false
def vwf : Value → Prop
  | .int k n => k = .i64 ∧ -9223372036854775808 ≤ n ∧ n ≤ 9223372036854775807
  | _ => True
inductive MC where
  | ints (kd : Bool) (k : IntKind) (m : List (Key × Int))
  | bools (kd : Bool) (m : List (Key × Bool))
  | anys (kd : Bool) (m : List (Key × Value))
def MC.ents : MC → List (Key × Value)
  | .ints _ k m => m.map fun p => (p.1, .int k p.2)
  | .bools _ m => m.map fun p => (p.1, .bool p.2)
  | .anys _ m => m
def MC.kd : MC → Bool
  | .ints b _ _ => b
  | .bools b _ => b
  | .anys b _ => b

inductive Blk where
  | box (t : TypeId) (c : Cont)
  | row (e : TypeId) (sz : Nat) (c : Cont)
  | mp (c : MC)
  | nst (e : TypeId) (c : Cont)
  | mpa (kd : Bool) (ks : List Key) (c : Cont)
def Blk.kill (d : Nat) : Blk → Blk
  | .box t c => .box t (c.kill d)
  | .row e sz c => .row e sz c
  | .mp c => .mp c
  | .nst e c => .nst e (c.kill d)
  | .mpa kd ks c => .mpa kd ks (c.kill d)

def MapAt (w : World) (b : Nat) (c : MC) : Prop := ∃ es clock, w.heap[b]? = some (.map es clock) ∧ es.toList.map (fun e => (e.key, e.val)) = c.ents.map (fun p => (p.1.val, p.2)) ∧ MapKept.Stamped es clock ∧ es.size ≤ 9223372036854775807 ∧ ∀ p ∈ c.ents, p.1.wf ∧ p.1.isI = c.kd ∧ vwf p.2

def BlkOK (B : Nat) (I : Nat → Prop) (w : World) (ρ : Nat → Option Value) (x : Value) : Blk → Prop
  | .box t c => ∃ b us, x = .pointer (some ⟨b, 0, none⟩) ∧ B ≤ b ∧ w.heap[b]? = some (.cells us t (0, 0)) ∧ us.size = c.len ∧ ∀ j u, us[j]? = some u → Conc B I w ρ (c.at j) u
  | .row e sz c => ∃ n xs, w.ownsRow B e sz x n xs ∧ c.len = n * sz ∧ ∀ j u, xs[j]? = some u → Conc B I w noId (c.at j) u
  | .mp c => ∃ b, x = .map (some b) ∧ B ≤ b ∧ MapAt w b c
  | .nst e c => ∃ n xs, w.ownsRow B e 1 x n xs ∧ c.len = n * 1 ∧ ∀ j u, xs[j]? = some u → Conc B I w ρ (c.at j) u
  | .mpa kd ks c => ∃ b vals, x = .map (some b) ∧ B ≤ b ∧ MapAt w b (.anys kd (ks.zip vals)) ∧ vals.length = ks.length ∧ c.len = ks.length ∧ ∀ j u, vals[j]? = some u → Conc B I w ρ (c.at j) u

def lk : List (Nat × AV) → Nat → AV
  | [], _ => .top
  | (k, x) :: r, s => if k = s then x else lk r s
def lkH : List (Nat × Blk) → Nat → Option Blk
  | [], _ => none
  | (k, x) :: r, s => if k = s then some x else lkH r s

structure HW (B : Nat) (I : Nat → Prop) (w : World) (ρ : Nat → Option Value) (H : List (Nat × Blk)) : Prop where
  ok : ∀ id blk, lkH H id = some blk → ∃ x, ρ id = some x ∧ BlkOK B I w ρ x blk
  apart : ∀ id id' blk blk' x x' b, id ≠ id' → lkH H id = some blk → lkH H id' = some blk' → ρ id = some x → ρ id' = some x' → rootBlk x = some b → rootBlk x' ≠ some b
  imm : ∀ id blk x b, lkH H id = some blk → ρ id = some x → rootBlk x = some b → ¬ I b
  lt : ∀ b, I b → b < w.heap.size

structure St where
  env : List (Nat × AV)
  heap : List (Nat × Blk)
def ofVal : Value → AV
  | .agg cs => .a (cs.toList.map .v)
  | x => .v x
theorem ZBx {B : Nat} {I : Nat → Prop} {w : World} {ρ : Nat → Option Value} (x : Value) : Conc B I w ρ (ofVal x) x := by
  cases x <;> simp only [ofVal] <;> first | exact .v _ | skip
  rename_i cs
  refine .a _ _ (by simp) fun j hj => ?_
  simp at hj
  have : (cs.toList.map AV.v).getD j .top = .v (cs.getD j undef) := by simp [List.getD_eq_getElem?_getD, Array.getD_eq_getD_getElem?, hj]
  rw [this]; exact .v _
def St.ev (st : St) : Operand → AV
  | .tmp t => lk st.env t
  | .const v => ofVal v
  | .func f => .v (.func (.func f) #[] #[])
  | .global _ => .top

structure Orig where
  w : World
  I : Nat → Prop
  gh : Nat → Option (Option Value)
  ds : List Deferred := []
  rd : Option Nat := none

def Marks (B : Nat) (I : Nat → Prop) (w : World) (w0 : Orig) (ds : List Deferred) : Prop :=
  ∃ Ds : List Nat, ds = Ds.map (fun D => { target := .collected D, args := #[] }) ++ w0.ds ∧ Ds.Nodup ∧ ∀ D ∈ Ds, B ≤ D ∧ ¬ w0.I D ∧ I D ∧ w.heap[D]? = some (.deferred (some []))
theorem Marks.nil {B : Nat} {I : Nat → Prop} {w : World} {w0 : Orig} : Marks B I w w0 w0.ds := ⟨[], rfl, List.nodup_nil, fun _ h => by cases h⟩
theorem Marks.mono {B : Nat} {I I' : Nat → Prop} {w w' : World} {w0 : Orig} {ds : List Deferred} (h : Marks B I w w0 ds) (hI : ∀ b, I b → I' b ∧ w'.heap[b]? = w.heap[b]?) : Marks B I' w' w0 ds := by
  obtain ⟨Ds, h1, h2, h3⟩ := h
  exact ⟨Ds, h1, h2, fun D hD => ⟨(h3 D hD).1, (h3 D hD).2.1, (hI D (h3 D hD).2.2.1).1, by rw [(hI D (h3 D hD).2.2.1).2]; exact (h3 D hD).2.2.2⟩⟩

structure Old (n B : Nat) (w0 : Orig) (w : World) (ρ : Nat → Option Value) (I : Nat → Prop) : Prop where
  up : ∀ b, I b → w0.I b ∨ B ≤ b
  gh : ∀ id x, w0.gh id = some x → ρ id = x
  ghn : ∀ d, d < n → w0.gh d = none
  keep : ∀ b, w0.I b → I b ∧ w.heap[b]? = w0.w.heap[b]?

structure Gam (n B : Nat) (w0 : Orig) (st : St) (a : Act) (w : World) (ρ : Nat → Option Value) (I : Nat → Prop) : Prop where
  defers : Marks B I w w0 a.defers
  size : a.tmps.size = n
  env : ∀ s, Conc B I w ρ (lk st.env s) (a.tmps.getD s undef)
  hw : HW B I w ρ st.heap
  below : Below B w0.w w
  base : B ≤ w.heap.size
  old : Old n B w0 w ρ I
def G (n B : Nat) (w0 : Orig) (st : St) (a : Act) (w : World) : Prop := ∃ ρ I, Gam n B w0 st a w ρ I

theorem ZAi {w : World} {base : Nat} {e : TypeId} {size : Nat} {v : Value} {n : Nat} {xs : List Value} (h : w.ownsRow base e size v n xs) : rootBlk v = v.ownBlock := by
  rcases h.2 with ⟨rfl, _⟩ | ⟨g, cap, cur, rfl, _⟩ <;> rfl

theorem BlkOK.lt {B : Nat} {I : Nat → Prop} {w : World} {ρ : Nat → Option Value} {x : Value} {blk : Blk} (h : BlkOK B I w ρ x blk) {b : Nat} (hb : rootBlk x = some b) : B ≤ b ∧ b < w.heap.size := by
  cases blk with
  | box t c =>
    obtain ⟨b', us, rfl, hB, hh, _⟩ := h
    simp [rootBlk] at hb; subst hb
    exact ⟨hB, (Array.getElem?_eq_some_iff.1 hh).1⟩
  | row e sz c =>
    obtain ⟨n, xs, ho, _⟩ := h
    rw [ZAi ho] at hb
    exact ho.lt b hb
  | nst e c =>
    obtain ⟨n, xs, ho, _⟩ := h
    rw [ZAi ho] at hb
    exact ho.lt b hb
  | mp c =>
    obtain ⟨b', rfl, hB, es, clock, hh, _⟩ := h
    simp [rootBlk] at hb; subst hb
    exact ⟨hB, (Array.getElem?_eq_some_iff.1 hh).1⟩
  | mpa kd ks c =>
    obtain ⟨b', vals, rfl, hB, ⟨es, clock, hh, _⟩, _⟩ := h
    simp [rootBlk] at hb; subst hb
    exact ⟨hB, (Array.getElem?_eq_some_iff.1 hh).1⟩

structure Quiet (I : Nat → Prop) (w : World) (I' : Nat → Prop) (w' : World) : Prop where
  below : Below w.heap.size w w'
  le : ∀ b, I b → I' b
  new : ∀ b, I' b → ¬ I b → w.heap.size ≤ b
  lt : ∀ b, I' b → b < w'.heap.size

theorem Quiet.refl {I : Nat → Prop} {w : World} (h : ∀ b, I b → b < w.heap.size) : Quiet I w I w := ⟨Below.refl _ _, fun _ h => h, fun _ h h' => absurd h h', h⟩
theorem Quiet.trans {I I' I'' : Nat → Prop} {w w' w'' : World} (h : Quiet I w I' w') (k : Quiet I' w' I'' w'') : Quiet I w I'' w'' :=
  ⟨h.below.trans (k.below.mono h.below.size), fun b hb => k.le b (h.le b hb), fun b hb hn => by
    by_cases h' : I' b
    · exact h.new b h' hn
    · exact Nat.le_trans h.below.size (k.new b hb h'), k.lt⟩

theorem Conc.quiet {B : Nat} {I I' : Nat → Prop} {w w' : World} {ρ : Nat → Option Value} {x : AV} {u : Value} (h : Conc B I w ρ x u) (hq : Quiet I w I' w') (hlt : ∀ b, I b → b < w.heap.size) : Conc B I' w' ρ x u :=
  h.mono (Nat.le_refl _) (fun b hb => ⟨hq.le b hb, hq.below.block b (hlt b hb)⟩) ρ (fun _ _ h => h)

theorem ZBY {w w' : World} {base : Nat} {e : TypeId} {size : Nat} {v : Value} {n : Nat} {xs : List Value} (h : w.ownsRow base e size v n xs) (hb : ∀ b, rootBlk v = some b → w'.heap[b]? = w.heap[b]?) : w'.ownsRow base e size v n xs := by
  refine ⟨h.1, ?_⟩
  rcases h.2 with hn | ⟨g, cap, cur, rfl, h1, h2, r⟩
  · exact .inl hn
  · exact .inr ⟨g, cap, cur, rfl, h1, by rw [hb g rfl]; exact h2, r⟩

theorem BlkOK.move {B : Nat} {I I' : Nat → Prop} {w w' : World} {ρ ρ' : Nat → Option Value} {x : Value} {blk : Blk} (h : BlkOK B I w ρ x blk) (hb : ∀ b, rootBlk x = some b → w'.heap[b]? = w.heap[b]?)
    (hI : ∀ b, I b → I' b ∧ w'.heap[b]? = w.heap[b]?) (hρ : ∀ id y, ρ id = some y → ρ' id = some y) : BlkOK B I' w' ρ' x blk := by
  cases blk with
  | box t c =>
    obtain ⟨b, us, rfl, hB, hh, hl, hc⟩ := h
    exact ⟨b, us, rfl, hB, by rw [hb b rfl]; exact hh, hl, fun j u hu => (hc j u hu).mono (Nat.le_refl _) hI _ hρ⟩
  | row e sz c =>
    obtain ⟨n, xs, ho, hl, hc⟩ := h
    exact ⟨n, xs, ZBY ho hb, hl, fun j u hu => (hc j u hu).mono (Nat.le_refl _) hI _ (fun _ _ h => h)⟩
  | nst e c =>
    obtain ⟨n, xs, ho, hl, hc⟩ := h
    exact ⟨n, xs, ZBY ho hb, hl, fun j u hu => (hc j u hu).mono (Nat.le_refl _) hI _ hρ⟩
  | mp c =>
    obtain ⟨b', rfl, hB, es, clock, hh, r⟩ := h
    exact ⟨b', rfl, hB, es, clock, by rw [hb b' rfl]; exact hh, r⟩
  | mpa kd ks c =>
    obtain ⟨b', vals, rfl, hB, ⟨es, clock, hh, r⟩, hl, hl2, hc⟩ := h
    exact ⟨b', vals, rfl, hB, ⟨es, clock, by rw [hb b' rfl]; exact hh, r⟩, hl, hl2, fun j u hu => (hc j u hu).mono (Nat.le_refl _) hI _ hρ⟩

theorem HW.quiet {B : Nat} {I I' : Nat → Prop} {w w' : World} {ρ : Nat → Option Value} {H : List (Nat × Blk)} (h : HW B I w ρ H) (hq : Quiet I w I' w') : HW B I' w' ρ H := by
  refine ⟨fun id blk hk => ?_, h.apart, fun id blk x b hk hx hb hI => ?_, hq.lt⟩
  · obtain ⟨x, hx, hok⟩ := h.ok id blk hk
    exact ⟨x, hx, hok.move (fun b hb => hq.below.block b (hok.lt hb).2) (fun b hb => ⟨hq.le b hb, hq.below.block b (h.lt b hb)⟩) (fun _ _ h => h)⟩
  · obtain ⟨x', hx', hok⟩ := h.ok id blk hk
    rw [hx] at hx'; injection hx' with hx'; subst hx'
    have := (hok.lt hb).2
    have := hq.new b hI (h.imm id blk x b hk hx hb)
    omega

theorem Gam.quiet {n B : Nat} {w0 : Orig} {st : St} {a : Act} {w w' : World} {ρ : Nat → Option Value} {I I' : Nat → Prop} (h : Gam n B w0 st a w ρ I) (hq : Quiet I w I' w') : Gam n B w0 st a w' ρ I' :=
  ⟨h.defers.mono (fun b hb => ⟨hq.le b hb, hq.below.block b (h.hw.lt b hb)⟩), h.size, fun s => (h.env s).quiet hq h.hw.lt, h.hw.quiet hq, h.below.trans (hq.below.mono h.base), Nat.le_trans h.base hq.below.size, ⟨fun b hb => by
    by_cases hi : I b
    · exact h.old.up b hi
    · exact .inr (Nat.le_trans h.base (hq.new b hb hi)), h.old.gh, h.old.ghn, fun b hb => ⟨hq.le b (h.old.keep b hb).1, by rw [hq.below.block b (h.hw.lt b (h.old.keep b hb).1)]; exact (h.old.keep b hb).2⟩⟩⟩

def St.put (st : St) (d : Option Nat) (x : AV) : St :=
  match d with
  | some d => { st with env := (d, x) :: st.env }
  | none => st

theorem Gam.put {n B : Nat} {w0 : Orig} {st : St} {a : Act} {w : World} {ρ : Nat → Option Value} {I : Nat → Prop} (h : Gam n B w0 st a w ρ I) {d : Option Nat} (hd : ∀ k, d = some k → k < n) {x : AV} {u : Value} (hx : Conc B I w ρ x u) :
    Gam n B w0 (st.put d x) (a.put d u) w ρ I := by
  cases d with
  | none => exact h
  | some d =>
    refine ⟨h.defers, by simp [Act.put, h.size], fun s => ?_, h.hw, h.below, h.base, h.old⟩
    simp only [St.put, lk, Act.put]
    by_cases e : d = s
    · subst e
      rw [if_pos rfl]
      have : (a.tmps.setIfInBounds d u).getD d undef = u := by
        have := hd d rfl
        rw [← h.size] at this
        simp [Array.getD_eq_getD_getElem?, this]
      rw [this]; exact hx
    · rw [if_neg e]
      have : (a.tmps.setIfInBounds d u).getD s undef = a.tmps.getD s undef := by
        simp [Array.getD_eq_getD_getElem?, Array.getElem?_setIfInBounds_ne e]
      rw [this]; exact h.env s

theorem Gam.ev {n B : Nat} {w0 : Orig} {st : St} {a : Act} {w : World} {ρ : Nat → Option Value} {I : Nat → Prop} (h : Gam n B w0 st a w ρ I) (x : Operand) : Conc B I w ρ (st.ev x) (a.eval x) := by
  cases x with
  | tmp t => exact h.env t
  | const v => exact ZBx v
  | func f => exact .v _
  | global g => exact .top _

end Go.Eng
namespace Go.Eng
open Go.RowKit

inductive TK where
  | int (k : IntKind)
  | bool
  | str
  | sl (e : TypeId)
  | ptr (e : TypeId)
  | st (q : Bool) (fs : List (Nat × TypeId))
  | arr (n : Nat) (e : TypeId)
  | mapt (k e : TypeId)
  | oth
structure TI where
  k : TK
  sz : Nat
  by_ : Nat
  z : Value
abbrev Tab := TypeId → Option TI
def TK.ok (P : Program) (t : TypeId) : TK → Prop
  | .int k => P.underlying t = some (.int k)
  | .bool => P.underlying t = some .bool
  | .str => P.underlying t = some .string
  | .sl e => P.underlying t = some (.slice e)
  | .ptr e => P.underlying t = some (.pointer e)
  | .st q fs => ∃ F, P.underlying t = some (.struct F) ∧ (F.toList.map fun f => (f.offset, f.type)) = fs ∧ (q = true → P.stoodInHeld t = false ∧ P.eqGuardType P.depth t = false ∧ (F.toList.all fun f => f.name != "_") = true)
  | .arr n e => P.underlying t = some (.array n e)
  | .mapt k e => P.underlying t = some (.map k e)
  | .oth => ∃ d, P.underlying t = some d ∧ (match d with | .struct _ | .array _ _ => false | _ => true) = true
def TK.agg : TK → Bool
  | .st _ _ => true
  | .arr _ _ => true
  | _ => false
structure TI.ok (P : Program) (t : TypeId) (i : TI) : Prop where
  info : ∃ inf, P.info? t = some inf ∧ inf.size = i.sz ∧ inf.bytes = i.by_ ∧ inf.zero = some i.z
  kind : i.k.ok P t
def Tab.ok (P : Program) (T : Tab) : Prop := ∀ t i, T t = some i → TI.ok P t i

section
variable {P : Program} {t : TypeId} {i : TI} (w : World)
theorem TI.ok.size (h : TI.ok P t i) : (sizeOf t).run P w = .ok i.sz w := by
  obtain ⟨inf, h1, h2, _⟩ := h.info
  simp [sizeOf, typeInfo, h1, h2]
theorem TI.ok.agg (h : TI.ok P t i) : (isAgg t).run P w = .ok i.k.agg w := by
  have hk := h.kind
  unfold isAgg
  cases hi : i.k <;> rw [hi] at hk <;> simp only [TK.ok] at hk
  case st q fs => obtain ⟨F, hF, _⟩ := hk; simp [run_underlying hF, TK.agg]
  case oth =>
    obtain ⟨d, hd, hd'⟩ := hk
    simp only [Sem.run_bind, run_underlying hd, Result.andThen_ok]
    cases d <;> simp at hd' <;> simp [TK.agg]
  all_goals simp [run_underlying hk, TK.agg]
end

def AV.strip : AV → AV
  | .g _ x => x.strip
  | x => x
def AV.cond : AV → Prop
  | .g b x => b = true ∧ x.cond
  | _ => True
theorem Conc.strip {B : Nat} {I : Nat → Prop} {w : World} {ρ : Nat → Option Value} {x : AV} {u : Value} (h : Conc B I w ρ x u) (hk : x.cond) : Conc B I w ρ x.strip u := by
  induction h with
  | g b x u h h0 ih => exact ih hk.1 hk.2
  | v x => exact .v x
  | s id x h h1 => exact .s id x h h1
  | w id off len cap A x h hcap hA => exact .w id off len cap A x h hcap hA
  | p id off b x h hb => exact .p id off b x h hb
  | i fr c sz off len cap A u hcap hA hc ih => exact .i fr c sz off len cap A u hcap hA hc
  | q fr c sz e f ad u h2 h3 hcell hc ih => exact .q fr c sz e f ad u h2 h3 hcell hc
  | a cs us hl h ih => exact .a cs us hl h
  | t cs us hl h ih => exact .t cs us hl h
  | f fn cs us hl h ih => exact .f fn cs us hl h
  | top u => exact .top u

theorem Conc.v_inv {B : Nat} {I : Nat → Prop} {w : World} {ρ : Nat → Option Value} {x u : Value} (h : Conc B I w ρ (.v x) u) : u = x := by cases h; rfl

theorem Conc.up {B : Nat} {I : Nat → Prop} {w : World} {ρ : Nat → Option Value} {x : AV} {u : Value} (h : Conc B I w noId x u) : Conc B I w ρ x u :=
  h.mono (Nat.le_refl _) (fun b hb => ⟨hb, rfl⟩) ρ (fun _ _ h => by cases h)

def cellsFrom (g : Nat → AV) (j : Nat) : Nat → List AV
  | 0 => []
  | n + 1 => g j :: cellsFrom g (j + 1) n
theorem ZAq (g : Nat → AV) (j n : Nat) : (cellsFrom g j n).length = n := by
  induction n generalizing j with
  | zero => rfl
  | succ n ih => simp [cellsFrom, ih]
theorem ZBv (g : Nat → AV) (j n k : Nat) (h : k < n) : (cellsFrom g j n).getD k .top = g (j + k) := by
  induction n generalizing j k with
  | zero => omega
  | succ n ih =>
    cases k with
    | zero => simp [cellsFrom]
    | succ k =>
      have := ih (j + 1) k (by omega)
      simp only [cellsFrom, List.getD_cons_succ]
      rw [this]; congr 1; omega

theorem ZAf (b off k : Nat) : (⟨b, off, none⟩ : Addr).add k = ⟨b, off + k, none⟩ := by unfold Addr.add; split <;> simp_all
theorem add_add (a : Addr) (i j : Nat) : (a.add i).add j = a.add (i + j) := by
  unfold Addr.add
  by_cases hi : i = 0 <;> by_cases hj : j = 0 <;> simp [hi, hj, Nat.add_assoc]
theorem add_block (a : Addr) (n : Nat) : (a.add n).block = a.block := by unfold Addr.add; split <;> rfl

def Blk.cont : Blk → Cont
  | .box _ c => c
  | .row _ _ c => c
  | .mp _ => .avs []
  | .mpa _ _ _ => .avs []
  | .nst _ c => c

theorem HW.cell {B : Nat} {I : Nat → Prop} {w : World} {ρ : Nat → Option Value} {H : List (Nat × Blk)} (h : HW B I w ρ H) {id : Nat} {blk : Blk} (hk : lkH H id = some blk) {x : Value} (hx : ρ id = some x) {b : Nat} (hb : rootBlk x = some b) {j : Nat} (hj : j < blk.cont.len) :
    ∃ u, w.cell? ⟨b, j, none⟩ = some u ∧ Conc B I w ρ (blk.cont.at j) u := by
  obtain ⟨x', hx', hok⟩ := h.ok id blk hk
  rw [hx] at hx'; injection hx' with hx'; subst hx'
  cases blk with
  | box t c =>
    obtain ⟨b', us, rfl, hB, hh, hl, hc⟩ := hok
    simp [rootBlk] at hb; subst hb
    have hj' : j < us.size := by rw [hl]; exact hj
    refine ⟨us[j], ?_, hc j _ (by simp [hj'])⟩
    simp [World.cell?, hh, hj']
  | row e sz c =>
    obtain ⟨n, xs, ho, hl, hc⟩ := hok
    have hj' : j < xs.length := by rw [ho.1, ← hl]; exact hj
    rw [ZAi ho] at hb
    have := ho.cells hb j xs[j] (by simp [hj'])
    rw [ZAf, Nat.zero_add] at this
    exact ⟨xs[j], this, (hc j _ (by simp [hj'])).up⟩
  | nst e c =>
    obtain ⟨n, xs, ho, hl, hc⟩ := hok
    have hj' : j < xs.length := by rw [ho.1, ← hl]; exact hj
    rw [ZAi ho] at hb
    have := ho.cells hb j xs[j] (by simp [hj'])
    rw [ZAf, Nat.zero_add] at this
    exact ⟨xs[j], this, hc j _ (by simp [hj'])⟩
  | mp c => simp [Blk.cont, Cont.len] at hj
  | mpa kd ks c => simp [Blk.cont, Cont.len] at hj

def pvLoad (T : Tab) (H : List (Nat × Blk)) (t : TypeId) (x : AV) : Option (Prop × AV) :=
  match x.strip with
  | .p id off =>
    match T t, lkH H id with
    | some ti, some blk =>
      if ti.k.agg then some (x.cond ∧ off + ti.sz ≤ blk.cont.len, .a (cellsFrom (fun j => blk.cont.at (off + j)) 0 ti.sz))
      else some (x.cond ∧ off < blk.cont.len, blk.cont.at off)
    | _, _ => none
  | .q _ c sz e f =>
    match T t with
    | some ti =>
      if ti.k.agg then some (x.cond ∧ f + ti.sz ≤ sz, .a (cellsFrom (fun j => c e (f + j)) 0 ti.sz))
      else some (x.cond ∧ f < sz, c e f)
    | none => none
  | _ => none

theorem ZEQ {P : Program} {T : Tab} (hT : T.ok P) {B : Nat} {I : Nat → Prop} {w : World} {ρ : Nat → Option Value} {t : TypeId} {ti : TI} (ht : T t = some ti) (ad : Addr) (c : Nat → AV)
    (h : ∀ j, j < (if ti.k.agg then ti.sz else 1) → ∃ u, w.cell? (ad.add j) = some u ∧ Conc B I w ρ (c j) u) :
    ∃ v, (loadVar t ad).run P w = .ok v w ∧ Conc B I w ρ (if ti.k.agg then .a (cellsFrom c 0 ti.sz) else c 0) v := by
  have hi := hT t ti ht
  unfold loadVar
  simp only [Sem.run_bind, hi.agg w, Result.andThen_ok]
  cases hag : ti.k.agg
  · simp only [hag, Bool.false_eq_true, if_false] at h ⊢
    obtain ⟨u, h1, h2⟩ := h 0 (by omega)
    have : ad.add 0 = ad := rfl
    rw [this] at h1
    exact ⟨u, by simp [h1], h2⟩
  · simp only [hag, if_true] at h ⊢
    have hu : ∃ f : Nat → Value, ∀ j, j < ti.sz → w.cell? (ad.add j) = some (f j) ∧ Conc B I w ρ (c j) (f j) :=
      ⟨fun j => if hj : j < ti.sz then Classical.choose (h j hj) else undef, fun j hj => by simp only [hj, dif_pos]; exact Classical.choose_spec (h j hj)⟩
    obtain ⟨f, hf⟩ := hu
    have hr := run_loadCells (P := P) w ad ti.sz f (fun j hj => (hf j hj).1)
    refine ⟨.agg ((List.range ti.sz).map f).toArray, by simp [hi.size w, hr], .a _ _ (by simp [ZAq]) fun j hj => ?_⟩
    rw [ZAq] at hj
    rw [ZBv _ _ _ _ hj, Nat.zero_add]
    have : (((List.range ti.sz).map f).toArray).getD j undef = f j := by simp [Array.getD_eq_getD_getElem?, hj]
    rw [this]
    exact (hf j hj).2

section
variable {P : Program} {T : Tab} (hT : T.ok P) {B : Nat} {I : Nat → Prop} {w : World} {ρ : Nat → Option Value} {H : List (Nat × Blk)} (hw : HW B I w ρ H)
include hT hw

theorem ZFe {t : TypeId} {x : AV} {u : Value} {φ : Prop} {r : AV} (h : pvLoad T H t x = some (φ, r)) (hφ : φ) (hx : Conc B I w ρ x u) :
    ∃ v, (Instr.loadAt t u).run P w = .ok v w ∧ Conc B I w ρ r v := by
  unfold pvLoad at h
  split at h
  · rename_i id off hs
    split at h
    · rename_i ti blk ht hk
      have key : x.cond ∧ ∀ j, j < (if ti.k.agg then ti.sz else 1) → off + j < blk.cont.len := by
        split at h
        · rename_i hag; injection h with h; injection h with h1 h2; subst h1; rw [if_pos hag]; exact ⟨hφ.1, fun j hj => by have := hφ.2; omega⟩
        · rename_i hag; injection h with h; injection h with h1 h2; subst h1; rw [if_neg hag]; exact ⟨hφ.1, fun j hj => by have := hφ.2; omega⟩
      have hc := hx.strip key.1
      rw [hs] at hc
      cases hc with
      | p _ _ b x hr hb =>
        obtain ⟨v, h1, h2⟩ := ZEQ (w := w) (B := B) (I := I) (ρ := ρ) hT ht ⟨b, off, none⟩ (fun j => blk.cont.at (off + j)) (fun j hj => by
          rw [ZAf]; exact hw.cell hk hr hb (key.2 j hj))
        refine ⟨v, by simpa [Instr.loadAt, Instr.sureAddr] using h1, ?_⟩
        split at h
        · rename_i hag; injection h with h; injection h with _ h3; subst h3; rw [if_pos hag] at h2; exact h2
        · rename_i hag; injection h with h; injection h with _ h3; subst h3; rw [if_neg hag] at h2; exact h2
    · cases h
  · rename_i fr c sz e f hs
    split at h
    · rename_i ti ht
      have key : x.cond ∧ ∀ j, j < (if ti.k.agg then ti.sz else 1) → f + j < sz := by
        split at h
        · rename_i hag; injection h with h; injection h with h1 h2; subst h1; rw [if_pos hag]; exact ⟨hφ.1, fun j hj => by have := hφ.2; omega⟩
        · rename_i hag; injection h with h; injection h with h1 h2; subst h1; rw [if_neg hag]; exact ⟨hφ.1, fun j hj => by have := hφ.2; omega⟩
      have hc := hx.strip key.1
      rw [hs] at hc
      cases hc with
      | q _ _ _ _ _ ad uu h2 h3 hcell hcc =>
        obtain ⟨v, h1, h2⟩ := ZEQ (w := w) (B := B) (I := I) (ρ := ρ) hT ht ad (fun j => c e (f + j)) (fun j hj => ⟨uu j, hcell j (key.2 j hj), (hcc j (key.2 j hj)).up⟩)
        refine ⟨v, by simpa [Instr.loadAt, Instr.sureAddr] using h1, ?_⟩
        split at h
        · rename_i hag; injection h with h; injection h with _ h3; subst h3; rw [if_pos hag] at h2; exact h2
        · rename_i hag; injection h with h; injection h with _ h3; subst h3; rw [if_neg hag] at h2; exact h2
    · cases h
  · cases h
end

end Go.Eng
namespace Go.Eng
open Go.RowKit

def getK {α : Type} (m : List (Key × α)) (k : Key) (d : α) : α := ((m.find? (fun p => p.1 = k)).map (·.2)).getD d
def updK {α : Type} (m : List (Key × α)) (k : Key) (v : α) : List (Key × α) :=
  match m with
  | [] => [(k, v)]
  | p :: r => if p.1 = k then (k, v) :: r else p :: updK r k v
def MC.upd (c : MC) (k : Key) (v : Value) : Option MC :=
  match c, v with
  | .ints kd q m, .int q' n => if q' = q then some (.ints kd q (updK m k n)) else none
  | .bools kd m, .bool x => some (.bools kd (updK m k x))
  | .anys kd m, x => some (.anys kd (updK m k x))
  | _, _ => none
def kdesc : Bool → TypeDesc
  | true => .int .i64
  | false => .string

theorem Key.val_inj {a b : Key} (h : a.val = b.val) : a = b := by
  cases a <;> cases b <;> simp [Key.val] at h <;> simp [h]
theorem Key.isKey {a : Key} {kd : Bool} (h : a.isI = kd) : MapKept.IsKey (kdesc kd) a.val := by
  subst h; cases a <;> simp [Key.isI, kdesc, Key.val, MapKept.IsKey]

theorem ZGW {α β : Type} (f : α → β) (m : List (Key × α)) (k : Key) (v : α) : (updK m k v).map (fun p => (p.1, f p.2)) = updK (m.map fun p => (p.1, f p.2)) k (f v) := by
  induction m with
  | nil => simp [updK]
  | cons p r ih =>
    simp only [updK, List.map_cons]
    split <;> simp [ih]
theorem MC.upd_ents {c c' : MC} {k : Key} {v : Value} (h : c.upd k v = some c') : c'.ents = updK c.ents k v ∧ c'.kd = c.kd := by
  unfold MC.upd at h
  split at h
  · split at h
    · rename_i hq; subst hq
      injection h with h; subst h
      exact ⟨ZGW _ _ _ _, rfl⟩
    · cases h
  · injection h with h; subst h
    exact ⟨ZGW _ _ _ _, rfl⟩
  · injection h with h; subst h
    exact ⟨rfl, rfl⟩
  · cases h
theorem ZHV {α : Type} {m : List (Key × α)} {k : Key} (v : α) (h : ∀ p ∈ m, p.1 ≠ k) : updK m k v = m ++ [(k, v)] := by
  induction m with
  | nil => rfl
  | cons p r ih =>
    simp only [updK]
    rw [if_neg (h p (by simp)), ih (fun q hq => h q (by simp [hq]))]; rfl
theorem ZJn {α : Type} {m : List (Key × α)} {k : Key} {u : α} (v : α) (hn : (m.map (·.1)).Nodup) {j : Nat} (hj : m[j]? = some (k, u)) : updK m k v = m.set j (k, v) := by
  induction m generalizing j with
  | nil => simp at hj
  | cons p r ih =>
    simp only [List.map_cons, List.nodup_cons] at hn
    cases j with
    | zero => simp at hj; subst hj; simp [updK]
    | succ j =>
      simp at hj
      have hne : p.1 ≠ k := fun e => hn.1 (by rw [e]; exact List.mem_map.2 ⟨(k, u), List.mem_of_getElem? hj, rfl⟩)
      simp [updK, hne, ih hn.2 hj]
theorem ZIv {α : Type} {m : List (Key × α)} {k : Key} {v : α} {p : Key × α} (h : p ∈ updK m k v) : p = (k, v) ∨ p ∈ m := by
  induction m with
  | nil => simp [updK] at h; exact .inl h
  | cons q r ih =>
    simp only [updK] at h
    split at h
    · rcases List.mem_cons.1 h with h | h
      · exact .inl h
      · exact .inr (by simp [h])
    · rcases List.mem_cons.1 h with h | h
      · exact .inr (by simp [h])
      · rcases ih h with h | h
        · exact .inl h
        · exact .inr (by simp [h])
theorem ZHW {α : Type} {m : List (Key × α)} {k : Key} (d : α) (h : ∀ p ∈ m, p.1 ≠ k) : getK m k d = d := by
  unfold getK
  rw [List.find?_eq_none.2 (fun p hp => by simpa using h p hp)]; rfl
theorem ZJo {α : Type} {m : List (Key × α)} {k : Key} {u : α} (d : α) (hn : (m.map (·.1)).Nodup) (h : (k, u) ∈ m) : getK m k d = u := by
  induction m with
  | nil => cases h
  | cons p r ih =>
    simp only [List.map_cons, List.nodup_cons] at hn
    rcases List.mem_cons.1 h with h | h
    · subst h; simp [getK]
    · have hne : p.1 ≠ k := fun e => hn.1 (by rw [e]; exact List.mem_map.2 ⟨(k, u), h, rfl⟩)
      have := ih hn.2 h
      simpa [getK, hne] using this

section
variable {P : Program} {w : World} {b : Nat} {c : MC} {kt : TypeId}

theorem ZFf {es : Array MapEntry} {clock : Nat} (hl : es.toList.map (fun e => (e.key, e.val)) = c.ents.map (fun p => (p.1.val, p.2))) (hs : MapKept.Stamped es clock) : (c.ents.map (·.1)).Nodup := by
  have h1 : (es.toList.map (·.key)) = (c.ents.map (·.1)).map Key.val := by
    have := congrArg (List.map (·.1)) hl
    simpa [List.map_map, Function.comp_def] using this
  have h2 := hs.2.2
  rw [h1] at h2
  exact (List.nodup_iff_pairwise_ne.1 h2).of_map Key.val (fun a b h e => h (by rw [e]))

theorem ZGX {es : Array MapEntry} (hk : P.underlying kt = some (kdesc c.kd)) (hl : es.toList.map (fun e => (e.key, e.val)) = c.ents.map (fun p => (p.1.val, p.2))) (hw : ∀ p ∈ c.ents, p.1.isI = c.kd) (key : Key) (hkey : key.isI = c.kd) :
    ((Instr.findKey kt key.val es.toList).run P w = .ok none w ∧ (∀ p ∈ c.ents, p.1 ≠ key) ∧ ∀ e ∈ es.toList, e.key ≠ key.val) ∨ ∃ j e, (Instr.findKey kt key.val es.toList).run P w = .ok (some (j, e.val)) w ∧ es.toList[j]? = some e ∧ e.key = key.val ∧ c.ents[j]? = some (key, e.val) := by
  have hks : ∀ y ∈ es.toList, MapKept.IsKey (kdesc c.kd) y.key := fun y hy => by
    have : (y.key, y.val) ∈ c.ents.map (fun p => (p.1.val, p.2)) := hl ▸ List.mem_map.2 ⟨y, hy, rfl⟩
    obtain ⟨p, hp, he⟩ := List.mem_map.1 this
    simp only [Prod.mk.injEq] at he
    rw [← he.1]; exact Key.isKey (hw p hp)
  rcases MapKept.findNow_spec (Key.isKey hkey) es.toList 0 hks with ⟨h1, h2⟩ | ⟨j, e0, h1, h2, h3⟩
  · refine .inl ⟨MapKept.run_findKey hk h1, fun p hp e => ?_, h2⟩
    have : (p.1.val, p.2) ∈ es.toList.map (fun e => (e.key, e.val)) := hl ▸ List.mem_map.2 ⟨p, hp, rfl⟩
    obtain ⟨y, hy, he⟩ := List.mem_map.1 this
    simp only [Prod.mk.injEq] at he
    exact h2 y hy (by rw [he.1, e])
  · refine .inr ⟨j, e0, by simpa using MapKept.run_findKey hk h1, h2, h3, ?_⟩
    have h4 : (c.ents.map (fun p => (p.1.val, p.2)))[j]? = some (e0.key, e0.val) := by rw [← hl, List.getElem?_map, h2]; rfl
    rw [List.getElem?_map] at h4
    cases hc : c.ents[j]? with
    | none => rw [hc] at h4; cases h4
    | some p =>
      rw [hc] at h4
      simp at h4
      have := Key.val_inj (h4.1.trans h3)
      rw [← this, ← h4.2]

theorem ZGY {t e : TypeId} (h : MapAt w b c) (ht : P.underlying t = some (.map kt e)) (hk : P.underlying kt = some (kdesc c.kd)) {z : Value} (hz : (zeroValue e).run P w = .ok z w) (key : Key) (hkey : key.isI = c.kd) :
    (Instr.lookup t (.map (some b)) key.val false).run P w = .ok (getK c.ents key z) w := by
  obtain ⟨es, clock, hb, hl, hs, _, hw⟩ := h
  have hnd := ZFf hl hs
  rcases ZGX (w := w) hk hl (fun p hp => (hw p hp).2.1) key hkey with ⟨h1, h2, _⟩ | ⟨j, e0, h1, _, _, h2⟩
  · simp [Instr.lookup, run_underlying ht, MapKept.run_getObj_map hb, MapKept.run_checkKey hk (Key.isKey hkey), h1, hz, Result.andThen, ZHW z h2]
  · simp [Instr.lookup, run_underlying ht, MapKept.run_getObj_map hb, MapKept.run_checkKey hk (Key.isKey hkey), h1, Result.andThen, ZJo z hnd (List.mem_of_getElem? h2)]

theorem ZHX {t e : TypeId} (h : MapAt w b c) (ht : P.underlying t = some (.map kt e)) (hk : P.underlying kt = some (kdesc c.kd)) (key : Key) (hkey : key.isI = c.kd) (hkw : key.wf) {v : Value} (hv : vwf v) {c' : MC} (hc : c.upd key v = some c') (hn : c.ents.length < 9223372036854775807) :
    ∃ o, (Instr.mapUpdate t (.map (some b)) key.val v).run P w = .ok () { w with heap := w.heap.setIfInBounds b o } ∧ MapAt { w with heap := w.heap.setIfInBounds b o } b c' := by
  obtain ⟨es, clock, hb, hl, hs, hsz, hw⟩ := h
  have hnd := ZFf hl hs
  have hlen : es.size = c.ents.length := by have := congrArg List.length hl; simpa using this
  have hlt := (Array.getElem?_eq_some_iff.1 hb).1
  obtain ⟨he, hkd⟩ := MC.upd_ents hc
  have hwn : ∀ p ∈ c'.ents, p.1.wf ∧ p.1.isI = c'.kd ∧ vwf p.2 := fun p hp => by
    rw [he] at hp
    rw [hkd]
    rcases ZIv hp with rfl | hp
    · exact ⟨hkw, hkey, hv⟩
    · exact hw p hp
  rcases ZGX (w := w) hk hl (fun p hp => (hw p hp).2.1) key hkey with ⟨h1, h2, h3⟩ | ⟨j, e0, h1, h2, h3, h4⟩
  · refine ⟨.map (es.push ⟨key.val, v, clock⟩) (clock + 1), ?_, es.push ⟨key.val, v, clock⟩, clock + 1, by simp [hlt], ?_, ?_, by simp; omega, hwn⟩
    · simp [Instr.mapUpdate, run_underlying ht, MapKept.run_getObj_map hb, MapKept.run_checkKey hk (Key.isKey hkey), h1, MapKept.run_setObj_map _ hb, Result.andThen]
    · rw [he, ZHV v h2, Array.toList_push, List.map_append, hl]; simp
    · exact MapKept.stamped_push hs h3
  · have hj : es[j]? = some e0 := by simpa using h2
    have hlist : (es.modify j (fun e' => { e' with key := key.val, val := v })).toList = es.toList.set j { e0 with key := key.val, val := v } := by
      rw [Array.toList_modify, ChangeMaps.modify_eq_set _ _ _ _ h2]
    refine ⟨.map (es.modify j (fun e' => { e' with key := key.val, val := v })) clock, ?_, es.modify j (fun e' => { e' with key := key.val, val := v }), clock, by simp [hlt], ?_, ?_, by simpa using hsz, hwn⟩
    · simp [Instr.mapUpdate, run_underlying ht, MapKept.run_getObj_map hb, MapKept.run_checkKey hk (Key.isKey hkey), h1, hj, h3, MapKept.run_keyThatStays (Key.isKey hkey), MapKept.run_setObj_map _ hb, Result.andThen]
    · rw [he, ZJn v hnd h4, hlist, List.map_set, hl, List.map_set]
    · exact MapKept.stamped_modify hs _ _ (fun _ _ => rfl) (fun e' _ he' => by rw [hj] at he'; cases he'; exact h3.symm)
end
end Go.Eng
namespace Go.Eng
open Go.RowKit

def asNat? : Option AV → Nat → Option (Prop × Nat)
  | none, d => some (True, d)
  | some x, _ => match x.strip with
    | .v (.int _ n) => some (x.cond ∧ 0 ≤ n, n.toNat)
    | _ => none

def pvIndexAddr (T : Tab) (H : List (Nat × Blk)) (t : TypeId) (x i : AV) : Option (Prop × AV) :=
  match i.strip with
  | .v (.int _ n) =>
    match T t with
    | some ⟨.sl e, _, _, _⟩ =>
      match T e with
      | some te =>
        match x.strip with
        | .i fr c sz off len => some (x.cond ∧ i.cond ∧ te.sz = sz ∧ 0 ≤ n ∧ n < len, .q fr c sz (off + n.toNat) 0)
        | .s id =>
          match lkH H id with
          | some (.row _ sz c) => some (x.cond ∧ i.cond ∧ te.sz = sz ∧ 0 < sz ∧ 0 ≤ n ∧ (n.toNat + 1) * sz ≤ c.len, .p id (n.toNat * sz))
          | some (.nst _ c) => some (x.cond ∧ i.cond ∧ te.sz = 1 ∧ 0 ≤ n ∧ n.toNat < c.len, .p id n.toNat)
          | _ => none
        | .w id off len => some (x.cond ∧ i.cond ∧ 0 ≤ n ∧ n < len, .p id (off + n.toNat * te.sz))
        | _ => none
      | none => none
    | some ⟨.arr m e, _, _, _⟩ =>
      match T e with
      | some te =>
        match x.strip with
        | .p id off => some (x.cond ∧ i.cond ∧ 0 ≤ n ∧ n < m, .p id (off + n.toNat * te.sz))
        | .q fr c sz el f => some (x.cond ∧ i.cond ∧ 0 ≤ n ∧ n < m, .q fr c sz el (f + n.toNat * te.sz))
        | _ => none
      | none => none
    | _ => none
  | _ => none

def pvFieldAddr (T : Tab) (s : TypeId) (x : AV) (k : Nat) : Option (Prop × AV) :=
  match T s with
  | some ⟨.st _ fs, _, _, _⟩ =>
    match fs[k]? with
    | some (o, ty) =>
      match T ty with
      | some tf =>
        match x.strip with
        | .p id off => some (x.cond ∧ tf.sz ≠ 0, .p id (off + o))
        | .q fr c sz e j => some (x.cond ∧ tf.sz ≠ 0, .q fr c sz e (j + o))
        | _ => none
      | none => none
    | none => none
  | _ => none

def pvField (T : Tab) (s : TypeId) (x : AV) (k : Nat) : Option (Prop × AV) :=
  match T s with
  | some ⟨.st _ fs, _, _, _⟩ =>
    match fs[k]? with
    | some (o, ty) =>
      match T ty, x.strip with
      | some tf, .a cs => if tf.k.agg then some (x.cond ∧ o + tf.sz ≤ cs.length, .a ((cs.drop o).take tf.sz)) else some (x.cond ∧ o < cs.length, cs.getD o .top)
      | _, _ => none
    | none => none
  | _ => none

def pvExtract (x : AV) (k : Nat) : Option (Prop × AV) :=
  match x.strip with
  | .t cs => some (x.cond ∧ k < cs.length, cs.getD k .top)
  | _ => none

def intOp : BinOp → IntKind → Int → Int → Option (Prop × Value)
  | .add, k, a, b => some (True, .int k (k.wrap (a + b)))
  | .sub, k, a, b => some (True, .int k (k.wrap (a - b)))
  | .mul, k, a, b => some (True, .int k (k.wrap (a * b)))
  | .quo, k, a, b => some (b ≠ 0, .int k (k.wrap (a.tdiv b)))
  | .rem, k, a, b => some (b ≠ 0, .int k (a.tmod b))
  | .eql, _, a, b => some (True, .bool (a == b))
  | .neq, _, a, b => some (True, .bool (a != b))
  | .lss, _, a, b => some (True, .bool (decide (a < b)))
  | .leq, _, a, b => some (True, .bool (decide (a ≤ b)))
  | .gtr, _, a, b => some (True, .bool (decide (b < a)))
  | .geq, _, a, b => some (True, .bool (decide (b ≤ a)))
  | .shr, k, a, b => some (0 ≤ b ∧ b.toNat ≤ k.bits, .int k (a.fdiv (2 ^ b.toNat)))
  | .shl, k, a, b => some (0 ≤ b ∧ b.toNat ≤ k.bits, .int k (k.wrap (a * 2 ^ b.toNat)))
  | _, _, _, _ => none

def strOp : BinOp → ByteArray → ByteArray → Option (Prop × Value)
  | .eql, a, b => some (True, .bool (a.toList == b.toList))
  | .neq, a, b => some (True, .bool (!(a.toList == b.toList)))
  | .lss, a, b => some (True, .bool (Op.bytesLess a.toList b.toList))
  | .leq, a, b => some (True, .bool (Op.bytesLess a.toList b.toList || a.toList == b.toList))
  | .gtr, a, b => some (True, .bool (!(Op.bytesLess a.toList b.toList || a.toList == b.toList)))
  | .geq, a, b => some (True, .bool (!Op.bytesLess a.toList b.toList))
  | _, _, _ => none

def eqA (T : Tab) (cs ds : List AV) : List (Nat × TypeId) → Option Bool
  | [] => some true
  | (o, ty) :: r =>
    match T ty, cs.getD o .top, ds.getD o .top with
    | some ⟨.int _, _, _, _⟩, .v (.int k a), .v (.int k' b) => if k = k' then (match eqA T cs ds r with | some t => some ((a == b) && t) | none => none) else none
    | some ⟨.bool, _, _, _⟩, .v (.bool a), .v (.bool b) => (match eqA T cs ds r with | some t => some ((a == b) && t) | none => none)
    | some ⟨.str, _, _, _⟩, .v (.string a), .v (.string b) => (match eqA T cs ds r with | some t => some ((a == b) && t) | none => none)
    | _, _, _ => none
def pvBin (T : Tab) (op : BinOp) (t : TypeId) (x y : AV) : Option (Prop × AV) :=
  match x.strip, y.strip with
  | .v (.int k a), .v (.int k' b) =>
    if k = k' then (match intOp op k a b with | some (φ, r) => some (x.cond ∧ y.cond ∧ φ, .v r) | none => none) else none
  | .v (.string a), .v (.string b) => (match strOp op a b with | some (φ, r) => some (x.cond ∧ y.cond ∧ φ, .v r) | none => none)
  | .v (.bool a), .v (.bool b) =>
    match T t, op with
    | some ⟨.bool, _, _, _⟩, .eql => some (x.cond ∧ y.cond, .v (.bool (a == b)))
    | some ⟨.bool, _, _, _⟩, .neq => some (x.cond ∧ y.cond, .v (.bool (!(a == b))))
    | _, _ => none
  | .a cs, .a ds =>
    match T t with
    | some ⟨.st true fs, _, _, _⟩ =>
      match eqA T cs ds fs, op with
      | some r, .eql => some (x.cond ∧ y.cond, .v (.bool r))
      | some r, .neq => some (x.cond ∧ y.cond, .v (.bool (!r)))
      | _, _ => none
    | _ => none
  | .i _ _ _ _ len, .v (.slice none 0 0) =>
    match T t, op with
    | some ⟨.sl _, _, _, _⟩, .eql => some (x.cond ∧ y.cond ∧ 0 < len, .v (.bool false))
    | some ⟨.sl _, _, _, _⟩, .neq => some (x.cond ∧ y.cond ∧ 0 < len, .v (.bool true))
    | _, _ => none
  | .v (.slice A _ _), .v (.slice none 0 0) =>
    match T t, op with
    | some ⟨.sl _, _, _, _⟩, .eql => some (x.cond ∧ y.cond, .v (.bool A.isNone))
    | some ⟨.sl _, _, _, _⟩, .neq => some (x.cond ∧ y.cond, .v (.bool (!A.isNone)))
    | _, _ => none
  | _, _ => none

def pvUn (op : UnOp) (x : AV) : Option (Prop × AV) :=
  match op, x.strip with
  | .neg, .v (.int k n) => some (x.cond, .v (.int k (k.wrap (0 - n))))
  | .not, .v (.bool b) => some (x.cond, .v (.bool (!b)))
  | _, _ => none

def pvPick (c x y : AV) : Option (Prop × AV) :=
  match c.strip with
  | .v (.bool b) =>
    match x.strip, y.strip with
    | .v (.bool p), .v (.bool q) => some (c.cond ∧ (b = true → x.cond) ∧ (b = false → y.cond), .v (.bool (bif b then p else q)))
    | .v (.int k p), .v (.int k' q) => if k = k' then some (c.cond ∧ (b = true → x.cond) ∧ (b = false → y.cond), .v (.int k (bif b then p else q))) else none
    | .v p, .v q => some (c.cond ∧ (b = true → x.cond) ∧ (b = false → y.cond), .v (bif b then p else q))
    | _, _ => none
  | _ => none

def pvSlice (T : Tab) (H : List (Nat × Blk)) (t : TypeId) (x : AV) (lo hi : Option AV) : Option (Prop × AV) :=
  match T t with
  | some ⟨.sl e, _, _, _⟩ =>
    match T e, asNat? lo 0 with
    | some te, some (p, l) =>
      match x.strip with
      | .i fr c sz off len =>
        match asNat? hi len with
        | some (q, h) => some (x.cond ∧ p ∧ q ∧ te.sz = sz ∧ l ≤ h ∧ h ≤ len, .i fr c sz (off + l) (h - l))
        | none => none
      | .s id =>
        match lkH H id with
        | some (.row _ sz c) =>
          match asNat? hi (c.len / sz) with
          | some (q, h) => some (x.cond ∧ p ∧ q ∧ te.sz = sz ∧ 0 < sz ∧ l ≤ h ∧ h ≤ c.len / sz, .w id (l * sz) (h - l))
          | none => none
        | _ => none
      | .w id off len =>
        match asNat? hi len with
        | some (q, h) => some (x.cond ∧ p ∧ q ∧ l ≤ h ∧ h ≤ len, .w id (off + l * te.sz) (h - l))
        | none => none
      | _ => none
    | _, _ => none
  | some ⟨.str, _, _, _⟩ =>
    match x.strip, asNat? lo 0 with
    | .v (.string s), some (p, l) =>
      match asNat? hi s.size with
      | some (q, h) => some (x.cond ∧ p ∧ q ∧ l ≤ h ∧ h ≤ s.size, .v (.string (s.extract l h)))
      | none => none
    | _, _ => none
  | some ⟨.arr m e, _, _, _⟩ =>
    match T e, asNat? lo 0, asNat? hi m, x.strip with
    | some te, some (p, l), some (q, h), .p id off => some (x.cond ∧ p ∧ q ∧ l ≤ h ∧ h ≤ m, .w id (off + l * te.sz) (h - l))
    | _, _, _, _ => none
  | _ => none

def pvLen (T : Tab) (H : List (Nat × Blk)) (t : TypeId) (x : AV) : Option (Prop × AV) :=
  match T t with
  | some ⟨.sl _, _, _, _⟩ =>
    match x.strip with
    | .i _ _ _ _ len => some (x.cond, .v (.int .i64 len))
    | .w _ _ len => some (x.cond, .v (.int .i64 len))
    | .s id =>
      match lkH H id with
      | some (.row _ sz c) => some (x.cond ∧ 0 < sz, .v (.int .i64 (c.len / sz : Nat)))
      | _ => none
    | .v (.slice _ n _) => some (x.cond, .v (.int .i64 n))
    | _ => none
  | some ⟨.str, _, _, _⟩ =>
    match x.strip with
    | .v (.string s) => some (x.cond, .v (.int .i64 s.size))
    | _ => none
  | some ⟨.arr n _, _, _, _⟩ => some (True, .v (.int .i64 n))
  | _ => none

def pvMin (xs : List AV) : Option (Prop × AV) :=
  match xs with
  | [x, y] =>
    match x.strip, y.strip with
    | .v (.int k a), .v (.int _ b) => some (x.cond ∧ y.cond, .v (.int k (min a b)))
    | _, _ => none
  | [x, y, z] =>
    match x.strip, y.strip, z.strip with
    | .v (.int k a), .v (.int k2 b), .v (.int k3 c) => some (x.cond ∧ y.cond ∧ z.cond ∧ k2 = k ∧ k3 = k, .v (.int k (min (min a b) c)))
    | _, _, _ => none
  | _ => none
def pvMax (xs : List AV) : Option (Prop × AV) :=
  match xs with
  | [x, y] =>
    match x.strip, y.strip with
    | .v (.int k a), .v (.int _ b) => some (x.cond ∧ y.cond, .v (.int k (max a b)))
    | _, _ => none
  | _ => none

def pvConvert (T : Tab) (src dst : TypeId) (x : AV) : Option (Prop × AV) :=
  match T src, T dst, x.strip with
  | some _, some ⟨.int k, _, _, _⟩, .v (.int _ n) => some (x.cond, .v (.int k (k.wrap n)))
  | _, _, _ => none

def pvIndex (T : Tab) (t : TypeId) (x i : AV) : Option (Prop × AV) :=
  match T t, x.strip, i.strip with
  | some ⟨.str, _, _, _⟩, .v (.string s), .v (.int _ n) => some (x.cond ∧ i.cond ∧ 0 ≤ n ∧ n < s.size, .v (.int .u8 (s.data.getD n.toNat 0).toNat))
  | _, _, _ => none

def pvNil (x : AV) : Option (Prop × AV) :=
  match x.strip with
  | .p id off => some (x.cond, .p id off)
  | .q fr c sz e f => some (x.cond, .q fr c sz e f)
  | .f (.func k) cs => some (x.cond, .f (.func k) cs)
  | _ => none

def keyFor : TK → Value → Option Key
  | .int .i64, .int .i64 n => some (.i n)
  | .str, .string s => some (.s s)
  | _, _ => none
theorem ZB3 {tk : TK} {v : Value} {key : Key} (h : keyFor tk v = some key) : v = key.val ∧ ((tk = .int .i64 ∧ key.isI = true) ∨ (tk = .str ∧ key.isI = false)) := by
  unfold keyFor at h
  split at h <;> first | (cases h; done) | (injection h with h; subst h; simp [Key.val, Key.isI])
def getA (ks : List Key) (k : Key) (c : Cont) (z : AV) : AV := if ks.findIdx (fun x => x = k) < ks.length then c.at (ks.findIdx (fun x => x = k)) else z
def pvLookup (T : Tab) (H : List (Nat × Blk)) (t : TypeId) (x k : AV) : Option (Prop × AV) :=
  match T t with
  | some ⟨.mapt kt e, _, _, _⟩ =>
    match T kt, T e, x.strip, k.strip with
    | some tk, some te, .s id, .v kv =>
      match lkH H id, keyFor tk.k kv with
      | some (.mp (.ints kd q m)), some key => some (x.cond ∧ k.cond ∧ te.z = .int q 0 ∧ key.isI = kd, .v (.int q (getK m key 0)))
      | some (.mp (.bools kd m)), some key => some (x.cond ∧ k.cond ∧ te.z = .bool false ∧ key.isI = kd, .v (.bool (getK m key false)))
      | some (.mpa kd ks c), some key => some (x.cond ∧ k.cond ∧ oneC te.z = true ∧ key.isI = kd, getA ks key c (.v te.z))
      | _, _ => none
    | _, _, _, _ => none
  | _ => none
theorem ZGZ {α β : Type} (f : α → β) (m : List (Key × α)) (k : Key) (d : α) : getK (m.map fun p => (p.1, f p.2)) k (f d) = f (getK m k d) := by
  unfold getK
  rw [List.find?_map]
  have : ((fun (p : Key × β) => decide (p.1 = k)) ∘ fun (p : Key × α) => (p.1, f p.2)) = fun p => decide (p.1 = k) := rfl
  rw [this]
  cases m.find? (fun p => decide (p.1 = k)) <;> rfl

theorem ZIw {ks : List Key} {vals : List Value} (hl : vals.length = ks.length) (k : Key) (z : Value) : getK (ks.zip vals) k z = if ks.findIdx (fun x => x = k) < ks.length then vals.getD (ks.findIdx (fun x => x = k)) undef else z := by
  induction ks generalizing vals with
  | nil => simp [getK]
  | cons a r ih =>
    cases vals with
    | nil => simp at hl
    | cons v vs =>
      have ih' := ih (vals := vs) (by simpa using hl)
      by_cases e : a = k
      · simp [getK, e, List.findIdx_cons]
      · have h1 : getK ((a, v) :: r.zip vs) k z = getK (r.zip vs) k z := by simp [getK, e]
        rw [List.zip_cons_cons, h1, ih']
        simp [List.findIdx_cons, e]

section
variable {P : Program} {T : Tab} (hT : T.ok P) {B : Nat} {I : Nat → Prop} {w : World} {ρ : Nat → Option Value} {H : List (Nat × Blk)} (hw : HW B I w ρ H)

theorem ZHY {x : Option AV} {u : Option Value} {d l : Nat} {φ : Prop} (h : asNat? x d = some (φ, l)) (hφ : φ) (hx : ∀ y, x = some y → ∃ v, u = some v ∧ Conc B I w ρ y v) (hn : x = none → u = none) :
    (x = none ∧ u = none ∧ l = d) ∨ ∃ k n, u = some (.int k n) ∧ 0 ≤ n ∧ l = n.toNat := by
  cases x with
  | none => simp [asNat?] at h; exact .inl ⟨rfl, hn rfl, h.2.symm⟩
  | some y =>
    obtain ⟨v, rfl, hc⟩ := hx y rfl
    simp only [asNat?] at h
    split at h
    · rename_i k n hs
      simp only [Option.some.injEq, Prod.mk.injEq] at h
      obtain ⟨rfl, rfl⟩ := h
      have := hc.strip hφ.1
      rw [hs] at this
      exact .inr ⟨k, n, by rw [this.v_inv], hφ.2, rfl⟩
    · cases h

include hT in
theorem ZEM {s : TypeId} {x : AV} {k : Nat} {u : Value} {φ : Prop} {r : AV} (h : pvFieldAddr T s x k = some (φ, r)) (hφ : φ) (hx : Conc B I w ρ x u) :
    ∃ v, (Instr.fieldAt s u k).run P w = .ok v w ∧ Conc B I w ρ r v := by
  unfold pvFieldAddr at h
  split at h
  · rename_i fs _ _ _ hs
    obtain ⟨F, hF, hfs, _⟩ := (hT _ _ hs).kind
    split at h
    · rename_i o ty ho
      rw [← hfs, List.getElem?_map] at ho
      have : ∃ f, F[k]? = some f ∧ f.offset = o ∧ f.type = ty := by
        rw [Array.getElem?_toList] at ho
        cases hf : F[k]? with
        | none => rw [hf] at ho; cases ho
        | some f => rw [hf] at ho; simp at ho; exact ⟨f, rfl, ho.1, ho.2⟩
      obtain ⟨f, hf, rfl, rfl⟩ := this
      split at h
      · rename_i tf htf
        have hsz := (hT _ _ htf).size w
        split at h
        · rename_i id off hst
          simp only [Option.some.injEq, Prod.mk.injEq] at h
          obtain ⟨rfl, rfl⟩ := h
          have hc := hx.strip hφ.1
          rw [hst] at hc
          cases hc with
          | p _ _ b x hr hb =>
            refine ⟨.pointer (some ⟨b, off + f.offset, none⟩), ?_, .p _ _ b x hr hb⟩
            simp [Instr.fieldAt, run_underlying hF, hf, Instr.sureAddr, fieldPlace, hsz, hφ.2, ZAf]
        · rename_i fr c sz e j hst
          simp only [Option.some.injEq, Prod.mk.injEq] at h
          obtain ⟨rfl, rfl⟩ := h
          have hc := hx.strip hφ.1
          rw [hst] at hc
          cases hc with
          | q _ _ _ _ _ ad uu h2 h3 hcell hcc =>
            refine ⟨.pointer (some (ad.add f.offset)), ?_, .q _ _ _ _ _ _ (fun m => uu (f.offset + m)) (by rw [add_block]; exact h2) (by rw [add_block]; exact h3) (fun m hm => by rw [add_add]; exact hcell _ (by omega)) (fun m hm => by have := hcc (f.offset + m) (by omega); rwa [← Nat.add_assoc] at this)⟩
            simp [Instr.fieldAt, run_underlying hF, hf, Instr.sureAddr, fieldPlace, hsz, hφ.2]
        · cases h
      · cases h
    · cases h
  · cases h

include hT hw in
theorem ZEN {t : TypeId} {x i : AV} {u ui : Value} {φ : Prop} {r : AV} (h : pvIndexAddr T H t x i = some (φ, r)) (hφ : φ) (hx : Conc B I w ρ x u) (hi : Conc B I w ρ i ui) :
    ∃ v, (Instr.indexAt t u ui).run P w = .ok v w ∧ Conc B I w ρ r v := by
  unfold pvIndexAddr at h
  split at h
  · rename_i kk n hin
    split at h
    · rename_i e _ _ _ ht
      have hu : P.underlying t = some (.slice e) := (hT _ _ ht).kind
      split at h
      · rename_i te hte
        have hsz := (hT _ _ hte).size w
        split at h
        · rename_i fr c sz off len hst
          simp only [Option.some.injEq, Prod.mk.injEq] at h
          obtain ⟨rfl, rfl⟩ := h
          obtain ⟨c1, c2, rfl, h0, h1⟩ := hφ
          have hc := hx.strip c1
          have hci := hi.strip c2
          rw [hst] at hc; rw [hin] at hci
          obtain rfl := hci.v_inv
          cases hc with
          | i _ _ _ _ _ cap A uu hcap hA hcc =>
            obtain ⟨ad, rfl, hI, hB, hcell⟩ := hA (by omega)
            have hk : n.toNat < len := by omega
            refine ⟨.pointer (some (ad.add (n.toNat * te.sz))), ?_, .q _ _ _ _ _ _ (fun m => uu n.toNat m) (by rw [add_block]; exact hI) (by rw [add_block]; exact hB) (fun m hm => by rw [add_add]; exact hcell _ _ hk (by omega)) (fun m hm => by have := hcc n.toNat m hk (by omega); rwa [Nat.zero_add])⟩
            simp [Instr.indexAt, asIntOf, run_underlying hu, hsz, h0, h1]
        · rename_i id hst
          split at h
          · rename_i e' sz c hk
            simp only [Option.some.injEq, Prod.mk.injEq] at h
            obtain ⟨rfl, rfl⟩ := h
            obtain ⟨c1, c2, rfl, hpos, h0, h1⟩ := hφ
            have hc := hx.strip c1
            have hci := hi.strip c2
            rw [hst] at hc; rw [hin] at hci
            obtain rfl := hci.v_inv
            cases hc with
            | s _ x hr _ =>
              obtain ⟨x', hr', hok⟩ := hw.ok _ _ hk
              rw [hr] at hr'; injection hr' with hr'; subst hr'
              obtain ⟨m, xs, ho, hl, _⟩ := hok
              have hm : n.toNat < m := by
                rw [hl] at h1
                exact Nat.lt_of_succ_le (Nat.le_of_mul_le_mul_right h1 hpos)
              rcases ho.2 with ⟨_, h00⟩ | ⟨g, cap, cur, rfl, _⟩
              · omega
              · refine ⟨.pointer (some ⟨g, n.toNat * te.sz, none⟩), ?_, .p _ _ g _ hr rfl⟩
                have : n < (m : Int) := by omega
                simp [Instr.indexAt, asIntOf, run_underlying hu, hsz, h0, this, ZAf]
          · rename_i e' c hk
            simp only [Option.some.injEq, Prod.mk.injEq] at h
            obtain ⟨rfl, rfl⟩ := h
            obtain ⟨c1, c2, hs1, h0, h1⟩ := hφ
            have hc := hx.strip c1
            have hci := hi.strip c2
            rw [hst] at hc; rw [hin] at hci
            obtain rfl := hci.v_inv
            cases hc with
            | s _ x hr _ =>
              obtain ⟨x', hr', hok⟩ := hw.ok _ _ hk
              rw [hr] at hr'; injection hr' with hr'; subst hr'
              obtain ⟨m, xs, ho, hl, _⟩ := hok
              have hm : n.toNat < m := by omega
              rcases ho.2 with ⟨_, h00⟩ | ⟨g, cap, cur, rfl, _⟩
              · omega
              · refine ⟨.pointer (some ⟨g, n.toNat, none⟩), ?_, .p _ _ g _ hr rfl⟩
                have : n < (m : Int) := by omega
                simp [Instr.indexAt, asIntOf, run_underlying hu, hsz, h0, this, ZAf, hs1]
          · cases h
        · rename_i id off len hst
          simp only [Option.some.injEq, Prod.mk.injEq] at h
          obtain ⟨rfl, rfl⟩ := h
          obtain ⟨c1, c2, h0, h1⟩ := hφ
          have hc := hx.strip c1
          have hci := hi.strip c2
          rw [hst] at hc; rw [hin] at hci
          obtain rfl := hci.v_inv
          cases hc with
          | w _ _ _ cap A x hr hcap hA =>
            obtain ⟨b, hb, rfl⟩ := hA (by omega)
            refine ⟨.pointer (some ⟨b, off + n.toNat * te.sz, none⟩), ?_, .p _ _ b _ hr hb⟩
            simp [Instr.indexAt, asIntOf, run_underlying hu, hsz, h0, h1, ZAf]
        · cases h
      · cases h
    · rename_i m e _ _ _ ht
      have hu : P.underlying t = some (.array m e) := (hT _ _ ht).kind
      split at h
      · rename_i te hte
        have hsz := (hT _ _ hte).size w
        split at h
        · rename_i id off hst
          simp only [Option.some.injEq, Prod.mk.injEq] at h
          obtain ⟨rfl, rfl⟩ := h
          obtain ⟨c1, c2, h0, h1⟩ := hφ
          have hc := hx.strip c1
          have hci := hi.strip c2
          rw [hst] at hc; rw [hin] at hci
          obtain rfl := hci.v_inv
          cases hc with
          | p _ _ b x hr hb =>
            refine ⟨.pointer (some ⟨b, off + n.toNat * te.sz, none⟩), ?_, .p _ _ b _ hr hb⟩
            simp [Instr.indexAt, asIntOf, run_underlying hu, hsz, h0, h1, ZAf, Instr.sureAddr]
        · rename_i fr c sz el f hst
          simp only [Option.some.injEq, Prod.mk.injEq] at h
          obtain ⟨rfl, rfl⟩ := h
          obtain ⟨c1, c2, h0, h1⟩ := hφ
          have hc := hx.strip c1
          have hci := hi.strip c2
          rw [hst] at hc; rw [hin] at hci
          obtain rfl := hci.v_inv
          cases hc with
          | q _ _ _ _ _ ad uu h2 h3 hcell hcc =>
            refine ⟨.pointer (some (ad.add (n.toNat * te.sz))), ?_, .q _ _ _ _ _ _ (fun m => uu (n.toNat * te.sz + m)) (by rw [add_block]; exact h2) (by rw [add_block]; exact h3) (fun m hm => by rw [add_add]; exact hcell _ (by omega)) (fun m hm => by have := hcc (n.toNat * te.sz + m) (by omega); rwa [← Nat.add_assoc] at this)⟩
            simp [Instr.indexAt, asIntOf, run_underlying hu, hsz, h0, h1, Instr.sureAddr]
        · cases h
      · cases h
    · cases h
  · cases h
end
end Go.Eng
namespace Go.Eng
open Go.RowKit

section
variable {P : Program} {T : Tab} (hT : T.ok P) {B : Nat} {I : Nat → Prop} {w : World} {ρ : Nat → Option Value} {H : List (Nat × Blk)} (hw : HW B I w ρ H)

theorem getD_extract (us : Array Value) (o n j : Nat) (h : o + n ≤ us.size) (hj : j < n) : (us.extract o (o + n)).getD j undef = us.getD (o + j) undef := by
  rw [Array.getD_eq_getD_getElem?, Array.getD_eq_getD_getElem?, Array.getElem?_extract, if_pos (by rw [Nat.min_eq_left h]; omega)]

include hT in
theorem ZG9 {s : TypeId} {x : AV} {k : Nat} {u : Value} {φ : Prop} {r : AV} (h : pvField T s x k = some (φ, r)) (hφ : φ) (hx : Conc B I w ρ x u) :
    ∃ v, (Instr.field s u k).run P w = .ok v w ∧ Conc B I w ρ r v := by
  unfold pvField at h
  split at h
  · rename_i fs _ _ _ hs
    obtain ⟨F, hF, hfs, _⟩ := (hT _ _ hs).kind
    split at h
    · rename_i o ty ho
      rw [← hfs, List.getElem?_map] at ho
      have : ∃ f, F[k]? = some f ∧ f.offset = o ∧ f.type = ty := by
        rw [Array.getElem?_toList] at ho
        cases hf : F[k]? with
        | none => rw [hf] at ho; cases ho
        | some f => rw [hf] at ho; simp at ho; exact ⟨f, rfl, ho.1, ho.2⟩
      obtain ⟨f, hf, rfl, rfl⟩ := this
      split at h
      · rename_i tf cs htf hst
        have hsz := (hT _ _ htf).size w
        have hag := (hT _ _ htf).agg w
        split at h
        · rename_i hagg
          simp only [Option.some.injEq, Prod.mk.injEq] at h
          obtain ⟨rfl, rfl⟩ := h
          have hc := hx.strip hφ.1
          rw [hst] at hc
          cases hc with
          | a _ us hl hcs =>
            refine ⟨.agg (us.extract f.offset (f.offset + tf.sz)), by simp [Instr.field, run_underlying hF, hf, part, hag, hagg, hsz, asAgg], .a _ _ ?_ ?_⟩
            · have := hφ.2; simp; omega
            · intro j hj
              have h2 := hφ.2
              have hj' : j < tf.sz := by simp at hj; omega
              rw [getD_extract _ _ _ _ (by omega) hj']
              have := hcs (f.offset + j) (by omega)
              have e : ((cs.drop f.offset).take tf.sz).getD j .top = cs.getD (f.offset + j) .top := by
                simp [List.getD_eq_getElem?_getD, hj']
              rw [e]; exact this
        · rename_i hagg
          simp only [Option.some.injEq, Prod.mk.injEq] at h
          obtain ⟨rfl, rfl⟩ := h
          have hc := hx.strip hφ.1
          rw [hst] at hc
          cases hc with
          | a _ us hl hcs =>
            have h2 := hφ.2
            have hlt : f.offset < us.size := by omega
            refine ⟨us.getD f.offset undef, ?_, hcs _ h2⟩
            simp [Instr.field, run_underlying hF, hf, part, hag, hagg, asAgg, hlt, Array.getD_eq_getD_getElem?]
      · cases h
    · cases h
  · cases h

theorem ZFg {x : AV} {k : Nat} {u : Value} {φ : Prop} {r : AV} (h : pvExtract x k = some (φ, r)) (hφ : φ) (hx : Conc B I w ρ x u) :
    ∃ v, (Instr.extract u k).run P w = .ok v w ∧ Conc B I w ρ r v := by
  unfold pvExtract at h
  split at h
  · rename_i cs hst
    simp only [Option.some.injEq, Prod.mk.injEq] at h
    obtain ⟨rfl, rfl⟩ := h
    have hc := hx.strip hφ.1
    rw [hst] at hc
    cases hc with
    | t _ us hl hcs =>
      have h2 := hφ.2
      have hlt : k < us.size := by omega
      refine ⟨us.getD k undef, ?_, hcs _ h2⟩
      simp [Instr.extract, hlt, Array.getD_eq_getD_getElem?]
  · cases h

theorem ZIx {op : BinOp} {t : TypeId} {k : IntKind} {a b : Int} {φ : Prop} {r : Value} (h : intOp op k a b = some (φ, r)) (hφ : φ) (x y : Operand) :
    (do eqGuard op t x y (.int k a) (.int k b); binOp op t (.int k a) (.int k b) : Sem Value).run P w = .ok r w := by
  cases op <;> simp only [intOp, Option.some.injEq, Prod.mk.injEq] at h <;> first | (cases h; done) | (obtain ⟨rfl, rfl⟩ := h; simp [eqGuard, binOp, Op.intArith, Op.intCmp]; done) | (obtain ⟨rfl, rfl⟩ := h; simp [eqGuard, binOp, Op.intDiv, hφ]; done) | (obtain ⟨rfl, rfl⟩ := h; have h1 : ¬ b < 0 := (by have := hφ.1; omega); simp [eqGuard, binOp, Op.shift, h1, Nat.min_eq_left hφ.2])

theorem ZIy {op : BinOp} {t : TypeId} {a b : ByteArray} {φ : Prop} {r : Value} (h : strOp op a b = some (φ, r)) (x y : Operand) :
    (do eqGuard op t x y (.string a) (.string b); binOp op t (.string a) (.string b) : Sem Value).run P w = .ok r w := by
  cases op <;> simp only [strOp, Option.some.injEq, Prod.mk.injEq] at h <;> first | (cases h; done) | (obtain ⟨rfl, rfl⟩ := h; simp [eqGuard, binOp, Op.stringOp])

theorem eqBool {t : TypeId} (hu : P.underlying t = some .bool) (a b : Bool) : (Op.equal t (.bool a) (.bool b)).run P w = .ok (a == b) w := by
  have h : ∀ d, (Op.equalIn (d + 1) t (.bool a) (.bool b)).run P w = .ok (a == b) w := fun d => by simp [Op.equalIn, run_underlying hu]
  simp only [Op.equal, Op.maxDepth]; exact h 9999

include hT in
theorem eqA_ok {cs ds : List AV} {us vs : Array Value} (hu : ∀ j, j < cs.length → Conc B I w ρ (cs.getD j .top) (us.getD j undef)) (hul : us.size = cs.length) (hv : ∀ j, j < ds.length → Conc B I w ρ (ds.getD j .top) (vs.getD j undef)) (hvl : vs.size = ds.length) (d : Nat) :
    ∀ (F : List Field) (b : Bool), eqA T cs ds (F.map fun f => (f.offset, f.type)) = some b → (F.all fun f => f.name != "_") = true → (Op.eqFields (d + 1) us vs F).run P w = .ok b w := by
  have lt : ∀ (cs : List AV) (o : Nat) (x : Value), cs.getD o .top = .v x → o < cs.length := fun cs o x h => by
    rcases Nat.lt_or_ge o cs.length with h1 | h1
    · exact h1
    · rw [List.getD_eq_getElem?_getD, List.getElem?_eq_none h1] at h; cases h
  have pt : ∀ (ty : TypeId) (ti : TI) (us : Array Value) (o : Nat), T ty = some ti → ti.k.agg = false → o < us.size → (part ty us o).run P w = .ok (us.getD o undef) w := fun ty ti us o hty hag ho => by
    have := (hT _ _ hty).agg w
    rw [hag] at this
    simp [part, this, ho, Array.getD_eq_getD_getElem?]
  intro F
  induction F with
  | nil => intro b h _; simp [eqA] at h; subst h; simp [Op.eqFields]
  | cons f F ih =>
    intro b h hn
    simp only [List.all_cons, Bool.and_eq_true] at hn
    have hne : f.name ≠ "_" := by simpa using hn.1
    simp only [List.map_cons, eqA] at h
    split at h
    · rename_i k0 _ _ _ k a k' b' hty h1 h2
      split at h <;> first | (cases h; done) | skip
      rename_i hk; subst hk
      split at h <;> first | (cases h; done) | skip
      rename_i t ht
      injection h with h; subst h
      have l1 := lt _ _ _ h1
      have l2 := lt _ _ _ h2
      have c1 := hu _ l1
      have c2 := hv _ l2
      rw [h1] at c1; rw [h2] at c2
      have c1 := c1.v_inv
      have c2 := c2.v_inv
      have e1 := pt f.type _ us f.offset hty rfl (by omega)
      have e2 := pt f.type _ vs f.offset hty rfl (by omega)
      have hU : P.underlying f.type = some (.int k0) := (hT _ _ hty).kind
      simp only [Op.eqFields, hne, ne_eq, not_false_eq_true, if_true, Sem.run_bind, e1, e2, Result.andThen_ok, c1, c2, run_equalIn_int w d f.type _ k0 a b' hU]
      cases hab : (a == b')
      · simp
      · simp [ih t ht hn.2]
    · rename_i _ _ _ a b' hty h1 h2
      split at h <;> first | (cases h; done) | skip
      rename_i t ht
      injection h with h; subst h
      have l1 := lt _ _ _ h1
      have l2 := lt _ _ _ h2
      have c1 := hu _ l1
      have c2 := hv _ l2
      rw [h1] at c1; rw [h2] at c2
      have c1 := c1.v_inv
      have c2 := c2.v_inv
      have e1 := pt f.type _ us f.offset hty rfl (by omega)
      have e2 := pt f.type _ vs f.offset hty rfl (by omega)
      have hU : P.underlying f.type = some .bool := (hT _ _ hty).kind
      simp only [Op.eqFields, hne, ne_eq, not_false_eq_true, if_true, Sem.run_bind, e1, e2, Result.andThen_ok, c1, c2, run_equalIn_bool' w d f.type a b' hU]
      cases hab : (a == b')
      · simp
      · simp [ih t ht hn.2]
    · rename_i _ _ _ a b' hty h1 h2
      split at h <;> first | (cases h; done) | skip
      rename_i t ht
      injection h with h; subst h
      have l1 := lt _ _ _ h1
      have l2 := lt _ _ _ h2
      have c1 := hu _ l1
      have c2 := hv _ l2
      rw [h1] at c1; rw [h2] at c2
      have c1 := c1.v_inv
      have c2 := c2.v_inv
      have e1 := pt f.type _ us f.offset hty rfl (by omega)
      have e2 := pt f.type _ vs f.offset hty rfl (by omega)
      have hU : P.underlying f.type = some .string := (hT _ _ hty).kind
      simp only [Op.eqFields, hne, ne_eq, not_false_eq_true, if_true, Sem.run_bind, e1, e2, Result.andThen_ok, c1, c2, run_equalIn_string w d f.type a b' hU, ← beq_toListBytes]
      cases hab : (a == b')
      · simp
      · simp [ih t ht hn.2]
    · cases h

include hT in
theorem ZIz {op : BinOp} {t : TypeId} {x y : AV} {u v : Value} {φ : Prop} {r : AV} (h : pvBin T op t x y = some (φ, r)) (hφ : φ) (hx : Conc B I w ρ x u) (hy : Conc B I w ρ y v) (ox oy : Operand) :
    ∃ z, (do eqGuard op t ox oy u v; binOp op t u v : Sem Value).run P w = .ok z w ∧ Conc B I w ρ r z := by
  unfold pvBin at h
  split at h
  · rename_i k a k' b h1 h2
    split at h
    · rename_i hk; subst hk
      split at h
      · rename_i ψ r' hi
        simp only [Option.some.injEq, Prod.mk.injEq] at h
        obtain ⟨rfl, rfl⟩ := h
        have hc := hx.strip hφ.1
        have hd := hy.strip hφ.2.1
        rw [h1] at hc; rw [h2] at hd
        obtain rfl := hc.v_inv; obtain rfl := hd.v_inv
        exact ⟨r', ZIx hi hφ.2.2 ox oy, .v _⟩
      · cases h
    · cases h
  · rename_i a b h1 h2
    split at h
    · rename_i ψ r' hi
      simp only [Option.some.injEq, Prod.mk.injEq] at h
      obtain ⟨rfl, rfl⟩ := h
      have hc := hx.strip hφ.1
      have hd := hy.strip hφ.2.1
      rw [h1] at hc; rw [h2] at hd
      obtain rfl := hc.v_inv; obtain rfl := hd.v_inv
      exact ⟨r', ZIy hi ox oy, .v _⟩
    · cases h
  · rename_i a b h1 h2
    split at h
    · rename_i ht
      have hu : P.underlying t = some .bool := (hT _ _ ht).kind
      simp only [Option.some.injEq, Prod.mk.injEq] at h
      obtain ⟨rfl, rfl⟩ := h
      have hc := hx.strip hφ.1
      have hd := hy.strip hφ.2
      rw [h1] at hc; rw [h2] at hd
      obtain rfl := hc.v_inv; obtain rfl := hd.v_inv
      refine ⟨_, ?_, .v _⟩
      simp only [eqGuard, binOp]; simp [eqBool hu]
    · rename_i ht
      have hu : P.underlying t = some .bool := (hT _ _ ht).kind
      simp only [Option.some.injEq, Prod.mk.injEq] at h
      obtain ⟨rfl, rfl⟩ := h
      have hc := hx.strip hφ.1
      have hd := hy.strip hφ.2
      rw [h1] at hc; rw [h2] at hd
      obtain rfl := hc.v_inv; obtain rfl := hd.v_inv
      refine ⟨_, ?_, .v _⟩
      simp only [eqGuard, binOp]; simp [eqBool hu]
    · cases h
  · rename_i cs ds h1 h2
    split at h <;> first | (cases h; done) | skip
    rename_i fs _ _ _ ht
    obtain ⟨F, hF, hfs, hq⟩ := (hT _ _ ht).kind
    obtain ⟨q1, q2, q3⟩ := hq rfl
    have hfo : P.fieldsOf t = F := by simp only [Program.fieldsOf, hF]
    have hF' : P.underlying t = some (.struct (P.fieldsOf t)) := by rw [hfo]; exact hF
    have key : ∀ r, eqA T cs ds fs = some r → x.cond → y.cond → ∃ us vs, u = .agg us ∧ v = .agg vs ∧ (Op.equalIn 10000 t (.agg us) (.agg vs)).run P w = .ok r w := fun r hr hx1 hy1 => by
      have hc := hx.strip hx1
      have hd := hy.strip hy1
      rw [h1] at hc; rw [h2] at hd
      cases hc with
      | a _ us hul hus =>
        cases hd with
        | a _ vs hvl hvs =>
          refine ⟨us, vs, rfl, rfl, ?_⟩
          rw [run_equalIn_struct w 9999 t us vs hF' q1, hfo]
          exact eqA_ok hT hus hul hvs hvl 9998 F.toList r (by rw [hfs]; exact hr) q3
    split at h <;> first | (cases h; done) | skip
    · rename_i r hr
      simp only [Option.some.injEq, Prod.mk.injEq] at h
      obtain ⟨rfl, rfl⟩ := h
      obtain ⟨us, vs, rfl, rfl, hrun⟩ := key _ hr hφ.1 hφ.2
      refine ⟨_, ?_, .v _⟩
      simp only [Sem.run_bind, run_eqGuard_agg w .eql t ox oy us vs q2, Result.andThen_ok, run_eql_struct w t us vs, hrun]
    · rename_i r hr
      simp only [Option.some.injEq, Prod.mk.injEq] at h
      obtain ⟨rfl, rfl⟩ := h
      obtain ⟨us, vs, rfl, rfl, hrun⟩ := key _ hr hφ.1 hφ.2
      refine ⟨_, ?_, .v _⟩
      simp only [Sem.run_bind, run_eqGuard_agg w .neq t ox oy us vs q2, Result.andThen_ok, run_neq_struct w t us vs, hrun]
  · rename_i fr c sz off len h1 h2
    have key : x.cond → y.cond → 0 < len → ∃ ad n cp, u = .slice (some ad) n cp ∧ v = .slice none 0 0 := fun hx1 hy1 hl => by
      have hc := hx.strip hx1
      have hd := hy.strip hy1
      rw [h1] at hc; rw [h2] at hd
      cases hc with
      | i _ _ _ _ _ cap A uu hcap hA hcc =>
        obtain ⟨ad, rfl, _⟩ := hA hl
        exact ⟨ad, _, _, rfl, hd.v_inv⟩
    split at h <;> first | (cases h; done) | skip
    · rename_i e _ _ _ ht
      have hu : P.underlying t = some (.slice e) := (hT _ _ ht).kind
      simp only [Option.some.injEq, Prod.mk.injEq] at h
      obtain ⟨rfl, rfl⟩ := h
      obtain ⟨ad, n, cp, rfl, rfl⟩ := key hφ.1 hφ.2.1 hφ.2.2
      refine ⟨_, ?_, .v _⟩
      have := run_equal_slice_nil w t e (some ad) n cp hu
      simp [eqGuard, binOp, this]
    · rename_i e _ _ _ ht
      have hu : P.underlying t = some (.slice e) := (hT _ _ ht).kind
      simp only [Option.some.injEq, Prod.mk.injEq] at h
      obtain ⟨rfl, rfl⟩ := h
      obtain ⟨ad, n, cp, rfl, rfl⟩ := key hφ.1 hφ.2.1 hφ.2.2
      refine ⟨_, ?_, .v _⟩
      have := run_neq_slice_nil w t e (some ad) n cp hu
      simp [eqGuard, this]
  · rename_i A n cp h1 h2
    split at h <;> first | (cases h; done) | skip
    · rename_i e _ _ _ ht
      have hu : P.underlying t = some (.slice e) := (hT _ _ ht).kind
      simp only [Option.some.injEq, Prod.mk.injEq] at h
      obtain ⟨rfl, rfl⟩ := h
      have hc := hx.strip hφ.1
      have hd := hy.strip hφ.2
      rw [h1] at hc; rw [h2] at hd
      obtain rfl := hc.v_inv; obtain rfl := hd.v_inv
      refine ⟨_, ?_, .v _⟩
      have := run_equal_slice_nil w t e A n cp hu
      simp [eqGuard, binOp, this]
    · rename_i e _ _ _ ht
      have hu : P.underlying t = some (.slice e) := (hT _ _ ht).kind
      simp only [Option.some.injEq, Prod.mk.injEq] at h
      obtain ⟨rfl, rfl⟩ := h
      have hc := hx.strip hφ.1
      have hd := hy.strip hφ.2
      rw [h1] at hc; rw [h2] at hd
      obtain rfl := hc.v_inv; obtain rfl := hd.v_inv
      refine ⟨_, ?_, .v _⟩
      have := run_neq_slice_nil w t e A n cp hu
      simp [eqGuard, this]
  · cases h

theorem ZJp {op : UnOp} {x : AV} {u : Value} {φ : Prop} {r : AV} (h : pvUn op x = some (φ, r)) (hφ : φ) (hx : Conc B I w ρ x u) :
    ∃ z, (Op.unary op u).run P w = .ok z w ∧ Conc B I w ρ r z := by
  unfold pvUn at h
  split at h
  · rename_i k n h1
    simp only [Option.some.injEq, Prod.mk.injEq] at h
    obtain ⟨rfl, rfl⟩ := h
    have hc := hx.strip hφ
    rw [h1] at hc; obtain rfl := hc.v_inv
    exact ⟨_, by simp [Op.unary, Op.intArith], .v _⟩
  · rename_i b h1
    simp only [Option.some.injEq, Prod.mk.injEq] at h
    obtain ⟨rfl, rfl⟩ := h
    have hc := hx.strip hφ
    rw [h1] at hc; obtain rfl := hc.v_inv
    exact ⟨_, by simp [Op.unary], .v _⟩
  · cases h

theorem ZHZ {c x y : AV} {uc ux uy : Value} {φ : Prop} {r : AV} (h : pvPick c x y = some (φ, r)) (hφ : φ) (hc : Conc B I w ρ c uc) (hx : Conc B I w ρ x ux) (hy : Conc B I w ρ y uy) :
    ∃ z, (do pure (Next.value (if ← asBool uc then ux else uy)) : Sem Next).run P w = .ok (.value z) w ∧ Conc B I w ρ r z := by
  unfold pvPick at h
  split at h
  · rename_i b h1
    have key : ∀ (p q : Value), x.strip = .v p → y.strip = .v q → (c.cond ∧ (b = true → x.cond) ∧ (b = false → y.cond)) → ∃ z, (do pure (Next.value (if ← asBool uc then ux else uy)) : Sem Next).run P w = .ok (.value z) w ∧ z = (bif b then p else q) := by
      intro p q hp hq hφ
      have hcc := hc.strip hφ.1
      rw [h1] at hcc; obtain rfl := hcc.v_inv
      cases b
      · have := hy.strip (hφ.2.2 rfl)
        rw [hq] at this
        exact ⟨uy, by simp [asBool], by rw [this.v_inv]; rfl⟩
      · have := hx.strip (hφ.2.1 rfl)
        rw [hp] at this
        exact ⟨ux, by simp [asBool], by rw [this.v_inv]; rfl⟩
    split at h
    · rename_i p q hp hq
      simp only [Option.some.injEq, Prod.mk.injEq] at h
      obtain ⟨rfl, rfl⟩ := h
      obtain ⟨z, h3, rfl⟩ := key _ _ hp hq hφ
      refine ⟨_, h3, ?_⟩
      cases b <;> exact .v _
    · rename_i k p k' q hp hq
      split at h
      · rename_i hk; subst hk
        simp only [Option.some.injEq, Prod.mk.injEq] at h
        obtain ⟨rfl, rfl⟩ := h
        obtain ⟨z, h3, rfl⟩ := key _ _ hp hq hφ
        refine ⟨_, h3, ?_⟩
        cases b <;> exact .v _
      · cases h
    · rename_i p q _ _ hp hq
      simp only [Option.some.injEq, Prod.mk.injEq] at h
      obtain ⟨rfl, rfl⟩ := h
      obtain ⟨z, h3, rfl⟩ := key _ _ hp hq hφ
      exact ⟨_, h3, .v _⟩
    · cases h
  · cases h

include hT hw in
theorem ZI0 {t ty : TypeId} {x : AV} {u : Value} {φ : Prop} {r : AV} (h : pvLen T H t x = some (φ, r)) (hφ : φ) (hx : Conc B I w ρ x u) :
    ∃ z, (Builtin.len_ #[t] ty #[u]).run P w = .ok z w ∧ Conc B I w ρ r z := by
  unfold pvLen at h
  split at h
  · rename_i e _ _ _ ht
    have hu : P.underlying t = some (.slice e) := (hT _ _ ht).kind
    split at h
    · rename_i fr c sz off len hst
      simp only [Option.some.injEq, Prod.mk.injEq] at h
      obtain ⟨rfl, rfl⟩ := h
      have hc := hx.strip hφ
      rw [hst] at hc
      cases hc
      exact ⟨_, by simp [Builtin.len_, run_underlying hu, goInt], .v _⟩
    · rename_i id off len hst
      simp only [Option.some.injEq, Prod.mk.injEq] at h
      obtain ⟨rfl, rfl⟩ := h
      have hc := hx.strip hφ
      rw [hst] at hc
      cases hc
      exact ⟨_, by simp [Builtin.len_, run_underlying hu, goInt], .v _⟩
    · rename_i id hst
      split at h
      · rename_i e' sz c hk
        simp only [Option.some.injEq, Prod.mk.injEq] at h
        obtain ⟨rfl, rfl⟩ := h
        have hc := hx.strip hφ.1
        rw [hst] at hc
        cases hc with
        | s _ x hr _ =>
          obtain ⟨x', hr', hok⟩ := hw.ok _ _ hk
          rw [hr] at hr'; injection hr' with hr'; subst hr'
          obtain ⟨m, xs, ho, hl, _⟩ := hok
          have : c.len / sz = m := by rw [hl]; exact Nat.mul_div_cancel _ hφ.2
          rw [this]
          rcases ho.2 with ⟨rfl, h00⟩ | ⟨g, cap, cur, rfl, _⟩
          · subst h00; exact ⟨_, by simp [Builtin.len_, run_underlying hu, goInt], .v _⟩
          · exact ⟨_, by simp [Builtin.len_, run_underlying hu, goInt], .v _⟩
      · cases h
    · rename_i A n c hst
      simp only [Option.some.injEq, Prod.mk.injEq] at h
      obtain ⟨rfl, rfl⟩ := h
      have hc := hx.strip hφ
      rw [hst] at hc
      obtain rfl := hc.v_inv
      exact ⟨_, by simp [Builtin.len_, run_underlying hu, goInt], .v _⟩
    · cases h
  · rename_i ht
    have hu : P.underlying t = some .string := (hT _ _ ht).kind
    split at h
    · rename_i s hst
      simp only [Option.some.injEq, Prod.mk.injEq] at h
      obtain ⟨rfl, rfl⟩ := h
      have hc := hx.strip hφ
      rw [hst] at hc
      obtain rfl := hc.v_inv
      exact ⟨_, by simp [Builtin.len_, run_underlying hu, goInt], .v _⟩
    · cases h
  · rename_i n e _ _ _ ht
    have hu : P.underlying t = some (.array n e) := (hT _ _ ht).kind
    simp only [Option.some.injEq, Prod.mk.injEq] at h
    obtain ⟨rfl, rfl⟩ := h
    exact ⟨_, by simp [Builtin.len_, run_underlying hu, goInt], .v _⟩
  · cases h

theorem ZI1 {xs : List AV} {us : List Value} {ts : Array TypeId} {ty : TypeId} {φ : Prop} {r : AV} (h : pvMin xs = some (φ, r)) (hφ : φ) (hl : us.length = xs.length) (hx : ∀ j, j < xs.length → Conc B I w ρ (xs.getD j .top) (us.getD j undef)) :
    ∃ z, (Builtin.min_ ts ty us.toArray).run P w = .ok z w ∧ Conc B I w ρ r z := by
  unfold pvMin at h
  split at h
  · rename_i x y
    match us, hl with
    | [u, v], _ =>
      split at h
      · rename_i k a k' b h1 h2
        simp only [Option.some.injEq, Prod.mk.injEq] at h
        obtain ⟨rfl, rfl⟩ := h
        have hc := (hx 0 (by simp)).strip hφ.1
        have hd := (hx 1 (by simp)).strip hφ.2
        simp only [List.getD_cons_zero, List.getD_cons_succ] at hc hd
        rw [h1] at hc; rw [h2] at hd
        obtain rfl := hc.v_inv; obtain rfl := hd.v_inv
        refine ⟨_, by simp [Builtin.min_, Builtin.min2]; rfl, ?_⟩
        have : (if b < a then b else a) = min a b := by omega
        rw [this]; exact .v _
      · cases h
  · rename_i x y z
    match us, hl with
    | [u, v, t], _ =>
      split at h
      · rename_i k a k2 b k3 c h1 h2 h3
        simp only [Option.some.injEq, Prod.mk.injEq] at h
        obtain ⟨rfl, rfl⟩ := h
        obtain ⟨q1, q2, q3, rfl, rfl⟩ := hφ
        have hc := (hx 0 (by simp)).strip q1
        have hd := (hx 1 (by simp)).strip q2
        have he := (hx 2 (by simp)).strip q3
        simp only [List.getD_cons_zero, List.getD_cons_succ] at hc hd he
        rw [h1] at hc; rw [h2] at hd; rw [h3] at he
        obtain rfl := hc.v_inv; obtain rfl := hd.v_inv; obtain rfl := he.v_inv
        have e1 : (if b < a then b else a) = min a b := by omega
        have e2 : (if c < min a b then c else min a b) = min (min a b) c := by omega
        refine ⟨_, by simp [Builtin.min_, Builtin.min2, e1, e2]; rfl, ?_⟩
        rw [show min (min a b) c = min a (min b c) by omega]; exact .v _
      · cases h
  · cases h

theorem ZI2 {xs : List AV} {us : List Value} {ts : Array TypeId} {ty : TypeId} {φ : Prop} {r : AV} (h : pvMax xs = some (φ, r)) (hφ : φ) (hl : us.length = xs.length) (hx : ∀ j, j < xs.length → Conc B I w ρ (xs.getD j .top) (us.getD j undef)) :
    ∃ z, (Builtin.max_ ts ty us.toArray).run P w = .ok z w ∧ Conc B I w ρ r z := by
  unfold pvMax at h
  split at h
  · rename_i x y
    match us, hl with
    | [u, v], _ =>
      split at h
      · rename_i k a k' b h1 h2
        simp only [Option.some.injEq, Prod.mk.injEq] at h
        obtain ⟨rfl, rfl⟩ := h
        have hc := (hx 0 (by simp)).strip hφ.1
        have hd := (hx 1 (by simp)).strip hφ.2
        simp only [List.getD_cons_zero, List.getD_cons_succ] at hc hd
        rw [h1] at hc; rw [h2] at hd
        obtain rfl := hc.v_inv; obtain rfl := hd.v_inv
        refine ⟨_, by simp [Builtin.max_, Builtin.max2]; rfl, ?_⟩
        have : (if a < b then b else a) = max a b := by omega
        rw [this]; exact .v _
      · cases h
  · cases h

include hT in
theorem ZFh {src dst : TypeId} {x : AV} {u : Value} {φ : Prop} {r : AV} (h : pvConvert T src dst x = some (φ, r)) (hφ : φ) (hx : Conc B I w ρ x u) :
    ∃ z, (convert src dst u).run P w = .ok z w ∧ Conc B I w ρ r z := by
  unfold pvConvert at h
  split at h
  · rename_i si k _ _ _ k' n hs hd hst
    have hu : P.underlying dst = some (.int k) := (hT _ _ hd).kind
    have hsu : ∃ d, P.underlying src = some d := by
      have := (hT _ _ hs).kind
      cases hk : si.k <;> rw [hk] at this <;> simp only [TK.ok] at this
      case st q fs => obtain ⟨F, hF, _⟩ := this; exact ⟨_, hF⟩
      case oth => obtain ⟨d, hd, _⟩ := this; exact ⟨_, hd⟩
      all_goals exact ⟨_, this⟩
    obtain ⟨d, hd'⟩ := hsu
    simp only [Option.some.injEq, Prod.mk.injEq] at h
    obtain ⟨rfl, rfl⟩ := h
    have hc := hx.strip hφ
    rw [hst] at hc
    obtain rfl := hc.v_inv
    exact ⟨_, by simp [convert, run_underlying hu, run_underlying hd', Conv.intToInt], .v _⟩
  · cases h

include hT in
theorem ZHA {t : TypeId} {x i : AV} {u ui : Value} {φ : Prop} {r : AV} (h : pvIndex T t x i = some (φ, r)) (hφ : φ) (hx : Conc B I w ρ x u) (hi : Conc B I w ρ i ui) :
    ∃ z, (Instr.index t u ui).run P w = .ok z w ∧ Conc B I w ρ r z := by
  unfold pvIndex at h
  split at h
  · rename_i _ _ _ s k n ht hst hin
    have hu : P.underlying t = some .string := (hT _ _ ht).kind
    simp only [Option.some.injEq, Prod.mk.injEq] at h
    obtain ⟨rfl, rfl⟩ := h
    obtain ⟨c1, c2, h0, h1⟩ := hφ
    have hc := hx.strip c1
    have hci := hi.strip c2
    rw [hst] at hc; rw [hin] at hci
    obtain rfl := hc.v_inv; obtain rfl := hci.v_inv
    have hlt : n.toNat < s.size := by omega
    refine ⟨_, ?_, .v _⟩
    have : s[n.toNat]? = some (s.data.getD n.toNat 0) := by
      have h3 : n.toNat < s.data.size := hlt
      rw [getElem?_pos s n.toNat hlt, Array.getD_eq_getD_getElem?, getElem?_pos s.data n.toNat h3]
      rfl
    simp only [Instr.index, asIntOf, Sem.run_bind, Sem.run_pure, Result.andThen_ok, run_underlying hu, h0, if_true, this]
  · cases h

include hT hw in
theorem ZGA {t : TypeId} {x k : AV} {u uk : Value} {φ : Prop} {r : AV} (h : pvLookup T H t x k = some (φ, r)) (hφ : φ) (hx : Conc B I w ρ x u) (hk : Conc B I w ρ k uk) :
    ∃ z, (Instr.lookup t u uk false).run P w = .ok z w ∧ Conc B I w ρ r z := by
  unfold pvLookup at h
  split at h
  · rename_i kt e _ _ _ ht
    have hu : P.underlying t = some (.map kt e) := (hT _ _ ht).kind
    split at h
    · rename_i tk te id kv htk hte hst hkv
      obtain ⟨inf, hi1, _, _, hz⟩ := (hT _ _ hte).info
      have hzero : (zeroValue e).run P w = .ok te.z w := by simp only [zeroValue, typeInfo, Sem.run_bind, run_program, Result.andThen_ok, hi1, Sem.run_pure, hz]
      have key0 : ∀ (c : MC) (key : Key), lkH H id = some (.mp c) → keyFor tk.k kv = some key → x.cond → k.cond → key.isI = c.kd → ∃ b, u = .map (some b) ∧ uk = key.val ∧ (Instr.lookup t (.map (some b)) key.val false).run P w = .ok (getK c.ents key te.z) w := by
        intro c key hl hkey c1 c2 hi
        have hc := hx.strip c1
        have hd := hk.strip c2
        rw [hst] at hc; rw [hkv] at hd
        obtain rfl := hd.v_inv
        obtain ⟨e1, e2⟩ := ZB3 hkey
        have hkt : P.underlying kt = some (kdesc c.kd) := by
          have hh := (hT _ _ htk).kind
          rcases e2 with ⟨e3, e4⟩ | ⟨e3, e4⟩
          · rw [e3] at hh; rw [← hi, e4]; exact hh
          · rw [e3] at hh; rw [← hi, e4]; exact hh
        cases hc with
        | s _ x hr _ =>
          obtain ⟨x', hx', b, rfl, _, hm⟩ := hw.ok _ _ hl
          rw [hr] at hx'; injection hx' with hx'; subst hx'
          exact ⟨b, rfl, e1, ZGY hm hu hkt hzero key hi⟩
      split at h
      · rename_i kd q m key hl hkey
        simp only [Option.some.injEq, Prod.mk.injEq] at h
        obtain ⟨rfl, rfl⟩ := h
        obtain ⟨b, rfl, rfl, hrun⟩ := key0 _ key hl hkey hφ.1 hφ.2.1 hφ.2.2.2
        refine ⟨_, hrun, ?_⟩
        rw [hφ.2.2.1]
        show Conc B I w ρ _ (getK (m.map fun p => (p.1, Value.int q p.2)) key (.int q 0))
        rw [ZGZ (f := Value.int q)]; exact .v _
      · rename_i kd m key hl hkey
        simp only [Option.some.injEq, Prod.mk.injEq] at h
        obtain ⟨rfl, rfl⟩ := h
        obtain ⟨b, rfl, rfl, hrun⟩ := key0 _ key hl hkey hφ.1 hφ.2.1 hφ.2.2.2
        refine ⟨_, hrun, ?_⟩
        rw [hφ.2.2.1]
        show Conc B I w ρ _ (getK (m.map fun p => (p.1, Value.bool p.2)) key (.bool false))
        rw [ZGZ (f := Value.bool)]; exact .v _
      · rename_i kd ks c key hl hkey
        simp only [Option.some.injEq, Prod.mk.injEq] at h
        obtain ⟨rfl, rfl⟩ := h
        have hi := hφ.2.2.2
        have hc := hx.strip hφ.1
        have hd := hk.strip hφ.2.1
        rw [hst] at hc; rw [hkv] at hd
        obtain rfl := hd.v_inv
        obtain ⟨e1, e2⟩ := ZB3 hkey
        cases hc with
        | s _ x hr _ =>
          obtain ⟨x', hx', b, vals, rfl, _, hm, hvl, hcl, hcc⟩ := hw.ok _ _ hl
          rw [hr] at hx'; injection hx' with hx'; subst hx'
          have hkt : P.underlying kt = some (kdesc (MC.anys kd (ks.zip vals)).kd) := by
            have hh := (hT _ _ htk).kind
            rcases e2 with ⟨e3, e4⟩ | ⟨e3, e4⟩
            · rw [e3] at hh; simp only [MC.kd]; rw [← hi, e4]; exact hh
            · rw [e3] at hh; simp only [MC.kd]; rw [← hi, e4]; exact hh
          have hrun := ZGY hm hu hkt hzero key hi
          rw [← e1] at hrun
          refine ⟨_, hrun, ?_⟩
          show Conc B I w ρ _ (getK (ks.zip vals) key te.z)
          rw [ZIw hvl]
          unfold getA
          split
          · rename_i hlt
            refine hcc _ _ ?_
            rw [List.getD_eq_getElem?_getD, List.getElem?_eq_getElem (by omega)]; rfl
          · exact .v _
      · cases h
    · cases h
  · cases h

theorem ZI3 {x : AV} {u : Value} {φ : Prop} {r : AV} {o : Oper} {xx : Operand} {ρv : Operand → Value} (ho : o.op = .nilCheck xx) (hu : ρv xx = u) (h : pvNil x = some (φ, r)) (hφ : φ) (hx : Conc B I w ρ x u) :
    ∃ z, (execOp ρv o).run P w = .ok (.value z) w ∧ Conc B I w ρ r z := by
  unfold pvNil at h
  split at h
  · rename_i id off hst
    simp only [Option.some.injEq, Prod.mk.injEq] at h
    obtain ⟨rfl, rfl⟩ := h
    have hc := hx.strip hφ
    rw [hst] at hc
    refine ⟨u, ?_, hc⟩
    cases hc
    simp [execOp, ho, hu]
  · rename_i fr c sz e f hst
    simp only [Option.some.injEq, Prod.mk.injEq] at h
    obtain ⟨rfl, rfl⟩ := h
    have hc := hx.strip hφ
    rw [hst] at hc
    refine ⟨u, ?_, hc⟩
    cases hc
    simp [execOp, ho, hu]
  · rename_i k cs hst
    simp only [Option.some.injEq, Prod.mk.injEq] at h
    obtain ⟨rfl, rfl⟩ := h
    have hc := hx.strip hφ
    rw [hst] at hc
    refine ⟨u, ?_, hc⟩
    cases hc
    simp [execOp, ho, hu]
  · cases h
end
end Go.Eng
namespace Go.Eng
open Go.RowKit

def AV.one : AV → Bool
  | .v x => oneC x
  | .s _ => true
  | .w _ _ _ => true
  | .p _ _ => true
  | .i _ _ _ _ _ => true
  | .q _ _ _ _ _ => true
  | .f _ _ => true
  | _ => false
theorem Conc.one {B : Nat} {I : Nat → Prop} {w : World} {ρ : Nat → Option Value} {x : AV} {u : Value} (h : Conc B I w ρ x u) (h1 : x.one = true) : oneC u = true := by
  cases h <;> simp_all [AV.one, oneC]
theorem cells_one {u : Value} (h : oneC u = true) : u.cells = #[u] := by cases u <;> simp_all [oneC, Value.cells]

def setFrom (cells : List AV) (off : Nat) : List AV → List AV
  | [] => cells
  | x :: r => setFrom (cells.set off x) (off + 1) r

def cellsOf (x : AV) : Option (List AV) :=
  match x with
  | .a cs => some cs
  | y => if y.one then some [y] else none

def fillA (place : Nat → Option (Nat × Nat)) : List AV → List (Nat × AV) → Option (Prop × List AV)
  | cells, [] => some (True, cells)
  | cells, (i, x) :: rest =>
    match place i, cellsOf x.strip with
    | some (off, size), some cs =>
      match fillA place (setFrom cells off cs) rest with
      | some (φ, r) => some (x.cond ∧ cs.length = size ∧ off + size ≤ cells.length ∧ φ, r)
      | none => none
    | _, _ => none

section
variable {B : Nat} {I : Nat → Prop} {w : World} {ρ : Nat → Option Value}

def ConcL (B : Nat) (I : Nat → Prop) (w : World) (ρ : Nat → Option Value) (cs : List AV) (us : List Value) : Prop := us.length = cs.length ∧ ∀ j, j < cs.length → Conc B I w ρ (cs.getD j .top) (us.getD j undef)

theorem ConcL.set {cs : List AV} {us : List Value} (h : ConcL B I w ρ cs us) {x : AV} {u : Value} (hx : Conc B I w ρ x u) (k : Nat) : ConcL B I w ρ (cs.set k x) (us.set k u) := by
  refine ⟨by simp [h.1], fun j hj => ?_⟩
  simp at hj
  by_cases e : k = j
  · subst e
    rw [getD_set_self _ _ _ _ hj, getD_set_self _ _ _ _ (by rw [h.1]; exact hj)]; exact hx
  · rw [getD_set_ne _ _ _ _ _ e, getD_set_ne _ _ _ _ _ e]; exact h.2 j hj

theorem ZEx {x : AV} {u : Value} (hx : Conc B I w ρ x u) {cs : List AV} (h : cellsOf x = some cs) : ConcL B I w ρ cs u.cells.toList := by
  unfold cellsOf at h
  split at h
  · rename_i cs'
    injection h with h; subst h
    cases hx with
    | a _ us hl hc => exact ⟨by simpa [Value.cells] using hl, fun j hj => by simpa [Value.cells, List.getD_eq_getElem?_getD, Array.getD_eq_getD_getElem?] using hc j hj⟩
  · split at h
    · rename_i h1
      injection h with h; subst h
      rw [cells_one (hx.one h1)]
      refine ⟨by simp, fun j hj => ?_⟩
      simp at hj; subst hj; exact hx
    · cases h

theorem ZI4 (vs : List Value) : ∀ (cells : Array Value) (off k : Nat), ((vs.zipIdx k).foldl (fun cs (p : Value × Nat) => cs.setIfInBounds (off + p.2) p.1) cells).toList = (List.foldl (fun (q : List Value × Nat) v => (q.1.set q.2 v, q.2 + 1)) (cells.toList, off + k) vs).1 := by
  induction vs with
  | nil => intro cells off k; rfl
  | cons v r ih =>
    intro cells off k
    simp only [List.zipIdx_cons, List.foldl_cons]
    rw [ih]
    simp [Nat.add_assoc]

theorem ConcL.setFrom {xs : List AV} : ∀ {vs : List Value} {cs : List AV} {us : List Value} (off : Nat), ConcL B I w ρ cs us → ConcL B I w ρ xs vs →
    ConcL B I w ρ (setFrom cs off xs) (List.foldl (fun (q : List Value × Nat) v => (q.1.set q.2 v, q.2 + 1)) (us, off) vs).1 := by
  induction xs with
  | nil =>
    intro vs cs us off h hx
    have : vs = [] := List.eq_nil_of_length_eq_zero (by simpa using hx.1)
    subst this; exact h
  | cons x r ih =>
    intro vs cs us off h hx
    match vs, hx with
    | v :: vs, hx =>
      simp only [Eng.setFrom, List.foldl_cons]
      refine ih (off + 1) (h.set (by simpa using hx.2 0 (by simp)) off) ⟨by simpa using hx.1, fun j hj => ?_⟩
      simpa using hx.2 (j + 1) (by simpa using hj)
    | [], hx => exact absurd hx.1 (by simp)

theorem ZDe {place : Nat → Option (Nat × Nat)} : ∀ (parts : List (Nat × AV)) (vs : List (Nat × Value)) (cs : List AV) (us : Array Value) {φ : Prop} {r : List AV}, fillA place cs parts = some (φ, r) → φ → ConcL B I w ρ cs us.toList →
    vs.map (·.1) = parts.map (·.1) → (∀ j, j < parts.length → Conc B I w ρ (parts.getD j (0, .top)).2 (vs.getD j (0, undef)).2) →
    ∃ us', Instr.fill place us vs = some us' ∧ ConcL B I w ρ r us'.toList := by
  intro parts
  induction parts with
  | nil =>
    intro vs cs us φ r h hφ hc hm _
    have : vs = [] := by simpa using hm
    subst this
    simp only [fillA, Option.some.injEq, Prod.mk.injEq] at h
    obtain ⟨_, rfl⟩ := h
    exact ⟨us, rfl, hc⟩
  | cons p rest ih =>
    intro vs cs us φ r h hφ hc hm hx
    obtain ⟨i, x⟩ := p
    match vs, hm, hx with
    | (i', u) :: vs, hm, hx =>
      simp only [List.map_cons, List.cons.injEq] at hm
      obtain ⟨rfl, hm2⟩ := hm
      simp only [fillA] at h
      split at h
      · rename_i off size xs hp hcx
        split at h
        · rename_i ψ r' hr
          simp only [Option.some.injEq, Prod.mk.injEq] at h
          obtain ⟨rfl, rfl⟩ := h
          have hu : Conc B I w ρ x u := by simpa using hx 0 (by simp)
          have hcells := ZEx (hu.strip hφ.1) hcx
          have hsz : u.cells.size = size := by rw [← Array.length_toList, hcells.1]; exact hφ.2.1
          have hle : off + u.cells.size ≤ us.size := by rw [hsz, ← Array.length_toList, hc.1]; exact hφ.2.2.1
          simp only [Instr.fill, hp]
          have hn : (decide (u.cells.size ≠ size) || decide (off + u.cells.size > us.size)) = false := by simp [hsz]; omega
          rw [if_neg (by simp [hsz]; omega)]
          refine ih vs _ _ hr hφ.2.2.2 ?_ hm2 (fun j hj => by simpa using hx (j + 1) (by simpa using hj))
          have := ConcL.setFrom off hc hcells
          have e := ZI4 u.cells.toList us off 0
          rw [Nat.add_zero] at e
          rw [← e] at this
          have e2 : Array.foldl (fun cs (p : Value × Nat) => cs.setIfInBounds (off + p.2) p.1) us u.cells.zipIdx = List.foldl (fun cs (p : Value × Nat) => cs.setIfInBounds (off + p.2) p.1) us (u.cells.toList.zipIdx 0) := by
            rw [← Array.foldl_toList]; simp
          have e3 : (Array.foldl (fun cs (x : Value × Nat) => match x with | (c, j) => cs.setIfInBounds (off + j) c) us u.cells.zipIdx) = Array.foldl (fun cs (p : Value × Nat) => cs.setIfInBounds (off + p.2) p.1) us u.cells.zipIdx := rfl
          rw [e3, e2]; exact this
        · cases h
      · cases h
    | [], hm, hx => simp at hm
end

def pvBuild (T : Tab) (t : TypeId) (parts : List (Nat × AV)) : Option (Prop × AV) :=
  match T t with
  | some ⟨.st _ fs, _, _, z⟩ =>
    match fillA (fun i => match fs[i]? with | some (o, ty) => (match T ty with | some ti => some (o, ti.sz) | none => none) | none => none) (z.cells.toList.map ofVal) parts with
    | some (φ, r) => some (fs.all (fun p => (T p.2).isSome) = true ∧ φ, .a r)
    | none => none
  | some ⟨.arr _ e, _, _, z⟩ =>
    match T e with
    | some te =>
      match fillA (fun i => some (i * te.sz, te.sz)) (z.cells.toList.map ofVal) parts with
      | some (φ, r) => some (φ, .a r)
      | none => none
    | none => none
  | _ => none

theorem ZDo {B : Nat} {I : Nat → Prop} {w : World} {ρ : Nat → Option Value} (us : List Value) : ConcL B I w ρ (us.map ofVal) us := by
  refine ⟨by simp, fun j hj => ?_⟩
  simp at hj
  have : (us.map ofVal).getD j .top = ofVal (us.getD j undef) := by simp [List.getD_eq_getElem?_getD, hj]
  rw [this]; exact ZBx _

section
variable {P : Program} {T : Tab} (hT : T.ok P) {B : Nat} {I : Nat → Prop} {w : World} {ρ : Nat → Option Value} {H : List (Nat × Blk)} (hw : HW B I w ρ H)

include hT in
theorem run_places (F : List Field) (h : (F.map fun f => (f.offset, f.type)).all (fun p => (T p.2).isSome) = true) :
    (F.mapM fun f => do pure (f.offset, ← sizeOf f.type) : Sem (List (Nat × Nat))).run P w = .ok (F.map fun f => (f.offset, ((T f.type).map TI.sz).getD 0)) w := by
  induction F with
  | nil => simp
  | cons f F ih =>
    simp only [List.map_cons, List.all_cons, Bool.and_eq_true] at h
    obtain ⟨h1, h2⟩ := h
    cases ht : T f.type with
    | none => simp [ht] at h1
    | some ti =>
      have e := ih h2
      simp only [List.mapM_cons, Sem.run_bind, (hT _ _ ht).size w, Result.andThen_ok, Sem.run_pure, e, List.map_cons, ht]
      rfl

include hT in
theorem ZHB {t : TypeId} {parts : List (Nat × AV)} {vs : Array (Nat × Value)} {φ : Prop} {r : AV} (h : pvBuild T t parts = some (φ, r)) (hφ : φ)
    (hm : vs.toList.map (·.1) = parts.map (·.1)) (hx : ∀ j, j < parts.length → Conc B I w ρ (parts.getD j (0, .top)).2 (vs.toList.getD j (0, undef)).2) :
    ∃ z, (Instr.build t vs).run P w = .ok z w ∧ Conc B I w ρ r z := by
  unfold pvBuild at h
  split at h
  · rename_i fs _ _ z ht
    obtain ⟨inf, hi1, _, _, hz⟩ := (hT _ _ ht).info
    obtain ⟨F, hF, hfs, _⟩ := (hT _ _ ht).kind
    split at h
    · rename_i ψ cs hfill
      simp only [Option.some.injEq, Prod.mk.injEq] at h
      obtain ⟨rfl, rfl⟩ := h
      obtain ⟨us', h1, h2⟩ := ZDe parts vs.toList _ z.cells hfill hφ.2 (ZDo (B := B) (I := I) (w := w) (ρ := ρ) _) hm hx
      have hp := run_places (w := w) hT F.toList (by rw [hfs]; exact hφ.1)
      have hplace : (fun (i : Nat) => match (fs[i]? : Option (Nat × TypeId)) with | some (o, ty) => (match T ty with | some ti => some (o, ti.sz) | none => none) | none => none) = fun (i : Nat) => ((F.toList.map fun f => (f.offset, ((T f.type).map TI.sz).getD 0)).toArray)[i]? := by
        funext i
        have hall := hφ.1
        rw [← hfs] at hall ⊢
        simp only [List.getElem?_map, List.getElem?_toArray]
        cases hf : F.toList[i]? with
        | none => simp
        | some f =>
          have : (T f.type).isSome = true := by
            rw [List.all_eq_true] at hall
            exact hall (f.offset, f.type) (List.mem_map.2 ⟨f, List.mem_of_getElem? hf, rfl⟩)
          cases ht : T f.type with
          | none => simp [ht] at this
          | some ti => simp [ht]
      rw [hplace] at h1
      refine ⟨.agg us', ?_, .a _ _ h2.1 (fun j hj => by simpa [List.getD_eq_getElem?_getD, Array.getD_eq_getD_getElem?] using h2.2 j hj)⟩
      have hp' : (F.mapM fun f => do pure (f.offset, ← sizeOf f.type) : Sem (Array (Nat × Nat))).run P w = .ok (F.toList.map fun f => (f.offset, ((T f.type).map TI.sz).getD 0)).toArray w := by
        rw [Array.mapM_eq_mapM_toList, ← bind_pure_comp]
        simp only [Sem.run_bind, hp, Result.andThen_ok, Sem.run_pure]
      simp only [Instr.build, zeroValue, typeInfo, Sem.run_bind, run_program, Result.andThen_ok, hi1, Sem.run_pure, hz, run_underlying hF, hp', h1]
    · cases h
  · rename_i n e _ _ z ht
    obtain ⟨inf, hi1, _, _, hz⟩ := (hT _ _ ht).info
    have hu : P.underlying t = some (.array n e) := (hT _ _ ht).kind
    split at h
    · rename_i te hte
      split at h
      · rename_i ψ cs hfill
        simp only [Option.some.injEq, Prod.mk.injEq] at h
        obtain ⟨rfl, rfl⟩ := h
        obtain ⟨us', h1, h2⟩ := ZDe parts vs.toList _ z.cells hfill hφ (ZDo (B := B) (I := I) (w := w) (ρ := ρ) _) hm hx
        refine ⟨.agg us', ?_, .a _ _ h2.1 (fun j hj => by simpa [List.getD_eq_getElem?_getD, Array.getD_eq_getD_getElem?] using h2.2 j hj)⟩
        simp only [Instr.build, zeroValue, typeInfo, Sem.run_bind, run_program, Result.andThen_ok, hi1, Sem.run_pure, hz, run_underlying hu, (hT _ _ hte).size w, h1]
      · cases h
    · cases h
  · cases h
end
end Go.Eng
