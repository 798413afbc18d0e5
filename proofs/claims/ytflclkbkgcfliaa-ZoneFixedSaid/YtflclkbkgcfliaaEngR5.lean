/- Other names for the blocks below a bound. -/
import Derived.Test.YtflclkbkgcfliaaEngR4
namespace Go.Eng
open Go.RowKit
set_option linter.unusedVariables false

def mvI (N k id : Nat) : Nat := if id < N then id + k else id
def AV.mv (N k : Nat) : AV → AV
  | .v x => .v x
  | .s id => .s (mvI N k id)
  | .w id off len => .w (mvI N k id) off len
  | .p id off => .p (mvI N k id) off
  | .i fr c sz off len => .i fr c sz off len
  | .q fr c sz e j => .q fr c sz e j
  | .a cs => .a (mvL N k cs)
  | .t cs => .t (mvL N k cs)
  | .f fn cs => .f fn (mvL N k cs)
  | .g b x => .g b (AV.mv N k x)
  | .top => .top
where mvL (N k : Nat) : List AV → List AV
  | [] => []
  | x :: r => AV.mv N k x :: mvL N k r
theorem mvL_length (N k : Nat) (cs : List AV) : (AV.mv.mvL N k cs).length = cs.length := by
  induction cs with
  | nil => rfl
  | cons x r ih => simp [AV.mv.mvL, ih]
theorem mvL_getD (N k : Nat) (cs : List AV) (j : Nat) : (AV.mv.mvL N k cs).getD j .top = (cs.getD j .top).mv N k := by
  induction cs generalizing j with
  | nil => simp [AV.mv.mvL, AV.mv]
  | cons x r ih => cases j with
    | zero => simp [AV.mv.mvL]
    | succ j => simpa [AV.mv.mvL] using ih j
theorem Conc.mv {N k B : Nat} {I : Nat → Prop} {w : World} {ρ : Nat → Option Value} {x : AV} {u : Value} (h : Conc B I w ρ x u) : x.ids (fun id => id < k ∨ k + N ≤ id) → ∀ ρ', (∀ id, (id < k ∨ k + N ≤ id) → ρ' (mvI N k id) = ρ id) → Conc B I w ρ' (x.mv N k) u := by
  induction h with
  | v x => intro _ ρ' _; rw [AV.mv]; exact .v x
  | s id x h h1 => intro hi ρ' hr; rw [AV.mv]; rw [AV.ids] at hi; exact .s _ x (by rw [hr id hi]; exact h) h1
  | w id off len cap A x h hcap hA => intro hi ρ' hr; rw [AV.mv]; rw [AV.ids] at hi; exact .w _ off len cap A x (by rw [hr id hi]; exact h) hcap hA
  | p id off b x h hb => intro hi ρ' hr; rw [AV.mv]; rw [AV.ids] at hi; exact .p _ off b x (by rw [hr id hi]; exact h) hb
  | i fr c sz off len cap A u hcap hA hc ih => intro _ ρ' _; rw [AV.mv]; exact .i fr c sz off len cap A u hcap hA hc
  | q fr c sz e f ad u h2 h3 hcell hc ih => intro _ ρ' _; rw [AV.mv]; exact .q fr c sz e f ad u h2 h3 hcell hc
  | a cs us hl h ih => intro hi ρ' hr; rw [AV.mv]; rw [AV.ids] at hi; exact .a _ us (by rw [mvL_length]; exact hl) fun j hj => by rw [mvL_length] at hj; rw [mvL_getD]; exact ih j hj (idsL_getD hi j) ρ' hr
  | t cs us hl h ih => intro hi ρ' hr; rw [AV.mv]; rw [AV.ids] at hi; exact .t _ us (by rw [mvL_length]; exact hl) fun j hj => by rw [mvL_length] at hj; rw [mvL_getD]; exact ih j hj (idsL_getD hi j) ρ' hr
  | f fn cs us hl h ih => intro hi ρ' hr; rw [AV.mv]; rw [AV.ids] at hi; exact .f fn _ us (by rw [mvL_length]; exact hl) fun j hj => by rw [mvL_length] at hj; rw [mvL_getD]; exact ih j hj (idsL_getD hi j) ρ' hr
  | g b x u h h0 ih => intro hi ρ' hr; rw [AV.mv]; rw [AV.ids] at hi; exact .g b _ u (fun hb => ih hb hi ρ' hr) h0
  | top u => intro _ ρ' _; rw [AV.mv]; exact .top u
def Cont.mv (N k : Nat) : Cont → Cont
  | .ints q l => .ints q l
  | .vals l => .vals l
  | .avs l => .avs (AV.mv.mvL N k l)
def Blk.mv (N k : Nat) : Blk → Blk
  | .box t c => .box t (c.mv N k)
  | .row e sz c => .row e sz c
  | .mp c => .mp c
def Blk.ids (p : Nat → Prop) : Blk → Prop
  | .box _ (.avs l) => AV.idsL p l
  | _ => True
def idsH (p : Nat → Prop) : List (Nat × Blk) → Prop
  | [] => True
  | (d, b) :: r => p d ∧ b.ids p ∧ idsH p r
theorem idsH_lk {p : Nat → Prop} : ∀ {H : List (Nat × Blk)}, idsH p H → ∀ {id b}, lkH H id = some b → p id ∧ b.ids p
  | [], _, _, _, h => by cases h
  | (d, c) :: r, hi, id, b, h => by
    simp only [lkH] at h
    split at h
    · rename_i e; injection h with h; subst h; subst e; exact ⟨hi.1, hi.2.1⟩
    · exact idsH_lk hi.2.2 h
theorem Cont.mv_len (N k : Nat) (c : Cont) : (c.mv N k).len = c.len := by cases c <;> simp [Cont.mv, Cont.len, mvL_length]
theorem Cont.mv_at (N k : Nat) (c : Cont) (j : Nat) : (c.mv N k).at j = (c.at j).mv N k := by cases c <;> simp only [Cont.mv, Cont.at, AV.mv, mvL_getD]
theorem Cont.ids_at {p : Nat → Prop} {t : TypeId} {c : Cont} (h : (Blk.box t c).ids p) (j : Nat) : (c.at j).ids p := by
  cases c with
  | ints q l => simp only [Cont.at, AV.ids]
  | vals l => simp only [Cont.at, AV.ids]
  | avs l => exact idsL_getD h j
def mvE (N k : Nat) : List (Nat × AV) → List (Nat × AV)
  | [] => []
  | (s, x) :: r => (s, x.mv N k) :: mvE N k r
def mvH (N k : Nat) : List (Nat × Blk) → List (Nat × Blk)
  | [] => []
  | (d, b) :: r => (mvI N k d, b.mv N k) :: mvH N k r
theorem lk_mvE (N k : Nat) : ∀ (E : List (Nat × AV)) (s : Nat), lk (mvE N k E) s = (lk E s).mv N k
  | [], s => by simp [mvE, lk, AV.mv]
  | (t, x) :: r, s => by
    simp only [mvE, lk]
    split
    · rfl
    · exact lk_mvE N k r s
theorem lkH_mvH (N k : Nat) : ∀ {H : List (Nat × Blk)} (_ : idsH (fun id => id < k ∨ k + N ≤ id) H) {id : Nat} {b : Blk}, lkH (mvH N k H) id = some b → ∃ id0 b0, id = mvI N k id0 ∧ (id0 < k ∨ k + N ≤ id0) ∧ lkH H id0 = some b0 ∧ b = b0.mv N k
  | [], _, _, _, h => by cases h
  | (d, c) :: r, hi, id, b, h => by
    simp only [mvH, lkH] at h
    split at h
    · rename_i e; injection h with h; exact ⟨d, c, e.symm, hi.1, by simp [lkH], h.symm⟩
    · rename_i e
      obtain ⟨id0, b0, e1, e0, e2, e3⟩ := lkH_mvH N k hi.2.2 h
      refine ⟨id0, b0, e1, e0, ?_, e3⟩
      simp only [lkH]
      rw [if_neg (fun hh => e (by rw [hh, e1]))]; exact e2
theorem G.mv {n B : Nat} {w0 : Orig} {st : St} {a : Act} {w : World} (hG : G n B w0 st a w) (N k : Nat) (hNk : N ≤ k) (hn : n ≤ k) (hE : idsE (fun id => id < k ∨ k + N ≤ id) st.env) (hH : idsH (fun id => id < k ∨ k + N ≤ id) st.heap) (hgh : ∀ id, k ≤ id → w0.gh id = none) : G n B w0 ⟨mvE N k st.env, mvH N k st.heap⟩ a w := by
  obtain ⟨ρ, I, h⟩ := hG
  have hρ : ∀ id, (id < k ∨ k + N ≤ id) → (fun j => if k ≤ j ∧ j < k + N then ρ (j - k) else ρ j) (mvI N k id) = ρ id := fun id hid => by
    unfold mvI
    split
    · simp only; rw [if_pos (by omega)]; congr 1; omega
    · simp only; rw [if_neg (by omega)]
  refine ⟨fun j => if k ≤ j ∧ j < k + N then ρ (j - k) else ρ j, I, h.defers, h.size, fun s => ?_, ⟨fun id blk hk => ?_, fun id id' b1 b2 x x' b hne k1 k2 hx hx' hb => ?_, fun id blk x b hk hx hb => ?_, h.hw.lt⟩, h.below, h.base, ⟨h.old.up, fun id x hx => ?_, h.old.ghn, h.old.keep⟩⟩
  · show Conc _ _ _ _ (lk (mvE N k st.env) s) _
    rw [lk_mvE]; exact (h.env s).mv (idsE_lk hE s) _ hρ
  · obtain ⟨id0, b0, rfl, e0, h2, rfl⟩ := lkH_mvH N k hH hk
    obtain ⟨x, hx, hok⟩ := h.hw.ok id0 b0 h2
    refine ⟨x, by rw [← hx]; exact hρ id0 e0, ?_⟩
    cases b0 with
    | box t c =>
      obtain ⟨b, us, rfl, hB, hh, hl, hc⟩ := hok
      exact ⟨b, us, rfl, hB, hh, by rw [Cont.mv_len]; exact hl, fun j u hu => by rw [Cont.mv_at]; exact (hc j u hu).mv (Cont.ids_at (idsH_lk hH h2).2 j) _ hρ⟩
    | row e sz c => exact hok
    | mp c => exact hok
  · obtain ⟨i1, c1, rfl, e1, g1, rfl⟩ := lkH_mvH N k hH k1
    obtain ⟨i2, c2, rfl, e2, g2, rfl⟩ := lkH_mvH N k hH k2
    have hx2 : ρ i1 = some x := by rw [← hρ i1 e1]; exact hx
    have hx3 : ρ i2 = some x' := by rw [← hρ i2 e2]; exact hx'
    exact h.hw.apart i1 i2 c1 c2 x x' b (fun e => hne (by rw [e])) g1 g2 hx2 hx3 hb
  · obtain ⟨i1, c1, rfl, e1, g1, rfl⟩ := lkH_mvH N k hH hk
    have hx2 : ρ i1 = some x := by rw [← hρ i1 e1]; exact hx
    exact h.hw.imm i1 c1 x b g1 hx2 hb
  · have : ¬ (k ≤ id ∧ id < k + N) := fun hh => by rw [hgh id hh.1] at hx; cases hx
    show (if k ≤ id ∧ id < k + N then ρ (id - k) else ρ id) = x
    rw [if_neg this]; exact h.old.gh id x hx
/-- The blocks below N get names from k on. -/
theorem awp_mv {P : Program} {n B : Nat} {w0 : Orig} {c : Code} {Q : Exit → St → Prop} {st : St} (N k : Nat) (hNk : N ≤ k) (hn : n ≤ k) (hE : idsE (fun id => id < k ∨ k + N ≤ id) st.env) (hH : idsH (fun id => id < k ∨ k + N ≤ id) st.heap) (hgh : ∀ id, k ≤ id → w0.gh id = none) (h : AWP P n B w0 c Q ⟨mvE N k st.env, mvH N k st.heap⟩) : AWP P n B w0 c Q st := fun a w hG => h a w (hG.mv N k hNk hn hE hH hgh)
attribute [push_cast] mvI AV.mv AV.mv.mvL Cont.mv Blk.mv Blk.ids idsH mvE mvH
end Go.Eng
