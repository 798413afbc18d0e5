/- Memory that turns: a new block, a store, an append. -/
import Derived.Test.YtgcomonjkcpkaaaQngG
namespace Go.Eng
open Go.RowKit

def updρ (ρ : Nat → Option Value) (d : Nat) (x : Value) : Nat → Option Value := fun id => if id = d then some x else ρ id
theorem updρ_self (ρ : Nat → Option Value) (d : Nat) (x : Value) : updρ ρ d x d = some x := if_pos rfl
theorem updρ_ne (ρ : Nat → Option Value) (d : Nat) (x : Value) {id : Nat} (h : id ≠ d) : updρ ρ d x id = ρ id := if_neg h

def killH (d : Nat) : List (Nat × Blk) → List (Nat × Blk)
  | [] => []
  | (k, b) :: r => if k = d then killH d r else (k, b.kill d) :: killH d r
def killE (d : Nat) : List (Nat × AV) → List (Nat × AV)
  | [] => []
  | (k, x) :: r => (k, x.kill d) :: killE d r
def delH (d : Nat) : List (Nat × Blk) → List (Nat × Blk)
  | [] => []
  | (k, b) :: r => if k = d then delH d r else (k, b) :: delH d r

theorem lk_killE (d : Nat) (env : List (Nat × AV)) (s : Nat) : lk (killE d env) s = (lk env s).kill d := by
  induction env with
  | nil => simp [killE, lk, AV.kill]
  | cons p r ih =>
    obtain ⟨k, x⟩ := p
    simp only [killE, lk]
    split <;> simp_all
theorem lkH_killH (d : Nat) (H : List (Nat × Blk)) (id : Nat) : lkH (killH d H) id = if id = d then none else (lkH H id).map (Blk.kill d) := by
  induction H with
  | nil => simp [killH, lkH]
  | cons p r ih =>
    obtain ⟨k, b⟩ := p
    simp only [killH, lkH]
    by_cases hk : k = d
    · subst hk
      rw [if_pos rfl, ih]
      by_cases hi : id = k
      · simp [hi]
      · rw [if_neg hi, if_neg hi, if_neg (Ne.symm hi)]
    · rw [if_neg hk]
      simp only [lkH]
      by_cases hi : k = id
      · subst hi; rw [if_pos rfl, if_neg hk, if_pos rfl]; rfl
      · rw [if_neg hi, if_neg hi, ih]
theorem lkH_delH (d : Nat) (H : List (Nat × Blk)) (id : Nat) : lkH (delH d H) id = if id = d then none else lkH H id := by
  induction H with
  | nil => simp [delH, lkH]
  | cons p r ih =>
    obtain ⟨k, b⟩ := p
    simp only [delH, lkH]
    by_cases hk : k = d
    · subst hk
      rw [if_pos rfl, ih]
      by_cases hi : id = k
      · simp [hi]
      · rw [if_neg hi, if_neg hi, if_neg (Ne.symm hi)]
    · rw [if_neg hk]
      simp only [lkH]
      by_cases hi : k = id
      · subst hi; rw [if_pos rfl, if_neg hk, if_pos rfl]
      · rw [if_neg hi, if_neg hi, ih]

theorem BlkOK.killed {B : Nat} {I : Nat → Prop} {w : World} {ρ ρ' : Nat → Option Value} {x : Value} {blk : Blk} (h : BlkOK B I w ρ x blk) (d : Nat) (hρ : ∀ id, id ≠ d → ρ' id = ρ id) : BlkOK B I w ρ' x (blk.kill d) := by
  cases blk with
  | box t c =>
    obtain ⟨b, us, rfl, hB, hh, hl, hc⟩ := h
    exact ⟨b, us, rfl, hB, hh, by rw [Cont.kill_len]; exact hl, fun j u hu => by rw [Cont.kill_at]; exact (hc j u hu).kill d _ hρ⟩
  | row e sz c => exact h
  | nst e c =>
    obtain ⟨n, xs, ho, hl, hc⟩ := h
    exact ⟨n, xs, ho, by rw [Cont.kill_len]; exact hl, fun j u hu => by rw [Cont.kill_at]; exact (hc j u hu).kill d _ hρ⟩

/-- Block d is made anew (or taken over from a row that is gone); all that lives else is as it was. -/
theorem HW.replace {B : Nat} {I : Nat → Prop} {w w' : World} {ρ : Nat → Option Value} {H H0 : List (Nat × Blk)} (h : HW B I w ρ H) (hsub : ∀ id blk, lkH H0 id = some blk → lkH H id = some blk) (d : Nat) (x : Value) (blk : Blk)
    (hx : BlkOK B I w' (updρ ρ d x) x blk) (hsz : w.heap.size ≤ w'.heap.size)
    (hkI : ∀ b, I b → w'.heap[b]? = w.heap[b]?)
    (hkeep : ∀ id blk y b, id ≠ d → lkH H0 id = some blk → ρ id = some y → rootBlk y = some b → w'.heap[b]? = w.heap[b]?)
    (hap : ∀ id blk y b, id ≠ d → lkH H0 id = some blk → ρ id = some y → rootBlk y = some b → rootBlk x ≠ some b)
    (him : ∀ b, rootBlk x = some b → ¬ I b) : HW B I w' (updρ ρ d x) ((d, blk) :: killH d H0) := by
  have look : ∀ id blk', lkH ((d, blk) :: killH d H0) id = some blk' → (id = d ∧ blk' = blk) ∨ (id ≠ d ∧ ∃ b0, lkH H0 id = some b0 ∧ blk' = b0.kill d) := by
    intro id blk' hk
    simp only [lkH] at hk
    by_cases e : d = id
    · rw [if_pos e] at hk; injection hk with hk; exact .inl ⟨e.symm, hk.symm⟩
    · rw [if_neg e, lkH_killH, if_neg (Ne.symm e)] at hk
      cases h0 : lkH H0 id with
      | none => rw [h0] at hk; cases hk
      | some b0 => rw [h0] at hk; injection hk with hk; exact .inr ⟨Ne.symm e, b0, rfl, hk.symm⟩
  refine ⟨fun id blk' hk => ?_, fun id id' b1 b2 y y' b hne h1 h2 hy hy' hb => ?_, fun id blk' y b hk hy hb => ?_, fun b hb => Nat.lt_of_lt_of_le (h.lt b hb) hsz⟩
  · rcases look id blk' hk with ⟨rfl, rfl⟩ | ⟨hne, b0, h0, rfl⟩
    · exact ⟨x, updρ_self _ _ _, hx⟩
    · obtain ⟨y, hy, hok⟩ := h.ok id b0 (hsub _ _ h0)
      refine ⟨y, by rw [updρ_ne _ _ _ hne]; exact hy, ?_⟩
      have h2 := hok.move (I' := I) (w' := w') (ρ' := ρ) (fun b hb => hkeep id b0 y b hne h0 hy hb) (fun b hb => ⟨hb, hkI b hb⟩) (fun _ _ h => h)
      exact h2.killed d (fun id hid => updρ_ne _ _ _ hid)
  · rcases look id b1 h1 with ⟨rfl, rfl⟩ | ⟨hn1, c1, hc1, rfl⟩
    · rcases look id' b2 h2 with ⟨rfl, rfl⟩ | ⟨hn2, c2, hc2, rfl⟩
      · exact absurd rfl hne
      · rw [updρ_self] at hy; injection hy with hy; subst hy
        rw [updρ_ne _ _ _ hn2] at hy'
        intro hb'
        exact hap id' c2 y' b hn2 hc2 hy' hb' hb
    · rw [updρ_ne _ _ _ hn1] at hy
      rcases look id' b2 h2 with ⟨rfl, rfl⟩ | ⟨hn2, c2, hc2, rfl⟩
      · rw [updρ_self] at hy'; injection hy' with hy'; subst hy'
        exact hap id c1 y b hn1 hc1 hy hb
      · rw [updρ_ne _ _ _ hn2] at hy'
        exact h.apart id id' c1 c2 y y' b hne (hsub _ _ hc1) (hsub _ _ hc2) hy hy' hb
  · rcases look id blk' hk with ⟨rfl, rfl⟩ | ⟨hne, b0, h0, rfl⟩
    · rw [updρ_self] at hy; injection hy with hy; subst hy; exact him b hb
    · rw [updρ_ne _ _ _ hne] at hy
      exact h.imm id b0 y b (hsub _ _ h0) hy hb

theorem Gam.replace {n B : Nat} {w0 : Orig} {st : St} {a : Act} {w w' : World} {ρ : Nat → Option Value} {I : Nat → Prop} (h : Gam n B w0 st a w ρ I) {H0 : List (Nat × Blk)} (hsub : ∀ id blk, lkH H0 id = some blk → lkH st.heap id = some blk) (d : Nat) (x : Value) (blk : Blk)
    (hx : BlkOK B I w' (updρ ρ d x) x blk) (hbel : Below B w w')
    (hkI : ∀ b, I b → w'.heap[b]? = w.heap[b]?)
    (hkeep : ∀ id blk y b, id ≠ d → lkH H0 id = some blk → ρ id = some y → rootBlk y = some b → w'.heap[b]? = w.heap[b]?)
    (hap : ∀ id blk y b, id ≠ d → lkH H0 id = some blk → ρ id = some y → rootBlk y = some b → rootBlk x ≠ some b)
    (him : ∀ b, rootBlk x = some b → ¬ I b) (hgd : w0.gh d = none) : Gam n B w0 ⟨killE d st.env, (d, blk) :: killH d H0⟩ a w' (updρ ρ d x) I :=
  ⟨h.defers, h.size, fun s => by
      show Conc B I w' (updρ ρ d x) (lk (killE d st.env) s) _
      rw [lk_killE]
      exact ((h.env s).kill d _ (fun id hid => updρ_ne _ _ _ hid)).same hkI,
    h.hw.replace hsub d x blk hx hbel.size hkI hkeep hap him, h.below.trans hbel, Nat.le_trans h.base hbel.size, ⟨h.old.up, fun id y hy => by
      by_cases e : id = d
      · rw [e, hgd] at hy; cases hy
      · rw [updρ_ne _ _ _ e]; exact h.old.gh id y hy, h.old.ghn, fun b hb => ⟨(h.old.keep b hb).1, by rw [hkI b (h.old.keep b hb).1]; exact (h.old.keep b hb).2⟩⟩⟩

/-- A new row of cells for id d. -/
theorem Gam.new {n B : Nat} {w0 : Orig} {st : St} {a : Act} {w w1 : World} {ρ : Nat → Option Value} {I : Nat → Prop} (h : Gam n B w0 st a w ρ I) (hb : Below w.heap.size w w1) (d : Nat) (x : Value) (blk : Blk)
    (hx : BlkOK B I w1 (updρ ρ d x) x blk) (hroot : ∀ b, rootBlk x = some b → w.heap.size ≤ b) (hgd : w0.gh d = none) : Gam n B w0 ⟨killE d st.env, (d, blk) :: killH d st.heap⟩ a w1 (updρ ρ d x) I := by
  have hlt : ∀ id blk y b, lkH st.heap id = some blk → ρ id = some y → rootBlk y = some b → b < w.heap.size := fun id blk y b hk hy hb => by
    obtain ⟨y', hy', hok⟩ := h.hw.ok id blk hk
    rw [hy] at hy'; injection hy' with hy'; subst hy'
    exact (hok.lt hb).2
  exact h.replace (fun _ _ h => h) d x blk hx (hb.mono h.base) (fun b hI => hb.block b (h.hw.lt b hI)) (fun id blk y b _ hk hy hr => hb.block b (hlt id blk y b hk hy hr))
    (fun id blk y b _ hk hy hr hxr => by have := hlt id blk y b hk hy hr; have := hroot b hxr; omega) (fun b hr hI => by have := hroot b hr; have := h.hw.lt b hI; omega) hgd

/-- A store into block id. -/
theorem Gam.store {n B : Nat} {w0 : Orig} {st : St} {a : Act} {w w' : World} {ρ : Nat → Option Value} {I : Nat → Prop} (h : Gam n B w0 st a w ρ I) {id : Nat} {blk blk' : Blk} {x : Value} (hk : lkH st.heap id = some blk) (hx : ρ id = some x)
    (hok' : BlkOK B I w' ρ x blk') (hbel : Below B w w') (hkeep : ∀ b, rootBlk x ≠ some b → w'.heap[b]? = w.heap[b]?) : Gam n B w0 ⟨st.env, (id, blk') :: st.heap⟩ a w' ρ I := by
  have hnI : ∀ b, I b → rootBlk x ≠ some b := fun b hb hr => h.hw.imm id blk x b hk hx hr hb
  refine ⟨h.defers, h.size, fun s => (h.env s).same (fun b hb => hkeep b (hnI b hb)), ⟨fun id' b' hk' => ?_, fun i1 i2 b1 b2 y1 y2 b hne h1 h2 hy1 hy2 hb => ?_, fun i1 b1 y b h1 hy hb => ?_, fun b hb => Nat.lt_of_lt_of_le (h.hw.lt b hb) hbel.size⟩, h.below.trans hbel, Nat.le_trans h.base hbel.size, ⟨h.old.up, h.old.gh, h.old.ghn, fun b hb => ⟨(h.old.keep b hb).1, by rw [hkeep b (hnI b (h.old.keep b hb).1)]; exact (h.old.keep b hb).2⟩⟩⟩
  · simp only [lkH] at hk'
    by_cases e : id = id'
    · subst e; rw [if_pos rfl] at hk'; injection hk' with hk'; subst hk'; exact ⟨x, hx, hok'⟩
    · rw [if_neg e] at hk'
      obtain ⟨y, hy, hoky⟩ := h.hw.ok id' b' hk'
      exact ⟨y, hy, hoky.move (fun b hb => hkeep b (fun hr => h.hw.apart id id' blk b' x y b e hk hk' hx hy hr hb)) (fun b hb => ⟨hb, hkeep b (hnI b hb)⟩) (fun _ _ h => h)⟩
  · have conv : ∀ i b, lkH ((id, blk') :: st.heap) i = some b → ∃ b', lkH st.heap i = some b' := fun i b hb => by
      simp only [lkH] at hb
      by_cases e : id = i
      · subst e; exact ⟨blk, hk⟩
      · rw [if_neg e] at hb; exact ⟨b, hb⟩
    obtain ⟨c1, hc1⟩ := conv i1 b1 h1
    obtain ⟨c2, hc2⟩ := conv i2 b2 h2
    exact h.hw.apart i1 i2 c1 c2 y1 y2 b hne hc1 hc2 hy1 hy2 hb
  · simp only [lkH] at h1
    by_cases e : id = i1
    · subst e; exact h.hw.imm id blk y b hk hy hb
    · rw [if_neg e] at h1; exact h.hw.imm i1 b1 y b h1 hy hb

def Cont.updL0 : Cont → Nat → List AV → Option Cont
  | c, _, [] => some c
  | c, j, x :: r => match c.upd j x with
    | some c' => c'.updL0 (j + 1) r
    | none => none
theorem Cont.updL0_spec : ∀ {xs : List AV} {c c' : Cont} {j : Nat}, c.updL0 j xs = some c' → j + xs.length ≤ c.len →
    c'.len = c.len ∧ (∀ k, k < xs.length → c'.at (j + k) = xs.getD k .top) ∧ ∀ k, (k < j ∨ j + xs.length ≤ k) → c'.at k = c.at k
  | [], c, c', j, h, hl => by simp [Cont.updL0] at h; subst h; exact ⟨rfl, fun k hk => by simp at hk, fun _ _ => rfl⟩
  | x :: r, c, c', j, h, hl => by
    simp only [Cont.updL0] at h
    split at h
    · rename_i c1 h1
      simp at hl
      obtain ⟨a1, a2, a3⟩ := Cont.upd_spec h1 (by omega)
      obtain ⟨b1, b2, b3⟩ := Cont.updL0_spec h (by rw [a1]; omega)
      refine ⟨b1.trans a1, fun k hk => ?_, fun k hk => ?_⟩
      · cases k with
        | zero => rw [Nat.add_zero, b3 j (by omega), a2]; simp
        | succ k => simp at hk; rw [show j + (k + 1) = j + 1 + k from by omega, b2 k hk]; simp
      · simp at hk; rw [b3 k (by omega), a3 k (by omega)]
    · cases h

def Cont.updL (c : Cont) (j : Nat) (xs : List AV) : Option Cont :=
  if 8 < xs.length then (if j = 0 ∧ xs.length = c.len then some (.avs xs) else none) else c.updL0 j xs
theorem Cont.updL_spec {xs : List AV} {c c' : Cont} {j : Nat} (h : c.updL j xs = some c') (hl : j + xs.length ≤ c.len) :
    c'.len = c.len ∧ (∀ k, k < xs.length → c'.at (j + k) = xs.getD k .top) ∧ ∀ k, k < c.len → (k < j ∨ j + xs.length ≤ k) → c'.at k = c.at k := by
  unfold Cont.updL at h
  split at h
  · split at h
    · rename_i hh
      injection h with h; subst h
      obtain ⟨rfl, h2⟩ := hh
      refine ⟨by simpa [Cont.len] using h2, fun k _ => by simp [Cont.at], fun k hk hk2 => by omega⟩
    · cases h
  · obtain ⟨h1, h2, h3⟩ := Cont.updL0_spec h hl
    exact ⟨h1, h2, fun k _ => h3 k⟩

mutual
def AV.nor : AV → Bool
  | .v _ => true
  | .s _ => false
  | .w _ _ _ => false
  | .p _ _ => false
  | .i _ _ _ _ _ => true
  | .q _ _ _ _ _ => true
  | .a cs => AV.norL cs
  | .t cs => AV.norL cs
  | .f _ cs => AV.norL cs
  | .g _ x => AV.nor x
  | .top => true
def AV.norL : List AV → Bool
  | [] => true
  | x :: r => AV.nor x && AV.norL r
end
theorem norL_getD : ∀ {cs : List AV} (_ : AV.norL cs = true) (j : Nat), (cs.getD j .top).nor = true
  | [], _, _ => by simp [AV.nor]
  | x :: r, h, 0 => by simp [AV.norL] at h; simpa using h.1
  | x :: r, h, j + 1 => by simp [AV.norL] at h; simpa using norL_getD h.2 j

theorem Conc.nor {B : Nat} {I : Nat → Prop} {w : World} {ρ : Nat → Option Value} {x : AV} {u : Value} (h : Conc B I w ρ x u) (hf : x.nor = true) : Conc B I w noId x u := by
  induction h with
  | v x => exact .v x
  | s id x h h1 => simp [AV.nor] at hf
  | w id off len cap A x h hcap hA => simp [AV.nor] at hf
  | p id off b x h hb => simp [AV.nor] at hf
  | i fr c sz off len cap A u hcap hA hc ih => exact .i fr c sz off len cap A u hcap hA hc
  | q fr c sz e f ad u h2 h3 hcell hc ih => exact .q fr c sz e f ad u h2 h3 hcell hc
  | a cs us hl h ih => rw [AV.nor] at hf; exact .a cs us hl fun j hj => ih j hj (norL_getD hf j)
  | t cs us hl h ih => rw [AV.nor] at hf; exact .t cs us hl fun j hj => ih j hj (norL_getD hf j)
  | f fn cs us hl h ih => rw [AV.nor] at hf; exact .f fn cs us hl fun j hj => ih j hj (norL_getD hf j)
  | g b x u h h0 ih => rw [AV.nor] at hf; exact .g b x u (fun hb => ih hb hf) h0
  | top u => exact .top u

end Go.Eng
