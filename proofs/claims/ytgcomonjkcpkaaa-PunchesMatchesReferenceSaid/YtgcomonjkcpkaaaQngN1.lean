/- Rows of rows: a row whose elements are rows of one's own. -/
import Derived.Test.YtgcomonjkcpkaaaQngZ3
namespace Go.Eng
open Go.RowKit
set_option linter.unusedVariables false

def frzL (d : Nat) (blk : Blk) : List AV → List AV
  | [] => []
  | x :: r => frz1 d blk x :: frzL d blk r
theorem frzL_length (d : Nat) (blk : Blk) (cs : List AV) : (frzL d blk cs).length = cs.length := by
  induction cs with
  | nil => rfl
  | cons x r ih => simp [frzL, ih]
theorem frzL_getD (d : Nat) (blk : Blk) (cs : List AV) (j : Nat) : (frzL d blk cs).getD j .top = frz1 d blk (cs.getD j .top) := by
  induction cs generalizing j with
  | nil => simp [frzL, frz1, AV.kill]
  | cons x r ih => cases j with
    | zero => simp [frzL]
    | succ j => simpa [frzL] using ih j
def frzC (d : Nat) (blk : Blk) : Cont → Cont
  | .avs l => .avs (frzL d blk l)
  | .ints k l => .ints k l
  | .vals l => .vals l
theorem frzC_len (d : Nat) (blk : Blk) (c : Cont) : (frzC d blk c).len = c.len := by cases c <;> simp [frzC, Cont.len, frzL_length]
theorem frzC_at (d : Nat) (blk : Blk) (c : Cont) (j : Nat) : (frzC d blk c).at j = frz1 d blk (c.at j) := by cases c <;> simp only [frzC, Cont.at, frz1, AV.kill, frzL_getD]
def frzB (d : Nat) (blk : Blk) : Blk → Blk
  | .nst e c => .nst e (frzC d blk c)
  | .box t c => .box t (c.kill d)
  | .row e sz c => .row e sz c
def frzH (d : Nat) (blk : Blk) : List (Nat × Blk) → List (Nat × Blk)
  | [] => []
  | (k, b) :: r => if k = d then frzH d blk r else (k, frzB d blk b) :: frzH d blk r
theorem lkH_frzH {d : Nat} {blk : Blk} : ∀ {H : List (Nat × Blk)} {id : Nat} {b' : Blk}, lkH (frzH d blk H) id = some b' → id ≠ d ∧ ∃ b0, lkH H id = some b0 ∧ b' = frzB d blk b0
  | [], _, _, h => by cases h
  | (k, b) :: r, id, b', h => by
    simp only [frzH] at h
    by_cases e : k = d
    · rw [if_pos e] at h
      obtain ⟨h1, b0, h2, h3⟩ := lkH_frzH h
      refine ⟨h1, b0, ?_, h3⟩
      simp only [lkH]
      rw [if_neg (fun hh => h1 (by rw [← hh, e]))]; exact h2
    · rw [if_neg e] at h
      simp only [lkH] at h ⊢
      by_cases e2 : k = id
      · rw [if_pos e2] at h ⊢
        injection h with h
        exact ⟨fun hh => e (by rw [e2, hh]), b, rfl, h.symm⟩
      · rw [if_neg e2] at h ⊢
        exact lkH_frzH h
theorem G.freezeN {n B : Nat} {w0 : Orig} {st : St} {a : Act} {w : World} (hG : G n B w0 st a w) (d : Nat) (blk : Blk) (hk : lkH st.heap d = some blk) (hnor : norC blk.cont) : G n B w0 ⟨frzE d blk st.env, frzH d blk st.heap⟩ a w := by
  obtain ⟨ρ, I, h⟩ := hG
  obtain ⟨x, hx, hok⟩ := h.hw.ok d blk hk
  have hρ : ∀ id, id ≠ d → ρ id = ρ id := fun id hid => rfl
  have hrest : ∀ b, rootBlk x = some b → B ≤ b ∧ b < w.heap.size := fun b hb => hok.lt hb
  have hII : ∀ b, I b → (fun b => I b ∨ rootBlk x = some b) b ∧ w.heap[b]? = w.heap[b]? := fun b hb => ⟨.inl hb, rfl⟩
  have cellC : ∀ b j, rootBlk x = some b → j < blk.cont.len → ∃ u, w.cell? ⟨b, j, none⟩ = some u ∧ Conc B (fun b => I b ∨ rootBlk x = some b) w noId (blk.cont.at j) u := fun b j hb hj => by
    obtain ⟨u, h1, h2⟩ := h.hw.cell hk hx hb hj
    exact ⟨u, h1, ((h2.nor (norC_at hnor j)).mono (Nat.le_refl _) hII _ (fun _ _ h => h))⟩
  have look : ∀ id blk', lkH (frzH d blk st.heap) id = some blk' → id ≠ d ∧ ∃ b0, lkH st.heap id = some b0 ∧ blk' = frzB d blk b0 := fun id blk' hk' => lkH_frzH hk'
  have hF : ∀ (x1 : AV) (u1 : Value), Conc B I w ρ x1 u1 → Conc B (fun b => I b ∨ rootBlk x = some b) w ρ (frz1 d blk x1) u1 := by
    intro x1 u1 hs
    have gen : Conc B (fun b => I b ∨ rootBlk x = some b) w ρ ((x1).kill d) (u1) := (hs.kill d _ hρ).mono (Nat.le_refl _) hII _ (fun _ _ h => h)
    have hP : ∀ (x0 : AV) (uu : Value), Conc B I w ρ x0 uu → Conc B (fun b => I b ∨ rootBlk x = some b) w ρ (frzP d blk x0) uu := fun x0 uu hs => by
      have gen : Conc B (fun b => I b ∨ rootBlk x = some b) w ρ (x0.kill d) uu := (hs.kill d _ hρ).mono (Nat.le_refl _) hII _ (fun _ _ h => h)
      cases x0 with
      | p id off =>
        simp only [frzP]
        by_cases e : id = d
        · subst e
          rw [if_pos rfl]
          cases hs with
          | p _ _ b y hy hb =>
            rw [hx] at hy; injection hy with hy; subst hy
            have hall : ∀ j, off + j < blk.cont.len → ∃ u, w.cell? ((⟨b, off, none⟩ : Addr).add j) = some u ∧ Conc B (fun b => I b ∨ rootBlk x = some b) w noId (blk.cont.at (off + j)) u := fun j hj => by
              obtain ⟨u, h1, h2⟩ := cellC b (off + j) hb hj
              exact ⟨u, by rw [add_none]; exact h1, h2⟩
            refine .q _ _ _ _ _ _ (fun j => if hj : off + j < blk.cont.len then Classical.choose (hall j hj) else undef) (.inr hb) (fun _ => (hrest b hb).1) (fun j hj => ?_) (fun j hj => ?_)
            · rw [dif_pos hj]; exact (Classical.choose_spec (hall j hj)).1
            · rw [dif_pos hj]; exact (Classical.choose_spec (hall j hj)).2
        · rw [if_neg e]
          rw [AV.kill, if_neg e] at gen
          exact gen
      | _ => exact gen
    cases hv : x1 with
    | p id off => rw [hv] at hs; exact hP _ _ hs
    | f fn cs =>
      rw [hv] at hs
      simp only [frz1]
      cases hs with
      | f _ _ us hl hcs => exact .f fn _ us (by rw [frzPL_length]; exact hl) fun j hj => by rw [frzPL_length] at hj; rw [frzPL_getD]; exact hP _ _ (hcs j hj)
    | s id =>
      rw [hv] at hs gen
      simp only [frz1]
      by_cases e : id = d
      · subst e
        rw [if_pos rfl]
        cases blk with
        | box t c => exact .top _
        | nst el c => exact .top _
        | row el sz c =>
          simp only
          split
          · rename_i hpos
            cases hs with
            | s _ _ hy h1 =>
              rw [hx] at hy; injection hy with hy; subst hy
              obtain ⟨m, xs, ho, hl, hc⟩ := hok
              have hm : c.len / sz = m := by rw [hl]; exact Nat.mul_div_cancel _ hpos
              rw [hm]
              have := view_row (fl := true) (B' := B) (J := fun b => I b ∨ rootBlk x = some b ∨ (B ≤ b ∧ b < w.heap.size)) ho (fun _ => Nat.le_refl _) (fun b h1 h2 => .inr (.inr ⟨h1, h2⟩)) (fun e j => c.at (e * sz + j)) (fun el2 j he hj => by
                have hlt : el2 * sz + j < xs.length := by rw [ho.1]; exact row_elem he hj
                have := hc (el2 * sz + j) _ (List.getElem?_eq_getElem hlt)
                have e2 : xs.getD (el2 * sz + j) undef = xs[el2 * sz + j] := by simp [List.getD_eq_getElem?_getD, hlt]
                rw [e2]
                exact this.mono (Nat.le_refl _) (fun b hb => ⟨.inl hb, rfl⟩) _ (fun _ _ h => h))
              cases this with
              | i _ _ _ _ _ cap A u hcap hA hcc =>
                refine .i _ _ _ _ _ _ _ u hcap (fun hl0 => ?_) (fun e f he hf => ?_)
                · obtain ⟨ad, h1, h2, h3, h4⟩ := hA hl0
                  subst h1
                  exact ⟨ad, rfl, .inr rfl, h3, h4⟩
                · have hlt : e * sz + f < xs.length := by rw [ho.1]; exact row_elem he hf
                  have hb : ∃ ad, A = some ad := by obtain ⟨ad, h1, _⟩ := hA (by omega); exact ⟨ad, h1⟩
                  obtain ⟨ad, rfl⟩ := hb
                  obtain ⟨ad', h1, _, _, h4⟩ := hA (by omega)
                  injection h1 with h1; subst h1
                  have hj : e * sz + f < (Blk.row el sz c).cont.len := by show e * sz + f < c.len; rw [hl]; exact row_elem he hf
                  obtain ⟨v, hv1, hv2⟩ := cellC ad.block (e * sz + f) rfl hj
                  rcases ho.2 with ⟨hn, _⟩ | ⟨g, cap', cur, hsl, _⟩
                  · cases hn
                  · injection hsl with hsl _ _
                    injection hsl with hsl
                    have h5 := h4 e f he hf
                    rw [hsl, add_none, Nat.zero_add] at h5
                    rw [hsl] at hv1
                    simp only at hv1
                    rw [h5] at hv1
                    injection hv1 with hv1
                    rw [Nat.zero_add, hv1]
                    exact hv2
          · exact .top _
      · rw [if_neg e]
        rw [AV.kill, if_neg e] at gen
        exact gen
    | _ => rw [hv] at gen; exact gen
  refine ⟨ρ, fun b => I b ∨ rootBlk x = some b, h.defers, h.size, fun s => ?_, ⟨fun id blk' hk' => ?_, fun id id' b1 b2 y y' b hne h1 h2 hy hy' hb => ?_, fun id blk' y b hk' hy hb hI => ?_, fun b hb => ?_⟩, h.below, h.base, ⟨fun b hb => ?_, h.old.gh, h.old.ghn, fun b hb => ⟨.inl (h.old.keep b hb).1, (h.old.keep b hb).2⟩⟩⟩
  · show Conc _ _ _ _ (lk (frzE d blk st.env) s) _
    rw [lk_frzE]
    exact hF _ _ (h.env s)
  · obtain ⟨hne, b0, h0, rfl⟩ := look id blk' hk'
    obtain ⟨y, hy, hok'⟩ := h.hw.ok id b0 h0
    refine ⟨y, hy, ?_⟩
    cases b0 with
    | nst el c =>
      obtain ⟨m, xs, ho, hl, hc⟩ := hok'
      exact ⟨m, xs, ho, by rw [frzC_len]; exact hl, fun j u hu => by rw [frzC_at]; exact hF _ _ (hc j u hu)⟩
    | box t c => exact (hok'.killed d hρ).move (fun b _ => rfl) hII (fun _ _ h => h)
    | row el sz c => exact (hok'.killed d hρ).move (fun b _ => rfl) hII (fun _ _ h => h)
  · obtain ⟨hn1, c1, hc1, rfl⟩ := look id b1 h1
    obtain ⟨hn2, c2, hc2, rfl⟩ := look id' b2 h2
    exact h.hw.apart id id' c1 c2 y y' b hne hc1 hc2 hy hy' hb
  · obtain ⟨hne, b0, h0, rfl⟩ := look id blk' hk'
    rcases hI with hI | hI
    · exact h.hw.imm id b0 y b h0 hy hb hI
    · exact h.hw.apart id d b0 blk y x b hne h0 hk hy hx hb hI
  · rcases hb with hb | hb
    · exact h.hw.lt b hb
    · exact (hrest b hb).2
  · rcases hb with hb | hb
    · exact h.old.up b hb
    · exact .inr (hrest b hb).1
theorem awp_freezeN {P : Program} {n B : Nat} {w0 : Orig} {c : Code} {Q : Exit → St → Prop} {st : St} (d : Nat) (blk : Blk) (hk : lkH st.heap d = some blk) (hnor : norC blk.cont) (h : AWP P n B w0 c Q ⟨frzE d blk st.env, frzH d blk st.heap⟩) : AWP P n B w0 c Q st := fun a w hG => h a w (hG.freezeN d blk hk hnor)
theorem frzL_set (d : Nat) (blk : Blk) (l : List AV) (i : Nat) (y : AV) : frzL d blk (l.set i y) = (frzL d blk l).set i (frz1 d blk y) := by
  induction l generalizing i with
  | nil => rfl
  | cons x r ih => cases i with
    | zero => simp [frzL]
    | succ i => simp [frzL, ih]
theorem frzL_self {d : Nat} {blk : Blk} {l : List AV} (h : ∀ x ∈ l, frz1 d blk x = x) : frzL d blk l = l := by
  induction l with
  | nil => rfl
  | cons x r ih => rw [frzL, h x (by simp), ih (fun y hy => h y (by simp [hy]))]
theorem killL_self {d : Nat} {l : List AV} (h : ∀ x ∈ l, x.kill d = x) : AV.killL d l = l := by
  induction l with
  | nil => rfl
  | cons x r ih => rw [AV.killL, h x (by simp), ih (fun y hy => h y (by simp [hy]))]
/-- A row of one cell an element may hold rows from now on. -/
theorem G.toNst {n B : Nat} {w0 : Orig} {st : St} {a : Act} {w : World} (hG : G n B w0 st a w) (d : Nat) (e : TypeId) (c c' : Cont) (hk : lkH st.heap d = some (.row e 1 c)) (hl : c'.len = c.len) (hc' : ∀ j, j < c.len → c'.at j = c.at j) : G n B w0 ⟨st.env, (d, .nst e c') :: st.heap⟩ a w := by
  obtain ⟨ρ, I, h⟩ := hG
  have conv : ∀ {i1 b1}, lkH ((d, .nst e c') :: st.heap) i1 = some b1 → ∃ b2, lkH st.heap i1 = some b2 := fun {i1 b1} hh => by
    simp only [lkH] at hh
    by_cases e1 : d = i1
    · subst e1; exact ⟨_, hk⟩
    · rw [if_neg e1] at hh; exact ⟨b1, hh⟩
  refine ⟨ρ, I, h.defers, h.size, h.env, ⟨fun id' blk hk' => ?_, fun i1 i2 b1 b2 x x' b hne' k1 k2 => ?_, fun i1 b1 x b k1 => ?_, h.hw.lt⟩, h.below, h.base, h.old⟩
  · simp only [lkH] at hk'
    by_cases e1 : d = id'
    · rw [if_pos e1] at hk'
      injection hk' with hk'; subst hk'; subst e1
      obtain ⟨x, hx, m, xs, ho, hl2, hc⟩ := h.hw.ok _ _ hk
      exact ⟨x, hx, m, xs, ho, by rw [hl]; exact hl2, fun j u hu => by
        have hj := (List.getElem?_eq_some_iff.1 hu).1
        rw [ho.1] at hj
        rw [hc' j (by rw [hl2]; exact hj)]; exact (hc j u hu).up⟩
    · rw [if_neg e1] at hk'
      exact h.hw.ok id' blk hk'
  · obtain ⟨c1, q1⟩ := conv k1
    obtain ⟨c2, q2⟩ := conv k2
    exact h.hw.apart i1 i2 c1 c2 x x' b hne' q1 q2
  · obtain ⟨c1, q1⟩ := conv k1
    exact h.hw.imm i1 c1 x b q1
theorem awp_toNst {P : Program} {n B : Nat} {w0 : Orig} {c0 : Code} {Q : Exit → St → Prop} {st : St} (d : Nat) (e : TypeId) (c c' : Cont) (hk : lkH st.heap d = some (.row e 1 c)) (hl : c'.len = c.len) (hc' : ∀ j, j < c.len → c'.at j = c.at j) (h : AWP P n B w0 c0 Q ⟨st.env, (d, .nst e c') :: st.heap⟩) : AWP P n B w0 c0 Q st := fun a w hG => h a w (hG.toNst d e c c' hk hl hc')
attribute [push_cast] frzC frzB frzH
end Go.Eng
