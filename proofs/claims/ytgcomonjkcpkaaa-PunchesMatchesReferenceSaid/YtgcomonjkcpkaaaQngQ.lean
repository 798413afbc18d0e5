/- A region in parts. -/
import Derived.Test.YtgcomonjkcpkaaaQngP
namespace Go.Eng
theorem al_mono {T : Tab} {st : St} {o : Oper} {K K' : St → Prop} (h : al T st o K) (hk : ∀ s, K s → K' s) : al T st o K' := by
  cases ho : o.op <;> simp only [al, ho] at h ⊢ <;> first | exact h.elim | skip
  case alloc t => split at h <;> first | exact h.elim | exact hk _ h
  case box t x => split at h <;> first | exact h.elim | exact ⟨h.1, hk _ h.2⟩
  case store t x y =>
    split at h <;> first | exact h.elim | skip
    split at h <;> first | exact h.elim | skip
    · split at h <;> first | exact h.elim | exact ⟨h.1, hk _ h.2⟩
    · split at h <;> first | exact h.elim | exact ⟨h.1, hk _ h.2⟩
    · split at h <;> first | exact h.elim | exact ⟨h.1, hk _ h.2⟩
  case makeSlice t l c =>
    split at h <;> first | exact h.elim | skip
    split at h <;> first | exact h.elim | exact ⟨h.1, hk _ h.2⟩
  case call c =>
    split at h <;> first | exact h.elim | skip
    split at h <;> first | exact h.elim | skip
    split at h <;> first | exact h.elim | skip
    split at h <;> first | exact h.elim | skip
    split at h
    · obtain ⟨ys, h1, h2⟩ := h
      exact ⟨ys, h1, hk _ h2⟩
    · split at h <;> first | exact h.elim | skip
      obtain ⟨ys, h1, h2⟩ := h
      exact ⟨ys, h1, hk _ h2⟩

theorem aops_append {P : Program} {T : Tab} {n : Nat} {ops : Array Oper} {K : St → Prop} : ∀ (l1 l2 : List Oper) (st : St), AOps P T n ops (fun s => AOps P T n ops K l2 s) l1 st → AOps P T n ops K (l1 ++ l2) st
  | [], _, _, h => h
  | o :: l1, l2, st, h => by
    obtain ⟨st', h1, h2⟩ := step_ex h
    have h3 := aops_append l1 l2 st' h2
    show AStep P T n ops o (fun s => AOps P T n ops K (l1 ++ l2) s) st
    obtain ⟨hd, h1⟩ := h1
    refine ⟨hd, ?_⟩
    split at h1
    · exact h1.elim
    · split at h1
      · exact ⟨h1.1, by rw [h1.2]; exact h3⟩
      · split at h1
        · exact ⟨h1.1, by rw [h1.2]; exact h3⟩
        · split at h1
          · obtain ⟨a, r, b, c⟩ := h1; exact ⟨a, r, b, by rw [c]; exact h3⟩
          · obtain ⟨s2, a, b⟩ := al_ex h1
            subst b
            exact al_mono a (fun s hs => by subst hs; exact h3)
    · split at h1
      · exact ⟨h1.1, by rw [h1.2]; exact h3⟩
      · split at h1
        · exact ⟨h1.1, by rw [h1.2]; exact h3⟩
        · split at h1
          · obtain ⟨r, b, c⟩ := h1; exact ⟨r, b, by rw [c]; exact h3⟩
          · exact h1.elim
theorem aops_at {P : Program} {T : Tab} {n : Nat} {ops : Array Oper} {K : St → Prop} {l : List Oper} {st : St} (k : Nat) (h : ∀ K' : St → Prop, (∀ s, AOps P T n ops K (l.drop k) s → K' s) → AOps P T n ops K' (l.take k) st) : AOps P T n ops K l st := by
  have := aops_append (l.take k) (l.drop k) st (h _ fun _ h => h)
  rwa [List.take_append_drop] at this
end Go.Eng
