/- Plain laws for the minutes of one punch that is moved. -/
import Derived.Test.YtgcomonjkcpkaaaPuW
namespace Go.Proofs.Ytgcomonjkcpkaaa
open Go.Eng Go.Proofs
set_option linter.unusedVariables false

theorem wk_flag (ps : List Pn) (q : Nat) : ∀ (l : List Mt) (f t : Int) (b : Bool), (wkI ps q f t b l).2.2 = true ↔ b = true ∨ ∃ m ∈ l, m.d = q ∧ m.p ≠ -1
  | [], f, t, b => by simp [wkI]
  | m :: r, f, t, b => by
    rw [wkI]
    by_cases c : m.d ≠ q ∨ m.p = -1
    · rw [if_pos c, wk_flag ps q r f t b]
      constructor
      · rintro (h | ⟨x, hx, h⟩)
        · exact .inl h
        · exact .inr ⟨x, List.mem_cons_of_mem _ hx, h⟩
      · rintro (h | ⟨x, hx, h⟩)
        · exact .inl h
        · rcases List.mem_cons.1 hx with rfl | hx
          · rcases c with c | c
            · exact absurd h.1 c
            · exact absurd c h.2
          · exact .inr ⟨x, hx, h⟩
    · have hm' : ∃ x ∈ m :: r, x.d = q ∧ x.p ≠ -1 := ⟨m, List.mem_cons_self .., by
        constructor
        · exact Classical.byContradiction fun h => c (.inl h)
        · exact fun h => c (.inr h)⟩
      rw [if_neg c]
      constructor
      · intro _; exact .inr hm'
      · intro _
        split
        · exact (wk_flag ps q r _ t true).2 (.inl rfl)
        · exact (wk_flag ps q r f _ true).2 (.inl rfl)
/-- In an alignment punches come in order, and each mark once. -/
theorem al_ge {ms : List Mk} {P : Nat} : ∀ (l : List Mt) (i k : Nat), alI ms P i k l = true → ∀ m ∈ l, (m.p ≠ -1 → (k : Int) ≤ m.p) ∧ (m.d ≠ -1 → ∃ j, i ≤ j ∧ j < ms.length ∧ m.d = (ms.getD j default).d ∧ m.i = (ms.getD j default).i)
  | [], _, _, _, m, hm' => by cases hm'
  | x :: r, i, k, h, m, hm' => by
    rw [alI] at h
    split at h
    · rename_i c0
      split at h
      · cases h
      · split at h
        · cases h
        · rename_i h1 h2
          rcases List.mem_cons.1 hm' with rfl | hm'
          · exact ⟨fun _ => by omega, fun hd => absurd c0 hd⟩
          · obtain ⟨a, b⟩ := al_ge r i (k + 1) h m hm'
            exact ⟨fun hp => by have := a hp; omega, b⟩
    · split at h
      · cases h
      · rename_i c0 c1
        have cm : i < ms.length ∧ x.d = (ms.getD i default).d ∧ x.i = (ms.getD i default).i := by
          refine ⟨?_, ?_, ?_⟩
          · exact Nat.lt_of_not_le fun hh => c1 (.inl hh)
          · exact Classical.byContradiction fun hh => c1 (.inr (.inl hh))
          · exact Classical.byContradiction fun hh => c1 (.inr (.inr hh))
        split at h
        · rename_i c2
          rcases List.mem_cons.1 hm' with rfl | hm'
          · exact ⟨fun hp => absurd c2 hp, fun _ => ⟨i, Nat.le_refl _, cm.1, cm.2⟩⟩
          · obtain ⟨a, b⟩ := al_ge r (i + 1) k h m hm'
            exact ⟨a, fun hd => by obtain ⟨j, j1, j2⟩ := b hd; exact ⟨j, by omega, j2⟩⟩
        · split at h
          · cases h
          · rename_i c2 c3
            rcases List.mem_cons.1 hm' with rfl | hm'
            · exact ⟨fun _ => by omega, fun _ => ⟨i, Nat.le_refl _, cm.1, cm.2⟩⟩
            · obtain ⟨a, b⟩ := al_ge r (i + 1) (k + 1) h m hm'
              exact ⟨fun hp => by have := a hp; omega, fun hd => by obtain ⟨j, j1, j2⟩ := b hd; exact ⟨j, by omega, j2⟩⟩
theorem wk_same (ps ps' : List Pn) (q : Nat) : ∀ (l : List Mt) (f t : Int) (b : Bool), (∀ m ∈ l, m.d = q → m.p ≠ -1 → ps.getD m.p.toNat default = ps'.getD m.p.toNat default) → wkI ps q f t b l = wkI ps' q f t b l
  | [], f, t, b, _ => rfl
  | m :: r, f, t, b, h => by
    have hr := fun m hm => h m (List.mem_cons_of_mem _ hm)
    rw [wkI, wkI]
    by_cases c : m.d ≠ q ∨ m.p = -1
    · rw [if_pos c, if_pos c]; exact wk_same ps ps' q r f t b hr
    · have e := h m (List.mem_cons_self ..) (Classical.byContradiction fun hh => c (.inl hh)) (fun hh => c (.inr hh))
      rw [if_neg c, if_neg c, e]
      split
      · exact wk_same ps ps' q r _ t true hr
      · exact wk_same ps ps' q r f _ true hr
theorem wk_from (ps : List Pn) (q : Nat) : ∀ (l : List Mt) (f t : Int) (b : Bool), (∀ m ∈ l, m.d = q → m.i = true → m.p = -1) → (wkI ps q f t b l).1 = f
  | [], f, t, b, _ => rfl
  | m :: r, f, t, b, h => by
    have hr := fun m hm => h m (List.mem_cons_of_mem _ hm)
    rw [wkI]
    by_cases c : m.d ≠ q ∨ m.p = -1
    · rw [if_pos c]; exact wk_from ps q r f t b hr
    · rw [if_neg c]
      have e := h m (List.mem_cons_self ..) (Classical.byContradiction fun hh => c (.inl hh))
      by_cases c2 : m.i = true
      · exact absurd (e c2) fun hh => c (.inr hh)
      · rw [if_neg c2]; exact wk_from ps q r f _ true hr
theorem al_step {ms : List Mk} {P i k : Nat} {x : Mt} {r : List Mt} (h : alI ms P i k (x :: r) = true) : ∃ i' k', alI ms P i' k' r = true ∧ (x.p ≠ -1 → x.p = k ∧ k' = k + 1) ∧ (x.d ≠ -1 → i' = i + 1 ∧ i < ms.length ∧ x.d = (ms.getD i default).d ∧ x.i = (ms.getD i default).i) := by
  rw [alI] at h
  split at h
  · rename_i c0
    split at h
    · cases h
    · split at h
      · cases h
      · rename_i h1 h2
        exact ⟨i, k + 1, h, fun _ => ⟨Classical.byContradiction fun hh => h2 (.inr hh), rfl⟩, fun hd => absurd c0 hd⟩
  · split at h
    · cases h
    · rename_i c0 c1
      have cm : i < ms.length ∧ x.d = (ms.getD i default).d ∧ x.i = (ms.getD i default).i := by
        refine ⟨?_, ?_, ?_⟩
        · exact Nat.lt_of_not_le fun hh => c1 (.inl hh)
        · exact Classical.byContradiction fun hh => c1 (.inr (.inl hh))
        · exact Classical.byContradiction fun hh => c1 (.inr (.inr hh))
      split at h
      · rename_i c2
        exact ⟨i + 1, k, h, fun hp => absurd c2 hp, fun _ => ⟨rfl, cm⟩⟩
      · split at h
        · cases h
        · rename_i c2 c3
          exact ⟨i + 1, k + 1, h, fun _ => ⟨Classical.byContradiction fun hh => c3 (.inr hh), rfl⟩, fun _ => ⟨rfl, cm⟩⟩
theorem al_inj {ms : List Mk} {P : Nat} : ∀ (l : List Mt) (i k : Nat), alI ms P i k l = true → ∀ m ∈ l, ∀ y ∈ l, m.p ≠ -1 → y.p = m.p → y = m
  | [], _, _, _, m, hm', _, _, _, _ => by cases hm'
  | x :: r, i, k, h, m, hm', y, hy, hp, e => by
    obtain ⟨i', k', h1, h2, h3⟩ := al_step h
    rcases List.mem_cons.1 hm' with hmx | hmr
    · rcases List.mem_cons.1 hy with hyx | hyr
      · rw [hmx, hyx]
      · have a := (al_ge r i' k' h1 y hyr).1 (by rw [e]; exact hp)
        have b := h2 (by rw [← hmx]; exact hp)
        rw [hmx] at e
        omega
    · rcases List.mem_cons.1 hy with hyx | hyr
      · have a := (al_ge r i' k' h1 m hmr).1 hp
        have b := h2 (by rw [← hyx, e]; exact hp)
        rw [hyx] at e
        omega
      · exact al_inj r i' k' h1 m hmr y hyr hp e
theorem wk_f (ps : List Pn) (q : Nat) : ∀ (l : List Mt) (f f' t : Int) (b : Bool), (wkI ps q f t b l).2 = (wkI ps q f' t b l).2
  | [], f, f', t, b => rfl
  | m :: r, f, f', t, b => by
    rw [wkI, wkI]
    split
    · exact wk_f ps q r f f' t b
    · split
      · rfl
      · exact wk_f ps q r f f' _ true
theorem wk_moved {ms : List Mk} {P q : Nat} (hinj : ∀ j j', j < ms.length → j' < ms.length → (ms.getD j default).d = (ms.getD j' default).d → (ms.getD j default).i = (ms.getD j' default).i → j = j') (ps ps' : List Pn) (m : Mt) (hmi : m.i = true) (hmp : m.p ≠ -1) (hmd : m.d = q) (hps : ∀ x : Int, 0 ≤ x → x ≠ m.p → ps.getD x.toNat default = ps'.getD x.toNat default) :
    ∀ (l : List Mt) (i k : Nat), alI ms P i k l = true → m ∈ l → ∀ f t b, (wkI ps q f t b l).1 = (ps.getD m.p.toNat default).a ∧ wkI ps' q f t b l = ((ps'.getD m.p.toNat default).a, (wkI ps q f t b l).2)
  | [], _, _, _, hm', f, t, b => by cases hm'
  | x :: r, i, k, h, hm', f, t, b => by
    obtain ⟨i', k', h1, h2, h3⟩ := al_step h
    rcases List.mem_cons.1 hm' with hmx | hmr
    · subst hmx
      obtain ⟨p1, p2⟩ := h2 hmp
      obtain ⟨d1, d2, d3, d4⟩ := h3 (by rw [hmd]; omega)
      have noin : ∀ y ∈ r, y.d = q → y.i = true → y.p = -1 := fun y hy yd yi => by
        obtain ⟨j, j1, j2, j3, j4⟩ := (al_ge r i' k' h1 y hy).2 (by rw [yd]; omega)
        have := hinj i j d2 j2 (by rw [← d3, ← j3, hmd, yd]) (by rw [← d4, ← j4, hmi, yi])
        omega
      have same : ∀ y ∈ r, y.d = q → y.p ≠ -1 → ps'.getD y.p.toNat default = ps.getD y.p.toNat default := fun y hy _ yp => by
        have := (al_ge r i' k' h1 y hy).1 yp
        exact (hps y.p (by omega) (by omega)).symm
      have c : ¬ (m.d ≠ q ∨ m.p = -1) := by rintro (hh | hh); exact hh hmd; exact hmp hh
      rw [wkI, if_neg c, if_pos hmi, wkI, if_neg c, if_pos hmi]
      refine ⟨wk_from ps q r _ t true noin, ?_⟩
      rw [wk_same ps' ps q r _ t true same]
      refine Prod.ext (wk_from ps q r _ t true noin) ?_
      exact wk_f ps q r _ _ t true
    · have ih := wk_moved hinj ps ps' m hmi hmp hmd hps r i' k' h1 hmr
      rw [wkI, wkI]
      by_cases c : x.d ≠ q ∨ x.p = -1
      · rw [if_pos c, if_pos c]; exact ih f t b
      · have xp : x.p ≠ -1 := fun hh => c (.inr hh)
        obtain ⟨p1, p2⟩ := h2 xp
        have hk := (al_ge r i' k' h1 m hmr).1 hmp
        have e := hps x.p (by omega) (by omega)
        rw [if_neg c, if_neg c, ← e]
        split
        · exact ih _ t true
        · exact ih f _ true
theorem marks_inj (ds : List Du) : ∀ j j', j < (marksF 0 ds).length → j' < (marksF 0 ds).length → ((marksF 0 ds).getD j default).d = ((marksF 0 ds).getD j' default).d → ((marksF 0 ds).getD j default).i = ((marksF 0 ds).getD j' default).i → j = j' := fun j j' h1 h2 h3 h4 => by
  rw [marks_len] at h1 h2
  rw [(marks_d ds 0 j h1).1, (marks_d ds 0 j' h2).1] at h3
  rw [(marks_d ds 0 j h1).2, (marks_d ds 0 j' h2).2, decide_eq_decide] at h4
  omega
/-- One punch of a beginning is earlier by some minutes. -/
theorem minutes_law {ds : List Du} {ps : List Pn} {l : List Mt} (hal : alI (marksF 0 ds) ps.length 0 0 l = true) {m : Mt} (hm' : m ∈ l) (hmi : m.i = true) (hmp : m.p ≠ -1) {q : Nat} (hmd : m.d = q) {by_ : Int} (hb : 0 ≤ by_) (i : Nat) :
    (i ≠ q → minF ds (ps.set m.p.toNat ⟨(ps.getD m.p.toNat default).a - by_, (ps.getD m.p.toNat default).i⟩) l i = minF ds ps l i) ∧
    (i = q → minF ds ps l i ≤ minF ds (ps.set m.p.toNat ⟨(ps.getD m.p.toNat default).a - by_, (ps.getD m.p.toNat default).i⟩) l i ∧ minF ds (ps.set m.p.toNat ⟨(ps.getD m.p.toNat default).a - by_, (ps.getD m.p.toNat default).i⟩) l i ≤ minF ds ps l i + by_ ∧ (0 < minF ds ps l i → minF ds (ps.set m.p.toNat ⟨(ps.getD m.p.toNat default).a - by_, (ps.getD m.p.toNat default).i⟩) l i = minF ds ps l i + by_)) := by
  obtain ⟨b1, b2⟩ := al_bound l 0 0 hal m hm' hmp
  have hps : ∀ x : Int, 0 ≤ x → x ≠ m.p → ps.getD x.toNat default = (ps.set m.p.toNat ⟨(ps.getD m.p.toNat default).a - by_, (ps.getD m.p.toNat default).i⟩).getD x.toNat default := fun x h1 h2 => by
    rw [Go.Eng.getD_set_ne _ _ _ _ _ (by omega)]
  constructor
  · intro hne
    unfold minF
    rw [wk_same (ps.set m.p.toNat _) ps i l _ _ false fun y hy yd yp => by
      have := (al_bound l 0 0 hal y hy yp).1
      refine (hps y.p this fun e => ?_).symm
      have := al_inj l 0 0 hal m hm' y hy hmp e
      rw [this, hmd] at yd
      omega]
  · intro hiq
    subst hiq
    obtain ⟨w1, w2⟩ := wk_moved (marks_inj ds) ps _ m hmi hmp hmd hps l 0 0 hal hm' (ds.getD i default).f (ds.getD i default).t false
    have hfl := (wk_flag ps i l (ds.getD i default).f (ds.getD i default).t false).2 (.inr ⟨m, hm', hmd, hmp⟩)
    unfold minF
    rw [w2]
    simp only
    rw [if_pos hfl, if_pos hfl, w1, Go.Eng.getD_set_self _ _ _ _ (by omega)]
    simp only
    refine ⟨by omega, by omega, fun h => by omega⟩
end Go.Proofs.Ytgcomonjkcpkaaa
