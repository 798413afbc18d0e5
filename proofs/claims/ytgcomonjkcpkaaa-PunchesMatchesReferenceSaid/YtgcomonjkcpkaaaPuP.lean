/- Plain laws: a way through the table is an alignment; what is moved. -/
import Derived.Test.YtgcomonjkcpkaaaPuK
namespace Go.Proofs.Ytgcomonjkcpkaaa
open Go.Eng Go.Proofs
set_option linter.unusedVariables false

theorem al_path {ms : List Mk} {ps : List Pn} (hd : ∀ i, i < ms.length → (ms.getD i default).d ≠ -1) : ∀ (f i k : Nat), i ≤ ms.length → k ≤ ps.length → (ms.length - i) + (ps.length - k) ≤ f → alI ms ps.length i k (pathI ms ps f i k) = true
  | 0, i, k, h1, h2, h3 => by simp only [pathI, alI]; exact decide_eq_true ⟨by omega, by omega⟩
  | f + 1, i, k, h1, h2, h3 => by
    rw [pathI]
    by_cases hmore : i < ms.length ∨ k < ps.length
    · rw [if_pos hmore]
      by_cases hT : Tm ms ps i k
      · obtain ⟨p1, p2, p3⟩ := id hT
        rw [if_pos hT, alI, if_neg (hd i p1), if_neg (by rintro (h | h | h); omega; exact h rfl; exact h rfl), if_neg (show ¬ ((k : Int) = -1) by omega), if_neg (by rintro (h | h); omega; exact h rfl)]
        exact al_path hd f (i + 1) (k + 1) (by omega) (by omega) (by omega)
      · rw [if_neg hT]
        by_cases hS : Ts ms ps i k
        · have p1 := hS.1
          rw [if_pos hS, alI, if_neg (hd i p1), if_neg (by rintro (h | h | h); omega; exact h rfl; exact h rfl), if_pos rfl]
          exact al_path hd f (i + 1) k (by omega) (by omega) (by omega)
        · have hk : k < ps.length := by
            rcases hmore with h | h
            · rcases Nat.lt_or_ge k ps.length with h2 | h2
              · exact h2
              · exact absurd (Ts_end h h2) hS
            · exact h
          rw [if_neg hS, alI, if_pos rfl, if_neg (by rintro (h | h); cases h; (have : (k : Int) = -1 := h); omega), if_neg (by rintro (h | h); omega; exact h rfl)]
          exact al_path hd f i (k + 1) (by omega) (by omega) (by omega)
    · rw [if_neg hmore]; simp only [alI]; exact decide_eq_true ⟨by omega, by omega⟩
theorem marks_d : ∀ (ds : List Du) (k i : Nat), i < 2 * ds.length → ((marksF k ds).getD i default).d = ((k + i / 2 : Nat) : Int) ∧ ((marksF k ds).getD i default).i = decide (i % 2 = 0)
  | [], k, i, h => by simp at h
  | x :: r, k, 0, h => ⟨rfl, rfl⟩
  | x :: r, k, 1, h => ⟨rfl, rfl⟩
  | x :: r, k, i + 2, h => by
    have := marks_d r (k + 1) i (by simp at h; omega)
    rw [show k + 1 + i / 2 = k + (i + 2) / 2 by omega, show i % 2 = (i + 2) % 2 by omega] at this
    exact this
theorem al_pair (ds : List Du) (ps : List Pn) : alI (marksF 0 ds) ps.length 0 0 (pathF (marksF 0 ds) ps) = true :=
  al_path (fun i hi => by rw [marks_len] at hi; rw [(marks_d ds 0 i hi).1]; omega) _ 0 0 (Nat.zero_le _) (Nat.zero_le _) (by omega)
theorem path_len {ms : List Mk} {ps : List Pn} : ∀ (f i k : Nat), (pathI ms ps f i k).length ≤ f
  | 0, i, k => by simp [pathI]
  | f + 1, i, k => by
    rw [pathI]
    split
    · split
      · simp; exact path_len f _ _
      · split
        · simp; exact path_len f _ _
        · simp; exact path_len f _ _
    · simp
/-- The same costs give the same way. -/
theorem path_congr {ms ms' : List Mk} {ps ps' : List Pn} (h1 : ms.length = ms'.length) (h2 : ps.length = ps'.length) (hd : ∀ i, i < ms.length → (ms.getD i default).d = (ms'.getD i default).d ∧ (ms.getD i default).i = (ms'.getD i default).i) (hc : ∀ i k, i < ms.length → k < ps.length → costF (ms.getD i default) (ps.getD k default) = costF (ms'.getD i default) (ps'.getD k default)) : ∀ f i k, pathI ms ps f i k = pathI ms' ps' f i k := by
  have hDI : ∀ i k, DI ms ps i k = DI ms' ps' i k := fun i k => by
    unfold DI
    refine D_congr (by rw [List.length_drop, List.length_drop, h1]) (by rw [List.length_drop, List.length_drop, h2]) fun a b ha hb => ?_
    rw [List.length_drop] at ha hb
    have := hc (i + a) (k + b) (by omega) (by omega)
    simpa [List.getD_eq_getElem?_getD] using this
  have hTm : ∀ i k, Tm ms ps i k ↔ Tm ms' ps' i k := fun i k => by
    unfold Tm
    rw [hDI, hDI, ← h1, ← h2]
    constructor
    · rintro ⟨a, b, c⟩; exact ⟨a, b, by rw [← hc i k a b]; exact c⟩
    · rintro ⟨a, b, c⟩; exact ⟨a, b, by rw [hc i k a b]; exact c⟩
  have hTs : ∀ i k, Ts ms ps i k ↔ Ts ms' ps' i k := fun i k => by
    unfold Ts
    rw [hDI, hDI, ← h1]
  intro f
  induction f with
  | zero => intro i k; rfl
  | succ f ih =>
    intro i k
    rw [pathI, pathI, ← h1, ← h2]
    by_cases hm' : i < ms.length ∨ k < ps.length
    · rw [if_pos hm', if_pos hm']
      by_cases a : Tm ms ps i k
      · rw [if_pos a, if_pos ((hTm i k).1 a), ih, (hd i a.1).1, (hd i a.1).2]
      · rw [if_neg a, if_neg (fun h => a ((hTm i k).2 h))]
        by_cases b : Ts ms ps i k
        · rw [if_pos b, if_pos ((hTs i k).1 b), ih, (hd i b.1).1, (hd i b.1).2]
        · rw [if_neg b, if_neg (fun h => b ((hTs i k).2 h)), ih]
    · rw [if_neg hm', if_neg hm']
/-- Moved by some minutes. -/
def movD (by_ : Int) (x : Du) : Du := ⟨x.f + by_, x.t + by_, x.s⟩
def movP (by_ : Int) (x : Pn) : Pn := ⟨x.a + by_, x.i⟩
def movK (by_ : Int) (x : Mk) : Mk := ⟨x.d, x.i, x.a + by_⟩
theorem marks_mov (by_ : Int) : ∀ (ds : List Du) (k : Nat), marksF k (ds.map (movD by_)) = (marksF k ds).map (movK by_)
  | [], k => rfl
  | x :: r, k => by rw [List.map_cons, marksF, marks_mov by_ r (k + 1), marksF, List.map_append]; rfl
theorem getD_map' {α β : Type} [Inhabited α] [Inhabited β] (f : α → β) (l : List α) (i : Nat) (h : i < l.length) : (l.map f).getD i default = f (l.getD i default) := by
  simp [List.getD_eq_getElem?_getD, h]
theorem cost_mov (by_ : Int) (m : Mk) (p : Pn) : costF (movK by_ m) (movP by_ p) = costF m p := by
  unfold costF movK movP
  simp only
  rw [show m.a + by_ - (p.a + by_) = m.a - p.a by omega, show p.a + by_ - (m.a + by_) = p.a - m.a by omega]
theorem D_mov (by_ : Int) (ms : List Mk) (ps : List Pn) : D (ms.map (movK by_)) (ps.map (movP by_)) = D ms ps := by
  symm
  refine D_congr (by simp) (by simp) fun i k hi hk => ?_
  rw [getD_map' _ _ _ hi, getD_map' _ _ _ hk, cost_mov]
theorem path_mov (by_ : Int) (ms : List Mk) (ps : List Pn) : pathF (ms.map (movK by_)) (ps.map (movP by_)) = pathF ms ps := by
  unfold pathF
  rw [List.length_map, List.length_map]
  symm
  refine path_congr (by simp) (by simp) (fun i hi => ?_) (fun i k hi hk => ?_) _ _ _
  · rw [getD_map' _ _ _ hi]; exact ⟨rfl, rfl⟩
  · rw [getD_map' _ _ _ hi, getD_map' _ _ _ hk, cost_mov]
theorem wk_mov (by_ : Int) (ps : List Pn) (i : Nat) : ∀ (l : List Mt) (f t : Int) (b : Bool), (∀ m ∈ l, m.p ≠ -1 → 0 ≤ m.p ∧ m.p < ps.length) → wkI (ps.map (movP by_)) i (f + by_) (t + by_) b l = ((wkI ps i f t b l).1 + by_, (wkI ps i f t b l).2.1 + by_, (wkI ps i f t b l).2.2)
  | [], f, t, b, _ => rfl
  | m :: r, f, t, b, h => by
    have hr := fun m hm => h m (List.mem_cons_of_mem _ hm)
    rw [wkI, wkI]
    by_cases c : m.d ≠ i ∨ m.p = -1
    · rw [if_pos c, if_pos c]; exact wk_mov by_ ps i r f t b hr
    · rw [if_neg c, if_neg c]
      have hp := h m (List.mem_cons_self ..) (fun e => c (.inr e))
      rw [getD_map' (movP by_) ps m.p.toNat (by omega)]
      by_cases c2 : m.i = true
      · rw [if_pos c2, if_pos c2]; exact wk_mov by_ ps i r _ t true hr
      · rw [if_neg c2, if_neg c2]; exact wk_mov by_ ps i r f _ true hr
theorem work_mov (by_ : Int) (ds : List Du) (ps : List Pn) (l : List Mt) (h : ∀ m ∈ l, m.p ≠ -1 → 0 ≤ m.p ∧ m.p < ps.length) : workF (ds.map (movD by_)) (ps.map (movP by_)) l = workF ds ps l := by
  unfold workF
  rw [List.length_map]
  apply List.map_congr_left
  intro i hi
  have hi : i < ds.length := by simpa using hi
  unfold minF
  rw [getD_map' (movD by_) ds i hi]
  have := wk_mov by_ ps i l (ds.getD i default).f (ds.getD i default).t false h
  show (if (wkI (ps.map (movP by_)) i ((ds.getD i default).f + by_) ((ds.getD i default).t + by_) false l).2.2 = true then max ((wkI (ps.map (movP by_)) i ((ds.getD i default).f + by_) ((ds.getD i default).t + by_) false l).2.1 - (wkI (ps.map (movP by_)) i ((ds.getD i default).f + by_) ((ds.getD i default).t + by_) false l).1) 0 else 0) = _
  rw [this]
  simp only
  split
  · congr 1; omega
  · rfl
end Go.Proofs.Ytgcomonjkcpkaaa
