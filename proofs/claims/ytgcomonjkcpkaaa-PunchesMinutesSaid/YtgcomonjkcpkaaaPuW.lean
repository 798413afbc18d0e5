/- Plain laws: punches that are exact; no punches. -/
import Derived.Test.YtgcomonjkcpkaaaPuU
namespace Go.Proofs.Ytgcomonjkcpkaaa
open Go.Eng Go.Proofs
set_option linter.unusedVariables false

/-- The punches that are exactly the marks. -/
def exP : List Du → List Pn
  | [] => []
  | x :: r => ⟨x.f, true⟩ :: ⟨x.t, false⟩ :: exP r
theorem exP_len : ∀ ds : List Du, (exP ds).length = 2 * ds.length
  | [] => rfl
  | x :: r => by rw [exP, List.length_cons, List.length_cons, exP_len r, List.length_cons]; omega
theorem exP_get : ∀ (ds : List Du) (i : Nat), i < 2 * ds.length → (exP ds).getD i default = if i % 2 = 0 then ⟨(ds.getD (i / 2) default).f, true⟩ else ⟨(ds.getD (i / 2) default).t, false⟩
  | [], i, h => by simp at h
  | x :: r, 0, h => rfl
  | x :: r, 1, h => rfl
  | x :: r, i + 2, h => by
    have := exP_get r i (by simp at h; omega)
    rw [show (i + 2) % 2 = i % 2 by omega, show (i + 2) / 2 = i / 2 + 1 by omega, List.getD_cons_succ, ← this]
    rfl
theorem exP_app : ∀ (a b : List Du), exP (a ++ b) = exP a ++ exP b
  | [], b => rfl
  | x :: r, b => by rw [List.cons_append, exP, exP_app r b, exP]; rfl
theorem exP_take (ds : List Du) (k : Nat) (h : k < ds.length) : exP (ds.take (k + 1)) = exP (ds.take k) ++ [⟨(ds.getD k default).f, true⟩, ⟨(ds.getD k default).t, false⟩] := by
  rw [List.take_add_one]
  have e : ds[k]?.toList = [ds.getD k default] := by simp [List.getD_eq_getElem?_getD, h]
  rw [e, exP_app]; rfl
theorem cost_ex (ds : List Du) (i : Nat) (h : i < 2 * ds.length) : costF ((marksF 0 ds).getD i default) ((exP ds).getD i default) = 0 := by
  unfold costF
  rw [marks_get ds 0 i h, (marks_d ds 0 i h).2, exP_get ds i h]
  by_cases c : i % 2 = 0
  · simp [c]
  · simp [c]
theorem DI_ex (ds : List Du) : ∀ (c i : Nat), i + c = 2 * ds.length → DI (marksF 0 ds) (exP ds) i i = 0
  | 0, i, h => by
    unfold DI
    rw [List.drop_eq_nil_of_le (by rw [marks_len]; omega), List.drop_eq_nil_of_le (by rw [exP_len]; omega)]; rfl
  | c + 1, i, h => by
    have ih := DI_ex ds c (i + 1) (by omega)
    have h1 := (DI_le (ms := marksF 0 ds) (ps := exP ds) (i := i) (k := i)).2.2 (by rw [marks_len]; omega) (by rw [exP_len]; omega)
    rw [cost_ex ds i (by omega), ih] at h1
    have h2 := DI_bounds (marksF 0 ds) (exP ds) i i
    omega
def exL : Nat → Nat → List Mt
  | _, 0 => []
  | i, c + 1 => ⟨((i / 2 : Nat) : Int), decide (i % 2 = 0), (i : Int)⟩ :: exL (i + 1) c
theorem path_ex (ds : List Du) : ∀ (c f i : Nat), i + c = 2 * ds.length → c ≤ f → pathI (marksF 0 ds) (exP ds) f i i = exL i c
  | 0, f, i, h, _ => by
    cases f with
    | zero => rfl
    | succ f => rw [pathI, if_neg (by rw [marks_len, exP_len]; omega)]; rfl
  | c + 1, 0, i, h, hf => by omega
  | c + 1, f + 1, i, h, hf => by
    have hm' := marks_d ds 0 i (by omega)
    rw [pathI, if_pos (by rw [marks_len]; omega), if_pos ⟨by rw [marks_len]; omega, by rw [exP_len]; omega, by rw [DI_ex ds (c + 1) i h, DI_ex ds c (i + 1) (by omega), cost_ex ds i (by omega)]; rfl⟩, path_ex ds c f (i + 1) (by omega) (by omega), exL, hm'.1, hm'.2, Nat.zero_add]
theorem pathF_ex (ds : List Du) : pathF (marksF 0 ds) (exP ds) = exL 0 (2 * ds.length) := path_ex ds (2 * ds.length) _ 0 (by omega) (by rw [marks_len]; omega)
theorem D_ex (ds : List Du) : D (marksF 0 ds) (exP ds) = 0 := DI_ex ds (2 * ds.length) 0 (by omega)
theorem wk_skip (ps : List Pn) (q : Nat) (f t : Int) (b : Bool) : ∀ (a i c : Nat), (∀ j, i ≤ j → j < i + a → j / 2 ≠ q) → wkI ps q f t b (exL i (a + c)) = wkI ps q f t b (exL (i + a) c)
  | 0, i, c, _ => by rw [Nat.zero_add, Nat.add_zero]
  | a + 1, i, c, h => by
    rw [show a + 1 + c = (a + c) + 1 by omega, exL, wkI, if_pos (.inl (by have := h i (Nat.le_refl _) (by omega); show ((i / 2 : Nat) : Int) ≠ (q : Int); omega)), wk_skip ps q f t b a (i + 1) c (fun j h1 h2 => h j (by omega) (by omega)), show i + 1 + a = i + (a + 1) by omega]
theorem wk_ex (ds : List Du) (q : Nat) (hq : q < ds.length) (f t : Int) : wkI (exP ds) q f t false (exL 0 (2 * ds.length)) = ((ds.getD q default).f, (ds.getD q default).t, true) := by
  have e1 := wk_skip (exP ds) q f t false (2 * q) 0 (2 * ds.length - 2 * q) (fun j _ h => by omega)
  rw [show 2 * q + (2 * ds.length - 2 * q) = 2 * ds.length by omega, Nat.zero_add, show 2 * ds.length - 2 * q = (2 * ds.length - 2 * q - 2) + 1 + 1 by omega] at e1
  rw [e1, exL, exL, wkI, if_neg (by rintro (h | h); exact h (by show ((2 * q / 2 : Nat) : Int) = q; omega); (have : ((2 * q : Nat) : Int) = -1 := h); omega), if_pos (by show decide (2 * q % 2 = 0) = true; exact decide_eq_true (by omega)), wkI, if_neg (by rintro (h | h); exact h (by show (((2 * q + 1) / 2 : Nat) : Int) = q; omega); (have : ((2 * q + 1 : Nat) : Int) = -1 := h); omega), if_neg (by show ¬ decide ((2 * q + 1) % 2 = 0) = true; rw [decide_eq_false (by omega)]; decide)]
  have e2 := wk_skip (exP ds) q ((exP ds).getD ((2 * q : Nat) : Int).toNat default).a ((exP ds).getD ((2 * q + 1 : Nat) : Int).toNat default).a true (2 * ds.length - 2 * q - 2) (2 * q + 1 + 1) 0 (fun j h _ => by omega)
  rw [Nat.add_zero] at e2
  rw [show wkI (exP ds) q ((exP ds).getD ((2 * q : Nat) : Int).toNat default).a ((exP ds).getD ((2 * q + 1 : Nat) : Int).toNat default).a true (exL (2 * q + 1 + 1) (2 * ds.length - 2 * q - 2)) = _ from e2, exL, wkI, Int.toNat_natCast, Int.toNat_natCast, exP_get ds (2 * q) (by omega), exP_get ds (2 * q + 1) (by omega), if_pos (by omega), if_neg (by omega), show 2 * q / 2 = q by omega, show (2 * q + 1) / 2 = q by omega]
theorem work_ex {ds : List Du} (h : DOk ds) : workF ds (exP ds) (exL 0 (2 * ds.length)) = ds.map fun x => x.t - x.f := by
  apply List.ext_getElem (by simp [workF])
  intro i h1 h2
  have hi : i < ds.length := by simpa using h2
  simp only [workF, List.getElem_map, List.getElem_range]
  unfold minF
  rw [wk_ex ds i hi]
  have hv := (h i hi).1
  unfold VD at hv
  have e : ds.getD i default = ds[i] := by simp [List.getD_eq_getElem?_getD, hi]
  rw [e] at hv ⊢
  simp only [if_true]
  omega
theorem path_none (ms : List Mk) : ∀ (f i k : Nat), ∀ m ∈ pathI ms [] f i k, m.p = -1
  | 0, i, k, m, h => by simp [pathI] at h
  | f + 1, i, k, m, h => by
    rw [pathI] at h
    by_cases c : i < ms.length
    · rw [if_pos (.inl c), if_neg (fun t : Tm ms [] i k => by have := t.2.1; simp at this), if_pos (Ts_end c (by simp))] at h
      rcases List.mem_cons.1 h with rfl | h
      · rfl
      · exact path_none ms f (i + 1) k m h
    · rw [if_neg (by rintro (h | h); exact c h; simp at h)] at h
      cases h
theorem wk_none (ps : List Pn) (q : Nat) (f t : Int) (b : Bool) : ∀ l : List Mt, (∀ m ∈ l, m.p = -1) → wkI ps q f t b l = (f, t, b)
  | [], _ => rfl
  | m :: r, h => by
    rw [wkI, if_pos (.inr (h m (List.mem_cons_self ..)))]
    exact wk_none ps q f t b r fun m hm => h m (List.mem_cons_of_mem _ hm)
theorem work_none (ds : List Du) : workF ds [] (pathF (marksF 0 ds) []) = List.replicate ds.length 0 := by
  apply List.ext_getElem (by simp [workF])
  intro i h1 h2
  simp only [workF, List.getElem_map, List.getElem_range, List.getElem_replicate]
  unfold minF
  rw [wk_none [] i _ _ _ (pathF (marksF 0 ds) []) (path_none _ _ _ _)]
  rfl
theorem us_ex {ds : List Du} (h : usF ds [] = 0) : usF ds (exP ds) = 0 := by
  obtain ⟨u1, _, u3, _, _⟩ := us_zero h
  have hl := exP_len ds
  have w4 : PIn (exP ds) := fun i hi => by
    rw [exP_get ds i (by omega)]
    have := (u3 (i / 2) (by omega)).1
    unfold VD at this
    split <;> (simp only; omega)
  have w5 : PSo (exP ds) := fun i hi h0 => by
    rw [exP_get ds i (by omega), exP_get ds (i - 1) (by omega)]
    have hv := u3 (i / 2) (by omega)
    unfold VD at hv
    by_cases c : i % 2 = 0
    · rw [if_pos c, if_neg (by omega), show (i - 1) / 2 = i / 2 - 1 by omega]
      exact hv.2 (by omega)
    · rw [if_neg c, if_pos (by omega), show (i - 1) / 2 = i / 2 by omega]
      simp only; omega
  rw [usF, if_neg (by omega), if_pos u3, if_pos w4, if_pos w5]
end Go.Proofs.Ytgcomonjkcpkaaa
