/- Plain laws: the mirror. -/
import Derived.Test.YtgcomonjkcpkaaaPuR
namespace Go.Proofs.Ytgcomonjkcpkaaa
open Go.Eng Go.Proofs
set_option linter.unusedVariables false

theorem min3 {v x y z : Int} (h : v = min (120 + min x y) z) : v ≤ 120 + x ∧ v ≤ 120 + y ∧ v ≤ z ∧ (v = 120 + x ∨ v = 120 + y ∨ v = z) := by omega
theorem min3' {v x y z : Int} (h1 : v ≤ 120 + x) (h2 : v ≤ 120 + y) (h3 : v ≤ z) (h4 : v = 120 + x ∨ v = 120 + y ∨ v = z) : v = min (120 + min x y) z := by omega
theorem D_snoc (m : Mk) (p : Pn) : ∀ (ms : List Mk) (ps : List Pn), D (ms ++ [m]) (ps ++ [p]) = min (120 + min (D ms (ps ++ [p])) (D (ms ++ [m]) ps)) (costF m p + D ms ps)
  | [], [] => by simp only [List.nil_append]; exact D_cons m [] p []
  | [], q :: ps => by
    have ih := min3 (D_snoc m p [] ps)
    have e1 := min3 (D_cons m [] q (ps ++ [p]))
    have e2 := min3 (D_cons m [] q ps)
    simp only [List.nil_append, List.cons_append, D_nil, List.length_append, List.length_cons, List.length_nil] at *
    apply min3' <;> omega
  | a :: ms, [] => by
    have ih := min3 (D_snoc m p ms [])
    have e1 := min3 (D_cons a (ms ++ [m]) p [])
    have e2 := min3 (D_cons a ms p [])
    simp only [List.nil_append, List.cons_append, D_emp, List.length_append, List.length_cons, List.length_nil] at *
    apply min3' <;> omega
  | a :: ms, q :: ps => by
    have i1 := min3 (D_snoc m p ms (q :: ps))
    have i2 := min3 (D_snoc m p (a :: ms) ps)
    have i3 := min3 (D_snoc m p ms ps)
    have e1 := min3 (D_cons a (ms ++ [m]) q (ps ++ [p]))
    have e2 := min3 (D_cons a ms q (ps ++ [p]))
    have e3 := min3 (D_cons a (ms ++ [m]) q ps)
    have e4 := min3 (D_cons a ms q ps)
    simp only [List.cons_append] at *
    generalize D (a :: (ms ++ [m])) (q :: (ps ++ [p])) = A at *
    generalize D (ms ++ [m]) (q :: (ps ++ [p])) = B1 at *
    generalize D (a :: (ms ++ [m])) (ps ++ [p]) = B2 at *
    generalize D (ms ++ [m]) (ps ++ [p]) = B3 at *
    generalize D (a :: ms) (q :: (ps ++ [p])) = C1 at *
    generalize D (a :: (ms ++ [m])) (q :: ps) = C2 at *
    generalize D (a :: ms) (q :: ps) = C3 at *
    generalize D ms (q :: (ps ++ [p])) = x1 at *
    generalize D (ms ++ [m]) (q :: ps) = x2 at *
    generalize D ms (q :: ps) = x3 at *
    generalize D (a :: ms) (ps ++ [p]) = x4 at *
    generalize D (a :: (ms ++ [m])) ps = x5 at *
    generalize D (a :: ms) ps = x6 at *
    generalize D ms (ps ++ [p]) = x7 at *
    generalize D (ms ++ [m]) ps = x8 at *
    generalize D ms ps = x9 at *
    generalize costF m p = c1 at *
    generalize costF a q = c2 at *
    obtain ⟨i11, i12, i13, i14⟩ := i1
    obtain ⟨i21, i22, i23, i24⟩ := i2
    obtain ⟨i31, i32, i33, i34⟩ := i3
    obtain ⟨e11, e12, e13, e14⟩ := e1
    obtain ⟨e21, e22, e23, e24⟩ := e2
    obtain ⟨e31, e32, e33, e34⟩ := e3
    obtain ⟨e41, e42, e43, e44⟩ := e4
    have h1 : A ≤ 120 + C1 := by clear i14 i24 i34 e14 e34 e44; rcases e24 with e | e | e <;> omega
    have h2 : A ≤ 120 + C2 := by clear i14 i24 i34 e14 e24 e44; rcases e34 with e | e | e <;> omega
    have h3 : A ≤ c1 + C3 := by clear i14 i24 i34 e14 e24 e34; rcases e44 with e | e | e <;> omega
    refine min3' h1 h2 h3 ?_
    clear e24 e34 e44
    rcases e14 with e | e | e
    · clear i24 i34
      rcases i14 with g | g | g
      · exact .inl (by omega)
      · exact .inr (.inl (by omega))
      · exact .inr (.inr (by omega))
    · clear i14 i34
      rcases i24 with g | g | g
      · exact .inl (by omega)
      · exact .inr (.inl (by omega))
      · exact .inr (.inr (by omega))
    · clear i14 i24
      rcases i34 with g | g | g
      · exact .inl (by omega)
      · exact .inr (.inl (by omega))
      · exact .inr (.inr (by omega))
termination_by ms ps => ms.length + ps.length
theorem D_rev : ∀ (ms : List Mk) (ps : List Pn), D ms.reverse ps.reverse = D ms ps
  | [], ps => by rw [List.reverse_nil, D_nil, D_nil, List.length_reverse]
  | m :: ms, [] => by rw [List.reverse_nil, D_emp, D_emp, List.length_reverse]
  | m :: ms, p :: ps => by
    have h1 := D_rev ms (p :: ps)
    have h2 := D_rev (m :: ms) ps
    have h3 := D_rev ms ps
    simp only [List.reverse_cons] at *
    rw [D_snoc, D_cons, h1, h2, h3]
termination_by ms ps => ms.length + ps.length
/-- Mirrored. -/
def mirD (x : Du) : Du := ⟨52596000 - x.t, 52596000 - x.f, x.s⟩
def mirP (x : Pn) : Pn := ⟨52596000 - x.a, !x.i⟩
theorem rev_getD {α : Type} [Inhabited α] (l : List α) (i : Nat) (h : i < l.length) : l.reverse.getD i default = l.getD (l.length - 1 - i) default := by
  simp only [List.getD_eq_getElem?_getD]
  rw [List.getElem?_reverse h]
theorem D_mirror (ds : List Du) (ps : List Pn) : D (marksF 0 (ds.reverse.map mirD)) (ps.reverse.map mirP) = D (marksF 0 ds) ps := by
  rw [← D_rev (marksF 0 ds) ps]
  refine D_congr (by rw [marks_len, List.length_map, List.length_reverse, List.length_reverse, marks_len]) (by simp) fun i k hi hk => ?_
  rw [marks_len, List.length_map, List.length_reverse] at hi
  rw [List.length_map, List.length_reverse] at hk
  have m1 := marks_get (ds.reverse.map mirD) 0 i (by rw [List.length_map, List.length_reverse]; exact hi)
  have m2 := (marks_d (ds.reverse.map mirD) 0 i (by rw [List.length_map, List.length_reverse]; exact hi)).2
  rw [getD_map' mirD _ _ (by rw [List.length_reverse]; omega), rev_getD ds _ (by omega)] at m1
  rw [getD_map' mirP _ _ (by rw [List.length_reverse]; exact hk)]
  rw [rev_getD (marksF 0 ds) i (by rw [marks_len]; exact hi)]
  rw [marks_len]
  have m3 := marks_get ds 0 (2 * ds.length - 1 - i) (by omega)
  have m4 := (marks_d ds 0 (2 * ds.length - 1 - i) (by omega)).2
  rw [show (2 * ds.length - 1 - i) / 2 = ds.length - 1 - i / 2 by omega] at m3
  unfold costF
  rw [m1, m2, m3, m4]
  unfold mirD mirP
  simp only
  by_cases h : i % 2 = 0
  · rw [if_pos h, if_neg (show ¬ (2 * ds.length - 1 - i) % 2 = 0 by omega), decide_eq_true h, decide_eq_false (show ¬ (2 * ds.length - 1 - i) % 2 = 0 by omega)]
    cases (ps.reverse.getD k default).i <;> simp <;> omega
  · rw [if_neg h, if_pos (show (2 * ds.length - 1 - i) % 2 = 0 by omega), decide_eq_false h, decide_eq_true (show (2 * ds.length - 1 - i) % 2 = 0 by omega)]
    cases (ps.reverse.getD k default).i <;> simp <;> omega
theorem us_mirror {ds : List Du} {ps : List Pn} (h : usF ds ps = 0) : usF (ds.reverse.map mirD) (ps.reverse.map mirP) = 0 := by
  obtain ⟨u1, u2, u3, u4, u5⟩ := us_zero h
  have ld : (ds.reverse.map mirD).length = ds.length := by simp
  have lp : (ps.reverse.map mirP).length = ps.length := by simp
  have gd : ∀ i, i < ds.length → (ds.reverse.map mirD).getD i default = mirD (ds.getD (ds.length - 1 - i) default) := fun i hi => by
    rw [getD_map' mirD _ _ (by simpa using hi), rev_getD _ _ hi]
  have gp : ∀ i, i < ps.length → (ps.reverse.map mirP).getD i default = mirP (ps.getD (ps.length - 1 - i) default) := fun i hi => by
    rw [getD_map' mirP _ _ (by simpa using hi), rev_getD _ _ hi]
  have w3 : DOk (ds.reverse.map mirD) := fun i hi => by
    rw [ld] at hi
    refine ⟨?_, fun h0 => ?_⟩
    · rw [gd i hi]
      have := (u3 (ds.length - 1 - i) (by omega)).1
      unfold VD mirD at *
      simp only
      omega
    · rw [gd i hi, gd (i - 1) (by omega)]
      have := (u3 (ds.length - 1 - (i - 1)) (by omega)).2 (by omega)
      rw [show ds.length - 1 - (i - 1) - 1 = ds.length - 1 - i by omega] at this
      unfold mirD
      simp only
      omega
  have w4 : PIn (ps.reverse.map mirP) := fun i hi => by
    rw [lp] at hi
    rw [gp i hi]
    have := u4 (ps.length - 1 - i) (by omega)
    unfold mirP
    simp only
    omega
  have w5 : PSo (ps.reverse.map mirP) := fun i hi h0 => by
    rw [lp] at hi
    rw [gp i hi, gp (i - 1) (by omega)]
    have := u5 (ps.length - 1 - (i - 1)) (by omega) (by omega)
    rw [show ps.length - 1 - (i - 1) - 1 = ps.length - 1 - i by omega] at this
    unfold mirP
    simp only
    omega
  rw [usF, if_neg (by omega), if_pos w3, if_pos w4, if_pos w5]
end Go.Proofs.Ytgcomonjkcpkaaa
