/- The value of a cut. -/
import Derived.Test.YthgjjhddbigfcaaPl3
namespace Go.Wf
open Go.Proofs.Share
set_option linter.unusedVariables false
set_option linter.unusedSimpArgs false

/-- A claim can reach a pool outside of a cut. -/
def rch (ps : List Po) (cut : List Bool) (f : Bool) : Prop := ∃ k, k < ps.length ∧ (cut.getD k false = false ∧ (f = true ∨ (ps.getD k default).f = false))
theorem all_zero {n : Nat} {p : Nat → Bool} {v : Nat → Int} (h : ∀ i, i < n → p i = true → False) : su n p v = 0 := su_zero fun i hi hp => (h i hi hp).elim
theorem sumP_none {ps : List Po} {b : Bool} (h : ∀ k, k < ps.length → (ps.getD k default).f = b → False) : sumP ps b = 0 := by
  rw [sumP_su]
  refine all_zero fun k hk hp => h k hk ?_
  unfold pf at hp
  exact eq_of_beq hp
/-- The value: the pools of the cut, and the claims that can reach a pool outside of it. -/
def cutV (ps : List Po) (cut : List Bool) : Int := su ps.length (fun k => cut.getD k false) (fun k => (ps.getD k default).c)
open Classical in
theorem cut_value {ps : List Po} {cs : List Cl} (hp : vP ps) (hv : vC cs) (r : Int) (F P : Int)
    (hF : F = if rch ps (cutF ps cs r) true then upC cs r true else 0) (hP : P = if rch ps (cutF ps cs r) false then upC cs r false else 0) :
    cutV ps (cutF ps cs r) + (P + F) = mostF ps cs r := by
  have hA := (sumP_bound hp false).1
  have hB := (sumP_bound hp true).1
  have nP := (upC_bound hv r false cs.length).1
  have nF := (upC_bound hv r true cs.length).1
  rw [List.take_length] at nP nF
  have nP : 0 ≤ upC cs r false := nP
  have nF : 0 ≤ upC cs r true := nF
  have at_ : ∀ k, k < ps.length → (cutF ps cs r).getD k false = if mostF ps cs r = upC cs r false + upC cs r true then false else if mostF ps cs r = sumP ps false + upC cs r true then !(ps.getD k default).f else true := fun k hk => by
    simp [cutF, List.getD_eq_getElem?_getD, hk]
  have hm : mostF ps cs r = min (sumP ps false + sumP ps true) (min (upC cs r false) (sumP ps false) + upC cs r true) := rfl
  by_cases h1 : mostF ps cs r = upC cs r false + upC cs r true
  · have cut0 : ∀ k, k < ps.length → (cutF ps cs r).getD k false = false := fun k hk => by rw [at_ k hk, if_pos h1]
    have v0 : cutV ps (cutF ps cs r) = 0 := all_zero fun k hk hq => by rw [cut0 k hk] at hq; cases hq
    have e1 : F = upC cs r true := by
      by_cases hr : rch ps (cutF ps cs r) true
      · rw [hF, if_pos hr]
      · rw [hF, if_neg hr]
        have none : ∀ k, k < ps.length → False := fun k hk => hr ⟨k, hk, cut0 k hk, .inl rfl⟩
        have a1 : sumP ps false = 0 := sumP_none fun k hk _ => none k hk
        have a2 : sumP ps true = 0 := sumP_none fun k hk _ => none k hk
        omega
    have e2 : P = upC cs r false := by
      by_cases hr : rch ps (cutF ps cs r) false
      · rw [hP, if_pos hr]
      · rw [hP, if_neg hr]
        have a1 : sumP ps false = 0 := sumP_none fun k hk hf => hr ⟨k, hk, cut0 k hk, .inr hf⟩
        omega
    omega
  · by_cases h2 : mostF ps cs r = sumP ps false + upC cs r true
    · have cut1 : ∀ k, k < ps.length → (cutF ps cs r).getD k false = !(ps.getD k default).f := fun k hk => by rw [at_ k hk, if_neg h1, if_pos h2]
      have v1 : cutV ps (cutF ps cs r) = sumP ps false := by
        rw [sumP_su]
        exact su_congr (fun k hk => by rw [cut1 k hk]; unfold pf; cases (ps.getD k default).f <;> rfl) (fun _ _ _ => rfl)
      have e2 : P = 0 := by
        rw [hP, if_neg]
        rintro ⟨k, hk, h3, h4⟩
        rw [cut1 k hk] at h3
        rcases h4 with h4 | h4
        · cases h4
        · rw [h4] at h3; cases h3
      have e1 : F = upC cs r true := by
        by_cases hr : rch ps (cutF ps cs r) true
        · rw [hF, if_pos hr]
        · rw [hF, if_neg hr]
          have a2 : sumP ps true = 0 := sumP_none fun k hk hf => hr ⟨k, hk, by rw [cut1 k hk, hf]; rfl, .inl rfl⟩
          omega
      omega
    · have cut2 : ∀ k, k < ps.length → (cutF ps cs r).getD k false = true := fun k hk => by rw [at_ k hk, if_neg h1, if_neg h2]
      have v2 : cutV ps (cutF ps cs r) = sumP ps false + sumP ps true := by
        rw [← all_pools]
        exact su_congr (fun k hk => cut2 k hk) (fun _ _ _ => rfl)
      have no : ∀ f, ¬ rch ps (cutF ps cs r) f := fun f ⟨k, hk, h3, _⟩ => by rw [cut2 k hk] at h3; cases h3
      rw [if_neg (no true)] at hF
      rw [if_neg (no false)] at hP
      omega
end Go.Wf
