/- Part of a proof about the given program: contracts of its functions (see the comment of the last text). -/
import Derived.Test.YtejafnamkalhiaaTxK
namespace Go.Proofs.Ytejafnamkalhiaa
open Go.Eng Go.Proofs
set_option linter.unusedSimpArgs false
set_option linter.unusedVariables false
attribute [local irreducible] AOps AOpsX AOps2 AWP

/-- Nowhere falling; if not steep, nowhere faster than its argument, nor above it at 0. -/
def lastP (f : Fu) (i : Nat) : Int := (f.ps.getD (i - 1) default).pa + (f.ps.getD (i - 1) default).sl * ((f.ps.getD i default).fr - 1 - (f.ps.getD (i - 1) default).fr)
def GenP (f : Fu) (steep : Bool) (i : Nat) : Prop :=
  (0 ≤ (f.ps.getD i default).sl ∧ (steep = false → (f.ps.getD i default).sl ≤ f.den) ∧ (i = 0 → steep = false → (f.ps.getD i default).pa ≤ 0)) ∧
  (0 < i → lastP f i ≤ (f.ps.getD i default).pa ∧ (steep = false → (f.ps.getD i default).pa - lastP f i ≤ f.den))
instance (f : Fu) (s : Bool) (i : Nat) : Decidable (GenP f s i) := by unfold GenP; infer_instance
def GenOk (f : Fu) (steep : Bool) : Prop := ∀ i, i < f.ps.length → GenP f steep i
instance (f : Fu) (s : Bool) : Decidable (GenOk f s) := by unfold GenOk; infer_instance

/-! The plain law. -/
theorem cut_step {f : Fu} (h : FOk f) {x : Int} (hx : 0 ≤ x) : cutF f.ps (x + 1) = cutF f.ps x ∨ (cutF f.ps (x + 1) = cutF f.ps x + 1 ∧ (f.ps.getD (cutF f.ps x) default).fr = x + 1 ∧ cutF f.ps x < f.ps.length) := by
  obtain ⟨a1, a2, a3, a4⟩ := h.cut hx
  obtain ⟨b1, b2, b3, b4⟩ := h.cut (x := x + 1) (by omega)
  rcases Nat.lt_trichotomy (cutF f.ps (x + 1)) (cutF f.ps x) with g | g | g
  · have := a3 (cutF f.ps (x + 1)) g
    have := b4 (cutF f.ps (x + 1)) (Nat.le_refl _) (by omega)
    omega
  · exact .inl g
  · right
    have h1 := a4 (cutF f.ps x) (Nat.le_refl _) (by omega)
    have h2 := b3 (cutF f.ps x) g
    refine ⟨?_, by omega, by omega⟩
    rcases Nat.lt_or_ge (cutF f.ps x + 1) (cutF f.ps (x + 1)) with g2 | g2
    · have h3 := b3 (cutF f.ps x + 1) g2
      have h4 := h.step (cutF f.ps x) (by omega)
      omega
    · omega
theorem num_step {f : Fu} (h : FOk f) {s : Bool} (hg : GenOk f s) {x : Int} (hx : 0 ≤ x) : numF f x ≤ numF f (x + 1) ∧ (s = false → numF f (x + 1) ≤ numF f x + f.den) := by
  obtain ⟨a1, a2, a3, a4⟩ := h.cut hx
  rcases cut_step h hx with e | ⟨e, efr, elt⟩
  · have hp : pcF f (x + 1) = pcF f x := by unfold pcF; rw [e]
    have hgi := hg (cutF f.ps x - 1) (by omega)
    have g1 := hgi.1.1
    have g2 := hgi.1.2.1
    have ep : f.ps.getD (cutF f.ps x - 1) default = pcF f x := rfl
    rw [ep] at g1 g2
    unfold numF
    rw [hp, show x + 1 - (pcF f x).fr = x - (pcF f x).fr + 1 by omega, Int.mul_add, Int.mul_one]
    exact ⟨by omega, fun hs => by have := g2 hs; omega⟩
  · have hgi := (hg (cutF f.ps x) elt).2 (by omega)
    have hp : pcF f (x + 1) = f.ps.getD (cutF f.ps x) default := by unfold pcF; rw [e]; rfl
    have hl : lastP f (cutF f.ps x) = numF f x := by
      unfold lastP numF pcF
      rw [efr, show x + 1 - 1 = x by omega]
    have hn : numF f (x + 1) = (f.ps.getD (cutF f.ps x) default).pa := by
      unfold numF
      rw [hp, efr, show x + 1 - (x + 1) = 0 by omega, Int.mul_zero, Int.add_zero]
    rw [hl] at hgi
    rw [hn]
    exact ⟨hgi.1, fun hs => by have := hgi.2 hs; omega⟩
theorem num_mono {f : Fu} (h : FOk f) {s : Bool} (hg : GenOk f s) {x : Int} (hx : 0 ≤ x) : ∀ d : Nat, numF f x ≤ numF f (x + d) ∧ (s = false → numF f (x + d) ≤ numF f x + f.den * d)
  | 0 => by simp
  | d + 1 => by
    obtain ⟨h1, h2⟩ := num_mono h hg hx d
    obtain ⟨h3, h4⟩ := num_step h hg (x := x + d) (by omega)
    rw [show x + ((d + 1 : Nat) : Int) = x + d + 1 by omega]
    refine ⟨by omega, fun hs => ?_⟩
    have h5 := h2 hs
    have h6 := h4 hs
    rw [show ((d + 1 : Nat) : Int) = d + 1 by omega, Int.mul_add, Int.mul_one]
    omega
theorem num_zero {f : Fu} (h : FOk f) {s : Bool} (hg : GenOk f s) (hs : s = false) : numF f 0 ≤ 0 := by
  obtain ⟨a1, a2, a3, a4⟩ := h.cut (x := 0) (Int.le_refl _)
  have h0 : (f.ps.getD 0 default).fr = 0 := (h.2 0 (by omega)).1 rfl
  have e : cutF f.ps 0 = 1 := by
    rcases Nat.lt_or_ge 1 (cutF f.ps 0) with g | g
    · have := a3 1 g
      have := h.step 0 (by omega)
      rw [h0] at this
      simp only [Nat.zero_add] at this
      omega
    · omega
  have hp := (hg 0 (by omega)).1.2.2 rfl hs
  unfold numF pcF
  rw [e]
  simp only [Nat.sub_self]
  rw [h0]
  simp only [Int.sub_self, Int.mul_zero, Int.add_zero]
  exact hp
end Go.Proofs.Ytejafnamkalhiaa
