/- A slot is said less of. -/
import Derived.Test.YtpgipgmmakhlfaaEngV
namespace Go.Eng
open Go.RowKit
theorem G.sub1 {n B : Nat} {w0 : Orig} {st : St} {a : Act} {w : World} (hG : G n B w0 st a w) (s : Nat) (y : AV) (hn : (lk st.env s).nor = true) (hs : Sub (lk st.env s) y) : G n B w0 ⟨(s, y) :: st.env, st.heap⟩ a w := by
  obtain ⟨ρ, I, h⟩ := hG
  refine ⟨ρ, I, h.defers, h.size, fun t => ?_, h.hw, h.below, h.base, h.old⟩
  simp only [lk]
  split
  · rename_i e; subst e
    exact (hs _ _ _ _ ((h.env s).nor hn)).up
  · exact h.env t
theorem awp_sub1 {P : Program} {n B : Nat} {w0 : Orig} {c : Code} {Q : Exit → St → Prop} {st : St} (s : Nat) (y : AV) (hn : (lk st.env s).nor = true) (hs : Sub (lk st.env s) y) (h : AWP P n B w0 c Q ⟨(s, y) :: st.env, st.heap⟩) : AWP P n B w0 c Q st := fun a w hG => h a w (hG.sub1 s y hn hs)
/-- What is new is what came in. -/
theorem sub_fresh {fr : Bool} {c : Nat → Nat → AV} {sz off len : Nat} : Sub (.i fr c sz off len) (.i false c sz off len) := by
  intro B I w u h
  cases h with
  | i _ _ _ _ _ cap A u hcap hA hc =>
    refine .i _ _ _ _ _ _ _ u hcap (fun hl => ?_) hc
    obtain ⟨ad, h1, h2, h3, h4⟩ := hA hl
    exact ⟨ad, h1, h2, (fun hh => by cases hh), h4⟩
theorem Sub.trans {x y z : AV} (h : Sub x y) (k : Sub y z) : Sub x z := fun B I w u hu => k B I w u (h B I w u hu)
theorem Sub.of_eq {x y : AV} (h : x = y) : Sub x y := h ▸ Sub.refl x
end Go.Eng
