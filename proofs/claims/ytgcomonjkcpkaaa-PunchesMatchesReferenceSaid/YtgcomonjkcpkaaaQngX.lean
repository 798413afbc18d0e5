/- A slot is said less of. -/
import Derived.Test.YtgcomonjkcpkaaaQngV
namespace Go.Eng
open Go.RowKit
theorem G.sub1 {n B : Nat} {w0 : Orig} {st : St} {a : Act} {w : World} (hG : G n B w0 st a w) (s : Nat) (y : AV) (hn : (lk st.env s).nor = true) (hs : Sub (lk st.env s) y) : G n B w0 ⟨(s, y) :: st.env, st.heap⟩ a w := by
  obtain ⟨ρ, I, h⟩ := hG
  refine ⟨ρ, I, h.defers, h.size, fun t => ?_, h.hw, h.below, h.base, h.old⟩
  simp only [lk]
  split
  · rename_i e; subst e
    exact (hs _ _ _ _ ((h.env s).nor hn)).up
  · exact h.env t
theorem awp_sub1 {P : Program} {n B : Nat} {w0 : Orig} {c : Code} {Q : Exit → St → Prop} {st : St} (s : Nat) (y : AV) (hn : (lk st.env s).nor = true) (hs : Sub (lk st.env s) y) (h : AWP P n B w0 c Q ⟨(s, y) :: st.env, st.heap⟩) : AWP P n B w0 c Q st := fun a w hG => h a w (hG.sub1 s y hn hs)
/-- What is new is what came in. -/
theorem sub_fresh {fr : Bool} {c : Nat → Nat → AV} {sz off len : Nat} : Sub (.i fr c sz off len) (.i false c sz off len) := by
  intro B I w u h
  cases h with
  | i _ _ _ _ _ cap A u hcap hA hc =>
    refine .i _ _ _ _ _ _ _ u hcap (fun hl => ?_) hc
    obtain ⟨ad, h1, h2, h3, h4⟩ := hA hl
    exact ⟨ad, h1, h2, (fun hh => by cases hh), h4⟩
theorem Sub.trans {x y z : AV} (h : Sub x y) (k : Sub y z) : Sub x z := fun B I w u hu => k B I w u (h B I w u hu)
theorem Sub.of_eq {x y : AV} (h : x = y) : Sub x y := h ▸ Sub.refl x
/-- Of the result less is said. -/
theorem Pure.res {P : Program} {f : FuncId} {args : List AV} {r r' : AV} (h : Pure P f args r) (hs : Sub r r') : Pure P f args r' :=
  ⟨h.1, fun w I vs hI hc => (h.2 w I vs hI hc).mono fun _ _ ⟨v, h1, h2, h3⟩ => ⟨v, h1, h2, hs _ _ _ _ h3⟩⟩
/-- An empty slice, by its value. -/
theorem Pure.empty {P : Program} {f : FuncId} {fr : Bool} {c : Nat → Nat → AV} {sz off : Nat} {r : AV} (h : ∀ A cap, Pure P f [.v (.slice A 0 cap)] r) : Pure P f [.i fr c sz off 0] r := by
  refine ⟨(h none 0).1, fun w I vs hI hc => ?_⟩
  have h0 := hc.2 0 (by simp)
  simp only [List.getD_cons_zero] at h0
  generalize hv : vs.toList.getD 0 undef = u at h0
  cases h0 with
  | i _ _ _ _ _ cap A uu hcap hA hcc =>
    refine (h A cap).2 w I vs hI ⟨by have := hc.1; simpa using this, fun j hj => ?_⟩
    have : j = 0 := by simp at hj; omega
    subst this
    simp only [List.getD_cons_zero]
    rw [hv]; exact .v _
theorem sub_nil' {fr : Bool} {c : Nat → Nat → AV} {sz : Nat} : Sub (.v (.slice none 0 0)) (.i fr c sz 0 0) := fun B I w u hu => by
  obtain rfl := hu.v_inv
  exact .i _ _ _ _ _ _ _ (fun _ _ => undef) (Nat.le_refl _) (fun h => by omega) (fun e f he => by omega)
end Go.Eng
