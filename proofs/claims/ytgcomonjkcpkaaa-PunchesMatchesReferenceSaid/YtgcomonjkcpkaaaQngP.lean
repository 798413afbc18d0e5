/- Small laws for the use of the calculus. -/
import Derived.Test.YtgcomonjkcpkaaaQngO
namespace Go.Eng
open Go.RowKit

theorem wrap64 {n : Int} (h1 : -9223372036854775808 ≤ n) (h2 : n ≤ 9223372036854775807) : IntKind.i64.wrap n = n := by rw [IntKind.wrap_i64]; omega
theorem bif_and (b x : Bool) : (bif b then x else false) = (b && x) := by cases b <;> rfl
theorem bif_or (b x : Bool) : (bif b then true else x) = (b || x) := by cases b <;> rfl
theorem bif_nand (b x : Bool) : (bif b then false else x) = (!b && x) := by cases b <;> rfl

/-- A nil slice is an owned row of no element. -/
theorem G.nilRow {n B : Nat} {w0 : Orig} {st : St} {a : Act} {w : World} (hG : G n B w0 st a w) (s d : Nat) (hs : lk st.env s = .v (.slice none 0 0)) (hsn : s < n) (e : TypeId) (sz : Nat) (c : Cont) (hc : c.len = 0) (hdn : d < n := by decide) :
    G n B w0 ⟨(s, .s d) :: killE d st.env, (d, .row e sz c) :: killH d st.heap⟩ a w := by
  obtain ⟨ρ, I, hg⟩ := hG
  have hv : a.tmps.getD s undef = .slice none 0 0 := by
    have := hg.env s
    rw [hs] at this
    exact this.v_inv
  have h1 := hg.new (Below.refl _ w) d (.slice none 0 0) (.row e sz c) ⟨0, [], World.ownsRow_nil w B e sz, by simp [hc], fun j u hu => by simp at hu⟩ (fun b hb => by simp [rootBlk] at hb) (hg.old.ghn d hdn)
  have h2 := h1.put (d := some s) (x := .s d) (u := .slice none 0 0) (fun k hk => by injection hk with hk; omega) (.s d _ (updρ_self _ _ _) rfl)
  refine ⟨_, I, h2.defers, h1.size, fun t => ?_, h2.hw, h2.below, h2.base, h2.old⟩
  have h3 := h2.env t
  have : (a.put (some s) (.slice none 0 0)).tmps.getD t undef = a.tmps.getD t undef := by
    simp only [Act.put]
    by_cases e : s = t
    · subst e
      rw [hv]
      have : s < a.tmps.size := by rw [hg.size]; exact hsn
      simp [Array.getD_eq_getD_getElem?, this]
    · simp [Array.getD_eq_getD_getElem?, Array.getElem?_setIfInBounds_ne e]
  rw [this] at h3
  exact h3

theorem G.weaken {n B : Nat} {w0 : Orig} {st st' : St} {a : Act} {w : World} (hG : G n B w0 st a w) (hE : wkE st.env st'.env) (hH : wkH st.heap st'.heap) : G n B w0 st' a w := G.wk hE hH a w hG

theorem awp_wk {P : Program} {n B : Nat} {w0 : Orig} {c : Code} {Q : Exit → St → Prop} {st : St} (st' : St) (hE : wkE st.env st'.env) (hH : wkH st.heap st'.heap) (h : AWP P n B w0 c Q st') : AWP P n B w0 c Q st := fun a w hG => h a w (hG.weaken hE hH)

/-- All that x stands for, y stands for. -/
def Sub (x y : AV) : Prop := ∀ (B : Nat) (I : Nat → Prop) (w : World) (u : Value), Conc B I w noId x u → Conc B I w noId y u
theorem Sub.refl (x : AV) : Sub x x := fun _ _ _ _ h => h
def SubL : List AV → List AV → Prop
  | [], [] => True
  | x :: r, y :: s => Sub x y ∧ SubL r s
  | _, _ => False
theorem SubL.spec : ∀ {xs ys : List AV}, SubL xs ys → ys.length = xs.length ∧ ∀ j, Sub (xs.getD j .top) (ys.getD j .top)
  | [], [], _ => ⟨rfl, fun _ => Sub.refl _⟩
  | x :: r, y :: s, h => by
    obtain ⟨h1, h2⟩ := SubL.spec h.2
    refine ⟨by simp [h1], fun j => ?_⟩
    cases j with
    | zero => simpa using h.1
    | succ j => simpa using h2 j
  | [], _ :: _, h => h.elim
  | _ :: _, [], h => h.elim
theorem Pure.sub {P : Program} {f : FuncId} {xs ys : List AV} {r : AV} (h : Pure P f ys r) (hs : SubL xs ys) : Pure P f xs r := by
  obtain ⟨h1, h2⟩ := hs.spec
  exact ⟨h.1, fun w I vs hI hc => h.2 w I vs hI ⟨by rw [hc.1, h1], fun j hj => h2 j _ _ _ _ (hc.2 j (by rw [← h1]; exact hj))⟩⟩
theorem Pure.eq {P : Program} {f : FuncId} {xs : List AV} {r r' : AV} (h : Pure P f xs r) (e : r = r') : Pure P f xs r' := e ▸ h

abbrev I64 (n : Int) : AV := .v (.int .i64 n)
abbrev BL (b : Bool) : AV := .v (.bool b)
/-- A slice of ints that nobody writes: one that came in; one that was made. -/
abbrev ints (l : List Int) : AV := .i false (fun e _ => .v (.int .i64 (l.getD e 0))) 1 0 l.length
abbrev intsF (l : List Int) : AV := .i true (fun e _ => .v (.int .i64 (l.getD e 0))) 1 0 l.length

theorem sub_slice {fr : Bool} {c c' : Nat → Nat → AV} {sz off off' len len' : Nat} (hl : len = len') (h : ∀ e j, e < len → j < sz → c (off + e) j = c' (off' + e) j) : Sub (.i fr c sz off len) (.i fr c' sz off' len') := by
  subst hl
  intro B I w u hu
  cases hu with
  | i _ _ _ _ _ cap A uu hcap hA hc => exact .i _ _ _ _ _ cap A uu hcap hA (fun e j he hj => by rw [← h e j he hj]; exact hc e j he hj)
theorem getD_drop_take {l : List Int} {off len e : Nat} (h : e < len) : ((l.drop off).take len).getD e 0 = l.getD (off + e) 0 := by
  simp [List.getD_eq_getElem?_getD, h]
theorem sub_ints {l : List Int} {off len : Nat} (h : off + len ≤ l.length) : Sub (.i false (fun e _ => .v (.int .i64 (l.getD e 0))) 1 off len) (ints ((l.drop off).take len)) :=
  sub_slice (by simp; omega) (fun e j he _ => by rw [Nat.zero_add, getD_drop_take he])
theorem sub_ints0 {l : List Int} {len : Nat} (h : len ≤ l.length) : Sub (.i false (fun e _ => .v (.int .i64 (l.getD e 0))) 1 0 len) (ints (l.take len)) := by
  have := sub_ints (l := l) (off := 0) (len := len) (by omega)
  simpa using this
theorem sub_nil : Sub (.v (.slice none 0 0)) (ints []) := fun B I w u hu => by
  obtain rfl := hu.v_inv
  exact .i _ _ _ _ _ _ _ (fun _ _ => undef) (by simp) (fun h => by simp at h) (fun e j he => by simp at he)
end Go.Eng
