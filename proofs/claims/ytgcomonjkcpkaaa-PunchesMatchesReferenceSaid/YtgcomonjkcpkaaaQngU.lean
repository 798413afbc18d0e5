/- The evaluation of a region, one operation at a time. -/
import Derived.Test.YtgcomonjkcpkaaaQngS
namespace Go.Eng
open Go.RowKit

/-- A guard, by the slot that it reads. -/
def gOf (ops : Array Oper) : Option (Nat × Bool) → Option (Option (Nat × Bool))
  | none => some none
  | some (j, want) => match (ops[j]?).bind (·.dst) with
    | some d => some (some (d, want))
    | none => none
def guardS (st : St) : Option (Nat × Bool) → Option (Option Bool)
  | none => some none
  | some (d, want) => match (lk st.env d).strip with
    | .v (.bool y) => some (some ((lk st.env d).cnd && (bif want then y else !y)))
    | _ => none
theorem guardS_eq {st : St} {ops : Array Oper} {g : Option (Nat × Bool)} {g' : Option (Nat × Bool)} (h : gOf ops g = some g') : guardB st ops g = guardS st g' := by
  cases g with
  | none => simp [gOf] at h; subst h; rfl
  | some p =>
    obtain ⟨j, want⟩ := p
    simp only [gOf] at h
    simp only [guardB]
    cases hd : (ops[j]?).bind (·.dst) with
    | none => rw [hd] at h; cases h
    | some d => rw [hd] at h; injection h with h; subst h; rfl

/-- One operation, without what the evaluation does not look at. -/
def StepN (P : Program) (T : Tab) (n : Nat) (dst : Option Nat) (op : Op) (g : Option (Nat × Bool)) (K : St → Prop) (st : St) : Prop :=
  dstOk n dst ∧
  match guardS st g with
  | none => False
  | some none =>
    match pv T st.heap st.ev op with
    | some (φ, r) => φ ∧ K (st.put dst r)
    | none =>
      match qb T st.ev op with
      | some (φ, r) => φ ∧ K (st.put dst r)
      | none =>
        match callee? st.ev op with
        | some (ψ, k, args) => (ψ ∧ condL args) ∧ ∃ r, (Pure P k (pubL st.heap args) r ∧ okR args r) ∧ K (st.put dst r)
        | none => al T st ⟨dst, op, 0, "", #[], none⟩ K
  | some (some b) =>
    match pv T st.heap st.ev op with
    | some (φ, r) => (b = true → φ) ∧ K (st.put dst (.g b r))
    | none =>
      match qb T st.ev op with
      | some (φ, r) => (b = true → φ) ∧ K (st.put dst (.g b r))
      | none =>
        match callee? st.ev op with
        | some (ψ, k, args) => ∃ r, (b = true → (ψ ∧ condL args) ∧ Pure P k (pubL st.heap args) r ∧ okR args r) ∧ K (st.put dst (.g b r))
        | none => False
theorem stepN_ok {P : Program} {T : Tab} {n : Nat} {ops : Array Oper} {o : Oper} {g : Option (Nat × Bool)} (hg : gOf ops o.guard = some g) {K : St → Prop} {st : St} (h : StepN P T n o.dst o.op g K st) : AStep P T n ops o K st := by
  unfold AStep
  rw [guardS_eq hg]
  exact h

theorem aops_nil {P : Program} {T : Tab} {n : Nat} {ops : Array Oper} {K : St → Prop} {st : St} (h : K st) : AOps P T n ops K [] st := h
theorem aops_cons {P : Program} {T : Tab} {n : Nat} {ops : Array Oper} {K : St → Prop} {o : Oper} {rest : List Oper} {st : St} {g : Option (Nat × Bool)} (hg : gOf ops o.guard = some g) (h : ∀ K' : St → Prop, (∀ s, AOps P T n ops K rest s → K' s) → StepN P T n o.dst o.op g K' st) : AOps P T n ops K (o :: rest) st :=
  stepN_ok hg (h _ fun _ h => h)
attribute [push_cast] StepN guardS beq_self_eq_true bne_self_eq_false List.replicate_zero
end Go.Eng
