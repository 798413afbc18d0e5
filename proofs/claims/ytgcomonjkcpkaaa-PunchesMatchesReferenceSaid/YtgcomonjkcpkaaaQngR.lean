/- From a function's contract to its call with arguments that came in. -/
import Derived.Test.YtgcomonjkcpkaaaQngQ
import Derived.OpenShut
import Derived.ChangeOld
namespace Go.Eng
open Go.RowKit

/-- A slice of integers that came in: nil, or a row of which the first 'len' are its elements. -/
def InRow (k : IntKind) (w : World) (a : Option Addr) (len cap : Nat) (zs : List Int) : Prop :=
  (a = none ∧ len = 0 ∧ cap = 0 ∧ zs = []) ∨
  ∃ x, a = some x ∧ len ≤ cap ∧ cap ≤ maxLen ∧ zs.length = cap ∧ (∀ i, i < zs.length → w.cell? (x.add i) = some (.int k (zs.getD i 0))) ∧ ∀ n ∈ zs, (Lit.int k n).wf = true

theorem InRow.conc {k : IntKind} {w : World} {a : Option Addr} {len cap : Nat} {zs : List Int} (h : InRow k w a len cap zs) {B : Nat} {ρ : Nat → Option Value} :
    Conc B (allB w) w ρ (.i false (fun e _ => .v (.int k ((zs.take len).getD e 0))) 1 0 (zs.take len).length) (.slice a len cap) := by
  rcases h with ⟨rfl, rfl, rfl, rfl⟩ | ⟨x, rfl, h1, h2, h3, h4, _⟩
  · exact .i _ _ _ _ _ _ _ (fun _ _ => undef) (Nat.le_refl _) (fun hp => by simp at hp) (fun e f he => by simp at he)
  · have hl : (zs.take len).length = len := by simp; omega
    rw [hl]
    have hg : ∀ e, e < len → (zs.take len).getD e 0 = zs.getD e 0 := fun e he => by
      simp [List.getD_eq_getElem?_getD, he]
    refine .i _ _ _ _ _ _ _ (fun e _ => .int k (zs.getD e 0)) h1 (fun hp => ⟨x, rfl, ?_, (fun hh => by cases hh), fun e f he hf => ?_⟩) (fun e f he hf => ?_)
    · have := World.block_lt_of_cell? w _ (h4 0 (by omega))
      simpa [Addr.add, allB] using this
    · obtain rfl : f = 0 := by omega
      simpa using h4 e (by omega)
    · rw [Nat.zero_add, hg e he]; exact .v _

theorem wf64 {n : Int} (h : (Lit.int .i64 n).wf = true) : -9223372036854775808 ≤ n ∧ n ≤ 9223372036854775807 := by
  simp only [Lit.wf, Bool.and_eq_true, decide_eq_true_eq] at h
  have h1 : IntKind.i64.min = -9223372036854775808 := by decide
  have h2 : IntKind.i64.max = 9223372036854775807 := by decide
  omega

theorem InRow.mem {k : IntKind} {w : World} {a : Option Addr} {len cap : Nat} {zs : List Int} (h : InRow k w a len cap zs) : ∀ n ∈ zs.take len, (Lit.int k n).wf = true := by
  intro n hn
  have hn' := List.mem_of_mem_take hn
  rcases h with ⟨_, _, _, rfl⟩ | ⟨x, _, _, _, _, _, h⟩
  · cases hn'
  · exact h n hn'

theorem ConcL.cons {B : Nat} {I : Nat → Prop} {w : World} {ρ : Nat → Option Value} {x : AV} {u : Value} {cs : List AV} {us : List Value} (h : Conc B I w ρ x u) (hl : ConcL B I w ρ cs us) : ConcL B I w ρ (x :: cs) (u :: us) := by
  refine ⟨by simp [hl.1], fun j hj => ?_⟩
  cases j with
  | zero => simpa using h
  | succ j => simpa using hl.2 j (by simpa using hj)

theorem ConcL.nil {B : Nat} {I : Nat → Prop} {w : World} {ρ : Nat → Option Value} : ConcL B I w ρ [] [] := ⟨rfl, fun j hj => by simp at hj⟩

/-- What a frame asks of a law: it returns true and writes nothing that was there. -/
theorem Pure.walk {P : Program} {f : FuncId} {args : List AV} {b : Value} (h : Pure P f args (.v b)) {vs : Array Value} {w : World} (hc : ConcL w.heap.size (allB w) w noId args vs.toList) :
    Calls P f vs w fun e w' => e = .returned b ∧ Below w.heap.size w w' :=
  (h.2 w (allB w) vs (fun _ h => h) hc).mono fun e w' ⟨v, he, hb, hv⟩ => ⟨by rw [he, hv.v_inv], hb⟩
end Go.Eng
