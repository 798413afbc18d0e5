/- What comes in: arguments that read as data, as abstract values. -/
import Derived.Test.YtgcomonjkcpkaaaQngR
import Derived.Test.YtgcomonjkcpkaaaQngX
import Derived.WalkKit
import Derived.ProofKit
import Derived.OpenShut
import Derived.ShutString
import Derived.ChangeOld
import Derived.Carry
namespace Go.Eng
open Go.RowKit

/-- Whatever reads as data of type t is one of these rows of cells. -/
def Reads (P : Program) (t : TypeId) {α : Type} (av : α → List AV) (ok : α → Prop) : Prop :=
  ∀ (H : Type) (enc : TypeId × Value → H) (W : World) (sp : Nat → Bool) (fuel : Nat) (cs : List Value) (x : DataW H × List MemPlace), DataW.trod enc P W 0 sp true fuel t cs = some x →
    ∃ a, ok a ∧ ConcL W.heap.size (allB W) W noId (av a) cs

theorem reads_int {P : Program} {t : TypeId} {k : IntKind} (ht : P.underlying t = some (.int k)) : Reads P t (fun n : Int => [.v (.int k n)]) (fun n => (Lit.int k n).wf = true) := by
  intro H enc W sp fuel cs x h
  obtain ⟨n, rfl, _, hw⟩ := DataW.trod_int ht h
  exact ⟨n, hw, ConcL.cons (.v _) ConcL.nil⟩
theorem reads_bool {P : Program} {t : TypeId} (ht : P.underlying t = some .bool) : Reads P t (fun b : Bool => [.v (.bool b)]) (fun _ => True) := by
  intro H enc W sp fuel cs x h
  obtain ⟨n, rfl, _⟩ := DataW.trod_bool ht h
  exact ⟨n, trivial, ConcL.cons (.v _) ConcL.nil⟩
theorem reads_str {P : Program} {t : TypeId} (ht : P.underlying t = some .string) : Reads P t (fun s : ByteArray => [.v (.string s)]) (fun s => s.size ≤ maxLen) := by
  intro H enc W sp fuel cs x h
  obtain ⟨n, rfl, _, hl⟩ := DataW.trod_string ht h
  exact ⟨n, hl, ConcL.cons (.v _) ConcL.nil⟩
theorem Reads.map {P : Program} {t : TypeId} {α β : Type} {av : α → List AV} {ok : α → Prop} (h : Reads P t av ok) (f : α → β) {av' : β → List AV} {ok' : β → Prop} (hav : ∀ a, av' (f a) = av a) (hok : ∀ a, ok a → ok' (f a)) : Reads P t av' ok' := by
  intro H enc W sp fuel cs x hx
  obtain ⟨a, h1, h2⟩ := h H enc W sp fuel cs x hx
  exact ⟨f a, hok a h1, by rw [hav]; exact h2⟩

/-- The fields of a struct, from cell 'pos' on. -/
def ReadsF (P : Program) (fs : List (TypeId × Nat)) (pos tot : Nat) {α : Type} (av : α → List AV) (ok : α → Prop) : Prop :=
  ∀ (H : Type) (enc : TypeId × Value → H) (W : World) (sp : Nat → Bool) (n : Nat) (cs : List Value), cs.length = tot →
    (∀ p ∈ fs, ∃ y, DataW.trod enc P W 0 sp true n p.1 ((cs.drop p.2).take (P.cellsOf p.1)) = some y) → ∃ a, ok a ∧ ConcL W.heap.size (allB W) W noId (av a) (cs.drop pos)

theorem ConcL.append {B : Nat} {I : Nat → Prop} {w : World} {ρ : Nat → Option Value} : ∀ {xs ys : List AV} {us vs : List Value}, ConcL B I w ρ xs us → ConcL B I w ρ ys vs → ConcL B I w ρ (xs ++ ys) (us ++ vs)
  | [], ys, [], vs, _, h2 => h2
  | [], ys, u :: us, vs, h1, _ => by have := h1.1; simp at this
  | x :: xs, ys, [], vs, h1, _ => by have := h1.1; simp at this
  | x :: xs, ys, u :: us, vs, h1, h2 => by
    refine ConcL.cons (by have := h1.2 0 (by simp); simpa using this) (ConcL.append ⟨by have := h1.1; simpa using this, fun j hj => ?_⟩ h2)
    have := h1.2 (j + 1) (by simpa using hj)
    simpa using this

theorem readsF_nil {P : Program} {pos : Nat} : ReadsF P [] pos pos (fun _ : Unit => []) (fun _ => True) := by
  intro H enc W sp n cs hl _
  refine ⟨(), trivial, ?_⟩
  rw [List.drop_of_length_le (by omega)]
  exact ConcL.nil
theorem readsF_cons {P : Program} {t : TypeId} {k pos tot : Nat} {fs : List (TypeId × Nat)} {α β : Type} {av : α → List AV} {ok : α → Prop} {av' : β → List AV} {ok' : β → Prop} (hk : P.cellsOf t = k) (h1 : Reads P t av ok) (h2 : ReadsF P fs (pos + k) tot av' ok') :
    ReadsF P ((t, pos) :: fs) pos tot (fun p : α × β => av p.1 ++ av' p.2) (fun p => ok p.1 ∧ ok' p.2) := by
  intro H enc W sp n cs hl hf
  obtain ⟨y, hy⟩ := hf (t, pos) (by simp)
  obtain ⟨a, ha, ca⟩ := h1 H enc W sp n _ y hy
  obtain ⟨b, hb, cb⟩ := h2 H enc W sp n cs hl (fun p hp => hf p (by simp [hp]))
  refine ⟨(a, b), ⟨ha, hb⟩, ?_⟩
  have := ConcL.append ca cb
  simp only at this
  rw [hk, ← List.drop_drop, List.take_append_drop] at this
  exact this
theorem reads_struct {P : Program} {t : TypeId} {fs : Array Field} {tot : Nat} {l : List (TypeId × Nat)} {α : Type} {av : α → List AV} {ok : α → Prop} (ht : P.underlying t = some (.struct fs)) (hl : fs.toList.map (fun f => (f.type, f.offset)) = l) (hc : P.cellsOf t = tot) (h : ReadsF P l 0 tot av ok) : Reads P t av ok := by
  intro H enc W sp fuel cs x hx
  obtain ⟨xs, n, _, _, h1, h2, h3⟩ := DataW.trod_struct ht hx
  have := h H enc W sp n cs (by omega) (fun p hp => by
    rw [← hl] at hp
    obtain ⟨f, hf, rfl⟩ := List.mem_map.1 hp
    obtain ⟨i, hi⟩ := List.getElem?_of_mem hf
    have h4 := h3 i f (by simpa using hi)
    have hil : i < xs.length := by
      have := (List.getElem?_eq_some_iff.1 hi).1
      simp at this; omega
    rw [List.getElem?_eq_getElem hil] at h4
    exact ⟨_, h4⟩)
  simpa using this

/-- A slice that came in, by its elements' cells. -/
def avSl {α : Type} [Inhabited α] (av : α → List AV) (sz : Nat) (as : List α) : AV := .i false (fun e j => (av (as.getD e default)).getD j .top) sz 0 as.length

theorem reads_slice {P : Program} {t e : TypeId} {sz : Nat} {α : Type} [Inhabited α] {av : α → List AV} {ok : α → Prop} (ht : P.underlying t = some (.slice e)) (hc : P.cellsOf e = sz) (hpos : 0 < sz) (h : Reads P e av ok) :
    Reads P t (fun as : List α => [avSl av sz as]) (fun as => (∀ a ∈ as, ok a) ∧ as.length ≤ maxLen) := by
  intro H enc W sp fuel cs x hx
  rcases DataW.trod_slice ht hx with ⟨rfl, _⟩ | ⟨a, len, cap, elems, rest, n, _, rfl, _, hb, hl, hm, hlen, hel, _, _⟩
  · refine ⟨[], ⟨by simp, by simp⟩, ConcL.cons ?_ ConcL.nil⟩
    exact .i _ _ _ _ _ _ _ (fun _ _ => undef) (by simp) (fun hp => by simp at hp) (fun e f he => by simp at he)
  · rw [hc] at hel
    have each : ∀ i, i < len → ∃ cs' y, W.cells? 0 (a.add (i * sz)) sz = some cs' ∧ DataW.trod enc P W 0 sp true n e cs' = some y := fun i hi => by
      have := hel i hi
      rw [List.getElem?_eq_getElem (by omega), Option.bind_eq_some_iff] at this
      obtain ⟨cs', h1, h2⟩ := this
      exact ⟨cs', _, h1, h2⟩
    have each2 : ∀ i, ∃ (cs' : List Value) (z : α), i < len → W.cells? 0 (a.add (i * sz)) sz = some cs' ∧ ok z ∧ ConcL W.heap.size (allB W) W noId (av z) cs' := fun i => by
      by_cases hi : i < len
      · obtain ⟨cs', y, h1, h2⟩ := each i hi
        obtain ⟨z, h3, h4⟩ := h H enc W sp n cs' y h2
        exact ⟨cs', z, fun _ => ⟨h1, h3, h4⟩⟩
      · exact ⟨[], default, fun hh => absurd hh hi⟩
    refine ⟨(List.range len).map (fun i => Classical.choose (Classical.choose_spec (each2 i))), ⟨fun z hz => ?_, by simp; omega⟩, ConcL.cons ?_ ConcL.nil⟩
    · obtain ⟨i, hi, rfl⟩ := List.mem_map.1 hz
      exact (Classical.choose_spec (Classical.choose_spec (each2 i)) (by simpa using hi)).2.1
    · have hget : ∀ i, i < len → ((List.range len).map (fun i => Classical.choose (Classical.choose_spec (each2 i)))).getD i default = Classical.choose (Classical.choose_spec (each2 i)) := fun i hi => by
        simp [List.getD_eq_getElem?_getD, hi]
      unfold avSl
      simp only [List.length_map, List.length_range]
      have cell : ∀ i j, i < len → j < sz → W.cell? (a.add (i * sz + j)) = some ((Classical.choose (each2 i)).getD j undef) := fun i j hi hj => by
        obtain ⟨h1, _, _⟩ := Classical.choose_spec (Classical.choose_spec (each2 i)) hi
        obtain ⟨_, h2, h3⟩ := World.cells?_some h1
        have := h3 j hj
        rw [add_add] at this
        rw [this, List.getElem?_eq_getElem (by omega)]
        simp [List.getD_eq_getElem?_getD, show j < (Classical.choose (each2 i)).length by omega]
      refine .i _ _ _ _ _ _ _ (fun i j => (Classical.choose (each2 i)).getD j undef) hl (fun hp => ⟨a, rfl, ?_, (fun h => by cases h), cell⟩) (fun i j hi hj => ?_)
      · have := cell 0 0 hp hpos
        unfold World.cell? at this
        show a.block < W.heap.size
        rcases Nat.lt_or_ge a.block W.heap.size with h | h
        · exact h
        · exfalso
          have hn : W.heap[(a.add (0 * sz + 0)).block]? = none := by rw [add_block]; exact Array.getElem?_eq_none h
          rw [hn] at this
          cases this
      · rw [Nat.zero_add, hget i hi]
        obtain ⟨h1, _, h4⟩ := Classical.choose_spec (Classical.choose_spec (each2 i)) hi
        have hl2 := h4.1
        obtain ⟨_, h2, _⟩ := World.cells?_some h1
        exact h4.2 j (by omega)

/-- An argument: one cell. -/
theorem Reads.one {P : Program} {t : TypeId} {α : Type} {av : α → AV} {ok : α → Prop} (h : Reads P t (fun a => [av a]) ok) {H : Type} {enc : TypeId × Value → H} {W : World} {v : Value} {d : DataW H} {ps : List MemPlace} {sp : Nat → Bool} (hd : DataW.Trod enc P W 0 sp true t v d ps) (h1 : v.cells = #[v]) :
    ∃ a, ok a ∧ Conc W.heap.size (allB W) W noId (av a) v := by
  obtain ⟨fuel, hf⟩ := hd
  obtain ⟨a, ha, hc⟩ := h H enc W sp fuel _ _ hf
  rw [h1] at hc
  exact ⟨a, ha, by have := hc.2 0 (by simp); simpa using this⟩
/-- An argument: a struct. -/
theorem Reads.agg {P : Program} {t : TypeId} {α : Type} {av : α → List AV} {ok : α → Prop} (h : Reads P t av ok) {H : Type} {enc : TypeId × Value → H} {W : World} {us : Array Value} {d : DataW H} {ps : List MemPlace} {sp : Nat → Bool} (hd : DataW.Trod enc P W 0 sp true t (.agg us) d ps) :
    ∃ a, ok a ∧ Conc W.heap.size (allB W) W noId (.a (av a)) (.agg us) := by
  obtain ⟨fuel, hf⟩ := hd
  obtain ⟨a, ha, hc⟩ := h H enc W sp fuel _ _ hf
  simp only [Value.cells] at hc
  refine ⟨a, ha, .a _ _ ?_ fun j hj => ?_⟩
  · rw [← hc.1]; simp
  · have := hc.2 j hj
    simpa [List.getD_eq_getElem?_getD, Array.getD_eq_getD_getElem?] using this
theorem okWide_struct {P : Program} {t : TypeId} {fs : Array Field} {W : World} {b0 : Nat} {r : Reach} {v : Value} (ht : P.underlying t = some (.struct fs)) (h : Value.okWide P W r b0 t v) : ∃ us, v = .agg us := by
  simp only [Value.okWide, ht] at h
  obtain ⟨cs, h1, _⟩ := h
  exact ⟨cs, h1⟩
/-- What a test says, in plain words. -/
theorem bh : (∀ a b : Bool, ((a && b) = true) = (a = true ∧ b = true)) ∧ (∀ a b : Bool, ((a || b) = true) = (a = true ∨ b = true)) ∧ (∀ a b : Bool, ((a && b) = false) = (a = false ∨ b = false)) ∧ (∀ a b : Bool, ((a || b) = false) = (a = false ∧ b = false)) ∧
    (∀ a : Bool, ((!a) = true) = (a = false)) ∧ (∀ a : Bool, ((!a) = false) = (a = true)) ∧ (∀ a b : Int, (¬ a < b) = (b ≤ a)) ∧ (∀ a b : Int, (¬ a ≤ b) = (b < a)) ∧ (∀ a b : Int, ((a == b) = true) = (a = b)) ∧ (∀ a b : Int, ((a == b) = false) = (¬ a = b)) ∧ (∀ a b : Int, ((a != b) = true) = (¬ a = b)) ∧ (∀ a b : Int, ((a != b) = false) = (a = b)) :=
  ⟨by decide, by decide, by decide, by decide, by decide, by decide, fun a b => by rw [Int.not_lt], fun a b => by rw [Int.not_le], fun a b => by simp, fun a b => by simp, fun a b => by simp, fun a b => by simp⟩
attribute [push_cast] avSl Ex.then Ex.inBlock Ex.noGoto EndsA fin resOf retOf
end Go.Eng
