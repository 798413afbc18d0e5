/- Part of a proof about the given program: contracts of its functions (see the comment of the last text). -/
import Derived.Test.YthgjjhddbigfcaaEng3
import Derived.Test.YthgjjhddbigfcaaEng4
import Derived.WalkKit
import Derived.ProofKit
import Derived.OpenShut
import Derived.ShutString
import Derived.ChangeOld
import Derived.Carry
import Derived.Laws.CopyRow
import Derived.RangeFuncOwn
set_option linter.unusedSimpArgs false
set_option linter.unusedVariables false
namespace Go.Eng
open Go.RowKit

def Reads (P : Program) (t : TypeId) {α : Type} (av : α → List AV) (ok : α → Prop) : Prop :=
  ∀ (H : Type) (enc : TypeId × Value → H) (W : World) (sp : Nat → Bool) (fuel : Nat) (cs : List Value) (x : DataW H × List MemPlace), DataW.trod enc P W 0 sp true fuel t cs = some x →
    ∃ a, ok a ∧ ConcL W.heap.size (allB W) W noId (av a) cs

theorem ZC6 {P : Program} {t : TypeId} {k : IntKind} (ht : P.underlying t = some (.int k)) : Reads P t (fun n : Int => [.v (.int k n)]) (fun n => (Lit.int k n).wf = true) := by
  intro H enc W sp fuel cs x h
  obtain ⟨n, rfl, _, hw⟩ := DataW.trod_int ht h
  exact ⟨n, hw, ConcL.cons (.v _) ConcL.nil⟩
theorem ZEa {P : Program} {t : TypeId} (ht : P.underlying t = some .bool) : Reads P t (fun b : Bool => [.v (.bool b)]) (fun _ => True) := by
  intro H enc W sp fuel cs x h
  obtain ⟨n, rfl, _⟩ := DataW.trod_bool ht h
  exact ⟨n, trivial, ConcL.cons (.v _) ConcL.nil⟩
theorem Reads.map {P : Program} {t : TypeId} {α β : Type} {av : α → List AV} {ok : α → Prop} (h : Reads P t av ok) (f : α → β) {av' : β → List AV} {ok' : β → Prop} (hav : ∀ a, av' (f a) = av a) (hok : ∀ a, ok a → ok' (f a)) : Reads P t av' ok' := by
  intro H enc W sp fuel cs x hx
  obtain ⟨a, h1, h2⟩ := h H enc W sp fuel cs x hx
  exact ⟨f a, hok a h1, by rw [hav]; exact h2⟩

def ReadsF (P : Program) (fs : List (TypeId × Nat)) (pos tot : Nat) {α : Type} (av : α → List AV) (ok : α → Prop) : Prop :=
  ∀ (H : Type) (enc : TypeId × Value → H) (W : World) (sp : Nat → Bool) (n : Nat) (cs : List Value), cs.length = tot →
    (∀ p ∈ fs, ∃ y, DataW.trod enc P W 0 sp true n p.1 ((cs.drop p.2).take (P.cellsOf p.1)) = some y) → ∃ a, ok a ∧ ConcL W.heap.size (allB W) W noId (av a) (cs.drop pos)

theorem ConcL.append {B : Nat} {I : Nat → Prop} {w : World} {ρ : Nat → Option Value} : ∀ {xs ys : List AV} {us vs : List Value}, ConcL B I w ρ xs us → ConcL B I w ρ ys vs → ConcL B I w ρ (xs ++ ys) (us ++ vs)
  | [], ys, [], vs, _, h2 => h2
  | [], ys, u :: us, vs, h1, _ => by have := h1.1; simp at this
  | x :: xs, ys, [], vs, h1, _ => by have := h1.1; simp at this
  | x :: xs, ys, u :: us, vs, h1, h2 => by
    refine ConcL.cons (by have := h1.2 0 (by simp); simpa using this) (ConcL.append ⟨by have := h1.1; simpa using this, fun j hj => ?_⟩ h2)
    have := h1.2 (j + 1) (by simpa using hj)
    simpa using this

theorem ZDN {P : Program} {pos : Nat} : ReadsF P [] pos pos (fun _ : Unit => []) (fun _ => True) := by
  intro H enc W sp n cs hl _
  refine ⟨(), trivial, ?_⟩
  rw [List.drop_of_length_le (by omega)]
  exact ConcL.nil
theorem ZBH {P : Program} {t : TypeId} {k pos tot : Nat} {fs : List (TypeId × Nat)} {α β : Type} {av : α → List AV} {ok : α → Prop} {av' : β → List AV} {ok' : β → Prop} (hk : P.cellsOf t = k) (h1 : Reads P t av ok) (h2 : ReadsF P fs (pos + k) tot av' ok') :
    ReadsF P ((t, pos) :: fs) pos tot (fun p : α × β => av p.1 ++ av' p.2) (fun p => ok p.1 ∧ ok' p.2) := by
  intro H enc W sp n cs hl hf
  obtain ⟨y, hy⟩ := hf (t, pos) (by simp)
  obtain ⟨a, ha, ca⟩ := h1 H enc W sp n _ y hy
  obtain ⟨b, hb, cb⟩ := h2 H enc W sp n cs hl (fun p hp => hf p (by simp [hp]))
  refine ⟨(a, b), ⟨ha, hb⟩, ?_⟩
  have := ConcL.append ca cb
  simp only at this
  rw [hk, ← List.drop_drop, List.take_append_drop] at this
  exact this
theorem ZCP {P : Program} {t : TypeId} {fs : Array Field} {tot : Nat} {l : List (TypeId × Nat)} {α : Type} {av : α → List AV} {ok : α → Prop} (ht : P.underlying t = some (.struct fs)) (hl : fs.toList.map (fun f => (f.type, f.offset)) = l) (hc : P.cellsOf t = tot) (h : ReadsF P l 0 tot av ok) : Reads P t av ok := by
  intro H enc W sp fuel cs x hx
  obtain ⟨xs, n, _, _, h1, h2, h3⟩ := DataW.trod_struct ht hx
  have := h H enc W sp n cs (by omega) (fun p hp => by
    rw [← hl] at hp
    obtain ⟨f, hf, rfl⟩ := List.mem_map.1 hp
    obtain ⟨i, hi⟩ := List.getElem?_of_mem hf
    have h4 := h3 i f (by simpa using hi)
    have hil : i < xs.length := by
      have := (List.getElem?_eq_some_iff.1 hi).1
      simp at this; omega
    rw [List.getElem?_eq_getElem hil] at h4
    exact ⟨_, h4⟩)
  simpa using this

def avSl {α : Type} [Inhabited α] (av : α → List AV) (sz : Nat) (as : List α) : AV := .i false (fun e j => (av (as.getD e default)).getD j .top) sz 0 as.length

theorem ZB9 {P : Program} {t e : TypeId} {sz : Nat} {α : Type} [Inhabited α] {av : α → List AV} {ok : α → Prop} (ht : P.underlying t = some (.slice e)) (hc : P.cellsOf e = sz) (hpos : 0 < sz) (h : Reads P e av ok) :
    Reads P t (fun as : List α => [avSl av sz as]) (fun as => (∀ a ∈ as, ok a) ∧ as.length ≤ maxLen) := by
  intro H enc W sp fuel cs x hx
  rcases DataW.trod_slice ht hx with ⟨rfl, _⟩ | ⟨a, len, cap, elems, rest, n, _, rfl, _, hb, hl, hm, hlen, hel, _, _⟩
  · refine ⟨[], ⟨by simp, by simp⟩, ConcL.cons ?_ ConcL.nil⟩
    exact .i _ _ _ _ _ _ _ (fun _ _ => undef) (by simp) (fun hp => by simp at hp) (fun e f he => by simp at he)
  · rw [hc] at hel
    have each : ∀ i, i < len → ∃ cs' y, W.cells? 0 (a.add (i * sz)) sz = some cs' ∧ DataW.trod enc P W 0 sp true n e cs' = some y := fun i hi => by
      have := hel i hi
      rw [List.getElem?_eq_getElem (by omega), Option.bind_eq_some_iff] at this
      obtain ⟨cs', h1, h2⟩ := this
      exact ⟨cs', _, h1, h2⟩
    have each2 : ∀ i, ∃ (cs' : List Value) (z : α), i < len → W.cells? 0 (a.add (i * sz)) sz = some cs' ∧ ok z ∧ ConcL W.heap.size (allB W) W noId (av z) cs' := fun i => by
      by_cases hi : i < len
      · obtain ⟨cs', y, h1, h2⟩ := each i hi
        obtain ⟨z, h3, h4⟩ := h H enc W sp n cs' y h2
        exact ⟨cs', z, fun _ => ⟨h1, h3, h4⟩⟩
      · exact ⟨[], default, fun hh => absurd hh hi⟩
    refine ⟨(List.range len).map (fun i => Classical.choose (Classical.choose_spec (each2 i))), ⟨fun z hz => ?_, by simp; omega⟩, ConcL.cons ?_ ConcL.nil⟩
    · obtain ⟨i, hi, rfl⟩ := List.mem_map.1 hz
      exact (Classical.choose_spec (Classical.choose_spec (each2 i)) (by simpa using hi)).2.1
    · have hget : ∀ i, i < len → ((List.range len).map (fun i => Classical.choose (Classical.choose_spec (each2 i)))).getD i default = Classical.choose (Classical.choose_spec (each2 i)) := fun i hi => by
        simp [List.getD_eq_getElem?_getD, hi]
      unfold avSl
      simp only [List.length_map, List.length_range]
      have cell : ∀ i j, i < len → j < sz → W.cell? (a.add (i * sz + j)) = some ((Classical.choose (each2 i)).getD j undef) := fun i j hi hj => by
        obtain ⟨h1, _, _⟩ := Classical.choose_spec (Classical.choose_spec (each2 i)) hi
        obtain ⟨_, h2, h3⟩ := World.cells?_some h1
        have := h3 j hj
        rw [add_add] at this
        rw [this, List.getElem?_eq_getElem (by omega)]
        simp [List.getD_eq_getElem?_getD, show j < (Classical.choose (each2 i)).length by omega]
      refine .i _ _ _ _ _ _ _ (fun i j => (Classical.choose (each2 i)).getD j undef) hl (fun hp => ⟨a, rfl, ?_, (fun h => by cases h), cell⟩) (fun i j hi hj => ?_)
      · have := cell 0 0 hp hpos
        unfold World.cell? at this
        show a.block < W.heap.size
        rcases Nat.lt_or_ge a.block W.heap.size with h | h
        · exact h
        · exfalso
          have hn : W.heap[(a.add (0 * sz + 0)).block]? = none := by rw [add_block]; exact Array.getElem?_eq_none h
          rw [hn] at this
          cases this
      · rw [Nat.zero_add, hget i hi]
        obtain ⟨h1, _, h4⟩ := Classical.choose_spec (Classical.choose_spec (each2 i)) hi
        have hl2 := h4.1
        obtain ⟨_, h2, _⟩ := World.cells?_some h1
        exact h4.2 j (by omega)

theorem Reads.one {P : Program} {t : TypeId} {α : Type} {av : α → AV} {ok : α → Prop} (h : Reads P t (fun a => [av a]) ok) {H : Type} {enc : TypeId × Value → H} {W : World} {v : Value} {d : DataW H} {ps : List MemPlace} {sp : Nat → Bool} (hd : DataW.Trod enc P W 0 sp true t v d ps) (h1 : v.cells = #[v]) :
    ∃ a, ok a ∧ Conc W.heap.size (allB W) W noId (av a) v := by
  obtain ⟨fuel, hf⟩ := hd
  obtain ⟨a, ha, hc⟩ := h H enc W sp fuel _ _ hf
  rw [h1] at hc
  exact ⟨a, ha, by have := hc.2 0 (by simp); simpa using this⟩
theorem Reads.agg {P : Program} {t : TypeId} {α : Type} {av : α → List AV} {ok : α → Prop} (h : Reads P t av ok) {H : Type} {enc : TypeId × Value → H} {W : World} {us : Array Value} {d : DataW H} {ps : List MemPlace} {sp : Nat → Bool} (hd : DataW.Trod enc P W 0 sp true t (.agg us) d ps) :
    ∃ a, ok a ∧ Conc W.heap.size (allB W) W noId (.a (av a)) (.agg us) := by
  obtain ⟨fuel, hf⟩ := hd
  obtain ⟨a, ha, hc⟩ := h H enc W sp fuel _ _ hf
  simp only [Value.cells] at hc
  refine ⟨a, ha, .a _ _ ?_ fun j hj => ?_⟩
  · rw [← hc.1]; simp
  · have := hc.2 j hj
    simpa [List.getD_eq_getElem?_getD, Array.getD_eq_getD_getElem?] using this
theorem okWide_struct {P : Program} {t : TypeId} {fs : Array Field} {W : World} {b0 : Nat} {r : Reach} {v : Value} (ht : P.underlying t = some (.struct fs)) (h : Value.okWide P W r b0 t v) : ∃ us, v = .agg us := by
  simp only [Value.okWide, ht] at h
  obtain ⟨cs, h1, _⟩ := h
  exact ⟨cs, h1⟩
theorem bh : (∀ a b : Bool, ((a && b) = true) = (a = true ∧ b = true)) ∧ (∀ a b : Bool, ((a || b) = true) = (a = true ∨ b = true)) ∧ (∀ a b : Bool, ((a && b) = false) = (a = false ∨ b = false)) ∧ (∀ a b : Bool, ((a || b) = false) = (a = false ∧ b = false)) ∧
    (∀ a : Bool, ((!a) = true) = (a = false)) ∧ (∀ a : Bool, ((!a) = false) = (a = true)) ∧ (∀ a b : Int, (¬ a < b) = (b ≤ a)) ∧ (∀ a b : Int, (¬ a ≤ b) = (b < a)) ∧ (∀ a b : Int, ((a == b) = true) = (a = b)) ∧ (∀ a b : Int, ((a == b) = false) = (¬ a = b)) ∧ (∀ a b : Int, ((a != b) = true) = (¬ a = b)) ∧ (∀ a b : Int, ((a != b) = false) = (a = b)) :=
  ⟨by decide, by decide, by decide, by decide, by decide, by decide, fun a b => by rw [Int.not_lt], fun a b => by rw [Int.not_le], fun a b => by simp, fun a b => by simp, fun a b => by simp, fun a b => by simp⟩
attribute [push_cast] avSl Ex.then Ex.inBlock Ex.noGoto EndsA fin resOf retOf
end Go.Eng
namespace Go.Eng
open Go.RowKit

mutual
def AV.ge (N : Nat) : AV → Prop
  | .v _ => True
  | .s id => N ≤ id
  | .w id _ _ => N ≤ id
  | .p id _ => N ≤ id
  | .i _ _ _ _ _ => True
  | .q _ _ _ _ _ => True
  | .a cs => AV.geL N cs
  | .t cs => AV.geL N cs
  | .f _ cs => AV.geL N cs
  | .g _ x => AV.ge N x
  | .top => True
def AV.geL (N : Nat) : List AV → Prop
  | [] => True
  | x :: r => AV.ge N x ∧ AV.geL N r
end
theorem ZC7 {N : Nat} : ∀ {cs : List AV} (_ : AV.geL N cs) (j : Nat), (cs.getD j .top).ge N
  | [], _, _ => by simp [AV.ge]
  | x :: r, h, 0 => by simp only [AV.geL] at h; simpa using h.1
  | x :: r, h, j + 1 => by simp only [AV.geL] at h; simpa using ZC7 h.2 j
theorem Conc.ge {N B : Nat} {I : Nat → Prop} {w : World} {ρ : Nat → Option Value} {x : AV} {u : Value} (h : Conc B I w ρ x u) : x.ge N → ∀ ρ', (∀ id, N ≤ id → ρ' id = ρ id) → Conc B I w ρ' x u := by
  induction h with
  | v x => intro _ ρ' _; exact .v x
  | s id x h h1 => intro hg ρ' hr; exact .s id x (by rw [hr id hg]; exact h) h1
  | w id off len cap A x h hcap hA => intro hg ρ' hr; exact .w id off len cap A x (by rw [hr id hg]; exact h) hcap hA
  | p id off b x h hb => intro hg ρ' hr; exact .p id off b x (by rw [hr id hg]; exact h) hb
  | i fr c sz off len cap A u hcap hA hc ih => intro _ ρ' _; exact .i fr c sz off len cap A u hcap hA hc
  | q fr c sz e f ad u h2 h3 hcell hc ih => intro _ ρ' _; exact .q fr c sz e f ad u h2 h3 hcell hc
  | a cs us hl h ih => intro hg ρ' hr; exact .a cs us hl fun j hj => ih j hj (ZC7 (by simpa only [AV.ge] using hg) j) ρ' hr
  | t cs us hl h ih => intro hg ρ' hr; exact .t cs us hl fun j hj => ih j hj (ZC7 (by simpa only [AV.ge] using hg) j) ρ' hr
  | f fn cs us hl h ih => intro hg ρ' hr; exact .f fn cs us hl fun j hj => ih j hj (ZC7 (by simpa only [AV.ge] using hg) j) ρ' hr
  | g b x u h h0 ih => intro hg ρ' hr; exact .g b x u (fun hb => ih hb (by simpa only [AV.ge] using hg) ρ' hr) h0
  | top u => intro _ ρ' _; exact .top u

def Cont.ge (N : Nat) : Cont → Prop
  | .avs l => AV.geL N l
  | _ => True
theorem Cont.ge_at {N : Nat} {c : Cont} (h : c.ge N) (j : Nat) : (c.at j).ge N := by
  cases c with
  | ints k l => trivial
  | vals l => trivial
  | avs l => exact ZC7 h j
def Blk.ge (N : Nat) : Blk → Prop
  | .box _ c => c.ge N
  | .row _ _ _ => True
  | .mp _ => True
  | .mpa _ _ c => c.ge N
  | .nst _ c => c.ge N
def keepH (N : Nat) : List (Nat × Blk) → List (Nat × Blk)
  | [] => []
  | (k, b) :: r => if N ≤ k then (k, b) :: keepH N r else keepH N r
def geH (N : Nat) : List (Nat × Blk) → Prop
  | [] => True
  | (_, b) :: r => b.ge N ∧ geH N r
theorem ZCd {N : Nat} : ∀ {H : List (Nat × Blk)} {id : Nat} {b : Blk}, lkH (keepH N H) id = some b → N ≤ id ∧ lkH H id = some b
  | [], _, _, h => by cases h
  | (k, c) :: r, id, b, h => by
    unfold keepH at h
    by_cases hk : N ≤ k
    · rw [if_pos hk] at h
      simp only [lkH] at h ⊢
      split at h
      · rename_i e; subst e; rw [if_pos rfl]; exact ⟨hk, h⟩
      · rename_i e; rw [if_neg e]; exact ZCd h
    · rw [if_neg hk] at h
      obtain ⟨h1, h2⟩ := ZCd h
      refine ⟨h1, ?_⟩
      simp only [lkH]
      rw [if_neg (by omega)]; exact h2
theorem ZGh {N : Nat} : ∀ {H : List (Nat × Blk)} {id : Nat} {b : Blk}, geH N H → lkH H id = some b → b.ge N
  | [], _, _, _, h => by cases h
  | (k, c) :: r, id, b, hg, h => by
    simp only [lkH] at h
    split at h
    · injection h with h; subst h; exact hg.1
    · exact ZGh hg.2 h

def finE (T : Tab) (N : Nat) (res : List ResultVar) (R : AV → List (Nat × Blk) → Prop) (st : St) : Prop :=
  match resOf T st res with
  | some (φ, l) => φ ∧ (retOf l).ge N ∧ geH N (keepH N st.heap) ∧ R (retOf l) (keepH N st.heap)
  | none => False
def EndsE (T : Tab) (N : Nat) (res : List ResultVar) (R : AV → List (Nat × Blk) → Prop) : Exit → St → Prop
  | .ret, st => finE T N res R st
  | .normal, st => finE T N res R st
  | _, _ => False
def stripL : List AV → List AV
  | [] => []
  | x :: r => x.strip :: stripL r
theorem ZAr : ∀ cs, (stripL cs).length = cs.length
  | [] => rfl
  | x :: r => by simp [stripL, ZAr r]
theorem ZBe : ∀ (cs : List AV) (j : Nat), j < cs.length → (stripL cs).getD j .top = (cs.getD j .top).strip
  | [], j, h => by simp at h
  | x :: r, 0, h => by simp [stripL]
  | x :: r, j + 1, h => by simpa [stripL] using ZBe r j (by simpa using h)

def EffCall (P : Program) (T : Tab) (dst : Option Nat) (op : Op) (K : St → Prop) (st : St) : Prop :=
  match callee? st.ev op with
  | some (ψ, k, args) => (ψ ∧ condL args) ∧ ∃ (fn : Func) (c : Code) (N : Nat), P.funcs[k]? = some fn ∧ fn.body = some c ∧ (fn.name == "runtime.NumGoroutine") = false ∧ args.length ≤ fn.ntmps ∧ fn.ntmps ≤ N ∧
      ∀ B w0, AWP P fn.ntmps B w0 c (EndsE T N fn.results.toList fun r H => K (St.put ⟨st.env, H⟩ dst r)) ⟨argEnv 0 (stripL args), st.heap⟩
  | none => False

theorem ZGi {P : Program} {T : Tab} (hT : T.ok P) {n B : Nat} {w0 : Orig} {st : St} {a : Act} {w : World} {ρ : Nat → Option Value} {I : Nat → Prop} {fn : Func} (hG : Gam n B w0 st a w ρ I) {φ : Prop} {l : List AV} (hl : resOf T st fn.results.toList = some (φ, l)) (hφ : φ) :
    ∃ v, (results fn a.tmps).run P w = .ok v w ∧ Conc B I w ρ (retOf l) v := by
  obtain ⟨vs, h1, h2⟩ := ZCa hT hG fn.results.toList hl hφ
  refine ⟨if h : vs.toArray.size = 1 then vs.toArray[0] else .tuple vs.toArray, ?_, ?_⟩
  · unfold results
    have : (fn.results.mapM fun r => match r with | .tmp t => pure (a.tmps.getD t undef) | .cell x t => do loadVar t (← asAddr (a.tmps.getD x undef)) : Sem (Array Value)).run P w = .ok vs.toArray w := by
      rw [Array.mapM_eq_mapM_toList, ← bind_pure_comp]
      simp only [Sem.run_bind, Sem.run_pure]
      exact congrArg (fun q : Result (List Value) => q.andThen fun a w' => Result.ok a.toArray w') h1
    simp only [Sem.run_bind, Sem.run_pure]
    exact congrArg (fun q : Result (Array Value) => q.andThen fun vs w' => Result.ok (if h : vs.size = 1 then vs[0] else Value.tuple vs) w') this
  · match l, vs, h2 with
    | [x], [v], h2 => simpa [retOf] using h2.2 0 (by simp)
    | [], [], h2 => exact .t _ _ (by simp) (fun j hj => by simp at hj)
    | x :: y :: l, v :: u :: vs, h2 =>
      rw [dif_neg (by simp)]
      exact .t _ _ (by simpa using h2.1) (fun j hj => by have := h2.2 j hj; simpa [List.getD_eq_getElem?_getD, Array.getD_eq_getD_getElem?] using this)
    | [], _ :: _, h2 => exact absurd h2.1 (by simp)
    | [_], [], h2 => exact absurd h2.1 (by simp)
    | [_], _ :: _ :: _, h2 => exact absurd h2.1 (by simp)
    | _ :: _ :: _, [], h2 => exact absurd h2.1 (by simp)
    | _ :: _ :: _, [_], h2 => exact absurd h2.1 (by simp)

mutual
def AV.ids (p : Nat → Prop) : AV → Prop
  | .v _ => True
  | .s id => p id
  | .w id _ _ => p id
  | .p id _ => p id
  | .i _ _ _ _ _ => True
  | .q _ _ _ _ _ => True
  | .a cs => AV.idsL p cs
  | .t cs => AV.idsL p cs
  | .f _ cs => AV.idsL p cs
  | .g _ x => AV.ids p x
  | .top => True
def AV.idsL (p : Nat → Prop) : List AV → Prop
  | [] => True
  | x :: r => AV.ids p x ∧ AV.idsL p r
end
theorem ZAx {p : Nat → Prop} : ∀ {cs : List AV} (_ : AV.idsL p cs) (j : Nat), (cs.getD j .top).ids p
  | [], _, _ => by simp [AV.ids]
  | x :: r, h, 0 => by simp only [AV.idsL] at h; simpa using h.1
  | x :: r, h, j + 1 => by simp only [AV.idsL] at h; simpa using ZAx h.2 j
theorem Conc.ids {p : Nat → Prop} {B : Nat} {I : Nat → Prop} {w : World} {ρ : Nat → Option Value} {x : AV} {u : Value} (h : Conc B I w ρ x u) : x.ids p → ∀ ρ', (∀ id, p id → ρ' id = ρ id) → Conc B I w ρ' x u := by
  induction h with
  | v x => intro _ ρ' _; exact .v x
  | s id x h h1 => intro hg ρ' hr; rw [AV.ids] at hg; exact .s id x (by rw [hr id hg]; exact h) h1
  | w id off len cap A x h hcap hA => intro hg ρ' hr; rw [AV.ids] at hg; exact .w id off len cap A x (by rw [hr id hg]; exact h) hcap hA
  | p id off b x h hb => intro hg ρ' hr; rw [AV.ids] at hg; exact .p id off b x (by rw [hr id hg]; exact h) hb
  | i fr c sz off len cap A u hcap hA hc ih => intro _ ρ' _; exact .i fr c sz off len cap A u hcap hA hc
  | q fr c sz e f ad u h2 h3 hcell hc ih => intro _ ρ' _; exact .q fr c sz e f ad u h2 h3 hcell hc
  | a cs us hl h ih => intro hg ρ' hr; rw [AV.ids] at hg; exact .a cs us hl fun j hj => ih j hj (ZAx hg j) ρ' hr
  | t cs us hl h ih => intro hg ρ' hr; rw [AV.ids] at hg; exact .t cs us hl fun j hj => ih j hj (ZAx hg j) ρ' hr
  | f fn cs us hl h ih => intro hg ρ' hr; rw [AV.ids] at hg; exact .f fn cs us hl fun j hj => ih j hj (ZAx hg j) ρ' hr
  | g b x u h h0 ih => intro hg ρ' hr; rw [AV.ids] at hg; exact .g b x u (fun hb => ih hb hg ρ' hr) h0
  | top u => intro _ ρ' _; exact .top u
def idsE (p : Nat → Prop) : List (Nat × AV) → Prop
  | [] => True
  | (_, x) :: r => x.ids p ∧ idsE p r
theorem ZFB {p : Nat → Prop} : ∀ {E : List (Nat × AV)}, idsE p E → ∀ s, (lk E s).ids p
  | [], _, s => by simp [lk, AV.ids]
  | (k, x) :: r, h, s => by
    simp only [lk]
    split
    · exact h.1
    · exact ZFB h.2 s

def EffCallM (P : Program) (T : Tab) (dst : Option Nat) (op : Op) (K : St → Prop) (hgh : Nat → Option (Option Value)) (st : St) : Prop :=
  match callee? st.ev op with
  | some (ψ, k, args) => (ψ ∧ condL args) ∧ ∃ (fn : Func) (c : Code) (N M : Nat), P.funcs[k]? = some fn ∧ fn.body = some c ∧ (fn.name == "runtime.NumGoroutine") = false ∧ args.length ≤ fn.ntmps ∧ fn.ntmps ≤ N ∧ idsE (· < M) st.env ∧ (∀ id, M ≤ id → hgh id = none) ∧
      ∀ B w0, (∀ id, M ≤ id → w0.gh id = none) → AWP P fn.ntmps B w0 c (EndsE T N fn.results.toList fun r H => K (St.put ⟨st.env, H⟩ dst r)) ⟨argEnv 0 (stripL args), st.heap⟩
  | none => False
theorem ZJT {P : Program} {T : Tab} (hT : T.ok P) {n B : Nat} {w0 : Orig} {st : St} {a : Act} {w : World} {ρ : Nat → Option Value} {I : Nat → Prop} (hG : Gam n B w0 st a w ρ I) {o : Oper} (hd : dstOk n o.dst) {K : St → Prop} (h : EffCall P T o.dst o.op K st) : StepOk P n B w0 o a w K := by
  intro next Q hn
  unfold EffCall at h
  split at h
  · rename_i ψ k args hcal
    obtain ⟨⟨hψ, hcond⟩, fn, c, N, hf, hb, hname, hle, hnN, hA⟩ := h
    obtain ⟨vs, hrun, hvs⟩ := ZBM (fun x => hG.ev x) hcal hψ hf hname (by rw [hb]; rfl)
    unfold Oper.wp
    rw [hrun, Oper.upon_enter]
    have hsz : vs.size = args.length := by rw [← Array.length_toList, hvs.1]
    refine ZBo (w0 := ⟨w, I, fun id => if N ≤ id then some (ρ id) else none, [], none⟩) hf hb rfl rfl (hA B _) ⟨ρ, I, ?_⟩ fun e st' a' w' ρ' I' h1 hG' => ?_
    · refine ⟨Marks.nil, by simp; omega, fun s => ZC0 ⟨by rw [ZAr]; exact hvs.1, fun j hj => ?_⟩ s, hG.hw, Below.refl _ _, hG.base, ⟨fun b hb => .inl hb, fun id x hx => ?_, fun d hd => if_neg (by omega), fun b hb => ⟨hb, rfl⟩⟩⟩
      · rw [ZAr] at hj
        rw [ZBe _ _ hj]
        exact (hvs.2 j hj).strip (ZA4 hcond j)
      · simp only at hx
        split at hx
        · injection hx
        · cases hx
    · have key : finE T N fn.results.toList (fun r H => K (St.put ⟨st.env, H⟩ o.dst r)) st' → ∃ v, (results fn a'.tmps).run P w' = .ok v w' ∧ next (a.put o.dst v) w' := fun hfin => by
        unfold finE at hfin
        split at hfin
        · rename_i φ l hl
          obtain ⟨hφ, hge, hgeH, hK⟩ := hfin
          obtain ⟨v, h2, h3⟩ := ZGi hT hG' hl hφ
          refine ⟨v, h2, ?_⟩
          have hρ : ∀ id, N ≤ id → ρ id = ρ' id := fun id hid => (hG'.old.gh id (ρ id) (if_pos hid)).symm
          refine hn _ _ _ hK ⟨ρ, I', Gam.put (st := ⟨st.env, keepH N st'.heap⟩) (d := o.dst) ⟨hG.defers.mono hG'.old.keep, hG.size, fun s => (hG.env s).mono (Nat.le_refl _) hG'.old.keep ρ (fun _ _ h => h), ⟨fun id blk hk => ?_, fun id id' b1 b2 x x' b hne k1 k2 hx hx' hb => ?_, fun id blk x b hk hx hb => ?_, hG'.hw.lt⟩, hG.below.trans hG'.below, hG'.base, ⟨fun b hb => ?_, hG.old.gh, hG.old.ghn, fun b hb => ?_⟩⟩ (fun k hk => by rw [hk] at hd; exact hd) (h3.ge hge ρ hρ)⟩
          · obtain ⟨hid, hk'⟩ := ZCd hk
            obtain ⟨x, hx, hok⟩ := hG'.hw.ok id blk hk'
            refine ⟨x, by rw [hρ id hid]; exact hx, ?_⟩
            cases blk with
            | box t c =>
              obtain ⟨b, us, rfl, hB, hh, hl, hc⟩ := hok
              exact ⟨b, us, rfl, hB, hh, hl, fun j u hu => (hc j u hu).ge (Cont.ge_at (ZGh hgeH hk) j) ρ hρ⟩
            | row e sz c => exact hok
            | mp c => exact hok
            | mpa kd ks c =>
              obtain ⟨b, vals, rfl, hB, hm, hl, hl2, hc⟩ := hok
              exact ⟨b, vals, rfl, hB, hm, hl, hl2, fun j u hu => (hc j u hu).ge (Cont.ge_at (ZGh hgeH hk) j) ρ hρ⟩
            | nst e c =>
              obtain ⟨m, xs, ho, hl, hc⟩ := hok
              exact ⟨m, xs, ho, hl, fun j u hu => (hc j u hu).ge (Cont.ge_at (ZGh hgeH hk) j) ρ hρ⟩
          · obtain ⟨i1, k1'⟩ := ZCd k1
            obtain ⟨i2, k2'⟩ := ZCd k2
            exact hG'.hw.apart id id' b1 b2 x x' b hne k1' k2' (by rw [← hρ id i1]; exact hx) (by rw [← hρ id' i2]; exact hx') hb
          · obtain ⟨i1, k1'⟩ := ZCd hk
            exact hG'.hw.imm id blk x b k1' (by rw [← hρ id i1]; exact hx) hb
          · rcases hG'.old.up b hb with h | h
            · exact hG.old.up b h
            · exact .inr h
          · obtain ⟨g1, g2⟩ := hG.old.keep b hb
            obtain ⟨g3, g4⟩ := hG'.old.keep b g1
            exact ⟨g3, g4.trans g2⟩
        · exact hfin.elim
      cases e with
      | ret => exact ⟨.inl rfl, key h1⟩
      | normal => exact ⟨.inr rfl, key h1⟩
      | _ => exact h1.elim
  · exact h.elim

def AV.ren (k : Nat) : AV → AV
  | .v x => .v x
  | .s id => .s (id + k)
  | .w id off len => .w (id + k) off len
  | .p id off => .p (id + k) off
  | .i fr c sz off len => .i fr c sz off len
  | .q fr c sz e j => .q fr c sz e j
  | .a cs => .a (renL k cs)
  | .t cs => .t (renL k cs)
  | .f fn cs => .f fn (renL k cs)
  | .g b x => .g b (AV.ren k x)
  | .top => .top
where renL (k : Nat) : List AV → List AV
  | [] => []
  | x :: r => AV.ren k x :: renL k r
theorem ZBI (k : Nat) (cs : List AV) : (AV.ren.renL k cs).length = cs.length := by
  induction cs with
  | nil => rfl
  | cons x r ih => simp [AV.ren.renL, ih]
theorem ZC8 (k : Nat) (cs : List AV) (j : Nat) : (AV.ren.renL k cs).getD j .top = (cs.getD j .top).ren k := by
  induction cs generalizing j with
  | nil => simp [AV.ren.renL, AV.ren]
  | cons x r ih => cases j with
    | zero => simp [AV.ren.renL]
    | succ j => simpa [AV.ren.renL] using ih j
theorem Conc.ren {B : Nat} {I : Nat → Prop} {w : World} {ρ : Nat → Option Value} {x : AV} {u : Value} (k : Nat) (h : Conc B I w ρ x u) : ∀ ρ', (∀ id, ρ' (id + k) = ρ id) → Conc B I w ρ' (x.ren k) u := by
  induction h with
  | v x => intro ρ' _; rw [AV.ren]; exact .v x
  | s id x h h1 => intro ρ' hr; rw [AV.ren]; exact .s _ x (by rw [hr id]; exact h) h1
  | w id off len cap A x h hcap hA => intro ρ' hr; rw [AV.ren]; exact .w _ off len cap A x (by rw [hr id]; exact h) hcap hA
  | p id off b x h hb => intro ρ' hr; rw [AV.ren]; exact .p _ off b x (by rw [hr id]; exact h) hb
  | i fr c sz off len cap A u hcap hA hc ih => intro ρ' _; rw [AV.ren]; exact .i fr c sz off len cap A u hcap hA hc
  | q fr c sz e f ad u h2 h3 hcell hc ih => intro ρ' _; rw [AV.ren]; exact .q fr c sz e f ad u h2 h3 hcell hc
  | a cs us hl h ih => intro ρ' hr; rw [AV.ren]; exact .a _ us (by rw [ZBI]; exact hl) fun j hj => by rw [ZBI] at hj; rw [ZC8]; exact ih j hj ρ' hr
  | t cs us hl h ih => intro ρ' hr; rw [AV.ren]; exact .t _ us (by rw [ZBI]; exact hl) fun j hj => by rw [ZBI] at hj; rw [ZC8]; exact ih j hj ρ' hr
  | f fn cs us hl h ih => intro ρ' hr; rw [AV.ren]; exact .f fn _ us (by rw [ZBI]; exact hl) fun j hj => by rw [ZBI] at hj; rw [ZC8]; exact ih j hj ρ' hr
  | g b x u h h0 ih => intro ρ' hr; rw [AV.ren]; exact .g b _ u (fun hb => ih hb ρ' hr) h0
  | top u => intro ρ' _; rw [AV.ren]; exact .top u
def Cont.ren (k : Nat) : Cont → Cont
  | .ints q l => .ints q l
  | .vals l => .vals l
  | .avs l => .avs (AV.ren.renL k l)
def Blk.ren (k : Nat) : Blk → Blk
  | .box t c => .box t (c.ren k)
  | .row e sz c => .row e sz c
  | .mp c => .mp c
  | .mpa kd ks c => .mpa kd ks (c.ren k)
  | .nst e c => .nst e (c.ren k)
theorem Cont.ren_len (k : Nat) (c : Cont) : (c.ren k).len = c.len := by cases c <;> simp [Cont.ren, Cont.len, ZBI]
theorem Cont.ren_at (k : Nat) (c : Cont) (j : Nat) : (c.ren k).at j = (c.at j).ren k := by cases c <;> simp only [Cont.ren, Cont.at, AV.ren, ZC8]
def renE (k : Nat) : List (Nat × AV) → List (Nat × AV)
  | [] => []
  | (s, x) :: r => (s, x.ren k) :: renE k r
def renH (k : Nat) : List (Nat × Blk) → List (Nat × Blk)
  | [] => []
  | (d, b) :: r => (d + k, b.ren k) :: renH k r
theorem ZHj (k : Nat) : ∀ (E : List (Nat × AV)) (s : Nat), lk (renE k E) s = (lk E s).ren k
  | [], s => by simp [renE, lk, AV.ren]
  | (t, x) :: r, s => by
    simp only [renE, lk]
    split
    · rfl
    · exact ZHj k r s
theorem ZC9 (k : Nat) : ∀ {H : List (Nat × Blk)} {id : Nat} {b : Blk}, lkH (renH k H) id = some b → ∃ id0 b0, id = id0 + k ∧ lkH H id0 = some b0 ∧ b = b0.ren k
  | [], _, _, h => by cases h
  | (d, c) :: r, id, b, h => by
    simp only [renH, lkH] at h
    split at h
    · rename_i e; injection h with h; exact ⟨d, c, e.symm, by simp [lkH], h.symm⟩
    · rename_i e
      obtain ⟨id0, b0, e1, e2, e3⟩ := ZC9 k h
      refine ⟨id0, b0, e1, ?_, e3⟩
      simp only [lkH]
      rw [if_neg (fun hh => e (by rw [hh, e1]))]; exact e2
theorem G.ren {n B : Nat} {w0 : Orig} {st : St} {a : Act} {w : World} (hG : G n B w0 st a w) (hgh : ∀ id, w0.gh id = none) (k : Nat) : G n B w0 ⟨renE k st.env, renH k st.heap⟩ a w := by
  obtain ⟨ρ, I, h⟩ := hG
  have hρ : ∀ id, (if k ≤ id + k then ρ (id + k - k) else none) = ρ id := fun id => by simp
  refine ⟨fun id => if k ≤ id then ρ (id - k) else none, I, h.defers, h.size, fun s => ?_, ⟨fun id blk hk => ?_, fun id id' b1 b2 x x' b hne k1 k2 hx hx' hb => ?_, fun id blk x b hk hx hb => ?_, h.hw.lt⟩, h.below, h.base, ⟨h.old.up, fun id x hx => (by rw [hgh] at hx; cases hx), h.old.ghn, h.old.keep⟩⟩
  · show Conc _ _ _ _ (lk (renE k st.env) s) _
    rw [ZHj]; exact (h.env s).ren k _ hρ
  · obtain ⟨id0, b0, rfl, h2, rfl⟩ := ZC9 k hk
    obtain ⟨x, hx, hok⟩ := h.hw.ok id0 b0 h2
    refine ⟨x, by rw [hρ id0]; exact hx, ?_⟩
    cases b0 with
    | box t c =>
      obtain ⟨b, us, rfl, hB, hh, hl, hc⟩ := hok
      exact ⟨b, us, rfl, hB, hh, by rw [Cont.ren_len]; exact hl, fun j u hu => by rw [Cont.ren_at]; exact (hc j u hu).ren k _ hρ⟩
    | row e sz c => exact hok
    | mp c => exact hok
    | mpa kd ks c =>
      obtain ⟨b, vals, rfl, hB, hm, hl, hl2, hc⟩ := hok
      exact ⟨b, vals, rfl, hB, hm, hl, by rw [Cont.ren_len]; exact hl2, fun j u hu => by rw [Cont.ren_at]; exact (hc j u hu).ren k _ hρ⟩
    | nst e c =>
      obtain ⟨m, xs, ho, hl, hc⟩ := hok
      exact ⟨m, xs, ho, by rw [Cont.ren_len]; exact hl, fun j u hu => by rw [Cont.ren_at]; exact (hc j u hu).ren k _ hρ⟩
  · obtain ⟨i1, c1, rfl, g1, rfl⟩ := ZC9 k k1
    obtain ⟨i2, c2, rfl, g2, rfl⟩ := ZC9 k k2
    rw [hρ] at hx hx'
    exact h.hw.apart i1 i2 c1 c2 x x' b (fun e => hne (by rw [e])) g1 g2 hx hx' hb
  · obtain ⟨i1, c1, rfl, g1, rfl⟩ := ZC9 k hk
    rw [hρ] at hx
    exact h.hw.imm i1 c1 x b g1 hx hb
attribute [push_cast] AV.ren AV.ren.renL Cont.ren Blk.ren renE renH EffCall EffCallM AV.ids AV.idsL idsE EndsE finE stripL keepH geH AV.ge AV.geL Cont.ge Blk.ge
end Go.Eng
namespace Go.Eng
open Go.RowKit
set_option linter.unusedSimpArgs false

theorem G.cont {n B : Nat} {w0 : Orig} {st : St} {a : Act} {w : World} (hG : G n B w0 st a w) (d : Nat) (t : TypeId) (c c' : Cont) (hk : lkH st.heap d = some (.box t c)) (hl : c'.len = c.len) (hc : ∀ j, j < c.len → c'.at j = c.at j ∨ c'.at j = .top) : G n B w0 ⟨st.env, (d, .box t c') :: st.heap⟩ a w := by
  obtain ⟨ρ, I, h⟩ := hG
  obtain ⟨x, hx, hok⟩ := h.hw.ok d _ hk
  refine ⟨ρ, I, h.store hk hx ?_ (Below.refl _ _) (fun _ _ => rfl)⟩
  obtain ⟨b, us, rfl, hB, hh, hl2, hcc⟩ := hok
  refine ⟨b, us, rfl, hB, hh, by rw [hl]; exact hl2, fun j u hu => ?_⟩
  have hj : j < us.size := (Array.getElem?_eq_some_iff.1 hu).1
  rcases hc j (by omega) with e | e
  · rw [e]; exact hcc j u hu
  · rw [e]; exact .top _
section
variable {P : Program} {T : Tab} (hT : T.ok P) {n B : Nat} {w0 : Orig} {st : St} {a : Act} {w : World} {ρ : Nat → Option Value} {I : Nat → Prop}

def MakeAny (T : Tab) (dst : Option Nat) (op : Op) (K : St → Prop) (st : St) : Prop :=
  match op, dst with
  | .makeSlice t l c, some d =>
    match T t, (st.ev l).strip, (st.ev c).strip with
    | some ⟨.sl e, _, _, _⟩, .v (.int _ nl), .v (.int _ nc) =>
      match T e with
      | some te => ((st.ev l).cond ∧ (st.ev c).cond ∧ 0 ≤ nl ∧ nl = nc ∧ (te.by_ : Int) * nc ≤ 281474976710656 ∧ nc ≤ 9223372036854775807) ∧ K ⟨(d, .s d) :: killE d st.env, (d, .row e te.sz (.avs (List.replicate (nl.toNat * te.sz) .top))) :: killH d st.heap⟩
      | none => False
    | _, _, _ => False
  | _, _ => False
include hT in
theorem ZHH (hG : Gam n B w0 st a w ρ I) {o : Oper} (hd : dstOk n o.dst) {K : St → Prop} (h : MakeAny T o.dst o.op K st) : StepOk P n B w0 o a w K := by
  intro next Q hn
  unfold MakeAny at h
  split at h
  · rename_i t l c d ho hdst
    split at h
    · rename_i e _ _ _ k1 nl k2 nc ht hl hc
      have hu : P.underlying t = some (.slice e) := (hT _ _ ht).kind
      split at h
      · rename_i te hte
        obtain ⟨inf, hi1, hi2, hi3, hz⟩ := (hT _ _ hte).info
        obtain ⟨⟨c1, c2, h0, rfl, hby, h63⟩, hK⟩ := h
        have e1 := (hG.ev l).strip c1
        have e2 := (hG.ev c).strip c2
        rw [hl] at e1; rw [hc] at e2
        have e1 := e1.v_inv
        have e2 := e2.v_inv
        have hr := run_make (P := P) w t e inf te.z hu hi1 hz k1 k2 nl nl h0 (Int.le_refl _) (by rw [hi3]; exact hby) h63
        unfold Oper.wp
        have hrun : (execOp a.eval o).run P w = .ok (.value (.slice (some ⟨w.heap.size, 0, none⟩) nl.toNat nl.toNat)) (w.alloc (.cells (madeCells te.z.cells (nl.toNat * inf.size)) e)) := by
          simp only [execOp, ho, e1, e2, Sem.run_bind, hr, Result.andThen_ok, Sem.run_pure]
        rw [hrun, Oper.upon_value, hdst]
        have hb : Below w.heap.size w (w.alloc (.cells (madeCells te.z.cells (nl.toNat * inf.size)) e)) := (Below.refl _ _).alloc (Nat.le_refl _) _
        have hown : (w.alloc (.cells (madeCells te.z.cells (nl.toNat * inf.size)) e)).ownsRow B e te.sz (.slice (some ⟨w.heap.size, 0, none⟩) nl.toNat nl.toNat) nl.toNat ((madeCells te.z.cells (nl.toNat * inf.size)).toList.take (nl.toNat * te.sz)) := by
          refine ⟨?_, .inr ⟨w.heap.size, nl.toNat, _, rfl, hG.base, heap_alloc_new w _, by omega, by simp only [maxLen]; omega, by rw [size_madeCells, hi2], rfl⟩⟩
          rw [List.length_take, Array.length_toList, size_madeCells, hi2]; omega
        refine hn _ _ _ hK (ZDJ hG d (by rw [hdst] at hd; exact hd) hb hown (fun b hr => by simp [rootBlk] at hr; omega) _ (by simp [Cont.len]) fun j u hu => ?_)
        have : (Cont.avs (List.replicate (nl.toNat * te.sz) AV.top)).at j = .top := by
          simp only [Cont.at, List.getD_eq_getElem?_getD]
          by_cases hj : j < nl.toNat * te.sz
          · simp [hj]
          · rw [List.getElem?_eq_none (by simp; omega)]; rfl
        rw [this]; exact .top _
      · exact h.elim
    · exact h.elim
  · exact h.elim

theorem ZFC (w : World) (dT sT ty elem : TypeId) (g o dLen dCap : Nat) (a : Addr) (sLen sCap size m : Nat) (cur : Array Value) (t : TypeId) (cs : List Value)
    (hu : P.underlying dT = some (.slice elem)) (hs : (P.info? elem).map (·.size) = some size)
    (hg : w.heap[g]? = some (.cells cur t (0, 0))) (hm : Nat.min sLen dLen = m) (hn : cs.length = m * size)
    (hsrc : ∀ j v, cs[j]? = some v → w.cell? (a.add j) = some v) (hfit : o + cs.length ≤ cur.size) (h1 : ∀ v ∈ cs, v.oneCell' = true) :
    (Builtin.copy_ #[dT, sT] ty #[.slice (some ⟨g, o, none⟩) dLen dCap, .slice (some a) sLen sCap]).run P w =
      .ok (goInt m) (w.setRow g (cur.toList.take o ++ cs ++ cur.toList.drop (o + cs.length)).toArray) := by
  have hl := run_loadCells_list (P := P) w a cs hsrc
  have hst := run_storeCells_at P g o t cs 0 cur w hg (by simpa using hfit) h1
  rw [hn] at hl
  cases hq : P.info? elem with
  | none => simp [hq] at hs
  | some i =>
    have hi : i.size = size := by simpa [hq] using hs
    simp [Builtin.copy_, run_underlying hu, Builtin.lenOf, Builtin.firstCells, sizeOf, typeInfo, hq, hi, hm, hl, hst]

def CopyAll (T : Tab) (dst : Option Nat) (op : Op) (K : St → Prop) (st : St) : Prop :=
  match op with
  | .call c =>
    match c.callee, c.args.toList, c.argTypes.toList with
    | .builtin .copy, [x, y], [t, _] =>
      match T t, (st.ev x).strip, (st.ev y).strip with
      | some ⟨.sl e, _, _, _⟩, .s id, .w id2 off len =>
        match T e, lkH st.heap id, lkH st.heap id2 with
        | some te, some (.row e' sz c), some (.box _ c2) =>
          ∃ c' : Cont, ((st.ev x).cond ∧ (st.ev y).cond ∧ sz = te.sz ∧ 0 < sz ∧ c.len = len * te.sz ∧ off + len * te.sz ≤ c2.len ∧ c'.len = c.len ∧ (∀ j, j < c.len → c'.at j = c2.at (off + j)) ∧ norC c' ∧ (∀ j, j < c.len → (c'.at j).one = true)) ∧ K (St.put ⟨st.env, (id, .row e' sz c') :: st.heap⟩ dst (.v (.int .i64 len)))
        | _, _, _ => False
      | _, _, _ => False
    | _, _, _ => False
  | _ => False
include hT in
theorem ZHI (hG : Gam n B w0 st a w ρ I) {o : Oper} (hd : dstOk n o.dst) {K : St → Prop} (h : CopyAll T o.dst o.op K st) : StepOk P n B w0 o a w K := by
  intro next Q hn
  unfold CopyAll at h
  split at h
  · rename_i c ho
    split at h
    · rename_i x y t t' hcal hargs htys
      split at h
      · rename_i e _ _ _ id id2 off len ht hx hy
        have hu : P.underlying t = some (.slice e) := (hT _ _ ht).kind
        split at h
        · rename_i te e' sz c0 tb c2 hte hk hk2
          obtain ⟨inf, hi1, hi2, hi3, hz⟩ := (hT _ _ hte).info
          obtain ⟨c', ⟨k1, k2, rfl, hpos, hl, hl2, hl', hat, hnor, hone⟩, hK⟩ := h
          have hop : o.op = .call ⟨.builtin .copy, #[x, y], #[t, t']⟩ := by
            rw [ho]
            obtain ⟨cc, ca, ct⟩ := c
            simp only at hcal hargs htys
            subst hcal
            have e1 : ca = #[x, y] := by cases ca; simp_all
            have e2 : ct = #[t, t'] := by cases ct; simp_all
            rw [e1, e2]
          have vx := (hG.ev x).strip k1
          have vy := (hG.ev y).strip k2
          rw [hx] at vx; rw [hy] at vy
          generalize hxv : a.eval x = xv at vx
          generalize hyv : a.eval y = yv at vy
          cases vx with
          | s _ _ hrx hox =>
            cases vy with
            | w _ _ _ cap A xx hry hcap hA =>
              obtain ⟨x', hx', hok⟩ := hG.hw.ok id _ hk
              rw [hrx] at hx'; injection hx' with hx'; subst hx'
              obtain ⟨m, xs, hown, hlen, hcc⟩ := hok
              have hm : m = len := Nat.eq_of_mul_eq_mul_right hpos (by rw [← hlen, hl])
              subst hm
              unfold Oper.wp
              by_cases h0 : m = 0
              · subst h0
                have hrun : (execOp a.eval o).run P w = .ok (.value (.int .i64 0)) w := by
                  rcases hown.2 with ⟨rfl, _⟩ | ⟨g, cap', cur, rfl, _⟩
                  · cases A <;> simp [execOp, hop, hxv, hyv, resolve, builtin, Builtin.copy_, run_underlying hu, Builtin.lenOf, Builtin.firstCells, sizeOf, typeInfo, hi1, loadCells, loadCellsFrom, storeCells, goInt, Deferred.ofValue, invoke]
                  · cases A <;> simp [execOp, hop, hxv, hyv, resolve, builtin, Builtin.copy_, run_underlying hu, Builtin.lenOf, Builtin.firstCells, sizeOf, typeInfo, hi1, loadCells, loadCellsFrom, storeCells, goInt, Deferred.ofValue, invoke]
                rw [hrun, Oper.upon_value]
                refine hn _ _ _ hK ⟨ρ, I, Gam.put (st := ⟨st.env, (id, .row e' te.sz c') :: st.heap⟩) (hG.store hk hrx ⟨0, [], ?_, by rw [hl', hl], fun j u hu => by simp at hu⟩ (Below.refl _ _) (fun _ _ => rfl)) (fun k hk => by rw [hk] at hd; exact hd) (.v _)⟩
                have hx0 : xs = [] := List.eq_nil_of_length_eq_zero (by rw [hown.1]; simp)
                rw [hx0] at hown; exact hown
              · have hmp : 0 < m * te.sz := Nat.mul_pos (by omega) hpos
                rcases hown.2 with ⟨_, h00⟩ | ⟨g, cap', cur, rfl, hB, hh, hmc, hmax, hcs2, htake⟩
                · exact absurd h00 h0
                obtain ⟨b, hb, rfl⟩ := hA (by omega)
                have hcell : ∀ j, j < m * te.sz → ∃ u, w.cell? ⟨b, off + j, none⟩ = some u ∧ Conc B I w ρ (c2.at (off + j)) u := fun j hj => hG.hw.cell hk2 hry hb (j := off + j) (by show off + j < c2.len; omega)
                let f : Nat → Value := fun j => if hj : j < m * te.sz then Classical.choose (hcell j hj) else undef
                have hf : ∀ j, j < m * te.sz → w.cell? ⟨b, off + j, none⟩ = some (f j) ∧ Conc B I w ρ (c2.at (off + j)) (f j) := fun j hj => by
                  show w.cell? _ = some (if hj : j < m * te.sz then Classical.choose (hcell j hj) else undef) ∧ Conc B I w ρ _ (if hj : j < m * te.sz then Classical.choose (hcell j hj) else undef)
                  rw [dif_pos hj]; exact Classical.choose_spec (hcell j hj)
                have hget : ∀ j v, ((List.range (m * te.sz)).map f)[j]? = some v → j < m * te.sz ∧ v = f j := fun j v hv => by
                  have hj : j < m * te.sz := by have := (List.getElem?_eq_some_iff.1 hv).1; simpa using this
                  refine ⟨hj, ?_⟩
                  rw [List.getElem?_map, List.getElem?_range hj] at hv
                  exact (Option.some.inj hv).symm
                have hcap3 : m * te.sz ≤ cap' * te.sz := Nat.mul_le_mul_right _ hmc
                have hlenr : ((List.range (m * te.sz)).map f).length = m * te.sz := by simp
                have hr := ZFC (P := P) w t t' o.type e g 0 m cap' ⟨b, off, none⟩ m cap te.sz m cur e' ((List.range (m * te.sz)).map f) hu (by rw [hi1]; simp [hi2]) hh (Nat.min_self m) hlenr (fun j v hv => by
                    obtain ⟨hj, rfl⟩ := hget j v hv
                    rw [ZAf]; exact (hf j hj).1) (by rw [hlenr]; omega) (fun v hv => by
                    obtain ⟨j, hj, rfl⟩ := List.mem_map.1 hv
                    have hj : j < m * te.sz := by simpa using hj
                    rw [ZEz]
                    have h1 := (hf j hj).2
                    rw [← hat j (by omega)] at h1
                    exact h1.one (hone j (by omega)))
                have hrun : (execOp a.eval o).run P w = .ok (.value (goInt m)) (w.setRow g (cur.toList.take 0 ++ (List.range (m * te.sz)).map f ++ cur.toList.drop (0 + ((List.range (m * te.sz)).map f).length)).toArray) := by
                  simp only [execOp, hop, hxv, hyv, resolve, builtin, Deferred.ofValue, invoke, Sem.run_bind, Sem.run_pure, Result.andThen_ok, List.map_toArray, List.map_cons, List.map_nil, hr]
                rw [hrun, Oper.upon_value]
                have hI : ∀ b1, I b1 → b1 ≠ g := fun b1 h1 e => by subst e; exact hG.hw.imm id _ _ _ hk hrx rfl h1
                refine hn _ _ _ hK ⟨ρ, I, Gam.put (st := ⟨st.env, (id, .row e' te.sz c') :: st.heap⟩) (hG.store hk hrx ⟨m, (List.range (m * te.sz)).map f, ⟨hlenr, .inr ⟨g, cap', _, rfl, hB, ZB5 w g _ cur e' hh, hmc, hmax, ?_, ?_⟩⟩, by rw [hl', hl], fun j u hu => ?_⟩ (below_setRow (Below.refl _ _) hB _) (fun b1 hb1 => ZA5 w _ _ _ (fun e => hb1 (by rw [e]; rfl)))) (fun k hk => by rw [hk] at hd; exact hd) (.v _)⟩
                · simp; omega
                · simp [hlenr]
                · obtain ⟨hj, rfl⟩ := hget j u hu
                  have h1 := (hf j hj).2
                  rw [← hat j (by omega)] at h1
                  exact (h1.nor (ZE6 hnor j)).same (fun b1 hb1 => ZA5 w _ _ _ (Ne.symm (hI b1 hb1)))
        · exact h.elim
      · exact h.elim
    · exact h.elim
  · exact h.elim
end
end Go.Eng
namespace Go.Eng
open Go.RowKit

def AStepF (P : Program) (T : Tab) (n : Nat) (ops : Array Oper) (o : Oper) (K : St → Prop) (st : St) : Prop :=
  AStepX P T n ops o K st ∨ (o.guard = none ∧ dstOk n o.dst ∧ (EffCall P T o.dst o.op K st ∨ MakeAny T o.dst o.op K st ∨ CopyAll T o.dst o.op K st))
theorem ZHk {P : Program} {T : Tab} (hT : T.ok P) {n B : Nat} {w0 : Orig} {st : St} {a : Act} {w : World} {ρ : Nat → Option Value} {I : Nat → Prop} (hG : Gam n B w0 st a w ρ I) {ops : Array Oper} {o : Oper} {K : St → Prop} (h : AStepF P T n ops o K st)
    (next : Act → World → Prop) (Q : Exit → Act → World → Prop) (hn : ∀ st' a' w', K st' → G n B w0 st' a' w' → next a' w') :
    if Region.wanted o (yielded ops a.tmps) then o.wp P a w next Q else next (a.put o.dst undef) w := by
  rcases h with h | ⟨hg, hd, h⟩
  · exact ZC4 hT hG h next Q hn
  · have : Region.wanted o (yielded ops a.tmps) = true := by
      have := ZBC hG (ops := ops) (o := o) (g := none) (by rw [hg]; rfl)
      simpa using this
    rw [if_pos this]
    rcases h with h | h | h
    · exact ZJT hT hG hd h next Q hn
    · exact ZHH hT hG hd h next Q hn
    · exact ZHI hT hG hd h next Q hn
theorem ZHl {P : Program} {T : Tab} {n B : Nat} {w0 : Orig} {st : St} {a : Act} {w : World} {ρ : Nat → Option Value} {I : Nat → Prop} (hG : Gam n B w0 st a w ρ I) {ops : Array Oper} {o : Oper} {K : St → Prop} (h : AStepF P T n ops o K st) (hw : Region.wanted o (yielded ops a.tmps) = true) : ∀ c, o.op ≠ .defer c := by
  rcases h with h | ⟨_, _, h⟩
  · exact ZC5 hG h hw
  · intro c hc
    rw [hc] at h
    rcases h with h | h | h
    · exact h
    · exact h
    · exact h
def AAny (P : Program) (T : Tab) (n : Nat) (ops : Array Oper) (K : St → Prop) : Nat → Array Bool → St → Prop
  | 0, listed, st => Region.ready .any ops listed = [] ∧ K st
  | fuel + 1, listed, st => (Region.ready .any ops listed = [] → K st) ∧ ∀ i ∈ Region.ready .any ops listed, ∃ o, ops[i]? = some o ∧ AStepF P T n ops o (fun s => AAny P T n ops K fuel (listed.setIfInBounds i true) s) st
def AllJ (P : Program) (T : Tab) (n : Nat) (ops : Array Oper) (K : St → Prop) (fuel : Nat) (listed : Array Bool) (st : St) : List Nat → Prop
  | [] => True
  | i :: r => (∃ o, ops.toList[i]? = some o ∧ ∃ g, gOf ops o.guard = some g ∧ ∀ K' : St → Prop, (∀ s, AAny P T n ops K fuel (listed.setIfInBounds i true) s → K' s) → StepN P T n o.dst o.op g K' st) ∧ AllJ P T n ops K fuel listed st r
theorem AllJ.spec {P : Program} {T : Tab} {n : Nat} {ops : Array Oper} {K : St → Prop} {fuel : Nat} {listed : Array Bool} {st : St} : ∀ {js : List Nat}, AllJ P T n ops K fuel listed st js → ∀ i ∈ js, ∃ o, ops[i]? = some o ∧ AStepF P T n ops o (fun s => AAny P T n ops K fuel (listed.setIfInBounds i true) s) st
  | [], _, i, hi => by cases hi
  | j :: r, h, i, hi => by
    rcases List.mem_cons.1 hi with rfl | hi
    · obtain ⟨o, ho, g, hg, h1⟩ := h.1
      exact ⟨o, by rw [← Array.getElem?_toList]; exact ho, .inl (.inl (ZBT hg (h1 _ fun _ h => h)))⟩
    · exact AllJ.spec h.2 i hi
attribute [push_cast] MakeAny CopyAll
end Go.Eng
namespace Go.Eng
open Go.RowKit
set_option linter.unusedVariables false

def SStep (P : Program) (n B : Nat) (w0 : Orig) (ops : Array Oper) (o : Oper) (K : St → Prop) (st : St) : Prop :=
  ∀ (a : Act) (w : World) (ρ : Nat → Option Value) (I : Nat → Prop), Gam n B w0 st a w ρ I → ∀ (next : Act → World → Prop) (Q : Exit → Act → World → Prop), (∀ st' a' w', K st' → G n B w0 st' a' w' → next a' w') →
    if Region.wanted o (yielded ops a.tmps) then o.wpIn (fo w0) 0 P a w next Q else (∀ f, o.about P w a.eval = some f → (fo w0).fn f) ∧ next (a.put o.dst undef) w
def AOpsS (P : Program) (n B : Nat) (w0 : Orig) (ops : Array Oper) (K : St → Prop) : List Oper → St → Prop
  | [], st => K st
  | o :: rest, st => SStep P n B w0 ops o (fun st' => AOpsS P n B w0 ops K rest st') st
theorem ZHm {P : Program} {T : Tab} (hT : T.ok P) {n B : Nat} {w0 : Orig} {ops : Array Oper} {o : Oper} {K : St → Prop} {st : St} (h : AStepF P T n ops o K st) : SStep P n B w0 ops o K st := fun a w ρ I hG next Q hn =>
  toIf (ZHl hG h) (ZHk hT hG h next Q hn)
theorem ZGj {P : Program} {n B : Nat} {w0 : Orig} {ops : Array Oper} {K : St → Prop} {Q : Exit → Act → World → Prop} (hQ : ∀ st' a' w', K st' → G n B w0 st' a' w' → Q .normal a' w') : ∀ (l : List Oper) (st : St) (a : Act) (w : World), G n B w0 st a w → AOpsS P n B w0 ops K l st → wpListIn (fo w0) 0 P ops Q l a w
  | [], st, a, w, hG, h => hQ st a w h hG
  | o :: rest, st, a, w, ⟨ρ, I, hG⟩, h => by
    unfold wpListIn
    exact h a w ρ I hG _ Q fun st' a' w' hK hG' => ZGj hQ rest st' a' w' hG' hK
theorem ZAN {P : Program} {n B : Nat} {w0 : Orig} {Q : Exit → St → Prop} {st : St} {id : Nat} {l : List Oper} (h : ∀ K : St → Prop, (∀ s, Q .normal s → K s) → AOpsS P n B w0 l.toArray K l st) : AWP P n B w0 (.region id l.toArray false) Q st := fun a w hG =>
  wpIn_region_lit (ZGj (fun st' _ _ hK hG' => ⟨st', hK, hG'⟩) l st a w hG (h (fun s => Q .normal s) fun _ h => h))
theorem ZAK {P : Program} {n B : Nat} {w0 : Orig} {Q : Exit → St → Prop} {st : St} {id : Nat} {l : List Oper} {y : Code} (h : ∀ K : St → Prop, (∀ s, AWP P n B w0 y Q s → K s) → AOpsS P n B w0 l.toArray K l st) : AWP P n B w0 (.seq (.region id l.toArray false) y) Q st :=
  ZAL (ZAN (h · ))

section
variable {P : Program} {T : Tab} (hT : T.ok P) {n B : Nat} {w0 : Orig} {ops : Array Oper} {K : St → Prop} {o : Oper} {rest : List Oper} {st : St}
theorem ZAE (h : K st) : AOpsS P n B w0 ops K [] st := h
include hT
theorem ZA6 {g : Option (Nat × Bool)} (hg : gOf ops o.guard = some g) (h : ∀ K' : St → Prop, (∀ s, AOpsS P n B w0 ops K rest s → K' s) → StepN P T n o.dst o.op g K' st) : AOpsS P n B w0 ops K (o :: rest) st :=
  ZHm hT (.inl (.inl (ZBT hg (h _ fun _ h => h))))
theorem ZA7 {g : Option (Nat × Bool)} (hg : gOf ops o.guard = some g) (hs : guardS st g = some (some false)) (hd : dstOk n o.dst) (h : AOpsS P n B w0 ops K rest (st.put o.dst (.g false (.v (.bool false))))) : AOpsS P n B w0 ops K (o :: rest) st :=
  ZHm hT (.inl (.inr (.inr (.inl ⟨by rw [ZBd hg]; exact hs, hd, _, h⟩))))
omit hT
theorem ZA3 (hg : o.guard = none) {a : Act} {w : World} {ρ : Nat → Option Value} {I : Nat → Prop} (hG : Gam n B w0 st a w ρ I) : Region.wanted o (yielded ops a.tmps) = true := by
  have := ZBC hG (ops := ops) (o := o) (g := none) (by rw [hg]; rfl)
  simpa using this
include hT
end

/-! ### Maps -/
def MapUpd (T : Tab) (dst : Option Nat) (op : Op) (K : St → Prop) (st : St) : Prop :=
  match op with
  | .mapUpdate t m k v =>
    match T t with
    | some ⟨.mapt kt _, _, _, _⟩ =>
      match T kt, (st.ev m).strip, (st.ev k).strip, (st.ev v).strip with
      | some tk, .s id, .v kv, .v vv =>
        match lkH st.heap id, keyFor tk.k kv with
        | some (.mp c), some key =>
          match c.upd key vv with
          | some c' => ((st.ev m).cond ∧ (st.ev k).cond ∧ (st.ev v).cond ∧ dst = none ∧ key.isI = c.kd ∧ key.wf ∧ vwf vv ∧ c.ents.length < 9223372036854775807) ∧ K ⟨st.env, (id, .mp c') :: st.heap⟩
          | none => False
        | _, _ => False
      | _, _, _, _ => False
    | _ => False
  | _ => False
def kdOf : TK → Bool
  | .int _ => true
  | _ => false
def MapNew (T : Tab) (dst : Option Nat) (op : Op) (K : St → Prop) (st : St) : Prop :=
  match op, dst with
  | .makeMap t none, some d =>
    match T t with
    | some ⟨.mapt kt e, _, _, _⟩ =>
      match T kt, T e with
      | some tk, some te => K ⟨(d, .s d) :: killE d st.env, (d, match te.k with | .int q => .mp (.ints (kdOf tk.k) q []) | .bool => .mp (.bools (kdOf tk.k) []) | _ => .mpa (kdOf tk.k) [] (.avs [])) :: killH d st.heap⟩
      | _, _ => False
    | _ => False
  | _, _ => False

section
variable {P : Program} {T : Tab} (hT : T.ok P) {n B : Nat} {w0 : Orig} {st : St} {a : Act} {w : World} {ρ : Nat → Option Value} {I : Nat → Prop}
include hT in
theorem ZHn (hG : Gam n B w0 st a w ρ I) {o : Oper} {K : St → Prop} (h : MapUpd T o.dst o.op K st) : StepOk P n B w0 o a w K := by
  intro next Q hn
  unfold MapUpd at h
  split at h <;> first | exact h.elim | skip
  rename_i t m k v ho
  split at h <;> first | exact h.elim | skip
  rename_i kt e _ _ _ ht
  have hu : P.underlying t = some (.map kt e) := (hT _ _ ht).kind
  split at h <;> first | exact h.elim | skip
  rename_i tk id kv vv htk hm hk hv
  split at h <;> first | exact h.elim | skip
  rename_i c key hl hkey
  split at h <;> first | exact h.elim | skip
  rename_i c' hc
  obtain ⟨⟨c1, c2, c3, hdst, hi, hkw, hvw, hlen⟩, hK⟩ := h
  have hm' := (hG.ev m).strip c1
  have hk' := (hG.ev k).strip c2
  have hv' := (hG.ev v).strip c3
  rw [hm] at hm'; rw [hk] at hk'; rw [hv] at hv'
  have ek := hk'.v_inv
  have ev := hv'.v_inv
  obtain ⟨e1, e2⟩ := ZB3 hkey
  have hkt : P.underlying kt = some (kdesc c.kd) := by
    have hh := (hT _ _ htk).kind
    rcases e2 with ⟨e3, e4⟩ | ⟨e3, e4⟩
    · rw [e3] at hh; rw [← hi, e4]; exact hh
    · rw [e3] at hh; rw [← hi, e4]; exact hh
  generalize hmv : a.eval m = mv at hm'
  cases hm' with
  | s _ x hr _ =>
    obtain ⟨x', hx', hok⟩ := hG.hw.ok _ _ hl
    rw [hr] at hx'; injection hx' with hx'; subst hx'
    obtain ⟨b, rfl, hB, hmap⟩ := hok
    obtain ⟨ob, hrun, hmap'⟩ := ZHX hmap hu hkt key hi hkw hvw hc hlen
    have hb : b < w.heap.size := by obtain ⟨es, clock, hh, _⟩ := hmap; exact (Array.getElem?_eq_some_iff.1 hh).1
    unfold Oper.wp
    have : (execOp a.eval o).run P w = .ok .skip { w with heap := w.heap.setIfInBounds b ob } := by
      simp [execOp, ho, hmv, ek, ev, e1, hrun, Result.andThen]
    rw [this, Oper.upon_skip, hdst]
    refine hn _ _ _ hK ⟨ρ, I, hG.store hl hr ⟨b, rfl, hB, hmap'⟩ ⟨rfl, rfl, rfl, by simp, fun k hk => by simp only; rw [Array.getElem?_setIfInBounds_ne (by omega)]⟩ (fun b1 hb1 => ?_)⟩
    show (w.heap.setIfInBounds b ob)[b1]? = _
    rw [Array.getElem?_setIfInBounds_ne (fun e => hb1 (by rw [e]; rfl))]
theorem ZHo (hG : Gam n B w0 st a w ρ I) {o : Oper} (hd : dstOk n o.dst) {K : St → Prop} (h : MapNew T o.dst o.op K st) : StepOk P n B w0 o a w K := by
  intro next Q hn
  unfold MapNew at h
  split at h <;> first | exact h.elim | skip
  rename_i t d ho hdst
  rw [hdst] at hd
  split at h <;> first | exact h.elim | skip
  split at h <;> first | exact h.elim | skip
  rename_i kt e _ _ _ ht tk te htk hte
  unfold Oper.wp
  have : (execOp a.eval o).run P w = .ok (.value (.map (some w.heap.size))) (w.alloc (.map #[] 0)) := by
    simp [execOp, ho, run_makeMap, Result.andThen]
  rw [this, Oper.upon_value, hdst]
  have hmap : ∀ c : MC, c.ents = [] → MapAt (w.alloc (.map #[] 0)) w.heap.size c := fun c hc => ⟨#[], 0, World.alloc_heap_new w _, by simp [hc], ⟨by simp, by simp, by simp⟩, by simp, by simp [hc]⟩
  refine hn _ _ _ h ⟨_, I, (hG.new (w1 := w.alloc (.map #[] 0)) ((Below.refl _ w).alloc (Nat.le_refl _) _) d (.map (some w.heap.size)) _ ?_ (fun b hb => by simp [rootBlk] at hb; omega) (hG.old.ghn d hd)).put (d := some d) (fun k hk => by injection hk with hk; subst hk; exact hd) (.s d _ (ZAo _ _ _) rfl)⟩
  have hA : BlkOK B I (w.alloc (.map #[] 0)) (updρ ρ d (.map (some w.heap.size))) (.map (some w.heap.size)) (.mpa (kdOf tk.k) [] (.avs [])) := ⟨_, [], rfl, hG.base, hmap _ rfl, rfl, rfl, fun j u hu => by simp at hu⟩
  cases te.k <;> first | exact ⟨_, rfl, hG.base, hmap _ rfl⟩ | exact hA
end
section
variable {P : Program} {T : Tab} (hT : T.ok P) {n B : Nat} {w0 : Orig} {ops : Array Oper} {K : St → Prop} {o : Oper} {rest : List Oper} {st : St}
include hT
theorem ZAR (hg : o.guard = none) (h : ∀ K' : St → Prop, (∀ s, AOpsS P n B w0 ops K rest s → K' s) → MapUpd T o.dst o.op K' st) : AOpsS P n B w0 ops K (o :: rest) st := by
  intro a w ρ I hG next Q hnx
  rw [ZA3 hg hG]
  have h' := h _ fun _ h => h
  refine toIn (fun c' hc' => ?_) (ZHn hT hG h' next Q hnx)
  rw [hc'] at h'; exact h'
theorem ZBE (hg : o.guard = none) (h : ∀ K' : St → Prop, (∀ s, AOpsS P n B w0 ops K rest s → K' s) → MapUpdA T o.dst o.op K' st) : AOpsS P n B w0 ops K (o :: rest) st := by
  intro a w ρ I hG next Q hnx
  rw [ZA3 hg hG]
  have h' := h _ fun _ h => h
  refine toIn (fun c' hc' => ?_) (ZET hT hG h' next Q hnx)
  rw [hc'] at h'; exact h'
omit hT
theorem ZAS (T : Tab) (hg : o.guard = none) (hd : dstOk n o.dst) (h : ∀ K' : St → Prop, (∀ s, AOpsS P n B w0 ops K rest s → K' s) → MapNew T o.dst o.op K' st) : AOpsS P n B w0 ops K (o :: rest) st := by
  intro a w ρ I hG next Q hnx
  rw [ZA3 hg hG]
  have h' := h _ fun _ h => h
  refine toIn (fun c' hc' => ?_) (ZHo hG hd h' next Q hnx)
  rw [hc'] at h'; exact h'
end

/-! ### A function that hands over a row -/
def plainC (c : Cont) : Prop := match c with | .avs l => ∀ j, j < l.length → ∃ u, l.getD j .top = .v u | _ => True
theorem ZHp {c : Cont} (h : plainC c) {j : Nat} (hj : j < c.len) : ∃ u, c.at j = .v u := by
  cases c with
  | ints k l => exact ⟨_, rfl⟩
  | vals l => exact ⟨_, rfl⟩
  | avs l => exact h j hj
def PureRow (P : Program) (f : FuncId) (args : List AV) (e : TypeId) (sz : Nat) (c : Cont) : Prop :=
  (∃ fn, P.funcs[f]? = some fn ∧ (fn.name == "runtime.NumGoroutine") = false ∧ fn.body.isNone = false) ∧
  ∀ (w : World) (I : Nat → Prop) (vs : Array Value), (∀ b, I b → b < w.heap.size) → ConcL w.heap.size I w noId args vs.toList →
    Calls P f vs w fun en w' => ∃ v m xs, en = .returned v ∧ Below w.heap.size w w' ∧ w'.ownsRow w.heap.size e sz v m xs ∧ c.len = m * sz ∧ ∀ j u, xs[j]? = some u → c.at j = .v u
def finR (T : Tab) (res : List ResultVar) (e : TypeId) (sz : Nat) (c : Cont) (st : St) : Prop :=
  match resOf T st res with
  | some (φ, [.s d]) => φ ∧ lkH st.heap d = some (.row e sz c)
  | some (φ, [.v (.slice none 0 0)]) => φ ∧ c.len = 0
  | _ => False
def EndsR (T : Tab) (res : List ResultVar) (e : TypeId) (sz : Nat) (c : Cont) : Exit → St → Prop
  | .ret, st => finR T res e sz c st
  | .normal, st => finR T res e sz c st
  | _, _ => False
theorem ZEb {P : Program} {T : Tab} (hT : T.ok P) {n : Nat} {f : FuncId} {fn : Func} {c : Code} {res : List ResultVar} {args : List AV} {e : TypeId} {sz : Nat} {cc : Cont} (hpl : plainC cc) (hf : P.funcs[f]? = some fn) (hb : fn.body = some c) (hname : (fn.name == "runtime.NumGoroutine") = false) (hres : fn.results.toList = res) (hn : fn.ntmps = n) (hle : args.length ≤ n)
    (h : ∀ B w0, (∀ id, w0.gh id = none) → w0.rd = none → AWP P n B w0 c (EndsR T res e sz cc) ⟨argEnv 0 args, []⟩) : PureRow P f args e sz cc := by
  refine ⟨⟨fn, hf, hname, by rw [hb]; rfl⟩, fun w I vs hI hargs => ?_⟩
  refine ZBo hf hb rfl rfl (h w.heap.size ⟨w, I, fun _ => none, [], none⟩ (fun _ => rfl) rfl) ⟨noId, I, ?_⟩ fun en st' a' w' ρ I' h1 hG => ?_
  · have hsz : vs.size = args.length := by rw [← Array.length_toList, hargs.1]
    exact ⟨Marks.nil, by simp [hn]; omega, fun s => ZC0 hargs s, ⟨fun id blk hk => (by cases hk), fun _ _ _ _ _ _ _ _ hk => (by cases hk), fun _ _ _ _ hk => (by cases hk), hI⟩, Below.refl _ _, Nat.le_refl _, ⟨fun b hb => .inl hb, (fun _ _ h => nomatch h), fun _ _ => rfl, fun b hb => ⟨hb, rfl⟩⟩⟩
  · have key : finR T res e sz cc st' → ∃ v, (results fn a'.tmps).run P w' = .ok v w' ∧ ∃ v1 m xs, Ending.returned v = .returned v1 ∧ Below w.heap.size w w' ∧ w'.ownsRow w.heap.size e sz v1 m xs ∧ cc.len = m * sz ∧ ∀ j u, xs[j]? = some u → cc.at j = .v u := fun hfin => by
      unfold finR at hfin
      split at hfin
      · rename_i φ d hl
        obtain ⟨hφ, hk⟩ := hfin
        subst hres
        obtain ⟨v, h2, h3⟩ := ZGi hT hG hl hφ
        simp only [retOf] at h3
        cases h3 with
        | s _ x hr _ =>
          obtain ⟨x', hx', m, xs, ho, hlen, hc⟩ := hG.hw.ok _ _ hk
          rw [hr] at hx'; injection hx' with hx'; subst hx'
          refine ⟨_, h2, _, m, xs, rfl, hG.below, ho, hlen, fun j u hu => ?_⟩
          have hj : j < cc.len := by have := (List.getElem?_eq_some_iff.1 hu).1; rw [hlen, ← ho.1]; exact this
          obtain ⟨u', hu'⟩ := ZHp hpl hj
          have := hc j u hu
          rw [hu'] at this
          rw [hu', this.v_inv]
      · rename_i φ hl
        obtain ⟨hφ, hk⟩ := hfin
        subst hres
        obtain ⟨v, h2, h3⟩ := ZGi hT hG hl hφ
        simp only [retOf] at h3
        obtain rfl := h3.v_inv
        exact ⟨_, h2, _, 0, [], rfl, hG.below, World.ownsRow_nil _ _ _ _, by rw [hk]; simp, fun j u hu => by simp at hu⟩
      · exact hfin.elim
    cases en with
    | ret => exact ⟨.inl rfl, key h1⟩
    | normal => exact ⟨.inr rfl, key h1⟩
    | _ => exact h1.elim
theorem ZBr {w : World} {b b' : Nat} {e : TypeId} {sz : Nat} {v : Value} {m : Nat} {xs : List Value} (h : w.ownsRow b e sz v m xs) (hle : b' ≤ b) : w.ownsRow b' e sz v m xs := by
  refine ⟨h.1, ?_⟩
  rcases h.2 with hn | ⟨g, cap, cur, rfl, h1, r⟩
  · exact .inl hn
  · exact .inr ⟨g, cap, cur, rfl, Nat.le_trans hle h1, r⟩
def RowCall (P : Program) (dst : Option Nat) (op : Op) (K : St → Prop) (st : St) : Prop :=
  match callee? st.ev op, dst with
  | some (ψ, k, args), some d => (ψ ∧ condL args) ∧ ∃ e sz c, PureRow P k (pubL st.heap args) e sz c ∧ K ⟨(d, .s d) :: killE d st.env, (d, .row e sz c) :: killH d st.heap⟩
  | _, _ => False
theorem ZHJ {P : Program} {n B : Nat} {w0 : Orig} {st : St} {a : Act} {w : World} {ρ : Nat → Option Value} {I : Nat → Prop} (hG : Gam n B w0 st a w ρ I) {o : Oper} (hd : dstOk n o.dst) {K : St → Prop} (h : RowCall P o.dst o.op K st) : StepOk P n B w0 o a w K := by
  intro next Q hn
  unfold RowCall at h
  split at h <;> first | exact h.elim | skip
  rename_i ψ k args d hc hdst
  rw [hdst] at hd
  obtain ⟨⟨hψ, hcond⟩, e, sz, c, ⟨⟨fn, hf, hname, hbody⟩, hcall⟩, hK⟩ := h
  obtain ⟨vs, hrun, hvs⟩ := ZBM (fun x => hG.ev x) hc hψ hf hname hbody
  unfold Oper.wp
  rw [hrun, Oper.upon_enter]
  refine (hcall w (allB w) vs (fun b hb => hb) ⟨by rw [ZAp]; exact hvs.1, fun j hj => ?_⟩).mono fun en w' he => ?_
  · rw [ZAp] at hj
    rw [ZBy _ _ _ hj]
    exact ZFi false hG.hw (fun h => by cases h) hG.hw.lt (fun b _ h => h) 6 (.inl rfl) ((hvs.2 j hj).strip (ZA4 hcond j))
  · obtain ⟨v, m, xs, rfl, hb, ho, hlen, hcc⟩ := he
    have ho' : w'.ownsRow B e sz v m xs := ZBr ho hG.base
    have := ZDJ hG d hd hb ho' (fun b hb' => (ho.lt b (by rw [← ZAi ho]; exact hb')).1) c hlen (fun j u hu => by rw [hcc j u hu]; exact .v _)
    rw [hdst]
    exact hn _ _ _ hK this
theorem ZHq {P : Program} {n B : Nat} {w0 : Orig} {ops : Array Oper} {K : St → Prop} {o : Oper} {rest : List Oper} {st : St} (hg : o.guard = none) (hd : dstOk n o.dst) (h : ∀ K' : St → Prop, (∀ s, AOpsS P n B w0 ops K rest s → K' s) → RowCall P o.dst o.op K' st) : AOpsS P n B w0 ops K (o :: rest) st := by
  intro a w ρ I hG next Q hnx
  rw [ZA3 hg hG]
  have h' := h _ fun _ h => h
  refine toIn (fun c' hc' => ?_) (ZHJ hG hd h' next Q hnx)
  rw [hc'] at h'; exact h'

attribute [push_cast] MapUpd MapNew kdOf MC.upd MC.kd MC.ents Key.isI Key.wf vwf keyFor pvLookup RowCall EndsR finR
theorem con1 {α : Type} {A B C : α → Prop} (r : α) (p : A r) (o : B r) (k : C r) : ∃ r, (A r ∧ B r) ∧ C r := ⟨r, ⟨p, o⟩, k⟩
theorem con2 {α : Type} {b : Prop} {A B C : α → Prop} (r : α) (p : b → A r) (o : b → B r) (k : C r) : ∃ r, (b → A r ∧ B r) ∧ C r := ⟨r, fun hb => ⟨p hb, o hb⟩, k⟩
theorem con3 {α : Type} {b g : Prop} {A B C : α → Prop} (hg : b → g) (r : α) (p : b → A r) (o : b → B r) (k : C r) : ∃ r, (b → g ∧ A r ∧ B r) ∧ C r := ⟨r, fun hb => ⟨hg hb, p hb, o hb⟩, k⟩
end Go.Eng
namespace Go.Eng
open Go.RowKit
set_option linter.unusedVariables false

theorem ZHr {w : World} {l : Nat} {r : Loop} {o' : Obj} (hl : w.heap[l]? = some (.loop r)) {ad : Addr} {v : Value} (h : w.cell? ad = some v) : (w.putObj l o').cell? ad = some v := by
  have hn : ad.block ≠ l := fun hm => by
    unfold World.cell? at h
    rw [hm] at h
    simp [hl] at h
  rw [World.cell?_of_block (w := w) (a := ad) (World.putObj_heap_other hn)]; exact h
section
variable {n B : Nat} {w0 : Orig} {st : St} {a : Act} {w : World} {ρ : Nat → Option Value} {I : Nat → Prop}

theorem Gam.envL (h : Gam n B w0 st a w ρ I) {l : Nat} {r : Loop} (o' : Obj) (hl : w.heap[l]? = some (.loop r)) (s : Nat) : Conc B I (w.putObj l o') ρ (lk st.env s) (a.tmps.getD s undef) :=
  (h.env s).monoC (Nat.le_refl _) (fun _ h => h) (fun ad v _ hv => ZHr hl hv) _ (fun _ _ h => h)
end

def setE : List Nat → List AV → List (Nat × AV) → List (Nat × AV)
  | p :: ps, x :: xs, E => setE ps xs ((p, x) :: E)
  | _, _, E => E
theorem Gam.setE {n B : Nat} {w0 : Orig} {H : List (Nat × Blk)} {w : World} {ρ : Nat → Option Value} {I : Nat → Prop} {ds : List Deferred} : ∀ (ps : List Nat) (xs : List AV) (vs : List Value) (E : List (Nat × AV)) (tmps : Array Value), (∀ p ∈ ps, p < n) → ConcL B I w ρ xs vs → ps.length = xs.length →
    Gam n B w0 ⟨E, H⟩ { tmps := tmps, defers := ds } w ρ I → Gam n B w0 ⟨Eng.setE ps xs E, H⟩ { tmps := (ps.zip vs).foldl (fun t (p : Nat × Value) => t.setIfInBounds p.1 p.2) tmps, defers := ds } w ρ I
  | [], xs, vs, E, tmps, _, _, _, h => by simpa [Eng.setE] using h
  | p :: ps, x :: xs, v :: vs, E, tmps, hp, hc, hl, h => by
    have h1 := h.put (d := some p) (fun k hk => by injection hk with hk; subst hk; exact hp _ (by simp)) (x := x) (u := v) (by simpa using hc.2 0 (by simp))
    have := Gam.setE ps xs vs ((p, x) :: E) (tmps.setIfInBounds p v) (fun q hq => hp q (by simp [hq])) ⟨by simpa using hc.1, fun j hj => by simpa using hc.2 (j + 1) (by simpa using hj)⟩ (by simpa using hl) h1
    simpa [Eng.setE] using this
  | p :: ps, [], vs, E, tmps, _, _, hl, h => by simp at hl
  | p :: ps, x :: xs, [], E, tmps, _, hc, _, h => by have := hc.1; simp at this

def EndsB (N : Nat) (R : List (Nat × Blk) → Prop) : Exit → St → Prop
  | .normal, st => geH N (keepH N st.heap) ∧ R (keepH N st.heap)
  | _, _ => False
def EndsRf (N : Nat) (R : List (Nat × Blk) → Prop) : Exit → St → Prop
  | .normal, st => geH N (keepH N st.heap) ∧ R (keepH N st.heap)
  | .ret, st => geH N (keepH N st.heap) ∧ R (keepH N st.heap)
  | _, _ => False
def allGe (N : Nat) : List AV → Prop
  | [] => True
  | x :: r => x.ge N ∧ allGe N r
attribute [push_cast] setE EndsB EndsRf allGe
end Go.Eng
namespace Go.Eng
open Go.RowKit
set_option linter.unusedVariables false

def AAnyS (P : Program) (n B : Nat) (w0 : Orig) (ops : Array Oper) (K : St → Prop) : Nat → Array Bool → St → Prop
  | 0, listed, st => Region.ready .any ops listed = [] ∧ K st
  | fuel + 1, listed, st => (Region.ready .any ops listed = [] → K st) ∧ ∀ i ∈ Region.ready .any ops listed, ∃ o, ops[i]? = some o ∧ SStep P n B w0 ops o (fun s => AAnyS P n B w0 ops K fuel (listed.setIfInBounds i true) s) st
def AllJS (P : Program) (n B : Nat) (w0 : Orig) (ops : Array Oper) (K : St → Prop) (fuel : Nat) (listed : Array Bool) (st : St) : List Nat → Prop
  | [] => True
  | i :: r => (∃ o, ops.toList[i]? = some o ∧ ∀ K' : St → Prop, (∀ s, AAnyS P n B w0 ops K fuel (listed.setIfInBounds i true) s → K' s) → AOpsS P n B w0 ops K' [o] st) ∧ AllJS P n B w0 ops K fuel listed st r
theorem AllJS.spec {P : Program} {n B : Nat} {w0 : Orig} {ops : Array Oper} {K : St → Prop} {fuel : Nat} {listed : Array Bool} {st : St} : ∀ {js : List Nat}, AllJS P n B w0 ops K fuel listed st js → ∀ i ∈ js, ∃ o, ops[i]? = some o ∧ SStep P n B w0 ops o (fun s => AAnyS P n B w0 ops K fuel (listed.setIfInBounds i true) s) st
  | [], _, i, hi => by cases hi
  | j :: r, h, i, hi => by
    rcases List.mem_cons.1 hi with rfl | hi
    · obtain ⟨o, ho, h1⟩ := h.1
      exact ⟨o, by rw [← Array.getElem?_toList]; exact ho, h1 _ fun _ h => h⟩
    · exact AllJS.spec h.2 i hi
theorem PureRow.empty {P : Program} {f : FuncId} {fr : Bool} {c : Nat → Nat → AV} {sz off : Nat} {e : TypeId} {sz' : Nat} {cc : Cont} (h : ∀ A cap, PureRow P f [.v (.slice A 0 cap)] e sz' cc) : PureRow P f [.i fr c sz off 0] e sz' cc := by
  refine ⟨(h none 0).1, fun w I vs hI hc => ?_⟩
  have h0 := hc.2 0 (by simp)
  simp only [List.getD_cons_zero] at h0
  generalize hv : vs.toList.getD 0 undef = u at h0
  cases h0 with
  | i _ _ _ _ _ cap A uu hcap hA hcc =>
    refine (h A cap).2 w I vs hI ⟨by have := hc.1; simpa using this, fun j hj => ?_⟩
    have : j = 0 := by simp at hj; omega
    subst this
    simp only [List.getD_cons_zero]
    rw [hv]; exact .v _

/-! ### The keys of a map, sorted -/
def KeysCalls (P : Program) (k : FuncId) (g : Nat) (t : TypeId) : Prop :=
  (∃ fn, P.funcs[k]? = some fn ∧ (fn.name == "runtime.NumGoroutine") = false ∧ fn.body.isNone = false) ∧
  ∀ (mb : Option Nat) (w : World), Calls P k #[.map mb] w fun e w' => e = .returned (.func (.func g) #[] #[.pointer (some ⟨w.heap.size, 0, none⟩)]) ∧ w' = w.alloc (.cells #[.map mb] t)
def KeysStep (P : Program) (dst : Option Nat) (op : Op) (K : St → Prop) (st : St) : Prop :=
  match callee? st.ev op, dst with
  | some (ψ, k, args), some d =>
    match stripL args with
    | [.s mid] => (ψ ∧ condL args ∧ mid ≠ d) ∧ ∃ g t c, lkH st.heap mid = some (.mp c) ∧ KeysCalls P k g t ∧ K ⟨(d, .f (.func g) [.p d 0]) :: killE d st.env, (d, .box t (.avs [.s mid])) :: killH d st.heap⟩
    | _ => False
  | _, _ => False
def SortCalls (P : Program) (k : FuncId) (g : Nat) (t e : TypeId) (c : MC) (out : List Value) : Prop :=
  (∃ fn, P.funcs[k]? = some fn ∧ (fn.name == "runtime.NumGoroutine") = false ∧ fn.body.isNone = false) ∧
  ∀ (w : World) (bp bm : Nat), w.heap[bp]? = some (.cells #[.map (some bm)] t (0, 0)) → MapAt w bm c →
    Calls P k #[.func (.func g) #[] #[.pointer (some ⟨bp, 0, none⟩)]] w fun en w' => ∃ v, en = .returned v ∧ Below w.heap.size w w' ∧ w'.ownsRow w.heap.size e 1 v out.length out
def SortStep (P : Program) (dst : Option Nat) (op : Op) (K : St → Prop) (st : St) : Prop :=
  match callee? st.ev op, dst with
  | some (ψ, k, args), some d =>
    match stripL args with
    | [.f (.func g) [.p bid 0]] => (ψ ∧ condL args) ∧ ∃ t mid c e out, lkH st.heap bid = some (.box t (.avs [.s mid])) ∧ lkH st.heap mid = some (.mp c) ∧ SortCalls P k g t e c out ∧ K ⟨(d, .s d) :: killE d st.env, (d, .row e 1 (.vals out)) :: killH d st.heap⟩
    | _ => False
  | _, _ => False
attribute [push_cast] KeysStep SortStep stripL
end Go.Eng
namespace Go.Eng
open Go.RowKit
set_option linter.unusedVariables false

def lookL : List (List Bool × St) → List Bool → Option St
  | [], _ => none
  | (L, S) :: r, M => if L = M then some S else lookL r M
def falses : List Bool → Nat
  | [] => 0
  | true :: r => falses r
  | false :: r => falses r + 1
theorem ZEc : ∀ (L : List Bool) (i : Nat), L[i]? = some false → falses (L.set i true) + 1 = falses L
  | [], i, h => by simp at h
  | b :: r, 0, h => by
    simp at h; subst h; simp [falses]
  | b :: r, i + 1, h => by
    have := ZEc r i (by simpa using h)
    cases b <;> simp [falses] <;> omega
theorem ZDv : ∀ (L : List Bool) (i : Nat), falses L = 0 → L[i]? ≠ some false
  | [], i, _ => by simp
  | true :: r, 0, _ => by simp
  | true :: r, i + 1, h => by simpa using ZDv r i h
  | false :: r, _, h => by simp [falses] at h
theorem getFalse {L : List Bool} {j : Nat} (h : L.toArray.getD j true = false) : L[j]? = some false := by
  simp only [Array.getD_eq_getD_getElem?, List.getElem?_toArray] at h
  cases hj : L[j]? with
  | none => rw [hj] at h; simp at h
  | some b => rw [hj] at h; simp at h; rw [h]
def DagN (P : Program) (n B : Nat) (w0 : Orig) (ops : Array Oper) (K : St → Prop) (all : List (List Bool × St)) (p : List Bool × St) : Prop :=
  (Region.ready .any ops p.1.toArray = [] → K p.2) ∧ ∀ i ∈ Region.ready .any ops p.1.toArray, ∃ o, ops.toList[i]? = some o ∧ ∀ K' : St → Prop, (∀ s S', lookL all (p.1.set i true) = some S' → (∀ a w, G n B w0 s a w → G n B w0 S' a w) → K' s) → AOpsS P n B w0 ops K' [o] p.2
def DagL (P : Program) (n B : Nat) (w0 : Orig) (ops : Array Oper) (K : St → Prop) (all : List (List Bool × St)) : List (List Bool × St) → Prop
  | [] => True
  | p :: r => DagN P n B w0 ops K all p ∧ DagL P n B w0 ops K all r
theorem ZDw {P : Program} {n B : Nat} {w0 : Orig} {ops : Array Oper} {K : St → Prop} {all : List (List Bool × St)} : ∀ {l : List (List Bool × St)}, DagL P n B w0 ops K all l → ∀ {L S}, lookL l L = some S → DagN P n B w0 ops K all (L, S)
  | [], _, L, S, h => by cases h
  | (M, S') :: r, hd, L, S, h => by
    simp only [lookL] at h
    split at h
    · rename_i e; subst e; injection h with h; subst h; exact hd.1
    · exact ZDw hd.2 h
theorem ZJU {P : Program} {n B : Nat} {w0 : Orig} {ops : Array Oper} {K : St → Prop} {all : List (List Bool × St)} (hall : DagL P n B w0 ops K all all) {Q : Exit → Act → World → Prop} (hQ : ∀ st' a' w', K st' → G n B w0 st' a' w' → Q .normal a' w') :
    ∀ (fuel : Nat) (L : List Bool) (S : St) (a : Act) (w : World), lookL all L = some S → falses L ≤ fuel → L.length = ops.size → G n B w0 S a w → wpAnyIn (fo w0) 0 P .any ops Q fuel L.toArray a w
  | 0, L, S, a, w, hl, hf, hs, hG => by
    have hr : Region.ready .any ops L.toArray = [] := by
      refine List.eq_nil_iff_forall_not_mem.2 fun j hj => ?_
      exact ZDv L j (by omega) (getFalse (mem_ready.1 hj).1)
    exact ⟨hr, hQ S a w ((ZDw hall hl).1 hr) hG⟩
  | fuel + 1, L, S, a, w, hl, hf, hs, hG => by
    have hN := ZDw hall hl
    refine ⟨fun he => hQ S a w (hN.1 he) hG, fun i hi => ?_⟩
    obtain ⟨o, ho, hst⟩ := hN.2 i hi
    have hL : L[i]? = some false := getFalse (mem_ready.1 hi).1
    obtain ⟨ρ, I, hg⟩ := hG
    have ho' : ops[i]? = some o := by rw [← Array.getElem?_toList]; exact ho
    have := hst (fun s => ∃ S', lookL all (L.set i true) = some S' ∧ ∀ a w, G n B w0 s a w → G n B w0 S' a w) (fun s S' h1 h2 => ⟨S', h1, h2⟩) a w ρ I hg (wpAnyIn (fo w0) 0 P .any ops Q fuel (L.toArray.setIfInBounds i true)) Q (fun st' a' w' hK hG' => by
      obtain ⟨S', h1, h2⟩ := hK
      have h5 := ZEc L i hL
      have h6 := ZJU hall hQ fuel (L.set i true) S' a' w' h1 (by omega) (by simpa using hs) (h2 _ _ hG')
      simpa using h6)
    unfold wpOpIn
    simp only [ho']
    exact this
theorem ZCA {P : Program} {n B : Nat} {w0 : Orig} {Q : Exit → St → Prop} {st : St} {id : Nat} {ops : Array Oper} (hm : P.follows .mixedOrders = true) (all : List (List Bool × St)) (h0 : lookL all (List.replicate ops.size false) = some st) (h : ∀ K : St → Prop, (∀ s, Q .normal s → K s) → DagL P n B w0 ops K all all) : AWP P n B w0 (.region id ops true) Q st := by
  intro a w hG
  refine wpIn_region_any hm ?_
  have hG' : G n B w0 st a { w with drawn := w.drawn + 1 } := by
    obtain ⟨ρ, I, hg⟩ := hG
    exact ⟨ρ, I, hg.quiet ⟨⟨rfl, rfl, rfl, Nat.le_refl _, fun _ _ => rfl⟩, fun _ h => h, fun _ h h' => absurd h h', hg.hw.lt⟩⟩
  have hle : ∀ n, falses (List.replicate n false) ≤ n := fun n => by
    induction n with
    | zero => simp [falses]
    | succ n ih => simp only [List.replicate_succ, falses]; omega
  have := ZJU (h (fun s => Q .normal s) fun _ h => h) (Q := fun e a' w' => ∃ st', Q e st' ∧ G n B w0 st' a' w') (fun st' _ _ hK hG' => ⟨st', hK, hG'⟩) ops.size (List.replicate ops.size false) st a _ h0 (hle _) (by simp) hG'
  simpa using this
def DagJ (P : Program) (n B : Nat) (w0 : Orig) (ops : Array Oper) (all : List (List Bool × St)) (L : List Bool) (S : St) : List Nat → Prop
  | [] => True
  | i :: r => (∃ o, ops.toList[i]? = some o ∧ ∀ K' : St → Prop, (∀ s S', lookL all (L.set i true) = some S' → (∀ a w, G n B w0 s a w → G n B w0 S' a w) → K' s) → AOpsS P n B w0 ops K' [o] S) ∧ DagJ P n B w0 ops all L S r
theorem DagJ.spec {P : Program} {n B : Nat} {w0 : Orig} {ops : Array Oper} {all : List (List Bool × St)} {L : List Bool} {S : St} : ∀ {js : List Nat}, DagJ P n B w0 ops all L S js → ∀ i ∈ js, ∃ o, ops.toList[i]? = some o ∧ ∀ K' : St → Prop, (∀ s S', lookL all (L.set i true) = some S' → (∀ a w, G n B w0 s a w → G n B w0 S' a w) → K' s) → AOpsS P n B w0 ops K' [o] S
  | [], _, i, hi => by cases hi
  | j :: r, h, i, hi => by
    rcases List.mem_cons.1 hi with rfl | hi
    · exact h.1
    · exact DagJ.spec h.2 i hi
theorem ZAI {P : Program} {n B : Nat} {w0 : Orig} {ops : Array Oper} {K : St → Prop} {all : List (List Bool × St)} {L : List Bool} {S : St} {r : List (List Bool × St)} (j : Nat) (js : List Nat) (hr : decide (Region.ready .any ops L.toArray = j :: js) = true) (h : DagJ P n B w0 ops all L S (j :: js)) (h2 : DagL P n B w0 ops K all r) : DagL P n B w0 ops K all ((L, S) :: r) :=
  ⟨⟨fun he => (by rw [of_decide_eq_true hr] at he; cases he), fun i hi => by rw [of_decide_eq_true hr] at hi; exact h.spec i hi⟩, h2⟩
theorem ZBZ {P : Program} {n B : Nat} {w0 : Orig} {ops : Array Oper} {K : St → Prop} {all : List (List Bool × St)} {L : List Bool} {S : St} (hr : decide (Region.ready .any ops L.toArray = []) = true) (h : K S) : DagL P n B w0 ops K all [(L, S)] :=
  ⟨⟨fun _ => h, fun i hi => by rw [of_decide_eq_true hr] at hi; cases hi⟩, trivial⟩
theorem ZBJ {P : Program} {n B : Nat} {w0 : Orig} {ops : Array Oper} {all : List (List Bool × St)} {L : List Bool} {S : St} {i : Nat} {r : List Nat} {o : Oper} (ho : ops.toList[i]? = some o) (h : ∀ K' : St → Prop, (∀ s S', lookL all (L.set i true) = some S' → (∀ a w, G n B w0 s a w → G n B w0 S' a w) → K' s) → AOpsS P n B w0 ops K' [o] S) (hr : DagJ P n B w0 ops all L S r) : DagJ P n B w0 ops all L S (i :: r) := ⟨⟨o, ho, h⟩, hr⟩
theorem ZBa {P : Program} {n B : Nat} {w0 : Orig} {ops : Array Oper} {all : List (List Bool × St)} {L : List Bool} {S : St} : DagJ P n B w0 ops all L S [] := trivial
def wkE2 (env : List (Nat × AV)) : List Nat → List (Nat × AV) → Prop
  | _, [] => True
  | seen, (k, x) :: r => (seen.contains k = true ∨ lk env k = x) ∧ wkE2 env (k :: seen) r
def wkH2 (H : List (Nat × Blk)) : List Nat → List (Nat × Blk) → Prop
  | _, [] => True
  | seen, (k, x) :: r => (seen.contains k = true ∨ lkH H k = some x) ∧ wkH2 H (k :: seen) r
theorem ZHs {env : List (Nat × AV)} : ∀ {l : List (Nat × AV)} {seen : List Nat}, wkE2 env seen l → ∀ s, seen.contains s = false → lk l s = .top ∨ lk l s = lk env s
  | [], _, _, _, _ => .inl rfl
  | (k, x) :: r, seen, h, s, hs => by
    simp only [lk]
    by_cases e : k = s
    · rw [if_pos e]; subst e
      rcases h.1 with h1 | h1
      · rw [hs] at h1; cases h1
      · exact .inr h1.symm
    · rw [if_neg e]
      exact ZHs h.2 s (by simp only [List.contains_cons, hs, Bool.or_false, beq_eq_false_iff_ne]; exact fun h => e h.symm)
theorem ZDx {H : List (Nat × Blk)} : ∀ {l : List (Nat × Blk)} {seen : List Nat}, wkH2 H seen l → ∀ s b, seen.contains s = false → lkH l s = some b → lkH H s = some b
  | [], _, _, _, _, _, h => by cases h
  | (k, x) :: r, seen, h, s, b, hs, hb => by
    simp only [lkH] at hb
    by_cases e : k = s
    · rw [if_pos e] at hb; subst e
      injection hb with hb; subst hb
      rcases h.1 with h1 | h1
      · rw [hs] at h1; cases h1
      · exact h1
    · rw [if_neg e] at hb
      exact ZDx h.2 s b (by simp only [List.contains_cons, hs, Bool.or_false, beq_eq_false_iff_ne]; exact fun h => e h.symm) hb
theorem G.wk2 {n B : Nat} {w0 : Orig} {st st' : St} (hE : wkE2 st.env [] st'.env) (hH : wkH2 st.heap [] st'.heap) : ∀ a w, G n B w0 st a w → G n B w0 st' a w := fun a w ⟨ρ, I, h⟩ =>
  ⟨ρ, I, h.defers, h.size, fun s => by
    rcases ZHs hE s rfl with e | e
    · rw [e]; exact .top _
    · rw [e]; exact h.env s, ⟨fun id blk hk => h.hw.ok id blk (ZDx hH _ _ rfl hk), fun id id' blk blk' x x' b hne h1 h2 => h.hw.apart id id' blk blk' x x' b hne (ZDx hH _ _ rfl h1) (ZDx hH _ _ rfl h2), fun id blk x b h1 => h.hw.imm id blk x b (ZDx hH _ _ rfl h1), h.hw.lt⟩, h.below, h.base, h.old⟩
end Go.Eng
namespace Go.Eng
open Go.RowKit
set_option linter.unusedVariables false

def mvI (N k id : Nat) : Nat := if id < N then id + k else id
def AV.mv (N k : Nat) : AV → AV
  | .v x => .v x
  | .s id => .s (mvI N k id)
  | .w id off len => .w (mvI N k id) off len
  | .p id off => .p (mvI N k id) off
  | .i fr c sz off len => .i fr c sz off len
  | .q fr c sz e j => .q fr c sz e j
  | .a cs => .a (mvL N k cs)
  | .t cs => .t (mvL N k cs)
  | .f fn cs => .f fn (mvL N k cs)
  | .g b x => .g b (AV.mv N k x)
  | .top => .top
where mvL (N k : Nat) : List AV → List AV
  | [] => []
  | x :: r => AV.mv N k x :: mvL N k r
theorem ZBP (N k : Nat) (cs : List AV) : (AV.mv.mvL N k cs).length = cs.length := by
  induction cs with
  | nil => rfl
  | cons x r ih => simp [AV.mv.mvL, ih]
theorem ZDg (N k : Nat) (cs : List AV) (j : Nat) : (AV.mv.mvL N k cs).getD j .top = (cs.getD j .top).mv N k := by
  induction cs generalizing j with
  | nil => simp [AV.mv.mvL, AV.mv]
  | cons x r ih => cases j with
    | zero => simp [AV.mv.mvL]
    | succ j => simpa [AV.mv.mvL] using ih j
theorem Conc.mv {N k B : Nat} {I : Nat → Prop} {w : World} {ρ : Nat → Option Value} {x : AV} {u : Value} (h : Conc B I w ρ x u) : x.ids (fun id => id < k ∨ k + N ≤ id) → ∀ ρ', (∀ id, (id < k ∨ k + N ≤ id) → ρ' (mvI N k id) = ρ id) → Conc B I w ρ' (x.mv N k) u := by
  induction h with
  | v x => intro _ ρ' _; rw [AV.mv]; exact .v x
  | s id x h h1 => intro hi ρ' hr; rw [AV.mv]; rw [AV.ids] at hi; exact .s _ x (by rw [hr id hi]; exact h) h1
  | w id off len cap A x h hcap hA => intro hi ρ' hr; rw [AV.mv]; rw [AV.ids] at hi; exact .w _ off len cap A x (by rw [hr id hi]; exact h) hcap hA
  | p id off b x h hb => intro hi ρ' hr; rw [AV.mv]; rw [AV.ids] at hi; exact .p _ off b x (by rw [hr id hi]; exact h) hb
  | i fr c sz off len cap A u hcap hA hc ih => intro _ ρ' _; rw [AV.mv]; exact .i fr c sz off len cap A u hcap hA hc
  | q fr c sz e f ad u h2 h3 hcell hc ih => intro _ ρ' _; rw [AV.mv]; exact .q fr c sz e f ad u h2 h3 hcell hc
  | a cs us hl h ih => intro hi ρ' hr; rw [AV.mv]; rw [AV.ids] at hi; exact .a _ us (by rw [ZBP]; exact hl) fun j hj => by rw [ZBP] at hj; rw [ZDg]; exact ih j hj (ZAx hi j) ρ' hr
  | t cs us hl h ih => intro hi ρ' hr; rw [AV.mv]; rw [AV.ids] at hi; exact .t _ us (by rw [ZBP]; exact hl) fun j hj => by rw [ZBP] at hj; rw [ZDg]; exact ih j hj (ZAx hi j) ρ' hr
  | f fn cs us hl h ih => intro hi ρ' hr; rw [AV.mv]; rw [AV.ids] at hi; exact .f fn _ us (by rw [ZBP]; exact hl) fun j hj => by rw [ZBP] at hj; rw [ZDg]; exact ih j hj (ZAx hi j) ρ' hr
  | g b x u h h0 ih => intro hi ρ' hr; rw [AV.mv]; rw [AV.ids] at hi; exact .g b _ u (fun hb => ih hb hi ρ' hr) h0
  | top u => intro _ ρ' _; rw [AV.mv]; exact .top u
def Cont.mv (N k : Nat) : Cont → Cont
  | .ints q l => .ints q l
  | .vals l => .vals l
  | .avs l => .avs (AV.mv.mvL N k l)
def Blk.mv (N k : Nat) : Blk → Blk
  | .box t c => .box t (c.mv N k)
  | .row e sz c => .row e sz c
  | .mp c => .mp c
  | .mpa kd ks c => .mpa kd ks (c.mv N k)
  | .nst e c => .nst e (c.mv N k)
def Blk.ids (p : Nat → Prop) : Blk → Prop
  | .box _ (.avs l) => AV.idsL p l
  | .nst _ (.avs l) => AV.idsL p l
  | .mpa _ _ (.avs l) => AV.idsL p l
  | _ => True
def idsH (p : Nat → Prop) : List (Nat × Blk) → Prop
  | [] => True
  | (d, b) :: r => p d ∧ b.ids p ∧ idsH p r
theorem ZCB {p : Nat → Prop} : ∀ {H : List (Nat × Blk)}, idsH p H → ∀ {id b}, lkH H id = some b → p id ∧ b.ids p
  | [], _, _, _, h => by cases h
  | (d, c) :: r, hi, id, b, h => by
    simp only [lkH] at h
    split at h
    · rename_i e; injection h with h; subst h; subst e; exact ⟨hi.1, hi.2.1⟩
    · exact ZCB hi.2.2 h
theorem Cont.mv_len (N k : Nat) (c : Cont) : (c.mv N k).len = c.len := by cases c <;> simp [Cont.mv, Cont.len, ZBP]
theorem Cont.mv_at (N k : Nat) (c : Cont) (j : Nat) : (c.mv N k).at j = (c.at j).mv N k := by cases c <;> simp only [Cont.mv, Cont.at, AV.mv, ZDg]
theorem Cont.ids_at {p : Nat → Prop} {t : TypeId} {c : Cont} (h : (Blk.box t c).ids p) (j : Nat) : (c.at j).ids p := by
  cases c with
  | ints q l => simp only [Cont.at, AV.ids]
  | vals l => simp only [Cont.at, AV.ids]
  | avs l => exact ZAx h j
theorem Cont.ids_nst {p : Nat → Prop} {t : TypeId} {c : Cont} (h : (Blk.nst t c).ids p) (j : Nat) : (c.at j).ids p := by
  cases c with
  | ints q l => simp only [Cont.at, AV.ids]
  | vals l => simp only [Cont.at, AV.ids]
  | avs l => exact ZAx h j
theorem Cont.ids_mpa {p : Nat → Prop} {kd : Bool} {ks : List Key} {c : Cont} (h : (Blk.mpa kd ks c).ids p) (j : Nat) : (c.at j).ids p := by
  cases c with
  | ints k l => simp [Cont.at, AV.ids]
  | vals l => simp [Cont.at, AV.ids]
  | avs l => exact ZAx h j
def mvE (N k : Nat) : List (Nat × AV) → List (Nat × AV)
  | [] => []
  | (s, x) :: r => (s, x.mv N k) :: mvE N k r
def mvH (N k : Nat) : List (Nat × Blk) → List (Nat × Blk)
  | [] => []
  | (d, b) :: r => (mvI N k d, b.mv N k) :: mvH N k r
theorem ZJV (N k : Nat) : ∀ (E : List (Nat × AV)) (s : Nat), lk (mvE N k E) s = (lk E s).mv N k
  | [], s => by simp [mvE, lk, AV.mv]
  | (t, x) :: r, s => by
    simp only [mvE, lk]
    split
    · rfl
    · exact ZJV N k r s
theorem ZDy (N k : Nat) : ∀ {H : List (Nat × Blk)} (_ : idsH (fun id => id < k ∨ k + N ≤ id) H) {id : Nat} {b : Blk}, lkH (mvH N k H) id = some b → ∃ id0 b0, id = mvI N k id0 ∧ (id0 < k ∨ k + N ≤ id0) ∧ lkH H id0 = some b0 ∧ b = b0.mv N k
  | [], _, _, _, h => by cases h
  | (d, c) :: r, hi, id, b, h => by
    simp only [mvH, lkH] at h
    split at h
    · rename_i e; injection h with h; exact ⟨d, c, e.symm, hi.1, by simp [lkH], h.symm⟩
    · rename_i e
      obtain ⟨id0, b0, e1, e0, e2, e3⟩ := ZDy N k hi.2.2 h
      refine ⟨id0, b0, e1, e0, ?_, e3⟩
      simp only [lkH]
      rw [if_neg (fun hh => e (by rw [hh, e1]))]; exact e2
theorem G.mv {n B : Nat} {w0 : Orig} {st : St} {a : Act} {w : World} (hG : G n B w0 st a w) (N k : Nat) (hNk : N ≤ k) (hn : n ≤ k) (hE : idsE (fun id => id < k ∨ k + N ≤ id) st.env) (hH : idsH (fun id => id < k ∨ k + N ≤ id) st.heap) (hgh : ∀ id, k ≤ id → w0.gh id = none) : G n B w0 ⟨mvE N k st.env, mvH N k st.heap⟩ a w := by
  obtain ⟨ρ, I, h⟩ := hG
  have hρ : ∀ id, (id < k ∨ k + N ≤ id) → (fun j => if k ≤ j ∧ j < k + N then ρ (j - k) else ρ j) (mvI N k id) = ρ id := fun id hid => by
    unfold mvI
    split
    · simp only; rw [if_pos (by omega)]; congr 1; omega
    · simp only; rw [if_neg (by omega)]
  refine ⟨fun j => if k ≤ j ∧ j < k + N then ρ (j - k) else ρ j, I, h.defers, h.size, fun s => ?_, ⟨fun id blk hk => ?_, fun id id' b1 b2 x x' b hne k1 k2 hx hx' hb => ?_, fun id blk x b hk hx hb => ?_, h.hw.lt⟩, h.below, h.base, ⟨h.old.up, fun id x hx => ?_, h.old.ghn, h.old.keep⟩⟩
  · show Conc _ _ _ _ (lk (mvE N k st.env) s) _
    rw [ZJV]; exact (h.env s).mv (ZFB hE s) _ hρ
  · obtain ⟨id0, b0, rfl, e0, h2, rfl⟩ := ZDy N k hH hk
    obtain ⟨x, hx, hok⟩ := h.hw.ok id0 b0 h2
    refine ⟨x, by rw [← hx]; exact hρ id0 e0, ?_⟩
    cases b0 with
    | box t c =>
      obtain ⟨b, us, rfl, hB, hh, hl, hc⟩ := hok
      exact ⟨b, us, rfl, hB, hh, by rw [Cont.mv_len]; exact hl, fun j u hu => by rw [Cont.mv_at]; exact (hc j u hu).mv (Cont.ids_at (ZCB hH h2).2 j) _ hρ⟩
    | row e sz c => exact hok
    | mp c => exact hok
    | mpa kd ks c =>
      obtain ⟨b, vals, rfl, hB, hm, hl, hl2, hc⟩ := hok
      exact ⟨b, vals, rfl, hB, hm, hl, by rw [Cont.mv_len]; exact hl2, fun j u hu => by rw [Cont.mv_at]; exact (hc j u hu).mv (Cont.ids_mpa (ZCB hH h2).2 j) _ hρ⟩
    | nst e c =>
      obtain ⟨m, xs, ho, hl, hc⟩ := hok
      exact ⟨m, xs, ho, by rw [Cont.mv_len]; exact hl, fun j u hu => by rw [Cont.mv_at]; exact (hc j u hu).mv (Cont.ids_nst (ZCB hH h2).2 j) _ hρ⟩
  · obtain ⟨i1, c1, rfl, e1, g1, rfl⟩ := ZDy N k hH k1
    obtain ⟨i2, c2, rfl, e2, g2, rfl⟩ := ZDy N k hH k2
    have hx2 : ρ i1 = some x := by rw [← hρ i1 e1]; exact hx
    have hx3 : ρ i2 = some x' := by rw [← hρ i2 e2]; exact hx'
    exact h.hw.apart i1 i2 c1 c2 x x' b (fun e => hne (by rw [e])) g1 g2 hx2 hx3 hb
  · obtain ⟨i1, c1, rfl, e1, g1, rfl⟩ := ZDy N k hH hk
    have hx2 : ρ i1 = some x := by rw [← hρ i1 e1]; exact hx
    exact h.hw.imm i1 c1 x b g1 hx2 hb
  · have : ¬ (k ≤ id ∧ id < k + N) := fun hh => by rw [hgh id hh.1] at hx; cases hx
    show (if k ≤ id ∧ id < k + N then ρ (id - k) else ρ id) = x
    rw [if_neg this]; exact h.old.gh id x hx
theorem awp_mv {P : Program} {n B : Nat} {w0 : Orig} {c : Code} {Q : Exit → St → Prop} {st : St} (N k : Nat) (hNk : N ≤ k) (hn : n ≤ k) (hE : idsE (fun id => id < k ∨ k + N ≤ id) st.env) (hH : idsH (fun id => id < k ∨ k + N ≤ id) st.heap) (hgh : ∀ id, k ≤ id → w0.gh id = none) (h : AWP P n B w0 c Q ⟨mvE N k st.env, mvH N k st.heap⟩) : AWP P n B w0 c Q st := fun a w hG => h a w (hG.mv N k hNk hn hE hH hgh)
attribute [push_cast] mvI AV.mv AV.mv.mvL Cont.mv Blk.mv Blk.ids idsH mvE mvH
end Go.Eng
namespace Go.Eng
open Go.RowKit
set_option linter.unusedVariables false
theorem ZAy {P : Program} {n B : Nat} {w0 : Orig} {ops : Array Oper} {K : St → Prop} {o : Oper} {rest : List Oper} {st : St} (st' : St) (h : ∀ a w, G n B w0 st a w → G n B w0 st' a w) (h2 : AOpsS P n B w0 ops K (o :: rest) st') : AOpsS P n B w0 ops K (o :: rest) st := by
  intro a w ρ I hG next Q hnx
  obtain ⟨ρ', I', hG'⟩ := h a w ⟨ρ, I, hG⟩
  exact h2 a w ρ' I' hG' next Q hnx
theorem ZAk {P : Program} {n B : Nat} {w0 : Orig} {c : Code} {Q : Exit → St → Prop} {st : St} (st' : St) (h : ∀ a w, G n B w0 st a w → G n B w0 st' a w) (h2 : AWP P n B w0 c Q st') : AWP P n B w0 c Q st :=
  fun a w hG => h2 a w (h a w hG)
theorem ZDh {P : Program} {n B : Nat} {w0 : Orig} {c : Code} {Q : Exit → St → Prop} {st : St} (S : St) (h2 : Q .normal S) (h1 : AWP P n B w0 c (fun e s => e = .normal ∧ ∀ a w, G n B w0 s a w → G n B w0 S a w) st) : AWP P n B w0 c Q st := fun a w hG =>
  wpIn_mono (h1 a w hG) fun e a' w' ⟨s, ⟨he, hs⟩, hG'⟩ => by subst he; exact ⟨S, h2, hs _ _ hG'⟩
theorem ZDi (p : Nat → Prop) : ∀ (l : List AV), AV.norL l = true → AV.idsL p l
  | [], _ => by simp only [AV.idsL]
  | x :: r, h => by
    simp only [AV.norL, Bool.and_eq_true] at h
    simp only [AV.idsL]
    exact ⟨nor_ids p x h.1, ZDi p r h.2⟩
where nor_ids (p : Nat → Prop) : ∀ (x : AV), x.nor = true → x.ids p
  | .v _, _ => by simp only [AV.ids]
  | .s _, h => by simp [AV.nor] at h
  | .w _ _ _, h => by simp [AV.nor] at h
  | .p _ _, h => by simp [AV.nor] at h
  | .i _ _ _ _ _, _ => by simp only [AV.ids]
  | .q _ _ _ _ _, _ => by simp only [AV.ids]
  | .a cs, h => by simp only [AV.nor] at h; simp only [AV.ids]; exact ZDi p cs h
  | .t cs, h => by simp only [AV.nor] at h; simp only [AV.ids]; exact ZDi p cs h
  | .f _ cs, h => by simp only [AV.nor] at h; simp only [AV.ids]; exact ZDi p cs h
  | .g _ x, h => by simp only [AV.nor] at h; simp only [AV.ids]; exact nor_ids p x h
  | .top, _ => by simp only [AV.ids]
theorem ZFD (N k : Nat) : ∀ (l : List AV), AV.norL l = true → AV.mv.mvL N k l = l
  | [], _ => rfl
  | x :: r, h => by
    simp only [AV.norL, Bool.and_eq_true] at h
    simp only [AV.mv.mvL]
    rw [nor_mv N k x h.1, ZFD N k r h.2]
where nor_mv (N k : Nat) : ∀ (x : AV), x.nor = true → x.mv N k = x
  | .v _, _ => rfl
  | .s _, h => by simp [AV.nor] at h
  | .w _ _ _, h => by simp [AV.nor] at h
  | .p _ _, h => by simp [AV.nor] at h
  | .i _ _ _ _ _, _ => rfl
  | .q _ _ _ _ _, _ => rfl
  | .a cs, h => by simp only [AV.nor] at h; simp only [AV.mv]; rw [ZFD N k cs h]
  | .t cs, h => by simp only [AV.nor] at h; simp only [AV.mv]; rw [ZFD N k cs h]
  | .f _ cs, h => by simp only [AV.nor] at h; simp only [AV.mv]; rw [ZFD N k cs h]
  | .g _ x, h => by simp only [AV.nor] at h; simp only [AV.mv]; rw [nor_mv N k x h]
  | .top, _ => rfl
def SortStepI (P : Program) (dst : Option Nat) (op : Op) (K : St → Prop) (st : St) : Prop :=
  match callee? st.ev op, dst with
  | some (ψ, k, args), some d =>
    match stripL args with
    | [.f (.func g) [.p bid 0]] => (ψ ∧ condL args) ∧ ∃ t mid c e ds, lkH st.heap bid = some (.box t (.avs [.s mid])) ∧ lkH st.heap mid = some (.mp c) ∧ SortCalls P k g t e c (ds.map fun x => .int .i64 x) ∧ K ⟨(d, .s d) :: killE d st.env, (d, .row e 1 (.ints .i64 ds)) :: killH d st.heap⟩
    | _ => False
  | _, _ => False
attribute [push_cast] SortStepI
end Go.Eng
namespace Go.Eng
open Go.RowKit
theorem G.nilBoxAt {n B : Nat} {w0 : Orig} {st : St} {a : Act} {w : World} (hG : G n B w0 st a w) (id d k : Nat) (t e : TypeId) (sz : Nat) (c : Cont) (l : List AV) (hk : lkH st.heap id = some (.box t (.avs l))) (hkl : AV.killL d l = l) (hat : l.getD k .top = .v (.slice none 0 0)) (hkn : k < l.length) (hne : id ≠ d) (hc : c.len = 0) (hgd : w0.gh d = none) :
    G n B w0 ⟨killE d st.env, (id, .box t (.avs (l.set k (.s d)))) :: (d, .row e sz c) :: killH d st.heap⟩ a w := by
  obtain ⟨ρ, I, hg⟩ := hG
  have h1 := hg.new (Below.refl _ w) d (.slice none 0 0) (.row e sz c) ⟨0, [], World.ownsRow_nil w B e sz, by simp [hc], fun j u hu => by simp at hu⟩ (fun b hb => by simp [rootBlk] at hb) hgd
  have hk2 : lkH ((d, .row e sz c) :: killH d st.heap) id = some (.box t (.avs l)) := by
    simp only [lkH]
    rw [if_neg (fun e => hne e.symm), ZDp, if_neg hne, hk]
    show some (Blk.box t (.avs (AV.killL d l))) = _
    rw [hkl]
  refine ⟨_, I, h1.defers, h1.size, h1.env, ⟨fun id' blk hk' => ?_, fun i1 i2 b1 b2 x x' b hne' k1 k2 => ?_, fun i1 b1 x b k1 => ?_, h1.hw.lt⟩, h1.below, h1.base, h1.old⟩
  · simp only [lkH] at hk'
    by_cases e1 : id = id'
    · rw [if_pos e1] at hk'
      injection hk' with hk'; subst hk'; subst e1
      obtain ⟨x, hx, b, us, rfl, hB, hh, hl, hcc⟩ := h1.hw.ok _ _ hk2
      refine ⟨_, hx, b, us, rfl, hB, hh, by rw [hl]; simp [Cont.len], fun j u hu => ?_⟩
      by_cases hj : j = k
      · subst hj
        have h2 := hcc j u hu
        simp only [Cont.at] at h2 ⊢
        rw [hat] at h2
        rw [getD_set_self _ _ _ _ hkn, h2.v_inv]
        exact .s d _ (ZAo _ _ _) rfl
      · have h2 := hcc j u hu
        simp only [Cont.at] at h2 ⊢
        rw [getD_set_ne _ _ _ _ _ (fun e => hj e.symm)]
        exact h2
    · rw [if_neg e1] at hk'
      exact h1.hw.ok id' blk hk'
  · have conv : ∀ {i1 b1}, lkH ((id, .box t (.avs (l.set k (.s d)))) :: (d, .row e sz c) :: killH d st.heap) i1 = some b1 → ∃ b2, lkH ((d, .row e sz c) :: killH d st.heap) i1 = some b2 := fun {i1 b1} h => by
      simp only [lkH] at h
      by_cases e1 : id = i1
      · subst e1; exact ⟨_, hk2⟩
      · rw [if_neg e1] at h; exact ⟨b1, h⟩
    obtain ⟨c1, q1⟩ := conv k1
    obtain ⟨c2, q2⟩ := conv k2
    exact h1.hw.apart i1 i2 c1 c2 x x' b hne' q1 q2
  · have : ∃ b2, lkH ((d, .row e sz c) :: killH d st.heap) i1 = some b2 := by
      simp only [lkH] at k1
      by_cases e1 : id = i1
      · subst e1; exact ⟨_, hk2⟩
      · rw [if_neg e1] at k1; exact ⟨b1, k1⟩
    obtain ⟨c1, q1⟩ := this
    exact h1.hw.imm i1 c1 x b q1
end Go.Eng
namespace Go.Eng
open Go.RowKit
set_option linter.unusedVariables false

def rnI (N k id : Nat) : Nat := if id = N then k else id
def AV.rn (N k : Nat) : AV → AV
  | .v x => .v x
  | .s id => .s (rnI N k id)
  | .w id off len => .w (rnI N k id) off len
  | .p id off => .p (rnI N k id) off
  | .i fr c sz off len => .i fr c sz off len
  | .q fr c sz e j => .q fr c sz e j
  | .a cs => .a (rnL N k cs)
  | .t cs => .t (rnL N k cs)
  | .f fn cs => .f fn (rnL N k cs)
  | .g b x => .g b (AV.rn N k x)
  | .top => .top
where rnL (N k : Nat) : List AV → List AV
  | [] => []
  | x :: r => AV.rn N k x :: rnL N k r
theorem ZBQ (N k : Nat) (cs : List AV) : (AV.rn.rnL N k cs).length = cs.length := by
  induction cs with
  | nil => rfl
  | cons x r ih => simp [AV.rn.rnL, ih]
theorem ZDj (N k : Nat) (cs : List AV) (j : Nat) : (AV.rn.rnL N k cs).getD j .top = (cs.getD j .top).rn N k := by
  induction cs generalizing j with
  | nil => simp [AV.rn.rnL, AV.rn]
  | cons x r ih => cases j with
    | zero => simp [AV.rn.rnL]
    | succ j => simpa [AV.rn.rnL] using ih j
theorem Conc.rn {N k B : Nat} {I : Nat → Prop} {w : World} {ρ : Nat → Option Value} {x : AV} {u : Value} (h : Conc B I w ρ x u) : x.ids (fun id => id ≠ k) → ∀ ρ', (∀ id, (id ≠ k) → ρ' (rnI N k id) = ρ id) → Conc B I w ρ' (x.rn N k) u := by
  induction h with
  | v x => intro _ ρ' _; rw [AV.rn]; exact .v x
  | s id x h h1 => intro hi ρ' hr; rw [AV.rn]; rw [AV.ids] at hi; exact .s _ x (by rw [hr id hi]; exact h) h1
  | w id off len cap A x h hcap hA => intro hi ρ' hr; rw [AV.rn]; rw [AV.ids] at hi; exact .w _ off len cap A x (by rw [hr id hi]; exact h) hcap hA
  | p id off b x h hb => intro hi ρ' hr; rw [AV.rn]; rw [AV.ids] at hi; exact .p _ off b x (by rw [hr id hi]; exact h) hb
  | i fr c sz off len cap A u hcap hA hc ih => intro _ ρ' _; rw [AV.rn]; exact .i fr c sz off len cap A u hcap hA hc
  | q fr c sz e f ad u h2 h3 hcell hc ih => intro _ ρ' _; rw [AV.rn]; exact .q fr c sz e f ad u h2 h3 hcell hc
  | a cs us hl h ih => intro hi ρ' hr; rw [AV.rn]; rw [AV.ids] at hi; exact .a _ us (by rw [ZBQ]; exact hl) fun j hj => by rw [ZBQ] at hj; rw [ZDj]; exact ih j hj (ZAx hi j) ρ' hr
  | t cs us hl h ih => intro hi ρ' hr; rw [AV.rn]; rw [AV.ids] at hi; exact .t _ us (by rw [ZBQ]; exact hl) fun j hj => by rw [ZBQ] at hj; rw [ZDj]; exact ih j hj (ZAx hi j) ρ' hr
  | f fn cs us hl h ih => intro hi ρ' hr; rw [AV.rn]; rw [AV.ids] at hi; exact .f fn _ us (by rw [ZBQ]; exact hl) fun j hj => by rw [ZBQ] at hj; rw [ZDj]; exact ih j hj (ZAx hi j) ρ' hr
  | g b x u h h0 ih => intro hi ρ' hr; rw [AV.rn]; rw [AV.ids] at hi; exact .g b _ u (fun hb => ih hb hi ρ' hr) h0
  | top u => intro _ ρ' _; rw [AV.rn]; exact .top u
def Cont.rn (N k : Nat) : Cont → Cont
  | .ints q l => .ints q l
  | .vals l => .vals l
  | .avs l => .avs (AV.rn.rnL N k l)
def Blk.rn (N k : Nat) : Blk → Blk
  | .box t c => .box t (c.rn N k)
  | .row e sz c => .row e sz c
  | .mp c => .mp c
  | .mpa kd ks c => .mpa kd ks (c.rn N k)
  | .nst e c => .nst e (c.rn N k)
theorem Cont.rn_len (N k : Nat) (c : Cont) : (c.rn N k).len = c.len := by cases c <;> simp [Cont.rn, Cont.len, ZBQ]
theorem Cont.rn_at (N k : Nat) (c : Cont) (j : Nat) : (c.rn N k).at j = (c.at j).rn N k := by cases c <;> simp only [Cont.rn, Cont.at, AV.rn, ZDj]
def rnE (N k : Nat) : List (Nat × AV) → List (Nat × AV)
  | [] => []
  | (s, x) :: r => (s, x.rn N k) :: rnE N k r
def rnH (N k : Nat) : List (Nat × Blk) → List (Nat × Blk)
  | [] => []
  | (d, b) :: r => (rnI N k d, b.rn N k) :: rnH N k r
theorem ZJW (N k : Nat) : ∀ (E : List (Nat × AV)) (s : Nat), lk (rnE N k E) s = (lk E s).rn N k
  | [], s => by simp [rnE, lk, AV.rn]
  | (t, x) :: r, s => by
    simp only [rnE, lk]
    split
    · rfl
    · exact ZJW N k r s
theorem ZDz (N k : Nat) : ∀ {H : List (Nat × Blk)} (_ : idsH (fun id => id ≠ k) H) {id : Nat} {b : Blk}, lkH (rnH N k H) id = some b → ∃ id0 b0, id = rnI N k id0 ∧ (id0 ≠ k) ∧ lkH H id0 = some b0 ∧ b = b0.rn N k
  | [], _, _, _, h => by cases h
  | (d, c) :: r, hi, id, b, h => by
    simp only [rnH, lkH] at h
    split at h
    · rename_i e; injection h with h; exact ⟨d, c, e.symm, hi.1, by simp [lkH], h.symm⟩
    · rename_i e
      obtain ⟨id0, b0, e1, e0, e2, e3⟩ := ZDz N k hi.2.2 h
      refine ⟨id0, b0, e1, e0, ?_, e3⟩
      simp only [lkH]
      rw [if_neg (fun hh => e (by rw [hh, e1]))]; exact e2
theorem G.rn {n B : Nat} {w0 : Orig} {st : St} {a : Act} {w : World} (hG : G n B w0 st a w) (N k : Nat) (hE : idsE (fun id => id ≠ k) st.env) (hH : idsH (fun id => id ≠ k) st.heap) (hgh : w0.gh k = none) : G n B w0 ⟨rnE N k st.env, rnH N k st.heap⟩ a w := by
  obtain ⟨ρ, I, h⟩ := hG
  have hρ : ∀ id, (id ≠ k) → (fun j => if j = k then ρ N else ρ j) (rnI N k id) = ρ id := fun id hid => by
    unfold rnI
    split
    · rename_i e; subst e; simp only; rw [if_pos trivial]
    · simp only; rw [if_neg hid]
  refine ⟨fun j => if j = k then ρ N else ρ j, I, h.defers, h.size, fun s => ?_, ⟨fun id blk hk => ?_, fun id id' b1 b2 x x' b hne k1 k2 hx hx' hb => ?_, fun id blk x b hk hx hb => ?_, h.hw.lt⟩, h.below, h.base, ⟨h.old.up, fun id x hx => ?_, h.old.ghn, h.old.keep⟩⟩
  · show Conc _ _ _ _ (lk (rnE N k st.env) s) _
    rw [ZJW]; exact (h.env s).rn (ZFB hE s) _ hρ
  · obtain ⟨id0, b0, rfl, e0, h2, rfl⟩ := ZDz N k hH hk
    obtain ⟨x, hx, hok⟩ := h.hw.ok id0 b0 h2
    refine ⟨x, by rw [← hx]; exact hρ id0 e0, ?_⟩
    cases b0 with
    | box t c =>
      obtain ⟨b, us, rfl, hB, hh, hl, hc⟩ := hok
      exact ⟨b, us, rfl, hB, hh, by rw [Cont.rn_len]; exact hl, fun j u hu => by rw [Cont.rn_at]; exact (hc j u hu).rn (Cont.ids_at (ZCB hH h2).2 j) _ hρ⟩
    | row e sz c => exact hok
    | mp c => exact hok
    | mpa kd ks c =>
      obtain ⟨b, vals, rfl, hB, hm, hl, hl2, hc⟩ := hok
      exact ⟨b, vals, rfl, hB, hm, hl, by rw [Cont.rn_len]; exact hl2, fun j u hu => by rw [Cont.rn_at]; exact (hc j u hu).rn (Cont.ids_mpa (ZCB hH h2).2 j) _ hρ⟩
    | nst e c =>
      obtain ⟨m, xs, ho, hl, hc⟩ := hok
      exact ⟨m, xs, ho, by rw [Cont.rn_len]; exact hl, fun j u hu => by rw [Cont.rn_at]; exact (hc j u hu).rn (Cont.ids_nst (ZCB hH h2).2 j) _ hρ⟩
  · obtain ⟨i1, c1, rfl, e1, g1, rfl⟩ := ZDz N k hH k1
    obtain ⟨i2, c2, rfl, e2, g2, rfl⟩ := ZDz N k hH k2
    have hx2 : ρ i1 = some x := by rw [← hρ i1 e1]; exact hx
    have hx3 : ρ i2 = some x' := by rw [← hρ i2 e2]; exact hx'
    exact h.hw.apart i1 i2 c1 c2 x x' b (fun e => hne (by rw [e])) g1 g2 hx2 hx3 hb
  · obtain ⟨i1, c1, rfl, e1, g1, rfl⟩ := ZDz N k hH hk
    have hx2 : ρ i1 = some x := by rw [← hρ i1 e1]; exact hx
    exact h.hw.imm i1 c1 x b g1 hx2 hb
  · have : ¬ id = k := fun hh => by subst hh; rw [hgh] at hx; cases hx
    show (if id = k then ρ N else ρ id) = x
    rw [if_neg this]; exact h.old.gh id x hx
theorem ZGk {P : Program} {n B : Nat} {w0 : Orig} {c : Code} {Q : Exit → St → Prop} {st : St} (N k : Nat) (hE : idsE (fun id => id ≠ k) st.env) (hH : idsH (fun id => id ≠ k) st.heap) (hgh : w0.gh k = none) (h : AWP P n B w0 c Q ⟨rnE N k st.env, rnH N k st.heap⟩) : AWP P n B w0 c Q st := fun a w hG => h a w (hG.rn N k hE hH hgh)
attribute [push_cast] rnI AV.rn AV.rn.rnL Cont.rn Blk.rn rnE rnH
theorem rn_end {n B : Nat} {w0 : Orig} {st st1 st2 : St} (N k : Nat) (h1 : ∀ a w, G n B w0 st a w → G n B w0 st1 a w) (hE : idsE (fun id => id ≠ k) st1.env) (hH : idsH (fun id => id ≠ k) st1.heap) (hgh : w0.gh k = none) (h2 : ∀ a w, G n B w0 ⟨rnE N k st1.env, rnH N k st1.heap⟩ a w → G n B w0 st2 a w) : ∀ a w, G n B w0 st a w → G n B w0 st2 a w :=
  fun a w h => h2 a w ((h1 a w h).rn N k hE hH hgh)
end Go.Eng
namespace Go.Eng
open Go.RowKit
end Go.Eng
namespace Go.Eng
open Go.RowKit
set_option linter.unusedVariables false

def frzL (d : Nat) (blk : Blk) : List AV → List AV
  | [] => []
  | x :: r => frz1 d blk x :: frzL d blk r
theorem ZGF (d : Nat) (blk : Blk) (cs : List AV) : (frzL d blk cs).length = cs.length := by
  induction cs with
  | nil => rfl
  | cons x r ih => simp [frzL, ih]
theorem ZHt (d : Nat) (blk : Blk) (cs : List AV) (j : Nat) : (frzL d blk cs).getD j .top = frz1 d blk (cs.getD j .top) := by
  induction cs generalizing j with
  | nil => simp [frzL, frz1, AV.kill]
  | cons x r ih => cases j with
    | zero => simp [frzL]
    | succ j => simpa [frzL] using ih j
def frzC (d : Nat) (blk : Blk) : Cont → Cont
  | .avs l => .avs (frzL d blk l)
  | .ints k l => .ints k l
  | .vals l => .vals l
theorem ZFE (d : Nat) (blk : Blk) (c : Cont) : (frzC d blk c).len = c.len := by cases c <;> simp [frzC, Cont.len, ZGF]
theorem ZGG (d : Nat) (blk : Blk) (c : Cont) (j : Nat) : (frzC d blk c).at j = frz1 d blk (c.at j) := by cases c <;> simp only [frzC, Cont.at, frz1, AV.kill, ZHt]
def frzB (d : Nat) (blk : Blk) : Blk → Blk
  | .nst e c => .nst e (frzC d blk c)
  | .box t c => .box t (c.kill d)
  | .row e sz c => .row e sz c
  | .mp c => .mp c
  | .mpa kd ks c => .mpa kd ks (frzC d blk c)
def frzH (d : Nat) (blk : Blk) : List (Nat × Blk) → List (Nat × Blk)
  | [] => []
  | (k, b) :: r => if k = d then frzH d blk r else (k, frzB d blk b) :: frzH d blk r
theorem G.toNst {n B : Nat} {w0 : Orig} {st : St} {a : Act} {w : World} (hG : G n B w0 st a w) (d : Nat) (e : TypeId) (c c' : Cont) (hk : lkH st.heap d = some (.row e 1 c)) (hl : c'.len = c.len) (hc' : ∀ j, j < c.len → c'.at j = c.at j) : G n B w0 ⟨st.env, (d, .nst e c') :: st.heap⟩ a w := by
  obtain ⟨ρ, I, h⟩ := hG
  have conv : ∀ {i1 b1}, lkH ((d, .nst e c') :: st.heap) i1 = some b1 → ∃ b2, lkH st.heap i1 = some b2 := fun {i1 b1} hh => by
    simp only [lkH] at hh
    by_cases e1 : d = i1
    · subst e1; exact ⟨_, hk⟩
    · rw [if_neg e1] at hh; exact ⟨b1, hh⟩
  refine ⟨ρ, I, h.defers, h.size, h.env, ⟨fun id' blk hk' => ?_, fun i1 i2 b1 b2 x x' b hne' k1 k2 => ?_, fun i1 b1 x b k1 => ?_, h.hw.lt⟩, h.below, h.base, h.old⟩
  · simp only [lkH] at hk'
    by_cases e1 : d = id'
    · rw [if_pos e1] at hk'
      injection hk' with hk'; subst hk'; subst e1
      obtain ⟨x, hx, m, xs, ho, hl2, hc⟩ := h.hw.ok _ _ hk
      exact ⟨x, hx, m, xs, ho, by rw [hl]; exact hl2, fun j u hu => by
        have hj := (List.getElem?_eq_some_iff.1 hu).1
        rw [ho.1] at hj
        rw [hc' j (by rw [hl2]; exact hj)]; exact (hc j u hu).up⟩
    · rw [if_neg e1] at hk'
      exact h.hw.ok id' blk hk'
  · obtain ⟨c1, q1⟩ := conv k1
    obtain ⟨c2, q2⟩ := conv k2
    exact h.hw.apart i1 i2 c1 c2 x x' b hne' q1 q2
  · obtain ⟨c1, q1⟩ := conv k1
    exact h.hw.imm i1 c1 x b q1
attribute [push_cast] frzC frzB frzH
end Go.Eng
