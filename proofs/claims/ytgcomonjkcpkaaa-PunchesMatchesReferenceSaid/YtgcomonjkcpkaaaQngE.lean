/- Slicing, composite literals; all quiet operations under one name. -/
import Derived.Test.YtgcomonjkcpkaaaQngD
namespace Go.Eng
open Go.RowKit

/-- The value of x takes one cell. -/
def AV.one : AV → Bool
  | .v x => oneC x
  | .s _ => true
  | .w _ _ _ => true
  | .p _ _ => true
  | .i _ _ _ _ _ => true
  | .q _ _ _ _ _ => true
  | .f _ _ => true
  | _ => false
theorem Conc.one {B : Nat} {I : Nat → Prop} {w : World} {ρ : Nat → Option Value} {x : AV} {u : Value} (h : Conc B I w ρ x u) (h1 : x.one = true) : oneC u = true := by
  cases h <;> simp_all [AV.one, oneC]
theorem cells_one {u : Value} (h : oneC u = true) : u.cells = #[u] := by cases u <;> simp_all [oneC, Value.cells]

def setFrom (cells : List AV) (off : Nat) : List AV → List AV
  | [] => cells
  | x :: r => setFrom (cells.set off x) (off + 1) r

/-- The cells of a value, by what it stands for. -/
def cellsOf (x : AV) : Option (List AV) :=
  match x with
  | .a cs => some cs
  | y => if y.one then some [y] else none

def fillA (place : Nat → Option (Nat × Nat)) : List AV → List (Nat × AV) → Option (Prop × List AV)
  | cells, [] => some (True, cells)
  | cells, (i, x) :: rest =>
    match place i, cellsOf x.strip with
    | some (off, size), some cs =>
      match fillA place (setFrom cells off cs) rest with
      | some (φ, r) => some (x.cond ∧ cs.length = size ∧ off + size ≤ cells.length ∧ φ, r)
      | none => none
    | _, _ => none

section
variable {B : Nat} {I : Nat → Prop} {w : World} {ρ : Nat → Option Value}

def ConcL (B : Nat) (I : Nat → Prop) (w : World) (ρ : Nat → Option Value) (cs : List AV) (us : List Value) : Prop := us.length = cs.length ∧ ∀ j, j < cs.length → Conc B I w ρ (cs.getD j .top) (us.getD j undef)

theorem setFrom_length (xs : List AV) : ∀ (cells : List AV) (off : Nat), (setFrom cells off xs).length = cells.length := by
  induction xs with
  | nil => intro cells off; rfl
  | cons x r ih => intro cells off; simp [setFrom, ih]

theorem ConcL.set {cs : List AV} {us : List Value} (h : ConcL B I w ρ cs us) {x : AV} {u : Value} (hx : Conc B I w ρ x u) (k : Nat) : ConcL B I w ρ (cs.set k x) (us.set k u) := by
  refine ⟨by simp [h.1], fun j hj => ?_⟩
  simp at hj
  by_cases e : k = j
  · subst e
    rw [getD_set_self _ _ _ _ hj, getD_set_self _ _ _ _ (by rw [h.1]; exact hj)]; exact hx
  · rw [getD_set_ne _ _ _ _ _ e, getD_set_ne _ _ _ _ _ e]; exact h.2 j hj

theorem cells_of {x : AV} {u : Value} (hx : Conc B I w ρ x u) {cs : List AV} (h : cellsOf x = some cs) : ConcL B I w ρ cs u.cells.toList := by
  unfold cellsOf at h
  split at h
  · rename_i cs'
    injection h with h; subst h
    cases hx with
    | a _ us hl hc => exact ⟨by simpa [Value.cells] using hl, fun j hj => by simpa [Value.cells, List.getD_eq_getElem?_getD, Array.getD_eq_getD_getElem?] using hc j hj⟩
  · split at h
    · rename_i h1
      injection h with h; subst h
      rw [cells_one (hx.one h1)]
      refine ⟨by simp, fun j hj => ?_⟩
      simp at hj; subst hj; exact hx
    · cases h

theorem fold_set (vs : List Value) : ∀ (cells : Array Value) (off k : Nat), ((vs.zipIdx k).foldl (fun cs (p : Value × Nat) => cs.setIfInBounds (off + p.2) p.1) cells).toList = (List.foldl (fun (q : List Value × Nat) v => (q.1.set q.2 v, q.2 + 1)) (cells.toList, off + k) vs).1 := by
  induction vs with
  | nil => intro cells off k; rfl
  | cons v r ih =>
    intro cells off k
    simp only [List.zipIdx_cons, List.foldl_cons]
    rw [ih]
    simp [Nat.add_assoc]

theorem ConcL.setFrom {xs : List AV} : ∀ {vs : List Value} {cs : List AV} {us : List Value} (off : Nat), ConcL B I w ρ cs us → ConcL B I w ρ xs vs →
    ConcL B I w ρ (setFrom cs off xs) (List.foldl (fun (q : List Value × Nat) v => (q.1.set q.2 v, q.2 + 1)) (us, off) vs).1 := by
  induction xs with
  | nil =>
    intro vs cs us off h hx
    have : vs = [] := List.eq_nil_of_length_eq_zero (by simpa using hx.1)
    subst this; exact h
  | cons x r ih =>
    intro vs cs us off h hx
    match vs, hx with
    | v :: vs, hx =>
      simp only [Eng.setFrom, List.foldl_cons]
      refine ih (off + 1) (h.set (by simpa using hx.2 0 (by simp)) off) ⟨by simpa using hx.1, fun j hj => ?_⟩
      simpa using hx.2 (j + 1) (by simpa using hj)
    | [], hx => exact absurd hx.1 (by simp)

theorem fillA_ok {place : Nat → Option (Nat × Nat)} : ∀ (parts : List (Nat × AV)) (vs : List (Nat × Value)) (cs : List AV) (us : Array Value) {φ : Prop} {r : List AV}, fillA place cs parts = some (φ, r) → φ → ConcL B I w ρ cs us.toList →
    vs.map (·.1) = parts.map (·.1) → (∀ j, j < parts.length → Conc B I w ρ (parts.getD j (0, .top)).2 (vs.getD j (0, undef)).2) →
    ∃ us', Instr.fill place us vs = some us' ∧ ConcL B I w ρ r us'.toList := by
  intro parts
  induction parts with
  | nil =>
    intro vs cs us φ r h hφ hc hm _
    have : vs = [] := by simpa using hm
    subst this
    simp only [fillA, Option.some.injEq, Prod.mk.injEq] at h
    obtain ⟨_, rfl⟩ := h
    exact ⟨us, rfl, hc⟩
  | cons p rest ih =>
    intro vs cs us φ r h hφ hc hm hx
    obtain ⟨i, x⟩ := p
    match vs, hm, hx with
    | (i', u) :: vs, hm, hx =>
      simp only [List.map_cons, List.cons.injEq] at hm
      obtain ⟨rfl, hm2⟩ := hm
      simp only [fillA] at h
      split at h
      · rename_i off size xs hp hcx
        split at h
        · rename_i ψ r' hr
          simp only [Option.some.injEq, Prod.mk.injEq] at h
          obtain ⟨rfl, rfl⟩ := h
          have hu : Conc B I w ρ x u := by simpa using hx 0 (by simp)
          have hcells := cells_of (hu.strip hφ.1) hcx
          have hsz : u.cells.size = size := by rw [← Array.length_toList, hcells.1]; exact hφ.2.1
          have hle : off + u.cells.size ≤ us.size := by rw [hsz, ← Array.length_toList, hc.1]; exact hφ.2.2.1
          simp only [Instr.fill, hp]
          have hn : (decide (u.cells.size ≠ size) || decide (off + u.cells.size > us.size)) = false := by simp [hsz]; omega
          rw [if_neg (by simp [hsz]; omega)]
          refine ih vs _ _ hr hφ.2.2.2 ?_ hm2 (fun j hj => by simpa using hx (j + 1) (by simpa using hj))
          have := ConcL.setFrom off hc hcells
          have e := fold_set u.cells.toList us off 0
          rw [Nat.add_zero] at e
          rw [← e] at this
          have e2 : Array.foldl (fun cs (p : Value × Nat) => cs.setIfInBounds (off + p.2) p.1) us u.cells.zipIdx = List.foldl (fun cs (p : Value × Nat) => cs.setIfInBounds (off + p.2) p.1) us (u.cells.toList.zipIdx 0) := by
            rw [← Array.foldl_toList]; simp
          have e3 : (Array.foldl (fun cs (x : Value × Nat) => match x with | (c, j) => cs.setIfInBounds (off + j) c) us u.cells.zipIdx) = Array.foldl (fun cs (p : Value × Nat) => cs.setIfInBounds (off + p.2) p.1) us u.cells.zipIdx := rfl
          rw [e3, e2]; exact this
        · cases h
      · cases h
    | [], hm, hx => simp at hm
end

def pvBuild (T : Tab) (t : TypeId) (parts : List (Nat × AV)) : Option (Prop × AV) :=
  match T t with
  | some ⟨.st _ fs, _, _, z⟩ =>
    match fillA (fun i => match fs[i]? with | some (o, ty) => (match T ty with | some ti => some (o, ti.sz) | none => none) | none => none) (z.cells.toList.map ofVal) parts with
    | some (φ, r) => some (fs.all (fun p => (T p.2).isSome) = true ∧ φ, .a r)
    | none => none
  | some ⟨.arr _ e, _, _, z⟩ =>
    match T e with
    | some te =>
      match fillA (fun i => some (i * te.sz, te.sz)) (z.cells.toList.map ofVal) parts with
      | some (φ, r) => some (φ, .a r)
      | none => none
    | none => none
  | _ => none

theorem concL_ofVal {B : Nat} {I : Nat → Prop} {w : World} {ρ : Nat → Option Value} (us : List Value) : ConcL B I w ρ (us.map ofVal) us := by
  refine ⟨by simp, fun j hj => ?_⟩
  simp at hj
  have : (us.map ofVal).getD j .top = ofVal (us.getD j undef) := by simp [List.getD_eq_getElem?_getD, hj]
  rw [this]; exact conc_ofVal _

section
variable {P : Program} {T : Tab} (hT : T.ok P) {B : Nat} {I : Nat → Prop} {w : World} {ρ : Nat → Option Value} {H : List (Nat × Blk)} (hw : HW B I w ρ H)

include hT in
theorem run_places (F : List Field) (h : (F.map fun f => (f.offset, f.type)).all (fun p => (T p.2).isSome) = true) :
    (F.mapM fun f => do pure (f.offset, ← sizeOf f.type) : Sem (List (Nat × Nat))).run P w = .ok (F.map fun f => (f.offset, ((T f.type).map TI.sz).getD 0)) w := by
  induction F with
  | nil => simp
  | cons f F ih =>
    simp only [List.map_cons, List.all_cons, Bool.and_eq_true] at h
    obtain ⟨h1, h2⟩ := h
    cases ht : T f.type with
    | none => simp [ht] at h1
    | some ti =>
      have e := ih h2
      simp only [List.mapM_cons, Sem.run_bind, (hT _ _ ht).size w, Result.andThen_ok, Sem.run_pure, e, List.map_cons, ht]
      rfl

include hT in
theorem pvBuild_ok {t : TypeId} {parts : List (Nat × AV)} {vs : Array (Nat × Value)} {φ : Prop} {r : AV} (h : pvBuild T t parts = some (φ, r)) (hφ : φ)
    (hm : vs.toList.map (·.1) = parts.map (·.1)) (hx : ∀ j, j < parts.length → Conc B I w ρ (parts.getD j (0, .top)).2 (vs.toList.getD j (0, undef)).2) :
    ∃ z, (Instr.build t vs).run P w = .ok z w ∧ Conc B I w ρ r z := by
  unfold pvBuild at h
  split at h
  · rename_i fs _ _ z ht
    obtain ⟨inf, hi1, _, _, hz⟩ := (hT _ _ ht).info
    obtain ⟨F, hF, hfs, _⟩ := (hT _ _ ht).kind
    split at h
    · rename_i ψ cs hfill
      simp only [Option.some.injEq, Prod.mk.injEq] at h
      obtain ⟨rfl, rfl⟩ := h
      obtain ⟨us', h1, h2⟩ := fillA_ok parts vs.toList _ z.cells hfill hφ.2 (concL_ofVal (B := B) (I := I) (w := w) (ρ := ρ) _) hm hx
      have hp := run_places (w := w) hT F.toList (by rw [hfs]; exact hφ.1)
      have hplace : (fun (i : Nat) => match (fs[i]? : Option (Nat × TypeId)) with | some (o, ty) => (match T ty with | some ti => some (o, ti.sz) | none => none) | none => none) = fun (i : Nat) => ((F.toList.map fun f => (f.offset, ((T f.type).map TI.sz).getD 0)).toArray)[i]? := by
        funext i
        have hall := hφ.1
        rw [← hfs] at hall ⊢
        simp only [List.getElem?_map, List.getElem?_toArray]
        cases hf : F.toList[i]? with
        | none => simp
        | some f =>
          have : (T f.type).isSome = true := by
            rw [List.all_eq_true] at hall
            exact hall (f.offset, f.type) (List.mem_map.2 ⟨f, List.mem_of_getElem? hf, rfl⟩)
          cases ht : T f.type with
          | none => simp [ht] at this
          | some ti => simp [ht]
      rw [hplace] at h1
      refine ⟨.agg us', ?_, .a _ _ h2.1 (fun j hj => by simpa [List.getD_eq_getElem?_getD, Array.getD_eq_getD_getElem?] using h2.2 j hj)⟩
      have hp' : (F.mapM fun f => do pure (f.offset, ← sizeOf f.type) : Sem (Array (Nat × Nat))).run P w = .ok (F.toList.map fun f => (f.offset, ((T f.type).map TI.sz).getD 0)).toArray w := by
        rw [Array.mapM_eq_mapM_toList, ← bind_pure_comp]
        simp only [Sem.run_bind, hp, Result.andThen_ok, Sem.run_pure]
      simp only [Instr.build, zeroValue, typeInfo, Sem.run_bind, run_program, Result.andThen_ok, hi1, Sem.run_pure, hz, run_underlying hF, hp', h1]
    · cases h
  · rename_i n e _ _ z ht
    obtain ⟨inf, hi1, _, _, hz⟩ := (hT _ _ ht).info
    have hu : P.underlying t = some (.array n e) := (hT _ _ ht).kind
    split at h
    · rename_i te hte
      split at h
      · rename_i ψ cs hfill
        simp only [Option.some.injEq, Prod.mk.injEq] at h
        obtain ⟨rfl, rfl⟩ := h
        obtain ⟨us', h1, h2⟩ := fillA_ok parts vs.toList _ z.cells hfill hφ (concL_ofVal (B := B) (I := I) (w := w) (ρ := ρ) _) hm hx
        refine ⟨.agg us', ?_, .a _ _ h2.1 (fun j hj => by simpa [List.getD_eq_getElem?_getD, Array.getD_eq_getD_getElem?] using h2.2 j hj)⟩
        simp only [Instr.build, zeroValue, typeInfo, Sem.run_bind, run_program, Result.andThen_ok, hi1, Sem.run_pure, hz, run_underlying hu, (hT _ _ hte).size w, h1]
      · cases h
    · cases h
  · cases h
end
end Go.Eng
