/- Operations that leave memory alone: what they yield on abstract values. -/
import Derived.Test.YtgcomonjkcpkaaaQngA
namespace Go.Eng
open Go.RowKit

inductive TK where
  | int (k : IntKind)
  | bool
  | str
  | sl (e : TypeId)
  | ptr (e : TypeId)
  | st (q : Bool) (fs : List (Nat × TypeId))
  | arr (n : Nat) (e : TypeId)
  | oth
structure TI where
  k : TK
  sz : Nat
  by_ : Nat
  z : Value
abbrev Tab := TypeId → Option TI
def TK.ok (P : Program) (t : TypeId) : TK → Prop
  | .int k => P.underlying t = some (.int k)
  | .bool => P.underlying t = some .bool
  | .str => P.underlying t = some .string
  | .sl e => P.underlying t = some (.slice e)
  | .ptr e => P.underlying t = some (.pointer e)
  | .st q fs => ∃ F, P.underlying t = some (.struct F) ∧ (F.toList.map fun f => (f.offset, f.type)) = fs ∧ (q = true → P.stoodInHeld t = false ∧ P.eqGuardType P.depth t = false ∧ (F.toList.all fun f => f.name != "_") = true)
  | .arr n e => P.underlying t = some (.array n e)
  | .oth => ∃ d, P.underlying t = some d ∧ (match d with | .struct _ | .array _ _ => false | _ => true) = true
def TK.agg : TK → Bool
  | .st _ _ => true
  | .arr _ _ => true
  | _ => false
structure TI.ok (P : Program) (t : TypeId) (i : TI) : Prop where
  info : ∃ inf, P.info? t = some inf ∧ inf.size = i.sz ∧ inf.bytes = i.by_ ∧ inf.zero = some i.z
  kind : i.k.ok P t
def Tab.ok (P : Program) (T : Tab) : Prop := ∀ t i, T t = some i → TI.ok P t i

section
variable {P : Program} {t : TypeId} {i : TI} (w : World)
theorem TI.ok.size (h : TI.ok P t i) : (sizeOf t).run P w = .ok i.sz w := by
  obtain ⟨inf, h1, h2, _⟩ := h.info
  simp [sizeOf, typeInfo, h1, h2]
theorem TI.ok.agg (h : TI.ok P t i) : (isAgg t).run P w = .ok i.k.agg w := by
  have hk := h.kind
  unfold isAgg
  cases hi : i.k <;> rw [hi] at hk <;> simp only [TK.ok] at hk
  case st q fs => obtain ⟨F, hF, _⟩ := hk; simp [run_underlying hF, TK.agg]
  case oth =>
    obtain ⟨d, hd, hd'⟩ := hk
    simp only [Sem.run_bind, run_underlying hd, Result.andThen_ok]
    cases d <;> simp at hd' <;> simp [TK.agg]
  all_goals simp [run_underlying hk, TK.agg]
end

def AV.strip : AV → AV
  | .g _ x => x.strip
  | x => x
def AV.cond : AV → Prop
  | .g b x => b = true ∧ x.cond
  | _ => True
theorem Conc.strip {B : Nat} {I : Nat → Prop} {w : World} {ρ : Nat → Option Value} {x : AV} {u : Value} (h : Conc B I w ρ x u) (hk : x.cond) : Conc B I w ρ x.strip u := by
  induction h with
  | g b x u h h0 ih => exact ih hk.1 hk.2
  | v x => exact .v x
  | s id x h h1 => exact .s id x h h1
  | w id off len cap A x h hcap hA => exact .w id off len cap A x h hcap hA
  | p id off b x h hb => exact .p id off b x h hb
  | i fr c sz off len cap A u hcap hA hc ih => exact .i fr c sz off len cap A u hcap hA hc
  | q fr c sz e f ad u h2 h3 hcell hc ih => exact .q fr c sz e f ad u h2 h3 hcell hc
  | a cs us hl h ih => exact .a cs us hl h
  | t cs us hl h ih => exact .t cs us hl h
  | f fn cs us hl h ih => exact .f fn cs us hl h
  | top u => exact .top u

theorem Conc.v_inv {B : Nat} {I : Nat → Prop} {w : World} {ρ : Nat → Option Value} {x u : Value} (h : Conc B I w ρ (.v x) u) : u = x := by cases h; rfl

theorem Conc.up {B : Nat} {I : Nat → Prop} {w : World} {ρ : Nat → Option Value} {x : AV} {u : Value} (h : Conc B I w noId x u) : Conc B I w ρ x u :=
  h.mono (Nat.le_refl _) (fun b hb => ⟨hb, rfl⟩) ρ (fun _ _ h => by cases h)

def cellsFrom (g : Nat → AV) (j : Nat) : Nat → List AV
  | 0 => []
  | n + 1 => g j :: cellsFrom g (j + 1) n
theorem cellsFrom_length (g : Nat → AV) (j n : Nat) : (cellsFrom g j n).length = n := by
  induction n generalizing j with
  | zero => rfl
  | succ n ih => simp [cellsFrom, ih]
theorem cellsFrom_getD (g : Nat → AV) (j n k : Nat) (h : k < n) : (cellsFrom g j n).getD k .top = g (j + k) := by
  induction n generalizing j k with
  | zero => omega
  | succ n ih =>
    cases k with
    | zero => simp [cellsFrom]
    | succ k =>
      have := ih (j + 1) k (by omega)
      simp only [cellsFrom, List.getD_cons_succ]
      rw [this]; congr 1; omega

theorem add_none (b off k : Nat) : (⟨b, off, none⟩ : Addr).add k = ⟨b, off + k, none⟩ := by unfold Addr.add; split <;> simp_all
theorem add_add (a : Addr) (i j : Nat) : (a.add i).add j = a.add (i + j) := by
  unfold Addr.add
  by_cases hi : i = 0 <;> by_cases hj : j = 0 <;> simp [hi, hj, Nat.add_assoc]
theorem add_block (a : Addr) (n : Nat) : (a.add n).block = a.block := by unfold Addr.add; split <;> rfl

def Blk.cont : Blk → Cont
  | .box _ c => c
  | .row _ _ c => c
  | .nst _ c => c

/-- What a cell of a known block holds. -/
theorem HW.cell {B : Nat} {I : Nat → Prop} {w : World} {ρ : Nat → Option Value} {H : List (Nat × Blk)} (h : HW B I w ρ H) {id : Nat} {blk : Blk} (hk : lkH H id = some blk) {x : Value} (hx : ρ id = some x) {b : Nat} (hb : rootBlk x = some b) {j : Nat} (hj : j < blk.cont.len) :
    ∃ u, w.cell? ⟨b, j, none⟩ = some u ∧ Conc B I w ρ (blk.cont.at j) u := by
  obtain ⟨x', hx', hok⟩ := h.ok id blk hk
  rw [hx] at hx'; injection hx' with hx'; subst hx'
  cases blk with
  | box t c =>
    obtain ⟨b', us, rfl, hB, hh, hl, hc⟩ := hok
    simp [rootBlk] at hb; subst hb
    have hj' : j < us.size := by rw [hl]; exact hj
    refine ⟨us[j], ?_, hc j _ (by simp [hj'])⟩
    simp [World.cell?, hh, hj']
  | row e sz c =>
    obtain ⟨n, xs, ho, hl, hc⟩ := hok
    have hj' : j < xs.length := by rw [ho.1, ← hl]; exact hj
    rw [rootBlk_own ho] at hb
    have := ho.cells hb j xs[j] (by simp [hj'])
    rw [add_none, Nat.zero_add] at this
    exact ⟨xs[j], this, (hc j _ (by simp [hj'])).up⟩
  | nst e c =>
    obtain ⟨n, xs, ho, hl, hc⟩ := hok
    have hj' : j < xs.length := by rw [ho.1, ← hl]; exact hj
    rw [rootBlk_own ho] at hb
    have := ho.cells hb j xs[j] (by simp [hj'])
    rw [add_none, Nat.zero_add] at this
    exact ⟨xs[j], this, hc j _ (by simp [hj'])⟩

def pvLoad (T : Tab) (H : List (Nat × Blk)) (t : TypeId) (x : AV) : Option (Prop × AV) :=
  match x.strip with
  | .p id off =>
    match T t, lkH H id with
    | some ti, some blk =>
      if ti.k.agg then some (x.cond ∧ off + ti.sz ≤ blk.cont.len, .a (cellsFrom (fun j => blk.cont.at (off + j)) 0 ti.sz))
      else some (x.cond ∧ off < blk.cont.len, blk.cont.at off)
    | _, _ => none
  | .q _ c sz e f =>
    match T t with
    | some ti =>
      if ti.k.agg then some (x.cond ∧ f + ti.sz ≤ sz, .a (cellsFrom (fun j => c e (f + j)) 0 ti.sz))
      else some (x.cond ∧ f < sz, c e f)
    | none => none
  | _ => none

theorem load_cells {P : Program} {T : Tab} (hT : T.ok P) {B : Nat} {I : Nat → Prop} {w : World} {ρ : Nat → Option Value} {t : TypeId} {ti : TI} (ht : T t = some ti) (ad : Addr) (c : Nat → AV)
    (h : ∀ j, j < (if ti.k.agg then ti.sz else 1) → ∃ u, w.cell? (ad.add j) = some u ∧ Conc B I w ρ (c j) u) :
    ∃ v, (loadVar t ad).run P w = .ok v w ∧ Conc B I w ρ (if ti.k.agg then .a (cellsFrom c 0 ti.sz) else c 0) v := by
  have hi := hT t ti ht
  unfold loadVar
  simp only [Sem.run_bind, hi.agg w, Result.andThen_ok]
  cases hag : ti.k.agg
  · simp only [hag, Bool.false_eq_true, if_false] at h ⊢
    obtain ⟨u, h1, h2⟩ := h 0 (by omega)
    have : ad.add 0 = ad := rfl
    rw [this] at h1
    exact ⟨u, by simp [h1], h2⟩
  · simp only [hag, if_true] at h ⊢
    have hu : ∃ f : Nat → Value, ∀ j, j < ti.sz → w.cell? (ad.add j) = some (f j) ∧ Conc B I w ρ (c j) (f j) :=
      ⟨fun j => if hj : j < ti.sz then Classical.choose (h j hj) else undef, fun j hj => by simp only [hj, dif_pos]; exact Classical.choose_spec (h j hj)⟩
    obtain ⟨f, hf⟩ := hu
    have hr := run_loadCells (P := P) w ad ti.sz f (fun j hj => (hf j hj).1)
    refine ⟨.agg ((List.range ti.sz).map f).toArray, by simp [hi.size w, hr], .a _ _ (by simp [cellsFrom_length]) fun j hj => ?_⟩
    rw [cellsFrom_length] at hj
    rw [cellsFrom_getD _ _ _ _ hj, Nat.zero_add]
    have : (((List.range ti.sz).map f).toArray).getD j undef = f j := by simp [Array.getD_eq_getD_getElem?, hj]
    rw [this]
    exact (hf j hj).2

section
variable {P : Program} {T : Tab} (hT : T.ok P) {B : Nat} {I : Nat → Prop} {w : World} {ρ : Nat → Option Value} {H : List (Nat × Blk)} (hw : HW B I w ρ H)
include hT hw

theorem pvLoad_ok {t : TypeId} {x : AV} {u : Value} {φ : Prop} {r : AV} (h : pvLoad T H t x = some (φ, r)) (hφ : φ) (hx : Conc B I w ρ x u) :
    ∃ v, (Instr.loadAt t u).run P w = .ok v w ∧ Conc B I w ρ r v := by
  unfold pvLoad at h
  split at h
  · rename_i id off hs
    split at h
    · rename_i ti blk ht hk
      have key : x.cond ∧ ∀ j, j < (if ti.k.agg then ti.sz else 1) → off + j < blk.cont.len := by
        split at h
        · rename_i hag; injection h with h; injection h with h1 h2; subst h1; rw [if_pos hag]; exact ⟨hφ.1, fun j hj => by have := hφ.2; omega⟩
        · rename_i hag; injection h with h; injection h with h1 h2; subst h1; rw [if_neg hag]; exact ⟨hφ.1, fun j hj => by have := hφ.2; omega⟩
      have hc := hx.strip key.1
      rw [hs] at hc
      cases hc with
      | p _ _ b x hr hb =>
        obtain ⟨v, h1, h2⟩ := load_cells (w := w) (B := B) (I := I) (ρ := ρ) hT ht ⟨b, off, none⟩ (fun j => blk.cont.at (off + j)) (fun j hj => by
          rw [add_none]; exact hw.cell hk hr hb (key.2 j hj))
        refine ⟨v, by simpa [Instr.loadAt, Instr.sureAddr] using h1, ?_⟩
        split at h
        · rename_i hag; injection h with h; injection h with _ h3; subst h3; rw [if_pos hag] at h2; exact h2
        · rename_i hag; injection h with h; injection h with _ h3; subst h3; rw [if_neg hag] at h2; exact h2
    · cases h
  · rename_i fr c sz e f hs
    split at h
    · rename_i ti ht
      have key : x.cond ∧ ∀ j, j < (if ti.k.agg then ti.sz else 1) → f + j < sz := by
        split at h
        · rename_i hag; injection h with h; injection h with h1 h2; subst h1; rw [if_pos hag]; exact ⟨hφ.1, fun j hj => by have := hφ.2; omega⟩
        · rename_i hag; injection h with h; injection h with h1 h2; subst h1; rw [if_neg hag]; exact ⟨hφ.1, fun j hj => by have := hφ.2; omega⟩
      have hc := hx.strip key.1
      rw [hs] at hc
      cases hc with
      | q _ _ _ _ _ ad uu h2 h3 hcell hcc =>
        obtain ⟨v, h1, h2⟩ := load_cells (w := w) (B := B) (I := I) (ρ := ρ) hT ht ad (fun j => c e (f + j)) (fun j hj => ⟨uu j, hcell j (key.2 j hj), (hcc j (key.2 j hj)).up⟩)
        refine ⟨v, by simpa [Instr.loadAt, Instr.sureAddr] using h1, ?_⟩
        split at h
        · rename_i hag; injection h with h; injection h with _ h3; subst h3; rw [if_pos hag] at h2; exact h2
        · rename_i hag; injection h with h; injection h with _ h3; subst h3; rw [if_neg hag] at h2; exact h2
    · cases h
  · cases h
end

end Go.Eng
