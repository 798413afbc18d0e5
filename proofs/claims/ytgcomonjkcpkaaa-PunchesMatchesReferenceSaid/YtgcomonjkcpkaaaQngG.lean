/- What is handed to a callee that only makes memory of its own, and what comes back. -/
import Derived.Test.YtgcomonjkcpkaaaQngF
namespace Go.Eng
open Go.RowKit

mutual
def AV.fresh : AV → Prop
  | .v _ => True
  | .s _ => False
  | .w _ _ _ => False
  | .p _ _ => False
  | .i fr c _ _ _ => fr = true ∧ ∀ e j, AV.fresh (c e j)
  | .q fr c _ _ _ => fr = true ∧ ∀ e j, AV.fresh (c e j)
  | .a cs => AV.freshL cs
  | .t cs => AV.freshL cs
  | .f _ cs => AV.freshL cs
  | .g _ x => AV.fresh x
  | .top => True
def AV.freshL : List AV → Prop
  | [] => True
  | x :: r => AV.fresh x ∧ AV.freshL r
end
theorem freshL_getD : ∀ {cs : List AV} (_ : AV.freshL cs) (j : Nat), (cs.getD j .top).fresh
  | [], _, _ => by simp [AV.fresh]
  | x :: r, h, 0 => by simpa using h.1
  | x :: r, h, j + 1 => by simpa using freshL_getD h.2 j

theorem Conc.fresh {B : Nat} {I I' : Nat → Prop} {w : World} {ρ : Nat → Option Value} {x : AV} {u : Value} (h : Conc B I w ρ x u) (hf : x.fresh) (hI : ∀ b, B ≤ b → I b → I' b) : Conc B I' w ρ x u := by
  induction h with
  | v x => exact .v x
  | s id x h h1 => rw [AV.fresh] at hf; exact hf.elim
  | w id off len cap A x h hcap hA => rw [AV.fresh] at hf; exact hf.elim
  | p id off b x h hb => rw [AV.fresh] at hf; exact hf.elim
  | i fr c sz off len cap A u hcap hA hc ih =>
    rw [AV.fresh] at hf
    refine .i fr c sz off len cap A u hcap (fun hl => ?_) (fun e f he hf' => ih e f he hf' (hf.2 _ _))
    obtain ⟨ad, h1, h2, h3, h4⟩ := hA hl
    exact ⟨ad, h1, hI _ (h3 hf.1) h2, h3, h4⟩
  | q fr c sz e f ad u h2 h3 hcell hc ih =>
    rw [AV.fresh] at hf
    exact .q fr c sz e f ad u (hI _ (h3 hf.1) h2) h3 hcell (fun j hj => ih j hj (hf.2 _ _))
  | a cs us hl h ih => rw [AV.fresh] at hf; exact .a cs us hl fun j hj => ih j hj (freshL_getD hf j)
  | t cs us hl h ih => rw [AV.fresh] at hf; exact .t cs us hl fun j hj => ih j hj (freshL_getD hf j)
  | f fn cs us hl h ih => rw [AV.fresh] at hf; exact .f fn cs us hl fun j hj => ih j hj (freshL_getD hf j)
  | g b x u h h0 ih => rw [AV.fresh] at hf; exact .g b x u (fun hb => ih hb hf) h0
  | top u => exact .top u

def AV.pub (fl : Bool) (H : List (Nat × Blk)) : Nat → AV → AV
  | 0, _ => .top
  | n + 1, x => match x with
    | .v y => .v y
    | .s id => match lkH H id with
      | some (.row _ sz (.ints k l)) => if sz = 1 then .i fl (fun e _ => .v (.int k (l.getD e 0))) 1 0 l.length else .top
      | some (.row _ sz (.vals l)) => if 0 < sz then .i fl (fun e j => .v (l.getD (e * sz + j) undef)) sz 0 (l.length / sz) else .top
      | some (.row _ sz (.avs l)) => if 0 < sz then .i fl (fun e j => AV.pub fl H n (l.getD (e * sz + j) .top)) sz 0 (l.length / sz) else .top
      | some (.nst _ c) => .i fl (fun e _ => AV.pub fl H n (c.at e)) 1 0 c.len
      | _ => .top
    | .w id off len => match lkH H id with
      | some (.row _ sz (.ints k l)) => if sz = 1 ∧ off + len ≤ l.length then .i fl (fun e _ => .v (.int k (l.getD e 0))) 1 off len else .top
      | _ => .top
    | .p id off => match lkH H id with
      | some blk => .q fl (fun _ j => AV.pub fl H n (blk.cont.at j)) blk.cont.len 0 off
      | none => .top
    | .i fr c sz off len => .i (fr && fl) (fun e j => AV.pub fl H n (c e j)) sz off len
    | .q fr c sz e j => .q (fr && fl) (fun e j => AV.pub fl H n (c e j)) sz e j
    | .a cs => .a (cs.map (AV.pub fl H n))
    | .t cs => .t (cs.map (AV.pub fl H n))
    | .f fn cs => .f fn (cs.map (AV.pub fl H n))
    | .g b y => .g b (AV.pub fl H n y)
    | .top => .top

theorem getD_map_pub (fl : Bool) (H : List (Nat × Blk)) (n : Nat) (cs : List AV) (j : Nat) (hj : j < cs.length) : (cs.map (AV.pub fl H n)).getD j .top = AV.pub fl H n (cs.getD j .top) := by
  simp [List.getD_eq_getElem?_getD, hj]

def allB (w : World) : Nat → Prop := fun b => b < w.heap.size

theorem view_row {B B' : Nat} {J : Nat → Prop} {fl : Bool} {w : World} {x : Value} {e : TypeId} {sz m : Nat} {xs : List Value} (ho : w.ownsRow B e sz x m xs) (hB : fl = true → B' ≤ B) (hJ : ∀ b, B ≤ b → b < w.heap.size → J b) (c : Nat → Nat → AV)
    (hc : ∀ el j, el < m → j < sz → Conc B' J w noId (c el j) (xs.getD (el * sz + j) undef)) : Conc B' J w noId (.i fl c sz 0 m) x := by
  rcases ho.2 with ⟨rfl, rfl⟩ | ⟨g, cap, cur, rfl, hbg, hg, hnc, _⟩
  · exact .i _ _ _ _ _ _ _ (fun _ _ => undef) (by omega) (fun hp => by omega) (fun e f he => by omega)
  · refine .i _ _ _ _ _ _ _ (fun el j => xs.getD (el * sz + j) undef) hnc (fun hp => ⟨_, rfl, hJ g hbg (Array.getElem?_eq_some_iff.1 hg).1, (fun h => Nat.le_trans (hB h) hbg), fun el j he hj => ?_⟩) (fun el j he hj => by rw [Nat.zero_add]; exact hc el j he hj)
    have hlt : el * sz + j < xs.length := by
      rw [ho.1]
      have : (el + 1) * sz ≤ m * sz := Nat.mul_le_mul_right _ he
      rw [Nat.add_mul, Nat.one_mul] at this; omega
    exact ho.cells rfl _ _ (by simp [List.getD_eq_getElem?_getD, hlt])

theorem row_elem {m sz el j : Nat} (he : el < m) (hj : j < sz) : el * sz + j < m * sz := by
  have : (el + 1) * sz ≤ m * sz := Nat.mul_le_mul_right _ he
  rw [Nat.add_mul, Nat.one_mul] at this; omega

theorem pub_ok {B B' : Nat} {I J : Nat → Prop} {w : World} {ρ : Nat → Option Value} {H : List (Nat × Blk)} (fl : Bool) (hw : HW B I w ρ H) (hB : fl = true → B' ≤ B) (hIJ : ∀ b, I b → J b) (hJ : ∀ b, B ≤ b → b < w.heap.size → J b) : ∀ (n : Nat) {ρ' : Nat → Option Value} {x : AV} {u : Value}, (ρ' = ρ ∨ ρ' = noId) → Conc B I w ρ' x u → Conc B' J w noId (AV.pub fl H n x) u := by
  intro n
  induction n with
  | zero => intro ρ' x u _ h; exact .top u
  | succ n ih =>
    intro ρ' x u hρ h
    cases h with
    | v => exact .v _
    | s id _ h h1 =>
      rcases hρ with rfl | rfl
      · simp only [AV.pub]
        split
        · rename_i e sz k l hk
          split
          · rename_i hsz; subst hsz
            obtain ⟨x', hx', m, xs, ho, hl, hc⟩ := hw.ok _ _ hk
            rw [h] at hx'; injection hx' with hx'; subst hx'
            simp only [Cont.len, Nat.mul_one] at hl
            rw [hl]
            refine view_row ho hB hJ _ (fun el j he hj => ?_)
            have hj0 : j = 0 := by omega
            subst hj0
            rw [Nat.mul_one, Nat.add_zero]
            have hlt : el < xs.length := by rw [ho.1]; omega
            have := hc el xs[el] (by simp [hlt])
            have e2 : xs.getD el undef = xs[el] := by simp [List.getD_eq_getElem?_getD, hlt]
            rw [e2, this.v_inv]; exact .v _
          · exact .top _
        · rename_i e sz l hk
          split
          · rename_i hsz
            obtain ⟨x', hx', m, xs, ho, hl, hc⟩ := hw.ok _ _ hk
            rw [h] at hx'; injection hx' with hx'; subst hx'
            simp only [Cont.len] at hl
            rw [hl, Nat.mul_div_cancel _ hsz]
            refine view_row ho hB hJ _ (fun el j he hj => ?_)
            have hlt : el * sz + j < xs.length := by rw [ho.1]; exact row_elem he hj
            have := hc (el * sz + j) xs[el * sz + j] (by simp [hlt])
            have e2 : xs.getD (el * sz + j) undef = xs[el * sz + j] := by simp [List.getD_eq_getElem?_getD, hlt]
            rw [e2, this.v_inv]; exact .v _
          · exact .top _
        · rename_i e sz l hk
          split
          · rename_i hsz
            obtain ⟨x', hx', m, xs, ho, hl, hc⟩ := hw.ok _ _ hk
            rw [h] at hx'; injection hx' with hx'; subst hx'
            simp only [Cont.len] at hl
            rw [hl, Nat.mul_div_cancel _ hsz]
            refine view_row ho hB hJ _ (fun el j he hj => ?_)
            have hlt : el * sz + j < xs.length := by rw [ho.1]; exact row_elem he hj
            have := hc (el * sz + j) xs[el * sz + j] (by simp [hlt])
            have e2 : xs.getD (el * sz + j) undef = xs[el * sz + j] := by simp [List.getD_eq_getElem?_getD, hlt]
            rw [e2]
            exact ih (.inr rfl) this
          · exact .top _
        · rename_i e c hk
          obtain ⟨x', hx', m, xs, ho, hl, hc⟩ := hw.ok _ _ hk
          rw [h] at hx'; injection hx' with hx'; subst hx'
          rw [Nat.mul_one] at hl
          rw [hl]
          refine view_row ho hB hJ _ (fun el j he hj => ?_)
          have hj0 : j = 0 := by omega
          subst hj0
          rw [Nat.mul_one, Nat.add_zero]
          have hlt : el < xs.length := by rw [ho.1]; omega
          have := hc el xs[el] (by simp [hlt])
          have e2 : xs.getD el undef = xs[el] := by simp [List.getD_eq_getElem?_getD, hlt]
          rw [e2]; exact ih (.inl rfl) this
        · exact .top _
      · cases h
    | w id off len cap A x h hcap hA =>
      rcases hρ with rfl | rfl
      · simp only [AV.pub]
        split
        · rename_i e sz k l hk
          split
          · rename_i hsz; obtain ⟨hsz, hol⟩ := hsz; subst hsz
            obtain ⟨x', hx', m, xs, ho, hl, hc⟩ := hw.ok _ _ hk
            rw [h] at hx'; injection hx' with hx'; subst hx'
            simp only [Cont.len, Nat.mul_one] at hl
            refine .i _ _ _ _ _ _ _ (fun el _ => .int k (l.getD (off + el) 0)) hcap (fun hp => ?_) (fun e f he hf => .v _)
            obtain ⟨b, hb, rfl⟩ := hA hp
            rw [rootBlk_own ho] at hb
            refine ⟨_, rfl, hJ b (ho.lt b hb).1 (ho.lt b hb).2, (fun h => Nat.le_trans (hB h) (ho.lt b hb).1), fun el j he hj => ?_⟩
            have hj0 : j = 0 := by omega
            subst hj0
            rw [Nat.mul_one, Nat.add_zero, add_none]
            have hlt : off + el < xs.length := by rw [ho.1]; omega
            have h2 := ho.cells hb (off + el) xs[off + el] (by simp [hlt])
            have h3 := hc (off + el) xs[off + el] (by simp [hlt])
            rw [add_none, Nat.zero_add] at h2
            rw [h2, h3.v_inv]
          · exact .top _
        · exact .top _
      · cases h
    | p id off b x h hb =>
      rcases hρ with rfl | rfl
      · simp only [AV.pub]
        split
        · rename_i blk hk
          have key : ∀ j, off + j < blk.cont.len → ∃ u, w.cell? ⟨b, off + j, none⟩ = some u ∧ Conc B I w ρ' (blk.cont.at (off + j)) u := fun j hj => hw.cell hk h hb hj
          have hu : ∃ f : Nat → Value, ∀ j, off + j < blk.cont.len → w.cell? ⟨b, off + j, none⟩ = some (f j) ∧ Conc B I w ρ' (blk.cont.at (off + j)) (f j) :=
            ⟨fun j => if hj : off + j < blk.cont.len then Classical.choose (key j hj) else undef, fun j hj => by simp only [hj, dif_pos]; exact Classical.choose_spec (key j hj)⟩
          obtain ⟨f, hf⟩ := hu
          obtain ⟨x', hx', hok⟩ := hw.ok _ _ hk
          rw [h] at hx'; injection hx' with hx'; subst hx'
          exact .q _ _ _ _ _ ⟨b, off, none⟩ f (hJ b (hok.lt hb).1 (hok.lt hb).2) (fun h => Nat.le_trans (hB h) (hok.lt hb).1) (fun j hj => by rw [add_none]; exact (hf j hj).1) (fun j hj => ih (.inl rfl) (hf j hj).2)
        · exact .top _
      · cases h
    | i fr c sz off len cap A u hcap hA hc =>
      refine .i _ _ _ _ _ _ _ u hcap (fun hl => ?_) (fun e f he hf => ih (.inr rfl) (hc e f he hf))
      obtain ⟨ad, h1, h2, h3, h4⟩ := hA hl
      exact ⟨ad, h1, hIJ _ h2, (fun h => by simp only [Bool.and_eq_true] at h; exact Nat.le_trans (hB h.2) (h3 h.1)), h4⟩
    | q fr c sz e f ad u h2 h3 hcell hc =>
      exact .q _ _ _ _ _ ad u (hIJ _ h2) (fun h => by simp only [Bool.and_eq_true] at h; exact Nat.le_trans (hB h.2) (h3 h.1)) hcell (fun j hj => ih (.inr rfl) (hc j hj))
    | a cs us hl h => exact .a _ us (by simpa using hl) fun j hj => by rw [List.length_map] at hj; rw [getD_map_pub _ _ _ _ _ hj]; exact ih hρ (h j hj)
    | t cs us hl h => exact .t _ us (by simpa using hl) fun j hj => by rw [List.length_map] at hj; rw [getD_map_pub _ _ _ _ _ hj]; exact ih hρ (h j hj)
    | f fn cs us hl h => exact .f fn _ us (by simpa using hl) fun j hj => by rw [List.length_map] at hj; rw [getD_map_pub _ _ _ _ _ hj]; exact ih hρ (h j hj)
    | g b x _ h h0 => exact .g b _ _ (fun hb => ih hρ (h hb)) h0
    | top => exact .top _

/-- A function that makes memory of its own at most: what it returns for these arguments. -/
def Pure (P : Program) (f : FuncId) (args : List AV) (r : AV) : Prop :=
  (∃ fn, P.funcs[f]? = some fn ∧ (fn.name == "runtime.NumGoroutine") = false ∧ fn.body.isNone = false) ∧
  ∀ (w : World) (I : Nat → Prop) (vs : Array Value), (∀ b, I b → b < w.heap.size) → ConcL w.heap.size I w noId args vs.toList →
    Calls P f vs w fun e w' => ∃ v, e = .returned v ∧ Below w.heap.size w w' ∧ Conc w.heap.size (fun b => I b ∨ (w.heap.size ≤ b ∧ b < w'.heap.size)) w' noId r v

end Go.Eng
