/- Stores, new variables, make, append. -/
import Derived.Test.YtgcomonjkcpkaaaQngI
import Derived.Laws.CopyRow
namespace Go.Eng
open Go.RowKit

def oneL : List AV → Bool
  | [] => true
  | x :: r => x.one && oneL r
theorem oneL_getD : ∀ {cs : List AV} (_ : oneL cs = true) (j : Nat), j < cs.length → (cs.getD j .top).one = true
  | [], _, j, h => by simp at h
  | x :: r, h, 0, _ => by simp [oneL] at h; simpa using h.1
  | x :: r, h, j + 1, hj => by simp [oneL] at h; simpa using oneL_getD h.2 j (by simpa using hj)

/-- The contents of a slice that is appended: elements, by cells. -/
def srcOf (H : List (Nat × Blk)) (sz : Nat) (x : AV) : Option (Prop × Nat × (Nat → Nat → AV)) :=
  match x with
  | .i _ c sz' off len => some (sz' = sz, len, fun e j => c (off + e) j)
  | .s id => match lkH H id with
    | some (.row _ sz' c) => some (sz' = sz ∧ 0 < sz, c.len / sz, fun e j => c.at (e * sz + j))
    | _ => none
  | .w id off len => match lkH H id with
    | some (.row _ sz' c) => some (sz' = sz ∧ off + len * sz ≤ c.len, len, fun e j => c.at (off + e * sz + j))
    | _ => none
  | .v (.slice _ 0 _) => some (True, 0, fun _ _ => .top)
  | _ => none

/-- The row that is appended to. -/
def baseOf (H : List (Nat × Blk)) (x : AV) : Option (Option (Nat × TypeId × Nat × Cont)) :=
  match x with
  | .v (.slice none 0 0) => some none
  | .s id => match lkH H id with
    | some (.row e sz c) => some (some (id, e, sz, c))
    | _ => none
  | _ => none

def lessH (H : List (Nat × Blk)) : Option (Nat × TypeId × Nat × Cont) → List (Nat × Blk)
  | none => H
  | some (id, _, _, _) => delH id H

def al (T : Tab) (st : St) (o : Oper) (K : St → Prop) : Prop :=
  match o.op with
  | .store t x y =>
    match (st.ev x).strip, cellsOf (st.ev y).strip, T t with
    | .p id off, some cs, some ti =>
      match lkH st.heap id with
      | some (.box tb c) =>
        match c.updL off cs with
        | some c' => ((st.ev x).cond ∧ (st.ev y).cond ∧ cs.length = ti.sz ∧ off + cs.length ≤ c.len ∧ oneL cs = true ∧ o.dst = none) ∧ K ⟨st.env, (id, .box tb c') :: st.heap⟩
        | none => False
      | some (.row e sz c) =>
        match c.updL off cs with
        | some c' => ((st.ev x).cond ∧ (st.ev y).cond ∧ cs.length = ti.sz ∧ off + cs.length ≤ c.len ∧ oneL cs = true ∧ AV.norL cs = true ∧ o.dst = none) ∧ K ⟨st.env, (id, .row e sz c') :: st.heap⟩
        | none => False
      | some (.nst e c) =>
        match c.updL off cs with
        | some c' => ((st.ev x).cond ∧ (st.ev y).cond ∧ cs.length = ti.sz ∧ off + cs.length ≤ c.len ∧ oneL cs = true ∧ o.dst = none) ∧ K ⟨st.env, (id, .nst e c') :: st.heap⟩
        | none => False
      | none => False
    | _, _, _ => False
  | .box t x =>
    match o.dst, cellsOf (st.ev x).strip with
    | some d, some cs => (st.ev x).cond ∧ K ⟨(d, .p d 0) :: killE d st.env, (d, .box t (.avs (AV.killL d cs))) :: killH d st.heap⟩
    | _, _ => False
  | .alloc t =>
    match o.dst, T t with
    | some d, some ti => K ⟨(d, .p d 0) :: killE d st.env, (d, .box t (match ti.k, ti.z with | .arr _ _, _ => .vals ti.z.cells.toList | _, _ => .avs (ti.z.cells.toList.map .v))) :: killH d st.heap⟩
    | _, _ => False
  | .makeSlice t l c =>
    match o.dst, T t, (st.ev l).strip, (st.ev c).strip with
    | some d, some ⟨.sl e, _, _, _⟩, .v (.int _ nl), .v (.int _ nc) =>
      match T e with
      | some te => ((st.ev l).cond ∧ (st.ev c).cond ∧ 0 ≤ nl ∧ nl ≤ nc ∧ (te.by_ : Int) * nc ≤ 281474976710656 ∧ nc ≤ 9223372036854775807 ∧ te.z.cells.size = te.sz ∧ te.sz = 1 ∧ (match te.k, te.z with | .int k, .int k2 _ => k2 = k | _, _ => True)) ∧
          K ⟨(d, .s d) :: killE d st.env, (d, .row e te.sz (match te.k, te.z with | .int k, .int _ z => .ints k (List.replicate nl.toNat z) | _, _ => .vals (List.replicate nl.toNat (te.z.cells.getD 0 undef)))) :: killH d st.heap⟩
      | none => False
    | _, _, _, _ => False
  | .call c =>
    match c.callee, c.args.toList, c.argTypes.toList with
    | .builtin .append, [x, y], [t, t'] =>
      match o.dst, T t with
      | some d, some ⟨.sl e, _, _, _⟩ =>
        match T e, baseOf st.heap (st.ev x).strip with
        | some te, some bs =>
          match srcOf st.heap te.sz (st.ev y).strip with
          | some (ψ, m, src) =>
            match te.k, (match bs with | none => Cont.ints .i64 [] | some (_, _, _, c) => c) with
            | .int k, .ints k' l =>
              ∃ ys : List Int, ((st.ev x).cond ∧ (st.ev y).cond ∧ ψ ∧ t' = t ∧ te.sz = 1 ∧ te.z.cells.size = 1 ∧ (match bs with | none => True | some (_, e', sz, _) => e' = e ∧ sz = 1 ∧ k' = k) ∧ ys.length = m ∧ (∀ j, j < m → src j 0 = .v (.int k (ys.getD j 0))) ∧ (l.length + m) * te.by_ ≤ 140737488355328 ∧ l.length + m ≤ 9223372036854775807) ∧
                K ⟨(d, .s d) :: killE d st.env, (d, .row e 1 (.ints k (l ++ ys))) :: killH d (lessH st.heap bs)⟩
            | _, c0 =>
              match (match bs with | none => Cont.avs [] | some _ => c0) with
              | .avs l => ∃ ys : List AV, ((st.ev x).cond ∧ (st.ev y).cond ∧ ψ ∧ t' = t ∧ 0 < te.sz ∧ te.z.cells.size = te.sz ∧ (match bs with | none => True | some (_, e', sz, _) => e' = e ∧ sz = te.sz) ∧ ys.length = m * te.sz ∧ (∀ el j, el < m → j < te.sz → src el j = ys.getD (el * te.sz + j) .top) ∧ oneL ys = true ∧ (l.length / te.sz + m) * te.by_ ≤ 140737488355328 ∧ l.length / te.sz + m ≤ 9223372036854775807) ∧
                K ⟨(d, .s d) :: killE d st.env, (d, .row e te.sz (.avs (l ++ ys))) :: killH d (lessH st.heap bs)⟩
              | _ => False
          | none => False
        | _, _ => False
      | _, _ => False
    | _, _, _ => False
  | _ => False

section
variable {P : Program} {T : Tab} (hT : T.ok P) {n B : Nat} {w0 : Orig} {st : St} {a : Act} {w : World} {ρ : Nat → Option Value} {I : Nat → Prop}

def StepOk (P : Program) (n B : Nat) (w0 : Orig) (o : Oper) (a : Act) (w : World) (K : St → Prop) : Prop :=
  ∀ (next : Act → World → Prop) (Q : Exit → Act → World → Prop), (∀ st' a' w', K st' → G n B w0 st' a' w' → next a' w') → o.wp P a w next Q

theorem below_setRow {B : Nat} {a w : World} (h : Below B a w) {g : Nat} (hg : B ≤ g) (cs : Array Value) : Below B a (w.setRow g cs) :=
  h.trans ⟨rfl, rfl, rfl, by simp [World.setRow], fun k hk => by
    simp only [World.setRow, Array.getElem?_modify]; rw [if_neg (by omega)]⟩
theorem heap_setRow (w : World) (g : Nat) (cs cur : Array Value) (t : TypeId) (h : w.heap[g]? = some (.cells cur t (0, 0))) : (w.setRow g cs).heap[g]? = some (.cells cs t (0, 0)) := by
  simp [World.setRow, Array.getElem?_modify, h]
theorem heap_setRow_ne (w : World) (g k : Nat) (cs : Array Value) (h : g ≠ k) : (w.setRow g cs).heap[k]? = w.heap[k]? := by
  simp only [World.setRow, Array.getElem?_modify]; rw [if_neg h]

theorem oneC_eq (u : Value) : u.oneCell' = oneC u := by cases u <;> rfl

theorem ConcL.oneCells {cs : List AV} {us : List Value} (h : ConcL B I w ρ cs us) (h1 : oneL cs = true) : ∀ u ∈ us, u.oneCell' = true := by
  intro u hu
  obtain ⟨j, hj, rfl⟩ := List.getElem_of_mem hu
  have hj' : j < cs.length := by rw [← h.1]; exact hj
  have := (h.2 j hj').one (oneL_getD h1 j hj')
  rw [oneC_eq]
  simpa [List.getD_eq_getElem?_getD, hj] using this

/-- The cells of a row behind a store of several. -/
theorem cells_after (cur : Array Value) (off : Nat) (vs : List Value) (hl : off + vs.length ≤ cur.size) (j : Nat) (hj : j < cur.size) :
    ((cur.toList.take off ++ vs ++ cur.toList.drop (off + vs.length)).toArray)[j]? = some (if off ≤ j ∧ j < off + vs.length then vs.getD (j - off) undef else cur.getD j undef) := by
  rw [List.getElem?_toArray]
  have ht : (cur.toList.take off).length = off := by simp; omega
  by_cases h1 : j < off
  · rw [if_neg (by omega), List.append_assoc, List.getElem?_append_left (by omega)]
    simp [h1, hj, Array.getD_eq_getD_getElem?]
  · by_cases h2 : j < off + vs.length
    · rw [if_pos ⟨by omega, h2⟩, List.append_assoc, List.getElem?_append_right (by omega), ht, List.getElem?_append_left (by omega)]
      simp [List.getD_eq_getElem?_getD, show j - off < vs.length by omega]
    · rw [if_neg (by omega), List.getElem?_append_right (by simp; omega)]
      simp only [List.length_append, ht, List.getElem?_drop]
      rw [show off + vs.length + (j - (off + vs.length)) = j from by omega]
      simp [hj, Array.getD_eq_getD_getElem?]

include hT in
theorem store_ok (hG : Gam n B w0 st a w ρ I) {o : Oper} {t : TypeId} {x y : Operand} (ho : o.op = .store t x y) {K : St → Prop} (h : al T st o K) : StepOk P n B w0 o a w K := by
  intro next Q hn
  unfold al at h
  simp only [ho] at h
  split at h
  · rename_i id off cs ti hst hcs hti
    have run : ∀ {b : Nat} {cur : Array Value} {tb : TypeId}, (st.ev x).cond → (st.ev y).cond → cs.length = ti.sz → off + cs.length ≤ cur.size → oneL cs = true → w.heap[b]? = some (.cells cur tb (0, 0)) → a.eval x = .pointer (some ⟨b, off, none⟩) →
        ConcL B I w ρ cs (a.eval y).cells.toList ∧ (execOp a.eval o).run P w = .ok .skip (w.setRow b (cur.toList.take off ++ (a.eval y).cells.toList ++ cur.toList.drop (off + (a.eval y).cells.toList.length)).toArray) := by
      intro b cur tb c1 c2 hl hle h1 hh hx
      have hv := cells_of ((hG.ev y).strip c2) hcs
      refine ⟨hv, ?_⟩
      have hst := run_storeCells_at (P := P) b off tb (a.eval y).cells.toList 0 cur w hh (by rw [hv.1]; omega) (hv.oneCells h1)
      have hsz : (a.eval y).cells.size = ti.sz := by rw [← Array.length_toList, hv.1, hl]
      simp only [Nat.add_zero] at hst
      simp [execOp, ho, Instr.storeAt, hx, Instr.sureAddr, storeVar, (hT _ _ hti).size w, hsz]
      rw [hst]
      simp [hsz]
    have hnew : ∀ {b : Nat} {cur : Array Value} (c c' : Cont) (ρ1 : Nat → Option Value), c.updL off cs = some c' → off + cs.length ≤ c.len → c.len ≤ cur.size → ConcL B I w ρ1 cs (a.eval y).cells.toList → (∀ b', I b' → b' ≠ b) →
        (∀ j u, j < c.len → cur[j]? = some u → Conc B I w ρ1 (c.at j) u) →
        ∀ j u, j < c.len → ((cur.toList.take off ++ (a.eval y).cells.toList ++ cur.toList.drop (off + (a.eval y).cells.toList.length)).toArray)[j]? = some u → Conc B I (w.setRow b (cur.toList.take off ++ (a.eval y).cells.toList ++ cur.toList.drop (off + (a.eval y).cells.toList.length)).toArray) ρ1 (c'.at j) u := by
      intro b cur c c' ρ1 hup hle hcl hv hI hold j u hj hu
      obtain ⟨_, s2, s3⟩ := Cont.updL_spec hup hle
      rw [cells_after cur off _ (by rw [hv.1]; omega) j (by omega)] at hu
      injection hu with hu
      refine Conc.same (w := w) ?_ (fun b' hb' => heap_setRow_ne w b b' _ (Ne.symm (hI b' hb')))
      subst hu
      split
      · rename_i hin
        rw [hv.1] at hin
        have := hv.2 (j - off) (by omega)
        rw [← s2 (j - off) (by omega), show off + (j - off) = j from by omega] at this
        exact this
      · rename_i hout
        rw [hv.1] at hout
        rw [s3 j hj (by omega)]
        exact hold j _ hj (by simp [Array.getD_eq_getD_getElem?, show j < cur.size by omega])
    split at h
    · rename_i tb c hk
      split at h
      · rename_i c' hup
        obtain ⟨⟨c1, c2, hl, hle, h1, hd⟩, hK⟩ := h
        have hc := (hG.ev x).strip c1
        rw [hst] at hc
        generalize hxv : a.eval x = xv at hc
        cases hc with
        | p _ _ b xx hr hb =>
          obtain ⟨y', hy', hok⟩ := hG.hw.ok id _ hk
          rw [hr] at hy'; injection hy' with hy'; subst hy'
          have hok0 := hok
          obtain ⟨b', us, rfl, hB, hh, hsz, hcc⟩ := hok
          simp [rootBlk] at hb; subst hb
          obtain ⟨hv, hrun⟩ := run c1 c2 hl (by omega) h1 hh hxv
          unfold Oper.wp
          rw [hrun, Oper.upon_skip, hd]
          obtain ⟨s1, _, _⟩ := Cont.updL_spec hup hle
          have hI : ∀ b1, I b1 → b1 ≠ b' := fun b1 h1 e => by subst e; exact hG.hw.imm id _ _ _ hk hr rfl h1
          refine hn _ _ _ hK ⟨ρ, I, hG.store hk hr ?_ (below_setRow (Below.refl _ _) hB _) (fun b1 hb1 => heap_setRow_ne w _ _ _ (fun e => hb1 (by rw [e]; rfl)))⟩
          refine ⟨b', _, rfl, hB, heap_setRow w b' _ us tb hh, by simp; rw [s1, ← hsz]; have := hv.1; simp at this; omega, fun j u hu => ?_⟩
          have hj : j < c.len := by
            have := (Array.getElem?_eq_some_iff.1 hu).1
            simp at this; have h3 := hv.1; simp at h3; omega
          exact hnew c c' ρ hup hle (by omega) hv hI (fun j u hj hu => hcc j u hu) j u hj hu
      · exact h.elim
    · rename_i e sz c hk
      split at h
      · rename_i c' hup
        obtain ⟨⟨c1, c2, hl, hle, h1, hnor, hd⟩, hK⟩ := h
        have hc := (hG.ev x).strip c1
        rw [hst] at hc
        generalize hxv : a.eval x = xv at hc
        cases hc with
        | p _ _ b xx hr hb =>
          obtain ⟨y', hy', hok⟩ := hG.hw.ok id _ hk
          rw [hr] at hy'; injection hy' with hy'; subst hy'
          have hok0 := hok
          obtain ⟨m, xs, ho', hlen, hcc⟩ := hok
          rcases ho'.2 with ⟨rfl, _⟩ | ⟨g, cap, cur, rfl, hB, hh, hmc, hmax, hcs2, htake⟩
          · simp [rootBlk] at hb
          simp [rootBlk] at hb; subst hb
          have hcap : m * sz ≤ cap * sz := Nat.mul_le_mul_right _ hmc
          obtain ⟨hv, hrun⟩ := run c1 c2 hl (by omega) h1 hh hxv
          unfold Oper.wp
          rw [hrun, Oper.upon_skip, hd]
          obtain ⟨s1, _, _⟩ := Cont.updL_spec hup hle
          have hI : ∀ b1, I b1 → b1 ≠ g := fun b1 h1 e => by subst e; exact hG.hw.imm id _ _ _ hk hr rfl h1
          refine hn _ _ _ hK ⟨ρ, I, hG.store hk hr ?_ (below_setRow (Below.refl _ _) hB _) (fun b1 hb1 => heap_setRow_ne w _ _ _ (fun e => hb1 (by rw [e]; rfl)))⟩
          have hvl := hv.1
          simp at hvl
          have hsize : (cur.toList.take off ++ (a.eval y).cells.toList ++ cur.toList.drop (off + (a.eval y).cells.toList.length)).toArray.size = cap * sz := by simp; omega
          refine ⟨m, _, ⟨?_, .inr ⟨g, cap, _, rfl, hB, heap_setRow w g _ cur e hh, hmc, hmax, hsize, rfl⟩⟩, by rw [s1]; exact hlen, fun j u hu => ?_⟩
          · rw [List.length_take, Array.length_toList, hsize]; omega
          · have hj : j < m * sz := by
              have := (List.getElem?_eq_some_iff.1 hu).1
              rw [List.length_take] at this; omega
            rw [List.getElem?_take_of_lt hj] at hu
            refine hnew c c' noId hup hle (by omega) (hv.nor hnor) hI (fun j u hj hu => hcc j u ?_) j u (by omega) (by simpa using hu)
            rw [← htake, List.getElem?_take_of_lt (by omega)]
            simpa using hu
      · exact h.elim
    · rename_i e c hk
      split at h
      · rename_i c' hup
        obtain ⟨⟨c1, c2, hl, hle, h1, hd⟩, hK⟩ := h
        have hc := (hG.ev x).strip c1
        rw [hst] at hc
        generalize hxv : a.eval x = xv at hc
        cases hc with
        | p _ _ b xx hr hb =>
          obtain ⟨y', hy', hok⟩ := hG.hw.ok id _ hk
          rw [hr] at hy'; injection hy' with hy'; subst hy'
          have hok0 := hok
          obtain ⟨m, xs, ho', hlen, hcc⟩ := hok
          rcases ho'.2 with ⟨rfl, _⟩ | ⟨g, cap, cur, rfl, hB, hh, hmc, hmax, hcs2, htake⟩
          · simp [rootBlk] at hb
          simp [rootBlk] at hb; subst hb
          have hcap : m * 1 ≤ cap * 1 := Nat.mul_le_mul_right _ hmc
          obtain ⟨hv, hrun⟩ := run c1 c2 hl (by omega) h1 hh hxv
          unfold Oper.wp
          rw [hrun, Oper.upon_skip, hd]
          obtain ⟨s1, _, _⟩ := Cont.updL_spec hup hle
          have hI : ∀ b1, I b1 → b1 ≠ g := fun b1 h1 e => by subst e; exact hG.hw.imm id _ _ _ hk hr rfl h1
          refine hn _ _ _ hK ⟨ρ, I, hG.store hk hr ?_ (below_setRow (Below.refl _ _) hB _) (fun b1 hb1 => heap_setRow_ne w _ _ _ (fun e => hb1 (by rw [e]; rfl)))⟩
          have hvl := hv.1
          simp at hvl
          have hsize : (cur.toList.take off ++ (a.eval y).cells.toList ++ cur.toList.drop (off + (a.eval y).cells.toList.length)).toArray.size = cap * 1 := by simp; omega
          refine ⟨m, _, ⟨?_, .inr ⟨g, cap, _, rfl, hB, heap_setRow w g _ cur e hh, hmc, hmax, hsize, rfl⟩⟩, by rw [s1]; exact hlen, fun j u hu => ?_⟩
          · rw [List.length_take, Array.length_toList, hsize]; omega
          · have hj : j < m * 1 := by
              have := (List.getElem?_eq_some_iff.1 hu).1
              rw [List.length_take] at this; omega
            rw [List.getElem?_take_of_lt hj] at hu
            refine hnew c c' ρ hup hle (by omega) hv hI (fun j u hj hu => hcc j u ?_) j u (by omega) (by simpa using hu)
            rw [← htake, List.getElem?_take_of_lt (by omega)]
            simpa using hu
      · exact h.elim
    · exact h.elim
  · exact h.elim
end
end Go.Eng
