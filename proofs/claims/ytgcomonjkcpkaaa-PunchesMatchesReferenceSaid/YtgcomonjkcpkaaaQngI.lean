/- Slices written out, calls, stores, new blocks, make, append: the steps. -/
import Derived.Test.YtgcomonjkcpkaaaQngH
import Derived.Laws.Rows
import Derived.Laws.NewFold
namespace Go.Eng
open Go.RowKit

def toInts (k : IntKind) : List AV → Option (List Int)
  | [] => some []
  | x :: r => match x with
    | .v (.int k' n) => if k' = k then (match toInts k r with | some l => some (n :: l) | none => none) else none
    | _ => none
theorem toInts_spec {k : IntKind} : ∀ {cs : List AV} {l : List Int}, toInts k cs = some l → l.length = cs.length ∧ ∀ j, j < cs.length → cs.getD j .top = .v (.int k (l.getD j 0))
  | [], l, h => by simp [toInts] at h; subst h; exact ⟨rfl, fun j hj => by simp at hj⟩
  | x :: r, l, h => by
    simp only [toInts] at h
    split at h
    · split at h
      · rename_i hk; subst hk
        split at h
        · rename_i l' hl'
          injection h with h; subst h
          obtain ⟨h1, h2⟩ := toInts_spec hl'
          refine ⟨by simp [h1], fun j hj => ?_⟩
          cases j with
          | zero => simp
          | succ j => simpa using h2 j (by simpa using hj)
        · cases h
      · cases h
    · cases h

/-- A slice that is written out, of which nothing is written later. -/
def qb (T : Tab) (ev : Operand → AV) : Op → Option (Prop × AV)
  | .buildSlice t len parts =>
    match T t with
    | some ⟨.sl e, _, _, _⟩ =>
      match T e with
      | some te =>
        match fillA (fun i => some (i * te.sz, te.sz)) (cellsFrom (fun j => ofVal (te.z.cells.getD (j % te.sz) undef)) 0 (len * te.sz)) (parts.toList.map fun p => (p.1, ev p.2)) with
        | some (φ, cs) =>
          match te.k with
          | .int k => match toInts k cs with
            | some l => some (φ ∧ te.sz = 1 ∧ te.z.cells.size = 1 ∧ len ≤ 16777216, .i true (fun e _ => .v (.int k (l.getD e 0))) 1 0 l.length)
            | none => none
          | _ => some (φ ∧ 0 < te.sz ∧ te.z.cells.size = te.sz ∧ len * te.sz ≤ 16777216 ∧ AV.norL cs = true, .i true (fun e j => cs.getD (e * te.sz + j) .top) te.sz 0 len)
        | none => none
      | none => none
    | _ => none
  | _ => none

section
variable {P : Program} {T : Tab} (hT : T.ok P) {B : Nat} {I : Nat → Prop} {w : World} {ρ : Nat → Option Value}

theorem ConcL.nor {cs : List AV} {us : List Value} (h : ConcL B I w ρ cs us) (hn : AV.norL cs = true) : ConcL B I w noId cs us := ⟨h.1, fun j hj => (h.2 j hj).nor (norL_getD hn j)⟩

/-- A row of cells laid anew, as a slice that nobody writes. -/
theorem conc_row {t : TypeId} {us : Array Value} {c : Nat → Nat → AV} {sz len cap : Nat} {I' : Nat → Prop} (hI : I' w.heap.size) (hB : B ≤ w.heap.size) (hcap : len ≤ cap) (hl : len * sz ≤ us.size)
    (hc : ∀ e j, e < len → j < sz → Conc B I' (w.alloc (.cells us t)) noId (c e j) (us.getD (e * sz + j) undef)) : Conc B I' (w.alloc (.cells us t)) ρ (.i true c sz 0 len) (.slice (some ⟨w.heap.size, 0, none⟩) len cap) := by
  refine .i _ _ _ _ _ _ _ (fun e j => us.getD (e * sz + j) undef) hcap (fun _ => ⟨_, rfl, hI, fun _ => hB, fun e j he hj => ?_⟩) (fun e j he hj => by rw [Nat.zero_add]; exact hc e j he hj)
  have hlt : e * sz + j < us.size := Nat.lt_of_lt_of_le (row_elem he hj) hl
  have hb : (w.alloc (.cells us t)).heap[w.heap.size]? = some (.cells us t (0, 0)) := heap_alloc_new w _
  rw [add_none, Nat.zero_add, cell_of_row _ _ _ us t (0, 0) hb]
  simp [hlt, Array.getD_eq_getD_getElem?]

include hT in
theorem qb_ok {n : Nat} {w0 : Orig} {st : St} {a : Act} (hG : Gam n B w0 st a w ρ I) {o : Oper} {φ : Prop} {r : AV} (h : qb T st.ev o.op = some (φ, r)) (hφ : φ) (next : Act → World → Prop) (Q : Exit → Act → World → Prop)
    (hn : ∀ v w' I', Quiet I w I' w' → Conc B I' w' ρ r v → next (a.put o.dst v) w') : o.wp P a w next Q := by
  obtain ⟨dst, op, ty, pos, aft, gd⟩ := o
  simp only [qb] at h
  split at h
  · rename_i t len parts
    split at h
    · rename_i e _ _ _ ht
      have hu : P.underlying t = some (.slice e) := (hT _ _ ht).kind
      split at h
      · rename_i te hte
        obtain ⟨inf, hi1, hi2, hi3, hz⟩ := (hT _ _ hte).info
        have hsz := (hT _ _ hte).size w
        split at h
        · rename_i ψ cs hfill
          -- what is common
          have common : ψ → te.z.cells.size = te.sz → len * te.sz ≤ 16777216 →
              ∃ us, us.size = len * te.sz ∧ ConcL B I w ρ cs us.toList ∧ (execOp a.eval ⟨dst, .buildSlice t len parts, ty, pos, aft, gd⟩).run P w = .ok (.value (.slice (some ⟨w.heap.size, 0, none⟩) len len)) (w.alloc (.cells us e)) := by
            intro hψ hzs hlen
            have hz0 : ConcL B I w ρ (cellsFrom (fun j => ofVal (te.z.cells.getD (j % te.sz) undef)) 0 (len * te.sz)) ((Array.range (len * te.sz)).map fun j => (if len * te.sz = 0 then #[] else te.z.cells)[j % (if len * te.sz = 0 then #[] else te.z.cells).size]!).toList := by
              refine ⟨by simp [cellsFrom_length], fun j hj => ?_⟩
              rw [cellsFrom_length] at hj
              have hne : ¬ len * te.sz = 0 := by omega
              rw [cellsFrom_getD _ _ _ _ hj, Nat.zero_add, if_neg hne, hzs]
              have e1 : ((Array.range (len * te.sz)).map fun j => te.z.cells[j % te.sz]!).toList.getD j undef = te.z.cells.getD (j % te.sz) undef := by
                have hlt : j % te.sz < te.z.cells.size := by
                  rw [hzs]; apply Nat.mod_lt
                  rcases Nat.eq_zero_or_pos te.sz with h0 | h0
                  · rw [h0] at hne; simp at hne
                  · exact h0
                simp [List.getD_eq_getElem?_getD, hj, Array.getD_eq_getD_getElem?, hlt]
              rw [e1]; exact conc_ofVal _
            obtain ⟨us, h1, h2⟩ := fillA_ok _ ((parts.map fun p => (p.1, a.eval p.2)).toList) _ _ hfill hψ hz0 (by simp) (fun j hj => by
              simp at hj
              have h1 : ((parts.toList.map fun p => (p.1, st.ev p.2)).getD j (0, .top)).2 = st.ev parts[j].2 := by simp [List.getD_eq_getElem?_getD, hj]
              have h2 : ((parts.map fun p => (p.1, a.eval p.2)).toList.getD j (0, undef)).2 = a.eval parts[j].2 := by simp [List.getD_eq_getElem?_getD, hj]
              rw [h1, h2]; exact hG.ev _)
            have hsize : us.size = len * te.sz := by
              have hfl : ∀ (place : Nat → Option (Nat × Nat)) (l : List (Nat × Value)) (us us' : Array Value), Instr.fill place us l = some us' → us'.size = us.size := by
                intro place l
                induction l with
                | nil => intro us us' h; simp [Instr.fill] at h; rw [h]
                | cons p l ih =>
                  intro us us' h
                  obtain ⟨i, v⟩ := p
                  simp only [Instr.fill] at h
                  split at h
                  · cases h
                  · split at h
                    · cases h
                    · rw [ih _ _ h]
                      have : ∀ (l : List (Value × Nat)) (off : Nat) (us : Array Value), (l.foldl (fun cs (x : Value × Nat) => cs.setIfInBounds (off + x.2) x.1) us).size = us.size := by
                        intro l
                        induction l with
                        | nil => intro off us; rfl
                        | cons q l ih => intro off us; simp [ih]
                      rw [← Array.foldl_toList]
                      exact this _ _ _
              rw [hfl _ _ _ _ h1]; simp
            refine ⟨us, hsize, h2, ?_⟩
            have hlen' : ¬ (len * te.sz > 2 ^ 24) := by omega
            by_cases h0 : len * te.sz = 0
            · rw [if_pos h0] at h1
              rw [h0] at h1
              have h024 : ¬ ((0 : Nat) > 2 ^ 24) := by decide
              simp only [execOp, Instr.buildSlice, Sem.run_bind, run_underlying hu, Result.andThen_ok, hsz, h0, h024, if_false, if_true, Sem.run_pure, h1]
              simp [newRow]
            · rw [if_neg h0] at h1
              simp only [execOp, Instr.buildSlice, Sem.run_bind, run_underlying hu, Result.andThen_ok, hsz, hlen', if_false, h0, Sem.run_pure, zeroValue, typeInfo, run_program, hi1, hz, h1]
              simp [newRow]
          have finish : ∀ (us : Array Value) (c : Nat → Nat → AV), us.size = len * te.sz → (∀ e j, e < len → j < te.sz → Conc B I w noId (c e j) (us.getD (e * te.sz + j) undef)) →
              (execOp a.eval ⟨dst, .buildSlice t len parts, ty, pos, aft, gd⟩).run P w = .ok (.value (.slice (some ⟨w.heap.size, 0, none⟩) len len)) (w.alloc (.cells us e)) → r = .i true c te.sz 0 len → Oper.wp P ⟨dst, .buildSlice t len parts, ty, pos, aft, gd⟩ a w next Q := by
            intro us c hus hc hrun hr
            unfold Oper.wp
            rw [hrun, Oper.upon_value]
            have hq : Quiet I w (fun b => I b ∨ b = w.heap.size) (w.alloc (.cells us e)) :=
              ⟨(Below.refl _ _).alloc (Nat.le_refl _) _, fun b hb => .inl hb, fun b hb hn => by rcases hb with hb | hb; exact absurd hb hn; omega, fun b hb => by
                have : (w.alloc (.cells us e)).heap.size = w.heap.size + 1 := by simp
                rcases hb with hb | hb
                · have := hG.hw.lt b hb; omega
                · omega⟩
            refine hn _ _ _ hq ?_
            rw [hr]
            refine conc_row (ρ := ρ) (.inr rfl) hG.base (Nat.le_refl _) (by omega) (fun el j he hj => ?_)
            exact (hc el j he hj).quiet hq hG.hw.lt
          split at h
          · rename_i k hk
            split at h
            · rename_i l hl
              simp only [Option.some.injEq, Prod.mk.injEq] at h
              obtain ⟨rfl, rfl⟩ := h
              obtain ⟨us, h1, h2, h3⟩ := common hφ.1 (by rw [hφ.2.1, hφ.2.2.1]) (by rw [hφ.2.1]; omega)
              obtain ⟨l1, l2⟩ := toInts_spec hl
              have hcl : cs.length = len := by
                have := h2.1
                rw [Array.length_toList, h1, hφ.2.1] at this; omega
              refine finish us _ h1 (fun el j he hj => ?_) h3 (by rw [hφ.2.1, l1, hcl])
              have hj0 : j = 0 := by rw [hφ.2.1] at hj; omega
              subst hj0
              rw [hφ.2.1, Nat.mul_one, Nat.add_zero]
              have := h2.2 el (by omega)
              rw [l2 el (by omega)] at this
              have e2 : us.toList.getD el undef = us.getD el undef := by simp [List.getD_eq_getElem?_getD, Array.getD_eq_getD_getElem?]
              rw [← e2, this.v_inv]; exact .v _
            · cases h
          · simp only [Option.some.injEq, Prod.mk.injEq] at h
            obtain ⟨rfl, rfl⟩ := h
            obtain ⟨us, h1, h2, h3⟩ := common hφ.1 hφ.2.2.1 hφ.2.2.2.1
            have h2 := h2.nor hφ.2.2.2.2
            refine finish us _ h1 (fun el j he hj => ?_) h3 rfl
            have hlt : el * te.sz + j < cs.length := by
              have := h2.1
              rw [Array.length_toList, h1] at this
              rw [← this]; exact row_elem he hj
            have := h2.2 _ hlt
            have e2 : us.toList.getD (el * te.sz + j) undef = us.getD (el * te.sz + j) undef := by simp [List.getD_eq_getElem?_getD, Array.getD_eq_getD_getElem?]
            rwa [e2] at this
        · cases h
      · cases h
    · cases h
  · cases h
end

def callee? (ev : Operand → AV) : Op → Option (Prop × FuncId × List AV)
  | .call c => match c.callee with
    | .value f => match (ev f).strip with
      | .v (.func (.func k) first caps) => match first.toList, caps.toList with
        | [], [] => some ((ev f).cond, k, c.args.toList.map ev)
        | _, _ => none
      | .f (.func k) cs => some ((ev f).cond, k, c.args.toList.map ev ++ cs)
      | _ => none
    | _ => none
  | _ => none

def condL : List AV → Prop
  | [] => True
  | x :: r => x.cond ∧ condL r
theorem condL_getD : ∀ {cs : List AV} (_ : condL cs) (j : Nat), (cs.getD j .top).cond
  | [], _, _ => by simp [AV.cond]
  | x :: r, h, 0 => by simpa using h.1
  | x :: r, h, j + 1 => by simpa using condL_getD h.2 j

def pubL (H : List (Nat × Blk)) : List AV → List AV
  | [] => []
  | x :: r => AV.pub false H 4 x.strip :: pubL H r
theorem pubL_length (H : List (Nat × Blk)) : ∀ cs, (pubL H cs).length = cs.length
  | [] => rfl
  | x :: r => by simp [pubL, pubL_length H r]
theorem pubL_getD (H : List (Nat × Blk)) : ∀ (cs : List AV) (j : Nat), j < cs.length → (pubL H cs).getD j .top = AV.pub false H 4 (cs.getD j .top).strip
  | [], j, h => by simp at h
  | x :: r, 0, h => by simp [pubL]
  | x :: r, j + 1, h => by simpa [pubL] using pubL_getD H r j (by simpa using h)

section
variable {P : Program} {B : Nat} {I : Nat → Prop} {w : World} {ρ : Nat → Option Value}

theorem callee_run {ev : Operand → AV} {ρv : Operand → Value} (hev : ∀ x, Conc B I w ρ (ev x) (ρv x)) {o : Oper} {ψ : Prop} {k : FuncId} {args : List AV} (h : callee? ev o.op = some (ψ, k, args)) (hψ : ψ)
    {fn : Func} (hf : P.funcs[k]? = some fn) (hname : (fn.name == "runtime.NumGoroutine") = false) (hbody : fn.body.isNone = false) :
    ∃ vs, (execOp ρv o).run P w = .ok (.enter k vs) w ∧ ConcL B I w ρ args vs.toList := by
  obtain ⟨dst, op, ty, pos, aft, gd⟩ := o
  have mapL : ∀ (l : List Operand), ConcL B I w ρ (l.map ev) (l.map ρv) := fun l => ⟨by simp, fun j hj => by
    simp at hj
    have h1 : (l.map ev).getD j .top = ev l[j] := by simp [List.getD_eq_getElem?_getD, hj]
    have h2 : (l.map ρv).getD j undef = ρv l[j] := by simp [List.getD_eq_getElem?_getD, hj]
    rw [h1, h2]; exact hev _⟩
  have hname' : ¬ fn.name = "runtime.NumGoroutine" := by simpa using hname
  have hbody' : ¬ fn.body = none := fun h => by rw [h] at hbody; cases hbody
  simp only [callee?] at h
  split at h
  · rename_i c
    split at h
    · rename_i f hc
      split at h
      · rename_i k' first caps hst
        split at h
        · rename_i h1 h2
          simp only [Option.some.injEq, Prod.mk.injEq] at h
          obtain ⟨rfl, rfl, rfl⟩ := h
          have e1 : first = #[] := by simpa using h1
          have e2 : caps = #[] := by simpa using h2
          subst e1; subst e2
          have hfv := (hev f).strip hψ
          rw [hst] at hfv
          have hfv := hfv.v_inv
          refine ⟨c.args.map ρv, ?_, by simpa using mapL c.args.toList⟩
          simp [execOp, resolve, hc, hfv, Deferred.ofValue, invoke, callFunc, hf, hname', hbody']
        · cases h
      · rename_i k' cs hst
        simp only [Option.some.injEq, Prod.mk.injEq] at h
        obtain ⟨rfl, rfl, rfl⟩ := h
        have hfv := (hev f).strip hψ
        rw [hst] at hfv
        generalize hfu : ρv f = fu at hfv
        cases hfv with
        | f _ _ us hl hcs =>
          refine ⟨c.args.map ρv ++ us, ?_, ?_⟩
          · simp [execOp, resolve, hc, hfu, Deferred.ofValue, invoke, callFunc, hf, hname', hbody']
          · have hm := mapL c.args.toList
            refine ⟨by simp [hl], fun j hj => ?_⟩
            by_cases hj' : j < c.args.size
            · have := hm.2 j (by simpa using hj')
              have e1 : (c.args.toList.map ev ++ cs).getD j .top = (c.args.toList.map ev).getD j .top := by simp [List.getD_eq_getElem?_getD, List.getElem?_append, hj']
              have e2 : (c.args.map ρv ++ us).toList.getD j undef = (c.args.toList.map ρv).getD j undef := by simp [List.getD_eq_getElem?_getD, List.getElem?_append, hj']
              rw [e1, e2]; exact this
            · simp at hj
              have := hcs (j - c.args.size) (by omega)
              have e1 : (c.args.toList.map ev ++ cs).getD j .top = cs.getD (j - c.args.size) .top := by simp [List.getD_eq_getElem?_getD, List.getElem?_append, hj']
              have e2 : (c.args.map ρv ++ us).toList.getD j undef = us.getD (j - c.args.size) undef := by simp [List.getD_eq_getElem?_getD, List.getElem?_append, hj', Array.getD_eq_getD_getElem?]
              rw [e1, e2]; exact this
      · cases h
    · cases h
  · cases h

/-- A value that refers to nothing of one's own is seen by a callee as it is. -/
theorem pub_noId {B B' : Nat} {I : Nat → Prop} {w : World} (H : List (Nat × Blk)) : ∀ (n : Nat) {x : AV} {u : Value}, Conc B I w noId x u → Conc B' I w noId (AV.pub false H n x) u := by
  intro n
  induction n with
  | zero => intro x u h; exact .top u
  | succ n ih =>
    intro x u h
    cases h with
    | v => exact .v _
    | s id _ h h1 => cases h
    | w id off len cap A x h hcap hA => cases h
    | p id off b x h hb => cases h
    | i fr c sz off len cap A u hcap hA hc =>
      refine .i _ _ _ _ _ _ _ u hcap (fun hl => ?_) (fun e f he hf => ih (hc e f he hf))
      obtain ⟨ad, h1, h2, h3, h4⟩ := hA hl
      exact ⟨ad, h1, h2, (fun hh => by simp at hh), h4⟩
    | q fr c sz e f ad u h2 h3 hcell hc => exact .q _ _ _ _ _ _ u h2 (fun hh => by simp at hh) hcell (fun j hj => ih (hc j hj))
    | a cs us hl h => exact .a _ _ (by simpa using hl) fun j hj => by simp only [List.length_map] at hj; rw [getD_map_pub _ _ _ _ _ hj]; exact ih (h j hj)
    | t cs us hl h => exact .t _ _ (by simpa using hl) fun j hj => by simp only [List.length_map] at hj; rw [getD_map_pub _ _ _ _ _ hj]; exact ih (h j hj)
    | f fn cs us hl h => exact .f _ _ _ (by simpa using hl) fun j hj => by simp only [List.length_map] at hj; rw [getD_map_pub _ _ _ _ _ hj]; exact ih (h j hj)
    | g b x _ h h0 => exact .g b _ _ (fun hb => ih (h hb)) h0
    | top => exact .top _
theorem nor_strip : ∀ {x : AV}, x.nor = true → x.strip.nor = true
  | .g b x, h => by rw [AV.strip]; exact nor_strip (x := x) (by rwa [AV.nor] at h)
  | .v _, h => h
  | .s _, h => h
  | .w _ _ _, h => h
  | .p _ _, h => h
  | .i _ _ _ _ _, h => h
  | .q _ _ _ _ _, h => h
  | .a _, h => h
  | .t _, h => h
  | .f _ _, h => h
  | .top, h => h

/-- What may be taken of a result: it is new, or nothing of one's own was handed over. -/
def okR (args : List AV) (r : AV) : Prop := r.fresh ∨ AV.norL args = true

theorem call_ok {n : Nat} {w0 : Orig} {st : St} {a : Act} (hG : Gam n B w0 st a w ρ I) {o : Oper} {ψ : Prop} {k : FuncId} {args : List AV} {r : AV} (h : callee? st.ev o.op = some (ψ, k, args)) (hψ : ψ) (hcond : condL args) (hp : Pure P k (pubL st.heap args) r) (hfr : okR args r)
    (next : Act → World → Prop) (Q : Exit → Act → World → Prop) (hn : ∀ v w' I', Quiet I w I' w' → Conc B I' w' ρ r v → next (a.put o.dst v) w') : o.wp P a w next Q := by
  obtain ⟨⟨fn, hf, hname, hbody⟩, hcall⟩ := hp
  obtain ⟨vs, hrun, hvs⟩ := callee_run (fun x => hG.ev x) h hψ hf hname hbody
  unfold Oper.wp
  rw [hrun, Oper.upon_enter]
  have quiet : ∀ w', Below w.heap.size w w' → Quiet I w (fun b => I b ∨ (w.heap.size ≤ b ∧ b < w'.heap.size)) w' := fun w' hb =>
    ⟨hb, fun b hb => .inl hb, fun b hb hn => by rcases hb with hb | hb; exact absurd hb hn; exact hb.1, fun b hb' => by
        rcases hb' with hb' | hb'
        · exact Nat.lt_of_lt_of_le (hG.hw.lt b hb') hb.size
        · exact hb'.2⟩
  rcases hfr with hfr | hnor
  · refine (hcall w (allB w) vs (fun b hb => hb) ⟨by rw [pubL_length]; exact hvs.1, fun j hj => ?_⟩).mono fun e w' he => ?_
    · rw [pubL_length] at hj
      rw [pubL_getD _ _ _ hj]
      exact pub_ok false hG.hw (fun h => by cases h) hG.hw.lt (fun b _ h => h) 4 (.inl rfl) ((hvs.2 j hj).strip (condL_getD hcond j))
    · obtain ⟨v, rfl, hb, hc⟩ := he
      refine hn v w' _ (quiet w' hb) ?_
      have h2 := hc.fresh (I' := fun b => I b ∨ (w.heap.size ≤ b ∧ b < w'.heap.size)) hfr (fun b hb1 hb2 => by
        rcases hb2 with hb2 | hb2
        · have : b < w.heap.size := hb2; omega
        · exact .inr hb2)
      exact (h2.mono hG.base (fun b hb => ⟨hb, rfl⟩) ρ (fun _ _ h => by cases h))
  · refine (hcall w I vs hG.hw.lt ⟨by rw [pubL_length]; exact hvs.1, fun j hj => ?_⟩).mono fun e w' he => ?_
    · rw [pubL_length] at hj
      rw [pubL_getD _ _ _ hj]
      exact pub_noId _ _ (((hvs.2 j hj).strip (condL_getD hcond j)).nor (nor_strip (norL_getD hnor j)))
    · obtain ⟨v, rfl, hb, hc⟩ := he
      exact hn v w' _ (quiet w' hb) (hc.mono hG.base (fun b hb => ⟨hb, rfl⟩) ρ (fun _ _ h => by cases h))
end
end Go.Eng
