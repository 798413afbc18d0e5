/- A slice literal as a row of one's own; memory that is written no more. -/
import Derived.Test.YtgcomonjkcpkaaaQngU
namespace Go.Eng
open Go.RowKit

section
variable {P : Program} {T : Tab} (hT : T.ok P) {n B : Nat} {w0 : Orig} {st : St} {a : Act} {w : World} {ρ : Nat → Option Value} {I : Nat → Prop}
include hT

theorem build_run (hG : Gam n B w0 st a w ρ I) {dst : Option Nat} {t e : TypeId} {len : Nat} {parts : Array (Nat × Operand)} {ty : TypeId} {pos : String} {aft : Array Edge} {gd : Option (Nat × Bool)} {te : TI} {ψ : Prop} {cs : List AV} {s1 b1 : Nat} {z1 : Value} (ht : T t = some ⟨.sl e, s1, b1, z1⟩) (hte : T e = some te)
    (hfill : fillA (fun i => some (i * te.sz, te.sz)) (cellsFrom (fun j => ofVal (te.z.cells.getD (j % te.sz) undef)) 0 (len * te.sz)) (parts.toList.map fun p => (p.1, st.ev p.2)) = some (ψ, cs)) :
    ψ → te.z.cells.size = te.sz → len * te.sz ≤ 16777216 →
      ∃ us, us.size = len * te.sz ∧ ConcL B I w ρ cs us.toList ∧ (execOp a.eval ⟨dst, .buildSlice t len parts, ty, pos, aft, gd⟩).run P w = .ok (.value (.slice (some ⟨w.heap.size, 0, none⟩) len len)) (w.alloc (.cells us e)) := by
  have hu : P.underlying t = some (.slice e) := (hT _ _ ht).kind
  obtain ⟨inf, hi1, hi2, hi3, hz⟩ := (hT _ _ hte).info
  have hsz := (hT _ _ hte).size w
  intro hψ hzs hlen
  have hz0 : ConcL B I w ρ (cellsFrom (fun j => ofVal (te.z.cells.getD (j % te.sz) undef)) 0 (len * te.sz)) ((Array.range (len * te.sz)).map fun j => (if len * te.sz = 0 then #[] else te.z.cells)[j % (if len * te.sz = 0 then #[] else te.z.cells).size]!).toList := by
    refine ⟨by simp [cellsFrom_length], fun j hj => ?_⟩
    rw [cellsFrom_length] at hj
    have hne : ¬ len * te.sz = 0 := by omega
    rw [cellsFrom_getD _ _ _ _ hj, Nat.zero_add, if_neg hne, hzs]
    have e1 : ((Array.range (len * te.sz)).map fun j => te.z.cells[j % te.sz]!).toList.getD j undef = te.z.cells.getD (j % te.sz) undef := by
      have hlt : j % te.sz < te.z.cells.size := by
        rw [hzs]; apply Nat.mod_lt
        rcases Nat.eq_zero_or_pos te.sz with h0 | h0
        · rw [h0] at hne; simp at hne
        · exact h0
      simp [List.getD_eq_getElem?_getD, hj, Array.getD_eq_getD_getElem?, hlt]
    rw [e1]; exact conc_ofVal _
  obtain ⟨us, h1, h2⟩ := fillA_ok _ ((parts.map fun p => (p.1, a.eval p.2)).toList) _ _ hfill hψ hz0 (by simp) (fun j hj => by
    simp at hj
    have h1 : ((parts.toList.map fun p => (p.1, st.ev p.2)).getD j (0, .top)).2 = st.ev parts[j].2 := by simp [List.getD_eq_getElem?_getD, hj]
    have h2 : ((parts.map fun p => (p.1, a.eval p.2)).toList.getD j (0, undef)).2 = a.eval parts[j].2 := by simp [List.getD_eq_getElem?_getD, hj]
    rw [h1, h2]; exact hG.ev _)
  have hsize : us.size = len * te.sz := by
    have hfl : ∀ (place : Nat → Option (Nat × Nat)) (l : List (Nat × Value)) (us us' : Array Value), Instr.fill place us l = some us' → us'.size = us.size := by
      intro place l
      induction l with
      | nil => intro us us' h; simp [Instr.fill] at h; rw [h]
      | cons p l ih =>
        intro us us' h
        obtain ⟨i, v⟩ := p
        simp only [Instr.fill] at h
        split at h
        · cases h
        · split at h
          · cases h
          · rw [ih _ _ h]
            have : ∀ (l : List (Value × Nat)) (off : Nat) (us : Array Value), (l.foldl (fun cs (x : Value × Nat) => cs.setIfInBounds (off + x.2) x.1) us).size = us.size := by
              intro l
              induction l with
              | nil => intro off us; rfl
              | cons q l ih => intro off us; simp [ih]
            rw [← Array.foldl_toList]
            exact this _ _ _
    rw [hfl _ _ _ _ h1]; simp
  refine ⟨us, hsize, h2, ?_⟩
  have hlen' : ¬ (len * te.sz > 2 ^ 24) := by omega
  by_cases h0 : len * te.sz = 0
  · rw [if_pos h0] at h1
    rw [h0] at h1
    have h024 : ¬ ((0 : Nat) > 2 ^ 24) := by decide
    simp only [execOp, Instr.buildSlice, Sem.run_bind, run_underlying hu, Result.andThen_ok, hsz, h0, h024, if_false, if_true, Sem.run_pure, h1]
    simp [newRow]
  · rw [if_neg h0] at h1
    simp only [execOp, Instr.buildSlice, Sem.run_bind, run_underlying hu, Result.andThen_ok, hsz, hlen', if_false, h0, Sem.run_pure, zeroValue, typeInfo, run_program, hi1, hz, h1]
    simp [newRow]

omit hT in
/-- A slice that is written out, as a row of one's own. -/
def alB (T : Tab) (st : St) (dst : Option Nat) (op : Op) (K : St → Prop) : Prop :=
  match op, dst with
  | .buildSlice t len parts, some d =>
    match T t with
    | some ⟨.sl e, _, _, _⟩ =>
      match T e with
      | some te =>
        match fillA (fun i => some (i * te.sz, te.sz)) (cellsFrom (fun j => ofVal (te.z.cells.getD (j % te.sz) undef)) 0 (len * te.sz)) (parts.toList.map fun p => (p.1, st.ev p.2)) with
        | some (φ, cs) =>
          match te.k with
          | .int k => match toInts k cs with
            | some l => (φ ∧ te.sz = 1 ∧ te.z.cells.size = 1 ∧ len ≤ 16777216) ∧ K ⟨(d, .s d) :: killE d st.env, (d, .row e 1 (.ints k l)) :: killH d st.heap⟩
            | none => False
          | _ => (φ ∧ 0 < te.sz ∧ te.z.cells.size = te.sz ∧ len * te.sz ≤ 16777216 ∧ AV.norL cs = true) ∧ K ⟨(d, .s d) :: killE d st.env, (d, .row e te.sz (.avs cs)) :: killH d st.heap⟩
        | none => False
      | none => False
    | _ => False
  | _, _ => False

theorem alB_ok (hG : Gam n B w0 st a w ρ I) {o : Oper} (hd : dstOk n o.dst) {K : St → Prop} (h : alB T st o.dst o.op K) : StepOk P n B w0 o a w K := by
  intro next Q hn
  obtain ⟨dst, op, ty, pos, aft, gd⟩ := o
  simp only [alB] at h
  split at h <;> first | exact h.elim | skip
  rename_i t len parts d
  split at h <;> first | exact h.elim | skip
  rename_i e s1 b1 z1 ht
  cases hte : T e with
  | none => rw [hte] at h; exact h.elim
  | some te =>
    rw [hte] at h
    simp only at h
    split at h <;> first | exact h.elim | skip
    rename_i ψ cs hfill
    have hdn : d < n := hd
    have own : ∀ us : Array Value, us.size = len * te.sz → len ≤ 16777216 → (w.alloc (.cells us e)).ownsRow B e te.sz (.slice (some ⟨w.heap.size, 0, none⟩) len len) len us.toList := fun us hs hl16 =>
      ⟨by simp [hs], .inr ⟨w.heap.size, len, us, rfl, hG.base, heap_alloc_new w _, Nat.le_refl _, by simp only [maxLen]; omega, hs, by rw [List.take_of_length_le (by simp [hs])]⟩⟩
    have hb : ∀ us : Array Value, Below w.heap.size w (w.alloc (.cells us e)) := fun us => (Below.refl _ _).alloc (Nat.le_refl _) _
    split at h
    · rename_i k hk
      split at h <;> first | exact h.elim | skip
      rename_i l hl
      obtain ⟨⟨hφ, hs1, hz1, h16⟩, hK⟩ := h
      obtain ⟨us, h1, h2, h3⟩ := build_run hT hG (dst := some d) (ty := ty) (pos := pos) (aft := aft) (gd := gd) ht hte hfill hφ (by rw [hs1, hz1]) (by rw [hs1]; omega)
      obtain ⟨l1, l2⟩ := toInts_spec hl
      have hcl : cs.length = len := by
        have := h2.1
        rw [Array.length_toList, h1, hs1] at this; omega
      unfold Oper.wp
      rw [h3, Oper.upon_value]
      have ho := own us h1 h16
      rw [hs1] at ho
      refine hn _ _ _ hK (new_row hG d hdn (hb us) ho (fun b hr => by simp [rootBlk] at hr; omega) _ (by simp [Cont.len, l1, hcl]) fun j u hu => ?_)
      have hj : j < cs.length := by
        have := (List.getElem?_eq_some_iff.1 hu).1
        simp [h1, hs1] at this; omega
      have := h2.2 j hj
      rw [l2 j hj] at this
      have e2 : us.toList.getD j undef = u := by simp [List.getD_eq_getElem?_getD, hu]
      rw [← e2, this.v_inv]; exact .v _
    · obtain ⟨⟨hφ, hpos, hzs, h16, hnor⟩, hK⟩ := h
      obtain ⟨us, h1, h2, h3⟩ := build_run hT hG (dst := some d) (ty := ty) (pos := pos) (aft := aft) (gd := gd) ht hte hfill hφ hzs h16
      have hcl : cs.length = len * te.sz := by
        have := h2.1
        rw [Array.length_toList, h1] at this; omega
      unfold Oper.wp
      rw [h3, Oper.upon_value]
      have hl16 : len ≤ 16777216 := by
        have : len * 1 ≤ len * te.sz := Nat.mul_le_mul_left _ hpos
        omega
      refine hn _ _ _ hK (new_row hG d hdn (hb us) (own us h1 hl16) (fun b hr => by simp [rootBlk] at hr; omega) _ (by simp [Cont.len, hcl]) fun j u hu => ?_)
      have hj : j < cs.length := by
        have := (List.getElem?_eq_some_iff.1 hu).1
        simp [h1] at this; omega
      have := (h2.nor hnor).2 j hj
      have e2 : us.toList.getD j undef = u := by simp [List.getD_eq_getElem?_getD, hu]
      rw [e2] at this
      exact this
end

/-- One operation: as before, or a literal as a row of one's own. -/
def AStepX (P : Program) (T : Tab) (n : Nat) (ops : Array Oper) (o : Oper) (K : St → Prop) (st : St) : Prop :=
  AStep P T n ops o K st ∨ (o.guard = none ∧ dstOk n o.dst ∧ alB T st o.dst o.op K) ∨ (guardB st ops o.guard = some (some false) ∧ dstOk n o.dst ∧ ∃ r, K (st.put o.dst (.g false r)))
theorem astepX_ok {P : Program} {T : Tab} (hT : T.ok P) {n B : Nat} {w0 : Orig} {st : St} {a : Act} {w : World} {ρ : Nat → Option Value} {I : Nat → Prop} (hG : Gam n B w0 st a w ρ I) {ops : Array Oper} {o : Oper} {K : St → Prop} (h : AStepX P T n ops o K st) (next : Act → World → Prop) (Q : Exit → Act → World → Prop) (hn : ∀ st' a' w', K st' → G n B w0 st' a' w' → next a' w') :
    if Region.wanted o (yielded ops a.tmps) then o.wp P a w next Q else next (a.put o.dst undef) w := by
  rcases h with h | ⟨hg, hd, h⟩ | ⟨hg, hd, h⟩
  · exact astep_ok hT hG h next Q hn
  · have : Region.wanted o (yielded ops a.tmps) = true := by
      have := guard_ok hG (ops := ops) (o := o) (g := none) (by rw [hg]; rfl)
      simpa using this
    rw [if_pos this]
    exact alB_ok hT hG hd h next Q hn
  · obtain ⟨r, h⟩ := h
    have := guard_ok hG hg
    rw [this]
    simp only [Option.getD_some, Bool.false_eq_true, if_false]
    exact hn _ _ _ h ⟨ρ, I, hG.put (dst_ok hd) (.g false r _ (fun h => by cases h) (fun _ => rfl))⟩

def AOpsX (P : Program) (T : Tab) (n : Nat) (ops : Array Oper) (K : St → Prop) : List Oper → St → Prop
  | [], st => K st
  | o :: rest, st => AStepX P T n ops o (fun st' => AOpsX P T n ops K rest st') st

theorem aopsX_ok {P : Program} {T : Tab} (hT : T.ok P) {n B : Nat} {w0 : Orig} {ops : Array Oper} {K : St → Prop} {Q : Exit → Act → World → Prop} (hQ : ∀ st' a' w', K st' → G n B w0 st' a' w' → Q .normal a' w') : ∀ (l : List Oper) (st : St) (a : Act) (w : World), G n B w0 st a w → AOpsX P T n ops K l st → wpList P ops Q l a w
  | [], st, a, w, hG, h => hQ st a w h hG
  | o :: rest, st, a, w, ⟨ρ, I, hG⟩, h => by
    have := astepX_ok hT hG h (wpList P ops Q rest) Q (fun st' a' w' hK hG' => aopsX_ok hT hQ rest st' a' w' hG' hK)
    unfold wpList
    split
    · rename_i hw; rw [if_pos hw] at this; exact .inl this
    · rename_i hw; rw [if_neg hw] at this; exact this
theorem awp_x {P : Program} {T : Tab} (hT : T.ok P) {n B : Nat} {w0 : Orig} {Q : Exit → St → Prop} {st : St} {id : Nat} {l : List Oper} (h : ∀ K : St → Prop, (∀ s, Q .normal s → K s) → AOpsX P T n l.toArray K l st) : AWP P n B w0 (.region id l.toArray false) Q st := fun a w hG =>
  wp_region_lit (aopsX_ok hT (fun st' _ _ hK hG' => ⟨st', hK, hG'⟩) l st a w hG (h (fun s => Q .normal s) fun _ h => h))
theorem awp_xseq {P : Program} {T : Tab} (hT : T.ok P) {n B : Nat} {w0 : Orig} {Q : Exit → St → Prop} {st : St} {id : Nat} {l : List Oper} {y : Code} (h : ∀ K : St → Prop, (∀ s, AWP P n B w0 y Q s → K s) → AOpsX P T n l.toArray K l st) : AWP P n B w0 (.seq (.region id l.toArray false) y) Q st :=
  awp_seq (awp_x hT (h · ))
theorem aopsx_nil {P : Program} {T : Tab} {n : Nat} {ops : Array Oper} {K : St → Prop} {st : St} (h : K st) : AOpsX P T n ops K [] st := h
theorem aopsx_cons {P : Program} {T : Tab} {n : Nat} {ops : Array Oper} {K : St → Prop} {o : Oper} {rest : List Oper} {st : St} {g : Option (Nat × Bool)} (hg : gOf ops o.guard = some g) (h : ∀ K' : St → Prop, (∀ s, AOpsX P T n ops K rest s → K' s) → StepN P T n o.dst o.op g K' st) : AOpsX P T n ops K (o :: rest) st :=
  .inl (stepN_ok hg (h _ fun _ h => h))
theorem aopsx_own {P : Program} {T : Tab} {n : Nat} {ops : Array Oper} {K : St → Prop} {o : Oper} {rest : List Oper} {st : St} (d : Nat) (hd : o.dst = some d) (hg : o.guard = none) (hn : d < n) (h : ∀ K' : St → Prop, (∀ s, AOpsX P T n ops K rest s → K' s) → alB T st (some d) o.op K') : AOpsX P T n ops K (o :: rest) st :=
  .inr (.inl ⟨hg, by rw [hd]; exact hn, by rw [hd]; exact h _ fun _ h => h⟩)
theorem aopsx_skip {P : Program} {T : Tab} {n : Nat} {ops : Array Oper} {K : St → Prop} {o : Oper} {rest : List Oper} {st : St} {g : Option (Nat × Bool)} (hg : gOf ops o.guard = some g) (hs : guardS st g = some (some false)) (hd : dstOk n o.dst) (h : AOpsX P T n ops K rest (st.put o.dst (.g false (.v (.bool false))))) : AOpsX P T n ops K (o :: rest) st :=
  .inr (.inr ⟨by rw [guardS_eq hg]; exact hs, hd, _, h⟩)
attribute [push_cast] alB

/-- A block that is written no more: whoever pointed to it sees what it holds. -/
def frzP (d : Nat) (blk : Blk) : AV → AV
  | .p id off => if id = d then .q true (fun _ j => blk.cont.at j) blk.cont.len 0 off else .p id off
  | x => x.kill d
def frzPL (d : Nat) (blk : Blk) : List AV → List AV
  | [] => []
  | x :: r => frzP d blk x :: frzPL d blk r
theorem frzPL_length (d : Nat) (blk : Blk) (cs : List AV) : (frzPL d blk cs).length = cs.length := by
  induction cs with
  | nil => rfl
  | cons x r ih => simp [frzPL, ih]
theorem frzPL_getD (d : Nat) (blk : Blk) (cs : List AV) (j : Nat) : (frzPL d blk cs).getD j .top = frzP d blk (cs.getD j .top) := by
  induction cs generalizing j with
  | nil => simp [frzPL, frzP, AV.kill]
  | cons x r ih => cases j with
    | zero => simp [frzPL]
    | succ j => simpa [frzPL] using ih j
def frz1 (d : Nat) (blk : Blk) : AV → AV
  | .p id off => if id = d then .q true (fun _ j => blk.cont.at j) blk.cont.len 0 off else .p id off
  | .f fn cs => .f fn (frzPL d blk cs)
  | .s id => if id = d then (match blk with | .row _ sz c => if 0 < sz then .i true (fun e j => c.at (e * sz + j)) sz 0 (c.len / sz) else .top | _ => .top) else .s id
  | x => x.kill d
def frzE (d : Nat) (blk : Blk) : List (Nat × AV) → List (Nat × AV)
  | [] => []
  | (k, v) :: r => (k, frz1 d blk v) :: frzE d blk r
theorem lk_frzE (d : Nat) (blk : Blk) : ∀ (env : List (Nat × AV)) (s : Nat), lk (frzE d blk env) s = frz1 d blk (lk env s)
  | [], s => by simp only [frzE, lk, frz1, AV.kill]
  | (k, v) :: r, s => by
    simp only [frzE, lk]
    split
    · rfl
    · exact lk_frzE d blk r s
def norC (c : Cont) : Prop := match c with | .avs l => AV.norL l = true | _ => True
theorem norC_at {c : Cont} (h : norC c) (j : Nat) : (c.at j).nor = true := by
  cases c with
  | ints k l => rfl
  | vals l => rfl
  | avs l => exact norL_getD h j

theorem G.freeze {n B : Nat} {w0 : Orig} {st : St} {a : Act} {w : World} (hG : G n B w0 st a w) (d : Nat) (blk : Blk) (hk : lkH st.heap d = some blk) (hnor : norC blk.cont) : G n B w0 ⟨frzE d blk st.env, killH d st.heap⟩ a w := by
  obtain ⟨ρ, I, h⟩ := hG
  obtain ⟨x, hx, hok⟩ := h.hw.ok d blk hk
  have hρ : ∀ id, id ≠ d → ρ id = ρ id := fun id hid => rfl
  have hrest : ∀ b, rootBlk x = some b → B ≤ b ∧ b < w.heap.size := fun b hb => hok.lt hb
  have hII : ∀ b, I b → (fun b => I b ∨ rootBlk x = some b) b ∧ w.heap[b]? = w.heap[b]? := fun b hb => ⟨.inl hb, rfl⟩
  have cellC : ∀ b j, rootBlk x = some b → j < blk.cont.len → ∃ u, w.cell? ⟨b, j, none⟩ = some u ∧ Conc B (fun b => I b ∨ rootBlk x = some b) w noId (blk.cont.at j) u := fun b j hb hj => by
    obtain ⟨u, h1, h2⟩ := h.hw.cell hk hx hb hj
    exact ⟨u, h1, ((h2.nor (norC_at hnor j)).mono (Nat.le_refl _) hII _ (fun _ _ h => h))⟩
  have look : ∀ id blk', lkH (killH d st.heap) id = some blk' → id ≠ d ∧ ∃ b0, lkH st.heap id = some b0 ∧ blk' = b0.kill d := by
    intro id blk' hk'
    rw [lkH_killH] at hk'
    by_cases e : id = d
    · rw [if_pos e] at hk'; cases hk'
    · rw [if_neg e] at hk'
      cases h0 : lkH st.heap id with
      | none => rw [h0] at hk'; cases hk'
      | some b0 => rw [h0] at hk'; injection hk' with hk'; exact ⟨e, b0, rfl, hk'.symm⟩
  refine ⟨ρ, fun b => I b ∨ rootBlk x = some b, h.defers, h.size, fun s => ?_, ⟨fun id blk' hk' => ?_, fun id id' b1 b2 y y' b hne h1 h2 hy hy' hb => ?_, fun id blk' y b hk' hy hb hI => ?_, fun b hb => ?_⟩, h.below, h.base, ⟨fun b hb => ?_, h.old.gh, h.old.ghn, fun b hb => ⟨.inl (h.old.keep b hb).1, (h.old.keep b hb).2⟩⟩⟩
  · show Conc _ _ _ _ (lk (frzE d blk st.env) s) _
    rw [lk_frzE]
    have hs := h.env s
    have gen : Conc B (fun b => I b ∨ rootBlk x = some b) w ρ ((lk st.env s).kill d) (a.tmps.getD s undef) := (hs.kill d _ hρ).mono (Nat.le_refl _) hII _ (fun _ _ h => h)
    have hP : ∀ (x0 : AV) (uu : Value), Conc B I w ρ x0 uu → Conc B (fun b => I b ∨ rootBlk x = some b) w ρ (frzP d blk x0) uu := fun x0 uu hs => by
      have gen : Conc B (fun b => I b ∨ rootBlk x = some b) w ρ (x0.kill d) uu := (hs.kill d _ hρ).mono (Nat.le_refl _) hII _ (fun _ _ h => h)
      cases x0 with
      | p id off =>
        simp only [frzP]
        by_cases e : id = d
        · subst e
          rw [if_pos rfl]
          cases hs with
          | p _ _ b y hy hb =>
            rw [hx] at hy; injection hy with hy; subst hy
            have hall : ∀ j, off + j < blk.cont.len → ∃ u, w.cell? ((⟨b, off, none⟩ : Addr).add j) = some u ∧ Conc B (fun b => I b ∨ rootBlk x = some b) w noId (blk.cont.at (off + j)) u := fun j hj => by
              obtain ⟨u, h1, h2⟩ := cellC b (off + j) hb hj
              exact ⟨u, by rw [add_none]; exact h1, h2⟩
            refine .q _ _ _ _ _ _ (fun j => if hj : off + j < blk.cont.len then Classical.choose (hall j hj) else undef) (.inr hb) (fun _ => (hrest b hb).1) (fun j hj => ?_) (fun j hj => ?_)
            · rw [dif_pos hj]; exact (Classical.choose_spec (hall j hj)).1
            · rw [dif_pos hj]; exact (Classical.choose_spec (hall j hj)).2
        · rw [if_neg e]
          rw [AV.kill, if_neg e] at gen
          exact gen
      | _ => exact gen
    cases hv : lk st.env s with
    | p id off => rw [hv] at hs; exact hP _ _ hs
    | f fn cs =>
      rw [hv] at hs
      simp only [frz1]
      generalize a.tmps.getD s undef = uu at *
      cases hs with
      | f _ _ us hl hcs => exact .f fn _ us (by rw [frzPL_length]; exact hl) fun j hj => by rw [frzPL_length] at hj; rw [frzPL_getD]; exact hP _ _ (hcs j hj)
    | s id =>
      rw [hv] at hs gen
      simp only [frz1]
      by_cases e : id = d
      · subst e
        rw [if_pos rfl]
        cases blk with
        | box t c => exact .top _
        | nst el c => exact .top _
        | row el sz c =>
          simp only
          split
          · rename_i hpos
            generalize a.tmps.getD s undef = uu at *
            cases hs with
            | s _ _ hy h1 =>
              rw [hx] at hy; injection hy with hy; subst hy
              obtain ⟨m, xs, ho, hl, hc⟩ := hok
              have hm : c.len / sz = m := by rw [hl]; exact Nat.mul_div_cancel _ hpos
              rw [hm]
              have := view_row (fl := true) (B' := B) (J := fun b => I b ∨ rootBlk x = some b ∨ (B ≤ b ∧ b < w.heap.size)) ho (fun _ => Nat.le_refl _) (fun b h1 h2 => .inr (.inr ⟨h1, h2⟩)) (fun e j => c.at (e * sz + j)) (fun el2 j he hj => by
                have hlt : el2 * sz + j < xs.length := by rw [ho.1]; exact row_elem he hj
                have := hc (el2 * sz + j) _ (List.getElem?_eq_getElem hlt)
                have e2 : xs.getD (el2 * sz + j) undef = xs[el2 * sz + j] := by simp [List.getD_eq_getElem?_getD, hlt]
                rw [e2]
                exact this.mono (Nat.le_refl _) (fun b hb => ⟨.inl hb, rfl⟩) _ (fun _ _ h => h))
              cases this with
              | i _ _ _ _ _ cap A u hcap hA hcc =>
                refine .i _ _ _ _ _ _ _ u hcap (fun hl0 => ?_) (fun e f he hf => ?_)
                · obtain ⟨ad, h1, h2, h3, h4⟩ := hA hl0
                  subst h1
                  exact ⟨ad, rfl, .inr rfl, h3, h4⟩
                · have hlt : e * sz + f < xs.length := by rw [ho.1]; exact row_elem he hf
                  have hb : ∃ ad, A = some ad := by obtain ⟨ad, h1, _⟩ := hA (by omega); exact ⟨ad, h1⟩
                  obtain ⟨ad, rfl⟩ := hb
                  obtain ⟨ad', h1, _, _, h4⟩ := hA (by omega)
                  injection h1 with h1; subst h1
                  have hj : e * sz + f < (Blk.row el sz c).cont.len := by show e * sz + f < c.len; rw [hl]; exact row_elem he hf
                  obtain ⟨v, hv1, hv2⟩ := cellC ad.block (e * sz + f) rfl hj
                  rcases ho.2 with ⟨hn, _⟩ | ⟨g, cap', cur, hsl, _⟩
                  · cases hn
                  · injection hsl with hsl _ _
                    injection hsl with hsl
                    have h5 := h4 e f he hf
                    rw [hsl, add_none, Nat.zero_add] at h5
                    rw [hsl] at hv1
                    simp only at hv1
                    rw [h5] at hv1
                    injection hv1 with hv1
                    rw [Nat.zero_add, hv1]
                    exact hv2
          · exact .top _
      · rw [if_neg e]
        rw [AV.kill, if_neg e] at gen
        exact gen
    | _ => rw [hv] at gen; exact gen
  · obtain ⟨hne, b0, h0, rfl⟩ := look id blk' hk'
    obtain ⟨y, hy, hok'⟩ := h.hw.ok id b0 h0
    exact ⟨y, hy, (hok'.killed d hρ).move (fun b _ => rfl) hII (fun _ _ h => h)⟩
  · obtain ⟨hn1, c1, hc1, rfl⟩ := look id b1 h1
    obtain ⟨hn2, c2, hc2, rfl⟩ := look id' b2 h2
    exact h.hw.apart id id' c1 c2 y y' b hne hc1 hc2 hy hy' hb
  · obtain ⟨hne, b0, h0, rfl⟩ := look id blk' hk'
    rcases hI with hI | hI
    · exact h.hw.imm id b0 y b h0 hy hb hI
    · exact h.hw.apart id d b0 blk y x b hne h0 hk hy hx hb hI
  · rcases hb with hb | hb
    · exact h.hw.lt b hb
    · exact (hrest b hb).2
  · rcases hb with hb | hb
    · exact h.old.up b hb
    · exact .inr (hrest b hb).1
theorem awp_freeze {P : Program} {n B : Nat} {w0 : Orig} {c : Code} {Q : Exit → St → Prop} {st : St} (d : Nat) (blk : Blk) (hk : lkH st.heap d = some blk) (hnor : norC blk.cont) (h : AWP P n B w0 c Q ⟨frzE d blk st.env, killH d st.heap⟩) : AWP P n B w0 c Q st := fun a w hG => h a w (hG.freeze d blk hk hnor)
attribute [push_cast] frz1 frzE frzP frzPL
end Go.Eng
