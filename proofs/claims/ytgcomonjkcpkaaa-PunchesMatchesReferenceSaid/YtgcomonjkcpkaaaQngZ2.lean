/- Rows that are made, copied, and regions in any order, one by one. -/
import Derived.Test.YtgcomonjkcpkaaaQngZ
import Derived.Laws.CopyRow
namespace Go.Eng
open Go.RowKit
set_option linter.unusedSimpArgs false

/-- A content is told in other words. -/
theorem G.cont {n B : Nat} {w0 : Orig} {st : St} {a : Act} {w : World} (hG : G n B w0 st a w) (d : Nat) (t : TypeId) (c c' : Cont) (hk : lkH st.heap d = some (.box t c)) (hl : c'.len = c.len) (hc : ∀ j, j < c.len → c'.at j = c.at j ∨ c'.at j = .top) : G n B w0 ⟨st.env, (d, .box t c') :: st.heap⟩ a w := by
  obtain ⟨ρ, I, h⟩ := hG
  obtain ⟨x, hx, hok⟩ := h.hw.ok d _ hk
  refine ⟨ρ, I, h.store hk hx ?_ (Below.refl _ _) (fun _ _ => rfl)⟩
  obtain ⟨b, us, rfl, hB, hh, hl2, hcc⟩ := hok
  refine ⟨b, us, rfl, hB, hh, by rw [hl]; exact hl2, fun j u hu => ?_⟩
  have hj : j < us.size := (Array.getElem?_eq_some_iff.1 hu).1
  rcases hc j (by omega) with e | e
  · rw [e]; exact hcc j u hu
  · rw [e]; exact .top _
theorem awp_cont {P : Program} {n B : Nat} {w0 : Orig} {cd : Code} {Q : Exit → St → Prop} {st : St} (d : Nat) (t : TypeId) (c c' : Cont) (hk : lkH st.heap d = some (.box t c)) (hl : c'.len = c.len) (hc : ∀ j, j < c.len → c'.at j = c.at j ∨ c'.at j = .top) (h : AWP P n B w0 cd Q ⟨st.env, (d, .box t c') :: st.heap⟩) : AWP P n B w0 cd Q st := fun a w hG => h a w (hG.cont d t c c' hk hl hc)

section
variable {P : Program} {T : Tab} (hT : T.ok P) {n B : Nat} {w0 : Orig} {st : St} {a : Act} {w : World} {ρ : Nat → Option Value} {I : Nat → Prop}

/-- A row that is made, of whatever elements. -/
def MakeAny (T : Tab) (dst : Option Nat) (op : Op) (K : St → Prop) (st : St) : Prop :=
  match op, dst with
  | .makeSlice t l c, some d =>
    match T t, (st.ev l).strip, (st.ev c).strip with
    | some ⟨.sl e, _, _, _⟩, .v (.int _ nl), .v (.int _ nc) =>
      match T e with
      | some te => ((st.ev l).cond ∧ (st.ev c).cond ∧ 0 ≤ nl ∧ nl = nc ∧ (te.by_ : Int) * nc ≤ 281474976710656 ∧ nc ≤ 9223372036854775807) ∧ K ⟨(d, .s d) :: killE d st.env, (d, .row e te.sz (.avs (List.replicate (nl.toNat * te.sz) .top))) :: killH d st.heap⟩
      | none => False
    | _, _, _ => False
  | _, _ => False
include hT in
theorem makeAny_ok (hG : Gam n B w0 st a w ρ I) {o : Oper} (hd : dstOk n o.dst) {K : St → Prop} (h : MakeAny T o.dst o.op K st) : StepOk P n B w0 o a w K := by
  intro next Q hn
  unfold MakeAny at h
  split at h
  · rename_i t l c d ho hdst
    split at h
    · rename_i e _ _ _ k1 nl k2 nc ht hl hc
      have hu : P.underlying t = some (.slice e) := (hT _ _ ht).kind
      split at h
      · rename_i te hte
        obtain ⟨inf, hi1, hi2, hi3, hz⟩ := (hT _ _ hte).info
        obtain ⟨⟨c1, c2, h0, rfl, hby, h63⟩, hK⟩ := h
        have e1 := (hG.ev l).strip c1
        have e2 := (hG.ev c).strip c2
        rw [hl] at e1; rw [hc] at e2
        have e1 := e1.v_inv
        have e2 := e2.v_inv
        have hr := run_make (P := P) w t e inf te.z hu hi1 hz k1 k2 nl nl h0 (Int.le_refl _) (by rw [hi3]; exact hby) h63
        unfold Oper.wp
        have hrun : (execOp a.eval o).run P w = .ok (.value (.slice (some ⟨w.heap.size, 0, none⟩) nl.toNat nl.toNat)) (w.alloc (.cells (madeCells te.z.cells (nl.toNat * inf.size)) e)) := by
          simp only [execOp, ho, e1, e2, Sem.run_bind, hr, Result.andThen_ok, Sem.run_pure]
        rw [hrun, Oper.upon_value, hdst]
        have hb : Below w.heap.size w (w.alloc (.cells (madeCells te.z.cells (nl.toNat * inf.size)) e)) := (Below.refl _ _).alloc (Nat.le_refl _) _
        have hown : (w.alloc (.cells (madeCells te.z.cells (nl.toNat * inf.size)) e)).ownsRow B e te.sz (.slice (some ⟨w.heap.size, 0, none⟩) nl.toNat nl.toNat) nl.toNat ((madeCells te.z.cells (nl.toNat * inf.size)).toList.take (nl.toNat * te.sz)) := by
          refine ⟨?_, .inr ⟨w.heap.size, nl.toNat, _, rfl, hG.base, heap_alloc_new w _, by omega, by simp only [maxLen]; omega, by rw [size_madeCells, hi2], rfl⟩⟩
          rw [List.length_take, Array.length_toList, size_madeCells, hi2]; omega
        refine hn _ _ _ hK (new_row hG d (by rw [hdst] at hd; exact hd) hb hown (fun b hr => by simp [rootBlk] at hr; omega) _ (by simp [Cont.len]) fun j u hu => ?_)
        have : (Cont.avs (List.replicate (nl.toNat * te.sz) AV.top)).at j = .top := by
          simp only [Cont.at, List.getD_eq_getElem?_getD]
          by_cases hj : j < nl.toNat * te.sz
          · simp [hj]
          · rw [List.getElem?_eq_none (by simp; omega)]; rfl
        rw [this]; exact .top _
      · exact h.elim
    · exact h.elim
  · exact h.elim

theorem run_copy_rows (w : World) (dT sT ty elem : TypeId) (g o dLen dCap : Nat) (a : Addr) (sLen sCap size m : Nat) (cur : Array Value) (t : TypeId) (cs : List Value)
    (hu : P.underlying dT = some (.slice elem)) (hs : (P.info? elem).map (·.size) = some size)
    (hg : w.heap[g]? = some (.cells cur t (0, 0))) (hm : Nat.min sLen dLen = m) (hn : cs.length = m * size)
    (hsrc : ∀ j v, cs[j]? = some v → w.cell? (a.add j) = some v) (hfit : o + cs.length ≤ cur.size) (h1 : ∀ v ∈ cs, v.oneCell' = true) :
    (Builtin.copy_ #[dT, sT] ty #[.slice (some ⟨g, o, none⟩) dLen dCap, .slice (some a) sLen sCap]).run P w =
      .ok (goInt m) (w.setRow g (cur.toList.take o ++ cs ++ cur.toList.drop (o + cs.length)).toArray) := by
  have hl := run_loadCells_list (P := P) w a cs hsrc
  have hst := run_storeCells_at P g o t cs 0 cur w hg (by simpa using hfit) h1
  rw [hn] at hl
  cases hq : P.info? elem with
  | none => simp [hq] at hs
  | some i =>
    have hi : i.size = size := by simpa [hq] using hs
    simp [Builtin.copy_, run_underlying hu, Builtin.lenOf, Builtin.firstCells, sizeOf, typeInfo, hq, hi, hm, hl, hst]

/-- A whole row is filled out of a box. -/
def CopyAll (T : Tab) (dst : Option Nat) (op : Op) (K : St → Prop) (st : St) : Prop :=
  match op with
  | .call c =>
    match c.callee, c.args.toList, c.argTypes.toList with
    | .builtin .copy, [x, y], [t, _] =>
      match T t, (st.ev x).strip, (st.ev y).strip with
      | some ⟨.sl e, _, _, _⟩, .s id, .w id2 off len =>
        match T e, lkH st.heap id, lkH st.heap id2 with
        | some te, some (.row e' sz c), some (.box _ c2) =>
          ∃ c' : Cont, ((st.ev x).cond ∧ (st.ev y).cond ∧ sz = te.sz ∧ 0 < sz ∧ c.len = len * te.sz ∧ off + len * te.sz ≤ c2.len ∧ c'.len = c.len ∧ (∀ j, j < c.len → c'.at j = c2.at (off + j)) ∧ norC c' ∧ (∀ j, j < c.len → (c'.at j).one = true)) ∧ K (St.put ⟨st.env, (id, .row e' sz c') :: st.heap⟩ dst (.v (.int .i64 len)))
        | _, _, _ => False
      | _, _, _ => False
    | _, _, _ => False
  | _ => False
include hT in
theorem copyAll_ok (hG : Gam n B w0 st a w ρ I) {o : Oper} (hd : dstOk n o.dst) {K : St → Prop} (h : CopyAll T o.dst o.op K st) : StepOk P n B w0 o a w K := by
  intro next Q hn
  unfold CopyAll at h
  split at h
  · rename_i c ho
    split at h
    · rename_i x y t t' hcal hargs htys
      split at h
      · rename_i e _ _ _ id id2 off len ht hx hy
        have hu : P.underlying t = some (.slice e) := (hT _ _ ht).kind
        split at h
        · rename_i te e' sz c0 tb c2 hte hk hk2
          obtain ⟨inf, hi1, hi2, hi3, hz⟩ := (hT _ _ hte).info
          obtain ⟨c', ⟨k1, k2, rfl, hpos, hl, hl2, hl', hat, hnor, hone⟩, hK⟩ := h
          have hop : o.op = .call ⟨.builtin .copy, #[x, y], #[t, t']⟩ := by
            rw [ho]
            obtain ⟨cc, ca, ct⟩ := c
            simp only at hcal hargs htys
            subst hcal
            have e1 : ca = #[x, y] := by cases ca; simp_all
            have e2 : ct = #[t, t'] := by cases ct; simp_all
            rw [e1, e2]
          have vx := (hG.ev x).strip k1
          have vy := (hG.ev y).strip k2
          rw [hx] at vx; rw [hy] at vy
          generalize hxv : a.eval x = xv at vx
          generalize hyv : a.eval y = yv at vy
          cases vx with
          | s _ _ hrx hox =>
            cases vy with
            | w _ _ _ cap A xx hry hcap hA =>
              obtain ⟨x', hx', hok⟩ := hG.hw.ok id _ hk
              rw [hrx] at hx'; injection hx' with hx'; subst hx'
              obtain ⟨m, xs, hown, hlen, hcc⟩ := hok
              have hm : m = len := Nat.eq_of_mul_eq_mul_right hpos (by rw [← hlen, hl])
              subst hm
              unfold Oper.wp
              by_cases h0 : m = 0
              · subst h0
                have hrun : (execOp a.eval o).run P w = .ok (.value (.int .i64 0)) w := by
                  rcases hown.2 with ⟨rfl, _⟩ | ⟨g, cap', cur, rfl, _⟩
                  · cases A <;> simp [execOp, hop, hxv, hyv, resolve, builtin, Builtin.copy_, run_underlying hu, Builtin.lenOf, Builtin.firstCells, sizeOf, typeInfo, hi1, loadCells, loadCellsFrom, storeCells, goInt, Deferred.ofValue, invoke]
                  · cases A <;> simp [execOp, hop, hxv, hyv, resolve, builtin, Builtin.copy_, run_underlying hu, Builtin.lenOf, Builtin.firstCells, sizeOf, typeInfo, hi1, loadCells, loadCellsFrom, storeCells, goInt, Deferred.ofValue, invoke]
                rw [hrun, Oper.upon_value]
                refine hn _ _ _ hK ⟨ρ, I, Gam.put (st := ⟨st.env, (id, .row e' te.sz c') :: st.heap⟩) (hG.store hk hrx ⟨0, [], ?_, by rw [hl', hl], fun j u hu => by simp at hu⟩ (Below.refl _ _) (fun _ _ => rfl)) (fun k hk => by rw [hk] at hd; exact hd) (.v _)⟩
                have hx0 : xs = [] := List.eq_nil_of_length_eq_zero (by rw [hown.1]; simp)
                rw [hx0] at hown; exact hown
              · have hmp : 0 < m * te.sz := Nat.mul_pos (by omega) hpos
                rcases hown.2 with ⟨_, h00⟩ | ⟨g, cap', cur, rfl, hB, hh, hmc, hmax, hcs2, htake⟩
                · exact absurd h00 h0
                obtain ⟨b, hb, rfl⟩ := hA (by omega)
                have hcell : ∀ j, j < m * te.sz → ∃ u, w.cell? ⟨b, off + j, none⟩ = some u ∧ Conc B I w ρ (c2.at (off + j)) u := fun j hj => hG.hw.cell hk2 hry hb (j := off + j) (by show off + j < c2.len; omega)
                let f : Nat → Value := fun j => if hj : j < m * te.sz then Classical.choose (hcell j hj) else undef
                have hf : ∀ j, j < m * te.sz → w.cell? ⟨b, off + j, none⟩ = some (f j) ∧ Conc B I w ρ (c2.at (off + j)) (f j) := fun j hj => by
                  show w.cell? _ = some (if hj : j < m * te.sz then Classical.choose (hcell j hj) else undef) ∧ Conc B I w ρ _ (if hj : j < m * te.sz then Classical.choose (hcell j hj) else undef)
                  rw [dif_pos hj]; exact Classical.choose_spec (hcell j hj)
                have hget : ∀ j v, ((List.range (m * te.sz)).map f)[j]? = some v → j < m * te.sz ∧ v = f j := fun j v hv => by
                  have hj : j < m * te.sz := by have := (List.getElem?_eq_some_iff.1 hv).1; simpa using this
                  refine ⟨hj, ?_⟩
                  rw [List.getElem?_map, List.getElem?_range hj] at hv
                  exact (Option.some.inj hv).symm
                have hcap3 : m * te.sz ≤ cap' * te.sz := Nat.mul_le_mul_right _ hmc
                have hlenr : ((List.range (m * te.sz)).map f).length = m * te.sz := by simp
                have hr := run_copy_rows (P := P) w t t' o.type e g 0 m cap' ⟨b, off, none⟩ m cap te.sz m cur e' ((List.range (m * te.sz)).map f) hu (by rw [hi1]; simp [hi2]) hh (Nat.min_self m) hlenr (fun j v hv => by
                    obtain ⟨hj, rfl⟩ := hget j v hv
                    rw [add_none]; exact (hf j hj).1) (by rw [hlenr]; omega) (fun v hv => by
                    obtain ⟨j, hj, rfl⟩ := List.mem_map.1 hv
                    have hj : j < m * te.sz := by simpa using hj
                    rw [oneC_eq]
                    have h1 := (hf j hj).2
                    rw [← hat j (by omega)] at h1
                    exact h1.one (hone j (by omega)))
                have hrun : (execOp a.eval o).run P w = .ok (.value (goInt m)) (w.setRow g (cur.toList.take 0 ++ (List.range (m * te.sz)).map f ++ cur.toList.drop (0 + ((List.range (m * te.sz)).map f).length)).toArray) := by
                  simp only [execOp, hop, hxv, hyv, resolve, builtin, Deferred.ofValue, invoke, Sem.run_bind, Sem.run_pure, Result.andThen_ok, List.map_toArray, List.map_cons, List.map_nil, hr]
                rw [hrun, Oper.upon_value]
                have hI : ∀ b1, I b1 → b1 ≠ g := fun b1 h1 e => by subst e; exact hG.hw.imm id _ _ _ hk hrx rfl h1
                refine hn _ _ _ hK ⟨ρ, I, Gam.put (st := ⟨st.env, (id, .row e' te.sz c') :: st.heap⟩) (hG.store hk hrx ⟨m, (List.range (m * te.sz)).map f, ⟨hlenr, .inr ⟨g, cap', _, rfl, hB, heap_setRow w g _ cur e' hh, hmc, hmax, ?_, ?_⟩⟩, by rw [hl', hl], fun j u hu => ?_⟩ (below_setRow (Below.refl _ _) hB _) (fun b1 hb1 => heap_setRow_ne w _ _ _ (fun e => hb1 (by rw [e]; rfl)))) (fun k hk => by rw [hk] at hd; exact hd) (.v _)⟩
                · simp; omega
                · simp [hlenr]
                · obtain ⟨hj, rfl⟩ := hget j u hu
                  have h1 := (hf j hj).2
                  rw [← hat j (by omega)] at h1
                  exact (h1.nor (norC_at hnor j)).same (fun b1 hb1 => heap_setRow_ne w _ _ _ (Ne.symm (hI b1 hb1)))
        · exact h.elim
      · exact h.elim
    · exact h.elim
  · exact h.elim
end
end Go.Eng
