/- New variables, make, append: the laws. -/
import Derived.Test.YtgcomonjkcpkaaaQngJ
namespace Go.Eng
open Go.RowKit

section
variable {P : Program} {T : Tab} (hT : T.ok P) {n B : Nat} {w0 : Orig} {st : St} {a : Act} {w : World} {ρ : Nat → Option Value} {I : Nat → Prop}

theorem ConcL.killed {cs : List AV} {us : List Value} (h : ConcL B I w ρ cs us) (d : Nat) (ρ' : Nat → Option Value) (hρ : ∀ id, id ≠ d → ρ' id = ρ id) : ConcL B I w ρ' (AV.killL d cs) us :=
  ⟨by rw [killL_length]; exact h.1, fun j hj => by rw [killL_length] at hj; rw [killL_getD]; exact (h.2 j hj).kill d ρ' hρ⟩

/-- A new variable of these cells. -/
theorem new_box (hG : Gam n B w0 st a w ρ I) (d : Nat) (hd : d < n) (t : TypeId) (us : Array Value) (c : Cont) (hl : us.size = c.len)
    (hc : ∀ j u, us[j]? = some u → Conc B I w (updρ ρ d (.pointer (some ⟨w.heap.size, 0, none⟩))) (c.at j) u) :
    G n B w0 ⟨(d, .p d 0) :: killE d st.env, (d, .box t c) :: killH d st.heap⟩ (a.put (some d) (.pointer (some ⟨w.heap.size, 0, none⟩))) (w.alloc (.cells us t)) := by
  have hb : Below w.heap.size w (w.alloc (.cells us t)) := (Below.refl _ _).alloc (Nat.le_refl _) _
  have h1 := hG.new hb d (.pointer (some ⟨w.heap.size, 0, none⟩)) (.box t c)
    ⟨w.heap.size, us, rfl, hG.base, heap_alloc_new w _, hl, fun j u hu => (hc j u hu).same (fun b hI => hb.block b (hG.hw.lt b hI))⟩ (fun b hr => by simp [rootBlk] at hr; omega) (hG.old.ghn d hd)
  exact ⟨_, I, h1.put (d := some d) (fun k hk => by injection hk with hk; omega) (.p d 0 w.heap.size _ (updρ_self _ _ _) rfl)⟩

theorem box_ok (hG : Gam n B w0 st a w ρ I) {o : Oper} {t : TypeId} {x : Operand} (ho : o.op = .box t x) (hd : ∀ d, o.dst = some d → d < n) {K : St → Prop} (h : al T st o K) : StepOk P n B w0 o a w K := by
  intro next Q hn
  unfold al at h
  simp only [ho] at h
  split at h
  · rename_i d cs hdst hcs
    obtain ⟨c1, hK⟩ := h
    have hv := cells_of ((hG.ev x).strip c1) hcs
    unfold Oper.wp
    have hrun : (execOp a.eval o).run P w = .ok (.value (.pointer (some ⟨w.heap.size, 0, none⟩))) (w.alloc (.cells (a.eval x).cells t)) := by
      simp [execOp, ho, Instr.box, newVar, newRow]
    rw [hrun, Oper.upon_value, hdst]
    refine hn _ _ _ hK (new_box hG d (hd d hdst) t _ _ (by simp [Cont.len, killL_length, ← hv.1]) fun j u hu => ?_)
    have hk := hv.killed d (updρ ρ d (.pointer (some ⟨w.heap.size, 0, none⟩))) (fun id hid => updρ_ne _ _ _ hid)
    have hj : j < (a.eval x).cells.size := (Array.getElem?_eq_some_iff.1 hu).1
    have := hk.2 j (by rw [killL_length, ← hv.1, Array.length_toList]; exact hj)
    have e : (a.eval x).cells.toList.getD j undef = u := by simp [List.getD_eq_getElem?_getD, hu]
    rw [e] at this
    exact this
  · exact h.elim

include hT in
theorem alloc_ok (hG : Gam n B w0 st a w ρ I) {o : Oper} {t : TypeId} (ho : o.op = .alloc t) (hd : ∀ d, o.dst = some d → d < n) {K : St → Prop} (h : al T st o K) : StepOk P n B w0 o a w K := by
  intro next Q hn
  unfold al at h
  simp only [ho] at h
  split at h
  · rename_i d ti hdst hti
    obtain ⟨inf, hi1, _, _, hz⟩ := (hT _ _ hti).info
    unfold Oper.wp
    have hrun : (execOp a.eval o).run P w = .ok (.value (.pointer (some ⟨w.heap.size, 0, none⟩))) (w.alloc (.cells ti.z.cells t)) := by
      simp [execOp, ho, Instr.alloc, zeroValue, typeInfo, hi1, hz, newVar, newRow]
    rw [hrun, Oper.upon_value, hdst]
    refine hn _ _ _ h (new_box hG d (hd d hdst) t _ _ ?_ fun j u hu => ?_)
    · split <;> simp [Cont.len]
    · have hj : j < ti.z.cells.size := (Array.getElem?_eq_some_iff.1 hu).1
      have he := (Array.getElem?_eq_some_iff.1 hu).2
      split
      · simp only [Cont.at]
        have e : ti.z.cells.toList.getD j undef = u := by simp [List.getD_eq_getElem?_getD, hu]
        rw [e]; exact .v _
      · simp only [Cont.at]
        have e : (ti.z.cells.toList.map AV.v).getD j .top = .v u := by simp [List.getD_eq_getElem?_getD, hu]
        rw [e]; exact .v _
  · exact h.elim

/-- A new row for id d, by the value that owns it. -/
theorem new_row (hG : Gam n B w0 st a w ρ I) (d : Nat) (hd : d < n) {w1 : World} (hb : Below w.heap.size w w1) {x : Value} {e : TypeId} {sz m : Nat} {xs : List Value} (ho : w1.ownsRow B e sz x m xs) (hroot : ∀ b, rootBlk x = some b → w.heap.size ≤ b) (c : Cont) (hl : c.len = m * sz)
    (hc : ∀ j u, xs[j]? = some u → Conc B I w noId (c.at j) u) :
    G n B w0 ⟨(d, .s d) :: killE d st.env, (d, .row e sz c) :: killH d st.heap⟩ (a.put (some d) x) w1 := by
  have h1 := hG.new hb d x (.row e sz c) ⟨m, xs, ho, hl, fun j u hu => (hc j u hu).same (fun b hI => hb.block b (hG.hw.lt b hI))⟩ hroot (hG.old.ghn d hd)
  have hone : oneC x = true := by rcases ho.2 with ⟨rfl, _⟩ | ⟨g, cap, cur, rfl, _⟩ <;> rfl
  exact ⟨_, I, h1.put (d := some d) (fun k hk => by injection hk with hk; omega) (.s d x (updρ_self _ _ _) hone)⟩

include hT in
theorem make_ok (hG : Gam n B w0 st a w ρ I) {o : Oper} {t : TypeId} {l c : Operand} (ho : o.op = .makeSlice t l c) (hd : ∀ d, o.dst = some d → d < n) {K : St → Prop} (h : al T st o K) : StepOk P n B w0 o a w K := by
  intro next Q hn
  unfold al at h
  simp only [ho] at h
  split at h
  · rename_i d e _ _ _ k1 nl k2 nc hdst ht hl hc
    have hu : P.underlying t = some (.slice e) := (hT _ _ ht).kind
    split at h
    · rename_i te hte
      obtain ⟨inf, hi1, hi2, hi3, hz⟩ := (hT _ _ hte).info
      obtain ⟨⟨c1, c2, h0, h1, hby, h63, hzs, hsz, hkk⟩, hK⟩ := h
      have e1 := (hG.ev l).strip c1
      have e2 := (hG.ev c).strip c2
      rw [hl] at e1; rw [hc] at e2
      have e1 := e1.v_inv
      have e2 := e2.v_inv
      have hr := run_make (P := P) w t e inf te.z hu hi1 hz k1 k2 nl nc h0 h1 (by rw [hi3]; exact hby) h63
      unfold Oper.wp
      have hrun : (execOp a.eval o).run P w = .ok (.value (.slice (some ⟨w.heap.size, 0, none⟩) nl.toNat nc.toNat)) (w.alloc (.cells (madeCells te.z.cells (nc.toNat * inf.size)) e)) := by
        simp only [execOp, ho, e1, e2, Sem.run_bind, hr, Result.andThen_ok, Sem.run_pure]
      rw [hrun, Oper.upon_value, hdst]
      have hb : Below w.heap.size w (w.alloc (.cells (madeCells te.z.cells (nc.toNat * inf.size)) e)) := (Below.refl _ _).alloc (Nat.le_refl _) _
      have hz1 : te.z.cells.size = 1 := by rw [hzs, hsz]
      have hcell : ∀ j, j < nc.toNat → (madeCells te.z.cells (nc.toNat * inf.size))[j]? = some (te.z.cells.getD 0 undef) := fun j hj => by
        have hj2 : j < nc.toNat * inf.size := by rw [hi2, hsz]; omega
        unfold madeCells
        rw [Array.getElem?_map, Array.getElem?_range, if_pos hj2]
        simp [hz1, Array.getD_eq_getD_getElem?, Nat.mod_one]
      have hown : (w.alloc (.cells (madeCells te.z.cells (nc.toNat * inf.size)) e)).ownsRow B e te.sz (.slice (some ⟨w.heap.size, 0, none⟩) nl.toNat nc.toNat) nl.toNat ((madeCells te.z.cells (nc.toNat * inf.size)).toList.take (nl.toNat * te.sz)) := by
        refine ⟨?_, .inr ⟨w.heap.size, nc.toNat, _, rfl, hG.base, heap_alloc_new w _, by omega, by simp only [maxLen]; omega, by rw [size_madeCells, hi2], rfl⟩⟩
        rw [List.length_take, Array.length_toList, size_madeCells, hi2, hsz]; omega
      refine hn _ _ _ hK (new_row hG d (hd d hdst) hb hown (fun b hr => by simp [rootBlk] at hr; omega) _ ?_ fun j u hu => ?_)
      · split <;> simp [Cont.len, hsz]
      · have hj : j < nl.toNat := by
          have := (List.getElem?_eq_some_iff.1 hu).1
          rw [List.length_take, hsz] at this; omega
        rw [List.getElem?_take_of_lt (by rw [hsz]; omega), Array.getElem?_toList, hcell j (by omega)] at hu
        injection hu with hu
        subst hu
        split
        · rename_i k kz z hk hzv
          rw [hk, hzv] at hkk
          simp only at hkk
          subst hkk
          simp only [Cont.at, hzv, Value.cells]
          have : (List.replicate nl.toNat z).getD j 0 = z := by simp [List.getD_eq_getElem?_getD, hj]
          rw [this]; exact .v _
        · simp only [Cont.at]
          have : (List.replicate nl.toNat (te.z.cells.getD 0 undef)).getD j undef = te.z.cells.getD 0 undef := by simp [List.getD_eq_getElem?_getD, hj]
          rw [this]; exact .v _
    · exact h.elim
  · exact h.elim

theorem run_append_of_nil (base : Nat) (t ty e : TypeId) (i : TypeInfo) (size : Nat) (ht : P.underlying t = some (.slice e)) (hi : P.info? e = some i)
    (v : Value) (n : Nat) (xs : List Value) (hown : w.ownsRow base e size v n xs) (c : Nat) : (Builtin.append_ #[t, t] ty #[v, .slice none 0 c]).run P w = .ok v w := by
  rcases hown.2 with ⟨rfl, rfl⟩ | ⟨g, cap, cur, rfl, _, _, hnc, _⟩
  · simp [Builtin.append_, run_underlying ht, sizeOf, typeInfo, hi, Builtin.lenOf, Builtin.firstCells]
  · simp [Builtin.append_, run_underlying ht, sizeOf, typeInfo, hi, Builtin.lenOf, Builtin.firstCells, hnc, storeCells]

theorem srcOf_ok (hG : Gam n B w0 st a w ρ I) {sz : Nat} {x : AV} {u : Value} {ψ : Prop} {m : Nat} {src : Nat → Nat → AV} (h : srcOf st.heap sz x = some (ψ, m, src)) (hψ : ψ) (hx : Conc B I w ρ x u) :
    ∃ (A : Option Addr) (cap : Nat) (news : List Value), u = .slice A m cap ∧ news.length = m * sz ∧ (0 < m → ∃ ad, A = some ad ∧ ∀ j v, news[j]? = some v → w.cell? (ad.add j) = some v) ∧ ∀ el j, el < m → j < sz → Conc B I w noId (src el j) (news.getD (el * sz + j) undef) := by
  unfold srcOf at h
  split at h
  · rename_i fr c sz' off len
    simp only [Option.some.injEq, Prod.mk.injEq] at h
    obtain ⟨rfl, rfl, rfl⟩ := h
    subst hψ
    cases hx with
    | i _ _ _ _ _ cap A uu hcap hA hcc =>
      have hdiv : ∀ j, j < len * sz' → j / sz' < len ∧ j % sz' < sz' ∧ j / sz' * sz' + j % sz' = j := fun j hj => by
        have hpos : 0 < sz' := by
          rcases Nat.eq_zero_or_pos sz' with h0 | h0
          · rw [h0] at hj; simp at hj
          · exact h0
        exact ⟨Nat.div_lt_of_lt_mul (by rw [Nat.mul_comm]; exact hj), Nat.mod_lt _ hpos, by rw [Nat.mul_comm]; exact Nat.div_add_mod j sz'⟩
      refine ⟨A, cap, (List.range (len * sz')).map (fun j => uu (j / sz') (j % sz')), rfl, by simp, fun hp => ?_, fun el j he hj => ?_⟩
      · obtain ⟨ad, rfl, _, _, h4⟩ := hA hp
        refine ⟨ad, rfl, fun j v hv => ?_⟩
        have hj : j < len * sz' := by
          have := (List.getElem?_eq_some_iff.1 hv).1
          simpa using this
        simp [hj] at hv
        subst hv
        obtain ⟨h5, h6, h7⟩ := hdiv j hj
        have := h4 _ _ h5 h6
        rwa [h7] at this
      · have hlt := row_elem he hj
        have hd1 : (el * sz' + j) / sz' = el := by
          rw [Nat.mul_comm, Nat.mul_add_div (by omega), Nat.div_eq_of_lt hj, Nat.add_zero]
        have hd2 : (el * sz' + j) % sz' = j := by
          rw [Nat.mul_comm, Nat.mul_add_mod, Nat.mod_eq_of_lt hj]
        have : ((List.range (len * sz')).map (fun j => uu (j / sz') (j % sz'))).getD (el * sz' + j) undef = uu el j := by
          simp [List.getD_eq_getElem?_getD, hlt, hd1, hd2]
        rw [this]
        exact hcc el j he hj
  · rename_i id
    split at h
    · rename_i e sz' c hk
      simp only [Option.some.injEq, Prod.mk.injEq] at h
      obtain ⟨rfl, rfl, rfl⟩ := h
      obtain ⟨rfl, hpos⟩ := hψ
      cases hx with
      | s _ _ hr _ =>
        obtain ⟨x', hr', hok⟩ := hG.hw.ok _ _ hk
        rw [hr] at hr'; injection hr' with hr'; subst hr'
        obtain ⟨m, xs, ho, hl, hc⟩ := hok
        have hm : c.len / sz' = m := by rw [hl]; exact Nat.mul_div_cancel _ hpos
        rw [hm]
        have hcontent : ∀ el j, el < m → j < sz' → Conc B I w noId (c.at (el * sz' + j)) (xs.getD (el * sz' + j) undef) := fun el j he hj => by
          have hlt : el * sz' + j < xs.length := by rw [ho.1]; exact row_elem he hj
          have := hc (el * sz' + j) xs[el * sz' + j] (by simp [hlt])
          simpa [List.getD_eq_getElem?_getD, hlt] using this
        rcases ho.2 with ⟨rfl, rfl⟩ | ⟨g, cap, cur, rfl, hrest⟩
        · exact ⟨none, 0, xs, rfl, ho.1, fun hp => by omega, hcontent⟩
        · exact ⟨some ⟨g, 0, none⟩, cap, xs, rfl, ho.1, fun _ => ⟨_, rfl, fun j v hv => ho.cells rfl j v hv⟩, hcontent⟩
    · cases h
  · rename_i id off len
    split at h
    · rename_i e sz' c hk
      simp only [Option.some.injEq, Prod.mk.injEq] at h
      obtain ⟨rfl, rfl, rfl⟩ := h
      obtain ⟨rfl, hle⟩ := hψ
      cases hx with
      | w _ _ _ cap A xx hr hcap hA =>
        obtain ⟨x', hr', hok⟩ := hG.hw.ok _ _ hk
        rw [hr] at hr'; injection hr' with hr'; subst hr'
        obtain ⟨m, xs, ho, hl, hc⟩ := hok
        have hxl : xs.length = c.len := by rw [ho.1, hl]
        refine ⟨A, cap, (xs.drop off).take (len * sz'), rfl, by simp; omega, fun hp => ?_, fun el j he hj => ?_⟩
        · obtain ⟨b, hb, rfl⟩ := hA hp
          rw [rootBlk_own ho] at hb
          refine ⟨_, rfl, fun j v hv => ?_⟩
          have hj : j < len * sz' := by
            have := (List.getElem?_eq_some_iff.1 hv).1
            simp at this; omega
          rw [List.getElem?_take_of_lt hj, List.getElem?_drop] at hv
          have := ho.cells hb _ _ hv
          rw [add_none, Nat.zero_add] at this
          rw [add_none]; exact this
        · have hlt := row_elem he hj
          have hlt2 : off + (el * sz' + j) < xs.length := by omega
          have : ((xs.drop off).take (len * sz')).getD (el * sz' + j) undef = xs[off + (el * sz' + j)] := by
            simp [List.getD_eq_getElem?_getD, hlt, hlt2]
          rw [this]
          show Conc B I w noId (c.at (off + el * sz' + j)) _
          rw [Nat.add_assoc]
          exact hc _ _ (by simp [hlt2])
    · cases h
  · simp only [Option.some.injEq, Prod.mk.injEq] at h
    obtain ⟨rfl, rfl, rfl⟩ := h
    obtain rfl := hx.v_inv
    exact ⟨_, _, [], rfl, by simp, fun hp => by omega, fun el j he => by omega⟩
  · cases h

include hT in
theorem append_core (hG : Gam n B w0 st a w ρ I) {o : Oper} {x y : Operand} {t e : TypeId} {te : TI} {d : Nat} (ho : o.op = .call ⟨.builtin .append, #[x, y], #[t, t]⟩) (hdst : o.dst = some d) (hd : d < n) {s1 : Nat} {b1 : Nat} {z1 : Value} (ht : T t = some ⟨.sl e, s1, b1, z1⟩) (hte : T e = some te)
    {bs : Option (Nat × TypeId × Nat × Cont)} (hbs : baseOf st.heap (st.ev x).strip = some bs) {ψ : Prop} {m : Nat} {src : Nat → Nat → AV} (hsrc : srcOf st.heap te.sz (st.ev y).strip = some (ψ, m, src)) (hψ : ψ) (cx : (st.ev x).cond) (cy : (st.ev y).cond)
    (hpos : 0 < te.sz) (hz : te.z.cells.size = te.sz) (c0 c1 : Cont) (hbase : ∀ id e' sz' c', bs = some (id, e', sz', c') → e' = e ∧ sz' = te.sz ∧ c' = c0) (hnone : bs = none → c0.len = 0)
    (hlen : c1.len = c0.len + m * te.sz) (h1 : ∀ j, j < c0.len → c1.at j = c0.at j) (h2 : ∀ el j, el < m → j < te.sz → c1.at (c0.len + (el * te.sz + j)) = src el j ∧ (src el j).one = true)
    (hby : (c0.len / te.sz + m) * te.by_ ≤ 140737488355328) (hmax : c0.len / te.sz + m ≤ 9223372036854775807)
    (next : Act → World → Prop) (Q : Exit → Act → World → Prop)
    (hn : ∀ a' w', G n B w0 ⟨(d, .s d) :: killE d st.env, (d, .row e te.sz c1) :: killH d (lessH st.heap bs)⟩ a' w' → next a' w') : o.wp P a w next Q := by
  have hu : P.underlying t = some (.slice e) := (hT _ _ ht).kind
  obtain ⟨inf, hi1, hi2, hi3, hzv⟩ := (hT _ _ hte).info
  obtain ⟨A, cap, news, huv, hnl, hcells, hcont⟩ := srcOf_ok hG hsrc hψ ((hG.ev y).strip cy)
  -- the row that is appended to
  have hrow : ∃ v0 k xs, a.eval x = v0 ∧ w.ownsRow B e te.sz v0 k xs ∧ c0.len = k * te.sz ∧ (∀ j u, xs[j]? = some u → Conc B I w noId (c0.at j) u) ∧
      (∀ id e' sz' c', bs = some (id, e', sz', c') → lkH st.heap id = some (.row e te.sz c0) ∧ ρ id = some v0) ∧ (bs = none → v0 = .slice none 0 0) := by
    have hx := (hG.ev x).strip cx
    unfold baseOf at hbs
    split at hbs
    · rename_i hst
      injection hbs with hbs; subst hbs
      rw [hst] at hx
      have hl0 := hnone rfl
      exact ⟨.slice none 0 0, 0, [], hx.v_inv, World.ownsRow_nil w B e te.sz, by omega, fun j u hu => by simp at hu, (fun _ _ _ _ h => by cases h), fun _ => rfl⟩
    · rename_i id hst
      split at hbs
      · rename_i e' sz' c' hk
        injection hbs with hbs; subst hbs
        obtain ⟨rfl, rfl, rfl⟩ := hbase _ _ _ _ rfl
        rw [hst] at hx
        generalize hxv : a.eval x = xv at hx
        cases hx with
        | s _ _ hr _ =>
          obtain ⟨x', hr', hok⟩ := hG.hw.ok _ _ hk
          rw [hr] at hr'; injection hr' with hr'; subst hr'
          obtain ⟨k, xs, ho', hl, hc⟩ := hok
          exact ⟨xv, k, xs, rfl, ho', hl, hc, fun id2 e2 s2 c2 h => by injection h with h; injection h with h3 h4; subst h3; exact ⟨hk, hr⟩, fun h => by cases h⟩
      · cases hbs
    · cases hbs
  obtain ⟨v0, k, xs, hv0, hown, hk, hold, hid, hnil⟩ := hrow
  have hkd : c0.len / te.sz = k := by rw [hk]; exact Nat.mul_div_cancel _ hpos
  rw [hkd] at hby hmax
  have hone : ∀ u ∈ news, u.oneCell' = true := by
    intro u hu
    obtain ⟨j, hj, rfl⟩ := List.getElem_of_mem hu
    rw [hnl] at hj
    have hel : j / te.sz < m := Nat.div_lt_of_lt_mul (by rw [Nat.mul_comm]; exact hj)
    have hjm : j % te.sz < te.sz := Nat.mod_lt _ hpos
    have he : j / te.sz * te.sz + j % te.sz = j := by rw [Nat.mul_comm]; exact Nat.div_add_mod j te.sz
    have := (hcont _ _ hel hjm).one (h2 _ _ hel hjm).2
    rw [he] at this
    rw [oneC_eq]
    have hj2 : j < news.length := by rw [hnl]; exact hj
    simpa [List.getD_eq_getElem?_getD, hj2] using this
  have hrun : ∃ v' w', (Builtin.append_ #[t, t] o.type #[v0, .slice A m cap]).run P w = .ok v' w' ∧ w'.ownsRow B e te.sz v' (k + m) (xs ++ news) ∧ w.grownBy w' v0.ownBlock ∧ (v'.ownBlock = v0.ownBlock ∨ v'.ownBlock = some w.heap.size) := by
    rcases A with _ | ad
    · have hm : m = 0 := by
        rcases Nat.eq_zero_or_pos m with h0 | h0
        · exact h0
        · obtain ⟨ad, h, _⟩ := hcells h0; cases h
      subst hm
      have hnn : news = [] := List.eq_nil_of_length_eq_zero (by simpa using hnl)
      subst hnn
      exact ⟨v0, w, run_append_of_nil B t o.type e inf te.sz hu hi1 v0 k xs hown cap, by simpa using hown, ⟨rfl, rfl, rfl, Nat.le_refl _, fun _ _ _ => rfl⟩, .inl rfl⟩
    · have hcells' : ∀ j u, news[j]? = some u → w.cell? (ad.add j) = some u := by
        intro j u hu'
        rcases Nat.eq_zero_or_pos m with h0 | h0
        · subst h0
          have hnn : news = [] := List.eq_nil_of_length_eq_zero (by simpa using hnl)
          subst hnn; simp at hu'
        · obtain ⟨ad', h, hc⟩ := hcells h0
          injection h with h; subst h
          exact hc j u hu'
      obtain ⟨v', w', r1, r2, r3, _, r5⟩ := run_append_own_at (P := P) w B t o.type e inf te.z te.sz te.by_ hu hi1 hzv hi2 hi3 hz hpos v0 k xs hown ad m cap news hnl hcells' hone (by simp only [maxLen]; omega) hby hG.base
      exact ⟨v', w', r1, r2, r3, r5⟩
  obtain ⟨v', w', r1, r2, r3, r4⟩ := hrun
  unfold Oper.wp
  have hexec : (execOp a.eval o).run P w = .ok (.value v') w' := by
    simp only [execOp, ho, resolve, invoke, builtin, Sem.run_bind, Sem.run_pure, Result.andThen_ok, List.map_toArray, List.map_cons, List.map_nil, hv0, huv, r1]
  rw [hexec, Oper.upon_value, hdst]
  refine hn _ _ ?_
  -- what the new row is good for
  have hroot : rootBlk v' = v'.ownBlock := rootBlk_own r2
  have hroot0 : rootBlk v0 = v0.ownBlock := rootBlk_own hown
  have hkI : ∀ b, I b → w'.heap[b]? = w.heap[b]? := fun b hb => r3.block b (hG.hw.lt b hb) (fun e => by
    cases hbs' : bs with
    | none => rw [hnil hbs'] at e; simp [Value.ownBlock] at e
    | some q =>
      obtain ⟨id, e', sz', c'⟩ := q
      obtain ⟨g1, g2⟩ := hid _ _ _ _ hbs'
      exact hG.hw.imm id _ v0 b g1 g2 (by rw [hroot0]; exact e.symm) hb)
  have hbel : Below B w w' := ⟨r3.os, r3.tape, r3.output, r3.size, fun b hb => r3.block b (Nat.lt_of_lt_of_le hb hG.base) (fun e => by
    have := (hown.lt b e.symm).1; omega)⟩
  have hsub : ∀ id blk, lkH (lessH st.heap bs) id = some blk → lkH st.heap id = some blk ∧ (∀ id' e' sz' c', bs = some (id', e', sz', c') → id ≠ id') := by
    intro id blk h
    cases hbs' : bs with
    | none => rw [hbs'] at h; exact ⟨h, (fun _ _ _ _ h => by cases h)⟩
    | some q =>
      obtain ⟨id', e', sz', c'⟩ := q
      rw [hbs'] at h
      simp only [lessH, lkH_delH] at h
      split at h
      · cases h
      · rename_i hne
        exact ⟨h, fun i1 i2 i3 i4 h5 => by injection h5 with h5; injection h5 with h6; subst h6; exact hne⟩
  have hrootOther : ∀ id blk yv b, lkH (lessH st.heap bs) id = some blk → ρ id = some yv → rootBlk yv = some b → v0.ownBlock ≠ some b ∧ b < w.heap.size := by
    intro id blk yv b hlk hy hb
    obtain ⟨h3, h4⟩ := hsub id blk hlk
    obtain ⟨y', hy', hok⟩ := hG.hw.ok id blk h3
    rw [hy] at hy'; injection hy' with hy'; subst hy'
    refine ⟨fun hv => ?_, (hok.lt hb).2⟩
    cases hbs' : bs with
    | none => rw [hnil hbs'] at hv; simp [Value.ownBlock] at hv
    | some q =>
      obtain ⟨id', e', sz', c'⟩ := q
      obtain ⟨g1, g2⟩ := hid _ _ _ _ hbs'
      exact hG.hw.apart id' id _ _ v0 yv b (Ne.symm (h4 _ _ _ _ hbs')) g1 h3 g2 hy (by rw [hroot0]; exact hv) hb
  have hG' := hG.replace (w' := w') (H0 := (lessH st.heap bs)) (fun id blk h => (hsub id blk h).1) d v' (.row e te.sz c1)
    ⟨k + m, xs ++ news, r2, by rw [hlen, hk, Nat.add_mul], fun j u hu' => by
      have hxl : xs.length = c0.len := by rw [hown.1, hk]
      by_cases hj : j < xs.length
      · rw [List.getElem?_append_left hj] at hu'
        rw [h1 j (by omega)]
        exact (hold j u hu').same hkI
      · rw [List.getElem?_append_right (by omega)] at hu'
        have hj2 : j - xs.length < m * te.sz := by
          have := (List.getElem?_eq_some_iff.1 hu').1; omega
        have hel : (j - xs.length) / te.sz < m := Nat.div_lt_of_lt_mul (by rw [Nat.mul_comm]; exact hj2)
        have hjm : (j - xs.length) % te.sz < te.sz := Nat.mod_lt _ hpos
        have he : (j - xs.length) / te.sz * te.sz + (j - xs.length) % te.sz = j - xs.length := by rw [Nat.mul_comm]; exact Nat.div_add_mod _ te.sz
        have hc := (h2 _ _ hel hjm).1
        rw [he, ← hxl, show xs.length + (j - xs.length) = j from by omega] at hc
        rw [hc]
        have h5 := hcont _ _ hel hjm
        rw [he] at h5
        have : news.getD (j - xs.length) undef = u := by simp [List.getD_eq_getElem?_getD, hu']
        rw [this] at h5
        exact h5.same hkI⟩
    hbel hkI (fun id blk yv b _ hlk hy hb => by
      obtain ⟨g1, g2⟩ := hrootOther id blk yv b hlk hy hb
      exact r3.block b g2 (fun e => g1 e.symm))
    (fun id blk yv b _ hlk hy hb hv => by
      obtain ⟨g1, g2⟩ := hrootOther id blk yv b hlk hy hb
      rw [hroot] at hv
      rcases r4 with r4 | r4
      · rw [r4] at hv; exact g1 hv
      · rw [r4] at hv; injection hv with hv; omega)
    (fun b hb hI => by
      rw [hroot] at hb
      rcases r4 with r4 | r4
      · rw [r4] at hb
        cases hbs' : bs with
        | none => rw [hnil hbs'] at hb; simp [Value.ownBlock] at hb
        | some q =>
          obtain ⟨id, e', sz', c'⟩ := q
          obtain ⟨g1, g2⟩ := hid _ _ _ _ hbs'
          exact hG.hw.imm id _ v0 b g1 g2 (by rw [hroot0]; exact hb) hI
      · rw [r4] at hb; injection hb with hb; have := hG.hw.lt b hI; omega) (hG.old.ghn d hd)
  have hone' : oneC v' = true := by rcases r2.2 with ⟨rfl, _⟩ | ⟨g, cap, cur, rfl, _⟩ <;> rfl
  exact ⟨_, I, hG'.put (d := some d) (fun k hk => by injection hk with hk; omega) (.s d v' (updρ_self _ _ _) hone')⟩
end
end Go.Eng
